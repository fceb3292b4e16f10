/-
  Plain laws of chapter 1: a number is read back from its digits; names joined by a dash. Conditions: none.
-/
import Derived.Test.YthaagngoefieaaaDoorIdNumFacts
import Derived.Lib.ItoaNum
namespace Go.Proofs.YthaagngoefieaaaDoor

theorem dec_snoc (m : Nat) (h : ¬ m < 10) : Lib.decDigits m = Lib.decDigits (m / 10) ++ [UInt8.ofNat (48 + m % 10)] := by
  rw [Lib.decDigits, dif_neg h]
theorem dec_one (m : Nat) (h : m < 10) : Lib.decDigits m = [UInt8.ofNat (48 + m)] := by
  rw [Lib.decDigits, dif_pos h]
theorem dig_of_nat (d : Nat) (h : d < 10) : (UInt8.ofNat (48 + d)).toNat = 48 + d := by
  rw [UInt8.toNat_ofNat']; omega
theorem dec_all (k : Nat) : ∀ m, m ≤ k → (Lib.decDigits m).all digB = true ∧ valL (Lib.decDigits m) = m ∧ 1 ≤ (Lib.decDigits m).length ∧ ((Lib.decDigits m).length = 1 ∨ ((Lib.decDigits m).getD 0 0).toNat ≠ 48) ∧ (1 ≤ m → ((Lib.decDigits m).getD 0 0).toNat ≠ 48) := by
  induction k with
  | zero =>
    intro m hm
    obtain rfl : m = 0 := by omega
    rw [dec_one 0 (by omega)]
    decide
  | succ k ih =>
    intro m hm
    by_cases h : m < 10
    · rw [dec_one m h]
      have hd := dig_of_nat m h
      refine ⟨?_, ?_, by simp, by simp, fun h1 => ?_⟩
      · have hq := (dig_iff (UInt8.ofNat (48 + m))).2 ⟨by omega, by omega⟩
        rw [List.all_cons, hq]
        rfl
      · simp [valL]
        omega
      · simp
        omega
    · obtain ⟨h1, h2, h3, h4, h5⟩ := ih (m / 10) (by omega)
      have hd := dig_of_nat (m % 10) (by omega)
      rw [dec_snoc m h]
      have hg : ((Lib.decDigits (m / 10) ++ [UInt8.ofNat (48 + m % 10)]).getD 0 0) = (Lib.decDigits (m / 10)).getD 0 0 := by
        rw [List.getD, List.getD, List.getElem?_append_left (by omega)]
      refine ⟨?_, ?_, by simp, Or.inr ?_, fun _ => ?_⟩
      · rw [List.all_append, h1]
        have hq := (dig_iff (UInt8.ofNat (48 + m % 10))).2 ⟨by omega, by omega⟩
        rw [List.all_cons, hq]
        rfl
      · have := valL_take (Lib.decDigits (m / 10) ++ [UInt8.ofNat (48 + m % 10)]) (Lib.decDigits (m / 10)).length (UInt8.ofNat (48 + m % 10)) (by simp)
        rw [List.take_of_length_le (by simp), List.take_left, h2, hd] at this
        rw [this]
        omega
      · rw [hg]; exact h5 (by omega)
      · rw [hg]; exact h5 (by omega)
theorem num_itoa (n : Int) : numB (Lib.itoa n) = if 0 ≤ n ∧ n ≤ 9999 then (n.toNat, true) else (0, false) := by
  unfold Lib.itoa
  by_cases hn : n < 0
  · rw [if_pos hn, if_neg (by omega)]
    refine num_no (Or.inr (Or.inr (Or.inr ?_)))
    rfl
  · rw [if_neg hn]
    obtain ⟨h1, h2, h3, h4, h5⟩ := dec_all n.toNat n.toNat (Nat.le_refl _)
    by_cases hb : n ≤ 9999
    · rw [if_pos ⟨by omega, hb⟩]
      have hlen : (Lib.decDigits n.toNat).length ≤ 4 := by
        by_cases hl : (Lib.decDigits n.toNat).length ≤ 4
        · exact hl
        · have h6 : ((Lib.decDigits n.toNat).getD 0 0).toNat ≠ 48 := by
            rcases h4 with h4 | h4
            · omega
            · exact h4
          have := valL_ge _ h1 (fun e => h6 (by rw [e]; rfl)) ((Lib.decDigits n.toNat).length - 1) (by omega)
          rw [show (Lib.decDigits n.toNat).length - 1 + 1 = (Lib.decDigits n.toNat).length from by omega, List.take_length, h2] at this
          have h7 : 10 ^ 4 ≤ 10 ^ ((Lib.decDigits n.toNat).length - 1) := Nat.pow_le_pow_right (by omega) (by omega)
          omega
      rw [num_yes h3 hlen h4 h1, h2]
    · rw [if_neg (by omega)]
      refine num_no (Or.inr (Or.inl ?_))
      have := valL_lt _ h1 (Lib.decDigits n.toNat).length (Nat.le_refl _)
      rw [List.take_length, h2] at this
      by_cases hl : 4 < (Lib.decDigits n.toNat).length
      · exact hl
      · have h7 : 10 ^ (Lib.decDigits n.toNat).length ≤ 10 ^ 4 := Nat.pow_le_pow_right (by omega) (by omega)
        omega

/-! Names joined. -/
theorem nameTo_iff (l : List UInt8) (n : Nat) : nameTo l n = true ↔ ∀ k, 0 < k → k < n → nameOk (l.getD (k - 1) 0) (l.getD k 0) = true := by
  induction n with
  | zero => exact ⟨fun _ k _ hk => absurd hk (by omega), fun _ => rfl⟩
  | succ n ih =>
    rw [nameTo, Bool.and_eq_true, ih, Bool.or_eq_true, beq_iff_eq]
    constructor
    · rintro ⟨h1, h2⟩ k hk0 hk
      by_cases e : k = n
      · subst e
        rcases h2 with h2 | h2
        · omega
        · exact h2
      · exact h1 k hk0 (by omega)
    · intro h
      refine ⟨fun k hk0 hk => h k hk0 (by omega), ?_⟩
      by_cases e : n = 0
      · exact Or.inl e
      · exact Or.inr (h n (by omega) (by omega))
theorem nameB_iff (l : List UInt8) : nameB l = true ↔ 1 ≤ l.length ∧ l.length ≤ 16 ∧ lowB (l.getD 0 0) = true ∧ l.getD (l.length - 1) 0 ≠ 45 ∧ ∀ k, 0 < k → k < l.length → nameOk (l.getD (k - 1) 0) (l.getD k 0) = true := by
  unfold nameB
  rw [Bool.and_eq_true, Bool.and_eq_true, Bool.and_eq_true, Bool.and_eq_true, nameTo_iff]
  simp [and_assoc]
theorem getD_left (a b : List UInt8) (k : Nat) (h : k < a.length) : (a ++ b).getD k 0 = a.getD k 0 := by
  rw [List.getD, List.getD, List.getElem?_append_left h]
theorem getD_right (a b : List UInt8) (k : Nat) (h : a.length ≤ k) : (a ++ b).getD k 0 = b.getD (k - a.length) 0 := by
  rw [List.getD, List.getD, List.getElem?_append_right h]
theorem low_ne45 {c : UInt8} (h : lowB c = true) : c ≠ 45 := by
  intro e; subst e; exact absurd h (by decide)
theorem join_one (a b : List UInt8) (ha : nameB a = true) (hb : nameB b = true) : nameB (a ++ 45 :: b) = decide (a.length + b.length + 1 ≤ 16) := by
  obtain ⟨a1, a2, a3, a4, a5⟩ := (nameB_iff a).1 ha
  obtain ⟨b1, b2, b3, b4, b5⟩ := (nameB_iff b).1 hb
  have hl : (a ++ 45 :: b).length = a.length + b.length + 1 := by simp; omega
  rw [Bool.eq_iff_iff, decide_eq_true_iff, nameB_iff, hl]
  constructor
  · exact fun h => h.2.1
  · intro h
    refine ⟨by omega, h, by rw [getD_left a _ 0 (by omega)]; exact a3, ?_, ?_⟩
    · rw [getD_right a _ _ (by omega), show a.length + b.length + 1 - 1 - a.length = (b.length - 1) + 1 from by omega]
      exact b4
    · intro k hk0 hk
      by_cases h1 : k < a.length
      · rw [getD_left a _ k h1, getD_left a _ (k - 1) (by omega)]
        exact a5 k hk0 h1
      · rw [getD_right a _ k (by omega)]
        by_cases h2 : k = a.length
        · subst h2
          rw [getD_left a _ _ (by omega), Nat.sub_self]
          show nameOk (a.getD (a.length - 1) 0) 45 = true
          unfold nameOk
          rw [beq_eq_false_iff_ne.2 a4]
          rfl
        · rw [getD_right a _ (k - 1) (by omega)]
          obtain ⟨j, rfl⟩ : ∃ j, k = a.length + 1 + j := ⟨k - a.length - 1, by omega⟩
          rw [show a.length + 1 + j - a.length = j + 1 from by omega, show a.length + 1 + j - 1 - a.length = j from by omega]
          show nameOk ((45 :: b).getD j 0) (b.getD j 0) = true
          by_cases hj : j = 0
          · subst hj
            show nameOk 45 (b.getD 0 0) = true
            unfold nameOk
            rw [b3, beq_eq_false_iff_ne.2 (low_ne45 b3)]
            rfl
          · obtain ⟨i, rfl⟩ : ∃ i, j = i + 1 := ⟨j - 1, by omega⟩
            exact b5 (i + 1) (by omega) (by omega)
theorem join_two (a b : List UInt8) (ha : 0 < a.length) : nameB (a ++ 45 :: 45 :: b) = false := by
  rw [Bool.eq_false_iff]
  intro h
  obtain ⟨_, _, _, _, h5⟩ := (nameB_iff _).1 h
  have := h5 (a.length + 1) (by omega) (by simp)
  rw [getD_right a _ _ (by omega), getD_right a _ _ (by omega), Nat.add_sub_cancel, Nat.sub_self, show a.length + 1 - a.length = 1 from by omega] at this
  have h45 : nameOk 45 45 = true := this
  exact absurd h45 (by decide)
theorem join_end (a : List UInt8) : nameB (a ++ [45]) = false := by
  rw [Bool.eq_false_iff]
  intro h
  obtain ⟨_, _, _, h4, _⟩ := (nameB_iff _).1 h
  apply h4
  rw [List.length_append, List.length_singleton, getD_right a _ _ (by omega), Nat.add_sub_cancel, Nat.sub_self]
  rfl
end Go.Proofs.YthaagngoefieaaaDoor
