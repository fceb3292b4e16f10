/-
  Plain law of chapter 2's Parse: the program's reading is the reference's. Conditions: none.
-/
import Derived.Test.YtabcpbmnemfnbaaDoorVPlain
import Derived.Test.YtabcpbmnemfnbaaDoorIdLaws
namespace Go.Proofs.YtabcpbmnemfnbaaDoor

theorem valL_snoc (m : List UInt8) (c : UInt8) : valL (m ++ [c]) = 10 * valL m + (c.toNat - 48) := by
  unfold valL; rw [List.foldl_append]; rfl
theorem dec_val (n : Nat) : ∀ l : List UInt8, l.length = n → 1 ≤ l.length → l.all digB = true → (l.length = 1 ∨ l.getD 0 0 ≠ 48) → Lib.decDigits (valL l) = l := by
  induction n with
  | zero => intro l h h1; omega
  | succ n ih =>
    intro l hl h1 hd h0
    obtain ⟨m, c, rfl⟩ : ∃ m c, l = m ++ [c] := ⟨l.dropLast, l.getLast (by intro e; rw [e] at h1; simp at h1), (List.dropLast_concat_getLast _).symm⟩
    rw [List.all_append, Bool.and_eq_true] at hd
    have hc : digB c = true := by simpa using hd.2
    have hcd := (dig_iff c).1 hc
    rw [valL_snoc]
    by_cases hm : m = []
    · subst hm
      rw [dec_one _ (by simp [valL]; omega)]
      have : UInt8.ofNat (48 + (10 * valL [] + (c.toNat - 48))) = c := by
        apply UInt8.toNat_inj.1
        rw [show 48 + (10 * valL [] + (c.toNat - 48)) = c.toNat from by simp [valL]; omega]
        simp
      rw [this]
      rfl
    · have hm1 : 1 ≤ m.length := List.length_pos_iff.2 hm
      have hg : (m ++ [c]).getD 0 0 = m.getD 0 0 := getD_left m [c] 0 (by omega)
      have h48 : m.getD 0 0 ≠ 48 := by
        rcases h0 with h0 | h0
        · simp at h0; exact absurd h0 hm
        · rwa [hg] at h0
      have ihm := ih m (by simp at hl; omega) hm1 hd.1 (Or.inr h48)
      have hpos := valL_ge m hd.1 h48 (m.length - 1) (by omega)
      rw [show m.length - 1 + 1 = m.length from by omega, List.take_length] at hpos
      have hp1 : 1 ≤ valL m := Nat.le_trans (Nat.pow_pos (by omega)) hpos
      rw [dec_snoc _ (by omega), show (10 * valL m + (c.toNat - 48)) / 10 = valL m from by omega, ihm, show (10 * valL m + (c.toNat - 48)) % 10 = c.toNat - 48 from by omega]
      congr 2
      apply UInt8.toNat_inj.1
      rw [show 48 + (c.toNat - 48) = c.toNat from by omega]
      simp
theorem itoa_num {a : List UInt8} (h : (numB a).2 = true) : Lib.itoa ((numB a).1 : Int) = a := by
  unfold numB at *
  split at h
  · rename_i hk
    rw [if_pos hk]
    unfold numOk at hk
    simp only [Bool.and_eq_true, decide_eq_true_eq, Bool.not_eq_true'] at hk
    obtain ⟨⟨⟨h1, h2⟩, h3⟩, h4⟩ := hk
    show Lib.itoa ((valL a : Nat) : Int) = a
    unfold Lib.itoa
    rw [if_neg (by omega)]
    refine dec_val a.length a rfl h1 h4 ?_
    by_cases e : a.length = 1
    · exact Or.inl e
    · refine Or.inr fun e2 => ?_
      rw [e2] at h3
      simp at h3
      omega
  · cases h
/-- Three numbers' texts, points between. -/
theorem nums_three {s : List UInt8} {a b c : List UInt8} (h : splitL s 46 = [a, b, c]) (ha : (numB a).2 = true) (hb : (numB b).2 = true) (hc : (numB c).2 = true) (p q : List UInt8) :
    numsV ⟨(numB a).1, (numB b).1, (numB c).1, p, q⟩ = s := by
  have hj := split_join s 46
  rw [h] at hj
  unfold numsV
  show Lib.itoa ((numB a).1 : Int) ++ 46 :: (Lib.itoa ((numB b).1 : Int) ++ 46 :: Lib.itoa ((numB c).1 : Int)) = s
  rw [itoa_num ha, itoa_num hb, itoa_num hc, ← hj]
  simp [joinL]
theorem from_head (l : List UInt8) (c : UInt8) : fromL l c = [] ∨ ∃ t, fromL l c = c :: t := by
  unfold fromL
  induction l with
  | nil => exact Or.inl rfl
  | cons x l ih =>
    rw [List.dropWhile_cons]
    by_cases h : x = c
    · subst h
      exact Or.inr ⟨l, by simp⟩
    · rw [if_pos (by simpa using h)]
      exact ih
theorem seg_good {P : List UInt8} {c : UInt8} (h : P = [] ∨ ∃ t, P = c :: t) (h1 : P.length ≠ 1) : segB c P.tail = P := by
  rcases h with rfl | ⟨t, rfl⟩
  · rfl
  · unfold segB
    rw [List.tail_cons, if_neg]
    intro e
    subst e
    exact h1 rfl
theorem seg_bad {P : List UInt8} {c : UInt8} (h1 : P.length = 1) : segB c P.tail = [] := by
  match P, h1 with
  | [x], _ => rfl
theorem whole_from (s : List UInt8) (c : UInt8) : aheadL s c ++ fromL s c = s := List.takeWhile_append_dropWhile
/-- The text of a version that was read is the text, just if no lone mark stands in it. -/
theorem print_back {s : List UInt8} {v : Ver} (hm : mayV v = true) (hn : numsV v = aheadL (aheadL s 43) 45) (hp : v.pre = (fromL (aheadL s 43) 45).tail) (hb : v.build = (fromL s 43).tail) :
    printV v = s ↔ (fromL (aheadL s 43) 45).length ≠ 1 ∧ (fromL s 43).length ≠ 1 := by
  have e1 := whole_from s 43
  have e2 := whole_from (aheadL s 43) 45
  have g1 := from_head (aheadL s 43) 45
  have g2 := from_head s 43
  unfold printV
  rw [if_pos hm, hn, hp, hb]
  generalize aheadL (aheadL s 43) 45 = N at *
  generalize fromL (aheadL s 43) 45 = P at *
  generalize fromL s 43 = B at *
  rw [← e2] at e1
  constructor
  · intro h
    rw [← e1] at h
    have hl := congrArg List.length h
    rw [List.length_append, List.length_append, List.length_append, List.length_append] at hl
    have hP : (segB 45 P.tail).length ≤ P.length := by
      by_cases x : P.length = 1
      · rw [seg_bad x]; simp
      · rw [seg_good g1 x]; exact Nat.le_refl _
    have hB : (segB 43 B.tail).length ≤ B.length := by
      by_cases x : B.length = 1
      · rw [seg_bad x]; simp
      · rw [seg_good g2 x]; exact Nat.le_refl _
    refine ⟨fun x => ?_, fun x => ?_⟩
    · rw [seg_bad x] at hl; simp at hl; omega
    · rw [seg_bad x] at hl; simp at hl; omega
  · rintro ⟨h1, h2⟩
    rw [seg_good g1 h1, seg_good g2 h2]
    exact e1
end Go.Proofs.YtabcpbmnemfnbaaDoor
