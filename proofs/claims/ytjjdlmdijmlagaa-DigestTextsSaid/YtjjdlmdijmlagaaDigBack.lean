/-
  Plain law of chapter 9's texts: what Text writes Read reads, and what Read reads Text writes again. Conditions: none.
-/
import Derived.Test.YtjjdlmdijmlagaaDigText
namespace Go.Proofs.Ytjjdlmdijmlagaa

def tb (n : UInt64) : List UInt8 := (List.range 16).map fun j => UInt8.ofNat (hexN (n.toNat / 16 ^ (15 - j) % 16))
theorem tb_len (n : UInt64) : (tb n).length = 16 := by simp [tb]
theorem tb_at (n : UInt64) (k : Nat) (hk : k < 16) : (tb n)[k]? = some (UInt8.ofNat (hexN (n.toNat / 16 ^ (15 - k) % 16))) := by simp [tb, hk]
theorem tb_data (n : UInt64) : (strOfNums (textOf n)).data.toList = tb n := by
  rw [strOfNums_data]
  unfold textOf tb
  rw [List.map_map]
  refine List.map_congr_left fun j _ => ?_
  show UInt8.ofNat (dig n j).toNat = _
  unfold dig hexI
  rw [Int.toNat_natCast]

theorem hexV_of (d : Nat) (hd : d < 16) : hexV (UInt8.ofNat (hexN d)) = some (UInt8.ofNat d).toUInt64 := by
  rcases (by omega : d = 0 ∨ d = 1 ∨ d = 2 ∨ d = 3 ∨ d = 4 ∨ d = 5 ∨ d = 6 ∨ d = 7 ∨ d = 8 ∨ d = 9 ∨ d = 10 ∨ d = 11 ∨ d = 12 ∨ d = 13 ∨ d = 14 ∨ d = 15) with e | e | e | e | e | e | e | e | e | e | e | e | e | e | e | e <;> subst e <;> decide +kernel
/-- A byte that is a digit is the digit of its value. -/
theorem hexV_inv {c : UInt8} {x : UInt64} (h : hexV c = some x) : ∃ d : Nat, d < 16 ∧ x = (UInt8.ofNat d).toUInt64 ∧ c = UInt8.ofNat (hexN d) := by
  by_cases h1 : 48 ≤ c.toNat ∧ c.toNat ≤ 57
  · have hv := (dig_lo h1.1 h1.2).1
    rw [hv] at h
    refine ⟨c.toNat - 48, by omega, ?_, ?_⟩
    · injection h with h
      rw [← h]
      congr 1
      apply UInt8.toNat_inj.1
      rw [UInt8.toNat_sub_of_le _ _ (by rw [UInt8.le_iff_toNat_le]; exact h1.1), UInt8.toNat_ofNat']
      have : (48 : UInt8).toNat = 48 := rfl
      omega
    · apply UInt8.toNat_inj.1
      unfold hexN
      rw [UInt8.toNat_ofNat', if_pos (by omega)]
      have := c.toNat_lt
      omega
  · by_cases h2 : 97 ≤ c.toNat ∧ c.toNat ≤ 102
    · have hv := (dig_hi h2.1 h2.2).1
      rw [hv] at h
      refine ⟨c.toNat - 87, by omega, ?_, ?_⟩
      · injection h with h
        rw [← h]
        congr 1
        apply UInt8.toNat_inj.1
        have e1 : (c - 97).toNat = c.toNat - 97 := by
          rw [UInt8.toNat_sub_of_le _ _ (by rw [UInt8.le_iff_toNat_le]; exact h2.1)]
          rfl
        rw [UInt8.toNat_add, e1, UInt8.toNat_ofNat']
        have : (10 : UInt8).toNat = 10 := rfl
        omega
      · apply UInt8.toNat_inj.1
        unfold hexN
        rw [UInt8.toNat_ofNat', if_neg (by omega)]
        omega
    · rw [dig_no h1 h2] at h
      cases h

theorem or_nat (x : UInt64) (d : Nat) (hx : x.toNat < 1152921504606846976) (hd : d < 16) : (x <<< 4 ||| (UInt8.ofNat d).toUInt64).toNat = x.toNat * 16 + d := by
  rw [UInt64.toNat_or, UInt64.toNat_shiftLeft, UInt8.toNat_toUInt64, UInt8.toNat_ofNat']
  have e4 : (4 : UInt64).toNat % 64 = 4 := rfl
  rw [e4, Nat.shiftLeft_eq, Nat.mod_eq_of_lt (by omega), Nat.mod_eq_of_lt (by omega)]
  exact nat_join 4 _ _ (by omega) (by omega)

theorem read_tb (n : UInt64) (k : Nat) (hk : k ≤ 16) : ∃ x, readL ((tb n).take k) = some x ∧ x.toNat = n.toNat / 16 ^ (16 - k) := by
  induction k with
  | zero =>
    refine ⟨0, rfl, ?_⟩
    have := n.toNat_lt
    rw [Nat.div_eq_of_lt (by simpa using this)]
    rfl
  | succ k ih =>
    obtain ⟨x, hx, hxn⟩ := ih (by omega)
    have hd : n.toNat / 16 ^ (15 - k) % 16 < 16 := Nat.mod_lt _ (by omega)
    refine ⟨x <<< 4 ||| (UInt8.ofNat (n.toNat / 16 ^ (15 - k) % 16)).toUInt64, ?_, ?_⟩
    · rw [readL_snoc _ k _ x (tb_at n k (by omega)) hx, readStep, hexV_of _ hd]
      rfl
    · have hp : n.toNat / 16 ^ (16 - k) = n.toNat / 16 ^ (15 - k) / 16 := by
        rw [Nat.div_div_eq_div_mul, ← Nat.pow_succ, show (15 - k).succ = 16 - k from by omega]
      have hxl : x.toNat < 1152921504606846976 := by
        rw [hxn]
        have h1 : n.toNat / 16 ^ (16 - k) ≤ n.toNat / 16 ^ 1 := Nat.div_le_div_left (Nat.pow_le_pow_right (by omega) (by omega)) (by omega)
        have := n.toNat_lt
        omega
      rw [or_nat x _ hxl hd, hxn, hp, show 16 - (k + 1) = 15 - k from by omega]
      omega
theorem readB_tb (n : UInt64) : readB (tb n) = (n, true) := by
  obtain ⟨x, hx, hxn⟩ := read_tb n 16 (by omega)
  rw [List.take_of_length_le (by rw [tb_len]; omega)] at hx
  unfold readB
  rw [if_pos (tb_len n), hx]
  have : x = n := UInt64.toNat_inj.1 (by simpa using hxn)
  rw [this]

theorem read_inv (l : List UInt8) (k : Nat) (hk : k ≤ 16) (hkl : k ≤ l.length) : ∀ x, readL (l.take k) = some x → x.toNat < 16 ^ k ∧ ∀ j, j < k → l[j]? = some (UInt8.ofNat (hexN (x.toNat / 16 ^ (k - 1 - j) % 16))) := by
  induction k with
  | zero =>
    intro x hx
    have : x = 0 := by
      have h0 : readL (l.take 0) = some 0 := rfl
      rw [h0] at hx
      injection hx with hx
      exact hx.symm
    subst this
    exact ⟨by decide, fun j hj => absurd hj (by omega)⟩
  | succ k ih =>
    intro y hy
    have hlt : k < l.length := by omega
    cases hx : readL (l.take k) with
    | none =>
      unfold readL at hx hy
      rw [List.take_succ_eq_append_getElem hlt, List.foldlM_append, hx] at hy
      cases hy
    | some x =>
      obtain ⟨h1, h2⟩ := ih (by omega) (by omega) x hx
      rw [readL_snoc l k l[k] x (List.getElem?_eq_getElem hlt) hx] at hy
      unfold readStep at hy
      cases hv : hexV l[k] with
      | none => rw [hv] at hy; cases hy
      | some z =>
        rw [hv] at hy
        obtain ⟨d, hd, rfl, hc⟩ := hexV_inv hv
        injection hy with hy
        have hy : x <<< 4 ||| (UInt8.ofNat d).toUInt64 = y := hy
        have hxl : x.toNat < 1152921504606846976 := by
          have : 16 ^ k ≤ 16 ^ 15 := Nat.pow_le_pow_right (by omega) (by omega)
          omega
        have hyn := or_nat x d hxl hd
        rw [hy] at hyn
        refine ⟨by rw [hyn, Nat.pow_succ]; omega, fun j hj => ?_⟩
        by_cases hjk : j = k
        · subst hjk
          rw [List.getElem?_eq_getElem hlt, hc, hyn, show j + 1 - 1 - j = 0 from by omega, Nat.pow_zero, Nat.div_one, show (x.toNat * 16 + d) % 16 = d from by omega]
        · have e16 : (x.toNat * 16 + d) / 16 ^ (k - 1 - j + 1) = x.toNat / 16 ^ (k - 1 - j) := by
            rw [Nat.pow_succ, Nat.mul_comm (16 ^ (k - 1 - j)) 16, ← Nat.div_div_eq_div_mul]
            congr 1
            omega
          rw [h2 j (by omega), hyn, show k + 1 - 1 - j = (k - 1 - j) + 1 from by omega, e16]
theorem tb_read (l : List UInt8) (x : UInt64) (h : readB l = (x, true)) : tb x = l := by
  unfold readB at h
  by_cases hl : l.length = 16
  · rw [if_pos hl] at h
    cases hx : readL l with
    | none => rw [hx] at h; simp at h
    | some y =>
      rw [hx] at h
      simp at h
      subst h
      have := read_inv l 16 (by omega) (by omega) y (by rw [List.take_of_length_le (by omega)]; exact hx)
      apply List.ext_getElem?
      intro j
      by_cases hj : j < 16
      · rw [tb_at y j hj, this.2 j hj]
      · rw [List.getElem?_eq_none (by rw [tb_len]; omega), List.getElem?_eq_none (by omega)]
  · rw [if_neg hl] at h
    simp at h
theorem text_read (s : ByteArray) (x : UInt64) (h : readB s.data.toList = (x, true)) : strOfNums (textOf x) = s := by
  apply ByteArray.ext
  apply Array.toList_inj.1
  rw [tb_data, tb_read _ _ h]
theorem text_size (n : UInt64) : (strOfNums (textOf n)).size = 16 := by rw [strOfNums_size]; simp [textOf]
theorem read_text (n : UInt64) : readB (strOfNums (textOf n)).data.toList = (n, true) := by rw [tb_data, readB_tb]
end Go.Proofs.Ytjjdlmdijmlagaa
