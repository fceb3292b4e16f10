/-
  Plain law of chapter 40: numbers in bytes, the head of a slot, what a slot tells, what a disk tells; the reference's way of reading a slot comes to the same. Conditions: none.
-/
import Derived.Test.YtlhdomckljhfoaaDigPlain
namespace Go.Proofs.Ytlhdomckljhfoaa

/-- Bytes as a number, the highest first. -/
def num (l : List UInt8) : UInt64 := l.foldl (fun n c => n * 256 + c.toUInt64) 0
def beN (k : Nat) (n : UInt64) : List UInt8 := (List.range k).map fun j => bt n (k - 1 - j)

theorem num_snoc (l : List UInt8) (c : UInt8) : num (l ++ [c]) = num l * 256 + c.toUInt64 := by unfold num; rw [List.foldl_append]; rfl
theorem num_take (l : List UInt8) (k : Nat) (h : k < l.length) : num (l.take (k + 1)) = num (l.take k) * 256 + l[k].toUInt64 := by
  rw [List.take_succ_eq_append_getElem h, num_snoc]
theorem beN_len (k : Nat) (n : UInt64) : (beN k n).length = k := by simp [beN]
theorem beN_at (k : Nat) (n : UInt64) (j : Nat) (h : j < k) : (beN k n)[j]? = some (bt n (k - 1 - j)) := by simp [beN, h]
theorem num_toNat (l : List UInt8) (c : UInt8) (h : (num l).toNat < 256 ^ 7) : (num (l ++ [c])).toNat = (num l).toNat * 256 + c.toNat := by
  rw [num_snoc, UInt64.toNat_add, UInt64.toNat_mul, UInt8.toNat_toUInt64]
  have h1 : (256 : UInt64).toNat = 256 := rfl
  have h2 := c.toNat_lt
  rw [h1]
  have h3 : (256 : Nat) ^ 7 = 72057594037927936 := by decide
  omega
theorem num_lt : ∀ (k : Nat) (l : List UInt8), l.length = k → k ≤ 8 → (num l).toNat < 256 ^ k := by
  intro k
  induction k with
  | zero => intro l h _; rw [List.eq_nil_of_length_eq_zero h]; decide
  | succ k ih =>
    intro l h hk
    obtain ⟨m, c, rfl⟩ : ∃ m c, l = m ++ [c] := ⟨l.dropLast, l.getLast (by rintro rfl; simp at h), (List.dropLast_concat_getLast _).symm⟩
    have hm : m.length = k := by simpa using h
    have hi := ih m hm (by omega)
    have h7 : 256 ^ k ≤ 256 ^ 7 := Nat.pow_le_pow_right (by omega) (by omega)
    rw [num_toNat m c (by omega), Nat.pow_succ]
    have := c.toNat_lt
    omega
theorem bt_zero (n : UInt64) : bt n 0 = UInt8.ofNat n.toNat := by simp [bt]
theorem bt_succ (n : UInt64) (k : Nat) : bt n (k + 1) = bt (n / 256) k := by
  unfold bt
  rw [UInt64.toNat_div, show (256 : UInt64).toNat = 256 from rfl, show 8 * (k + 1) = 8 + 8 * k from by omega, Nat.pow_add, ← Nat.div_div_eq_div_mul]
theorem beN_succ (k : Nat) (n : UInt64) : beN (k + 1) n = beN k (n / 256) ++ [UInt8.ofNat n.toNat] := by
  unfold beN
  rw [List.range_succ, List.map_append]
  congr 1
  · refine List.map_congr_left fun j hj => ?_
    have hj : j < k := by simpa using hj
    rw [show k + 1 - 1 - j = (k - 1 - j) + 1 from by omega, bt_succ]
  · simp [bt_zero]
theorem beN_num : ∀ (k : Nat) (l : List UInt8), l.length = k → k ≤ 8 → beN k (num l) = l := by
  intro k
  induction k with
  | zero => intro l h _; rw [List.eq_nil_of_length_eq_zero h]; rfl
  | succ k ih =>
    intro l h hk
    obtain ⟨m, c, rfl⟩ : ∃ m c, l = m ++ [c] := ⟨l.dropLast, l.getLast (by rintro rfl; simp at h), (List.dropLast_concat_getLast _).symm⟩
    have hm : m.length = k := by simpa using h
    have hlt := num_lt k m hm (by omega)
    have h7 : 256 ^ k ≤ 256 ^ 7 := Nat.pow_le_pow_right (by omega) (by omega)
    have hn := num_toNat m c (by omega)
    have hc := c.toNat_lt
    have e : num (m ++ [c]) / 256 = num m := by
      apply UInt64.toNat_inj.1
      rw [UInt64.toNat_div, hn, show (256 : UInt64).toNat = 256 from rfl]
      omega
    rw [beN_succ, e, ih m hm (by omega), hn]
    congr 2
    apply UInt8.toNat_inj.1
    rw [UInt8.toNat_ofNat']
    omega
theorem num_beN : ∀ (k : Nat) (n : UInt64), k ≤ 8 → n.toNat < 256 ^ k → num (beN k n) = n := by
  intro k
  induction k with
  | zero => intro n _ h; apply UInt64.toNat_inj.1; have : num (beN 0 n) = 0 := rfl; rw [this]; simp at h; rw [h]; rfl
  | succ k ih =>
    intro n hk h
    have e : (n / 256).toNat = n.toNat / 256 := by rw [UInt64.toNat_div]; rfl
    have hlt : (n / 256).toNat < 256 ^ k := by rw [e]; rw [Nat.pow_succ] at h; omega
    have hi := ih (n / 256) (by omega) hlt
    have h7 : 256 ^ k ≤ 256 ^ 7 := Nat.pow_le_pow_right (by omega) (by omega)
    rw [beN_succ]
    apply UInt64.toNat_inj.1
    rw [num_toNat _ _ (by rw [hi]; omega), hi, e, UInt8.toNat_ofNat']
    omega

/-- What the walk of the program spells: a shift and an or. -/
theorem num_or (n : UInt64) (c : UInt8) : bits .or .u64 (IntKind.u64.wrap (ui n * 256)) (bi c) = ui (n * 256 + c.toUInt64) := by
  have h1 := shl64 n 8 8 rfl (by omega)
  have e1 : ((2 ^ 8 : Nat) : Int) = 256 := by decide
  rw [e1] at h1
  have e2 : n <<< 8 ||| c.toUInt64 = n * 256 + c.toUInt64 := by
    apply UInt64.toNat_inj.1
    rw [UInt64.toNat_or, UInt64.toNat_shiftLeft, UInt64.toNat_add, UInt64.toNat_mul, UInt8.toNat_toUInt64, show (8 : UInt64).toNat % 64 = 8 from rfl, show (256 : UInt64).toNat = 256 from rfl, Nat.shiftLeft_eq]
    have hc := c.toNat_lt
    have hm : n.toNat * 2 ^ 8 % 2 ^ 64 = 2 ^ 8 * (n.toNat % 2 ^ 56) := by omega
    rw [hm, ← Nat.two_pow_add_eq_or_of_lt (by omega)]
    omega
  unfold ui bi
  rw [h1]
  have := or64 (n <<< 8) c.toUInt64
  rw [UInt8.toNat_toUInt64] at this
  rw [this, e2]
theorem num_mul (n : UInt64) (c : UInt8) : IntKind.u64.wrap (IntKind.u64.wrap (ui n * 256) + bi c) = ui (n * 256 + c.toUInt64) := by
  unfold ui bi
  rw [IntKind.wrap_u64, IntKind.wrap_u64, UInt64.toNat_add, UInt64.toNat_mul, UInt8.toNat_toUInt64, show (256 : UInt64).toNat = 256 from rfl]
  omega

/-! The head of a slot; what a slot tells. -/
def head20 (n : UInt64) (s : List UInt8) : List UInt8 := beN 8 n ++ beN 4 (UInt64.ofNat s.length) ++ beN 8 (sum s)
def neg (c : UInt8) : UInt8 := 255 - c
def headP (n : UInt64) (s : List UInt8) : List UInt8 := head20 n s ++ (head20 n s).map neg ++ List.replicate 24 0
theorem head20_len (n : UInt64) (s : List UInt8) : (head20 n s).length = 20 := by simp [head20, beN_len]
theorem headP_len (n : UInt64) (s : List UInt8) : (headP n s).length = 64 := by simp [headP, head20_len]

def slotP (b : List UInt8) : Option (UInt64 × List UInt8) :=
  if 10176 < (num ((b.drop 8).take 4)).toNat then none
  else if headP (num (b.take 8)) ((b.drop 64).take (num ((b.drop 8).take 4)).toNat) = b.take 64 then some (num (b.take 8), (b.drop 64).take (num ((b.drop 8).take 4)).toNat)
  else none

def told2 (x y : Option (UInt64 × List UInt8)) : Int × UInt64 × List UInt8 :=
  match x, y with
  | some (n, s), some (m, t) => if n < m then (1, m, t) else (0, n, s)
  | some (n, s), none => (0, n, s)
  | none, some (m, t) => (1, m, t)
  | none, none => (-1, 0, [])
def toldP (d : List UInt8) : Int × UInt64 × List UInt8 := told2 (slotP (d.take 10240)) (slotP (d.drop 10240))

/-! The reference's way: the form of a head, byte by byte. -/
def formAt (b : List UInt8) (i : Nat) : Bool :=
  !(decide (20 ≤ i) && decide (i < 40) && decide ((b.getD i 0).toNat + (b.getD (i - 20) 0).toNat ≠ 255) || decide (40 ≤ i) && decide ((b.getD i 0).toNat ≠ 0))
def formB (b : List UInt8) : Bool := (List.range 64).all fun i => formAt b i
theorem neg_toNat (c : UInt8) : (neg c).toNat = 255 - c.toNat := by
  unfold neg
  have := c.toNat_lt
  rw [UInt8.toNat_sub_of_le _ _ (by rw [UInt8.le_iff_toNat_le]; show c.toNat ≤ 255; omega)]
  rfl

theorem headP_lo (n : UInt64) (s : List UInt8) (i : Nat) (h : i < 20) : (headP n s)[i]? = (head20 n s)[i]? := by
  unfold headP
  rw [List.append_assoc, List.getElem?_append_left (by rw [head20_len]; omega)]
theorem headP_mid (n : UInt64) (s : List UInt8) (i : Nat) (h : 20 ≤ i) (h2 : i < 40) : (headP n s)[i]? = ((head20 n s)[i - 20]?).map neg := by
  unfold headP
  rw [List.append_assoc, List.getElem?_append_right (by rw [head20_len]; omega), List.getElem?_append_left (by simp [head20_len]; omega), head20_len, List.getElem?_map]
theorem headP_hi (n : UInt64) (s : List UInt8) (i : Nat) (h : 40 ≤ i) (h2 : i < 64) : (headP n s)[i]? = some 0 := by
  unfold headP
  rw [List.getElem?_append_right (by simp [head20_len]; omega), List.getElem?_replicate]
  simp [head20_len]
  omega
theorem formB_iff (b : List UInt8) (hb : b.length = 64) : formB b = true ↔ (∀ i, i < 20 → b[i + 20]? = (b[i]?).map neg) ∧ (∀ i, 40 ≤ i → i < 64 → b[i]? = some 0) := by
  have g : ∀ i, i < 64 → b[i]? = some (b.getD i 0) := fun i hi => by rw [List.getD, List.getElem?_eq_getElem (by omega)]; rfl
  unfold formB
  rw [List.all_eq_true]
  constructor
  · intro h
    refine ⟨fun i hi => ?_, fun i hi hi2 => ?_⟩
    · have := h (i + 20) (by simp; omega)
      unfold formAt at this
      rw [g _ (by omega), g _ (by omega), Option.map_some]
      congr 1
      apply UInt8.toNat_inj.1
      rw [neg_toNat]
      have e : i + 20 - 20 = i := by omega
      rw [e] at this
      simp only [Bool.not_eq_true', Bool.or_eq_false_iff, Bool.and_eq_false_iff, decide_eq_false_iff_not] at this
      omega
    · have := h i (by simp; omega)
      unfold formAt at this
      rw [g _ (by omega)]
      congr 1
      apply UInt8.toNat_inj.1
      simp only [Bool.not_eq_true', Bool.or_eq_false_iff, Bool.and_eq_false_iff, decide_eq_false_iff_not] at this
      show _ = 0
      omega
  · rintro ⟨h1, h2⟩ i hi
    have hi : i < 64 := by simpa using hi
    unfold formAt
    simp only [Bool.not_eq_true', Bool.or_eq_false_iff, Bool.and_eq_false_iff, decide_eq_false_iff_not]
    refine ⟨?_, ?_⟩
    · by_cases h20 : 20 ≤ i ∧ i < 40
      · right
        have := h1 (i - 20) (by omega)
        rw [show i - 20 + 20 = i from by omega, g _ (by omega), g _ (by omega), Option.map_some] at this
        injection this with this
        rw [this, neg_toNat]
        have := (b.getD (i - 20) 0).toNat_lt
        omega
      · left; omega
    · by_cases h40 : 40 ≤ i
      · right
        have := h2 i h40 hi
        rw [g _ hi] at this
        injection this with this
        rw [this]
        decide
      · left; exact h40

theorem take_at (b : List UInt8) (p k : Nat) (i : Nat) (h : i < k) : ((b.drop p).take k)[i]? = b[p + i]? := by
  rw [List.getElem?_take, if_pos h, List.getElem?_drop]

/-- A slot's first sector is the head of a number and a text. -/
theorem head_iff (b : List UInt8) (hb : b.length = 10240) (hn : (num ((b.drop 8).take 4)).toNat ≤ 10176) :
    headP (num (b.take 8)) ((b.drop 64).take (num ((b.drop 8).take 4)).toNat) = b.take 64 ↔
      formB (b.take 64) = true ∧ sum ((b.drop 64).take (num ((b.drop 8).take 4)).toNat) = num ((b.drop 12).take 8) := by
  have hs : ((b.drop 64).take (num ((b.drop 8).take 4)).toNat).length = (num ((b.drop 8).take 4)).toNat := by simp; omega
  have hl : (b.take 64).length = 64 := by simp; omega
  have e8 : beN 8 (num (b.take 8)) = b.take 8 := beN_num 8 _ (by simp; omega) (by omega)
  have e4 : beN 4 (num ((b.drop 8).take 4)) = (b.drop 8).take 4 := beN_num 4 _ (by simp; omega) (by omega)
  have eS : beN 8 (num ((b.drop 12).take 8)) = (b.drop 12).take 8 := beN_num 8 _ (by simp; omega) (by omega)
  generalize (b.drop 64).take (num ((b.drop 8).take 4)).toNat = t at *
  have eh : head20 (num (b.take 8)) t = b.take 8 ++ (b.drop 8).take 4 ++ beN 8 (sum t) := by
    unfold head20
    rw [hs, e8]
    congr 2
    rw [show UInt64.ofNat (num ((b.drop 8).take 4)).toNat = num ((b.drop 8).take 4) from UInt64.ofNat_toNat, e4]
  have e12 : b.take 8 ++ (b.drop 8).take 4 = b.take 12 := by
    rw [show b.take 12 = b.take (8 + 4) from rfl, List.take_add]
  rw [e12] at eh
  have h20 : b.take 20 = b.take 12 ++ (b.drop 12).take 8 := by rw [show b.take 20 = b.take (12 + 8) from rfl, List.take_add]
  rw [formB_iff _ hl]
  have tk : ∀ i, i < 64 → (b.take 64)[i]? = b[i]? := fun i hi => by rw [List.getElem?_take, if_pos hi]
  constructor
  · intro h
    have h1 : head20 (num (b.take 8)) t = b.take 20 := by
      have : (headP (num (b.take 8)) t).take 20 = (b.take 64).take 20 := by rw [h]
      rw [List.take_take, show min 20 64 = 20 from rfl] at this
      rw [← this]
      generalize num (b.take 8) = m
      unfold headP
      rw [List.append_assoc, List.take_append_of_le_length (by rw [head20_len]; omega), List.take_of_length_le (by rw [head20_len]; omega)]
    refine ⟨⟨fun i hi => ?_, fun i hi hi2 => ?_⟩, ?_⟩
    · rw [← h, headP_mid _ _ _ (by omega) (by omega), headP_lo _ _ _ hi, show i + 20 - 20 = i from by omega]
    · rw [← h, headP_hi _ _ _ hi hi2]
    · rw [eh, h20] at h1
      have h2 := List.append_cancel_left h1
      rw [← h2, num_beN 8 _ (by omega) (sum t).toNat_lt]
  · rintro ⟨⟨h1, h2⟩, h3⟩
    rw [h3, eS, ← h20] at eh
    apply List.ext_getElem?
    intro i
    by_cases hi : i < 64
    · by_cases hi20 : i < 20
      · rw [headP_lo _ _ _ hi20, eh, tk i hi, List.getElem?_take, if_pos hi20]
      · by_cases hi40 : i < 40
        · rw [headP_mid _ _ _ (by omega) hi40, eh, List.getElem?_take, if_pos (by omega)]
          have := h1 (i - 20) (by omega)
          rw [show i - 20 + 20 = i from by omega, tk _ (by omega)] at this
          rw [tk _ hi, this, tk _ (by omega)]
        · rw [headP_hi _ _ _ (by omega) hi, h2 i (by omega) hi]
    · rw [List.getElem?_eq_none (by rw [headP_len]; omega), List.getElem?_eq_none (by omega)]

theorem slotP_no1 (b : List UInt8) (h : 10176 < (num ((b.drop 8).take 4)).toNat) : slotP b = none := by unfold slotP; rw [if_pos h]
theorem slotP_no2 (b : List UInt8) (hb : b.length = 10240) (h : formB (b.take 64) = false) : slotP b = none := by
  unfold slotP
  by_cases hn : 10176 < (num ((b.drop 8).take 4)).toNat
  · rw [if_pos hn]
  · rw [if_neg hn, if_neg]
    rw [head_iff b hb (by omega), h]
    simp
theorem slotP_no3 (b : List UInt8) (hb : b.length = 10240) (h : sum ((b.drop 64).take (num ((b.drop 8).take 4)).toNat) ≠ num ((b.drop 12).take 8)) : slotP b = none := by
  unfold slotP
  by_cases hn : 10176 < (num ((b.drop 8).take 4)).toNat
  · rw [if_pos hn]
  · rw [if_neg hn, if_neg]
    rw [head_iff b hb (by omega)]
    exact fun e => h e.2
theorem slotP_yes (b : List UInt8) (hb : b.length = 10240) (hn : (num ((b.drop 8).take 4)).toNat ≤ 10176) (h1 : formB (b.take 64) = true) (h : sum ((b.drop 64).take (num ((b.drop 8).take 4)).toNat) = num ((b.drop 12).take 8)) :
    slotP b = some (num (b.take 8), (b.drop 64).take (num ((b.drop 8).take 4)).toNat) := by
  unfold slotP
  rw [if_neg (by omega), if_pos ((head_iff b hb hn).2 ⟨h1, h⟩)]
end Go.Proofs.Ytlhdomckljhfoaa
