/-
  Plain law of chapter 40: what a whole Save makes of a disk, what is told then, and what becomes of it where a byte is turned. Conditions: the bytes are a disk's, the text fits.
-/
import Derived.Test.YtlhdomckljhfoaaDkPut
namespace Go.Proofs.Ytlhdomckljhfoaa

theorem chunks_at (a : Nat) (s : List UInt8) (K k : Nat) (h : k < K) : (chunks a s K)[k]? = some (chunk a s k) := by simp [chunks, h]
theorem pad64_getD (s : List UInt8) (k j : Nat) (h : j < 64) : (pad64 ((s.drop (64 * k)).take 64)).getD j 0 = s.getD (64 * k + j) 0 := by
  unfold pad64
  by_cases h1 : 64 * k + j < s.length
  · rw [List.getD, List.getElem?_append_left (by simp; omega), List.getElem?_take, if_pos h, List.getElem?_drop, List.getD]
  · rw [List.getD, List.getElem?_append_right (by simp; omega), List.getElem?_replicate, List.getD, List.getElem?_eq_none (by omega)]
    split <;> rfl
theorem pad64_len' (s : List UInt8) (k : Nat) : (pad64 ((s.drop (64 * k)).take 64)).length = 64 := by unfold pad64; simp; omega

/-- The bytes behind the first k sectors of a Save. -/
theorem chunks_done (d s : List UInt8) (hd : d.length = 20480) (fr : Nat) (hfr : fr = 0 ∨ fr = 160) (hs : s.length ≤ 8192) (x : Int × List UInt8) (W t : Nat) (hW : secN s.length ≤ W) :
    ∀ k, k ≤ secN s.length → ∀ i, i < 20480 → (doTo d (chunks fr s (secN s.length) ++ [x]) W t k)[i]? = if fr * 64 + 64 ≤ i ∧ i < fr * 64 + 64 + 64 * k then some (s.getD (i - (fr * 64 + 64)) 0) else d[i]? := by
  intro k
  induction k with
  | zero => intro _ i hi; rw [if_neg (by omega)]; rfl
  | succ k ih =>
    intro hk i hi
    have hK : secN s.length ≤ 128 := by unfold secN; omega
    have hx : (chunks fr s (secN s.length) ++ [x])[k]? = some (chunk fr s k) := by
      rw [List.getElem?_append_left (by rw [chunks_len]; omega), chunks_at _ _ _ _ (by omega)]
    have hst : doTo d (chunks fr s (secN s.length) ++ [x]) W t (k + 1) = putP (doTo d (chunks fr s (secN s.length) ++ [x]) W t k) (chunk fr s k).1 (chunk fr s k).2 := by
      rw [doTo, hx]
      show putP _ _ (if k = W then _ else _) = _
      rw [if_neg (by omega)]
    have hl := (doTo_len d (chunks fr s (secN s.length) ++ [x]) W t k).trans hd
    rw [hst]
    show (putP _ (((fr + 1 + k : Nat) : Int)) (pad64 ((s.drop (64 * k)).take 64)))[i]? = _
    unfold putP
    rw [if_pos (by rw [hl]; omega)]
    have hp := pad64_len' s k
    rw [List.take_of_length_le (by omega), over_at _ _ _ _ (by rw [hl]; exact hi), hp]
    have e : (((fr + 1 + k : Nat) : Int)).toNat * 64 = fr * 64 + 64 + 64 * k := by omega
    rw [e]
    by_cases h1 : fr * 64 + 64 + 64 * k ≤ i ∧ i < fr * 64 + 64 + 64 * k + 64
    · rw [if_pos h1, if_pos (by omega), pad64_getD s k _ (by omega)]
      congr 2
      omega
    · rw [if_neg h1, List.getD, ih (by omega) i hi]
      by_cases h2 : fr * 64 + 64 ≤ i ∧ i < fr * 64 + 64 + 64 * k
      · rw [if_pos h2, if_pos (by omega)]; rfl
      · rw [if_neg h2, if_neg (by omega), List.getElem?_eq_getElem (by omega)]; rfl
def savesN (fr : Nat) (n : UInt64) (s : List UInt8) : List (Int × List UInt8) := chunks fr s (secN s.length) ++ [((fr : Int), headP n s)]
theorem savesN_len (fr : Nat) (n : UInt64) (s : List UInt8) : (savesN fr n s).length = secN s.length + 1 := by simp [savesN, chunks_len]
/-- The bytes behind a Save of which the head has been written as far as t bytes (a whole one: W beyond it). -/
theorem saved_at (d s : List UInt8) (hd : d.length = 20480) (fr : Nat) (hfr : fr = 0 ∨ fr = 160) (hs : s.length ≤ 8192) (n : UInt64) (W t : Nat) (hW : secN s.length ≤ W) (t' : Nat) (ht' : t' = if secN s.length = W then min t 64 else 64) (i : Nat) (hi : i < 20480) :
    (doTo d (savesN fr n s) W t (secN s.length + 1))[i]? =
      if fr * 64 ≤ i ∧ i < fr * 64 + t' then (headP n s)[i - fr * 64]? else if fr * 64 + 64 ≤ i ∧ i < fr * 64 + 64 + 64 * secN s.length then some (s.getD (i - (fr * 64 + 64)) 0) else d[i]? := by
  have hx : (savesN fr n s)[secN s.length]? = some ((fr : Int), headP n s) := by
    unfold savesN
    rw [List.getElem?_append_right (by rw [chunks_len]; omega), chunks_len, Nat.sub_self]; rfl
  have hc := chunks_done d s hd fr hfr hs ((fr : Int), headP n s) W t hW (secN s.length) (Nat.le_refl _) i hi
  have hl := (doTo_len d (savesN fr n s) W t (secN s.length)).trans hd
  change (doTo d (savesN fr n s) W t (secN s.length))[i]? = _ at hc
  rw [doTo, hx]
  show (putP _ (fr : Int) (if secN s.length = W then (headP n s).take t else headP n s))[i]? = _
  have hh := headP_len n s
  have hy : (if secN s.length = W then (headP n s).take t else headP n s) = (headP n s).take t' := by
    rw [ht']
    split
    · by_cases h : t ≤ 64
      · rw [show min t 64 = t from by omega]
      · rw [show min t 64 = 64 from by omega, List.take_of_length_le (by omega), List.take_of_length_le (by omega)]
    · rw [List.take_of_length_le (by omega)]
  have ht64 : t' ≤ 64 := by rw [ht']; split <;> omega
  rw [hy]
  unfold putP
  rw [if_pos (by rw [hl]; omega), List.take_of_length_le (by simp; omega), over_at _ _ _ _ (by rw [hl]; exact hi)]
  have e : ((fr : Int)).toNat * 64 = fr * 64 := by omega
  rw [e]
  have hlt : ((headP n s).take t').length = t' := by simp [hh]; omega
  rw [hlt]
  by_cases h1 : fr * 64 ≤ i ∧ i < fr * 64 + t'
  · rw [if_pos h1, if_pos h1, List.getD, List.getElem?_take, if_pos (by omega), List.getElem?_eq_getElem (by omega)]; rfl
  · rw [if_neg h1, if_neg h1, List.getD, List.getElem?_eq_getElem (by rw [hl]; exact hi)]
    rw [← hc, List.getElem?_eq_getElem (by rw [hl]; exact hi)]; rfl

/-- What a slot tells whose first bytes are a head and a text. -/
theorem slotP_of (b : List UInt8) (n : UInt64) (s : List UInt8) (hs : s.length ≤ 8192) (h1 : b.take 64 = headP n s) (h2 : (b.drop 64).take s.length = s) : slotP b = some (n, s) := by
  have hh : ∀ a k, a + k ≤ 20 → (b.drop a).take k = ((head20 n s).drop a).take k := by
    intro a k hak
    apply List.ext_getElem?; intro i
    by_cases hi : i < k
    · rw [take_at _ _ _ _ hi, take_at _ _ _ _ hi]
      have : (b.take 64)[a + i]? = b[a + i]? := by rw [List.getElem?_take, if_pos (by omega)]
      rw [← this, h1, headP_lo _ _ _ (by omega)]
    · rw [List.getElem?_eq_none (by simp; omega), List.getElem?_eq_none (by simp; omega)]
  have e1 : b.take 8 = beN 8 n := by
    have := hh 0 8 (by omega)
    rw [List.drop_zero, List.drop_zero] at this
    rw [this]
    unfold head20
    rw [List.append_assoc, List.take_append_of_le_length (by rw [beN_len]; omega), List.take_of_length_le (by rw [beN_len]; omega)]
  have e2 : (b.drop 8).take 4 = beN 4 (UInt64.ofNat s.length) := by
    rw [hh 8 4 (by omega)]
    unfold head20
    rw [List.append_assoc, List.drop_append_of_le_length (by rw [beN_len]; omega), List.drop_of_length_le (by rw [beN_len]; omega), List.nil_append, List.take_append_of_le_length (by rw [beN_len]; omega), List.take_of_length_le (by rw [beN_len]; omega)]
  have n1 : num (b.take 8) = n := by rw [e1, num_beN 8 n (by omega) n.toNat_lt]
  have hl : (UInt64.ofNat s.length).toNat = s.length := by rw [UInt64.toNat_ofNat']; omega
  have n2 : (num ((b.drop 8).take 4)).toNat = s.length := by rw [e2, num_beN 4 _ (by omega) (by rw [hl]; omega), hl]
  unfold slotP
  rw [n2, if_neg (by omega), n1, h2, if_pos h1.symm]

theorem drop_take_at (D : List UInt8) (a i : Nat) (h : i < 10240) : ((D.drop a).take 10240)[i]? = D[a + i]? := take_at D a 10240 i h

/-- Behind a whole Save its slot begins with the head and the text. -/
theorem saved_parts (d s : List UInt8) (hd : d.length = 20480) (fr : Nat) (hfr : fr = 0 ∨ fr = 160) (hs : s.length ≤ 8192) (n : UInt64) (W t : Nat) (hW : secN s.length < W) :
    (((doTo d (savesN fr n s) W t (secN s.length + 1)).drop (fr * 64)).take 10240).take 64 = headP n s ∧ ((((doTo d (savesN fr n s) W t (secN s.length + 1)).drop (fr * 64)).take 10240).drop 64).take s.length = s := by
  have hat := saved_at d s hd fr hfr hs n W t (by omega) 64 (by rw [if_neg (by omega)])
  have hh := headP_len n s
  refine ⟨?_, ?_⟩
  · apply List.ext_getElem?; intro i
    by_cases hi : i < 64
    · rw [List.getElem?_take, if_pos hi, drop_take_at _ _ _ (by omega), hat _ (by omega), if_pos (by omega)]
      congr 1
      omega
    · rw [List.getElem?_eq_none (by simp; omega), List.getElem?_eq_none (by omega)]
  · apply List.ext_getElem?; intro i
    by_cases hi : i < s.length
    · rw [take_at _ _ _ _ hi, drop_take_at _ _ _ (by omega), hat _ (by omega), if_neg (by omega), if_pos (by unfold secN; omega), show fr * 64 + (64 + i) - (fr * 64 + 64) = i from by omega, List.getD, List.getElem?_eq_getElem hi]; rfl
    · rw [List.getElem?_eq_none (by simp; omega), List.getElem?_eq_none (by omega)]
theorem formB_head (n : UInt64) (s : List UInt8) : formB (headP n s) = true := by
  refine (formB_iff _ (headP_len n s)).2 ⟨fun i hi => ?_, fun i hi hi2 => headP_hi n s i hi hi2⟩
  rw [headP_mid n s (i + 20) (by omega) (by omega), headP_lo n s i hi, show i + 20 - 20 = i from by omega]

/-- Behind a whole Save its slot tells the text. -/
theorem saved_slot (d s : List UInt8) (hd : d.length = 20480) (fr : Nat) (hfr : fr = 0 ∨ fr = 160) (hs : s.length ≤ 8192) (n : UInt64) (W t : Nat) (hW : secN s.length < W) :
    slotP (((doTo d (savesN fr n s) W t (secN s.length + 1)).drop (fr * 64)).take 10240) = some (n, s) := by
  exact slotP_of _ n s hs (saved_parts d s hd fr hfr hs n W t hW).1 (saved_parts d s hd fr hfr hs n W t hW).2
/-- The other slot is as it was. -/
theorem saved_other (d s : List UInt8) (hd : d.length = 20480) (fr o : Nat) (hfr : (fr = 0 ∧ o = 160) ∨ (fr = 160 ∧ o = 0)) (hs : s.length ≤ 8192) (n : UInt64) (W t : Nat) (hW : secN s.length ≤ W) :
    ((doTo d (savesN fr n s) W t (secN s.length + 1)).drop (o * 64)).take 10240 = (d.drop (o * 64)).take 10240 := by
  have hK : secN s.length ≤ 128 := by unfold secN; omega
  have hat := saved_at d s hd fr (by omega) hs n W t hW _ rfl
  have ht' : (if secN s.length = W then min t 64 else 64) ≤ 64 := by split <;> omega
  generalize (if secN s.length = W then min t 64 else 64) = t' at *
  apply List.ext_getElem?; intro i
  by_cases hi : i < 10240
  · rw [drop_take_at _ _ _ hi, drop_take_at _ _ _ hi, hat _ (by omega), if_neg (by omega), if_neg (by omega)]
  · rw [List.getElem?_eq_none (by simp; omega), List.getElem?_eq_none (by simp; omega)]

/-- A slot whose byte 20 does not answer byte 0 tells nothing. -/
theorem slotP_bad (b : List UInt8) (hb : b.length = 10240) (h0 : b[0]? = some 0) (h20 : b[20]? = some 0) : slotP b = none := by
  refine slotP_no2 b hb ?_
  rw [Bool.eq_false_iff]
  intro h
  have := ((formB_iff (b.take 64) (by simp; omega)).1 h).1 0 (by omega)
  rw [List.getElem?_take, if_pos (by omega), List.getElem?_take, if_pos (by omega), Nat.zero_add, h0, h20] at this
  exact absurd this (by decide)

/-- One byte of the head turned: the slot tells nothing. -/
theorem slotP_head (b : List UInt8) (hb : b.length = 10240) (hf : formB (b.take 64) = true) (k : Nat) (hk : k < 64) (c : UInt8) (hc : b[k]? ≠ some c) : slotP (b.set k c) = none := by
  refine slotP_no2 _ (by simpa using hb) ?_
  rw [Bool.eq_false_iff]
  intro h
  obtain ⟨h1, h2⟩ := (formB_iff (b.take 64) (by simp; omega)).1 hf
  obtain ⟨g1, g2⟩ := (formB_iff ((b.set k c).take 64) (by simp; omega)).1 h
  have tk : ∀ (l : List UInt8) i, i < 64 → (l.take 64)[i]? = l[i]? := fun l i hi => by rw [List.getElem?_take, if_pos hi]
  have st : (b.set k c)[k]? = some c := by rw [List.getElem?_set]; simp; omega
  have so : ∀ i, i ≠ k → (b.set k c)[i]? = b[i]? := fun i hi => by rw [List.getElem?_set, if_neg (fun e => hi e.symm)]
  by_cases h40 : 40 ≤ k
  · have a1 := h2 k h40 hk
    have a2 := g2 k h40 hk
    rw [tk _ _ hk] at a1 a2
    rw [st] at a2
    exact hc (by rw [a1, a2])
  · by_cases h20 : 20 ≤ k
    · have a1 := h1 (k - 20) (by omega)
      have a2 := g1 (k - 20) (by omega)
      rw [show k - 20 + 20 = k from by omega, tk _ _ hk, tk _ _ (by omega)] at a1 a2
      rw [st, so _ (by omega)] at a2
      exact hc (by rw [a1, a2])
    · have a1 := h1 k (by omega)
      have a2 := g1 k (by omega)
      rw [tk _ _ (by omega), tk _ _ hk] at a1 a2
      rw [st, so _ (by omega), a1] at a2
      have hkb : b[k]? = some b[k] := List.getElem?_eq_getElem (by omega)
      rw [hkb] at a2 hc
      apply hc
      have e : neg b[k] = neg c := by simpa using a2
      congr 1
      have := congrArg UInt8.toNat e
      rw [neg_toNat, neg_toNat] at this
      have q1 := (b[k]).toNat_lt
      have q2 := c.toNat_lt
      exact UInt8.toNat_inj.1 (by omega)
/-- One byte of the text turned: the slot tells nothing. -/
theorem slotP_text (b : List UInt8) (hb : b.length = 10240) (n : UInt64) (s : List UInt8) (hs : slotP b = some (n, s)) (k : Nat) (hk : 64 ≤ k) (hk2 : k < 64 + s.length) (c : UInt8) (hc : b[k]? ≠ some c) : slotP (b.set k c) = none := by
  have hm : ¬ 10176 < (num ((b.drop 8).take 4)).toNat := by
    intro h; rw [slotP_no1 b h] at hs; cases hs
  have hd : headP (num (b.take 8)) ((b.drop 64).take (num ((b.drop 8).take 4)).toNat) = b.take 64 := by
    unfold slotP at hs
    rw [if_neg hm] at hs
    by_cases h : headP (num (b.take 8)) ((b.drop 64).take (num ((b.drop 8).take 4)).toNat) = b.take 64
    · exact h
    · rw [if_neg h] at hs; cases hs
  have hst : (b.drop 64).take (num ((b.drop 8).take 4)).toNat = s := by
    unfold slotP at hs
    rw [if_neg hm, if_pos hd] at hs
    injection hs with hs
    injection hs
  have hsum := ((head_iff b hb (by omega)).1 hd).2
  have e8 : ((b.set k c).drop 8).take 4 = (b.drop 8).take 4 := by
    rw [List.drop_set, if_neg (by omega), List.take_set, List.set_eq_of_length_le (by simp; omega)]
  have e12 : ((b.set k c).drop 12).take 8 = (b.drop 12).take 8 := by
    rw [List.drop_set, if_neg (by omega), List.take_set, List.set_eq_of_length_le (by simp; omega)]
  refine slotP_no3 _ (by simpa using hb) ?_
  rw [e8, e12, ← hsum]
  have hl : s.length ≤ (num ((b.drop 8).take 4)).toNat := by rw [← hst]; simp; omega
  rw [List.drop_set, if_neg (by omega), List.take_set, hst]
  intro h
  have hks : k - 64 < s.length := by omega
  have := (sum_set s (k - 64) hks c).1 h
  apply hc
  rw [this]
  have : b[k]? = s[k - 64]? := by
    rw [← hst, take_at _ _ _ _ (by omega), show 64 + (k - 64) = k from by omega]
  rw [this, List.getElem?_eq_getElem hks]
/-- One other byte turned: the slot tells what it told. -/
theorem slotP_else (b : List UInt8) (n : UInt64) (s : List UInt8) (hl : s.length ≤ 8192) (h1 : b.take 64 = headP n s) (h2 : (b.drop 64).take s.length = s) (k : Nat) (hk : 64 + s.length ≤ k) (c : UInt8) : slotP (b.set k c) = some (n, s) := by
  refine slotP_of _ n s hl ?_ ?_
  · rw [List.take_set, List.set_eq_of_length_le (by simp; omega), h1]
  · rw [List.drop_set, if_neg (by omega), List.take_set, List.set_eq_of_length_le (by simp; omega), h2]
end Go.Proofs.Ytlhdomckljhfoaa
