/-
  Plain law of chapter 40: what writes make of a disk's bytes; the writes of a Save. Conditions: none.
-/
import Derived.Test.YtlhdomckljhfoaaDkPlain
namespace Go.Proofs.Ytlhdomckljhfoaa

/-- b with the bytes x laid over it from place p on, as far as b goes. -/
def over (b : List UInt8) (p : Nat) (x : List UInt8) : List UInt8 := (List.range b.length).map fun i => if p ≤ i ∧ i < p + x.length then x.getD (i - p) 0 else b.getD i 0
theorem over_len (b : List UInt8) (p : Nat) (x : List UInt8) : (over b p x).length = b.length := by simp [over]
theorem over_at (b : List UInt8) (p : Nat) (x : List UInt8) (i : Nat) (h : i < b.length) : (over b p x)[i]? = some (if p ≤ i ∧ i < p + x.length then x.getD (i - p) 0 else b.getD i 0) := by simp [over, h]
theorem over_out (b : List UInt8) (p : Nat) (x : List UInt8) (i : Nat) (h : ¬ (p ≤ i ∧ i < p + x.length)) : (over b p x)[i]? = b[i]? := by
  by_cases hi : i < b.length
  · rw [over_at b p x i hi, if_neg h, List.getD, List.getElem?_eq_getElem hi]; rfl
  · rw [List.getElem?_eq_none (by rw [over_len]; omega), List.getElem?_eq_none (by omega)]
theorem over_in (b : List UInt8) (p : Nat) (x : List UInt8) (i : Nat) (h : p + i < b.length) (h2 : i < x.length) : (over b p x)[p + i]? = x[i]? := by
  rw [over_at b p x _ h, if_pos (by omega), show p + i - p = i from by omega, List.getD, List.getElem?_eq_getElem h2]; rfl
theorem over_nil (b : List UInt8) (p : Nat) : over b p [] = b := by
  apply List.ext_getElem?; intro i
  exact over_out b p [] i (by simp)
theorem over_set (b : List UInt8) (p : Nat) (x : List UInt8) (i : Nat) (c : UInt8) (hc : x[i]? = some c) : over b p (x.take (i + 1)) = (over b p (x.take i)).set (p + i) c := by
  obtain ⟨hi, rfl⟩ := List.getElem?_eq_some_iff.1 hc
  apply List.ext_getElem?; intro j
  rw [List.getElem?_set]
  by_cases hj : j < b.length
  · by_cases e : p + i = j
    · subst e
      rw [if_pos rfl, if_pos (by rw [over_len]; omega), over_in b p _ i hj (by simp; omega), List.getElem?_take, if_pos (by omega), List.getElem?_eq_getElem hi]
    · rw [if_neg e, over_at _ _ _ _ hj, over_at _ _ _ _ hj]
      simp only [List.length_take]
      congr 1
      by_cases h1 : p ≤ j ∧ j < p + min (i + 1) x.length
      · rw [if_pos h1, if_pos (by omega), List.getD, List.getD, List.getElem?_take, List.getElem?_take, if_pos (by omega), if_pos (by omega)]
      · rw [if_neg h1, if_neg (by omega)]
  · rw [List.getElem?_eq_none (by rw [over_len]; omega)]
    by_cases e : p + i = j
    · rw [if_pos e, if_neg (by rw [over_len]; omega)]
    · rw [if_neg e, List.getElem?_eq_none (by rw [over_len]; omega)]
theorem over_past (b : List UInt8) (p : Nat) (x : List UInt8) (i : Nat) (h : b.length ≤ p + i) : over b p (x.take (i + 1)) = over b p (x.take i) := by
  apply List.ext_getElem?; intro j
  by_cases hj : j < b.length
  · rw [over_at _ _ _ _ hj, over_at _ _ _ _ hj]
    simp only [List.length_take]
    congr 1
    by_cases h1 : p ≤ j ∧ j < p + min (i + 1) x.length
    · rw [if_pos h1, if_pos (by omega), List.getD, List.getD, List.getElem?_take, List.getElem?_take, if_pos (by omega), if_pos (by omega)]
    · rw [if_neg h1, if_neg (by omega)]
  · rw [List.getElem?_eq_none (by rw [over_len]; omega), List.getElem?_eq_none (by rw [over_len]; omega)]

/-- One write: its place in sectors, its bytes. -/
def putP (b : List UInt8) (a : Int) (x : List UInt8) : List UInt8 := if 0 ≤ a ∧ a * 64 < b.length then over b (a.toNat * 64) (x.take 64) else b
theorem putP_len (b : List UInt8) (a : Int) (x : List UInt8) : (putP b a x).length = b.length := by unfold putP; split <;> simp [over_len]

/-- How many writes are done wholly. -/
def wholeN (n : Nat) (whole : Int) : Nat := min whole.toNat n
/-- The disk behind the first k writes, the one at place W only as far as 't' bytes. -/
def doTo (b : List UInt8) (l : List (Int × List UInt8)) (W t : Nat) : Nat → List UInt8
  | 0 => b
  | k + 1 => match l[k]? with
    | some x => putP (doTo b l W t k) x.1 (if k = W then x.2.take t else x.2)
    | none => doTo b l W t k
def doP (b : List UInt8) (l : List (Int × List UInt8)) (whole torn : Int) : List UInt8 := doTo b l (wholeN l.length whole) torn.toNat (min (wholeN l.length whole + 1) l.length)
theorem doTo_len (b : List UInt8) (l : List (Int × List UInt8)) (W t k : Nat) : (doTo b l W t k).length = b.length := by
  induction k with
  | zero => rfl
  | succ k ih =>
    unfold doTo
    split
    · rw [putP_len, ih]
    · exact ih
theorem doP_len (b : List UInt8) (l : List (Int × List UInt8)) (whole torn : Int) : (doP b l whole torn).length = b.length := doTo_len _ _ _ _ _

/-- The writes of a Save into the slot that begins at sector 'at'. -/
def pad64 (x : List UInt8) : List UInt8 := x ++ List.replicate (64 - x.length) 0
def secN (n : Nat) : Nat := (n + 63) / 64
def chunk (a : Nat) (s : List UInt8) (i : Nat) : Int × List UInt8 := (((a + 1 + i : Nat) : Int), pad64 ((s.drop (64 * i)).take 64))
def chunks (a : Nat) (s : List UInt8) (k : Nat) : List (Int × List UInt8) := (List.range k).map (chunk a s)
theorem chunks_snoc (a : Nat) (s : List UInt8) (k : Nat) : chunks a s k ++ [chunk a s k] = chunks a s (k + 1) := by
  unfold chunks; rw [List.range_succ, List.map_append]; rfl
theorem chunks_len (a : Nat) (s : List UInt8) (k : Nat) : (chunks a s k).length = k := by simp [chunks]
def fromP (d : List UInt8) : Nat := if (toldP d).1 = 0 then 160 else 0
def savesP (d s : List UInt8) : List (Int × List UInt8) := chunks (fromP d) s (secN s.length) ++ [(((fromP d : Nat) : Int), headP ((toldP d).2.1 + 1) s)]
/-- Save: the error's number, the writes. -/
def saveP (d s : List UInt8) : List (Int × List UInt8) × Int :=
  if d.length ≠ 20480 then ([], 1) else if 8192 < s.length then ([], 32) else if (toldP d).2.1 = 18446744073709551615 then ([], 10) else (savesP d s, 0)
end Go.Proofs.Ytlhdomckljhfoaa
