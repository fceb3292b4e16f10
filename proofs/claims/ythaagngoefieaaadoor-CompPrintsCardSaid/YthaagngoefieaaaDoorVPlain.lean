/-
  Plain law of chapter 2: versions on lists of bytes: what may be, its text, its reading, its order, its next. Conditions: none.
-/
import Derived.Test.YthaagngoefieaaaDoorIdPlain
namespace Go.Proofs.YthaagngoefieaaaDoor

/-- A version. -/
structure Ver where
  maj : Int
  min : Int
  pat : Int
  pre : List UInt8
  build : List UInt8
deriving DecidableEq
def noVer : Ver := ⟨0, 0, 0, [], []⟩

/-! What may be. -/
def tagOk (c : UInt8) : Bool := lowB c || digB c || c == 45
def tagB (t : List UInt8) : Bool := decide (1 ≤ t.length) && decide (t.length ≤ 8) && t.all tagOk
def tagsB (s : List UInt8) : Bool := decide ((splitL s 46).length ≤ 4) && (splitL s 46).all tagB
def numericB (t : List UInt8) : Bool := decide (1 ≤ t.length) && t.all digB
def ntagB (t : List UInt8) : Bool := !(numericB t && !(numB t).2)
def preB (s : List UInt8) : Bool := tagsB s && (splitL s 46).all ntagB
def fitsB (n : Int) : Bool := decide (0 ≤ n) && decide (n ≤ 9999)
def mayV (v : Ver) : Bool := fitsB v.maj && fitsB v.min && fitsB v.pat && (v.pre.isEmpty || preB v.pre) && (v.build.isEmpty || tagsB v.build)

/-! The text. -/
def numsV (v : Ver) : List UInt8 := Lib.itoa v.maj ++ 46 :: (Lib.itoa v.min ++ 46 :: Lib.itoa v.pat)
def segB (c : UInt8) (t : List UInt8) : List UInt8 := if t = [] then [] else c :: t
def printV (v : Ver) : List UInt8 := if mayV v = true then numsV v ++ segB 45 v.pre ++ segB 43 v.build else []

/-! The reading. -/
/-- What stands ahead of the first byte c, and what from it on. -/
def aheadL (s : List UInt8) (c : UInt8) : List UInt8 := s.takeWhile (· != c)
def fromL (s : List UInt8) (c : UInt8) : List UInt8 := s.dropWhile (· != c)
def threeL (l : List (List UInt8)) : Option (Int × Int × Int) :=
  match l with
  | [a, b, c] => if ((numB a).2 && (numB b).2 && (numB c).2) = true then some ((numB a).1, (numB b).1, (numB c).1) else none
  | _ => none
def parseV (s : List UInt8) : Option Ver :=
  match threeL (splitL (aheadL (aheadL s 43) 45) 46) with
  | none => none
  | some (a, b, c) =>
    if (fromL (aheadL s 43) 45).length = 1 ∨ (fromL s 43).length = 1 then none
    else if mayV ⟨a, b, c, (fromL (aheadL s 43) 45).tail, (fromL s 43).tail⟩ = true then some ⟨a, b, c, (fromL (aheadL s 43) 45).tail, (fromL s 43).tail⟩ else none

/-! The order. -/
def intsI (a b : Int) : Int := if a < b then -1 else if b < a then 1 else 0
/-- Bytes, one behind the other; a beginning is less. -/
def lessL : List UInt8 → List UInt8 → Bool
  | _, [] => false
  | [], _ :: _ => true
  | a :: l, b :: m => decide (a.toNat < b.toNat) || (a == b && lessL l m)
def textsI (a b : List UInt8) : Int := if lessL a b = true then -1 else if lessL b a = true then 1 else 0
def oneI (a b : List UInt8) : Int :=
  if numericB a = true then (if numericB b = true then intsI (numB a).1 (numB b).1 else -1)
  else if numericB b = true then 1 else textsI a b
def rowI : List (List UInt8) → List (List UInt8) → Int
  | [], [] => 0
  | [], _ :: _ => -1
  | _ :: _, [] => 1
  | a :: l, b :: m => if oneI a b = 0 then rowI l m else oneI a b
def presI (a b : List UInt8) : Int :=
  if a = b then 0 else if a = [] then 1 else if b = [] then -1 else rowI (splitL a 46) (splitL b 46)
def orI (a b : Int) : Int := if a = 0 then b else a
def compV (a b : Ver) : Int :=
  if mayV a = true ∧ mayV b = true then orI (intsI a.maj b.maj) (orI (intsI a.min b.min) (orI (intsI a.pat b.pat) (presI a.pre b.pre))) else 0
def coreV (v : Ver) : Ver := { v with build := [] }

/-! One more. -/
def relV (a b c : Int) : Ver := ⟨a, b, c, [], []⟩
def ifMay (v : Ver) : Option Ver := if mayV v = true then some v else none
def bumpV (v : Ver) (part : Int) : Option Ver :=
  if mayV v = true then
    if part = 0 then ifMay (relV (v.maj + 1) 0 0)
    else if part = 1 then ifMay (relV v.maj (v.min + 1) 0)
    else if part = 2 then ifMay (relV v.maj v.min (v.pat + 1))
    else none
  else none
def nextV (v : Ver) : Option Ver :=
  if mayV v = true then
    if v.pre ≠ [] then some (relV v.maj v.min v.pat)
    else match bumpV v 2 with
      | some r => some r
      | none => match bumpV v 1 with
        | some r => some r
        | none => bumpV v 0
  else none

theorem fits_iff (n : Int) : fitsB n = true ↔ 0 ≤ n ∧ n ≤ 9999 := by unfold fitsB; simp
theorem fits_not {n : Int} (h : n < 0 ∨ 9999 < n) : fitsB n = false := by
  rw [Bool.eq_false_iff]; intro e; have := (fits_iff n).1 e; omega
theorem tag_iff (c : UInt8) : tagOk c = true ↔ (97 ≤ c.toNat ∧ c.toNat ≤ 122) ∨ (48 ≤ c.toNat ∧ c.toNat ≤ 57) ∨ c.toNat = 45 := by
  unfold tagOk lowB digB
  simp
  rw [show (c = 45) ↔ c.toNat = 45 from ⟨fun h => by rw [h]; rfl, fun h => UInt8.toNat_inj.1 h⟩, or_assoc]
theorem tagb_no {t : List UInt8} (h : t.length < 1 ∨ 8 < t.length) : tagB t = false := by
  unfold tagB
  rcases h with h | h
  · simp; omega
  · have : decide (t.length ≤ 8) = false := by simp; omega
    rw [this]; simp
theorem tagb_yes {t : List UInt8} (h1 : 1 ≤ t.length) (h2 : t.length ≤ 8) (h3 : t.all tagOk = true) : tagB t = true := by
  unfold tagB
  rw [h3]; simp [h1, h2]
theorem tagb_stop {t : List UInt8} (h : t.all tagOk = false) : tagB t = false := by
  unfold tagB
  rw [h, Bool.and_false]
theorem tags_len {s : List UInt8} (h : 4 < (splitL s 46).length) : tagsB s = false := by
  unfold tagsB
  have : decide ((splitL s 46).length ≤ 4) = false := by simp; omega
  rw [this]; rfl
end Go.Proofs.YthaagngoefieaaaDoor
