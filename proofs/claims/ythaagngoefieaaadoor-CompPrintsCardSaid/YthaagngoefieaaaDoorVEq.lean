/-
  Versions held against each other by '=='. Conditions: none.
-/
import Derived.Test.YthaagngoefieaaaDoorVRComp
import Derived.Laws.StructEq
namespace Go.Proofs.YthaagngoefieaaaDoor
open Go.ChangeShapes Go.WideShapes Go.ChangeAt Go.RowKit
set_option linter.unusedVariables false

/-- Are five fields the same? -/
def eqV (a b c : Int) (p q : ByteArray) (a' b' c' : Int) (p' q' : ByteArray) : Bool :=
  (a == a') && ((b == b') && ((c == c') && ((p.toList == p'.toList) && (q.toList == q'.toList))))
theorem run_eqV (a b c : Int) (p q : ByteArray) (a' b' c' : Int) (p' q' : ByteArray) (W : World) :
    (binOp .eql 24 (.agg #[.int .i64 a, .int .i64 b, .int .i64 c, .string p, .string q]) (.agg #[.int .i64 a', .int .i64 b', .int .i64 c', .string p', .string q'])).run Tryd.prog W = .ok (.bool (eqV a b c p q a' b' c' p' q')) W := by
  unfold eqV
  cases h0 : (a == a')
  · go_simp
  cases h1 : (b == b')
  · go_simp
  cases h2 : (c == c')
  · go_simp
  cases h3 : (p.toList == p'.toList)
  · go_simp
  cases h4 : (q.toList == q'.toList)
  · go_simp
  · go_simp
theorem run_neV (a b c : Int) (p q : ByteArray) (a' b' c' : Int) (p' q' : ByteArray) (W : World) :
    (binOp .neq 24 (.agg #[.int .i64 a, .int .i64 b, .int .i64 c, .string p, .string q]) (.agg #[.int .i64 a', .int .i64 b', .int .i64 c', .string p', .string q'])).run Tryd.prog W = .ok (.bool (!eqV a b c p q a' b' c' p' q')) W := by
  unfold eqV
  cases h0 : (a == a')
  · go_simp
  cases h1 : (b == b')
  · go_simp
  cases h2 : (c == c')
  · go_simp
  cases h3 : (p.toList == p'.toList)
  · go_simp
  cases h4 : (q.toList == q'.toList)
  · go_simp
  · go_simp
theorem bytes_beq (p q : ByteArray) : (p.toList == q.toList) = decide (p.data.toList = q.data.toList) := by
  rw [Lib.toList_data, Lib.toList_data]
  by_cases h : p.data.toList = q.data.toList
  · rw [h]; simp
  · rw [decide_eq_false h]; simpa using h
theorem eqV_ver (a b c : Int) (p q : ByteArray) (a' b' c' : Int) (p' q' : ByteArray) : eqV a b c p q a' b' c' p' q' = decide (verS a b c p q = verS a' b' c' p' q') := by
  unfold eqV
  rw [bytes_beq, bytes_beq, Bool.eq_iff_iff]
  simp [verS]
theorem bytes_ext {p q : ByteArray} (h : p.data.toList = q.data.toList) : p = q := by
  rw [← back p, h, back]
end Go.Proofs.YthaagngoefieaaaDoor
