/-
  The walks of chapter 6's caret and of the reference's turns. Conditions: the parts are 0 .. 3.
-/
import Derived.Test.YthaagngoefieaaaDoorCMay
namespace Go.Proofs.YthaagngoefieaaaDoor
open Go.ChangeShapes Go.WideShapes Go.ChangeAt Go.RowKit
set_option linter.unusedVariables false
set_option linter.unusedSimpArgs false

def caretP (c : Cmp) : Int := if c.v.maj ≠ 0 then 0 else if c.v.min ≠ 0 then 1 else if c.v.pat ≠ 0 then 2 else c.parts - 1
def turnsR (c : Cmp) : Int := if 0 < c.v.maj ∨ c.parts = 1 then 0 else if 0 < c.v.min ∨ c.parts = 2 then 1 else 2
theorem ret_int {a b : Int} (h : a = b) : Ending.returned (.int .i64 a) = .returned (.int .i64 b) := by rw [h]

set_option maxHeartbeats 2000000 in
theorem caret_any (op ps a b c : Int) (p q : ByteArray) (w : World) (h0 : 0 ≤ ps) (h3 : ps ≤ 3) :
    Calls Tryd.prog 57 #[cvV op ps a b c p q] w fun e w' => e = .returned (.int .i64 (caretP (cmpS op ps a b c p q))) ∧ Below w.heap.size w w' := by
  have HM := Lib.hid (show caretP (cmpS op ps a b c p q) = (if a ≠ 0 then 0 else if b ≠ 0 then 1 else if c ≠ 0 then 2 else ps - 1) from rfl)
  generalize caretP (cmpS op ps a b c p q) = R at *
  unfold cvV
  go_enter Tryd.func57, Tryd.ntmps57
  go_wp2
  all_goals
    go_ret
    refine ⟨ret_int ?_, by first | assumption | exact box_below _ _⟩
    rw [HM.out]
    try simp only [beq_iff_eq, bne_iff_ne, ne_eq, beq_eq_false_iff_ne, bne_eq_false_iff_eq] at *
    first
      | (simp_all; done)
      | (simp_all; omega)
      | (split <;> first | rfl | omega | (split <;> first | rfl | omega | (split <;> first | rfl | omega)))

set_option maxHeartbeats 2000000 in
theorem turns_any (op ps a b c : Int) (p q : ByteArray) (w : World) (h0 : 0 ≤ ps) (h3 : ps ≤ 3) :
    Calls Tryd.prog 91 #[cvV op ps a b c p q] w fun e w' => e = .returned (.int .i64 (turnsR (cmpS op ps a b c p q))) ∧ Below w.heap.size w w' := by
  have HM := Lib.hid (show turnsR (cmpS op ps a b c p q) = (if 0 < a ∨ ps = 1 then 0 else if 0 < b ∨ ps = 2 then 1 else 2) from rfl)
  generalize turnsR (cmpS op ps a b c p q) = R at *
  unfold cvV
  go_enter Tryd.func91, Tryd.ntmps91
  go_wp2
  all_goals
    go_ret
    refine ⟨ret_int ?_, by first | assumption | exact box_below _ _⟩
    rw [HM.out]
    try simp only [beq_iff_eq, bne_iff_ne, ne_eq, beq_eq_false_iff_ne, bne_eq_false_iff_eq] at *
    first
      | (simp_all; done)
      | (simp_all; omega)
      | (split <;> first | rfl | omega | (split <;> first | rfl | omega | (split <;> first | rfl | omega)))
end Go.Proofs.YthaagngoefieaaaDoor
