/-
  The walks of chapter 6's May, the program's and the reference's. Conditions: the strings' sizes.
-/
import Derived.Test.YthaagngoefieaaaDoorCSign
import Derived.Test.YthaagngoefieaaaDoorCells
import Derived.Test.YthaagngoefieaaaDoorVMay
import Derived.Deep.Light
namespace Go.Proofs.YthaagngoefieaaaDoor
open Go.ChangeShapes Go.WideShapes Go.ChangeAt Go.RowKit
set_option linter.unusedVariables false
set_option linter.unusedSimpArgs false

def cmpS (op ps a b c : Int) (p q : ByteArray) : Cmp := ⟨op, ps, verS a b c p q⟩
def cvV (op ps a b c : Int) (p q : ByteArray) : Value := .agg #[.int .i64 op, .int .i64 ps, .int .i64 a, .int .i64 b, .int .i64 c, .string p, .string q]
theorem mayC_eq (op ps a b c : Int) (p q : ByteArray) : mayC (cmpS op ps a b c p q) =
    (decide (1 ≤ op) && decide (op ≤ 9) && mayV (verS a b c p q) && q.data.toList.isEmpty && decide (leastC op ≤ ps) && decide (ps ≤ mostC op) && (p.data.toList.isEmpty || decide (3 ≤ ps)) &&
    (decide (0 < ps) || decide (a = 0)) && (decide (1 < ps) || decide (b = 0)) && (decide (2 < ps) || decide (c = 0))) := rfl

theorem cells7 (w : World) (x0 x1 x2 x3 x4 x5 x6 : Value) (t : TypeId) {w1 : World} (hb : Below (w.heap.size + 1) (w.alloc (.cells #[x0, x1, x2, x3, x4, x5, x6] t)) w1) :
    w1.cell? ⟨w.heap.size, 0, none⟩ = some x0 ∧ w1.cell? ⟨w.heap.size, 1, none⟩ = some x1 ∧ w1.cell? ⟨w.heap.size, 2, none⟩ = some x2 ∧ w1.cell? ⟨w.heap.size, 3, none⟩ = some x3 ∧ w1.cell? ⟨w.heap.size, 4, none⟩ = some x4 ∧ w1.cell? ⟨w.heap.size, 5, none⟩ = some x5 ∧ w1.cell? ⟨w.heap.size, 6, none⟩ = some x6 := by
  have h := cells_below (cells_new w [x0, x1, x2, x3, x4, x5, x6] t) (Nat.lt_succ_self _) hb
  exact ⟨h 0 _ rfl, h 1 _ rfl, h 2 _ rfl, h 3 _ rfl, h 4 _ rfl, h 5 _ rfl, h 6 _ rfl⟩
theorem str_e {q : ByteArray} (h : q.size = 0) : q.data.toList.isEmpty = true := by rw [List.isEmpty_iff]; exact List.eq_nil_of_length_eq_zero (by simpa using h)
theorem str_n {q : ByteArray} (h : ¬ q.size = 0) : q.data.toList.isEmpty = false := by
  rw [Bool.eq_false_iff, ne_eq, List.isEmpty_iff]
  intro e
  exact h (by rw [← len_size, e]; rfl)

set_option maxHeartbeats 4000000 in
theorem cmay_any (op ps a b c : Int) (p q : ByteArray) (w : World) (hp : p.size ≤ 1048576) (hq : q.size ≤ 1048576) :
    Calls Tryd.prog 15 #[cvV op ps a b c p q] w fun e w' => e = .returned (.bool (mayC (cmpS op ps a b c p q))) ∧ Below w.heap.size w w' := by
  have HM := Lib.hid (mayC_eq op ps a b c p q)
  have cM := fun W => may_any a b c p q W hp hq
  generalize mayC (cmpS op ps a b c p q) = R at *
  generalize mayV (verS a b c p q) = mv at *
  unfold cvV
  by_cases hp0 : p.size = 0
  all_goals
    by_cases hq0 : q.size = 0
    all_goals
      first
        | (have hpe := Lib.hid (str_e hp0); have hp1 := empty_str p hp0)
        | (have hpe := Lib.hid (str_n hp0); have hp1 := (empty_no (show 0 < p.size by omega)).1)
      first
        | (have hqe := Lib.hid (str_e hq0); have hq1 := empty_str q hq0)
        | (have hqe := Lib.hid (str_n hq0); have hq1 := (empty_no (show 0 < q.size by omega)).1)
      clear hp0 hq0
      cases mv
      all_goals
        go_enter Tryd.func15, Tryd.ntmps15
        go_wp2_with (go_at_call 41; refine (cM _).mono ?_; rintro e w1 ⟨rfl, hb1⟩; obtain ⟨k0, k1, k2, k3, k4, k5, k6⟩ := cells7 w _ _ _ _ _ _ _ _ (by simpa using hb1); have hB1 := (box_below w _).trans (hb1.mono (by simp)); clear hb1)
        all_goals
          go_ret
          refine ⟨ret_bool ?_, by first | assumption | exact box_below _ _⟩
          rw [HM.out, hpe.out, hqe.out]
          go_light
          try simp only [beq_iff_eq, bne_iff_ne, ne_eq, beq_eq_false_iff_ne, bne_eq_false_iff_eq] at *
          unfold leastC mostC
          try rw [show (c == 0) = decide (c = 0) from by by_cases h : c = 0 <;> simp [h]]
          first
            | (simp; done)
            | (simp; omega)
            | (split <;> first | (simp; done) | (simp; omega) | (exfalso; omega) | (rw [Bool.eq_iff_iff]; simp; omega))

set_option maxHeartbeats 4000000 in
theorem rcmay_any (op ps a b c : Int) (p q : ByteArray) (w : World) (hp : p.size ≤ 1048576) (hq : q.size ≤ 1048576) :
    Calls Tryd.prog 16 #[cvV op ps a b c p q] w fun e w' => e = .returned (.bool (mayC (cmpS op ps a b c p q))) ∧ Below w.heap.size w w' := by
  have HM := Lib.hid (mayC_eq op ps a b c p q)
  have cM := fun W => rmay_any a b c p q W hp hq
  generalize mayC (cmpS op ps a b c p q) = R at *
  generalize mayV (verS a b c p q) = mv at *
  unfold cvV
  by_cases hp0 : p.size = 0
  all_goals
    by_cases hq0 : q.size = 0
    all_goals
      first
        | (have hpe := Lib.hid (str_e hp0); have hp1 := empty_str p hp0)
        | (have hpe := Lib.hid (str_n hp0); have hp1 := (empty_no (show 0 < p.size by omega)).1)
      first
        | (have hqe := Lib.hid (str_e hq0); have hq1 := empty_str q hq0)
        | (have hqe := Lib.hid (str_n hq0); have hq1 := (empty_no (show 0 < q.size by omega)).1)
      clear hp0 hq0
      cases mv
      all_goals
        go_enter Tryd.func16, Tryd.ntmps16
        go_wp2_with (go_at_call 42; refine (cM _).mono ?_; rintro e w1 ⟨rfl, hb1⟩; obtain ⟨k0, k1, k2, k3, k4, k5, k6⟩ := cells7 w _ _ _ _ _ _ _ _ (by simpa using hb1); have hB1 := (box_below w _).trans (hb1.mono (by simp)); clear hb1)
        all_goals
          go_ret
          refine ⟨ret_bool ?_, by first | assumption | exact box_below _ _⟩
          rw [HM.out, hpe.out, hqe.out]
          go_light
          try simp only [beq_iff_eq, bne_iff_ne, ne_eq, beq_eq_false_iff_ne, bne_eq_false_iff_eq] at *
          unfold leastC mostC
          try rw [show (c == 0) = decide (c = 0) from by by_cases h : c = 0 <;> simp [h]]
          first
            | (simp; done)
            | (simp; omega)
            | (split <;> first | (simp; done) | (simp; omega) | (exfalso; omega) | (rw [Bool.eq_iff_iff]; simp; omega))
end Go.Proofs.YthaagngoefieaaaDoor
