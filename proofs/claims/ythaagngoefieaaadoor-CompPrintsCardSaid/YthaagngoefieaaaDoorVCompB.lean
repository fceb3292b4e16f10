/-
  The walk of chapter 2's Compare, the program's. Conditions: Pre and Build have at most 1048576 bytes.
-/
import Derived.Test.YthaagngoefieaaaDoorVCompA
namespace Go.Proofs.YthaagngoefieaaaDoor
open Go.ChangeShapes Go.WideShapes Go.ChangeAt Go.RowKit
set_option linter.unusedVariables false

set_option maxHeartbeats 4000000 in
theorem compare_n0 (a b c : Int) (p q : ByteArray) (a' b' c' : Int) (p' q' : ByteArray) (w : World) (hp : p.size ≤ 1048576) (hq : q.size ≤ 1048576) (hp' : p'.size ≤ 1048576) (hq' : q'.size ≤ 1048576) (hx : mayV (verS a b c p q) = false) :
    Calls Tryd.prog 20 #[.agg #[.int .i64 a, .int .i64 b, .int .i64 c, .string p, .string q], .agg #[.int .i64 a', .int .i64 b', .int .i64 c', .string p', .string q']] w fun e w' => e = .returned (.int .i64 0) ∧ Below w.heap.size w w' := by
  have m1 := fun W => may_any a b c p q W hp hq
  rw [hx] at m1
  clear hx
  go_enter Tryd.func20, Tryd.ntmps20
  go_wp2
  generalize hwb : (w.alloc (.cells #[.int .i64 a, .int .i64 b, .int .i64 c, .string p, .string q] 24)).alloc (.cells #[.int .i64 a', .int .i64 b', .int .i64 c', .string p', .string q'] 24) = wb
  have hbb : Below w.heap.size w wb := by rw [← hwb]; exact two_below _ _ _
  have hlb : w.heap.size + 1 < wb.heap.size := by rw [← hwb]; simp
  have h55 := two_five w (.int .i64 a) (.int .i64 b) (.int .i64 c) (.string p) (.string q) (.int .i64 a') (.int .i64 b') (.int .i64 c') (.string p') (.string q') 24 24 (w1 := wb) (B := w.heap.size + 2) (by rw [hwb]; exact Below.refl _ _) (Nat.le_refl _)
  clear hwb
  obtain ⟨⟨k0, k1, k2, k3, k4⟩, ⟨l0, l1, l2, l3, l4⟩⟩ := h55
  have hB2 : Below w.heap.size w wb.drew := below_drewN hbb 1
  have hT : Ten w wb.drew (.int .i64 a) (.int .i64 b) (.int .i64 c) (.string p) (.string q) (.int .i64 a') (.int .i64 b') (.int .i64 c') (.string p') (.string q') := ⟨k0, k1, k2, k3, k4, l0, l1, l2, l3, l4, hlb, hB2⟩
  go_region_with (first | (go_at_call 41; (with_reducible refine (m1 _).mono ?_); rintro e w' ⟨rfl, hb'⟩; obtain ⟨hT, k0, k1, k2, k3, k4, l0, l1, l2, l3, l4, hlt, hB⟩ := ten_next hb' hT))
  all_goals
    go_wp2_with fail
    go_ret
    exact ⟨rfl, by first | assumption | exact hB2.trans (by assumption)⟩

set_option maxHeartbeats 4000000 in
theorem compare_n1 (a b c : Int) (p q : ByteArray) (a' b' c' : Int) (p' q' : ByteArray) (w : World) (hp : p.size ≤ 1048576) (hq : q.size ≤ 1048576) (hp' : p'.size ≤ 1048576) (hq' : q'.size ≤ 1048576) (hx : mayV (verS a b c p q) = true) (hy : mayV (verS a' b' c' p' q') = false) :
    Calls Tryd.prog 20 #[.agg #[.int .i64 a, .int .i64 b, .int .i64 c, .string p, .string q], .agg #[.int .i64 a', .int .i64 b', .int .i64 c', .string p', .string q']] w fun e w' => e = .returned (.int .i64 0) ∧ Below w.heap.size w w' := by
  have m1 := fun W => may_any a b c p q W hp hq
  have m2 := fun W => may_any a' b' c' p' q' W hp' hq'
  rw [hx] at m1
  rw [hy] at m2
  clear hx hy
  go_enter Tryd.func20, Tryd.ntmps20
  go_wp2
  generalize hwb : (w.alloc (.cells #[.int .i64 a, .int .i64 b, .int .i64 c, .string p, .string q] 24)).alloc (.cells #[.int .i64 a', .int .i64 b', .int .i64 c', .string p', .string q'] 24) = wb
  have hbb : Below w.heap.size w wb := by rw [← hwb]; exact two_below _ _ _
  have hlb : w.heap.size + 1 < wb.heap.size := by rw [← hwb]; simp
  have h55 := two_five w (.int .i64 a) (.int .i64 b) (.int .i64 c) (.string p) (.string q) (.int .i64 a') (.int .i64 b') (.int .i64 c') (.string p') (.string q') 24 24 (w1 := wb) (B := w.heap.size + 2) (by rw [hwb]; exact Below.refl _ _) (Nat.le_refl _)
  clear hwb
  obtain ⟨⟨k0, k1, k2, k3, k4⟩, ⟨l0, l1, l2, l3, l4⟩⟩ := h55
  have hB2 : Below w.heap.size w wb.drew := below_drewN hbb 1
  have hT : Ten w wb.drew (.int .i64 a) (.int .i64 b) (.int .i64 c) (.string p) (.string q) (.int .i64 a') (.int .i64 b') (.int .i64 c') (.string p') (.string q') := ⟨k0, k1, k2, k3, k4, l0, l1, l2, l3, l4, hlb, hB2⟩
  go_region_with (first | (go_at_call 41; (with_reducible refine (m1 _).mono ?_); rintro e w' ⟨rfl, hb'⟩; obtain ⟨hT, k0, k1, k2, k3, k4, l0, l1, l2, l3, l4, hlt, hB⟩ := ten_next hb' hT) | (go_at_call 41; (with_reducible refine (m2 _).mono ?_); rintro e w' ⟨rfl, hb'⟩; obtain ⟨hT, k0, k1, k2, k3, k4, l0, l1, l2, l3, l4, hlt, hB⟩ := ten_next hb' hT))
  all_goals
    go_wp2_with fail
    go_ret
    exact ⟨rfl, by first | assumption | exact hB2.trans (by assumption)⟩

set_option maxHeartbeats 4000000 in
theorem compare_core (a b c : Int) (p q : ByteArray) (a' b' c' : Int) (p' q' : ByteArray) (w : World) (hp : p.size ≤ 1048576) (hq : q.size ≤ 1048576) (hp' : p'.size ≤ 1048576) (hq' : q'.size ≤ 1048576) (hx : mayV (verS a b c p q) = true) (hy : mayV (verS a' b' c' p' q') = true) (he : eqV a b c p ⟨#[]⟩ a' b' c' p' ⟨#[]⟩ = true) :
    Calls Tryd.prog 20 #[.agg #[.int .i64 a, .int .i64 b, .int .i64 c, .string p, .string q], .agg #[.int .i64 a', .int .i64 b', .int .i64 c', .string p', .string q']] w fun e w' => e = .returned (.int .i64 0) ∧ Below w.heap.size w w' := by
  have m1 := fun W => may_any a b c p q W hp hq
  have m2 := fun W => may_any a' b' c' p' q' W hp' hq'
  rw [hx] at m1
  rw [hy] at m2
  have heq : ∀ W, (binOp .eql 24 (.agg #[.int .i64 a, .int .i64 b, .int .i64 c, .string p, .string ⟨#[]⟩]) (.agg #[.int .i64 a', .int .i64 b', .int .i64 c', .string p', .string ⟨#[]⟩])).run Tryd.prog W = .ok (.bool true) W := fun W => by rw [run_eqV, he]
  clear hx hy he
  go_enter Tryd.func20, Tryd.ntmps20
  go_wp2
  generalize hwb : (w.alloc (.cells #[.int .i64 a, .int .i64 b, .int .i64 c, .string p, .string q] 24)).alloc (.cells #[.int .i64 a', .int .i64 b', .int .i64 c', .string p', .string q'] 24) = wb
  have hbb : Below w.heap.size w wb := by rw [← hwb]; exact two_below _ _ _
  have hlb : w.heap.size + 1 < wb.heap.size := by rw [← hwb]; simp
  have h55 := two_five w (.int .i64 a) (.int .i64 b) (.int .i64 c) (.string p) (.string q) (.int .i64 a') (.int .i64 b') (.int .i64 c') (.string p') (.string q') 24 24 (w1 := wb) (B := w.heap.size + 2) (by rw [hwb]; exact Below.refl _ _) (Nat.le_refl _)
  clear hwb
  obtain ⟨⟨k0, k1, k2, k3, k4⟩, ⟨l0, l1, l2, l3, l4⟩⟩ := h55
  have hB2 : Below w.heap.size w wb.drew := below_drewN hbb 1
  have hT : Ten w wb.drew (.int .i64 a) (.int .i64 b) (.int .i64 c) (.string p) (.string q) (.int .i64 a') (.int .i64 b') (.int .i64 c') (.string p') (.string q') := ⟨k0, k1, k2, k3, k4, l0, l1, l2, l3, l4, hlb, hB2⟩
  go_region_with (first | (go_at_call 41; (with_reducible refine (m1 _).mono ?_); rintro e w' ⟨rfl, hb'⟩; obtain ⟨hT, k0, k1, k2, k3, k4, l0, l1, l2, l3, l4, hlt, hB⟩ := ten_next hb' hT) | (go_at_call 41; (with_reducible refine (m2 _).mono ?_); rintro e w' ⟨rfl, hb'⟩; obtain ⟨hT, k0, k1, k2, k3, k4, l0, l1, l2, l3, l4, hlt, hB⟩ := ten_next hb' hT) | (go_at_call 47; refine (core_any _ _ _ _ _ _).mono ?_; rintro e w' ⟨rfl, hb'⟩; obtain ⟨hT, k0, k1, k2, k3, k4, l0, l1, l2, l3, l4, hlt, hB⟩ := ten_next hb' hT))
  all_goals
    go_wp2_with fail
    go_ret
    exact ⟨rfl, by first | assumption | exact hB2.trans (by assumption)⟩
end Go.Proofs.YthaagngoefieaaaDoor
