/-
  What the walk of chapter 2's Compare takes: cmp.Or of three numbers, ten cells kept, the order's plain steps. Conditions: none.
-/
import Derived.Test.YthaagngoefieaaaDoorVEq
import Derived.Deep.RegionHeld3
import Derived.Deep.DeepCutAuto
import Derived.StillTailTactics
namespace Go.Proofs.YthaagngoefieaaaDoor
open Go.ChangeShapes Go.WideShapes Go.ChangeAt Go.RowKit
set_option linter.unusedVariables false

set_option maxHeartbeats 1000000 in
theorem or_any (x y z : Int) (b c : Nat) (w : World) (h0 : w.cell? ⟨b, 0, none⟩ = some (.int .i64 x)) (h1 : w.cell? ⟨b, 1, none⟩ = some (.int .i64 y)) (h2 : w.cell? ⟨b, 2, none⟩ = some (.int .i64 z)) :
    Calls Tryd.prog 48 #[.slice (some ⟨b, 0, none⟩) 3 c] w fun e w' => e = .returned (.int .i64 (orI x (orI y z))) ∧ w = w' := by
  have HR : Hid (∀ R : Int, R = orI x (orI y z) → R = orI x (orI y z)) := fun _ h => h
  generalize hR : orI x (orI y z) = R
  have HE := Lib.hid hR
  clear hR HR
  go_enter Tryd.func48, Tryd.ntmps48
  go_wp2
  go_loop [5, 8] (fun _ i => ∃ j : Nat, j ≤ 3 ∧ i = .int .i64 j ∧ (0 < j → x = 0) ∧ (1 < j → y = 0) ∧ (2 < j → z = 0)) (fun _ i => 3 - (intOf i).toNat)
  case atStart => exact ⟨0, by omega, rfl, by simp, by simp, by simp⟩
  case round =>
    obtain ⟨j, hj, rfl, q0, q1, q2⟩ := hrel
    have hj4 : j = 0 ∨ j = 1 ∨ j = 2 ∨ j = 3 := by omega
    rcases hj4 with rfl | rfl | rfl | rfl
    · by_cases hx : x = 0
      · subst hx
        go_wp2
        go_round
        case rel => exact ⟨1, by omega, by go_num, by simp, by simp, by simp⟩
        case measure => simp [intOf]
      · have hr : (x != 0) = true := by simpa using hx
        go_wp2
        go_ret
        exact ⟨ret_i64 (by have h := HE.out; unfold orI at h; simpa [hx] using h), rfl⟩
    · have e0 := q0 (by omega)
      subst e0
      by_cases hx : y = 0
      · subst hx
        go_wp2
        go_round
        case rel => exact ⟨2, by omega, by go_num, by simp, by simp, by simp⟩
        case measure => simp [intOf]
      · have hr : (y != 0) = true := by simpa using hx
        go_wp2
        go_ret
        exact ⟨ret_i64 (by have h := HE.out; unfold orI at h; simpa [hx] using h), rfl⟩
    · have e0 := q0 (by omega)
      subst e0
      have e1 := q1 (by omega)
      subst e1
      by_cases hx : z = 0
      · subst hx
        go_wp2
        go_round
        case rel => exact ⟨3, by omega, by go_num, by simp, by simp, by simp⟩
        case measure => simp [intOf]
      · have hr : (z != 0) = true := by simpa using hx
        go_wp2
        go_ret
        exact ⟨ret_i64 (by have h := HE.out; unfold orI at h; simpa [hx] using h), rfl⟩
    · have e0 := q0 (by omega)
      have e1 := q1 (by omega)
      have e2 := q2 (by omega)
      subst e0 e1 e2
      go_wp2
      go_ret
      exact ⟨ret_i64 HE.out, rfl⟩

theorem ten_keep {w W W' : World} {x0 x1 x2 x3 x4 y0 y1 y2 y3 y4 : Value} (hb : Below W.heap.size W W')
    (h : W.cell? ⟨w.heap.size, 0, none⟩ = some x0 ∧ W.cell? ⟨w.heap.size, 1, none⟩ = some x1 ∧ W.cell? ⟨w.heap.size, 2, none⟩ = some x2 ∧ W.cell? ⟨w.heap.size, 3, none⟩ = some x3 ∧ W.cell? ⟨w.heap.size, 4, none⟩ = some x4 ∧
      W.cell? ⟨w.heap.size + 1, 0, none⟩ = some y0 ∧ W.cell? ⟨w.heap.size + 1, 1, none⟩ = some y1 ∧ W.cell? ⟨w.heap.size + 1, 2, none⟩ = some y2 ∧ W.cell? ⟨w.heap.size + 1, 3, none⟩ = some y3 ∧ W.cell? ⟨w.heap.size + 1, 4, none⟩ = some y4 ∧ w.heap.size + 1 < W.heap.size ∧ Below w.heap.size w W) :
    W'.cell? ⟨w.heap.size, 0, none⟩ = some x0 ∧ W'.cell? ⟨w.heap.size, 1, none⟩ = some x1 ∧ W'.cell? ⟨w.heap.size, 2, none⟩ = some x2 ∧ W'.cell? ⟨w.heap.size, 3, none⟩ = some x3 ∧ W'.cell? ⟨w.heap.size, 4, none⟩ = some x4 ∧
      W'.cell? ⟨w.heap.size + 1, 0, none⟩ = some y0 ∧ W'.cell? ⟨w.heap.size + 1, 1, none⟩ = some y1 ∧ W'.cell? ⟨w.heap.size + 1, 2, none⟩ = some y2 ∧ W'.cell? ⟨w.heap.size + 1, 3, none⟩ = some y3 ∧ W'.cell? ⟨w.heap.size + 1, 4, none⟩ = some y4 ∧ w.heap.size + 1 < W'.heap.size ∧ Below w.heap.size w W' := by
  obtain ⟨h0, h1, h2, h3, h4, g0, g1, g2, g3, g4, hlt, hB⟩ := h
  obtain ⟨a0, a1, a2, a3, a4⟩ := five_below ⟨h0, h1, h2, h3, h4⟩ (show w.heap.size < W.heap.size by omega) hb
  obtain ⟨b0, b1, b2, b3, b4⟩ := five_below ⟨g0, g1, g2, g3, g4⟩ hlt hb
  exact ⟨a0, a1, a2, a3, a4, b0, b1, b2, b3, b4, Nat.lt_of_lt_of_le hlt hb.size, hB.trans (hb.mono hB.size)⟩

/-- Two boxed versions, read in a later world. -/
def Ten (w W : World) (x0 x1 x2 x3 x4 y0 y1 y2 y3 y4 : Value) : Prop :=
  W.cell? ⟨w.heap.size, 0, none⟩ = some x0 ∧ W.cell? ⟨w.heap.size, 1, none⟩ = some x1 ∧ W.cell? ⟨w.heap.size, 2, none⟩ = some x2 ∧ W.cell? ⟨w.heap.size, 3, none⟩ = some x3 ∧ W.cell? ⟨w.heap.size, 4, none⟩ = some x4 ∧
      W.cell? ⟨w.heap.size + 1, 0, none⟩ = some y0 ∧ W.cell? ⟨w.heap.size + 1, 1, none⟩ = some y1 ∧ W.cell? ⟨w.heap.size + 1, 2, none⟩ = some y2 ∧ W.cell? ⟨w.heap.size + 1, 3, none⟩ = some y3 ∧ W.cell? ⟨w.heap.size + 1, 4, none⟩ = some y4 ∧ w.heap.size + 1 < W.heap.size ∧ Below w.heap.size w W
theorem ten_next {w W W' : World} {x0 x1 x2 x3 x4 y0 y1 y2 y3 y4 : Value} (hb : Below W.heap.size W W') (h : Ten w W x0 x1 x2 x3 x4 y0 y1 y2 y3 y4) :
    Ten w W' x0 x1 x2 x3 x4 y0 y1 y2 y3 y4 ∧ W'.cell? ⟨w.heap.size, 0, none⟩ = some x0 ∧ W'.cell? ⟨w.heap.size, 1, none⟩ = some x1 ∧ W'.cell? ⟨w.heap.size, 2, none⟩ = some x2 ∧ W'.cell? ⟨w.heap.size, 3, none⟩ = some x3 ∧ W'.cell? ⟨w.heap.size, 4, none⟩ = some x4 ∧
      W'.cell? ⟨w.heap.size + 1, 0, none⟩ = some y0 ∧ W'.cell? ⟨w.heap.size + 1, 1, none⟩ = some y1 ∧ W'.cell? ⟨w.heap.size + 1, 2, none⟩ = some y2 ∧ W'.cell? ⟨w.heap.size + 1, 3, none⟩ = some y3 ∧ W'.cell? ⟨w.heap.size + 1, 4, none⟩ = some y4 ∧ w.heap.size + 1 < W'.heap.size ∧ Below w.heap.size w W' :=
  ⟨ten_keep hb h, ten_keep hb h⟩
theorem still_same {P : Program} {f : FuncId} {args : Array Value} {w : World} {v : Value} (h : Calls P f args w fun e w' => e = .returned v ∧ w = w') : Calls P f args w fun e w' => e = .returned v ∧ w' = w :=
  h.mono fun _ _ h => ⟨h.1, h.2.symm⟩
theorem or_or (i j k r : Int) : orI i (orI j (orI k r)) = orI (orI i (orI j k)) r := by
  unfold orI
  by_cases h1 : i = 0 <;> by_cases h2 : j = 0 <;> by_cases h3 : k = 0 <;> simp [h1, h2, h3]
theorem ints_zero {a b : Int} (h : intsI a b = 0) : a = b := by
  unfold intsI at h
  split at h
  · simp at h
  · split at h
    · simp at h
    · omega
theorem ints_same (a : Int) : intsI a a = 0 := by unfold intsI; rw [if_neg (by omega), if_neg (by omega)]
theorem or_zero {i j k : Int} (h : orI i (orI j k) = 0) : i = 0 ∧ j = 0 ∧ k = 0 := by
  unfold orI at h
  split at h
  · split at h
    · exact ⟨by assumption, by assumption, h⟩
    · exact absurd h (by assumption)
  · exact absurd h (by assumption)
theorem comp_core {a b c : Int} {p q : ByteArray} {a' b' c' : Int} {p' q' : ByteArray} (h : eqV a b c p ⟨#[]⟩ a' b' c' p' ⟨#[]⟩ = true) : compV (verS a b c p q) (verS a' b' c' p' q') = 0 := by
  rw [eqV_ver] at h
  have h := of_decide_eq_true h
  simp only [verS, Ver.mk.injEq] at h
  obtain ⟨rfl, rfl, rfl, h, _⟩ := h
  unfold compV verS
  split
  · dsimp only
    rw [h, ints_same, ints_same, ints_same, pres_same rfl]; rfl
  · rfl
/-- Where the cores differ and the numbers are the same, the Pres differ. -/
theorem core_pre {a b c : Int} {p : ByteArray} {a' b' c' : Int} {p' : ByteArray} (h : eqV a b c p ⟨#[]⟩ a' b' c' p' ⟨#[]⟩ = false) (h0 : orI (intsI a a') (orI (intsI b b') (intsI c c')) = 0) : p.data.toList ≠ p'.data.toList := by
  rw [eqV_ver] at h
  have h := of_decide_eq_false h
  obtain ⟨h1, h2, h3⟩ := or_zero h0
  intro e
  apply h
  rw [ints_zero h1, ints_zero h2, ints_zero h3]
  unfold verS
  rw [e]
end Go.Proofs.YthaagngoefieaaaDoor
