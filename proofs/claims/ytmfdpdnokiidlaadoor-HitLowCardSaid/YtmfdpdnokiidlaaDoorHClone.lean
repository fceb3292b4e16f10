/-
  Chapter 36: slices.Clone over ways (the shelf's contract at this instance); the walk of hit.Low's closure Low$1$2, the comparison of two ways. Conditions: rows within the limit; limits and ways from 0 to 2^24.
-/
import Derived.Test.YtmfdpdnokiidlaaDoorHLex
namespace Go.Proofs.YtmfdpdnokiidlaaDoor
open Go.ChangeShapes Go.WideShapes Go.ChangeAt Go.RowKit
set_option linter.unusedVariables false
set_option linter.unusedSimpArgs false

def renClone : Go.Shelf.Ren := ⟨fun | 41 => 32 | n => n, fun | 22 => 48 | 23 => 61 | 4 => 4 | n => n, fun | n => n⟩
theorem layClone : Go.Proofs.SlLaysE0.n41 Tryd.prog renClone := {
  mixed := by kernel_rfl
  f41 := ⟨Tryd.f32.name, by decide, Tryd.func32.trans (congrArg some (by kernel_rfl))⟩
  t4 := Tryd.underlying4
  a4 := Tryd.isAgg4
  z4 := Tryd.sizeOf4
  v4 := Tryd.zeroValue4
  t22 := Tryd.underlying48
  a22 := Tryd.isAgg48
  z22 := Tryd.sizeOf48
  v22 := Tryd.zeroValue48 }
/-- A row of ways of the call's own, from a block's head. -/
def OwnW (w : World) (g : Nat) (l : List Way) : Prop := Own w g (l.flatMap wayCells)
theorem clonew_any (A : Option Addr) (c B : Nat) (l : List Way) (w : World) (h : RdW w B A l) (h0 : 0 < l.length) (hl : l.length ≤ 1000) :
    Calls Tryd.prog 32 #[.slice A l.length c] w fun e w' => (∃ g cap, e = .returned (.slice (some ⟨g, 0, none⟩) l.length cap) ∧ l.length ≤ cap ∧ w.heap.size ≤ g ∧ g < w'.heap.size ∧ OwnW w' g l) ∧ Below w.heap.size w w' := by
  obtain ⟨b, rfl, hb, hc⟩ := h h0
  obtain ⟨j0, hj0, hy0, hy1, hy2⟩ := info_parts info_raise
  refine (AnyE.slices_Clone layClone j0 (.agg #[.int .i64 0, .int .i64 0]) 2 16 hj0 hy0 hy1 hy2 rfl (by omega) Tryd.sizeOf61 b 0 l.length c (l.flatMap wayCells) w (way_flat l) (by unfold maxLen; omega) (by omega) (fun j u hu => ?_) (fun u hu => ?_)).mono ?_
  · have hlt := (List.getElem?_eq_some_iff.1 hu).1
    rw [way_flat] at hlt
    have hx : l[j / 2]? = some l[j / 2] := List.getElem?_eq_getElem (by omega)
    obtain ⟨c0, c1⟩ := hc _ _ hx
    have hf := flat_way l (j / 2) (j % 2) _ hx (by omega)
    rw [show j / 2 * 2 + j % 2 = j by omega, hu] at hf
    rcases (show j % 2 = 0 ∨ j % 2 = 1 by omega) with e | e
    · rw [e] at hf
      cases hf
      rw [Nat.zero_add]
      rw [show j / 2 * 2 = j by omega] at c0
      exact c0
    · rw [e] at hf
      cases hf
      rw [Nat.zero_add]
      rw [show j / 2 * 2 + 1 = j by omega] at c1
      exact c1
  · rw [List.mem_flatMap] at hu
    obtain ⟨r, _, hr⟩ := hu
    unfold wayCells at hr
    simp at hr
    rcases hr with rfl | rfl <;> rfl
  · rintro e w' ⟨v', rfl, hown, hne, hb1⟩
    refine ⟨?_, hb1⟩
    rcases hown.2 with ⟨rfl, _⟩ | ⟨g, cap, cur, rfl, hg, hh, hcap, _⟩
    · exact absurd rfl hne
    · refine ⟨g, cap, rfl, hcap, hg, (Array.getElem?_eq_some_iff.1 hh).1, fun j u hu => ?_, fun o => hown.frozenAt o⟩
      have := hown.cells (g := g) rfl j u hu
      rwa [add_plain, Nat.zero_add] at this
def cmpW (lim : List Int) (a b : Way) : Int := (a.2 - lim.getD a.1 0) - (b.2 - lim.getD b.1 0)
set_option maxHeartbeats 4000000 in
theorem cmpw_any (A' : Option Addr) (c' B bl : Nat) (lim : List Int) (x y : Way) (w : World) (h' : RdI w B A' lim) (hB : B ≤ w.heap.size) (hlm : Lim lim) (hx : x.1 < lim.length ∧ 0 ≤ x.2 ∧ x.2 ≤ 16777216) (hy : y.1 < lim.length ∧ 0 ≤ y.2 ∧ y.2 ≤ 16777216) (hlim : lim.length ≤ 1000000)
    (hli : w.cell? ⟨bl, 0, none⟩ = some (.slice A' lim.length c')) (hbl : bl < w.heap.size) :
    Calls Tryd.prog 34 #[.agg #[.int .i64 (x.1 : Nat), .int .i64 x.2], .agg #[.int .i64 (y.1 : Nat), .int .i64 y.2], .pointer (some ⟨bl, 0, none⟩)] w fun e w' => e = .returned (.int .i64 (cmpW lim x y)) ∧ Below w.heap.size w w' := by
  obtain ⟨b, off, rfl, hb, hc⟩ := rdI_at h' hx.1
  obtain ⟨b2, off2, he, _, hd⟩ := rdI_at h' hy.1
  obtain ⟨rfl, rfl⟩ : b = b2 ∧ off = off2 := by injection he with h1; injection h1 with h1 h2; exact ⟨h1, h2⟩
  clear he h'
  obtain ⟨l0, l1⟩ := lim_at hlm x.1
  obtain ⟨m0, m1⟩ := lim_at hlm y.1
  have i1 : (x.1 : Int) < (lim.length : Int) := by omega
  have i2 : (y.1 : Int) < (lim.length : Int) := by omega
  have HE := Lib.hid (show cmpW lim x y = (x.2 - lim.getD x.1 0) - (y.2 - lim.getD y.1 0) from rfl)
  generalize cmpW lim x y = R at *
  generalize lim.getD x.1 0 = lx at *
  generalize lim.getD y.1 0 = ly at *
  generalize lim.length = n at *
  obtain ⟨u, q⟩ := x
  obtain ⟨v, r⟩ := y
  dsimp only at *
  clear hlm
  have hL := loc_new (loc_new (loc_start w) w.heap.size [.int .i64 (u : Nat), .int .i64 q] 61) (w.heap.size + 1) [.int .i64 (v : Nat), .int .i64 r] 61
  have hbw := hL.1
  have hc1 := (hbw.cell (p := ⟨b, off + u, none⟩) (show b < w.heap.size by omega)).trans hc
  have hd1 := (hbw.cell (p := ⟨b, off + v, none⟩) (show b < w.heap.size by omega)).trans hd
  have hl1 := (hbw.cell (p := ⟨bl, 0, none⟩) hbl).trans hli
  have x0 := (loc_own hL 0 rfl).1 0 _ rfl
  have x1 := (loc_own hL 0 rfl).1 1 _ rfl
  have y0 := (loc_own hL 1 rfl).1 0 _ rfl
  have y1 := (loc_own hL 1 rfl).1 1 _ rfl
  clear hc hd hli
  go_enter Tryd.func34, Tryd.ntmps34
  go_wp2_with fail
  generalize hW : World.alloc (World.alloc w _) _ = W1 at *
  clear hW
  refine wp_region_held_drew (S := fun W => (W.cell? ⟨w.heap.size, 0, none⟩ = some (.int .i64 (u : Nat)) ∧ W.cell? ⟨w.heap.size, 1, none⟩ = some (.int .i64 q)) ∧ (W.cell? ⟨w.heap.size + 1, 0, none⟩ = some (.int .i64 (v : Nat)) ∧ W.cell? ⟨w.heap.size + 1, 1, none⟩ = some (.int .i64 r)) ∧ W.cell? ⟨bl, 0, none⟩ = some (.slice (some ⟨b, off, none⟩) n c') ∧ W.cell? ⟨b, off + u, none⟩ = some (.int .i64 lx) ∧ W.cell? ⟨b, off + v, none⟩ = some (.int .i64 ly)) (by kernel_rfl) ⟨⟨x0, x1⟩, ⟨y0, y1⟩, hl1, hc1, hd1⟩ (fun hHeld => ?_)
  refine takeD (i := 0) (d := some 6) (v := ?_) rfl rfl (by kernel_rfl) (by kernel_rfl) (by kernel_rfl) (fun _ _ _ h => h) (Or.inl ⟨by rfl, ?_⟩) (by assumption) ?_
  rotate_left
  · intro wS hSw; (try dsimp only at hSw); go_simp; (try with_reducible rfl)
  try simp only [Act.put, List.setIfInBounds_toArray, List.set_cons_zero, List.set_cons_succ]
  refine takeD (i := 1) (d := some 7) (v := ?_) rfl rfl (by kernel_rfl) (by kernel_rfl) (by kernel_rfl) (fun _ _ _ h => h) (Or.inl ⟨by rfl, ?_⟩) (by assumption) ?_
  rotate_left
  · intro wS hSw; (try dsimp only at hSw); go_simp; (try with_reducible rfl)
  try simp only [Act.put, List.setIfInBounds_toArray, List.set_cons_zero, List.set_cons_succ]
  refine takeD (i := 2) (d := some 8) (v := ?_) rfl rfl (by kernel_rfl) (by kernel_rfl) (by kernel_rfl) (fun _ _ _ h => h) (Or.inl ⟨by rfl, ?_⟩) (by assumption) ?_
  rotate_left
  · intro wS hSw; (try dsimp only at hSw); go_simp; (try with_reducible rfl)
  try simp only [Act.put, List.setIfInBounds_toArray, List.set_cons_zero, List.set_cons_succ]
  refine takeD (i := 3) (d := some 9) (v := ?_) rfl rfl (by kernel_rfl) (by kernel_rfl) (by kernel_rfl) (fun _ _ _ h => h) (Or.inl ⟨by rfl, ?_⟩) (by assumption) ?_
  rotate_left
  · intro wS hSw; (try dsimp only at hSw); go_simp; (try with_reducible rfl)
  try simp only [Act.put, List.setIfInBounds_toArray, List.set_cons_zero, List.set_cons_succ]
  refine takeD (i := 4) (d := some 10) (v := ?_) rfl rfl (by kernel_rfl) (by kernel_rfl) (by kernel_rfl) (fun _ _ _ h => h) (Or.inl ⟨by rfl, ?_⟩) (by assumption) ?_
  rotate_left
  · intro wS hSw; (try dsimp only at hSw); go_simp; (try with_reducible rfl)
  try simp only [Act.put, List.setIfInBounds_toArray, List.set_cons_zero, List.set_cons_succ]
  refine takeD (i := 5) (d := some 11) (v := ?_) rfl rfl (by kernel_rfl) (by kernel_rfl) (by kernel_rfl) (fun _ _ _ h => h) (Or.inl ⟨by rfl, ?_⟩) (by assumption) ?_
  rotate_left
  · intro wS hSw; (try dsimp only at hSw); go_simp; (try with_reducible rfl)
  try simp only [Act.put, List.setIfInBounds_toArray, List.set_cons_zero, List.set_cons_succ]
  refine takeD (i := 6) (d := some 12) (v := ?_) rfl rfl (by kernel_rfl) (by kernel_rfl) (by kernel_rfl) (fun _ _ _ h => h) (Or.inl ⟨by rfl, ?_⟩) (by assumption) ?_
  rotate_left
  · intro wS hSw; (try dsimp only at hSw); go_simp; (try with_reducible rfl)
  try simp only [Act.put, List.setIfInBounds_toArray, List.set_cons_zero, List.set_cons_succ]
  refine takeD (i := 7) (d := some 13) (v := ?_) rfl rfl (by kernel_rfl) (by kernel_rfl) (by kernel_rfl) (fun _ _ _ h => h) (Or.inl ⟨by rfl, ?_⟩) (by assumption) ?_
  rotate_left
  · intro wS hSw; (try dsimp only at hSw); go_simp; (try with_reducible rfl)
  try simp only [Act.put, List.setIfInBounds_toArray, List.set_cons_zero, List.set_cons_succ]
  refine takeD (i := 8) (d := some 14) (v := ?_) rfl rfl (by kernel_rfl) (by kernel_rfl) (by kernel_rfl) (fun _ _ _ h => h) (Or.inl ⟨by rfl, ?_⟩) (by assumption) ?_
  rotate_left
  · intro wS hSw; (try dsimp only at hSw); go_simp; (try with_reducible rfl)
  try simp only [Act.put, List.setIfInBounds_toArray, List.set_cons_zero, List.set_cons_succ]
  refine takeD (i := 9) (d := some 15) (v := ?_) rfl rfl (by kernel_rfl) (by kernel_rfl) (by kernel_rfl) (fun _ _ _ h => h) (Or.inl ⟨by rfl, ?_⟩) (by assumption) ?_
  rotate_left
  · intro wS hSw; (try dsimp only at hSw); go_simp; (try with_reducible rfl)
  try simp only [Act.put, List.setIfInBounds_toArray, List.set_cons_zero, List.set_cons_succ]
  refine takeD (i := 10) (d := some 16) (v := ?_) rfl rfl (by kernel_rfl) (by kernel_rfl) (by kernel_rfl) (fun _ _ _ h => h) (Or.inl ⟨by rfl, ?_⟩) (by assumption) ?_
  rotate_left
  · intro wS hSw; (try dsimp only at hSw); go_simp; (try with_reducible rfl)
  try simp only [Act.put, List.setIfInBounds_toArray, List.set_cons_zero, List.set_cons_succ]
  refine takeD (i := 11) (d := some 17) (v := ?_) rfl rfl (by kernel_rfl) (by kernel_rfl) (by kernel_rfl) (fun _ _ _ h => h) (Or.inl ⟨by rfl, ?_⟩) (by assumption) ?_
  rotate_left
  · intro wS hSw; (try dsimp only at hSw); go_simp; (try with_reducible rfl)
  try simp only [Act.put, List.setIfInBounds_toArray, List.set_cons_zero, List.set_cons_succ]
  refine takeD (i := 12) (d := some 18) (v := ?_) rfl rfl (by kernel_rfl) (by kernel_rfl) (by kernel_rfl) (fun _ _ _ h => h) (Or.inl ⟨by rfl, ?_⟩) (by assumption) ?_
  rotate_left
  · intro wS hSw; (try dsimp only at hSw); go_simp; (try with_reducible rfl)
  try simp only [Act.put, List.setIfInBounds_toArray, List.set_cons_zero, List.set_cons_succ]
  refine takeD (i := 13) (d := some 19) (v := ?_) rfl rfl (by kernel_rfl) (by kernel_rfl) (by kernel_rfl) (fun _ _ _ h => h) (Or.inl ⟨by rfl, ?_⟩) (by assumption) ?_
  rotate_left
  · intro wS hSw; (try dsimp only at hSw); go_simp; (try with_reducible rfl)
  try simp only [Act.put, List.setIfInBounds_toArray, List.set_cons_zero, List.set_cons_succ]
  refine takeD (i := 14) (d := some 20) (v := ?_) rfl rfl (by kernel_rfl) (by kernel_rfl) (by kernel_rfl) (fun _ _ _ h => h) (Or.inl ⟨by rfl, ?_⟩) (by assumption) ?_
  rotate_left
  · intro wS hSw; (try dsimp only at hSw); go_simp; (try with_reducible rfl)
  try simp only [Act.put, List.setIfInBounds_toArray, List.set_cons_zero, List.set_cons_succ]
  refine takeD (i := 15) (d := some 21) (v := ?_) rfl rfl (by kernel_rfl) (by kernel_rfl) (by kernel_rfl) (fun _ _ _ h => h) (Or.inl ⟨by rfl, ?_⟩) (by assumption) ?_
  rotate_left
  · intro wS hSw; (try dsimp only at hSw); go_simp; (try with_reducible rfl)
  try simp only [Act.put, List.setIfInBounds_toArray, List.set_cons_zero, List.set_cons_succ]
  refine takeD (i := 16) (d := some 22) (v := ?_) rfl rfl (by kernel_rfl) (by kernel_rfl) (by kernel_rfl) (fun _ _ _ h => h) (Or.inl ⟨by rfl, ?_⟩) (by assumption) ?_
  rotate_left
  · intro wS hSw; (try dsimp only at hSw); go_simp; (try with_reducible rfl)
  try simp only [Act.put, List.setIfInBounds_toArray, List.set_cons_zero, List.set_cons_succ]
  refine takeD (i := 17) (d := some 5) (v := ?_) rfl rfl (by kernel_rfl) (by kernel_rfl) (by kernel_rfl) (fun _ _ _ h => h) (Or.inl ⟨by rfl, ?_⟩) (by assumption) ?_
  rotate_left
  · intro wS hSw; (try dsimp only at hSw); go_simp; (try with_reducible rfl)
  try simp only [Act.put, List.setIfInBounds_toArray, List.set_cons_zero, List.set_cons_succ]
  refine wpAnyH_done (by kernel_rfl) ?_ _
  go_wp2_with fail
  go_ret
  exact ⟨ret_i64' (by rw [IntWalk.i64_in (q - lx) (by omega), IntWalk.i64_in (r - ly) (by omega), IntWalk.i64_in _ (by omega)]; exact HE.out.symm), hbw.drew⟩
end Go.Proofs.YtmfdpdnokiidlaaDoor
