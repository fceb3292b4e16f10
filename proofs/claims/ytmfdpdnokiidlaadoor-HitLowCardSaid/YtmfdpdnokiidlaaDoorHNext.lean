/-
  Chapter 36: the walks of linchpinmade's Next and SameInts. Conditions: bounds on the numbers.
-/
import Derived.Test.YtmfdpdnokiidlaaDoorLoc
import Derived.Test.YtmfdpdnokiidlaaDoorDrawn
namespace Go.Proofs.YtmfdpdnokiidlaaDoor
open Go.ChangeShapes Go.WideShapes Go.ChangeAt Go.RowKit
set_option linter.unusedVariables false
set_option linter.unusedSimpArgs false

/-- The i-th number of a list, as one from 0 below n. -/
def nextN (l : List Int) (i n : Nat) : Nat := placeN (atM l i) n
theorem atm_bd {l : List Int} (hw : ∀ z ∈ l, (Lit.int .i64 z).wf = true) (i : Nat) : -9223372036854775808 ≤ atM l i ∧ atM l i ≤ 9223372036854775807 := by
  unfold atM
  split
  · omega
  · rename_i hn
    rw [List.getD_eq_getElem?_getD, List.getElem?_eq_getElem (show i < l.length by omega)]
    exact bounds_i64 (hw _ (List.getElem_mem _))
set_option maxRecDepth 8192 in
set_option maxHeartbeats 2000000 in
theorem next_any (A : Option Addr) (c B bg : Nat) (l : List Int) (i n : Nat) (w w0 : World) (h : RdI w B A l) (hl : l.length ≤ maxLen) (hw : ∀ z ∈ l, (Lit.int .i64 z).wf = true) (hi : i ≤ 1000000) (h0 : 0 < n) (h1 : n ≤ 1048576)
    (hg : Own w bg [.slice A l.length c, .int .i64 (i : Nat)]) (hB : B ≤ bg) :
    Calls Tryd.prog 21 #[.pointer (some ⟨bg, 0, none⟩), .int .i64 n] w fun e w' => e = .returned (.int .i64 (nextN l i n : Nat)) ∧ w' = (w.setCell ⟨bg, 1, none⟩ (.int .i64 ((i : Int) + 1))).drew := by
  have hb := atm_bd hw i
  have ca := fun W h => atm_any A c B l i W h hl (by omega)
  have cp := fun W => place_any (atM l i) n W h0 h1 hb.1 hb.2
  unfold nextN
  generalize atM l i = v at *
  generalize placeN v n = k at *
  have H := Lib.hid h
  have c0 := hg.1 0 _ rfl
  have c1 := hg.1 1 _ rfl
  have cf := hg.2
  have hB1 : Below B w (w.setCell ⟨bg, 1, none⟩ (.int .i64 ((i : Int) + 1))) := (Below.refl B w).setCell hB _
  have s1 : IntKind.i64.wrap ((i : Int) + 1) = ((i + 1 : Nat) : Int) := by rw [show (i : Int) + 1 = ((i + 1 : Nat) : Int) by omega]; exact IntWalk.i64_in _ (by omega)
  have s2 : IntKind.i64.wrap (((i + 1 : Nat) : Int) - 1) = (i : Int) := by rw [show ((i + 1 : Nat) : Int) - 1 = (i : Int) by omega]; exact IntWalk.i64_in _ (by omega)
  have s3 : IntKind.i64.wrap ((i : Int) + 1 - 1) = (i : Int) := by rw [show (i : Int) + 1 - 1 = (i : Int) by omega]; exact IntWalk.i64_in _ (by omega)
  have s4 : IntKind.i64.wrap (i : Int) = (i : Int) := IntWalk.i64_in _ (by omega)
  clear h hw hb
  generalize l.length = m at *
  go_enter Tryd.func21, Tryd.ntmps21
  go_wp2_with fail
  have H1 : RdI (w.setCell ⟨bg, 1, none⟩ (.int .i64 ((i : Int) + 1))) B A l := rdI_below H.out hB1
  have ho := own_set hg 1 (by simp) (.int .i64 ((i : Int) + 1))
  have d0 := ho.1 0 _ rfl
  have d1 := ho.1 1 _ rfl
  generalize hW : w.setCell ⟨bg, 1, none⟩ (.int .i64 ((i : Int) + 1)) = W1 at *
  have HW := Lib.hid hW
  clear hW
  refine wp_region_held_drew (S := fun W => (W.cell? ⟨bg, 0, none⟩ = some (.slice A m c) ∧ W.cell? ⟨bg, 1, none⟩ = some (.int .i64 ((i : Int) + 1))) ∧ RdI W B A l) (by kernel_rfl) ⟨⟨d0, d1⟩, H1⟩ (fun hHeld => ?_)
  refine takeD (i := 0) (d := some 12) (v := ?_) rfl rfl (by kernel_rfl) (by kernel_rfl) (by kernel_rfl) (fun _ _ _ h => h) (Or.inl ⟨by rfl, ?_⟩) (by assumption) ?_
  rotate_left
  · intro wS hSw; (try dsimp only at hSw); go_simp; (try with_reducible rfl)
  try simp only [Act.put, List.setIfInBounds_toArray, List.set_cons_zero, List.set_cons_succ]
  refine takeD (i := 1) (d := some 13) (v := ?_) rfl rfl (by kernel_rfl) (by kernel_rfl) (by kernel_rfl) (fun _ _ _ h => h) (Or.inl ⟨by rfl, ?_⟩) (by assumption) ?_
  rotate_left
  · intro wS hSw; (try dsimp only at hSw); go_simp; (try with_reducible rfl)
  try simp only [Act.put, List.setIfInBounds_toArray, List.set_cons_zero, List.set_cons_succ]
  refine takeD (i := 2) (d := some 14) (v := ?_) rfl rfl (by kernel_rfl) (by kernel_rfl) (by kernel_rfl) (fun _ _ _ h => h) (Or.inl ⟨by rfl, ?_⟩) (by assumption) ?_
  rotate_left
  · intro wS hSw; (try dsimp only at hSw); go_simp; (try with_reducible rfl)
  try simp only [Act.put, List.setIfInBounds_toArray, List.set_cons_zero, List.set_cons_succ]
  refine takeD (i := 3) (d := some 15) (v := ?_) rfl rfl (by kernel_rfl) (by kernel_rfl) (by kernel_rfl) (fun _ _ _ h => h) (Or.inl ⟨by rfl, ?_⟩) (by assumption) ?_
  rotate_left
  · intro wS hSw; (try dsimp only at hSw); go_simp; (try with_reducible rfl)
  try simp only [Act.put, List.setIfInBounds_toArray, List.set_cons_zero, List.set_cons_succ]
  refine takeD (i := 4) (d := some 16) (v := ?_) rfl rfl (by kernel_rfl) (by kernel_rfl) (by kernel_rfl) (fun _ _ _ h => h) (Or.inl ⟨by rfl, ?_⟩) (by assumption) ?_
  rotate_left
  · intro wS hSw; (try dsimp only at hSw); go_simp; (try with_reducible rfl)
  try simp only [Act.put, List.setIfInBounds_toArray, List.set_cons_zero, List.set_cons_succ]
  refine takeD (i := 5) (d := some 17) (v := ?_) rfl rfl (by kernel_rfl) (by kernel_rfl) (by kernel_rfl) (fun _ _ _ h => h) (Or.inl ⟨by rfl, ?_⟩) (by assumption) ?_
  rotate_left
  · intro wS hSw; (try dsimp only at hSw); go_simp; (try with_reducible rfl)
  try simp only [Act.put, List.setIfInBounds_toArray, List.set_cons_zero, List.set_cons_succ]
  refine takeD (i := 6) (d := some 18) (v := ?_) rfl rfl (by kernel_rfl) (by kernel_rfl) (by kernel_rfl) (fun _ _ _ h => h) (Or.inl ⟨by rfl, ?_⟩) (by assumption) ?_
  rotate_left
  · intro wS hSw; (try dsimp only at hSw); go_simp; (try with_reducible rfl)
  try simp only [Act.put, List.setIfInBounds_toArray, List.set_cons_zero, List.set_cons_succ]
  refine takeD (i := 7) (d := some 19) (v := ?_) rfl rfl (by kernel_rfl) (by kernel_rfl) (by kernel_rfl) (fun _ _ _ h => h) (Or.inl ⟨by rfl, ?_⟩) (by assumption) ?_
  rotate_left
  · intro wS hSw; (try dsimp only at hSw); go_simp; (try with_reducible rfl)
  try simp only [Act.put, List.setIfInBounds_toArray, List.set_cons_zero, List.set_cons_succ]
  refine takeD (i := 8) (d := some 20) (v := ?_) rfl rfl (by kernel_rfl) (by kernel_rfl) (by kernel_rfl) (fun _ _ _ h => h) (Or.inl ⟨by rfl, ?_⟩) (by assumption) ?_
  rotate_left
  · intro wS hSw; (try dsimp only at hSw); go_simp; (try with_reducible rfl)
  try simp only [Act.put, List.setIfInBounds_toArray, List.set_cons_zero, List.set_cons_succ]
  refine takeD (i := 10) (d := some 22) (v := ?_) rfl rfl (by kernel_rfl) (by kernel_rfl) (by kernel_rfl) (fun _ _ _ h => h) (Or.inl ⟨by rfl, ?_⟩) (by assumption) ?_
  rotate_left
  · intro wS hSw; (try dsimp only at hSw); go_simp; (try with_reducible rfl)
  try simp only [Act.put, List.setIfInBounds_toArray, List.set_cons_zero, List.set_cons_succ]
  refine wpAnyH_ready (rs := [9]) (by kernel_rfl) (by simp) ?_
  refine consD (d := some 21) rfl rfl (fun K hK => ?_) AllReadyH.nil
  go_simp
  (go_at_call 18; (with_reducible refine (ca _ hHeld.2).mono ?_); rintro e w2 ⟨rfl, rfl⟩)
  refine hK.out _ _ hHeld (fun hHeld => ?_)
  clear hK K
  try simp only [Act.put, List.setIfInBounds_toArray, List.set_cons_zero, List.set_cons_succ]
  refine wpAnyH_ready (rs := [11]) (by kernel_rfl) (by simp) ?_
  refine consD (d := some 23) rfl rfl (fun K hK => ?_) AllReadyH.nil
  go_simp
  (go_at_call 17; (with_reducible refine (cp _).mono ?_); rintro e w3 ⟨rfl, rfl⟩)
  refine hK.out _ _ hHeld (fun hHeld => ?_)
  clear hK K
  try simp only [Act.put, List.setIfInBounds_toArray, List.set_cons_zero, List.set_cons_succ]
  refine takeD (i := 12) (d := some 4) (v := ?_) rfl rfl (by kernel_rfl) (by kernel_rfl) (by kernel_rfl) (fun _ _ _ h => h) (Or.inl ⟨by rfl, ?_⟩) (by assumption) ?_
  rotate_left
  · intro wS hSw; (try dsimp only at hSw); go_simp; (try with_reducible rfl)
  try simp only [Act.put, List.setIfInBounds_toArray, List.set_cons_zero, List.set_cons_succ]
  refine wpAnyH_done (by kernel_rfl) ?_ _
  go_wp2_with fail
  go_ret
  exact ⟨rfl, by rw [HW.out]⟩
end Go.Proofs.YtmfdpdnokiidlaaDoor
