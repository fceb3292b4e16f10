/-
  CompPrints: for every comparator, May and Print return what the reference returns; the string of a valid comparator is parsed to that comparator. Conditions: strconv's and math/bits' tables start as the program's text lays them (the card ties them).
-/
import Derived.Test.YthaagngoefieaaaDoorRows
import Derived.Test.YthaagngoefieaaaDoorCParse
import Derived.Test.YthaagngoefieaaaDoorDrawn
import Derived.Test.YthaagngoefieaaaDoorCards
import Derived.Test.YthaagngoefieaaaDoorTie
import Derived.Test.YthaagngoefieaaaDoorTab
import Derived.LaidMore
import Derived.MakeChecks
import Derived.SevenTiedAt
import Derived.Stop.Joined
import Derived.Test.YthaagngoefieaaaDoorMem
import Derived.WalkKit
import Derived.ProofKit
import Derived.OpenShut
import Derived.ShutString
namespace Go.Proofs.YthaagngoefieaaaDoor.compPrints
open Go.ChangeShapes Go.WideShapes Go.ChangeAt Go.RowKit
open Go.ChangeMaps (open_string shut_string)
set_option linter.unusedVariables false      -- a walk need not use every 'w<i>' (that an integer argument fits its kind)

theorem own : ownKnob Tryd.prog.godebug = none := by kernel_rfl

set_option maxHeartbeats 8000000 in
theorem walk (vo0 vs0 va0 vb0 vc0 : Int) (vp0 vq0 : ByteArray) (w0 : CmpWf vo0 vs0 va0 vb0 vc0 vp0 vq0) (w : World) (hT : Tab w) :
    Calls Tryd.prog 4 #[cvV vo0 vs0 va0 vb0 vc0 vp0 vq0] w fun e w' => e = .returned (.bool true) ∧ Below w.heap.size w w' := by
  have HT := Lib.hid hT
  clear hT w0
  have cm := fun W hp hq => cmay_any vo0 vs0 va0 vb0 vc0 vp0 vq0 W hp hq
  unfold cvV at *
  by_cases h0 : 60 < vp0.size
  · have i0 : (60 : Int) < (vp0.size : Int) := by omega
    go_enter Tryd.func4, Tryd.ntmps4
    go_wp2_with (go_at_call 11; refine (cawake_any _ (tab_below HT.out (box_below w _))).mono ?_; rintro e w1 ⟨rfl, hb1⟩)
    go_ret
    exact ⟨rfl, (box_below w _).trans (hb1.mono (by simp))⟩
  have i0 : ¬ (60 : Int) < (vp0.size : Int) := by omega
  by_cases h1 : 60 < vq0.size
  · have i1 : (60 : Int) < (vq0.size : Int) := by omega
    go_enter Tryd.func4, Tryd.ntmps4
    go_wp2_with (go_at_call 11; refine (cawake_any _ (tab_below HT.out (box_below w _))).mono ?_; rintro e w1 ⟨rfl, hb1⟩)
    go_ret
    exact ⟨rfl, (box_below w _).trans (hb1.mono (by simp))⟩
  have i1 : ¬ (60 : Int) < (vq0.size : Int) := by omega
  have s0 : vp0.size ≤ 1048576 := by omega
  have s2 : vq0.size ≤ 1048576 := by omega
  have m1 := fun W => cm W s0 s2
  have m2 := fun W => rcmay_any vo0 vs0 va0 vb0 vc0 vp0 vq0 W s0 s2
  have cp := fun W h => cprint_any vo0 vs0 va0 vb0 vc0 vp0 vq0 W h s0 s2
  have cq := fun W => rcprint_any vo0 vs0 va0 vb0 vc0 vp0 vq0 W s0 s2
  unfold cvV at m2 cp cq
  clear cm
  cases hm : mayC (cmpS vo0 vs0 va0 vb0 vc0 vp0 vq0)
  · have hp := printC_no hm
    have cr := fun W h => parse6_any ⟨#[]⟩ W h (by decide)
    rw [show parseP (⟨#[]⟩ : ByteArray).data.toList = none from by decide +kernel] at cr
    dsimp only [parse6V] at cr
    rw [hp] at cp cq
    rw [hm] at m1 m2
    clear hm hp
    go_enter Tryd.func4, Tryd.ntmps4
    go_wp2_with fail
    have hL := loc_new (loc_start w) w.heap.size [.int .i64 vo0, .int .i64 vs0, .int .i64 va0, .int .i64 vb0, .int .i64 vc0, .string vp0, .string vq0] 26
    generalize hW : World.alloc _ _ = W0
    have hL : Loc w W0 [(w.heap.size, [.int .i64 vo0, .int .i64 vs0, .int .i64 va0, .int .i64 vb0, .int .i64 vc0, .string vp0, .string vq0])] := by rw [← hW]; exact hL
    clear hW
    refine (cp _ (tab_below HT.out hL.1)).mono ?_
    rintro e w1 ⟨rfl, hb⟩
    have hL := loc_call hL hb
    clear hb
    go_wp2_with fail
    refine (cr _ (tab_below HT.out hL.1)).mono ?_
    rintro e w2 ⟨rfl, hb⟩
    have hL := loc_new (loc_call hL hb) w2.heap.size [.int .i64 0, .int .i64 0, .int .i64 0, .int .i64 0, .int .i64 0, .string ⟨#[]⟩, .string ⟨#[]⟩] 26
    clear hb
    go_wp2_with fail
    generalize hW : World.alloc _ _ = W3
    have hL : Loc w W3 [(w.heap.size, [.int .i64 vo0, .int .i64 vs0, .int .i64 va0, .int .i64 vb0, .int .i64 vc0, .string vp0, .string vq0]), (w2.heap.size, [.int .i64 0, .int .i64 0, .int .i64 0, .int .i64 0, .int .i64 0, .string ⟨#[]⟩, .string ⟨#[]⟩])] := by rw [← hW]; exact hL
    clear hW
    have hLd := loc_drew hL
    generalize w2.heap.size = b2 at *
    refine wp_region_held_drew (S := fun W => (W.cell? ⟨w.heap.size, 0, none⟩ = some (.int .i64 vo0) ∧ W.cell? ⟨w.heap.size, 1, none⟩ = some (.int .i64 vs0) ∧ W.cell? ⟨w.heap.size, 2, none⟩ = some (.int .i64 va0) ∧ W.cell? ⟨w.heap.size, 3, none⟩ = some (.int .i64 vb0) ∧ W.cell? ⟨w.heap.size, 4, none⟩ = some (.int .i64 vc0) ∧ W.cell? ⟨w.heap.size, 5, none⟩ = some (.string vp0) ∧ W.cell? ⟨w.heap.size, 6, none⟩ = some (.string vq0)) ∧ (W.cell? ⟨b2, 0, none⟩ = some (.int .i64 0) ∧ W.cell? ⟨b2, 1, none⟩ = some (.int .i64 0) ∧ W.cell? ⟨b2, 2, none⟩ = some (.int .i64 0) ∧ W.cell? ⟨b2, 3, none⟩ = some (.int .i64 0) ∧ W.cell? ⟨b2, 4, none⟩ = some (.int .i64 0) ∧ W.cell? ⟨b2, 5, none⟩ = some (.string ⟨#[]⟩) ∧ W.cell? ⟨b2, 6, none⟩ = some (.string ⟨#[]⟩)) ∧ Loc w W [(w.heap.size, [.int .i64 vo0, .int .i64 vs0, .int .i64 va0, .int .i64 vb0, .int .i64 vc0, .string vp0, .string vq0]), (b2, [.int .i64 0, .int .i64 0, .int .i64 0, .int .i64 0, .int .i64 0, .string ⟨#[]⟩, .string ⟨#[]⟩])]) (by kernel_rfl) ⟨cells7L (loc_own hLd 0 rfl).1, cells7L (loc_own hLd 1 rfl).1, hLd⟩ (fun hHeld => ?_)
    refine wpAnyH_ready (rs := [0]) (by kernel_rfl) (by simp) ?_
    refine consD (d := some 26) rfl rfl (fun K hK => ?_) AllReadyH.nil
    go_simp
    (go_at_call 11; (with_reducible refine (cawake_any _ (tab_below HT.out (loc_below hHeld.2.2))).mono ?_); rintro e w4 ⟨rfl, hb4⟩)
    have hM := loc_call hHeld.2.2 hb4
    refine hK.out _ _ ⟨cells7L (loc_own hM 0 rfl).1, cells7L (loc_own hM 1 rfl).1, hM⟩ (fun hHeld => ?_)
    clear hK K
    try simp only [Act.put, List.setIfInBounds_toArray, List.set_cons_zero, List.set_cons_succ]
    refine takeD (i := 1) (d := some 27) (v := ?_) rfl rfl (by kernel_rfl) (by kernel_rfl) (by kernel_rfl) (fun _ _ _ h => h) (Or.inl ⟨by rfl, ?_⟩) (by assumption) ?_
    rotate_left
    · intro wS hSw; (try dsimp only at hSw); go_simp; (try with_reducible rfl)
    try simp only [Act.put, List.setIfInBounds_toArray, List.set_cons_zero, List.set_cons_succ]
    refine takeD (i := 2) (d := some 28) (v := ?_) rfl rfl (by kernel_rfl) (by kernel_rfl) (by kernel_rfl) (fun _ _ _ h => h) (Or.inl ⟨by rfl, ?_⟩) (by assumption) ?_
    rotate_left
    · intro wS hSw; (try dsimp only at hSw); go_simp; (try with_reducible rfl)
    try simp only [Act.put, List.setIfInBounds_toArray, List.set_cons_zero, List.set_cons_succ]
    refine takeD (i := 4) (d := some 30) (v := ?_) rfl rfl (by kernel_rfl) (by kernel_rfl) (by kernel_rfl) (fun _ _ _ h => h) (Or.inl ⟨by rfl, ?_⟩) (by assumption) ?_
    rotate_left
    · intro wS hSw; (try dsimp only at hSw); go_simp; (try with_reducible rfl)
    try simp only [Act.put, List.setIfInBounds_toArray, List.set_cons_zero, List.set_cons_succ]
    refine wpAnyH_ready (rs := [3]) (by kernel_rfl) (by simp) ?_
    refine consD (d := some 29) rfl rfl (fun K hK => ?_) AllReadyH.nil
    go_simp
    (go_at_call 15; (with_reducible refine (m1 _).mono ?_); rintro e w4 ⟨rfl, hb4⟩)
    have hM := loc_call hHeld.2.2 hb4
    refine hK.out _ _ ⟨cells7L (loc_own hM 0 rfl).1, cells7L (loc_own hM 1 rfl).1, hM⟩ (fun hHeld => ?_)
    clear hK K
    try simp only [Act.put, List.setIfInBounds_toArray, List.set_cons_zero, List.set_cons_succ]
    refine wpAnyH_ready (rs := [5]) (by kernel_rfl) (by simp) ?_
    refine consD (d := some 31) rfl rfl (fun K hK => ?_) AllReadyH.nil
    go_simp
    (go_at_call 16; (with_reducible refine (m2 _).mono ?_); rintro e w4 ⟨rfl, hb4⟩)
    have hM := loc_call hHeld.2.2 hb4
    refine hK.out _ _ ⟨cells7L (loc_own hM 0 rfl).1, cells7L (loc_own hM 1 rfl).1, hM⟩ (fun hHeld => ?_)
    clear hK K
    try simp only [Act.put, List.setIfInBounds_toArray, List.set_cons_zero, List.set_cons_succ]
    refine takeD (i := 6) (d := some 32) (v := ?_) rfl rfl (by kernel_rfl) (by kernel_rfl) (by kernel_rfl) (fun _ _ _ h => h) (Or.inl ⟨by rfl, ?_⟩) (by assumption) ?_
    rotate_left
    · intro wS hSw; (try dsimp only at hSw); go_simp; (try with_reducible rfl)
    try simp only [Act.put, List.setIfInBounds_toArray, List.set_cons_zero, List.set_cons_succ]
    refine takeD (i := 7) (d := some 33) (v := ?_) rfl rfl (by kernel_rfl) (by kernel_rfl) (by kernel_rfl) (fun _ _ _ h => h) (Or.inl ⟨by rfl, ?_⟩) (by assumption) ?_
    rotate_left
    · intro wS hSw; (try dsimp only at hSw); go_simp; (try with_reducible rfl)
    try simp only [Act.put, List.setIfInBounds_toArray, List.set_cons_zero, List.set_cons_succ]
    refine takeD (i := 8) (d := some 34) (v := ?_) rfl rfl (by kernel_rfl) (by kernel_rfl) (by kernel_rfl) (fun _ _ _ h => h) (Or.inl ⟨by rfl, ?_⟩) (by assumption) ?_
    rotate_left
    · intro wS hSw; (try dsimp only at hSw); go_simp; (try with_reducible rfl)
    try simp only [Act.put, List.setIfInBounds_toArray, List.set_cons_zero, List.set_cons_succ]
    refine takeD (i := 9) (d := some 35) (v := ?_) rfl rfl (by kernel_rfl) (by kernel_rfl) (by kernel_rfl) (fun _ _ _ h => h) (Or.inl ⟨by rfl, ?_⟩) (by assumption) ?_
    rotate_left
    · intro wS hSw; (try dsimp only at hSw); go_simp; (try with_reducible rfl)
    try simp only [Act.put, List.setIfInBounds_toArray, List.set_cons_zero, List.set_cons_succ]
    refine takeD (i := 10) (d := some 36) (v := ?_) rfl rfl (by kernel_rfl) (by kernel_rfl) (by kernel_rfl) (fun _ _ _ h => h) (Or.inl ⟨by rfl, ?_⟩) (by assumption) ?_
    rotate_left
    · intro wS hSw; (try dsimp only at hSw); go_simp; (try with_reducible rfl)
    try simp only [Act.put, List.setIfInBounds_toArray, List.set_cons_zero, List.set_cons_succ]
    refine wpAnyH_ready (rs := [11]) (by kernel_rfl) (by simp) ?_
    refine consD (d := some 37) rfl rfl (fun K hK => ?_) AllReadyH.nil
    go_simp
    (go_at_call 17; (with_reducible refine (cq _).mono ?_); rintro e w4 ⟨rfl, hb4⟩)
    have hM := loc_call hHeld.2.2 hb4
    refine hK.out _ _ ⟨cells7L (loc_own hM 0 rfl).1, cells7L (loc_own hM 1 rfl).1, hM⟩ (fun hHeld => ?_)
    clear hK K
    try simp only [Act.put, List.setIfInBounds_toArray, List.set_cons_zero, List.set_cons_succ]
    refine takeD (i := 12) (d := some 38) (v := ?_) rfl rfl (by kernel_rfl) (by kernel_rfl) (by kernel_rfl) (fun _ _ _ h => h) (Or.inl ⟨by rfl, ?_⟩) (by assumption) ?_
    rotate_left
    · intro wS hSw; (try dsimp only at hSw); go_simp; (try with_reducible rfl)
    try simp only [Act.put, List.setIfInBounds_toArray, List.set_cons_zero, List.set_cons_succ]
    refine takeD (i := 13) (d := some 39) (v := ?_) rfl rfl (by kernel_rfl) (by kernel_rfl) (by kernel_rfl) (fun _ _ _ h => h) (Or.inl ⟨by rfl, ?_⟩) (by assumption) ?_
    rotate_left
    · intro wS hSw; (try dsimp only at hSw); go_simp; (try with_reducible rfl)
    try simp only [Act.put, List.setIfInBounds_toArray, List.set_cons_zero, List.set_cons_succ]
    refine takeD (i := 14) (d := some 40) (v := ?_) rfl rfl (by kernel_rfl) (by kernel_rfl) (by kernel_rfl) (fun _ _ _ h => h) (Or.inl ⟨by rfl, ?_⟩) (by assumption) ?_
    rotate_left
    · intro wS hSw; (try dsimp only at hSw); go_simp; (try with_reducible rfl)
    try simp only [Act.put, List.setIfInBounds_toArray, List.set_cons_zero, List.set_cons_succ]
    refine takeD (i := 15) (d := some 41) (v := ?_) rfl rfl (by kernel_rfl) (by kernel_rfl) (by kernel_rfl) (fun _ _ _ h => h) (Or.inl ⟨by rfl, ?_⟩) (by assumption) ?_
    rotate_left
    · intro wS hSw; (try dsimp only at hSw); go_simp; (try with_reducible rfl)
    try simp only [Act.put, List.setIfInBounds_toArray, List.set_cons_zero, List.set_cons_succ]
    refine wpAnyH_ready (rs := [16]) (by kernel_rfl) (by simp) ?_
    refine consD (d := some 42) rfl rfl (fun K hK => ?_) AllReadyH.nil
    go_simp
    (go_at_call 16; (with_reducible refine (m2 _).mono ?_); rintro e w4 ⟨rfl, hb4⟩)
    have hM := loc_call hHeld.2.2 hb4
    refine hK.out _ _ ⟨cells7L (loc_own hM 0 rfl).1, cells7L (loc_own hM 1 rfl).1, hM⟩ (fun hHeld => ?_)
    clear hK K
    try simp only [Act.put, List.setIfInBounds_toArray, List.set_cons_zero, List.set_cons_succ]
    refine takeD (i := 17) (d := some 43) (v := ?_) rfl rfl (by kernel_rfl) (by kernel_rfl) (by kernel_rfl) (fun _ _ _ h => h) (Or.inl ⟨by rfl, ?_⟩) (by assumption) ?_
    rotate_left
    · intro wS hSw; (try dsimp only at hSw); go_simp; (try with_reducible rfl)
    try simp only [Act.put, List.setIfInBounds_toArray, List.set_cons_zero, List.set_cons_succ]
    refine takeD (i := 18) (d := some 44) (v := ?_) rfl rfl (by kernel_rfl) (by kernel_rfl) (by kernel_rfl) (fun _ _ _ h => h) (Or.inl ⟨by rfl, ?_⟩) (by assumption) ?_
    rotate_left
    · intro wS hSw; (try dsimp only at hSw); go_simp; (try with_reducible rfl)
    try simp only [Act.put, List.setIfInBounds_toArray, List.set_cons_zero, List.set_cons_succ]
    refine takeD (i := 19) (d := some 45) (v := undef) rfl rfl (by kernel_rfl) (by kernel_rfl) (by kernel_rfl) (fun _ _ _ h => h) (Or.inr ⟨by rfl, rfl⟩) (by assumption) ?_
    try simp only [Act.put, List.setIfInBounds_toArray, List.set_cons_zero, List.set_cons_succ]
    refine takeD (i := 20) (d := some 46) (v := undef) rfl rfl (by kernel_rfl) (by kernel_rfl) (by kernel_rfl) (fun _ _ _ h => h) (Or.inr ⟨by rfl, rfl⟩) (by assumption) ?_
    try simp only [Act.put, List.setIfInBounds_toArray, List.set_cons_zero, List.set_cons_succ]
    refine takeD (i := 21) (d := some 47) (v := undef) rfl rfl (by kernel_rfl) (by kernel_rfl) (by kernel_rfl) (fun _ _ _ h => h) (Or.inr ⟨by rfl, rfl⟩) (by assumption) ?_
    try simp only [Act.put, List.setIfInBounds_toArray, List.set_cons_zero, List.set_cons_succ]
    refine takeD (i := 22) (d := some 48) (v := undef) rfl rfl (by kernel_rfl) (by kernel_rfl) (by kernel_rfl) (fun _ _ _ h => h) (Or.inr ⟨by rfl, rfl⟩) (by assumption) ?_
    try simp only [Act.put, List.setIfInBounds_toArray, List.set_cons_zero, List.set_cons_succ]
    refine takeD (i := 23) (d := some 49) (v := undef) rfl rfl (by kernel_rfl) (by kernel_rfl) (by kernel_rfl) (fun _ _ _ h => h) (Or.inr ⟨by rfl, rfl⟩) (by assumption) ?_
    try simp only [Act.put, List.setIfInBounds_toArray, List.set_cons_zero, List.set_cons_succ]
    refine takeD (i := 24) (d := some 50) (v := undef) rfl rfl (by kernel_rfl) (by kernel_rfl) (by kernel_rfl) (fun _ _ _ h => h) (Or.inr ⟨by rfl, rfl⟩) (by assumption) ?_
    try simp only [Act.put, List.setIfInBounds_toArray, List.set_cons_zero, List.set_cons_succ]
    refine takeD (i := 25) (d := some 51) (v := undef) rfl rfl (by kernel_rfl) (by kernel_rfl) (by kernel_rfl) (fun _ _ _ h => h) (Or.inr ⟨by rfl, rfl⟩) (by assumption) ?_
    try simp only [Act.put, List.setIfInBounds_toArray, List.set_cons_zero, List.set_cons_succ]
    refine takeD (i := 26) (d := some 52) (v := ?_) rfl rfl (by kernel_rfl) (by kernel_rfl) (by kernel_rfl) (fun _ _ _ h => h) (Or.inl ⟨by rfl, ?_⟩) (by assumption) ?_
    rotate_left
    · intro wS hSw; (try dsimp only at hSw); go_simp; (try with_reducible rfl)
    try simp only [Act.put, List.setIfInBounds_toArray, List.set_cons_zero, List.set_cons_succ]
    refine takeD (i := 27) (d := some 53) (v := ?_) rfl rfl (by kernel_rfl) (by kernel_rfl) (by kernel_rfl) (fun _ _ _ h => h) (Or.inl ⟨by rfl, ?_⟩) (by assumption) ?_
    rotate_left
    · intro wS hSw; (try dsimp only at hSw); go_simp; (try with_reducible rfl)
    try simp only [Act.put, List.setIfInBounds_toArray, List.set_cons_zero, List.set_cons_succ]
    refine takeD (i := 28) (d := some 2) (v := ?_) rfl rfl (by kernel_rfl) (by kernel_rfl) (by kernel_rfl) (fun _ _ _ h => h) (Or.inl ⟨by rfl, ?_⟩) (by assumption) ?_
    rotate_left
    · intro wS hSw; (try dsimp only at hSw); go_simp; (try with_reducible rfl)
    try simp only [Act.put, List.setIfInBounds_toArray, List.set_cons_zero, List.set_cons_succ]
    refine wpAnyH_done (by kernel_rfl) ?_ _
    go_wp2_with fail
    go_ret
    exact ⟨rfl, loc_below hHeld.2.2⟩
  · have hpp := parse_print_c hm
    have hl := printC_len hm (show (cmpS vo0 vs0 va0 vb0 vc0 vp0 vq0).v.pre.length ≤ 60 by show vp0.data.toList.length ≤ 60; rw [len_size]; omega)
    generalize hPV : printC (cmpS vo0 vs0 va0 vb0 vc0 vp0 vq0) = PV at *
    have cr : ∀ W : World, Tab W → Calls Tryd.prog 12 #[.string ⟨PV.toArray⟩] W fun e w' => e = .returned (.tuple #[.agg #[.int .i64 vo0, .int .i64 vs0, .int .i64 va0, .int .i64 vb0, .int .i64 vc0, .string vp0, .string vq0], .int .i64 0]) ∧ Below W.heap.size W w' := by
      intro W h
      have h1 := parse6_any ⟨PV.toArray⟩ W h (by rw [str_size]; omega)
      rw [show (⟨PV.toArray⟩ : ByteArray).data.toList = PV from rfl, hpp] at h1
      dsimp only [parse6V, cvC, cmpS, verS] at h1
      rw [back, back] at h1
      exact h1
    rw [hm] at m1 m2
    generalize (⟨PV.toArray⟩ : ByteArray) = pv at *
    clear hm hl hpp hPV
    go_enter Tryd.func4, Tryd.ntmps4
    go_wp2_with fail
    have hL := loc_new (loc_start w) w.heap.size [.int .i64 vo0, .int .i64 vs0, .int .i64 va0, .int .i64 vb0, .int .i64 vc0, .string vp0, .string vq0] 26
    generalize hW : World.alloc _ _ = W0
    have hL : Loc w W0 [(w.heap.size, [.int .i64 vo0, .int .i64 vs0, .int .i64 va0, .int .i64 vb0, .int .i64 vc0, .string vp0, .string vq0])] := by rw [← hW]; exact hL
    clear hW
    refine (cp _ (tab_below HT.out hL.1)).mono ?_
    rintro e w1 ⟨rfl, hb⟩
    have hL := loc_call hL hb
    clear hb
    go_wp2_with fail
    refine (cr _ (tab_below HT.out hL.1)).mono ?_
    rintro e w2 ⟨rfl, hb⟩
    have hL := loc_new (loc_call hL hb) w2.heap.size [.int .i64 vo0, .int .i64 vs0, .int .i64 va0, .int .i64 vb0, .int .i64 vc0, .string vp0, .string vq0] 26
    clear hb
    go_wp2_with fail
    generalize hW : World.alloc _ _ = W3
    have hL : Loc w W3 [(w.heap.size, [.int .i64 vo0, .int .i64 vs0, .int .i64 va0, .int .i64 vb0, .int .i64 vc0, .string vp0, .string vq0]), (w2.heap.size, [.int .i64 vo0, .int .i64 vs0, .int .i64 va0, .int .i64 vb0, .int .i64 vc0, .string vp0, .string vq0])] := by rw [← hW]; exact hL
    clear hW
    have hLd := loc_drew hL
    generalize w2.heap.size = b2 at *
    refine wp_region_held_drew (S := fun W => (W.cell? ⟨w.heap.size, 0, none⟩ = some (.int .i64 vo0) ∧ W.cell? ⟨w.heap.size, 1, none⟩ = some (.int .i64 vs0) ∧ W.cell? ⟨w.heap.size, 2, none⟩ = some (.int .i64 va0) ∧ W.cell? ⟨w.heap.size, 3, none⟩ = some (.int .i64 vb0) ∧ W.cell? ⟨w.heap.size, 4, none⟩ = some (.int .i64 vc0) ∧ W.cell? ⟨w.heap.size, 5, none⟩ = some (.string vp0) ∧ W.cell? ⟨w.heap.size, 6, none⟩ = some (.string vq0)) ∧ (W.cell? ⟨b2, 0, none⟩ = some (.int .i64 vo0) ∧ W.cell? ⟨b2, 1, none⟩ = some (.int .i64 vs0) ∧ W.cell? ⟨b2, 2, none⟩ = some (.int .i64 va0) ∧ W.cell? ⟨b2, 3, none⟩ = some (.int .i64 vb0) ∧ W.cell? ⟨b2, 4, none⟩ = some (.int .i64 vc0) ∧ W.cell? ⟨b2, 5, none⟩ = some (.string vp0) ∧ W.cell? ⟨b2, 6, none⟩ = some (.string vq0)) ∧ Loc w W [(w.heap.size, [.int .i64 vo0, .int .i64 vs0, .int .i64 va0, .int .i64 vb0, .int .i64 vc0, .string vp0, .string vq0]), (b2, [.int .i64 vo0, .int .i64 vs0, .int .i64 va0, .int .i64 vb0, .int .i64 vc0, .string vp0, .string vq0])]) (by kernel_rfl) ⟨cells7L (loc_own hLd 0 rfl).1, cells7L (loc_own hLd 1 rfl).1, hLd⟩ (fun hHeld => ?_)
    refine wpAnyH_ready (rs := [0]) (by kernel_rfl) (by simp) ?_
    refine consD (d := some 26) rfl rfl (fun K hK => ?_) AllReadyH.nil
    go_simp
    (go_at_call 11; (with_reducible refine (cawake_any _ (tab_below HT.out (loc_below hHeld.2.2))).mono ?_); rintro e w4 ⟨rfl, hb4⟩)
    have hM := loc_call hHeld.2.2 hb4
    refine hK.out _ _ ⟨cells7L (loc_own hM 0 rfl).1, cells7L (loc_own hM 1 rfl).1, hM⟩ (fun hHeld => ?_)
    clear hK K
    try simp only [Act.put, List.setIfInBounds_toArray, List.set_cons_zero, List.set_cons_succ]
    refine takeD (i := 1) (d := some 27) (v := ?_) rfl rfl (by kernel_rfl) (by kernel_rfl) (by kernel_rfl) (fun _ _ _ h => h) (Or.inl ⟨by rfl, ?_⟩) (by assumption) ?_
    rotate_left
    · intro wS hSw; (try dsimp only at hSw); go_simp; (try with_reducible rfl)
    try simp only [Act.put, List.setIfInBounds_toArray, List.set_cons_zero, List.set_cons_succ]
    refine takeD (i := 2) (d := some 28) (v := ?_) rfl rfl (by kernel_rfl) (by kernel_rfl) (by kernel_rfl) (fun _ _ _ h => h) (Or.inl ⟨by rfl, ?_⟩) (by assumption) ?_
    rotate_left
    · intro wS hSw; (try dsimp only at hSw); go_simp; (try with_reducible rfl)
    try simp only [Act.put, List.setIfInBounds_toArray, List.set_cons_zero, List.set_cons_succ]
    refine takeD (i := 4) (d := some 30) (v := ?_) rfl rfl (by kernel_rfl) (by kernel_rfl) (by kernel_rfl) (fun _ _ _ h => h) (Or.inl ⟨by rfl, ?_⟩) (by assumption) ?_
    rotate_left
    · intro wS hSw; (try dsimp only at hSw); go_simp; (try with_reducible rfl)
    try simp only [Act.put, List.setIfInBounds_toArray, List.set_cons_zero, List.set_cons_succ]
    refine wpAnyH_ready (rs := [3]) (by kernel_rfl) (by simp) ?_
    refine consD (d := some 29) rfl rfl (fun K hK => ?_) AllReadyH.nil
    go_simp
    (go_at_call 15; (with_reducible refine (m1 _).mono ?_); rintro e w4 ⟨rfl, hb4⟩)
    have hM := loc_call hHeld.2.2 hb4
    refine hK.out _ _ ⟨cells7L (loc_own hM 0 rfl).1, cells7L (loc_own hM 1 rfl).1, hM⟩ (fun hHeld => ?_)
    clear hK K
    try simp only [Act.put, List.setIfInBounds_toArray, List.set_cons_zero, List.set_cons_succ]
    refine wpAnyH_ready (rs := [5]) (by kernel_rfl) (by simp) ?_
    refine consD (d := some 31) rfl rfl (fun K hK => ?_) AllReadyH.nil
    go_simp
    (go_at_call 16; (with_reducible refine (m2 _).mono ?_); rintro e w4 ⟨rfl, hb4⟩)
    have hM := loc_call hHeld.2.2 hb4
    refine hK.out _ _ ⟨cells7L (loc_own hM 0 rfl).1, cells7L (loc_own hM 1 rfl).1, hM⟩ (fun hHeld => ?_)
    clear hK K
    try simp only [Act.put, List.setIfInBounds_toArray, List.set_cons_zero, List.set_cons_succ]
    refine takeD (i := 6) (d := some 32) (v := ?_) rfl rfl (by kernel_rfl) (by kernel_rfl) (by kernel_rfl) (fun _ _ _ h => h) (Or.inl ⟨by rfl, ?_⟩) (by assumption) ?_
    rotate_left
    · intro wS hSw; (try dsimp only at hSw); go_simp; (try with_reducible rfl)
    try simp only [Act.put, List.setIfInBounds_toArray, List.set_cons_zero, List.set_cons_succ]
    refine takeD (i := 7) (d := some 33) (v := ?_) rfl rfl (by kernel_rfl) (by kernel_rfl) (by kernel_rfl) (fun _ _ _ h => h) (Or.inl ⟨by rfl, ?_⟩) (by assumption) ?_
    rotate_left
    · intro wS hSw; (try dsimp only at hSw); go_simp; (try with_reducible rfl)
    try simp only [Act.put, List.setIfInBounds_toArray, List.set_cons_zero, List.set_cons_succ]
    refine takeD (i := 8) (d := some 34) (v := ?_) rfl rfl (by kernel_rfl) (by kernel_rfl) (by kernel_rfl) (fun _ _ _ h => h) (Or.inl ⟨by rfl, ?_⟩) (by assumption) ?_
    rotate_left
    · intro wS hSw; (try dsimp only at hSw); go_simp; (try with_reducible rfl)
    try simp only [Act.put, List.setIfInBounds_toArray, List.set_cons_zero, List.set_cons_succ]
    refine takeD (i := 9) (d := some 35) (v := ?_) rfl rfl (by kernel_rfl) (by kernel_rfl) (by kernel_rfl) (fun _ _ _ h => h) (Or.inl ⟨by rfl, ?_⟩) (by assumption) ?_
    rotate_left
    · intro wS hSw; (try dsimp only at hSw); go_simp; (try with_reducible rfl)
    try simp only [Act.put, List.setIfInBounds_toArray, List.set_cons_zero, List.set_cons_succ]
    refine takeD (i := 10) (d := some 36) (v := ?_) rfl rfl (by kernel_rfl) (by kernel_rfl) (by kernel_rfl) (fun _ _ _ h => h) (Or.inl ⟨by rfl, ?_⟩) (by assumption) ?_
    rotate_left
    · intro wS hSw; (try dsimp only at hSw); go_simp; (try with_reducible rfl)
    try simp only [Act.put, List.setIfInBounds_toArray, List.set_cons_zero, List.set_cons_succ]
    refine wpAnyH_ready (rs := [11]) (by kernel_rfl) (by simp) ?_
    refine consD (d := some 37) rfl rfl (fun K hK => ?_) AllReadyH.nil
    go_simp
    (go_at_call 17; (with_reducible refine (cq _).mono ?_); rintro e w4 ⟨rfl, hb4⟩)
    have hM := loc_call hHeld.2.2 hb4
    refine hK.out _ _ ⟨cells7L (loc_own hM 0 rfl).1, cells7L (loc_own hM 1 rfl).1, hM⟩ (fun hHeld => ?_)
    clear hK K
    try simp only [Act.put, List.setIfInBounds_toArray, List.set_cons_zero, List.set_cons_succ]
    refine takeD (i := 12) (d := some 38) (v := ?_) rfl rfl (by kernel_rfl) (by kernel_rfl) (by kernel_rfl) (fun _ _ _ h => h) (Or.inl ⟨by rfl, ?_⟩) (by assumption) ?_
    rotate_left
    · intro wS hSw; (try dsimp only at hSw); go_simp; (try with_reducible rfl)
    try simp only [Act.put, List.setIfInBounds_toArray, List.set_cons_zero, List.set_cons_succ]
    refine takeD (i := 13) (d := some 39) (v := ?_) rfl rfl (by kernel_rfl) (by kernel_rfl) (by kernel_rfl) (fun _ _ _ h => h) (Or.inl ⟨by rfl, ?_⟩) (by assumption) ?_
    rotate_left
    · intro wS hSw; (try dsimp only at hSw); go_simp; (try with_reducible rfl)
    try simp only [Act.put, List.setIfInBounds_toArray, List.set_cons_zero, List.set_cons_succ]
    refine takeD (i := 14) (d := some 40) (v := ?_) rfl rfl (by kernel_rfl) (by kernel_rfl) (by kernel_rfl) (fun _ _ _ h => h) (Or.inl ⟨by rfl, ?_⟩) (by assumption) ?_
    rotate_left
    · intro wS hSw; (try dsimp only at hSw); go_simp; (try with_reducible rfl)
    try simp only [Act.put, List.setIfInBounds_toArray, List.set_cons_zero, List.set_cons_succ]
    refine takeD (i := 15) (d := some 41) (v := ?_) rfl rfl (by kernel_rfl) (by kernel_rfl) (by kernel_rfl) (fun _ _ _ h => h) (Or.inl ⟨by rfl, ?_⟩) (by assumption) ?_
    rotate_left
    · intro wS hSw; (try dsimp only at hSw); go_simp; (try with_reducible rfl)
    try simp only [Act.put, List.setIfInBounds_toArray, List.set_cons_zero, List.set_cons_succ]
    refine wpAnyH_ready (rs := [16]) (by kernel_rfl) (by simp) ?_
    refine consD (d := some 42) rfl rfl (fun K hK => ?_) AllReadyH.nil
    go_simp
    (go_at_call 16; (with_reducible refine (m2 _).mono ?_); rintro e w4 ⟨rfl, hb4⟩)
    have hM := loc_call hHeld.2.2 hb4
    refine hK.out _ _ ⟨cells7L (loc_own hM 0 rfl).1, cells7L (loc_own hM 1 rfl).1, hM⟩ (fun hHeld => ?_)
    clear hK K
    try simp only [Act.put, List.setIfInBounds_toArray, List.set_cons_zero, List.set_cons_succ]
    refine takeD (i := 17) (d := some 43) (v := ?_) rfl rfl (by kernel_rfl) (by kernel_rfl) (by kernel_rfl) (fun _ _ _ h => h) (Or.inl ⟨by rfl, ?_⟩) (by assumption) ?_
    rotate_left
    · intro wS hSw; (try dsimp only at hSw); go_simp; (try with_reducible rfl)
    try simp only [Act.put, List.setIfInBounds_toArray, List.set_cons_zero, List.set_cons_succ]
    refine takeD (i := 18) (d := some 44) (v := ?_) rfl rfl (by kernel_rfl) (by kernel_rfl) (by kernel_rfl) (fun _ _ _ h => h) (Or.inl ⟨by rfl, ?_⟩) (by assumption) ?_
    rotate_left
    · intro wS hSw; (try dsimp only at hSw); go_simp; (try with_reducible rfl)
    try simp only [Act.put, List.setIfInBounds_toArray, List.set_cons_zero, List.set_cons_succ]
    refine takeD (i := 19) (d := some 45) (v := ?_) rfl rfl (by kernel_rfl) (by kernel_rfl) (by kernel_rfl) (fun _ _ _ h => h) (Or.inl ⟨by rfl, ?_⟩) (by assumption) ?_
    rotate_left
    · intro wS hSw; (try dsimp only at hSw); go_simp; (try with_reducible rfl)
    try simp only [Act.put, List.setIfInBounds_toArray, List.set_cons_zero, List.set_cons_succ]
    refine takeD (i := 20) (d := some 46) (v := ?_) rfl rfl (by kernel_rfl) (by kernel_rfl) (by kernel_rfl) (fun _ _ _ h => h) (Or.inl ⟨by rfl, ?_⟩) (by assumption) ?_
    rotate_left
    · intro wS hSw; (try dsimp only at hSw); go_simp; (try with_reducible rfl)
    try simp only [Act.put, List.setIfInBounds_toArray, List.set_cons_zero, List.set_cons_succ]
    refine takeD (i := 21) (d := some 47) (v := ?_) rfl rfl (by kernel_rfl) (by kernel_rfl) (by kernel_rfl) (fun _ _ _ h => h) (Or.inl ⟨by rfl, ?_⟩) (by assumption) ?_
    rotate_left
    · intro wS hSw; (try dsimp only at hSw); go_simp; (try with_reducible rfl)
    try simp only [Act.put, List.setIfInBounds_toArray, List.set_cons_zero, List.set_cons_succ]
    refine takeD (i := 22) (d := some 48) (v := ?_) rfl rfl (by kernel_rfl) (by kernel_rfl) (by kernel_rfl) (fun _ _ _ h => h) (Or.inl ⟨by rfl, ?_⟩) (by assumption) ?_
    rotate_left
    · intro wS hSw; (try dsimp only at hSw); go_simp; (try with_reducible rfl)
    try simp only [Act.put, List.setIfInBounds_toArray, List.set_cons_zero, List.set_cons_succ]
    refine takeD (i := 23) (d := some 49) (v := ?_) rfl rfl (by kernel_rfl) (by kernel_rfl) (by kernel_rfl) (fun _ _ _ h => h) (Or.inl ⟨by rfl, ?_⟩) (by assumption) ?_
    rotate_left
    · intro wS hSw; (try dsimp only at hSw); go_simp; (try with_reducible rfl)
    try simp only [Act.put, List.setIfInBounds_toArray, List.set_cons_zero, List.set_cons_succ]
    refine takeD (i := 24) (d := some 50) (v := ?_) rfl rfl (by kernel_rfl) (by kernel_rfl) (by kernel_rfl) (fun _ _ _ h => h) (Or.inl ⟨by rfl, ?_⟩) (by assumption) ?_
    rotate_left
    · intro wS hSw; (try dsimp only at hSw); go_simp; (try with_reducible rfl)
    try simp only [Act.put, List.setIfInBounds_toArray, List.set_cons_zero, List.set_cons_succ]
    refine takeD (i := 25) (d := some 51) (v := ?_) rfl rfl (by kernel_rfl) (by kernel_rfl) (by kernel_rfl) (fun _ _ _ h => h) (Or.inl ⟨by rfl, ?_⟩) (by assumption) ?_
    rotate_left
    · intro wS hSw; (try dsimp only at hSw); go_simp; (try with_reducible rfl)
    try simp only [Act.put, List.setIfInBounds_toArray, List.set_cons_zero, List.set_cons_succ]
    refine takeD (i := 26) (d := some 52) (v := ?_) rfl rfl (by kernel_rfl) (by kernel_rfl) (by kernel_rfl) (fun _ _ _ h => h) (Or.inl ⟨by rfl, ?_⟩) (by assumption) ?_
    rotate_left
    · intro wS hSw; (try dsimp only at hSw); go_simp; (try with_reducible rfl)
    try simp only [Act.put, List.setIfInBounds_toArray, List.set_cons_zero, List.set_cons_succ]
    refine takeD (i := 27) (d := some 53) (v := ?_) rfl rfl (by kernel_rfl) (by kernel_rfl) (by kernel_rfl) (fun _ _ _ h => h) (Or.inl ⟨by rfl, ?_⟩) (by assumption) ?_
    rotate_left
    · intro wS hSw; (try dsimp only at hSw); go_simp; (try with_reducible rfl)
    try simp only [Act.put, List.setIfInBounds_toArray, List.set_cons_zero, List.set_cons_succ]
    refine takeD (i := 28) (d := some 2) (v := ?_) rfl rfl (by kernel_rfl) (by kernel_rfl) (by kernel_rfl) (fun _ _ _ h => h) (Or.inl ⟨by rfl, ?_⟩) (by assumption) ?_
    rotate_left
    · intro wS hSw; (try dsimp only at hSw); go_simp; (try with_reducible rfl)
    try simp only [Act.put, List.setIfInBounds_toArray, List.set_cons_zero, List.set_cons_succ]
    refine wpAnyH_done (by kernel_rfl) ?_ _
    go_wp2_with fail
    go_ret
    exact ⟨rfl, loc_below hHeld.2.2⟩

set_option maxRecDepth 100000 in
theorem lifted (os : Os) (started : os.Started) (H : Type) (enc : TypeId × Value → H) :
    ReturnsInHanded {} Tryd.checked os 4 .any (fun w args => (Rows.compPrintsSpec.pre enc Tryd.prog Tryd.f4 [] false w args ∧ laidMetH Tryd.prog Rows.compPrintsRow.laid w) ∧ sizedMet enc Tryd.prog Tryd.f4 (OpenSpec.ofChange Rows.compPrintsSpec) false w args) (Rows.compPrintsSpec.post enc Tryd.prog Tryd.f4 false true false false) := by
  refine returnsInHanded_of_change_and (C := Tryd.checked) (X := fun w _ => laidMetH Tryd.prog Rows.compPrintsRow.laid w) (fun _ _ _ hh h => h.of_heap hh) own started (by kernel_rfl) Tryd.func4
    (ChangeSpec.witness_shaped (enc := enc) (C := Tryd.checked) (os := os) (X := fun w _ => laidMetH Tryd.prog Rows.compPrintsRow.laid w) false (World.doorLaid Tryd.prog 400 os) #[.agg #[.int .i64 0, .int .i64 0, .int .i64 0, .int .i64 0, .int .i64 0, .string ByteArray.empty, .string ByteArray.empty]] 8 rfl (World.shaped_of_RefB (by kernel_rfl) (by kernel_rfl)) (by kernel_rfl) (by kernel_rfl) (by kernel_rfl)
      (laidMetH_of_parts3 (fuel := 8) (laidMet_of_run' 8 (by kernel_rfl) (by kernel_rfl)) (by kernel_rfl) (by kernel_rfl))) ?_
  intro W base args ds gs before hval0 hW _ _ hL _
  have hval : ∀ (j : Nat) t v, Tryd.f4.params[j]? = some t → args[j]? = some v → Value.okWide Tryd.prog W .any base t v := hval0
  have hW' := hW
  obtain ⟨p, q, hA0, hV, rfl, hfz, hnd⟩ := hW
  have hA : DataW.TrodAll enc Tryd.prog W 0 (fun _ => true) true Tryd.f4.params.toList args.toList ds p := hA0
  rw [Tryd.params4] at hA hval
  obtain ⟨v0, vs0, d0, ds0, p0, q0, hargs, rfl, rfl, h0, r0⟩ := trodAll_cons hA
  obtain ⟨rfl, rfl, rfl⟩ := trodAll_nil r0
  obtain rfl : args = #[v0] := by cases args; simp_all
  obtain ⟨rfl, rfl⟩ := trodVars_none hV
  obtain ⟨vo0, vs0, va0, vb0, vc0, vp0, vq0, rfl, rfl, rfl, w0⟩ := open_comp (hval 0 26 v0 rfl rfl) h0
  clear hA0 hval0
  simp only [List.append_nil] at hW'
  refine (walk vo0 vs0 va0 vb0 vc0 vp0 vq0 w0 W (tab_of hL (by kernel_rfl) (MakeChecks.laidMetH_plain _ _ _ (by kernel_rfl)))).mono fun e W' ⟨he, hg⟩ => ?_
  subst he
  exact ⟨_, rfl, post_of_below (pa := []) (pv := []) hW' (fun _ _ _ => (trodAll_cons_mk (shut_bool Tryd.underlying4 _) trodAll_mk0)) (fun sp _ => (trodAll_cons_mk (shut_comp w0) trodAll_mk0)) (fun _ _ => rfl) rfl
    hg (ok_one (by kernel_rfl) rfl (okWide_bool_mk Tryd.underlying4 _))⟩

theorem over : Rows.compPrintsRow.holds Tryd.pinned (OpenSpec.ofChange Rows.compPrintsSpec) :=
  OpenClaim.holds_of_wide 4 Tryd.f4 rfl rfl rfl rfl rfl rfl rfl ⟨rfl, rfl, rfl, rfl, rfl⟩ rfl rfl rfl rfl rfl (by kernel_rfl) Tryd.func4 (by kernel_rfl)
    (of_decide_eq_true (by kernel_rfl)) (by unfold Func.isWrapper; first | (rw [if_pos (by decide +kernel)]; kernel_rfl) | (rw [if_neg (by decide +kernel)]; exact ⟨rfl, rfl⟩))
    (fun os started H enc _ => lifted os started H enc)

theorem proved : Rows.CompPrintsSaid :=
  over
theorem plain (f : FuncId) (fn : Func) (hf : Tryd.pinned.checked.prog.funcNamed "linchpin/linchpinlaw6.CompPrints" = some f) (hfn : Tryd.pinned.checked.prog.funcs[f]? = some fn) :
    false = Tryd.pinned.checked.prog.looks [] ∧ ∀ (j : Nat) t, fn.params[j]? = some t → Tryd.pinned.checked.prog.wantsStandIn t = false := by
  obtain rfl : f = 4 := Option.some.inj ((show Tryd.prog.funcNamed "linchpin/linchpinlaw6.CompPrints" = some 4 by kernel_rfl).symm.trans hf) |>.symm
  obtain rfl : fn = Tryd.f4 := (Option.some.inj (Tryd.func4.symm.trans hfn)).symm
  refine ⟨by kernel_rfl, fun j t ht => ?_⟩
  rw [Tryd.params4] at ht
  have hm : t ∈ [26] := by simpa using Array.mem_of_getElem? ht
  have hall : ([26].all fun u => !Tryd.prog.wantsStandIn u) = true := by kernel_rfl
  exact (show Tryd.prog.wantsStandIn t = false by simpa using List.all_eq_true.1 hall t hm)

theorem card : Rows.CompPrintsCardSaid :=
  Claim7.holds_tied_plain_at .later [] _ _ _ _ proved (fun _ h => by cases h) (by kernel_rfl) (fun _ h => by cases h) compPrints_row_tie rfl ⟨rfl, rfl⟩ (by kernel_rfl) rfl plain (by kernel_rfl)
#print axioms card
end Go.Proofs.YthaagngoefieaaaDoor.compPrints
