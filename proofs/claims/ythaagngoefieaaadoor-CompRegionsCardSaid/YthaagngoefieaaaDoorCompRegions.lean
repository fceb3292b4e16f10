/-
  CompRegions: for every comparator, Region and Zone return what the reference returns. Conditions: strconv's and math/bits' tables start as the program's text lays them (the card ties them).
-/
import Derived.Test.YthaagngoefieaaaDoorRows
import Derived.Test.YthaagngoefieaaaDoorCRegR
import Derived.Test.YthaagngoefieaaaDoorCPairs
import Derived.Test.YthaagngoefieaaaDoorCParse
import Derived.Test.YthaagngoefieaaaDoorG5
import Derived.Test.YthaagngoefieaaaDoorCards
import Derived.Test.YthaagngoefieaaaDoorTie
import Derived.Test.YthaagngoefieaaaDoorTab
import Derived.LaidMore
import Derived.MakeChecks
import Derived.SevenTiedAt
import Derived.Stop.Joined
import Derived.Test.YthaagngoefieaaaDoorG1
import Derived.WalkKit
import Derived.ProofKit
import Derived.OpenShut
import Derived.ShutString
namespace Go.Proofs.YthaagngoefieaaaDoor.compRegions
open Go.ChangeShapes Go.WideShapes Go.ChangeAt Go.RowKit
open Go.ChangeMaps (open_string shut_string)
set_option linter.unusedVariables false      -- a walk need not use every 'w<i>' (that an integer argument fits its kind)

theorem own : ownKnob Tryd.prog.godebug = none := by kernel_rfl

set_option maxHeartbeats 8000000 in
set_option maxRecDepth 100000 in
theorem walk (vo0 vs0 va0 vb0 vc0 : Int) (vp0 vq0 : ByteArray) (w0 : CmpWf vo0 vs0 va0 vb0 vc0 vp0 vq0) (w : World) (hT : Tab w) :
    Calls Tryd.prog 8 #[cvV vo0 vs0 va0 vb0 vc0 vp0 vq0] w fun e w' => e = .returned (.bool true) ∧ Below w.heap.size w w' := by
  have HT := Lib.hid hT
  clear hT w0
  by_cases h0 : 60 < vp0.size
  · have i0 : (60 : Int) < (vp0.size : Int) := by omega
    unfold cvV at *
    go_enter Tryd.func8, Tryd.ntmps8
    go_wp2_with (go_at_call 11; refine (cawake_any _ (tab_below HT.out (box_below w _))).mono ?_; rintro e w1 ⟨rfl, hb1⟩)
    go_ret
    exact ⟨rfl, (box_below w _).trans (hb1.mono (by simp))⟩
  have i0 : ¬ (60 : Int) < (vp0.size : Int) := by omega
  by_cases h1 : 60 < vq0.size
  · have i1 : (60 : Int) < (vq0.size : Int) := by omega
    unfold cvV at *
    go_enter Tryd.func8, Tryd.ntmps8
    go_wp2_with (go_at_call 11; refine (cawake_any _ (tab_below HT.out (box_below w _))).mono ?_; rintro e w1 ⟨rfl, hb1⟩)
    go_ret
    exact ⟨rfl, (box_below w _).trans (hb1.mono (by simp))⟩
  have i1 : ¬ (60 : Int) < (vq0.size : Int) := by omega
  have s0 : vp0.size ≤ 1048576 := by omega
  have s2 : vq0.size ≤ 1048576 := by omega
  have cr := fun W => region_any vo0 vs0 va0 vb0 vc0 vp0 vq0 W s0 s2
  have crr := fun W => rregion6_any vo0 vs0 va0 vb0 vc0 vp0 vq0 W s0 s2
  rw [← region_same] at crr
  have cz := fun W => zone_any vo0 vs0 va0 vb0 vc0 vp0 vq0 W s0 s2
  have czz := fun W => rzone_any vo0 vs0 va0 vb0 vc0 vp0 vq0 W s0 s2
  have OR := Lib.hid (region_okq (op := vo0) (ps := vs0) (a := va0) (b := vb0) (c := vc0) (p := vp0) (q := vq0) s0)
  have OZ := Lib.hid (zone_ok (c := cmpS vo0 vs0 va0 vb0 vc0 vp0 vq0))
  generalize regionP (cmpS vo0 vs0 va0 vb0 vc0 vp0 vq0) = RL at *
  generalize zoneC (cmpS vo0 vs0 va0 vb0 vc0 vp0 vq0) = RZ at *
  unfold cvV at *
  go_enter Tryd.func8, Tryd.ntmps8
  go_wp2_with fail
  have hL := loc_new (loc_start w) w.heap.size [.int .i64 vo0, .int .i64 vs0, .int .i64 va0, .int .i64 vb0, .int .i64 vc0, .string vp0, .string vq0] 26
  generalize hW : World.alloc _ _ = w0
  have hL : Loc w w0 [(w.heap.size, [.int .i64 vo0, .int .i64 vs0, .int .i64 va0, .int .i64 vb0, .int .i64 vc0, .string vp0, .string vq0])] := by rw [← hW]; exact hL
  clear hW
  have hLd := loc_drew hL
  obtain ⟨d0, d1, d2, d3, d4, d5, d6⟩ := cells7L (loc_own hL 0 rfl).1
  refine wp_region_held_drew (S := fun W => (W.cell? ⟨w.heap.size, 0, none⟩ = some (.int .i64 vo0) ∧ W.cell? ⟨w.heap.size, 1, none⟩ = some (.int .i64 vs0) ∧ W.cell? ⟨w.heap.size, 2, none⟩ = some (.int .i64 va0) ∧ W.cell? ⟨w.heap.size, 3, none⟩ = some (.int .i64 vb0) ∧ W.cell? ⟨w.heap.size, 4, none⟩ = some (.int .i64 vc0) ∧ W.cell? ⟨w.heap.size, 5, none⟩ = some (.string vp0) ∧ W.cell? ⟨w.heap.size, 6, none⟩ = some (.string vq0)) ∧ Loc w W [(w.heap.size, [.int .i64 vo0, .int .i64 vs0, .int .i64 va0, .int .i64 vb0, .int .i64 vc0, .string vp0, .string vq0])]) (by kernel_rfl) ⟨⟨d0, d1, d2, d3, d4, d5, d6⟩, hLd⟩ (fun hHeld => ?_)
  refine wpAnyH_ready (rs := [0]) (by kernel_rfl) (by simp) ?_
  refine consD (d := some 16) rfl rfl (fun K hK => ?_) AllReadyH.nil
  go_simp
  (go_at_call 11; (with_reducible refine (cawake_any _ (tab_below HT.out (loc_below hHeld.2))).mono ?_); rintro e w2 ⟨rfl, hb2⟩)
  have hM2 := loc_call hHeld.2 hb2
  refine hK.out _ _ ⟨cells7L (loc_own hM2 0 rfl).1, hM2⟩ (fun hHeld => ?_)
  clear hK K
  try simp only [Act.put, List.setIfInBounds_toArray, List.set_cons_zero, List.set_cons_succ]
  refine takeD (i := 1) (d := some 17) (v := ?_) rfl rfl (by kernel_rfl) (by kernel_rfl) (by kernel_rfl) (fun _ _ _ h => h) (Or.inl ⟨by rfl, ?_⟩) (by assumption) ?_
  rotate_left
  · intro wS hSw; (try dsimp only at hSw); go_simp; (try with_reducible rfl)
  try simp only [Act.put, List.setIfInBounds_toArray, List.set_cons_zero, List.set_cons_succ]
  refine takeD (i := 2) (d := some 18) (v := ?_) rfl rfl (by kernel_rfl) (by kernel_rfl) (by kernel_rfl) (fun _ _ _ h => h) (Or.inl ⟨by rfl, ?_⟩) (by assumption) ?_
  rotate_left
  · intro wS hSw; (try dsimp only at hSw); go_simp; (try with_reducible rfl)
  try simp only [Act.put, List.setIfInBounds_toArray, List.set_cons_zero, List.set_cons_succ]
  refine takeD (i := 4) (d := some 20) (v := ?_) rfl rfl (by kernel_rfl) (by kernel_rfl) (by kernel_rfl) (fun _ _ _ h => h) (Or.inl ⟨by rfl, ?_⟩) (by assumption) ?_
  rotate_left
  · intro wS hSw; (try dsimp only at hSw); go_simp; (try with_reducible rfl)
  try simp only [Act.put, List.setIfInBounds_toArray, List.set_cons_zero, List.set_cons_succ]
  refine wpAnyH_ready (rs := [3]) (by kernel_rfl) (by simp) ?_
  refine consD (d := some 19) rfl rfl (fun K hK => ?_) AllReadyH.nil
  go_simp
  (go_at_call 22; (with_reducible refine (cr _).mono ?_); rintro e w3 ⟨AX1, nX1, capX1, rfl, hnX1, hcX1, hrX1, hb3⟩)
  have HNX1 := Lib.hid hnX1
  clear hnX1
  have hM3 := loc_call hM2 hb3
  refine hK.out _ _ ⟨cells7L (loc_own hM3 0 rfl).1, hM3⟩ (fun hHeld => ?_)
  clear hK K
  try simp only [Act.put, List.setIfInBounds_toArray, List.set_cons_zero, List.set_cons_succ]
  refine wpAnyH_ready (rs := [5]) (by kernel_rfl) (by simp) ?_
  refine consD (d := some 21) rfl rfl (fun K hK => ?_) AllReadyH.nil
  go_simp
  (go_at_call 28; (with_reducible refine (crr _).mono ?_); rintro e w4 ⟨AX2, nX2, capX2, rfl, hnX2, hcX2, hrX2, hb4⟩)
  have HNX2 := Lib.hid hnX2
  clear hnX2
  have hM4 := loc_call hM3 hb4
  refine hK.out _ _ ⟨cells7L (loc_own hM4 0 rfl).1, hM4⟩ (fun hHeld => ?_)
  clear hK K
  try simp only [Act.put, List.setIfInBounds_toArray, List.set_cons_zero, List.set_cons_succ]
  refine wpAnyH_ready (rs := [6]) (by kernel_rfl) (by simp) ?_
  refine consD (d := some 22) rfl rfl (fun K hK => ?_) AllReadyH.nil
  go_simp
  have hl := OR.out.2
  have e1 := HNX1.out
  have e2 := HNX2.out
  have ms := rsame_true AX1 AX2 nX1 nX2 capX1 capX2 w3.heap.size w4.heap.size RL RL w4 (rds_below hrX1 hb4) hrX2 e1.symm e2.symm OR.out.1 OR.out.1 hb4.size (Nat.le_refl _) (by omega) (by omega) rfl
  clear hl e1 e2
  (go_at_call 23; (with_reducible refine (ms).mono ?_); rintro e w5 ⟨rfl, hb5⟩)
  have hM5 := loc_call hM4 hb5
  clear ms
  refine hK.out _ _ ⟨cells7L (loc_own hM5 0 rfl).1, hM5⟩ (fun hHeld => ?_)
  clear hK K
  try simp only [Act.put, List.setIfInBounds_toArray, List.set_cons_zero, List.set_cons_succ]
  refine takeD (i := 7) (d := some 23) (v := ?_) rfl rfl (by kernel_rfl) (by kernel_rfl) (by kernel_rfl) (fun _ _ _ h => h) (Or.inl ⟨by rfl, ?_⟩) (by assumption) ?_
  rotate_left
  · intro wS hSw; (try dsimp only at hSw); go_simp; (try with_reducible rfl)
  try simp only [Act.put, List.setIfInBounds_toArray, List.set_cons_zero, List.set_cons_succ]
  refine takeD (i := 8) (d := some 24) (v := ?_) rfl rfl (by kernel_rfl) (by kernel_rfl) (by kernel_rfl) (fun _ _ _ h => h) (Or.inl ⟨by rfl, ?_⟩) (by assumption) ?_
  rotate_left
  · intro wS hSw; (try dsimp only at hSw); go_simp; (try with_reducible rfl)
  try simp only [Act.put, List.setIfInBounds_toArray, List.set_cons_zero, List.set_cons_succ]
  refine takeD (i := 9) (d := some 25) (v := ?_) rfl rfl (by kernel_rfl) (by kernel_rfl) (by kernel_rfl) (fun _ _ _ h => h) (Or.inl ⟨by rfl, ?_⟩) (by assumption) ?_
  rotate_left
  · intro wS hSw; (try dsimp only at hSw); go_simp; (try with_reducible rfl)
  try simp only [Act.put, List.setIfInBounds_toArray, List.set_cons_zero, List.set_cons_succ]
  refine takeD (i := 11) (d := some 27) (v := ?_) rfl rfl (by kernel_rfl) (by kernel_rfl) (by kernel_rfl) (fun _ _ _ h => h) (Or.inl ⟨by rfl, ?_⟩) (by assumption) ?_
  rotate_left
  · intro wS hSw; (try dsimp only at hSw); go_simp; (try with_reducible rfl)
  try simp only [Act.put, List.setIfInBounds_toArray, List.set_cons_zero, List.set_cons_succ]
  refine wpAnyH_ready (rs := [10]) (by kernel_rfl) (by simp) ?_
  refine consD (d := some 26) rfl rfl (fun K hK => ?_) AllReadyH.nil
  go_simp
  (go_at_call 29; (with_reducible refine (cz _).mono ?_); rintro e w6 ⟨AY1, nY1, capY1, rfl, hnY1, hcY1, hrY1, hb6⟩)
  have HNY1 := Lib.hid hnY1
  clear hnY1
  have hM6 := loc_call hM5 hb6
  refine hK.out _ _ ⟨cells7L (loc_own hM6 0 rfl).1, hM6⟩ (fun hHeld => ?_)
  clear hK K
  try simp only [Act.put, List.setIfInBounds_toArray, List.set_cons_zero, List.set_cons_succ]
  refine wpAnyH_ready (rs := [12]) (by kernel_rfl) (by simp) ?_
  refine consD (d := some 28) rfl rfl (fun K hK => ?_) AllReadyH.nil
  go_simp
  (go_at_call 30; (with_reducible refine (czz _).mono ?_); rintro e w7 ⟨AY2, nY2, capY2, rfl, hnY2, hcY2, hrY2, hb7⟩)
  have HNY2 := Lib.hid hnY2
  clear hnY2
  have hM7 := loc_call hM6 hb7
  refine hK.out _ _ ⟨cells7L (loc_own hM7 0 rfl).1, hM7⟩ (fun hHeld => ?_)
  clear hK K
  try simp only [Act.put, List.setIfInBounds_toArray, List.set_cons_zero, List.set_cons_succ]
  refine wpAnyH_ready (rs := [13]) (by kernel_rfl) (by simp) ?_
  refine consD (d := some 29) rfl rfl (fun K hK => ?_) AllReadyH.nil
  go_simp
  have hl := OZ.out.2
  have e1 := HNY1.out
  have e2 := HNY2.out
  have ms := rsame_true AY1 AY2 nY1 nY2 capY1 capY2 w6.heap.size w7.heap.size RZ RZ w7 (rds_below hrY1 hb7) hrY2 e1.symm e2.symm OZ.out.1 OZ.out.1 hb7.size (Nat.le_refl _) (by omega) (by omega) rfl
  clear hl e1 e2
  (go_at_call 23; (with_reducible refine (ms).mono ?_); rintro e w8 ⟨rfl, hb8⟩)
  have hM8 := loc_call hM7 hb8
  clear ms
  refine hK.out _ _ ⟨cells7L (loc_own hM8 0 rfl).1, hM8⟩ (fun hHeld => ?_)
  clear hK K
  try simp only [Act.put, List.setIfInBounds_toArray, List.set_cons_zero, List.set_cons_succ]
  refine takeD (i := 14) (d := some 30) (v := ?_) rfl rfl (by kernel_rfl) (by kernel_rfl) (by kernel_rfl) (fun _ _ _ h => h) (Or.inl ⟨by rfl, ?_⟩) (by assumption) ?_
  rotate_left
  · intro wS hSw; (try dsimp only at hSw); go_simp; (try with_reducible rfl)
  try simp only [Act.put, List.setIfInBounds_toArray, List.set_cons_zero, List.set_cons_succ]
  refine takeD (i := 15) (d := some 2) (v := ?_) rfl rfl (by kernel_rfl) (by kernel_rfl) (by kernel_rfl) (fun _ _ _ h => h) (Or.inl ⟨by rfl, ?_⟩) (by assumption) ?_
  rotate_left
  · intro wS hSw; (try dsimp only at hSw); go_simp; (try with_reducible rfl)
  try simp only [Act.put, List.setIfInBounds_toArray, List.set_cons_zero, List.set_cons_succ]
  refine wpAnyH_done (by kernel_rfl) ?_ _
  have hL := hM8
  clear d0 d1 d2 d3 d4 d5 d6
  go_wp2_with fail
  go_ret
  exact ⟨rfl, loc_below hL⟩

set_option maxRecDepth 100000 in
theorem lifted (os : Os) (started : os.Started) (H : Type) (enc : TypeId × Value → H) :
    ReturnsInHanded {} Tryd.checked os 8 .any (fun w args => (Rows.compRegionsSpec.pre enc Tryd.prog Tryd.f8 [] false w args ∧ laidMetH Tryd.prog Rows.compRegionsRow.laid w) ∧ sizedMet enc Tryd.prog Tryd.f8 (OpenSpec.ofChange Rows.compRegionsSpec) false w args) (Rows.compRegionsSpec.post enc Tryd.prog Tryd.f8 false true false false) := by
  refine returnsInHanded_of_change_and (C := Tryd.checked) (X := fun w _ => laidMetH Tryd.prog Rows.compRegionsRow.laid w) (fun _ _ _ hh h => h.of_heap hh) own started (by kernel_rfl) Tryd.func8
    (ChangeSpec.witness_shaped (enc := enc) (C := Tryd.checked) (os := os) (X := fun w _ => laidMetH Tryd.prog Rows.compRegionsRow.laid w) false (World.doorLaid Tryd.prog 400 os) #[.agg #[.int .i64 0, .int .i64 0, .int .i64 0, .int .i64 0, .int .i64 0, .string ByteArray.empty, .string ByteArray.empty]] 8 rfl (World.shaped_of_RefB (by kernel_rfl) (by kernel_rfl)) (by kernel_rfl) (by kernel_rfl) (by kernel_rfl)
      (laidMetH_of_parts3 (fuel := 8) (laidMet_of_run' 8 (by kernel_rfl) (by kernel_rfl)) (by kernel_rfl) (by kernel_rfl))) ?_
  intro W base args ds gs before hval0 hW _ _ hL _
  have hval : ∀ (j : Nat) t v, Tryd.f8.params[j]? = some t → args[j]? = some v → Value.okWide Tryd.prog W .any base t v := hval0
  have hW' := hW
  obtain ⟨p, q, hA0, hV, rfl, hfz, hnd⟩ := hW
  have hA : DataW.TrodAll enc Tryd.prog W 0 (fun _ => true) true Tryd.f8.params.toList args.toList ds p := hA0
  rw [Tryd.params8] at hA hval
  obtain ⟨v0, vs0, d0, ds0, p0, q0, hargs, rfl, rfl, h0, r0⟩ := trodAll_cons hA
  obtain ⟨rfl, rfl, rfl⟩ := trodAll_nil r0
  obtain rfl : args = #[v0] := by cases args; simp_all
  obtain ⟨rfl, rfl⟩ := trodVars_none hV
  obtain ⟨vo0, vs0, va0, vb0, vc0, vp0, vq0, rfl, rfl, rfl, w0⟩ := open_comp (hval 0 26 v0 rfl rfl) h0
  clear hA0 hval0
  simp only [List.append_nil] at hW'
  refine (walk vo0 vs0 va0 vb0 vc0 vp0 vq0 w0 W (tab_of hL (by kernel_rfl) (MakeChecks.laidMetH_plain _ _ _ (by kernel_rfl)))).mono fun e W' ⟨he, hg⟩ => ?_
  subst he
  exact ⟨_, rfl, post_of_below (pa := []) (pv := []) hW' (fun _ _ _ => (trodAll_cons_mk (shut_bool Tryd.underlying4 _) trodAll_mk0)) (fun sp _ => (trodAll_cons_mk (shut_comp w0) trodAll_mk0)) (fun _ _ => rfl) rfl
    hg (ok_one (by kernel_rfl) rfl (okWide_bool_mk Tryd.underlying4 _))⟩

theorem over : Rows.compRegionsRow.holds Tryd.pinned (OpenSpec.ofChange Rows.compRegionsSpec) :=
  OpenClaim.holds_of_wide 8 Tryd.f8 rfl rfl rfl rfl rfl rfl rfl ⟨rfl, rfl, rfl, rfl, rfl⟩ rfl rfl rfl rfl rfl (by kernel_rfl) Tryd.func8 (by kernel_rfl)
    (of_decide_eq_true (by kernel_rfl)) (by unfold Func.isWrapper; first | (rw [if_pos (by decide +kernel)]; kernel_rfl) | (rw [if_neg (by decide +kernel)]; exact ⟨rfl, rfl⟩))
    (fun os started H enc _ => lifted os started H enc)

theorem proved : Rows.CompRegionsSaid :=
  over
theorem plain (f : FuncId) (fn : Func) (hf : Tryd.pinned.checked.prog.funcNamed "linchpin/linchpinlaw6.CompRegions" = some f) (hfn : Tryd.pinned.checked.prog.funcs[f]? = some fn) :
    false = Tryd.pinned.checked.prog.looks [] ∧ ∀ (j : Nat) t, fn.params[j]? = some t → Tryd.pinned.checked.prog.wantsStandIn t = false := by
  obtain rfl : f = 8 := Option.some.inj ((show Tryd.prog.funcNamed "linchpin/linchpinlaw6.CompRegions" = some 8 by kernel_rfl).symm.trans hf) |>.symm
  obtain rfl : fn = Tryd.f8 := (Option.some.inj (Tryd.func8.symm.trans hfn)).symm
  refine ⟨by kernel_rfl, fun j t ht => ?_⟩
  rw [Tryd.params8] at ht
  have hm : t ∈ [26] := by simpa using Array.mem_of_getElem? ht
  have hall : ([26].all fun u => !Tryd.prog.wantsStandIn u) = true := by kernel_rfl
  exact (show Tryd.prog.wantsStandIn t = false by simpa using List.all_eq_true.1 hall t hm)

theorem card : Rows.CompRegionsCardSaid :=
  Claim7.holds_tied_plain_at .later [] _ _ _ _ proved (fun _ h => by cases h) (by kernel_rfl) (fun _ h => by cases h) compRegions_row_tie rfl ⟨rfl, rfl⟩ (by kernel_rfl) rfl plain (by kernel_rfl)
#print axioms card
end Go.Proofs.YthaagngoefieaaaDoor.compRegions
