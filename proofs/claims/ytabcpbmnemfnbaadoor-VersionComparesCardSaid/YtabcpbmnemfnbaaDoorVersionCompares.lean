/-
  VersionCompares: for any two versions, Compare and Core return what the reference returns. Conditions: strconv's and math/bits' tables start as the program's text lays them (the card ties them).
-/
import Derived.Test.YtabcpbmnemfnbaaDoorRows
import Derived.Test.YtabcpbmnemfnbaaDoorVHeld
import Derived.Test.YtabcpbmnemfnbaaDoorCards
import Derived.Test.YtabcpbmnemfnbaaDoorTie
import Derived.Test.YtabcpbmnemfnbaaDoorTab
import Derived.LaidMore
import Derived.MakeChecks
import Derived.SevenTiedAt
import Derived.Stop.Joined
import Derived.Test.YtabcpbmnemfnbaaDoorMem
import Derived.WalkKit
import Derived.ProofKit
import Derived.OpenShut
import Derived.ShutString
namespace Go.Proofs.YtabcpbmnemfnbaaDoor.versionCompares
open Go.ChangeShapes Go.WideShapes Go.ChangeAt Go.RowKit
open Go.ChangeMaps (open_string shut_string)
set_option linter.unusedVariables false      -- a walk need not use every 'w<i>' (that an integer argument fits its kind)

theorem own : ownKnob Tryd.prog.godebug = none := by kernel_rfl

set_option maxHeartbeats 4000000 in
theorem walk (va0 vb0 vc0 : Int) (vp0 vq0 : ByteArray) (va1 vb1 vc1 : Int) (vp1 vq1 : ByteArray) (w0 : VerWf va0 vb0 vc0 vp0 vq0) (w1 : VerWf va1 vb1 vc1 vp1 vq1) (w : World) (hT : Tab w) :
    Calls Tryd.prog 5 #[.agg #[.int .i64 va0, .int .i64 vb0, .int .i64 vc0, .string vp0, .string vq0], .agg #[.int .i64 va1, .int .i64 vb1, .int .i64 vc1, .string vp1, .string vq1]] w fun e w' => e = .returned (.bool true) ∧ Below w.heap.size w w' := by
  have HT := Lib.hid hT
  clear hT w0 w1
  by_cases h0 : 300 < vp0.size
  · have i0 : (300 : Int) < (vp0.size : Int) := by omega
    go_enter Tryd.func5, Tryd.ntmps5
    go_wp2_with (go_at_call 13; refine (awake_any _ (tab_below HT.out (two_below w _ _))).mono ?_; rintro e w1 ⟨rfl, hb1⟩)
    go_ret
    exact ⟨rfl, (two_below w _ _).trans (hb1.mono (by simp; omega))⟩
  have i0 : ¬ (300 : Int) < (vp0.size : Int) := by omega
  by_cases h1 : 300 < vp1.size
  · have i1 : (300 : Int) < (vp1.size : Int) := by omega
    go_enter Tryd.func5, Tryd.ntmps5
    go_wp2_with (go_at_call 13; refine (awake_any _ (tab_below HT.out (two_below w _ _))).mono ?_; rintro e w1 ⟨rfl, hb1⟩)
    go_ret
    exact ⟨rfl, (two_below w _ _).trans (hb1.mono (by simp; omega))⟩
  have i1 : ¬ (300 : Int) < (vp1.size : Int) := by omega
  by_cases h2 : 300 < vq0.size
  · have i2 : (300 : Int) < (vq0.size : Int) := by omega
    go_enter Tryd.func5, Tryd.ntmps5
    go_wp2_with (go_at_call 13; refine (awake_any _ (tab_below HT.out (two_below w _ _))).mono ?_; rintro e w1 ⟨rfl, hb1⟩)
    go_ret
    exact ⟨rfl, (two_below w _ _).trans (hb1.mono (by simp; omega))⟩
  have i2 : ¬ (300 : Int) < (vq0.size : Int) := by omega
  by_cases h3 : 300 < vq1.size
  · have i3 : (300 : Int) < (vq1.size : Int) := by omega
    go_enter Tryd.func5, Tryd.ntmps5
    go_wp2_with (go_at_call 13; refine (awake_any _ (tab_below HT.out (two_below w _ _))).mono ?_; rintro e w1 ⟨rfl, hb1⟩)
    go_ret
    exact ⟨rfl, (two_below w _ _).trans (hb1.mono (by simp; omega))⟩
  have i3 : ¬ (300 : Int) < (vq1.size : Int) := by omega
  have s0 : vp0.size ≤ 1048576 := by omega
  have s1 : vp1.size ≤ 1048576 := by omega
  have s2 : vq0.size ≤ 1048576 := by omega
  have s3 : vq1.size ≤ 1048576 := by omega
  have cmp1 := fun W => compare_any va0 vb0 vc0 vp0 vq0 va1 vb1 vc1 vp1 vq1 W s0 s2 s1 s3
  have cmp2 := fun W => rcompare_any va0 vb0 vc0 vp0 vq0 va1 vb1 vc1 vp1 vq1 W s0 s2 s1 s3
  generalize compV (verS va0 vb0 vc0 vp0 vq0) (verS va1 vb1 vc1 vp1 vq1) = R at *
  go_enter Tryd.func5, Tryd.ntmps5
  go_wp2_with fail
  have hB := two_below w (.cells #[.int .i64 va0, .int .i64 vb0, .int .i64 vc0, .string vp0, .string vq0] 24) (.cells #[.int .i64 va1, .int .i64 vb1, .int .i64 vc1, .string vp1, .string vq1] 24)
  have h55 := two_five w (.int .i64 va0) (.int .i64 vb0) (.int .i64 vc0) (.string vp0) (.string vq0) (.int .i64 va1) (.int .i64 vb1) (.int .i64 vc1) (.string vp1) (.string vq1) 24 24 (w1 := (w.alloc (.cells #[.int .i64 va0, .int .i64 vb0, .int .i64 vc0, .string vp0, .string vq0] 24)).alloc (.cells #[.int .i64 va1, .int .i64 vb1, .int .i64 vc1, .string vp1, .string vq1] 24)) (B := w.heap.size + 2) (Below.refl _ _) (Nat.le_refl _)
  have z0 : w.heap.size < ((w.alloc (.cells #[.int .i64 va0, .int .i64 vb0, .int .i64 vc0, .string vp0, .string vq0] 24)).alloc (.cells #[.int .i64 va1, .int .i64 vb1, .int .i64 vc1, .string vp1, .string vq1] 24)).heap.size := by simp; omega
  have z1 : w.heap.size + 1 < ((w.alloc (.cells #[.int .i64 va0, .int .i64 vb0, .int .i64 vc0, .string vp0, .string vq0] 24)).alloc (.cells #[.int .i64 va1, .int .i64 vb1, .int .i64 vc1, .string vp1, .string vq1] 24)).heap.size := by simp
  generalize (w.alloc (.cells #[.int .i64 va0, .int .i64 vb0, .int .i64 vc0, .string vp0, .string vq0] 24)).alloc (.cells #[.int .i64 va1, .int .i64 vb1, .int .i64 vc1, .string vp1, .string vq1] 24) = wb at *
  have hS := start2 h55.1 h55.2 z0 z1 hB
  go_region_held3 (fun W => W.cell? ⟨w.heap.size, 0, none⟩ = some (.int .i64 va0) ∧ W.cell? ⟨w.heap.size, 1, none⟩ = some (.int .i64 vb0) ∧ W.cell? ⟨w.heap.size, 2, none⟩ = some (.int .i64 vc0) ∧ W.cell? ⟨w.heap.size, 3, none⟩ = some (.string vp0) ∧ W.cell? ⟨w.heap.size, 4, none⟩ = some (.string vq0) ∧ W.cell? ⟨w.heap.size + 1, 0, none⟩ = some (.int .i64 va1) ∧ W.cell? ⟨w.heap.size + 1, 1, none⟩ = some (.int .i64 vb1) ∧ W.cell? ⟨w.heap.size + 1, 2, none⟩ = some (.int .i64 vc1) ∧ W.cell? ⟨w.heap.size + 1, 3, none⟩ = some (.string vp1) ∧ W.cell? ⟨w.heap.size + 1, 4, none⟩ = some (.string vq1) ∧ w.heap.size < W.heap.size ∧ w.heap.size + 1 < W.heap.size ∧ Below w.heap.size w W)
    (first | ((refine keep2 hb' ?_; assumption)) | assumption | ((refine ⟨?_, ?_, ?_, ?_, ?_, ?_, ?_, ?_, ?_, ?_, ?_, ?_, ?_⟩ <;> first | assumption | (simp; assumption))))
    (first | (go_at_call 13; refine (awake_any _ (tab_below HT.out ?_)).mono ?_; (first | assumption | (apply bel2; assumption)); rintro e w' ⟨rfl, hb'⟩) | (go_at_call 20; refine (cmp1 _).mono ?_; rintro e w' ⟨rfl, hb'⟩) | (go_at_call 21; refine (cmp2 _).mono ?_; rintro e w' ⟨rfl, hb'⟩) | (go_at_call 22; refine (core_any _ _ _ _ _ _).mono ?_; rintro e w' ⟨rfl, hb'⟩) | (go_at_call 23; refine (rcore_any _ _ _ _ _ _).mono ?_; rintro e w' ⟨rfl, hb'⟩))
  all_goals
    go_wp2_with fail
    go_ret
    exact ⟨rfl, bel2 (by assumption)⟩

set_option maxRecDepth 100000 in
theorem lifted (os : Os) (started : os.Started) (H : Type) (enc : TypeId × Value → H) :
    ReturnsInHanded {} Tryd.checked os 5 .any (fun w args => (Rows.versionComparesSpec.pre enc Tryd.prog Tryd.f5 [] false w args ∧ laidMetH Tryd.prog Rows.versionComparesRow.laid w) ∧ sizedMet enc Tryd.prog Tryd.f5 (OpenSpec.ofChange Rows.versionComparesSpec) false w args) (Rows.versionComparesSpec.post enc Tryd.prog Tryd.f5 false true false false) := by
  refine returnsInHanded_of_change_and (C := Tryd.checked) (X := fun w _ => laidMetH Tryd.prog Rows.versionComparesRow.laid w) (fun _ _ _ hh h => h.of_heap hh) own started (by kernel_rfl) Tryd.func5
    (ChangeSpec.witness_shaped (enc := enc) (C := Tryd.checked) (os := os) (X := fun w _ => laidMetH Tryd.prog Rows.versionComparesRow.laid w) false (World.doorLaid Tryd.prog 400 os) #[.agg #[.int .i64 0, .int .i64 0, .int .i64 0, .string ByteArray.empty, .string ByteArray.empty], .agg #[.int .i64 0, .int .i64 0, .int .i64 0, .string ByteArray.empty, .string ByteArray.empty]] 8 rfl (World.shaped_of_RefB (by kernel_rfl) (by kernel_rfl)) (by kernel_rfl) (by kernel_rfl) (by kernel_rfl)
      (laidMetH_of_parts3 (fuel := 8) (laidMet_of_run' 8 (by kernel_rfl) (by kernel_rfl)) (by kernel_rfl) (by kernel_rfl))) ?_
  intro W base args ds gs before hval0 hW _ _ hL _
  have hval : ∀ (j : Nat) t v, Tryd.f5.params[j]? = some t → args[j]? = some v → Value.okWide Tryd.prog W .any base t v := hval0
  have hW' := hW
  obtain ⟨p, q, hA0, hV, rfl, hfz, hnd⟩ := hW
  have hA : DataW.TrodAll enc Tryd.prog W 0 (fun _ => true) true Tryd.f5.params.toList args.toList ds p := hA0
  rw [Tryd.params5] at hA hval
  obtain ⟨v0, vs0, d0, ds0, p0, q0, hargs, rfl, rfl, h0, r0⟩ := trodAll_cons hA
  obtain ⟨v1, vs1, d1, ds1, p1, q1, rfl, rfl, rfl, h1, r1⟩ := trodAll_cons r0
  obtain ⟨rfl, rfl, rfl⟩ := trodAll_nil r1
  obtain rfl : args = #[v0, v1] := by cases args; simp_all
  obtain ⟨rfl, rfl⟩ := trodVars_none hV
  obtain ⟨va0, vb0, vc0, vp0, vq0, rfl, rfl, rfl, w0⟩ := open_ver (hval 0 24 v0 rfl rfl) h0
  obtain ⟨va1, vb1, vc1, vp1, vq1, rfl, rfl, rfl, w1⟩ := open_ver (hval 1 24 v1 rfl rfl) h1
  clear hA0 hval0
  simp only [List.append_nil] at hW'
  refine (walk va0 vb0 vc0 vp0 vq0 va1 vb1 vc1 vp1 vq1 w0 w1 W (tab_of hL (by kernel_rfl) (MakeChecks.laidMetH_plain _ _ _ (by kernel_rfl)))).mono fun e W' ⟨he, hg⟩ => ?_
  subst he
  exact ⟨_, rfl, post_of_below (pa := []) (pv := []) hW' (fun _ _ _ => (trodAll_cons_mk (shut_bool Tryd.underlying4 _) trodAll_mk0)) (fun sp _ => (trodAll_cons_mk (shut_ver w0) (trodAll_cons_mk (shut_ver w1) trodAll_mk0))) (fun _ _ => rfl) rfl
    hg (ok_one (by kernel_rfl) rfl (okWide_bool_mk Tryd.underlying4 _))⟩

theorem over : Rows.versionComparesRow.holds Tryd.pinned (OpenSpec.ofChange Rows.versionComparesSpec) :=
  OpenClaim.holds_of_wide 5 Tryd.f5 rfl rfl rfl rfl rfl rfl rfl ⟨rfl, rfl, rfl, rfl, rfl⟩ rfl rfl rfl rfl rfl (by kernel_rfl) Tryd.func5 (by kernel_rfl)
    (of_decide_eq_true (by kernel_rfl)) (by unfold Func.isWrapper; first | (rw [if_pos (by decide +kernel)]; kernel_rfl) | (rw [if_neg (by decide +kernel)]; exact ⟨rfl, rfl⟩))
    (fun os started H enc _ => lifted os started H enc)

theorem proved : Rows.VersionComparesSaid :=
  over
theorem plain (f : FuncId) (fn : Func) (hf : Tryd.pinned.checked.prog.funcNamed "linchpin/linchpinlaw2.VersionCompares" = some f) (hfn : Tryd.pinned.checked.prog.funcs[f]? = some fn) :
    false = Tryd.pinned.checked.prog.looks [] ∧ ∀ (j : Nat) t, fn.params[j]? = some t → Tryd.pinned.checked.prog.wantsStandIn t = false := by
  obtain rfl : f = 5 := Option.some.inj ((show Tryd.prog.funcNamed "linchpin/linchpinlaw2.VersionCompares" = some 5 by kernel_rfl).symm.trans hf) |>.symm
  obtain rfl : fn = Tryd.f5 := (Option.some.inj (Tryd.func5.symm.trans hfn)).symm
  refine ⟨by kernel_rfl, fun j t ht => ?_⟩
  rw [Tryd.params5] at ht
  have hm : t ∈ [24, 24] := by simpa using Array.mem_of_getElem? ht
  have hall : ([24, 24].all fun u => !Tryd.prog.wantsStandIn u) = true := by kernel_rfl
  exact (show Tryd.prog.wantsStandIn t = false by simpa using List.all_eq_true.1 hall t hm)

theorem card : Rows.VersionComparesCardSaid :=
  Claim7.holds_tied_plain_at .later [] _ _ _ _ proved (fun _ h => by cases h) (by kernel_rfl) (fun _ h => by cases h) versionCompares_row_tie rfl ⟨rfl, rfl⟩ (by kernel_rfl) rfl plain (by kernel_rfl)
#print axioms card
end Go.Proofs.YtabcpbmnemfnbaaDoor.versionCompares
