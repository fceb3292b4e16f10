/-
  VersionBumps: for every version and every part, Bump and Next return what the reference returns. Conditions: strconv's and math/bits' tables start as the program's text lays them (the card ties them).
-/
import Derived.Test.YtabcpbmnemfnbaaDoorRows
import Derived.Test.YtabcpbmnemfnbaaDoorVLawA
import Derived.Test.YtabcpbmnemfnbaaDoorCards
import Derived.Test.YtabcpbmnemfnbaaDoorTie
import Derived.Test.YtabcpbmnemfnbaaDoorTab
import Derived.LaidMore
import Derived.MakeChecks
import Derived.SevenTiedAt
import Derived.Stop.Joined
import Derived.Test.YtabcpbmnemfnbaaDoorMem
import Derived.WalkKit
import Derived.ProofKit
import Derived.OpenShut
import Derived.ShutString
namespace Go.Proofs.YtabcpbmnemfnbaaDoor.versionBumps
open Go.ChangeShapes Go.WideShapes Go.ChangeAt Go.RowKit
open Go.ChangeMaps (open_string shut_string)
set_option linter.unusedVariables false      -- a walk need not use every 'w<i>' (that an integer argument fits its kind)

theorem own : ownKnob Tryd.prog.godebug = none := by kernel_rfl

set_option maxHeartbeats 4000000 in
theorem walk (va0 vb0 vc0 : Int) (vp0 vq0 : ByteArray) (a1 : Int) (w0 : VerWf va0 vb0 vc0 vp0 vq0) (w1 : (Lit.int .i64 a1).wf = true) (w : World) (hT : Tab w) :
    Calls Tryd.prog 7 #[.agg #[.int .i64 va0, .int .i64 vb0, .int .i64 vc0, .string vp0, .string vq0], .int .i64 a1] w fun e w' => e = .returned (.bool true) ∧ Below w.heap.size w w' := by
  have HT := Lib.hid hT
  clear hT w0 w1
  by_cases h0 : 300 < vp0.size
  · have i0 : (300 : Int) < (vp0.size : Int) := by omega
    go_enter Tryd.func7, Tryd.ntmps7
    go_wp2_with (go_at_call 13; refine (awake_any _ (tab_below HT.out (box_below w _))).mono ?_; rintro e w1 ⟨rfl, hb1⟩)
    go_ret
    exact ⟨rfl, (box_below w _).trans (hb1.mono (by simp))⟩
  have i0 : ¬ (300 : Int) < (vp0.size : Int) := by omega
  by_cases h1 : 300 < vq0.size
  · have i1 : (300 : Int) < (vq0.size : Int) := by omega
    go_enter Tryd.func7, Tryd.ntmps7
    go_wp2_with (go_at_call 13; refine (awake_any _ (tab_below HT.out (box_below w _))).mono ?_; rintro e w1 ⟨rfl, hb1⟩)
    go_ret
    exact ⟨rfl, (box_below w _).trans (hb1.mono (by simp))⟩
  have i1 : ¬ (300 : Int) < (vq0.size : Int) := by omega
  have s0 : vp0.size ≤ 1048576 := by omega
  have s2 : vq0.size ≤ 1048576 := by omega
  have c1 := fun W => bump_any va0 vb0 vc0 vp0 vq0 a1 W s0 s2
  have c2 := fun W => rbump_any va0 vb0 vc0 vp0 vq0 a1 W s0 s2
  have c3 := fun W => next_any va0 vb0 vc0 vp0 vq0 W s0 s2
  have c4 := fun W => rnext_any va0 vb0 vc0 vp0 vq0 W s0 s2
  obtain ⟨x0, x1, x2, x3, x4, xb, hx⟩ := bump_vals (bumpV (verS va0 vb0 vc0 vp0 vq0) a1)
  obtain ⟨y0, y1, y2, y3, y4, yb, hy⟩ := bump_vals (nextV (verS va0 vb0 vc0 vp0 vq0))
  rw [hx] at c1 c2
  rw [hy] at c3 c4
  clear hx hy
  go_enter Tryd.func7, Tryd.ntmps7
  go_wp2_with fail
  have hv := (room_new w (.int .i64 va0) (.int .i64 vb0) (.int .i64 vc0) (.string vp0) (.string vq0) 24).1
  have zv : w.heap.size < (w.alloc (.cells #[.int .i64 va0, .int .i64 vb0, .int .i64 vc0, .string vp0, .string vq0] 24)).heap.size := by simp
  have hB := box_below w (.cells #[.int .i64 va0, .int .i64 vb0, .int .i64 vc0, .string vp0, .string vq0] 24)
  generalize w.alloc (.cells #[.int .i64 va0, .int .i64 vb0, .int .i64 vc0, .string vp0, .string vq0] 24) = W0 at *
  refine (c1 _).mono ?_
  rintro e w1 ⟨rfl, hb⟩
  have hv := five_below hv zv hb
  have zv := Nat.lt_of_lt_of_le zv hb.size
  have hB := hB.trans ((hb).mono hB.size)
  clear hb
  obtain ⟨v0, v1, v2, v3, v4⟩ := id hv
  go_wp2_with fail
  clear v0 v1 v2 v3 v4
  have hv := five_below hv zv (box_below w1 (.cells #[.int .i64 x0, .int .i64 x1, .int .i64 x2, .string x3, .string x4] 24))
  have zv := Nat.lt_of_lt_of_le zv (box_below w1 (.cells #[.int .i64 x0, .int .i64 x1, .int .i64 x2, .string x3, .string x4] 24)).size
  have hx := (room_new w1 (.int .i64 x0) (.int .i64 x1) (.int .i64 x2) (.string x3) (.string x4) 24).1
  have zx : w1.heap.size < (w1.alloc (.cells #[.int .i64 x0, .int .i64 x1, .int .i64 x2, .string x3, .string x4] 24)).heap.size := by simp
  have hB := hB.trans ((box_below w1 (.cells #[.int .i64 x0, .int .i64 x1, .int .i64 x2, .string x3, .string x4] 24)).mono hB.size)
  generalize w1.alloc (.cells #[.int .i64 x0, .int .i64 x1, .int .i64 x2, .string x3, .string x4] 24) = W2 at *
  refine (c2 _).mono ?_
  rintro e w3 ⟨rfl, hb⟩
  have hv := five_below hv zv hb
  have zv := Nat.lt_of_lt_of_le zv hb.size
  have hx := five_below hx zx hb
  have zx := Nat.lt_of_lt_of_le zx hb.size
  have hB := hB.trans ((hb).mono hB.size)
  clear hb
  obtain ⟨v0, v1, v2, v3, v4⟩ := id hv
  go_wp2_with fail
  clear v0 v1 v2 v3 v4
  have hv := five_below hv zv (box_below w3 (.cells #[.int .i64 x0, .int .i64 x1, .int .i64 x2, .string x3, .string x4] 24))
  have zv := Nat.lt_of_lt_of_le zv (box_below w3 (.cells #[.int .i64 x0, .int .i64 x1, .int .i64 x2, .string x3, .string x4] 24)).size
  have hx := five_below hx zx (box_below w3 (.cells #[.int .i64 x0, .int .i64 x1, .int .i64 x2, .string x3, .string x4] 24))
  have zx := Nat.lt_of_lt_of_le zx (box_below w3 (.cells #[.int .i64 x0, .int .i64 x1, .int .i64 x2, .string x3, .string x4] 24)).size
  have hu := (room_new w3 (.int .i64 x0) (.int .i64 x1) (.int .i64 x2) (.string x3) (.string x4) 24).1
  have zu : w3.heap.size < (w3.alloc (.cells #[.int .i64 x0, .int .i64 x1, .int .i64 x2, .string x3, .string x4] 24)).heap.size := by simp
  have hB := hB.trans ((box_below w3 (.cells #[.int .i64 x0, .int .i64 x1, .int .i64 x2, .string x3, .string x4] 24)).mono hB.size)
  generalize w3.alloc (.cells #[.int .i64 x0, .int .i64 x1, .int .i64 x2, .string x3, .string x4] 24) = W4 at *
  refine (c3 _).mono ?_
  rintro e w5 ⟨rfl, hb⟩
  have hv := five_below hv zv hb
  have zv := Nat.lt_of_lt_of_le zv hb.size
  have hx := five_below hx zx hb
  have zx := Nat.lt_of_lt_of_le zx hb.size
  have hu := five_below hu zu hb
  have zu := Nat.lt_of_lt_of_le zu hb.size
  have hB := hB.trans ((hb).mono hB.size)
  clear hb
  obtain ⟨v0, v1, v2, v3, v4⟩ := id hv
  go_wp2_with fail
  clear v0 v1 v2 v3 v4
  have hv := five_below hv zv (box_below w5 (.cells #[.int .i64 y0, .int .i64 y1, .int .i64 y2, .string y3, .string y4] 24))
  have zv := Nat.lt_of_lt_of_le zv (box_below w5 (.cells #[.int .i64 y0, .int .i64 y1, .int .i64 y2, .string y3, .string y4] 24)).size
  have hx := five_below hx zx (box_below w5 (.cells #[.int .i64 y0, .int .i64 y1, .int .i64 y2, .string y3, .string y4] 24))
  have zx := Nat.lt_of_lt_of_le zx (box_below w5 (.cells #[.int .i64 y0, .int .i64 y1, .int .i64 y2, .string y3, .string y4] 24)).size
  have hu := five_below hu zu (box_below w5 (.cells #[.int .i64 y0, .int .i64 y1, .int .i64 y2, .string y3, .string y4] 24))
  have zu := Nat.lt_of_lt_of_le zu (box_below w5 (.cells #[.int .i64 y0, .int .i64 y1, .int .i64 y2, .string y3, .string y4] 24)).size
  have hy := (room_new w5 (.int .i64 y0) (.int .i64 y1) (.int .i64 y2) (.string y3) (.string y4) 24).1
  have zy : w5.heap.size < (w5.alloc (.cells #[.int .i64 y0, .int .i64 y1, .int .i64 y2, .string y3, .string y4] 24)).heap.size := by simp
  have hB := hB.trans ((box_below w5 (.cells #[.int .i64 y0, .int .i64 y1, .int .i64 y2, .string y3, .string y4] 24)).mono hB.size)
  generalize w5.alloc (.cells #[.int .i64 y0, .int .i64 y1, .int .i64 y2, .string y3, .string y4] 24) = W6 at *
  refine (c4 _).mono ?_
  rintro e w7 ⟨rfl, hb⟩
  have hv := five_below hv zv hb
  have zv := Nat.lt_of_lt_of_le zv hb.size
  have hx := five_below hx zx hb
  have zx := Nat.lt_of_lt_of_le zx hb.size
  have hu := five_below hu zu hb
  have zu := Nat.lt_of_lt_of_le zu hb.size
  have hy := five_below hy zy hb
  have zy := Nat.lt_of_lt_of_le zy hb.size
  have hB := hB.trans ((hb).mono hB.size)
  clear hb
  go_wp2_with fail
  have hv := five_below hv zv (box_below w7 (.cells #[.int .i64 y0, .int .i64 y1, .int .i64 y2, .string y3, .string y4] 24))
  have zv := Nat.lt_of_lt_of_le zv (box_below w7 (.cells #[.int .i64 y0, .int .i64 y1, .int .i64 y2, .string y3, .string y4] 24)).size
  have hx := five_below hx zx (box_below w7 (.cells #[.int .i64 y0, .int .i64 y1, .int .i64 y2, .string y3, .string y4] 24))
  have zx := Nat.lt_of_lt_of_le zx (box_below w7 (.cells #[.int .i64 y0, .int .i64 y1, .int .i64 y2, .string y3, .string y4] 24)).size
  have hu := five_below hu zu (box_below w7 (.cells #[.int .i64 y0, .int .i64 y1, .int .i64 y2, .string y3, .string y4] 24))
  have zu := Nat.lt_of_lt_of_le zu (box_below w7 (.cells #[.int .i64 y0, .int .i64 y1, .int .i64 y2, .string y3, .string y4] 24)).size
  have hy := five_below hy zy (box_below w7 (.cells #[.int .i64 y0, .int .i64 y1, .int .i64 y2, .string y3, .string y4] 24))
  have zy := Nat.lt_of_lt_of_le zy (box_below w7 (.cells #[.int .i64 y0, .int .i64 y1, .int .i64 y2, .string y3, .string y4] 24)).size
  have hz := (room_new w7 (.int .i64 y0) (.int .i64 y1) (.int .i64 y2) (.string y3) (.string y4) 24).1
  have zz : w7.heap.size < (w7.alloc (.cells #[.int .i64 y0, .int .i64 y1, .int .i64 y2, .string y3, .string y4] 24)).heap.size := by simp
  have hB := hB.trans ((box_below w7 (.cells #[.int .i64 y0, .int .i64 y1, .int .i64 y2, .string y3, .string y4] 24)).mono hB.size)
  generalize w7.alloc (.cells #[.int .i64 y0, .int .i64 y1, .int .i64 y2, .string y3, .string y4] 24) = W8 at *
  refine (awake_any _ (tab_below HT.out hB)).mono ?_
  rintro e w9 ⟨rfl, hb⟩
  have hv := five_below hv zv hb
  have zv := Nat.lt_of_lt_of_le zv hb.size
  have hx := five_below hx zx hb
  have zx := Nat.lt_of_lt_of_le zx hb.size
  have hu := five_below hu zu hb
  have zu := Nat.lt_of_lt_of_le zu hb.size
  have hy := five_below hy zy hb
  have zy := Nat.lt_of_lt_of_le zy hb.size
  have hz := five_below hz zz hb
  have zz := Nat.lt_of_lt_of_le zz hb.size
  have hB := hB.trans ((hb).mono hB.size)
  clear hb
  obtain ⟨x0, x1, x2, x3, x4⟩ := id hx
  obtain ⟨u0, u1, u2, u3, u4⟩ := id hu
  obtain ⟨y0, y1, y2, y3, y4⟩ := id hy
  obtain ⟨z0, z1, z2, z3, z4⟩ := id hz
  go_wp2_with fail
  go_ret
  exact ⟨rfl, hB⟩

set_option maxRecDepth 100000 in
theorem lifted (os : Os) (started : os.Started) (H : Type) (enc : TypeId × Value → H) :
    ReturnsInHanded {} Tryd.checked os 7 .any (fun w args => (Rows.versionBumpsSpec.pre enc Tryd.prog Tryd.f7 [] false w args ∧ laidMetH Tryd.prog Rows.versionBumpsRow.laid w) ∧ sizedMet enc Tryd.prog Tryd.f7 (OpenSpec.ofChange Rows.versionBumpsSpec) false w args) (Rows.versionBumpsSpec.post enc Tryd.prog Tryd.f7 false true false false) := by
  refine returnsInHanded_of_change_and (C := Tryd.checked) (X := fun w _ => laidMetH Tryd.prog Rows.versionBumpsRow.laid w) (fun _ _ _ hh h => h.of_heap hh) own started (by kernel_rfl) Tryd.func7
    (ChangeSpec.witness_shaped (enc := enc) (C := Tryd.checked) (os := os) (X := fun w _ => laidMetH Tryd.prog Rows.versionBumpsRow.laid w) false (World.doorLaid Tryd.prog 400 os) #[.agg #[.int .i64 0, .int .i64 0, .int .i64 0, .string ByteArray.empty, .string ByteArray.empty], .int .i64 0] 8 rfl (World.shaped_of_RefB (by kernel_rfl) (by kernel_rfl)) (by kernel_rfl) (by kernel_rfl) (by kernel_rfl)
      (laidMetH_of_parts3 (fuel := 8) (laidMet_of_run' 8 (by kernel_rfl) (by kernel_rfl)) (by kernel_rfl) (by kernel_rfl))) ?_
  intro W base args ds gs before hval0 hW _ _ hL _
  have hval : ∀ (j : Nat) t v, Tryd.f7.params[j]? = some t → args[j]? = some v → Value.okWide Tryd.prog W .any base t v := hval0
  have hW' := hW
  obtain ⟨p, q, hA0, hV, rfl, hfz, hnd⟩ := hW
  have hA : DataW.TrodAll enc Tryd.prog W 0 (fun _ => true) true Tryd.f7.params.toList args.toList ds p := hA0
  rw [Tryd.params7] at hA hval
  obtain ⟨v0, vs0, d0, ds0, p0, q0, hargs, rfl, rfl, h0, r0⟩ := trodAll_cons hA
  obtain ⟨v1, vs1, d1, ds1, p1, q1, rfl, rfl, rfl, h1, r1⟩ := trodAll_cons r0
  obtain ⟨rfl, rfl, rfl⟩ := trodAll_nil r1
  obtain rfl : args = #[v0, v1] := by cases args; simp_all
  obtain ⟨rfl, rfl⟩ := trodVars_none hV
  obtain ⟨va0, vb0, vc0, vp0, vq0, rfl, rfl, rfl, w0⟩ := open_ver (hval 0 24 v0 rfl rfl) h0
  obtain ⟨a1, rfl, rfl, rfl, w1⟩ := open_int Tryd.underlying3 (hval 1 3 v1 rfl rfl) h1
  clear hA0 hval0
  simp only [List.append_nil] at hW'
  refine (walk va0 vb0 vc0 vp0 vq0 a1 w0 w1 W (tab_of hL (by kernel_rfl) (MakeChecks.laidMetH_plain _ _ _ (by kernel_rfl)))).mono fun e W' ⟨he, hg⟩ => ?_
  subst he
  exact ⟨_, rfl, post_of_below (pa := []) (pv := []) hW' (fun _ _ _ => (trodAll_cons_mk (shut_bool Tryd.underlying4 _) trodAll_mk0)) (fun sp _ => (trodAll_cons_mk (shut_ver w0) (trodAll_cons_mk (shut_int Tryd.underlying3 w1) trodAll_mk0))) (fun _ _ => rfl) rfl
    hg (ok_one (by kernel_rfl) rfl (okWide_bool_mk Tryd.underlying4 _))⟩

theorem over : Rows.versionBumpsRow.holds Tryd.pinned (OpenSpec.ofChange Rows.versionBumpsSpec) :=
  OpenClaim.holds_of_wide 7 Tryd.f7 rfl rfl rfl rfl rfl rfl rfl ⟨rfl, rfl, rfl, rfl, rfl⟩ rfl rfl rfl rfl rfl (by kernel_rfl) Tryd.func7 (by kernel_rfl)
    (of_decide_eq_true (by kernel_rfl)) (by unfold Func.isWrapper; first | (rw [if_pos (by decide +kernel)]; kernel_rfl) | (rw [if_neg (by decide +kernel)]; exact ⟨rfl, rfl⟩))
    (fun os started H enc _ => lifted os started H enc)

theorem proved : Rows.VersionBumpsSaid :=
  over
theorem plain (f : FuncId) (fn : Func) (hf : Tryd.pinned.checked.prog.funcNamed "linchpin/linchpinlaw2.VersionBumps" = some f) (hfn : Tryd.pinned.checked.prog.funcs[f]? = some fn) :
    false = Tryd.pinned.checked.prog.looks [] ∧ ∀ (j : Nat) t, fn.params[j]? = some t → Tryd.pinned.checked.prog.wantsStandIn t = false := by
  obtain rfl : f = 7 := Option.some.inj ((show Tryd.prog.funcNamed "linchpin/linchpinlaw2.VersionBumps" = some 7 by kernel_rfl).symm.trans hf) |>.symm
  obtain rfl : fn = Tryd.f7 := (Option.some.inj (Tryd.func7.symm.trans hfn)).symm
  refine ⟨by kernel_rfl, fun j t ht => ?_⟩
  rw [Tryd.params7] at ht
  have hm : t ∈ [24, 3] := by simpa using Array.mem_of_getElem? ht
  have hall : ([24, 3].all fun u => !Tryd.prog.wantsStandIn u) = true := by kernel_rfl
  exact (show Tryd.prog.wantsStandIn t = false by simpa using List.all_eq_true.1 hall t hm)

theorem card : Rows.VersionBumpsCardSaid :=
  Claim7.holds_tied_plain_at .later [] _ _ _ _ proved (fun _ h => by cases h) (by kernel_rfl) (fun _ h => by cases h) versionBumps_row_tie rfl ⟨rfl, rfl⟩ (by kernel_rfl) rfl plain (by kernel_rfl)
#print axioms card
end Go.Proofs.YtabcpbmnemfnbaaDoor.versionBumps
