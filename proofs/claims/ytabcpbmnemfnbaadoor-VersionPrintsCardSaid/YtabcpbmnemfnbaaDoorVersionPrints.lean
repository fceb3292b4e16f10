/-
  VersionPrints: for every version, May and Print return what the reference returns; the string of a valid version is parsed to that version. Conditions: strconv's and math/bits' tables start as the program's text lays them (the card ties them).
-/
import Derived.Test.YtabcpbmnemfnbaaDoorRows
import Derived.Test.YtabcpbmnemfnbaaDoorVLawA
import Derived.Test.YtabcpbmnemfnbaaDoorCards
import Derived.Test.YtabcpbmnemfnbaaDoorTie
import Derived.Test.YtabcpbmnemfnbaaDoorTab
import Derived.LaidMore
import Derived.MakeChecks
import Derived.SevenTiedAt
import Derived.Stop.Joined
import Derived.Test.YtabcpbmnemfnbaaDoorMem
import Derived.WalkKit
import Derived.ProofKit
import Derived.OpenShut
import Derived.ShutString
namespace Go.Proofs.YtabcpbmnemfnbaaDoor.versionPrints
open Go.ChangeShapes Go.WideShapes Go.ChangeAt Go.RowKit
open Go.ChangeMaps (open_string shut_string)
set_option linter.unusedVariables false      -- a walk need not use every 'w<i>' (that an integer argument fits its kind)

theorem own : ownKnob Tryd.prog.godebug = none := by kernel_rfl

set_option maxHeartbeats 4000000 in
theorem walk (va0 vb0 vc0 : Int) (vp0 vq0 : ByteArray) (w0 : VerWf va0 vb0 vc0 vp0 vq0) (w : World) (hT : Tab w) :
    Calls Tryd.prog 4 #[.agg #[.int .i64 va0, .int .i64 vb0, .int .i64 vc0, .string vp0, .string vq0]] w fun e w' => e = .returned (.bool true) ∧ Below w.heap.size w w' := by
  have HT := Lib.hid hT
  clear hT w0
  by_cases h0 : 300 < vp0.size
  · have i0 : (300 : Int) < (vp0.size : Int) := by omega
    go_enter Tryd.func4, Tryd.ntmps4
    go_wp2_with (go_at_call 13; refine (awake_any _ (tab_below HT.out (box_below w _))).mono ?_; rintro e w1 ⟨rfl, hb1⟩)
    go_ret
    exact ⟨rfl, (box_below w _).trans (hb1.mono (by simp))⟩
  have i0 : ¬ (300 : Int) < (vp0.size : Int) := by omega
  by_cases h1 : 300 < vq0.size
  · have i1 : (300 : Int) < (vq0.size : Int) := by omega
    go_enter Tryd.func4, Tryd.ntmps4
    go_wp2_with (go_at_call 13; refine (awake_any _ (tab_below HT.out (box_below w _))).mono ?_; rintro e w1 ⟨rfl, hb1⟩)
    go_ret
    exact ⟨rfl, (box_below w _).trans (hb1.mono (by simp))⟩
  have i1 : ¬ (300 : Int) < (vq0.size : Int) := by omega
  have s0 : vp0.size ≤ 1048576 := by omega
  have s2 : vq0.size ≤ 1048576 := by omega
  have m1 := fun W => may_any va0 vb0 vc0 vp0 vq0 W s0 s2
  have m2 := fun W => rmay_any va0 vb0 vc0 vp0 vq0 W s0 s2
  have cp := fun W h => print_any va0 vb0 vc0 vp0 vq0 W h s0 s2
  have cq := fun W => rprint_any va0 vb0 vc0 vp0 vq0 W s0 s2
  cases hm : mayV (verS va0 vb0 vc0 vp0 vq0)
  · have hp := print_no _ hm
    have cr := fun W h => parse_any ⟨#[]⟩ W h (by decide)
    rw [show (⟨#[]⟩ : ByteArray).data.toList = [] from rfl, parse_nil] at cr
    dsimp only [parseVal] at cr
    rw [hp] at cp cq
    rw [hm] at m1 m2
    clear hm hp
    go_enter Tryd.func4, Tryd.ntmps4
    go_wp2_with fail
    have hv := (room_new w (.int .i64 va0) (.int .i64 vb0) (.int .i64 vc0) (.string vp0) (.string vq0) 24).1
    have zv : w.heap.size < (w.alloc (.cells #[.int .i64 va0, .int .i64 vb0, .int .i64 vc0, .string vp0, .string vq0] 24)).heap.size := by simp
    have hB := box_below w (.cells #[.int .i64 va0, .int .i64 vb0, .int .i64 vc0, .string vp0, .string vq0] 24)
    generalize w.alloc (.cells #[.int .i64 va0, .int .i64 vb0, .int .i64 vc0, .string vp0, .string vq0] 24) = W0 at *
    refine (cp _ (tab_below HT.out hB)).mono ?_
    rintro e w1 ⟨rfl, hb⟩
    have hv := five_below hv zv hb
    have zv := Nat.lt_of_lt_of_le zv hb.size
    have hB := hB.trans ((hb).mono hB.size)
    clear hb
    obtain ⟨v0, v1, v2, v3, v4⟩ := id hv
    go_wp2_with fail
    clear v0 v1 v2 v3 v4
    refine (cr _ (tab_below HT.out hB)).mono ?_
    rintro e w2 ⟨rfl, hb⟩
    have hv := five_below hv zv hb
    have zv := Nat.lt_of_lt_of_le zv hb.size
    have hB := hB.trans ((hb).mono hB.size)
    clear hb
    go_wp2_with fail
    have hv := five_below hv zv (box_below w2 (.cells #[.int .i64 0, .int .i64 0, .int .i64 0, .string ⟨#[]⟩, .string ⟨#[]⟩] 24))
    have zv := Nat.lt_of_lt_of_le zv (box_below w2 (.cells #[.int .i64 0, .int .i64 0, .int .i64 0, .string ⟨#[]⟩, .string ⟨#[]⟩] 24)).size
    have hx := (room_new w2 (.int .i64 0) (.int .i64 0) (.int .i64 0) (.string ⟨#[]⟩) (.string ⟨#[]⟩) 24).1
    have zx : w2.heap.size < (w2.alloc (.cells #[.int .i64 0, .int .i64 0, .int .i64 0, .string ⟨#[]⟩, .string ⟨#[]⟩] 24)).heap.size := by simp
    have hB := hB.trans ((box_below w2 (.cells #[.int .i64 0, .int .i64 0, .int .i64 0, .string ⟨#[]⟩, .string ⟨#[]⟩] 24)).mono hB.size)
    generalize w2.alloc (.cells #[.int .i64 0, .int .i64 0, .int .i64 0, .string ⟨#[]⟩, .string ⟨#[]⟩] 24) = W3 at *
    have hS := start2 hv hx zv zx hB
    obtain ⟨v0, v1, v2, v3, v4, x0, x1, x2, x3, x4, zv, zx, hB⟩ := id hS
    have hun : undef = .tuple #[] := rfl
    first
      | (go_region_with (first | (go_at_call 13; refine (awake_any _ (tab_below HT.out ?_)).mono ?_; exact hB; rintro e w' ⟨rfl, hb'⟩; have hS := keep2 hb' hS; obtain ⟨v0, v1, v2, v3, v4, x0, x1, x2, x3, x4, zv, zx, hB⟩ := id hS) | (go_at_call 17; refine (m1 _).mono ?_; rintro e w' ⟨rfl, hb'⟩; have hS := keep2 hb' hS; obtain ⟨v0, v1, v2, v3, v4, x0, x1, x2, x3, x4, zv, zx, hB⟩ := id hS) | (go_at_call 18; refine (m2 _).mono ?_; rintro e w' ⟨rfl, hb'⟩; have hS := keep2 hb' hS; obtain ⟨v0, v1, v2, v3, v4, x0, x1, x2, x3, x4, zv, zx, hB⟩ := id hS) | (go_at_call 19; refine (cq _).mono ?_; rintro e w' ⟨rfl, hb'⟩; have hS := keep2 hb' hS; obtain ⟨v0, v1, v2, v3, v4, x0, x1, x2, x3, x4, zv, zx, hB⟩ := id hS)))
      | fail
    all_goals
      go_wp2_with fail
      go_ret
      exact ⟨rfl, hB⟩
  · have hl := print_len hm
    have hpp := print_parse hm
    rw [show (verS va0 vb0 vc0 vp0 vq0).pre = vp0.data.toList from rfl, show (verS va0 vb0 vc0 vp0 vq0).build = vq0.data.toList from rfl, len_size, len_size] at hl
    generalize hPV : printV (verS va0 vb0 vc0 vp0 vq0) = PV at *
    have cr := fun W h => parse_any ⟨PV.toArray⟩ W h (by rw [str_size]; omega)
    rw [show (⟨PV.toArray⟩ : ByteArray).data.toList = PV from rfl, hpp] at cr
    have cr : ∀ W : World, Tab W → Calls Tryd.prog 14 #[.string ⟨PV.toArray⟩] W fun e w' => e = .returned (.tuple #[.agg #[.int .i64 va0, .int .i64 vb0, .int .i64 vc0, .string vp0, .string vq0], .int .i64 0]) ∧ Below W.heap.size W w' := by
      intro W h
      have h1 := cr W h
      dsimp only [parseVal, verS] at h1
      rw [back, back] at h1
      exact h1
    rw [hm] at m1 m2
    generalize (⟨PV.toArray⟩ : ByteArray) = pv at *
    clear hm hl hpp hPV
    go_enter Tryd.func4, Tryd.ntmps4
    go_wp2_with fail
    have hv := (room_new w (.int .i64 va0) (.int .i64 vb0) (.int .i64 vc0) (.string vp0) (.string vq0) 24).1
    have zv : w.heap.size < (w.alloc (.cells #[.int .i64 va0, .int .i64 vb0, .int .i64 vc0, .string vp0, .string vq0] 24)).heap.size := by simp
    have hB := box_below w (.cells #[.int .i64 va0, .int .i64 vb0, .int .i64 vc0, .string vp0, .string vq0] 24)
    generalize w.alloc (.cells #[.int .i64 va0, .int .i64 vb0, .int .i64 vc0, .string vp0, .string vq0] 24) = W0 at *
    refine (cp _ (tab_below HT.out hB)).mono ?_
    rintro e w1 ⟨rfl, hb⟩
    have hv := five_below hv zv hb
    have zv := Nat.lt_of_lt_of_le zv hb.size
    have hB := hB.trans ((hb).mono hB.size)
    clear hb
    obtain ⟨v0, v1, v2, v3, v4⟩ := id hv
    go_wp2_with fail
    clear v0 v1 v2 v3 v4
    refine (cr _ (tab_below HT.out hB)).mono ?_
    rintro e w2 ⟨rfl, hb⟩
    have hv := five_below hv zv hb
    have zv := Nat.lt_of_lt_of_le zv hb.size
    have hB := hB.trans ((hb).mono hB.size)
    clear hb
    go_wp2_with fail
    have hv := five_below hv zv (box_below w2 (.cells #[.int .i64 va0, .int .i64 vb0, .int .i64 vc0, .string vp0, .string vq0] 24))
    have zv := Nat.lt_of_lt_of_le zv (box_below w2 (.cells #[.int .i64 va0, .int .i64 vb0, .int .i64 vc0, .string vp0, .string vq0] 24)).size
    have hx := (room_new w2 (.int .i64 va0) (.int .i64 vb0) (.int .i64 vc0) (.string vp0) (.string vq0) 24).1
    have zx : w2.heap.size < (w2.alloc (.cells #[.int .i64 va0, .int .i64 vb0, .int .i64 vc0, .string vp0, .string vq0] 24)).heap.size := by simp
    have hB := hB.trans ((box_below w2 (.cells #[.int .i64 va0, .int .i64 vb0, .int .i64 vc0, .string vp0, .string vq0] 24)).mono hB.size)
    generalize w2.alloc (.cells #[.int .i64 va0, .int .i64 vb0, .int .i64 vc0, .string vp0, .string vq0] 24) = W3 at *
    have hS := start2 hv hx zv zx hB
    go_region_held3 (fun W => W.cell? ⟨w.heap.size, 0, none⟩ = some (.int .i64 va0) ∧ W.cell? ⟨w.heap.size, 1, none⟩ = some (.int .i64 vb0) ∧ W.cell? ⟨w.heap.size, 2, none⟩ = some (.int .i64 vc0) ∧ W.cell? ⟨w.heap.size, 3, none⟩ = some (.string vp0) ∧ W.cell? ⟨w.heap.size, 4, none⟩ = some (.string vq0) ∧ W.cell? ⟨w2.heap.size, 0, none⟩ = some (.int .i64 va0) ∧ W.cell? ⟨w2.heap.size, 1, none⟩ = some (.int .i64 vb0) ∧ W.cell? ⟨w2.heap.size, 2, none⟩ = some (.int .i64 vc0) ∧ W.cell? ⟨w2.heap.size, 3, none⟩ = some (.string vp0) ∧ W.cell? ⟨w2.heap.size, 4, none⟩ = some (.string vq0) ∧ w.heap.size < W.heap.size ∧ w2.heap.size < W.heap.size ∧ Below w.heap.size w W)
        (first | ((refine keep2 hb' ?_; assumption)) | assumption | ((refine ⟨?_, ?_, ?_, ?_, ?_, ?_, ?_, ?_, ?_, ?_, ?_, ?_, ?_⟩ <;> first | assumption | (simp; assumption))))
        (first | (go_at_call 13; refine (awake_any _ (tab_below HT.out ?_)).mono ?_; (first | assumption | (apply bel2; assumption)); rintro e w' ⟨rfl, hb'⟩) | (go_at_call 17; refine (m1 _).mono ?_; rintro e w' ⟨rfl, hb'⟩) | (go_at_call 18; refine (m2 _).mono ?_; rintro e w' ⟨rfl, hb'⟩) | (go_at_call 19; refine (cq _).mono ?_; rintro e w' ⟨rfl, hb'⟩))
    all_goals
      go_wp2_with fail
      go_ret
      exact ⟨rfl, bel2 (by assumption)⟩

set_option maxRecDepth 100000 in
theorem lifted (os : Os) (started : os.Started) (H : Type) (enc : TypeId × Value → H) :
    ReturnsInHanded {} Tryd.checked os 4 .any (fun w args => (Rows.versionPrintsSpec.pre enc Tryd.prog Tryd.f4 [] false w args ∧ laidMetH Tryd.prog Rows.versionPrintsRow.laid w) ∧ sizedMet enc Tryd.prog Tryd.f4 (OpenSpec.ofChange Rows.versionPrintsSpec) false w args) (Rows.versionPrintsSpec.post enc Tryd.prog Tryd.f4 false true false false) := by
  refine returnsInHanded_of_change_and (C := Tryd.checked) (X := fun w _ => laidMetH Tryd.prog Rows.versionPrintsRow.laid w) (fun _ _ _ hh h => h.of_heap hh) own started (by kernel_rfl) Tryd.func4
    (ChangeSpec.witness_shaped (enc := enc) (C := Tryd.checked) (os := os) (X := fun w _ => laidMetH Tryd.prog Rows.versionPrintsRow.laid w) false (World.doorLaid Tryd.prog 400 os) #[.agg #[.int .i64 0, .int .i64 0, .int .i64 0, .string ByteArray.empty, .string ByteArray.empty]] 8 rfl (World.shaped_of_RefB (by kernel_rfl) (by kernel_rfl)) (by kernel_rfl) (by kernel_rfl) (by kernel_rfl)
      (laidMetH_of_parts3 (fuel := 8) (laidMet_of_run' 8 (by kernel_rfl) (by kernel_rfl)) (by kernel_rfl) (by kernel_rfl))) ?_
  intro W base args ds gs before hval0 hW _ _ hL _
  have hval : ∀ (j : Nat) t v, Tryd.f4.params[j]? = some t → args[j]? = some v → Value.okWide Tryd.prog W .any base t v := hval0
  have hW' := hW
  obtain ⟨p, q, hA0, hV, rfl, hfz, hnd⟩ := hW
  have hA : DataW.TrodAll enc Tryd.prog W 0 (fun _ => true) true Tryd.f4.params.toList args.toList ds p := hA0
  rw [Tryd.params4] at hA hval
  obtain ⟨v0, vs0, d0, ds0, p0, q0, hargs, rfl, rfl, h0, r0⟩ := trodAll_cons hA
  obtain ⟨rfl, rfl, rfl⟩ := trodAll_nil r0
  obtain rfl : args = #[v0] := by cases args; simp_all
  obtain ⟨rfl, rfl⟩ := trodVars_none hV
  obtain ⟨va0, vb0, vc0, vp0, vq0, rfl, rfl, rfl, w0⟩ := open_ver (hval 0 24 v0 rfl rfl) h0
  clear hA0 hval0
  simp only [List.append_nil] at hW'
  refine (walk va0 vb0 vc0 vp0 vq0 w0 W (tab_of hL (by kernel_rfl) (MakeChecks.laidMetH_plain _ _ _ (by kernel_rfl)))).mono fun e W' ⟨he, hg⟩ => ?_
  subst he
  exact ⟨_, rfl, post_of_below (pa := []) (pv := []) hW' (fun _ _ _ => (trodAll_cons_mk (shut_bool Tryd.underlying4 _) trodAll_mk0)) (fun sp _ => (trodAll_cons_mk (shut_ver w0) trodAll_mk0)) (fun _ _ => rfl) rfl
    hg (ok_one (by kernel_rfl) rfl (okWide_bool_mk Tryd.underlying4 _))⟩

theorem over : Rows.versionPrintsRow.holds Tryd.pinned (OpenSpec.ofChange Rows.versionPrintsSpec) :=
  OpenClaim.holds_of_wide 4 Tryd.f4 rfl rfl rfl rfl rfl rfl rfl ⟨rfl, rfl, rfl, rfl, rfl⟩ rfl rfl rfl rfl rfl (by kernel_rfl) Tryd.func4 (by kernel_rfl)
    (of_decide_eq_true (by kernel_rfl)) (by unfold Func.isWrapper; first | (rw [if_pos (by decide +kernel)]; kernel_rfl) | (rw [if_neg (by decide +kernel)]; exact ⟨rfl, rfl⟩))
    (fun os started H enc _ => lifted os started H enc)

theorem proved : Rows.VersionPrintsSaid :=
  over
theorem plain (f : FuncId) (fn : Func) (hf : Tryd.pinned.checked.prog.funcNamed "linchpin/linchpinlaw2.VersionPrints" = some f) (hfn : Tryd.pinned.checked.prog.funcs[f]? = some fn) :
    false = Tryd.pinned.checked.prog.looks [] ∧ ∀ (j : Nat) t, fn.params[j]? = some t → Tryd.pinned.checked.prog.wantsStandIn t = false := by
  obtain rfl : f = 4 := Option.some.inj ((show Tryd.prog.funcNamed "linchpin/linchpinlaw2.VersionPrints" = some 4 by kernel_rfl).symm.trans hf) |>.symm
  obtain rfl : fn = Tryd.f4 := (Option.some.inj (Tryd.func4.symm.trans hfn)).symm
  refine ⟨by kernel_rfl, fun j t ht => ?_⟩
  rw [Tryd.params4] at ht
  have hm : t ∈ [24] := by simpa using Array.mem_of_getElem? ht
  have hall : ([24].all fun u => !Tryd.prog.wantsStandIn u) = true := by kernel_rfl
  exact (show Tryd.prog.wantsStandIn t = false by simpa using List.all_eq_true.1 hall t hm)

theorem card : Rows.VersionPrintsCardSaid :=
  Claim7.holds_tied_plain_at .later [] _ _ _ _ proved (fun _ h => by cases h) (by kernel_rfl) (fun _ h => by cases h) versionPrints_row_tie rfl ⟨rfl, rfl⟩ (by kernel_rfl) rfl plain (by kernel_rfl)
#print axioms card
end Go.Proofs.YtabcpbmnemfnbaaDoor.versionPrints
