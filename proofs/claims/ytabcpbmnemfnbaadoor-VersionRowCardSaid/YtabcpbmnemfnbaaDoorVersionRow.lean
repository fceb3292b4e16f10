/-
  VersionRow: the versions of a fixed ascending list compare as their positions do. Conditions: strconv's and math/bits' tables start as the program's text lays them (the card ties them).
-/
import Derived.Test.YtabcpbmnemfnbaaDoorRows
import Derived.Test.YtabcpbmnemfnbaaDoorVRowT
import Derived.Test.YtabcpbmnemfnbaaDoorCards
import Derived.Test.YtabcpbmnemfnbaaDoorTie
import Derived.Test.YtabcpbmnemfnbaaDoorTab
import Derived.LaidMore
import Derived.MakeChecks
import Derived.SevenTiedAt
import Derived.Stop.Joined
import Derived.Test.YtabcpbmnemfnbaaDoorMem
import Derived.WalkKit
import Derived.ProofKit
import Derived.OpenShut
import Derived.ShutString
namespace Go.Proofs.YtabcpbmnemfnbaaDoor.versionRow
open Go.ChangeShapes Go.WideShapes Go.ChangeAt Go.RowKit
open Go.ChangeMaps (open_string shut_string)
set_option linter.unusedVariables false      -- a walk need not use every 'w<i>' (that an integer argument fits its kind)

theorem own : ownKnob Tryd.prog.godebug = none := by kernel_rfl

set_option maxHeartbeats 8000000 in
theorem walk (a0 : Int) (a1 : Int) (w0 : (Lit.int .i64 a0).wf = true) (w1 : (Lit.int .i64 a1).wf = true) (w : World) (hT : Tab w) :
    Calls Tryd.prog 10 #[.int .i64 a0, .int .i64 a1] w fun e w' => e = .returned (.bool true) ∧ Below w.heap.size w w' := by
  have HT := Lib.hid hT
  clear hT
  obtain ⟨u1, u2⟩ := bounds_i64 w0
  obtain ⟨v1, v2⟩ := bounds_i64 w1
  clear w0 w1
  have cpa : ∀ W : World, Calls Tryd.prog 31 #[.int .i64 a0, .int .i64 18] W fun e w' => e = .returned (.int .i64 (placeN a0 18 : Nat)) ∧ W = w' := fun W => plc0_any a0 18 W (by omega) (by omega) u1 u2
  have cpb : ∀ W : World, Calls Tryd.prog 31 #[.int .i64 a1, .int .i64 18] W fun e w' => e = .returned (.int .i64 (placeN a1 18 : Nat)) ∧ W = w' := fun W => plc0_any a1 18 W (by omega) (by omega) v1 v2
  have hi : placeN a0 18 < 18 := place_lt _ (by omega)
  have hj : placeN a1 18 < 18 := place_lt _ (by omega)
  generalize placeN a0 18 = i at *
  generalize placeN a1 18 = j at *
  have crow := fun W => row_two W hi hj
  have ca := fun W h => parse_any (rowS i) W h (Nat.le_trans (row_sizes ⟨i, hi⟩).1 (by omega))
  have cb := fun W h => parse_any (rowS j) W h (Nat.le_trans (row_sizes ⟨j, hj⟩).1 (by omega))
  have cc := fun W => compare_any (rowA i) (rowB i) (rowC i) (rowP i) ⟨#[]⟩ (rowA j) (rowB j) (rowC j) (rowP j) ⟨#[]⟩ W (Nat.le_trans (row_sizes ⟨i, hi⟩).2 (by omega)) (by decide) (Nat.le_trans (row_sizes ⟨j, hj⟩).2 (by omega)) (by decide)
  rw [row_parse ⟨i, hi⟩] at ca
  rw [row_parse ⟨j, hj⟩] at cb
  rw [row_comp ⟨i, hi⟩ ⟨j, hj⟩] at cc
  have ca : ∀ W : World, Tab W → Calls Tryd.prog 14 #[.string (rowS i)] W fun e w' => e = .returned (.tuple #[.agg #[.int .i64 (rowA i), .int .i64 (rowB i), .int .i64 (rowC i), .string (rowP i), .string ⟨#[]⟩], .int .i64 0]) ∧ Below W.heap.size W w' := by
    intro W h
    have h1 := ca W h
    dsimp only [parseVal, verS] at h1
    rw [back] at h1
    exact h1
  have cb : ∀ W : World, Tab W → Calls Tryd.prog 14 #[.string (rowS j)] W fun e w' => e = .returned (.tuple #[.agg #[.int .i64 (rowA j), .int .i64 (rowB j), .int .i64 (rowC j), .string (rowP j), .string ⟨#[]⟩], .int .i64 0]) ∧ Below W.heap.size W w' := by
    intro W h
    have h1 := cb W h
    dsimp only [parseVal, verS] at h1
    rw [back] at h1
    exact h1
  dsimp only at cc
  generalize rowS i = Si at *
  generalize rowS j = Sj at *
  generalize rowA i = Ai at *
  generalize rowA j = Aj at *
  generalize rowB i = Bi at *
  generalize rowB j = Bj at *
  generalize rowC i = Ci at *
  generalize rowC j = Cj at *
  generalize rowP i = Pi at *
  generalize rowP j = Pj at *
  have i1 : (i : Int) < 18 := by omega
  have j1 : (j : Int) < 18 := by omega
  have HW : Hid (∀ W : World, Below w.heap.size w W → Tab W) := fun W h => tab_below HT.out h
  have HC : (intsI (i : Int) (j : Int) = -1 ∧ (i : Int) < (j : Int)) ∨ (intsI (i : Int) (j : Int) = 0 ∧ ¬ (i : Int) < (j : Int) ∧ ¬ (j : Int) < (i : Int)) ∨ (intsI (i : Int) (j : Int) = 1 ∧ ¬ (i : Int) < (j : Int) ∧ (j : Int) < (i : Int)) := by
    rcases ints_cases (i : Int) (j : Int) with ⟨hX, hc⟩ | ⟨hX, hc⟩ | ⟨hX, hc⟩
    · exact .inl ⟨hX, hc⟩
    · exact .inr (.inl ⟨hX, by omega, by omega⟩)
    · exact .inr (.inr ⟨hX, by omega, hc⟩)
  rcases HC with ⟨hX, g1⟩ | ⟨hX, g1, g2⟩ | ⟨hX, g1, g2⟩
  all_goals
    rw [hX] at cc
    clear hX
    go_enter Tryd.func10, Tryd.ntmps10
    go_wp2_with fail
    refine (crow _).mono ?_
    rintro e wr ⟨rfl, hB, hz, k0, k1⟩
    go_wp2_with fail
    refine (cpa _).mono ?_
    rintro e wq ⟨rfl, rfl⟩
    go_wp2_with fail
    refine (cpb _).mono ?_
    rintro e wq ⟨rfl, rfl⟩
    go_wp2_with fail
    refine (ca _ (HW.out _ hB)).mono ?_
    rintro e w20 ⟨rfl, hb⟩
    have k1 := (hb.cell (p := ⟨w.heap.size, j, none⟩) hz).trans k1
    have hz := Nat.lt_of_lt_of_le hz hb.size
    have hB := hB.trans (hb.mono hB.size)
    clear hb k0
    have hz2 : w.heap.size < w20.heap.size := hz
    go_wp2_with fail
    have hv := (room_new w20 (.int .i64 Ai) (.int .i64 Bi) (.int .i64 Ci) (.string Pi) (.string ⟨#[]⟩) 24).1
    have zv : w20.heap.size < (w20.alloc (.cells #[.int .i64 Ai, .int .i64 Bi, .int .i64 Ci, .string Pi, .string ⟨#[]⟩] 24)).heap.size := by simp
    have hB := hB.trans ((box_below w20 (.cells #[.int .i64 Ai, .int .i64 Bi, .int .i64 Ci, .string Pi, .string ⟨#[]⟩] 24)).mono hB.size)
    generalize w20.alloc (.cells #[.int .i64 Ai, .int .i64 Bi, .int .i64 Ci, .string Pi, .string ⟨#[]⟩] 24) = W21 at *
    refine (cb _ (HW.out _ hB)).mono ?_
    rintro e w30 ⟨rfl, hb⟩
    have hv := five_below hv zv hb
    have zv := Nat.lt_of_lt_of_le zv hb.size
    have hB := hB.trans (hb.mono hB.size)
    clear hb k1
    go_wp2_with fail
    have hv := five_below hv zv (box_below w30 (.cells #[.int .i64 Aj, .int .i64 Bj, .int .i64 Cj, .string Pj, .string ⟨#[]⟩] 24))
    have zv := Nat.lt_of_lt_of_le zv (box_below w30 (.cells #[.int .i64 Aj, .int .i64 Bj, .int .i64 Cj, .string Pj, .string ⟨#[]⟩] 24)).size
    have hu := (room_new w30 (.int .i64 Aj) (.int .i64 Bj) (.int .i64 Cj) (.string Pj) (.string ⟨#[]⟩) 24).1
    have zu : w30.heap.size < (w30.alloc (.cells #[.int .i64 Aj, .int .i64 Bj, .int .i64 Cj, .string Pj, .string ⟨#[]⟩] 24)).heap.size := by simp
    have hB := hB.trans ((box_below w30 (.cells #[.int .i64 Aj, .int .i64 Bj, .int .i64 Cj, .string Pj, .string ⟨#[]⟩] 24)).mono hB.size)
    generalize w30.alloc (.cells #[.int .i64 Aj, .int .i64 Bj, .int .i64 Cj, .string Pj, .string ⟨#[]⟩] 24) = W31 at *
    refine (awake_any _ (HW.out _ hB)).mono ?_
    rintro e w32 ⟨rfl, hb⟩
    have hv := five_below hv zv hb
    have zv := Nat.lt_of_lt_of_le zv hb.size
    have hu := five_below hu zu hb
    have zu := Nat.lt_of_lt_of_le zu hb.size
    have hB := hB.trans ((hb).mono hB.size)
    clear hb
    obtain ⟨vq0, vq1, vq2, vq3, vq4⟩ := id hv
    obtain ⟨uq0, uq1, uq2, uq3, uq4⟩ := id hu
    go_wp2_with fail
    clear vq0 vq1 vq2 vq3 vq4 uq0 uq1 uq2 uq3 uq4
    refine (cc _).mono ?_
    rintro e w33 ⟨rfl, hb⟩
    have hv := five_below hv zv hb
    have zv := Nat.lt_of_lt_of_le zv hb.size
    have hu := five_below hu zu hb
    have zu := Nat.lt_of_lt_of_le zu hb.size
    have hB := hB.trans ((hb).mono hB.size)
    clear hb
    go_wp2_with fail
    go_ret
    exact ⟨rfl, hB⟩

set_option maxRecDepth 100000 in
theorem lifted (os : Os) (started : os.Started) (H : Type) (enc : TypeId × Value → H) :
    ReturnsInHanded {} Tryd.checked os 10 .any (fun w args => (Rows.versionRowSpec.pre enc Tryd.prog Tryd.f10 [] false w args ∧ laidMetH Tryd.prog Rows.versionRowRow.laid w) ∧ sizedMet enc Tryd.prog Tryd.f10 (OpenSpec.ofChange Rows.versionRowSpec) false w args) (Rows.versionRowSpec.post enc Tryd.prog Tryd.f10 false true false false) := by
  refine returnsInHanded_of_change_and (C := Tryd.checked) (X := fun w _ => laidMetH Tryd.prog Rows.versionRowRow.laid w) (fun _ _ _ hh h => h.of_heap hh) own started (by kernel_rfl) Tryd.func10
    (ChangeSpec.witness_shaped (enc := enc) (C := Tryd.checked) (os := os) (X := fun w _ => laidMetH Tryd.prog Rows.versionRowRow.laid w) false (World.doorLaid Tryd.prog 400 os) #[.int .i64 0, .int .i64 0] 8 rfl (World.shaped_of_RefB (by kernel_rfl) (by kernel_rfl)) (by kernel_rfl) (by kernel_rfl) (by kernel_rfl)
      (laidMetH_of_parts3 (fuel := 8) (laidMet_of_run' 8 (by kernel_rfl) (by kernel_rfl)) (by kernel_rfl) (by kernel_rfl))) ?_
  intro W base args ds gs before hval0 hW _ _ hL _
  have hval : ∀ (j : Nat) t v, Tryd.f10.params[j]? = some t → args[j]? = some v → Value.okWide Tryd.prog W .any base t v := hval0
  have hW' := hW
  obtain ⟨p, q, hA0, hV, rfl, hfz, hnd⟩ := hW
  have hA : DataW.TrodAll enc Tryd.prog W 0 (fun _ => true) true Tryd.f10.params.toList args.toList ds p := hA0
  rw [Tryd.params10] at hA hval
  obtain ⟨v0, vs0, d0, ds0, p0, q0, hargs, rfl, rfl, h0, r0⟩ := trodAll_cons hA
  obtain ⟨v1, vs1, d1, ds1, p1, q1, rfl, rfl, rfl, h1, r1⟩ := trodAll_cons r0
  obtain ⟨rfl, rfl, rfl⟩ := trodAll_nil r1
  obtain rfl : args = #[v0, v1] := by cases args; simp_all
  obtain ⟨rfl, rfl⟩ := trodVars_none hV
  obtain ⟨a0, rfl, rfl, rfl, w0⟩ := open_int Tryd.underlying3 (hval 0 3 v0 rfl rfl) h0
  obtain ⟨a1, rfl, rfl, rfl, w1⟩ := open_int Tryd.underlying3 (hval 1 3 v1 rfl rfl) h1
  clear hA0 hval0
  simp only [List.append_nil] at hW'
  refine (walk a0 a1 w0 w1 W (tab_of hL (by kernel_rfl) (MakeChecks.laidMetH_plain _ _ _ (by kernel_rfl)))).mono fun e W' ⟨he, hg⟩ => ?_
  subst he
  exact ⟨_, rfl, post_of_below (pa := []) (pv := []) hW' (fun _ _ _ => (trodAll_cons_mk (shut_bool Tryd.underlying4 _) trodAll_mk0)) (fun sp _ => (trodAll_cons_mk (shut_int Tryd.underlying3 w0) (trodAll_cons_mk (shut_int Tryd.underlying3 w1) trodAll_mk0))) (fun _ _ => rfl) rfl
    hg (ok_one (by kernel_rfl) rfl (okWide_bool_mk Tryd.underlying4 _))⟩

theorem over : Rows.versionRowRow.holds Tryd.pinned (OpenSpec.ofChange Rows.versionRowSpec) :=
  OpenClaim.holds_of_wide 10 Tryd.f10 rfl rfl rfl rfl rfl rfl rfl ⟨rfl, rfl, rfl, rfl, rfl⟩ rfl rfl rfl rfl rfl (by kernel_rfl) Tryd.func10 (by kernel_rfl)
    (of_decide_eq_true (by kernel_rfl)) (by unfold Func.isWrapper; first | (rw [if_pos (by decide +kernel)]; kernel_rfl) | (rw [if_neg (by decide +kernel)]; exact ⟨rfl, rfl⟩))
    (fun os started H enc _ => lifted os started H enc)

theorem proved : Rows.VersionRowSaid :=
  over
theorem plain (f : FuncId) (fn : Func) (hf : Tryd.pinned.checked.prog.funcNamed "linchpin/linchpinlaw2.VersionRow" = some f) (hfn : Tryd.pinned.checked.prog.funcs[f]? = some fn) :
    false = Tryd.pinned.checked.prog.looks [] ∧ ∀ (j : Nat) t, fn.params[j]? = some t → Tryd.pinned.checked.prog.wantsStandIn t = false := by
  obtain rfl : f = 10 := Option.some.inj ((show Tryd.prog.funcNamed "linchpin/linchpinlaw2.VersionRow" = some 10 by kernel_rfl).symm.trans hf) |>.symm
  obtain rfl : fn = Tryd.f10 := (Option.some.inj (Tryd.func10.symm.trans hfn)).symm
  refine ⟨by kernel_rfl, fun j t ht => ?_⟩
  rw [Tryd.params10] at ht
  have hm : t ∈ [3, 3] := by simpa using Array.mem_of_getElem? ht
  have hall : ([3, 3].all fun u => !Tryd.prog.wantsStandIn u) = true := by kernel_rfl
  exact (show Tryd.prog.wantsStandIn t = false by simpa using List.all_eq_true.1 hall t hm)

theorem card : Rows.VersionRowCardSaid :=
  Claim7.holds_tied_plain_at .later [] _ _ _ _ proved (fun _ h => by cases h) (by kernel_rfl) (fun _ h => by cases h) versionRow_row_tie rfl ⟨rfl, rfl⟩ (by kernel_rfl) rfl plain (by kernel_rfl)
#print axioms card
end Go.Proofs.YtabcpbmnemfnbaaDoor.versionRow
