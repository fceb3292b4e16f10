/-
  VersionReads: for every string, Parse returns what the reference returns; if it returns a version, Print returns the string again. Conditions: strconv's and math/bits' tables start as the program's text lays them (the card ties them).
-/
import Derived.Test.YtabcpbmnemfnbaaDoorRows
import Derived.Test.YtabcpbmnemfnbaaDoorVLens
import Derived.Test.YtabcpbmnemfnbaaDoorVRParse
import Derived.Test.YtabcpbmnemfnbaaDoorVPrint
import Derived.Test.YtabcpbmnemfnbaaDoorCards
import Derived.Test.YtabcpbmnemfnbaaDoorTie
import Derived.Test.YtabcpbmnemfnbaaDoorTab
import Derived.LaidMore
import Derived.MakeChecks
import Derived.SevenTiedAt
import Derived.Stop.Joined
import Derived.Test.YtabcpbmnemfnbaaDoorMem
import Derived.WalkKit
import Derived.ProofKit
import Derived.OpenShut
import Derived.ShutString
namespace Go.Proofs.YtabcpbmnemfnbaaDoor.versionReads
open Go.ChangeShapes Go.WideShapes Go.ChangeAt Go.RowKit
open Go.ChangeMaps (open_string shut_string)
set_option linter.unusedVariables false      -- a walk need not use every 'w<i>' (that an integer argument fits its kind)

theorem own : ownKnob Tryd.prog.godebug = none := by kernel_rfl

set_option maxHeartbeats 2000000 in
theorem walk (a0 : ByteArray) (w0 : a0.size ≤ maxLen) (w : World) (hT : Tab w) :
    Calls Tryd.prog 3 #[.string a0] w fun e w' => e = .returned (.bool true) ∧ Below w.heap.size w w' := by
  have HT := Lib.hid hT
  clear hT
  by_cases hlen : 300 < a0.size
  · have i1 : (300 : Int) < (a0.size : Int) := by omega
    go_enter Tryd.func3, Tryd.ntmps3
    go_wp2_with (go_at_call 13; refine (awake_any _ HT.out).mono ?_; rintro e w1 ⟨rfl, hb1⟩)
    go_ret
    exact ⟨rfl, hb1⟩
  · have i1 : ¬ (300 : Int) < (a0.size : Int) := by omega
    have c1 := fun W h => parse_any a0 W h (by omega)
    have c2 := fun W => rparse_any a0 W (by omega)
    cases hv : parseV a0.data.toList with
    | none =>
      rw [hv] at c1 c2
      dsimp only [parseVal] at c1 c2
      clear hv
      go_enter Tryd.func3, Tryd.ntmps3
      go_wp2_with fail
      refine (c1 _ HT.out).mono ?_
      rintro e w0 ⟨rfl, hb⟩
      have hB := hb
      clear hb
      go_wp2_with fail
      have hv := (room_new w0 (.int .i64 0) (.int .i64 0) (.int .i64 0) (.string ⟨#[]⟩) (.string ⟨#[]⟩) 24).1
      have zv : w0.heap.size < (w0.alloc (.cells #[.int .i64 0, .int .i64 0, .int .i64 0, .string ⟨#[]⟩, .string ⟨#[]⟩] 24)).heap.size := by simp
      have hB := hB.trans ((box_below w0 (.cells #[.int .i64 0, .int .i64 0, .int .i64 0, .string ⟨#[]⟩, .string ⟨#[]⟩] 24)).mono hB.size)
      generalize w0.alloc (.cells #[.int .i64 0, .int .i64 0, .int .i64 0, .string ⟨#[]⟩, .string ⟨#[]⟩] 24) = W1 at *
      refine (c2 _).mono ?_
      rintro e w2 ⟨rfl, hb⟩
      have hv := five_below hv zv hb
      have zv := Nat.lt_of_lt_of_le zv hb.size
      have hB := hB.trans ((hb).mono hB.size)
      clear hb
      go_wp2_with fail
      have hv := five_below hv zv (box_below w2 (.cells #[.int .i64 0, .int .i64 0, .int .i64 0, .string ⟨#[]⟩, .string ⟨#[]⟩] 24))
      have zv := Nat.lt_of_lt_of_le zv (box_below w2 (.cells #[.int .i64 0, .int .i64 0, .int .i64 0, .string ⟨#[]⟩, .string ⟨#[]⟩] 24)).size
      have hu := (room_new w2 (.int .i64 0) (.int .i64 0) (.int .i64 0) (.string ⟨#[]⟩) (.string ⟨#[]⟩) 24).1
      have zu : w2.heap.size < (w2.alloc (.cells #[.int .i64 0, .int .i64 0, .int .i64 0, .string ⟨#[]⟩, .string ⟨#[]⟩] 24)).heap.size := by simp
      have hB := hB.trans ((box_below w2 (.cells #[.int .i64 0, .int .i64 0, .int .i64 0, .string ⟨#[]⟩, .string ⟨#[]⟩] 24)).mono hB.size)
      generalize w2.alloc (.cells #[.int .i64 0, .int .i64 0, .int .i64 0, .string ⟨#[]⟩, .string ⟨#[]⟩] 24) = W3 at *
      refine (awake_any _ (tab_below HT.out hB)).mono ?_
      rintro e w4 ⟨rfl, hb⟩
      have hv := five_below hv zv hb
      have zv := Nat.lt_of_lt_of_le zv hb.size
      have hu := five_below hu zu hb
      have zu := Nat.lt_of_lt_of_le zu hb.size
      have hB := hB.trans ((hb).mono hB.size)
      clear hb
      obtain ⟨v0, v1, v2, v3, v4⟩ := id hv
      obtain ⟨u0, u1, u2, u3, u4⟩ := id hu
      go_wp2_with fail
      go_ret
      exact ⟨rfl, hB⟩
    | some r =>
      obtain ⟨r0, r1, r2, r3, r4⟩ := r
      obtain ⟨hpr, hmv⟩ := parse_print hv
      have c3 := fun W h => print_any r0 r1 r2 ⟨r3.toArray⟩ ⟨r4.toArray⟩ W h (parse_lens hv (by omega)).1 (parse_lens hv (by omega)).2
      rw [show verS r0 r1 r2 ⟨r3.toArray⟩ ⟨r4.toArray⟩ = ⟨r0, r1, r2, r3, r4⟩ from rfl, hpr, back] at c3
      rw [hv] at c1 c2
      dsimp only [parseVal] at c1 c2
      clear hv hpr hmv
      generalize (⟨r3.toArray⟩ : ByteArray) = y3 at *
      generalize (⟨r4.toArray⟩ : ByteArray) = y4 at *
      go_enter Tryd.func3, Tryd.ntmps3
      go_wp2_with fail
      refine (c1 _ HT.out).mono ?_
      rintro e w0 ⟨rfl, hb⟩
      have hB := hb
      clear hb
      go_wp2_with fail
      have hv := (room_new w0 (.int .i64 r0) (.int .i64 r1) (.int .i64 r2) (.string y3) (.string y4) 24).1
      have zv : w0.heap.size < (w0.alloc (.cells #[.int .i64 r0, .int .i64 r1, .int .i64 r2, .string y3, .string y4] 24)).heap.size := by simp
      have hB := hB.trans ((box_below w0 (.cells #[.int .i64 r0, .int .i64 r1, .int .i64 r2, .string y3, .string y4] 24)).mono hB.size)
      generalize w0.alloc (.cells #[.int .i64 r0, .int .i64 r1, .int .i64 r2, .string y3, .string y4] 24) = W1 at *
      refine (c2 _).mono ?_
      rintro e w2 ⟨rfl, hb⟩
      have hv := five_below hv zv hb
      have zv := Nat.lt_of_lt_of_le zv hb.size
      have hB := hB.trans ((hb).mono hB.size)
      clear hb
      go_wp2_with fail
      have hv := five_below hv zv (box_below w2 (.cells #[.int .i64 r0, .int .i64 r1, .int .i64 r2, .string y3, .string y4] 24))
      have zv := Nat.lt_of_lt_of_le zv (box_below w2 (.cells #[.int .i64 r0, .int .i64 r1, .int .i64 r2, .string y3, .string y4] 24)).size
      have hu := (room_new w2 (.int .i64 r0) (.int .i64 r1) (.int .i64 r2) (.string y3) (.string y4) 24).1
      have zu : w2.heap.size < (w2.alloc (.cells #[.int .i64 r0, .int .i64 r1, .int .i64 r2, .string y3, .string y4] 24)).heap.size := by simp
      have hB := hB.trans ((box_below w2 (.cells #[.int .i64 r0, .int .i64 r1, .int .i64 r2, .string y3, .string y4] 24)).mono hB.size)
      generalize w2.alloc (.cells #[.int .i64 r0, .int .i64 r1, .int .i64 r2, .string y3, .string y4] 24) = W3 at *
      refine (awake_any _ (tab_below HT.out hB)).mono ?_
      rintro e w4 ⟨rfl, hb⟩
      have hv := five_below hv zv hb
      have zv := Nat.lt_of_lt_of_le zv hb.size
      have hu := five_below hu zu hb
      have zu := Nat.lt_of_lt_of_le zu hb.size
      have hB := hB.trans ((hb).mono hB.size)
      clear hb
      obtain ⟨v0, v1, v2, v3, v4⟩ := id hv
      obtain ⟨u0, u1, u2, u3, u4⟩ := id hu
      go_wp2_with fail
      clear v0 v1 v2 v3 v4 u0 u1 u2 u3 u4
      refine (c3 _ (tab_below HT.out hB)).mono ?_
      rintro e w5 ⟨rfl, hb⟩
      have hv := five_below hv zv hb
      have zv := Nat.lt_of_lt_of_le zv hb.size
      have hu := five_below hu zu hb
      have zu := Nat.lt_of_lt_of_le zu hb.size
      have hB := hB.trans ((hb).mono hB.size)
      clear hb
      go_wp2_with fail
      go_ret
      exact ⟨rfl, hB⟩

set_option maxRecDepth 100000 in
theorem lifted (os : Os) (started : os.Started) (H : Type) (enc : TypeId × Value → H) :
    ReturnsInHanded {} Tryd.checked os 3 .any (fun w args => (Rows.versionReadsSpec.pre enc Tryd.prog Tryd.f3 [] false w args ∧ laidMetH Tryd.prog Rows.versionReadsRow.laid w) ∧ sizedMet enc Tryd.prog Tryd.f3 (OpenSpec.ofChange Rows.versionReadsSpec) false w args) (Rows.versionReadsSpec.post enc Tryd.prog Tryd.f3 false true false false) := by
  refine returnsInHanded_of_change_and (C := Tryd.checked) (X := fun w _ => laidMetH Tryd.prog Rows.versionReadsRow.laid w) (fun _ _ _ hh h => h.of_heap hh) own started (by kernel_rfl) Tryd.func3
    (ChangeSpec.witness_shaped (enc := enc) (C := Tryd.checked) (os := os) (X := fun w _ => laidMetH Tryd.prog Rows.versionReadsRow.laid w) false (World.doorLaid Tryd.prog 400 os) #[.string ByteArray.empty] 8 rfl (World.shaped_of_RefB (by kernel_rfl) (by kernel_rfl)) (by kernel_rfl) (by kernel_rfl) (by kernel_rfl)
      (laidMetH_of_parts3 (fuel := 8) (laidMet_of_run' 8 (by kernel_rfl) (by kernel_rfl)) (by kernel_rfl) (by kernel_rfl))) ?_
  intro W base args ds gs before hval0 hW _ _ hL _
  have hval : ∀ (j : Nat) t v, Tryd.f3.params[j]? = some t → args[j]? = some v → Value.okWide Tryd.prog W .any base t v := hval0
  have hW' := hW
  obtain ⟨p, q, hA0, hV, rfl, hfz, hnd⟩ := hW
  have hA : DataW.TrodAll enc Tryd.prog W 0 (fun _ => true) true Tryd.f3.params.toList args.toList ds p := hA0
  rw [Tryd.params3] at hA hval
  obtain ⟨v0, vs0, d0, ds0, p0, q0, hargs, rfl, rfl, h0, r0⟩ := trodAll_cons hA
  obtain ⟨rfl, rfl, rfl⟩ := trodAll_nil r0
  obtain rfl : args = #[v0] := by cases args; simp_all
  obtain ⟨rfl, rfl⟩ := trodVars_none hV
  obtain ⟨a0, rfl, rfl, rfl, w0⟩ := open_string Tryd.underlying9 (hval 0 9 v0 rfl rfl) h0
  clear hA0 hval0
  simp only [List.append_nil] at hW'
  refine (walk a0 w0 W (tab_of hL (by kernel_rfl) (MakeChecks.laidMetH_plain _ _ _ (by kernel_rfl)))).mono fun e W' ⟨he, hg⟩ => ?_
  subst he
  exact ⟨_, rfl, post_of_below (pa := []) (pv := []) hW' (fun _ _ _ => (trodAll_cons_mk (shut_bool Tryd.underlying4 _) trodAll_mk0)) (fun sp _ => (trodAll_cons_mk (shut_string Tryd.underlying9 w0) trodAll_mk0)) (fun _ _ => rfl) rfl
    hg (ok_one (by kernel_rfl) rfl (okWide_bool_mk Tryd.underlying4 _))⟩

theorem over : Rows.versionReadsRow.holds Tryd.pinned (OpenSpec.ofChange Rows.versionReadsSpec) :=
  OpenClaim.holds_of_wide 3 Tryd.f3 rfl rfl rfl rfl rfl rfl rfl ⟨rfl, rfl, rfl, rfl, rfl⟩ rfl rfl rfl rfl rfl (by kernel_rfl) Tryd.func3 (by kernel_rfl)
    (of_decide_eq_true (by kernel_rfl)) (by unfold Func.isWrapper; first | (rw [if_pos (by decide +kernel)]; kernel_rfl) | (rw [if_neg (by decide +kernel)]; exact ⟨rfl, rfl⟩))
    (fun os started H enc _ => lifted os started H enc)

theorem proved : Rows.VersionReadsSaid :=
  over
theorem plain (f : FuncId) (fn : Func) (hf : Tryd.pinned.checked.prog.funcNamed "linchpin/linchpinlaw2.VersionReads" = some f) (hfn : Tryd.pinned.checked.prog.funcs[f]? = some fn) :
    false = Tryd.pinned.checked.prog.looks [] ∧ ∀ (j : Nat) t, fn.params[j]? = some t → Tryd.pinned.checked.prog.wantsStandIn t = false := by
  obtain rfl : f = 3 := Option.some.inj ((show Tryd.prog.funcNamed "linchpin/linchpinlaw2.VersionReads" = some 3 by kernel_rfl).symm.trans hf) |>.symm
  obtain rfl : fn = Tryd.f3 := (Option.some.inj (Tryd.func3.symm.trans hfn)).symm
  refine ⟨by kernel_rfl, fun j t ht => ?_⟩
  rw [Tryd.params3] at ht
  have hm : t ∈ [9] := by simpa using Array.mem_of_getElem? ht
  have hall : ([9].all fun u => !Tryd.prog.wantsStandIn u) = true := by kernel_rfl
  exact (show Tryd.prog.wantsStandIn t = false by simpa using List.all_eq_true.1 hall t hm)

theorem card : Rows.VersionReadsCardSaid :=
  Claim7.holds_tied_plain_at .later [] _ _ _ _ proved (fun _ h => by cases h) (by kernel_rfl) (fun _ h => by cases h) versionReads_row_tie rfl ⟨rfl, rfl⟩ (by kernel_rfl) rfl plain (by kernel_rfl)
#print axioms card
end Go.Proofs.YtabcpbmnemfnbaaDoor.versionReads
