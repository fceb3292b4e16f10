/-
  IdentBack: Number of Digits of n returns n and true for n from 0 to 9999, and false for every other n. Conditions: strconv's and math/bits' tables start as the program's text lays them (the card ties them).
-/
import Derived.Test.YtcagjlciakcnjaaDoorRows
import Derived.Test.YtcagjlciakcnjaaDoorIdLaws
import Derived.Test.YtcagjlciakcnjaaDoorIdAwake
import Derived.Test.YtcagjlciakcnjaaDoorCards
import Derived.Test.YtcagjlciakcnjaaDoorTie
import Derived.Test.YtcagjlciakcnjaaDoorTab
import Derived.LaidMore
import Derived.MakeChecks
import Derived.SevenTiedAt
import Derived.Stop.Joined
import Derived.Test.YtcagjlciakcnjaaDoorMem
import Derived.WalkKit
import Derived.ProofKit
import Derived.OpenShut
import Derived.ShutString
namespace Go.Proofs.YtcagjlciakcnjaaDoor.identBack
open Go.ChangeShapes Go.WideShapes Go.ChangeAt Go.RowKit
open Go.ChangeMaps (open_string shut_string)
set_option linter.unusedVariables false      -- a walk need not use every 'w<i>' (that an integer argument fits its kind)

theorem own : ownKnob Tryd.prog.godebug = none := by kernel_rfl

set_option maxHeartbeats 1000000 in
theorem walk (a0 : Int) (w0 : (Lit.int .i64 a0).wf = true) (w : World) (hT : Tab w) :
    Calls Tryd.prog 5 #[.int .i64 a0] w fun e w' => e = .returned (.bool true) ∧ Below w.heap.size w w' := by
  obtain ⟨v1, v2⟩ := bounds_i64 w0
  have HT := Lib.hid hT
  have HN := Lib.hid (num_itoa a0)
  have HL := Lib.hid (Lib.itoa_length_le a0 v1 v2)
  clear hT w0
  go_enter Tryd.func5, Tryd.ntmps5
  go_wp2_with fail
  refine (digits_any _ _ v1 v2 HT.out).mono ?_
  rintro e w1 ⟨rfl, hb1⟩
  go_wp2_with fail
  have hnum : ∀ W, Calls Tryd.prog 14 #[.string ⟨(Lib.itoa a0).toArray⟩] W fun e w' => e = .returned (.tuple #[.int .i64 ((numB (Lib.itoa a0)).1 : Int), .bool (numB (Lib.itoa a0)).2]) ∧ Below W.heap.size W w' :=
    fun W => number_any ⟨(Lib.itoa a0).toArray⟩ W (by have := HL.out; simp [ByteArray.size, maxLen]; omega)
  refine (hnum _).mono ?_
  clear hnum
  rw [HN.out]
  by_cases h : 0 ≤ a0 ∧ a0 ≤ 9999
  · rw [if_pos h]
    obtain ⟨h1, h2⟩ := h
    rintro e w2 ⟨rfl, hb2⟩
    have hb2 := hb1.trans (hb2.mono hb1.size)
    clear hb1
    simp only [Int.toNat_of_nonneg h1]
    go_wp2_with fail
    refine (awake_any _ (tab_below HT.out hb2)).mono ?_
    rintro e w3 ⟨rfl, hb3⟩
    have hb3 := hb2.trans (hb3.mono hb2.size)
    go_wp2_with fail
    go_ret
    exact ⟨rfl, hb3⟩
  · rw [if_neg h]
    rintro e w2 ⟨rfl, hb2⟩
    have hb2 := hb1.trans (hb2.mono hb1.size)
    clear hb1
    by_cases h0 : 0 ≤ a0
    all_goals
      first | (have h1 : decide (a0 ≤ 9999) = false := by simp; omega) | (have h1 : decide (0 ≤ a0) = false := by simp; omega)
      clear h
      go_wp2_with fail
      refine (awake_any _ (tab_below HT.out hb2)).mono ?_
      rintro e w3 ⟨rfl, hb3⟩
      have hb3 := hb2.trans (hb3.mono hb2.size)
      go_wp2_with fail
      go_ret
      exact ⟨rfl, hb3⟩

set_option maxRecDepth 100000 in
theorem lifted (os : Os) (started : os.Started) (H : Type) (enc : TypeId × Value → H) :
    ReturnsInHanded {} Tryd.checked os 5 .any (fun w args => (Rows.identBackSpec.pre enc Tryd.prog Tryd.f5 [] false w args ∧ laidMetH Tryd.prog Rows.identBackRow.laid w) ∧ sizedMet enc Tryd.prog Tryd.f5 (OpenSpec.ofChange Rows.identBackSpec) false w args) (Rows.identBackSpec.post enc Tryd.prog Tryd.f5 false true false false) := by
  refine returnsInHanded_of_change_and (C := Tryd.checked) (X := fun w _ => laidMetH Tryd.prog Rows.identBackRow.laid w) (fun _ _ _ hh h => h.of_heap hh) own started (by kernel_rfl) Tryd.func5
    (ChangeSpec.witness_shaped (enc := enc) (C := Tryd.checked) (os := os) (X := fun w _ => laidMetH Tryd.prog Rows.identBackRow.laid w) false (World.doorLaid Tryd.prog 400 os) #[.int .i64 0] 8 rfl (World.shaped_of_RefB (by kernel_rfl) (by kernel_rfl)) (by kernel_rfl) (by kernel_rfl) (by kernel_rfl)
      (laidMetH_of_parts3 (fuel := 8) (laidMet_of_run' 8 (by kernel_rfl) (by kernel_rfl)) (by kernel_rfl) (by kernel_rfl))) ?_
  intro W base args ds gs before hval0 hW _ _ hL _
  have hval : ∀ (j : Nat) t v, Tryd.f5.params[j]? = some t → args[j]? = some v → Value.okWide Tryd.prog W .any base t v := hval0
  have hW' := hW
  obtain ⟨p, q, hA0, hV, rfl, hfz, hnd⟩ := hW
  have hA : DataW.TrodAll enc Tryd.prog W 0 (fun _ => true) true Tryd.f5.params.toList args.toList ds p := hA0
  rw [Tryd.params5] at hA hval
  obtain ⟨v0, vs0, d0, ds0, p0, q0, hargs, rfl, rfl, h0, r0⟩ := trodAll_cons hA
  obtain ⟨rfl, rfl, rfl⟩ := trodAll_nil r0
  obtain rfl : args = #[v0] := by cases args; simp_all
  obtain ⟨rfl, rfl⟩ := trodVars_none hV
  obtain ⟨a0, rfl, rfl, rfl, w0⟩ := open_int Tryd.underlying3 (hval 0 3 v0 rfl rfl) h0
  clear hA0 hval0
  simp only [List.append_nil] at hW'
  refine (walk a0 w0 W (tab_of hL (by kernel_rfl) (MakeChecks.laidMetH_plain _ _ _ (by kernel_rfl)))).mono fun e W' ⟨he, hg⟩ => ?_
  subst he
  exact ⟨_, rfl, post_of_below (pa := []) (pv := []) hW' (fun _ _ _ => (trodAll_cons_mk (shut_bool Tryd.underlying4 _) trodAll_mk0)) (fun sp _ => (trodAll_cons_mk (shut_int Tryd.underlying3 w0) trodAll_mk0)) (fun _ _ => rfl) rfl
    hg (ok_one (by kernel_rfl) rfl (okWide_bool_mk Tryd.underlying4 _))⟩

theorem over : Rows.identBackRow.holds Tryd.pinned (OpenSpec.ofChange Rows.identBackSpec) :=
  OpenClaim.holds_of_wide 5 Tryd.f5 rfl rfl rfl rfl rfl rfl rfl ⟨rfl, rfl, rfl, rfl, rfl⟩ rfl rfl rfl rfl rfl (by kernel_rfl) Tryd.func5 (by kernel_rfl)
    (of_decide_eq_true (by kernel_rfl)) (by unfold Func.isWrapper; first | (rw [if_pos (by decide +kernel)]; kernel_rfl) | (rw [if_neg (by decide +kernel)]; exact ⟨rfl, rfl⟩))
    (fun os started H enc _ => lifted os started H enc)

theorem proved : Rows.IdentBackSaid :=
  over
theorem plain (f : FuncId) (fn : Func) (hf : Tryd.pinned.checked.prog.funcNamed "linchpin/linchpinlaw1.IdentBack" = some f) (hfn : Tryd.pinned.checked.prog.funcs[f]? = some fn) :
    false = Tryd.pinned.checked.prog.looks [] ∧ ∀ (j : Nat) t, fn.params[j]? = some t → Tryd.pinned.checked.prog.wantsStandIn t = false := by
  obtain rfl : f = 5 := Option.some.inj ((show Tryd.prog.funcNamed "linchpin/linchpinlaw1.IdentBack" = some 5 by kernel_rfl).symm.trans hf) |>.symm
  obtain rfl : fn = Tryd.f5 := (Option.some.inj (Tryd.func5.symm.trans hfn)).symm
  refine ⟨by kernel_rfl, fun j t ht => ?_⟩
  rw [Tryd.params5] at ht
  have hm : t ∈ [3] := by simpa using Array.mem_of_getElem? ht
  have hall : ([3].all fun u => !Tryd.prog.wantsStandIn u) = true := by kernel_rfl
  exact (show Tryd.prog.wantsStandIn t = false by simpa using List.all_eq_true.1 hall t hm)

theorem card : Rows.IdentBackCardSaid :=
  Claim7.holds_tied_plain_at .later [] _ _ _ _ proved (fun _ h => by cases h) (by kernel_rfl) (fun _ h => by cases h) identBack_row_tie rfl ⟨rfl, rfl⟩ (by kernel_rfl) rfl plain (by kernel_rfl)
#print axioms card
end Go.Proofs.YtcagjlciakcnjaaDoor.identBack
