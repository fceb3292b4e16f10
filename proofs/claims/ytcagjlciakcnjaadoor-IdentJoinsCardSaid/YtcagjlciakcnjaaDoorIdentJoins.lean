/-
  IdentJoins: two names with one dash between them form a name if the result has at most 16 bytes; with two they do not, and neither does a name followed by a dash. Conditions: strconv's and math/bits' tables start as the program's text lays them (the card ties them).
-/
import Derived.Test.YtcagjlciakcnjaaDoorRows
import Derived.Test.YtcagjlciakcnjaaDoorIdLaws
import Derived.Test.YtcagjlciakcnjaaDoorIdAwake
import Derived.Test.YtcagjlciakcnjaaDoorCards
import Derived.Test.YtcagjlciakcnjaaDoorTie
import Derived.Test.YtcagjlciakcnjaaDoorTab
import Derived.LaidMore
import Derived.MakeChecks
import Derived.SevenTiedAt
import Derived.Stop.Joined
import Derived.Test.YtcagjlciakcnjaaDoorMem
import Derived.WalkKit
import Derived.ProofKit
import Derived.OpenShut
import Derived.ShutString
namespace Go.Proofs.YtcagjlciakcnjaaDoor.identJoins
open Go.ChangeShapes Go.WideShapes Go.ChangeAt Go.RowKit
open Go.ChangeMaps (open_string shut_string)
set_option linter.unusedVariables false      -- a walk need not use every 'w<i>' (that an integer argument fits its kind)

theorem own : ownKnob Tryd.prog.godebug = none := by kernel_rfl

set_option maxHeartbeats 2000000 in
theorem walk (a0 : ByteArray) (a1 : ByteArray) (w0 : a0.size ≤ maxLen) (w1 : a1.size ≤ maxLen) (w : World) (hT : Tab w) :
    Calls Tryd.prog 8 #[.string a0, .string a1] w fun e w' => e = .returned (.bool true) ∧ Below w.heap.size w w' := by
  have HT := Lib.hid hT
  clear hT
  have la := len_size a0
  have lb := len_size a1
  by_cases ha : 20 < a0.size
  · clear la lb
    go_enter Tryd.func8, Tryd.ntmps8
    go_wp2_with (go_at_call 9; refine (awake_any _ HT.out).mono ?_; rintro e w1 ⟨rfl, hb1⟩)
    go_ret
    exact ⟨rfl, hb1⟩
  · have ha' : decide ((20 : Int) < (a0.size : Int)) = false := by simp; omega
    by_cases hb : 20 < a1.size
    · clear la lb
      go_enter Tryd.func8, Tryd.ntmps8
      go_wp2_with (go_at_call 9; refine (awake_any _ HT.out).mono ?_; rintro e w1 ⟨rfl, hb1⟩)
      go_ret
      exact ⟨rfl, hb1⟩
    · have hb' : decide ((20 : Int) < (a1.size : Int)) = false := by simp; omega
      cases na : nameB a0.data.toList with
      | false =>
        have hna := fun W => name_any a0 W w0
        rw [na] at hna
        have HNA := Lib.hid hna
        clear hna na la lb
        go_enter Tryd.func8, Tryd.ntmps8
        go_wp2_with fail
        refine (HNA.out _).mono ?_
        rintro e w1 ⟨rfl, hb1⟩
        go_wp2_with fail
        refine (awake_any _ (tab_below HT.out hb1)).mono ?_
        rintro e w2 ⟨rfl, hb2⟩
        go_wp2_with fail
        go_ret
        exact ⟨rfl, hb1.trans (hb2.mono hb1.size)⟩
      | true =>
        cases nb : nameB a1.data.toList with
        | false =>
          have hna := fun W => name_any a0 W w0
          rw [na] at hna
          have HNA := Lib.hid hna
          have hnb := fun W => name_any a1 W w1
          rw [nb] at hnb
          have HNB := Lib.hid hnb
          clear hna na hnb nb la lb
          go_enter Tryd.func8, Tryd.ntmps8
          go_wp2_with fail
          refine (HNA.out _).mono ?_
          rintro e w1 ⟨rfl, hb1⟩
          go_wp2_with fail
          refine (HNB.out _).mono ?_
          rintro e w2 ⟨rfl, hb2⟩
          have hb2 := hb1.trans (hb2.mono hb1.size)
          clear hb1
          go_wp2_with fail
          refine (awake_any _ (tab_below HT.out hb2)).mono ?_
          rintro e w3 ⟨rfl, hb3⟩
          go_wp2_with fail
          go_ret
          exact ⟨rfl, hb2.trans (hb3.mono hb2.size)⟩
        | true =>
          have hz1 : 0 < a0.data.toList.length := ((nameB_iff _).1 na).1
          have e1 : ((a0 ++ ⟨#[45]⟩) ++ a1).data.toList = a0.data.toList ++ 45 :: a1.data.toList := by simp [ByteArray.data_append]
          have e2 : ((a0 ++ ⟨#[45, 45]⟩) ++ a1).data.toList = a0.data.toList ++ 45 :: 45 :: a1.data.toList := by simp [ByteArray.data_append]
          have e3 : (a0 ++ ⟨#[45]⟩).data.toList = a0.data.toList ++ [45] := by simp [ByteArray.data_append]
          have z1 : (a0 ++ ⟨#[45]⟩).size = a0.size + 1 := by rw [ByteArray.size_append]; rfl
          have z2 : (a0 ++ ⟨#[45, 45]⟩).size = a0.size + 2 := by rw [ByteArray.size_append]; rfl
          have z3 : ((a0 ++ ⟨#[45]⟩) ++ a1).size ≤ 41 := by rw [ByteArray.size_append, z1]; omega
          have z4 : ((a0 ++ ⟨#[45, 45]⟩) ++ a1).size ≤ 42 := by rw [ByteArray.size_append, z2]; omega
          have h1 := fun W => name_any ((a0 ++ ⟨#[45]⟩) ++ a1) W (by unfold maxLen; omega)
          rw [e1, join_one _ _ na nb, la, lb] at h1
          have h2 := fun W => name_any ((a0 ++ ⟨#[45, 45]⟩) ++ a1) W (by unfold maxLen; omega)
          rw [e2, join_two _ _ hz1] at h2
          have h3 := fun W => name_any (a0 ++ ⟨#[45]⟩) W (by rw [z1]; unfold maxLen; omega)
          rw [e3, join_end] at h3
          have hna := fun W => name_any a0 W w0
          rw [na] at hna
          have hnb := fun W => name_any a1 W w1
          rw [nb] at hnb
          have HNA := Lib.hid hna
          have HNB := Lib.hid hnb
          have H1 := Lib.hid h1
          have H2 := Lib.hid h2
          have H3 := Lib.hid h3
          have hz5 : (a0 ++ ⟨#[45]⟩).size ≤ 21 := by omega
          have hz6 : (a0 ++ ⟨#[45, 45]⟩).size ≤ 22 := by omega
          clear hna hnb h1 h2 h3 na nb la lb e1 e2 e3 z1 z2 z3 z4 hz1
          by_cases hle : a0.size + a1.size + 1 ≤ 16
          all_goals
            first
            | (have hd : decide ((a0.size : Int) + (a1.size : Int) + 1 ≤ 16) = true := by simp; omega
               have hd2 : Hid (decide (a0.size + a1.size + 1 ≤ 16) = true) := by rw [decide_eq_true_iff]; exact hle)
            | (have hd : decide ((a0.size : Int) + (a1.size : Int) + 1 ≤ 16) = false := by simp; omega
               have hd2 : Hid (decide (a0.size + a1.size + 1 ≤ 16) = false) := by rw [decide_eq_false_iff_not]; exact hle)
            clear hle
            go_enter Tryd.func8, Tryd.ntmps8
            go_wp2_with fail
            refine (HNA.out _).mono ?_
            rintro e w1 ⟨rfl, hb1⟩
            go_wp2_with fail
            refine (HNB.out _).mono ?_
            rintro e w2 ⟨rfl, hb2⟩
            have hb2 := hb1.trans (hb2.mono hb1.size)
            clear hb1
            go_wp2_with fail
            refine (awake_any _ (tab_below HT.out hb2)).mono ?_
            rintro e w3 ⟨rfl, hb3⟩
            have hb3 := hb2.trans (hb3.mono hb2.size)
            clear hb2
            go_wp2_with fail
            refine (H1.out _).mono ?_
            rw [hd2.out]
            rintro e w4 ⟨rfl, hb4⟩
            have hb4 := hb3.trans (hb4.mono hb3.size)
            clear hb3
            go_wp2_with fail
            refine (H2.out _).mono ?_
            rintro e w5 ⟨rfl, hb5⟩
            have hb5 := hb4.trans (hb5.mono hb4.size)
            clear hb4
            go_wp2_with fail
            refine (H3.out _).mono ?_
            rintro e w6 ⟨rfl, hb6⟩
            have hb6 := hb5.trans (hb6.mono hb5.size)
            go_wp2_with fail
            go_ret
            exact ⟨rfl, hb6⟩

set_option maxRecDepth 100000 in
theorem lifted (os : Os) (started : os.Started) (H : Type) (enc : TypeId × Value → H) :
    ReturnsInHanded {} Tryd.checked os 8 .any (fun w args => (Rows.identJoinsSpec.pre enc Tryd.prog Tryd.f8 [] false w args ∧ laidMetH Tryd.prog Rows.identJoinsRow.laid w) ∧ sizedMet enc Tryd.prog Tryd.f8 (OpenSpec.ofChange Rows.identJoinsSpec) false w args) (Rows.identJoinsSpec.post enc Tryd.prog Tryd.f8 false true false false) := by
  refine returnsInHanded_of_change_and (C := Tryd.checked) (X := fun w _ => laidMetH Tryd.prog Rows.identJoinsRow.laid w) (fun _ _ _ hh h => h.of_heap hh) own started (by kernel_rfl) Tryd.func8
    (ChangeSpec.witness_shaped (enc := enc) (C := Tryd.checked) (os := os) (X := fun w _ => laidMetH Tryd.prog Rows.identJoinsRow.laid w) false (World.doorLaid Tryd.prog 400 os) #[.string ByteArray.empty, .string ByteArray.empty] 8 rfl (World.shaped_of_RefB (by kernel_rfl) (by kernel_rfl)) (by kernel_rfl) (by kernel_rfl) (by kernel_rfl)
      (laidMetH_of_parts3 (fuel := 8) (laidMet_of_run' 8 (by kernel_rfl) (by kernel_rfl)) (by kernel_rfl) (by kernel_rfl))) ?_
  intro W base args ds gs before hval0 hW _ _ hL _
  have hval : ∀ (j : Nat) t v, Tryd.f8.params[j]? = some t → args[j]? = some v → Value.okWide Tryd.prog W .any base t v := hval0
  have hW' := hW
  obtain ⟨p, q, hA0, hV, rfl, hfz, hnd⟩ := hW
  have hA : DataW.TrodAll enc Tryd.prog W 0 (fun _ => true) true Tryd.f8.params.toList args.toList ds p := hA0
  rw [Tryd.params8] at hA hval
  obtain ⟨v0, vs0, d0, ds0, p0, q0, hargs, rfl, rfl, h0, r0⟩ := trodAll_cons hA
  obtain ⟨v1, vs1, d1, ds1, p1, q1, rfl, rfl, rfl, h1, r1⟩ := trodAll_cons r0
  obtain ⟨rfl, rfl, rfl⟩ := trodAll_nil r1
  obtain rfl : args = #[v0, v1] := by cases args; simp_all
  obtain ⟨rfl, rfl⟩ := trodVars_none hV
  obtain ⟨a0, rfl, rfl, rfl, w0⟩ := open_string Tryd.underlying9 (hval 0 9 v0 rfl rfl) h0
  obtain ⟨a1, rfl, rfl, rfl, w1⟩ := open_string Tryd.underlying9 (hval 1 9 v1 rfl rfl) h1
  clear hA0 hval0
  simp only [List.append_nil] at hW'
  refine (walk a0 a1 w0 w1 W (tab_of hL (by kernel_rfl) (MakeChecks.laidMetH_plain _ _ _ (by kernel_rfl)))).mono fun e W' ⟨he, hg⟩ => ?_
  subst he
  exact ⟨_, rfl, post_of_below (pa := []) (pv := []) hW' (fun _ _ _ => (trodAll_cons_mk (shut_bool Tryd.underlying4 _) trodAll_mk0)) (fun sp _ => (trodAll_cons_mk (shut_string Tryd.underlying9 w0) (trodAll_cons_mk (shut_string Tryd.underlying9 w1) trodAll_mk0))) (fun _ _ => rfl) rfl
    hg (ok_one (by kernel_rfl) rfl (okWide_bool_mk Tryd.underlying4 _))⟩

theorem over : Rows.identJoinsRow.holds Tryd.pinned (OpenSpec.ofChange Rows.identJoinsSpec) :=
  OpenClaim.holds_of_wide 8 Tryd.f8 rfl rfl rfl rfl rfl rfl rfl ⟨rfl, rfl, rfl, rfl, rfl⟩ rfl rfl rfl rfl rfl (by kernel_rfl) Tryd.func8 (by kernel_rfl)
    (of_decide_eq_true (by kernel_rfl)) (by unfold Func.isWrapper; first | (rw [if_pos (by decide +kernel)]; kernel_rfl) | (rw [if_neg (by decide +kernel)]; exact ⟨rfl, rfl⟩))
    (fun os started H enc _ => lifted os started H enc)

theorem proved : Rows.IdentJoinsSaid :=
  over
theorem plain (f : FuncId) (fn : Func) (hf : Tryd.pinned.checked.prog.funcNamed "linchpin/linchpinlaw1.IdentJoins" = some f) (hfn : Tryd.pinned.checked.prog.funcs[f]? = some fn) :
    false = Tryd.pinned.checked.prog.looks [] ∧ ∀ (j : Nat) t, fn.params[j]? = some t → Tryd.pinned.checked.prog.wantsStandIn t = false := by
  obtain rfl : f = 8 := Option.some.inj ((show Tryd.prog.funcNamed "linchpin/linchpinlaw1.IdentJoins" = some 8 by kernel_rfl).symm.trans hf) |>.symm
  obtain rfl : fn = Tryd.f8 := (Option.some.inj (Tryd.func8.symm.trans hfn)).symm
  refine ⟨by kernel_rfl, fun j t ht => ?_⟩
  rw [Tryd.params8] at ht
  have hm : t ∈ [9, 9] := by simpa using Array.mem_of_getElem? ht
  have hall : ([9, 9].all fun u => !Tryd.prog.wantsStandIn u) = true := by kernel_rfl
  exact (show Tryd.prog.wantsStandIn t = false by simpa using List.all_eq_true.1 hall t hm)

theorem card : Rows.IdentJoinsCardSaid :=
  Claim7.holds_tied_plain_at .later [] _ _ _ _ proved (fun _ h => by cases h) (by kernel_rfl) (fun _ h => by cases h) identJoins_row_tie rfl ⟨rfl, rfl⟩ (by kernel_rfl) rfl plain (by kernel_rfl)
#print axioms card
end Go.Proofs.YtcagjlciakcnjaaDoor.identJoins
