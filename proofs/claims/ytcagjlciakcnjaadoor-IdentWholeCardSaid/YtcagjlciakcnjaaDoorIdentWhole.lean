/-
  IdentWhole: a string cut at a byte and joined with it again is the string; no piece holds the byte, and there is one piece more than there are such bytes. Conditions: strconv's and math/bits' tables start as the program's text lays them (the card ties them).
-/
import Derived.Test.YtcagjlciakcnjaaDoorRows
import Derived.Test.YtcagjlciakcnjaaDoorIdWholeF
import Derived.Test.YtcagjlciakcnjaaDoorCards
import Derived.Test.YtcagjlciakcnjaaDoorTie
import Derived.Test.YtcagjlciakcnjaaDoorTab
import Derived.LaidMore
import Derived.MakeChecks
import Derived.SevenTiedAt
import Derived.Stop.Joined
import Derived.Test.YtcagjlciakcnjaaDoorMem
import Derived.WalkKit
import Derived.ProofKit
import Derived.OpenShut
import Derived.ShutString
namespace Go.Proofs.YtcagjlciakcnjaaDoor.identWhole
open Go.ChangeShapes Go.WideShapes Go.ChangeAt Go.RowKit
open Go.ChangeMaps (open_string shut_string)
set_option linter.unusedVariables false      -- a walk need not use every 'w<i>' (that an integer argument fits its kind)

theorem own : ownKnob Tryd.prog.godebug = none := by kernel_rfl

set_option maxHeartbeats 2000000 in
theorem walk (a0 : ByteArray) (a1 : Int) (w0 : a0.size ≤ maxLen) (w1 : (Lit.int .u8 a1).wf = true) (w : World) (hT : Tab w) :
    Calls Tryd.prog 7 #[.string a0, .int .u8 a1] w fun e w' => e = .returned (.bool true) ∧ Below w.heap.size w w' := by
  obtain ⟨b, rfl⟩ : ∃ b : UInt8, a1 = (b.toNat : Int) := ⟨UInt8.ofNat a1.toNat, by have := bounds_u8 w1; rw [UInt8.toNat_ofNat']; omega⟩
  have HT := Lib.hid hT
  clear hT w0 w1
  by_cases ha : 2000 < a0.size
  · go_enter Tryd.func7, Tryd.ntmps7
    go_wp2_with (go_at_call 9; refine (awake_any _ HT.out).mono ?_; rintro e w1 ⟨rfl, hb1⟩)
    go_ret
    exact ⟨rfl, hb1⟩
  · have HF := Lib.hid (split_free a0.data.toList b)
    have HC := Lib.hid (split_count a0.data.toList b)
    have HJ := Lib.hid (split_join a0.data.toList b)
    have HLE : Hid (∀ p ∈ splitL a0.data.toList b, p.length ≤ 2000) := by
      intro p hp
      have := mem_join_le b hp
      rw [split_join, len_size] at this
      omega
    have hn : (splitL a0.data.toList b).length ≤ 2001 := by
      rw [split_count]
      have : a0.data.toList.count b ≤ a0.data.toList.length := List.count_le_length
      rw [len_size] at this
      omega
    have HS : Hid (∀ W, Calls Tryd.prog 19 #[.string a0, .int .u8 (b.toNat : Int)] W fun e w' => (∃ v, e = .returned v ∧ w'.ownsRow W.heap.size 9 1 v (splitL a0.data.toList b).length (BS (splitL a0.data.toList b))) ∧ Below W.heap.size W w') := fun W => split_any a0 b W (by omega)
    generalize splitL a0.data.toList b = ps at *
    go_enter Tryd.func7, Tryd.ntmps7
    go_wp2_with fail
    refine (HS.out _).mono ?_
    rintro e w1 ⟨⟨v, rfl, hown⟩, hb1⟩
    obtain ⟨A, c, rfl, hrd⟩ := rd_own hown
    have HRD := Lib.hid hrd
    clear hown hrd HS
    generalize hnn : ps.length = n at *
    have HNN := Lib.hid hnn
    clear hnn
    go_wp2_with fail
    go_loop [6, 7] (fun m i => ∃ k : Nat, k ≤ a0.size ∧ i = .int .i64 k ∧ m = .int .i64 ((1 + (a0.data.toList.take k).count b : Nat) : Int)) (fun _ i => a0.size - (intOf i).toNat)
    case atStart => exact ⟨0, by omega, rfl, rfl⟩
    case round =>
      obtain ⟨k, hk, rfl, rfl⟩ := hrel
      have hcl := count_le a0.data.toList b k
      by_cases hlt : k < a0.size
      · have HCT := Lib.hid (count_take a0 b k hlt)
        generalize (a0.data.toList.take k).count b = m at *
        by_cases he : a0[k] = b
        · have hbb : ((a0[k].toNat : Int) == (b.toNat : Int)) = true := by simp [he]
          have HE := Lib.hid he
          clear he
          go_wp2
          go_round
          case rel => exact ⟨k + 1, by omega, by go_num, by rw [HCT.out, if_pos HE.out]; go_num⟩
          case measure => simp [intOf]; omega
        · have hbb : ((a0[k].toNat : Int) == (b.toNat : Int)) = false := by
            rw [beq_eq_false_iff_ne]
            exact fun e => he (UInt8.toNat_inj.1 (by omega))
          have HE := Lib.hid he
          clear he
          go_wp2
          go_round
          case rel => exact ⟨k + 1, by omega, by go_num, by rw [HCT.out, if_neg HE.out, Nat.add_zero]⟩
          case measure => simp [intOf]; omega
      · obtain rfl : k = a0.size := by omega
        have hm : 1 + (a0.data.toList.take a0.size).count b = n := by
          rw [List.take_of_length_le (by rw [len_size]; exact Nat.le_refl _), HC.out]
          omega
        rw [hm]
        clear hm hcl
        go_wp2
        go_loop [8, 9] (fun i _ => ∃ k : Nat, k ≤ n ∧ i = .int .i64 k) (fun i _ => n - (intOf i).toNat)
        case atStart => exact ⟨0, by omega, rfl⟩
        case round =>
          obtain ⟨k, hk, rfl⟩ := hrel
          by_cases hkn : k < n
          · obtain ⟨bb, off, p, rfl, hbb, hp, hcell⟩ := rds_cell HRD.out hkn
            have hmem := List.mem_of_getElem? hp
            have hple := HLE.out p hmem
            have HPN := Lib.hid (piece_no (HF.out p hmem))
            have hps := str_size p
            have hpz : (⟨p.toArray⟩ : ByteArray).size ≤ 2000 := by omega
            have hkb : decide ((k : Int) < (n : Int)) = true := by simp; omega
            clear hp hmem hple hps
            generalize (⟨p.toArray⟩ : ByteArray) = t at *
            go_wp2
            go_loop [9] (fun j => ∃ q : Nat, q ≤ t.size ∧ j = .int .i64 q) (fun j => t.size - (intOf j).toNat)
            case atStart => exact ⟨0, by omega, rfl⟩
            case round =>
              obtain ⟨q, hq, rfl⟩ := hrel
              by_cases hqt : q < t.size
              · have hne : ((t[q].toNat : Int) == (b.toNat : Int)) = false := by rw [beq_eq_false_iff_ne]; exact HPN.out q hqt
                go_wp2
                go_round
                case rel => exact ⟨q + 1, by omega, by go_num⟩
                case measure => simp [intOf]; omega
              · go_wp2
                go_round
                case rel => exact ⟨k + 1, by omega, by go_num⟩
                case measure => simp [intOf]; omega
          · go_wp2_with fail
            refine (awake_any _ (tab_below HT.out hb1)).mono ?_
            rintro e w2 ⟨rfl, hb2⟩
            have hs1 := hb1.size
            have hrd2 := rd_below (HRD.out) hb2
            have hb2' := hb1.trans (hb2.mono hb1.size)
            go_wp2_with fail
            refine (join_any _ n _ w1.heap.size ps b _ hrd2 hb2.size (by omega) (by rw [HJ.out, len_size]; omega)).mono ?_
            rw [HJ.out, back a0]
            rintro e w3 ⟨rfl, hb3⟩
            have hb3 := hb2'.trans (hb3.mono hb2'.size)
            go_wp2_with fail
            go_ret
            exact ⟨rfl, hb3⟩

set_option maxRecDepth 100000 in
theorem lifted (os : Os) (started : os.Started) (H : Type) (enc : TypeId × Value → H) :
    ReturnsInHanded {} Tryd.checked os 7 .any (fun w args => (Rows.identWholeSpec.pre enc Tryd.prog Tryd.f7 [] false w args ∧ laidMetH Tryd.prog Rows.identWholeRow.laid w) ∧ sizedMet enc Tryd.prog Tryd.f7 (OpenSpec.ofChange Rows.identWholeSpec) false w args) (Rows.identWholeSpec.post enc Tryd.prog Tryd.f7 false true false false) := by
  refine returnsInHanded_of_change_and (C := Tryd.checked) (X := fun w _ => laidMetH Tryd.prog Rows.identWholeRow.laid w) (fun _ _ _ hh h => h.of_heap hh) own started (by kernel_rfl) Tryd.func7
    (ChangeSpec.witness_shaped (enc := enc) (C := Tryd.checked) (os := os) (X := fun w _ => laidMetH Tryd.prog Rows.identWholeRow.laid w) false (World.doorLaid Tryd.prog 400 os) #[.string ByteArray.empty, .int .u8 0] 8 rfl (World.shaped_of_RefB (by kernel_rfl) (by kernel_rfl)) (by kernel_rfl) (by kernel_rfl) (by kernel_rfl)
      (laidMetH_of_parts3 (fuel := 8) (laidMet_of_run' 8 (by kernel_rfl) (by kernel_rfl)) (by kernel_rfl) (by kernel_rfl))) ?_
  intro W base args ds gs before hval0 hW _ _ hL _
  have hval : ∀ (j : Nat) t v, Tryd.f7.params[j]? = some t → args[j]? = some v → Value.okWide Tryd.prog W .any base t v := hval0
  have hW' := hW
  obtain ⟨p, q, hA0, hV, rfl, hfz, hnd⟩ := hW
  have hA : DataW.TrodAll enc Tryd.prog W 0 (fun _ => true) true Tryd.f7.params.toList args.toList ds p := hA0
  rw [Tryd.params7] at hA hval
  obtain ⟨v0, vs0, d0, ds0, p0, q0, hargs, rfl, rfl, h0, r0⟩ := trodAll_cons hA
  obtain ⟨v1, vs1, d1, ds1, p1, q1, rfl, rfl, rfl, h1, r1⟩ := trodAll_cons r0
  obtain ⟨rfl, rfl, rfl⟩ := trodAll_nil r1
  obtain rfl : args = #[v0, v1] := by cases args; simp_all
  obtain ⟨rfl, rfl⟩ := trodVars_none hV
  obtain ⟨a0, rfl, rfl, rfl, w0⟩ := open_string Tryd.underlying9 (hval 0 9 v0 rfl rfl) h0
  obtain ⟨a1, rfl, rfl, rfl, w1⟩ := open_int Tryd.underlying5 (hval 1 5 v1 rfl rfl) h1
  clear hA0 hval0
  simp only [List.append_nil] at hW'
  refine (walk a0 a1 w0 w1 W (tab_of hL (by kernel_rfl) (MakeChecks.laidMetH_plain _ _ _ (by kernel_rfl)))).mono fun e W' ⟨he, hg⟩ => ?_
  subst he
  exact ⟨_, rfl, post_of_below (pa := []) (pv := []) hW' (fun _ _ _ => (trodAll_cons_mk (shut_bool Tryd.underlying4 _) trodAll_mk0)) (fun sp _ => (trodAll_cons_mk (shut_string Tryd.underlying9 w0) (trodAll_cons_mk (shut_int Tryd.underlying5 w1) trodAll_mk0))) (fun _ _ => rfl) rfl
    hg (ok_one (by kernel_rfl) rfl (okWide_bool_mk Tryd.underlying4 _))⟩

theorem over : Rows.identWholeRow.holds Tryd.pinned (OpenSpec.ofChange Rows.identWholeSpec) :=
  OpenClaim.holds_of_wide 7 Tryd.f7 rfl rfl rfl rfl rfl rfl rfl ⟨rfl, rfl, rfl, rfl, rfl⟩ rfl rfl rfl rfl rfl (by kernel_rfl) Tryd.func7 (by kernel_rfl)
    (of_decide_eq_true (by kernel_rfl)) (by unfold Func.isWrapper; first | (rw [if_pos (by decide +kernel)]; kernel_rfl) | (rw [if_neg (by decide +kernel)]; exact ⟨rfl, rfl⟩))
    (fun os started H enc _ => lifted os started H enc)

theorem proved : Rows.IdentWholeSaid :=
  over
theorem plain (f : FuncId) (fn : Func) (hf : Tryd.pinned.checked.prog.funcNamed "linchpin/linchpinlaw1.IdentWhole" = some f) (hfn : Tryd.pinned.checked.prog.funcs[f]? = some fn) :
    false = Tryd.pinned.checked.prog.looks [] ∧ ∀ (j : Nat) t, fn.params[j]? = some t → Tryd.pinned.checked.prog.wantsStandIn t = false := by
  obtain rfl : f = 7 := Option.some.inj ((show Tryd.prog.funcNamed "linchpin/linchpinlaw1.IdentWhole" = some 7 by kernel_rfl).symm.trans hf) |>.symm
  obtain rfl : fn = Tryd.f7 := (Option.some.inj (Tryd.func7.symm.trans hfn)).symm
  refine ⟨by kernel_rfl, fun j t ht => ?_⟩
  rw [Tryd.params7] at ht
  have hm : t ∈ [9, 5] := by simpa using Array.mem_of_getElem? ht
  have hall : ([9, 5].all fun u => !Tryd.prog.wantsStandIn u) = true := by kernel_rfl
  exact (show Tryd.prog.wantsStandIn t = false by simpa using List.all_eq_true.1 hall t hm)

theorem card : Rows.IdentWholeCardSaid :=
  Claim7.holds_tied_plain_at .later [] _ _ _ _ proved (fun _ h => by cases h) (by kernel_rfl) (fun _ h => by cases h) identWhole_row_tie rfl ⟨rfl, rfl⟩ (by kernel_rfl) rfl plain (by kernel_rfl)
#print axioms card
end Go.Proofs.YtcagjlciakcnjaaDoor.identWhole
