/-
  IdentParts: Split of a string at any byte, and Join of any strings with it, return what the reference returns. Conditions: strconv's and math/bits' tables start as the program's text lays them (the card ties them).
-/
import Derived.Test.YtcagjlciakcnjaaDoorRows
import Derived.Test.YtcagjlciakcnjaaDoorIdPartsF
import Derived.SliceStrings
import Derived.Test.YtcagjlciakcnjaaDoorCards
import Derived.Test.YtcagjlciakcnjaaDoorTie
import Derived.Test.YtcagjlciakcnjaaDoorTab
import Derived.LaidMore
import Derived.MakeChecks
import Derived.SevenTiedAt
import Derived.Stop.Joined
import Derived.WalkKit
import Derived.ProofKit
import Derived.OpenShut
import Derived.ShutString
import Derived.ChangeOld
import Derived.Below
namespace Go.Proofs.YtcagjlciakcnjaaDoor.identParts
open Go.ChangeShapes Go.WideShapes Go.ChangeAt Go.RowKit
open Go.ChangeMaps (open_string shut_string)
set_option linter.unusedVariables false

theorem own : ownKnob Tryd.prog.godebug = none := by kernel_rfl
theorem laidOut : laidOutB Tryd.prog = true := by kernel_rfl

def IsRow (k : IntKind) (w : World) (a : Option Addr) (len cap : Nat) (zs : List Int) : Prop :=
  (a = none ∧ len = 0 ∧ cap = 0 ∧ zs = []) ∨
  ∃ x, a = some x ∧ len ≤ cap ∧ cap ≤ maxLen ∧ zs.length = cap ∧ (∀ i, i < zs.length → w.cell? (x.add i) = some (.int k (zs.getD i 0))) ∧ ∀ n ∈ zs, (Lit.int k n).wf = true

def IsStrs (w : World) (a : Option Addr) (len cap : Nat) (zs : List ByteArray) : Prop :=
  (a = none ∧ len = 0 ∧ cap = 0 ∧ zs = []) ∨
  ∃ x, a = some x ∧ len ≤ cap ∧ cap ≤ maxLen ∧ zs.length = cap ∧ (∀ i, i < zs.length → w.cell? (x.add i) = some (.string (zs.getD i ByteArray.empty))) ∧ ∀ s ∈ zs, s.size ≤ maxLen

set_option maxHeartbeats 2000000 in
theorem walk (a0 : ByteArray) (a1 : Int) (a2 : Option Addr) (len2 cap2 : Nat) (z2 : List ByteArray) (w : World) (w0 : a0.size ≤ maxLen) (w1 : (Lit.int .u8 a1).wf = true) (w2 : IsStrs w a2 len2 cap2 z2) (hT : Tab w) :
    Calls Tryd.prog 6 #[.string a0, .int .u8 a1, .slice a2 len2 cap2] w fun e w' => e = .returned (.bool true) ∧ Below w.heap.size w w' := by
  obtain ⟨b, rfl⟩ : ∃ b : UInt8, a1 = (b.toNat : Int) := ⟨UInt8.ofNat a1.toNat, by have := bounds_u8 w1; rw [UInt8.toNat_ofNat']; omega⟩
  obtain ⟨qs, hrd, hml⟩ := strs_rd w2
  have HT := Lib.hid hT
  have hql : qs.length = len2 := by have := hrd.1; rwa [bs_len] at this
  have HQ := Lib.hid hql
  have HRD := Lib.hid hrd
  clear hT w0 w1 w2 hrd hql
  unfold maxLen at hml
  by_cases ha : 2000 < a0.size
  · go_enter Tryd.func6, Tryd.ntmps6
    go_wp2_with (go_at_call 9; refine (awake_any _ HT.out).mono ?_; rintro e w1 ⟨rfl, hb1⟩)
    go_ret
    exact ⟨rfl, hb1⟩
  · have ha' : decide ((2000 : Int) < (a0.size : Int)) = false := by simp; omega
    by_cases hl : 100 < len2
    · go_enter Tryd.func6, Tryd.ntmps6
      go_wp2_with (go_at_call 9; refine (awake_any _ HT.out).mono ?_; rintro e w1 ⟨rfl, hb1⟩)
      go_ret
      exact ⟨rfl, hb1⟩
    · have hl' : decide ((100 : Int) < (len2 : Int)) = false := by simp; omega
      have hn : (splitL a0.data.toList b).length ≤ 2001 := by
        rw [split_count]
        have : a0.data.toList.count b ≤ a0.data.toList.length := List.count_le_length
        rw [len_size] at this
        omega
      have HS1 : Hid (∀ W, Calls Tryd.prog 19 #[.string a0, .int .u8 (b.toNat : Int)] W fun e w' => (∃ v, e = .returned v ∧ w'.ownsRow W.heap.size 9 1 v (splitL a0.data.toList b).length (BS (splitL a0.data.toList b))) ∧ Below W.heap.size W w') := fun W => split_any a0 b W (by omega)
      have HS2 : Hid (∀ W, Calls Tryd.prog 20 #[.string a0, .int .u8 (b.toNat : Int)] W fun e w' => (∃ v, e = .returned v ∧ w'.ownsRow W.heap.size 9 1 v (splitL a0.data.toList b).length (BS (splitL a0.data.toList b))) ∧ Below W.heap.size W w') := fun W => rsplit_any a0 b W (by omega)
      generalize splitL a0.data.toList b = ps at *
      go_enter Tryd.func6, Tryd.ntmps6
      go_wp2_with fail
      go_loop [7] (fun i => ∃ k : Nat, k ≤ len2 ∧ i = .int .i64 k ∧ ∀ p ∈ qs.take k, p.length ≤ 200) (fun i => len2 - (intOf i).toNat)
      case atStart => exact ⟨0, by omega, rfl, fun p hp => by simp at hp⟩
      case round =>
        obtain ⟨k, hk, rfl, hall⟩ := hrel
        have HA := Lib.hid hall
        clear hall
        by_cases hlt : k < len2
        · obtain ⟨bb, off, p, rfl, hbb, hp, hcell⟩ := rds_cell HRD.out hlt
          have hps := str_size p
          have HTK := Lib.hid (fun h0 : p.length ≤ 200 => take_all_succ (P := fun p => p.length ≤ 200) hp HA.out h0)
          clear hp
          by_cases h2 : p.length ≤ 200
          · have h3 : (⟨p.toArray⟩ : ByteArray).size ≤ 200 := by omega
            have HT2 := Lib.hid (HTK.out h2)
            clear hps h2
            generalize (⟨p.toArray⟩ : ByteArray) = t at *
            go_wp2_with fail
            go_round
            case rel => exact ⟨k + 1, by omega, by go_num, HT2.out⟩
            case measure => simp [intOf]; omega
          · have h3 : 200 < (⟨p.toArray⟩ : ByteArray).size := by omega
            clear hps h2
            generalize (⟨p.toArray⟩ : ByteArray) = t at *
            go_wp2_with (go_at_call 9; refine (awake_any _ HT.out).mono ?_; rintro e w1 ⟨rfl, hb1⟩)
            go_ret
            exact ⟨rfl, hb1⟩
        · obtain rfl : k = len2 := by omega
          have hjl : (joinL qs b).length ≤ 201 * qs.length := by
            have := HA.out
            rw [List.take_of_length_le (by rw [HQ.out]; exact Nat.le_refl _)] at this
            exact join_le_mul b this
          have hjl2 : (joinL qs b).length ≤ 20100 := by rw [HQ.out] at hjl; omega
          clear hjl
          go_wp2_with fail
          refine (awake_any _ HT.out).mono ?_
          rintro e w1 ⟨rfl, hb1⟩
          go_wp2_with fail
          refine (HS1.out _).mono ?_
          rintro e w2 ⟨⟨v2, rfl, hown2⟩, hb2⟩
          obtain ⟨A2, c2, rfl, hrd2⟩ := rd_own hown2
          have HRD2 := Lib.hid hrd2
          have hb12 := hb1.trans (hb2.mono hb1.size)
          clear hown2 hrd2 hb2 hb1
          go_wp2_with fail
          refine (HS2.out _).mono ?_
          rintro e w3 ⟨⟨v3, rfl, hown3⟩, hb3⟩
          obtain ⟨A3, c3, rfl, hrd3⟩ := rd_own hown3
          have HRD3 := Lib.hid hrd3
          have HRD2b := Lib.hid (rd_below HRD2.out hb3)
          have hb13 := hb12.trans (hb3.mono hb12.size)
          clear hown3 hrd3 hb3 hb12
          go_wp2_with fail
          refine (same_any A2 A3 ps.length c2 c3 w2.heap.size w3.heap.size ps _ (by omega) HRD2b.out HRD3.out).mono ?_
          rintro e w4 ⟨rfl, hb4⟩
          have hb14 := hb13.trans (hb4.mono hb13.size)
          clear hb13 hb4
          go_wp2_with fail
          refine (join_any _ _ _ w.heap.size qs b _ (rd_below HRD.out hb14) hb14.size (by omega) (by omega)).mono ?_
          rintro e w5 ⟨rfl, hb5⟩
          have hb15 := hb14.trans (hb5.mono hb14.size)
          clear hb14 hb5
          go_wp2_with fail
          refine (rjoin_any _ _ _ w.heap.size qs b _ (rd_below HRD.out hb15) hb15.size (by omega) (by omega)).mono ?_
          rintro e w6 ⟨rfl, hb6⟩
          have hb16 := hb15.trans (hb6.mono hb15.size)
          clear hb15 hb6
          generalize (⟨(joinL qs b).toArray⟩ : ByteArray) = t
          go_wp2_with fail
          go_ret
          exact ⟨rfl, hb16⟩

set_option maxRecDepth 100000 in
theorem lifted (os : Os) (started : os.Started) (H : Type) (enc : TypeId × Value → H) :
    ReturnsInHanded {} Tryd.checked os 6 .any (fun w args => (Rows.identPartsSpec.pre enc Tryd.prog Tryd.f6 [] false w args ∧ laidMetH Tryd.prog Rows.identPartsRow.laid w) ∧ sizedMet enc Tryd.prog Tryd.f6 (OpenSpec.ofChange Rows.identPartsSpec) false w args) (Rows.identPartsSpec.post enc Tryd.prog Tryd.f6 false true false false) := by
  refine returnsInHanded_of_change_and (C := Tryd.checked) (X := fun w _ => laidMetH Tryd.prog Rows.identPartsRow.laid w) (fun _ _ _ hh h => h.of_heap hh) own started (by kernel_rfl) Tryd.func6
    (ChangeSpec.witness_shaped (enc := enc) (C := Tryd.checked) (os := os) (X := fun w _ => laidMetH Tryd.prog Rows.identPartsRow.laid w) false (World.doorLaid Tryd.prog 400 os) #[.string ByteArray.empty, .int .u8 0, .slice none 0 0] 8 rfl (World.shaped_of_RefB (by kernel_rfl) (by kernel_rfl)) (by kernel_rfl) (by kernel_rfl) (by kernel_rfl)
      (laidMetH_of_parts3 (fuel := 8) (laidMet_of_run' 8 (by kernel_rfl) (by kernel_rfl)) (by kernel_rfl) (by kernel_rfl))) ?_
  intro W base args ds gs before hval0 hW _ _ hL _
  have hval : ∀ (j : Nat) t v, Tryd.f6.params[j]? = some t → args[j]? = some v → Value.okWide Tryd.prog W .any base t v := hval0
  have hW' := hW
  obtain ⟨p, q, hA0, hV, rfl, hfz, hnd⟩ := hW
  have hA : DataW.TrodAll enc Tryd.prog W 0 (fun _ => true) true Tryd.f6.params.toList args.toList ds p := hA0
  rw [Tryd.params6] at hA hval
  obtain ⟨v0, vs0, d0, ds0, p0, q0, hargs, rfl, rfl, h0, r0⟩ := trodAll_cons hA
  obtain ⟨v1, vs1, d1, ds1, p1, q1, rfl, rfl, rfl, h1, r1⟩ := trodAll_cons r0
  obtain ⟨v2, vs2, d2, ds2, p2, q2, rfl, rfl, rfl, h2, r2⟩ := trodAll_cons r1
  obtain ⟨rfl, rfl, rfl⟩ := trodAll_nil r2
  obtain rfl : args = #[v0, v1, v2] := by cases args; simp_all
  obtain ⟨rfl, rfl⟩ := trodVars_none hV
  obtain ⟨a0, rfl, rfl, rfl, w0⟩ := open_string Tryd.underlying9 (hval 0 9 v0 rfl rfl) h0
  obtain ⟨a1, rfl, rfl, rfl, w1⟩ := open_int Tryd.underlying5 (hval 1 5 v1 rfl rfl) h1
  obtain ⟨a2, len2, cap2, rfl⟩ := okWide_slice Tryd.underlying29 (hval 2 29 v2 rfl rfl)
  have k2 := h2
  have lt2 : ∀ x ∈ p2, x.block < W.heap.size := by obtain ⟨m, hm⟩ := k2; exact DataW.trod_lt m _ _ _ hm
  obtain ⟨z2, w2⟩ : ∃ zs, IsStrs W a2 len2 cap2 zs := by
    obtain ⟨fuel, hf⟩ := h2
    rcases open_strings Tryd.underlying29 Tryd.underlying9 (by kernel_rfl) hf with ⟨hcs, _⟩ | ⟨x, l, c, zs, hcs, _, hl, hm, hz, _, hcell, hwz⟩
    · simp [Value.cells] at hcs
      obtain ⟨rfl, rfl, rfl⟩ := hcs
      exact ⟨[], .inl ⟨rfl, rfl, rfl, rfl⟩⟩
    · simp [Value.cells] at hcs
      obtain ⟨rfl, rfl, rfl⟩ := hcs
      exact ⟨zs, .inr ⟨_, rfl, hl, hm, by simpa using hz, hcell, hwz⟩⟩
  clear hA0 hval0
  refine (walk a0 a1 a2 len2 cap2 z2 W w0 w1 w2 (tab_of hL (by kernel_rfl) (MakeChecks.laidMetH_plain _ _ _ (by kernel_rfl)))).mono fun e W' ⟨he, bel⟩ => ?_
  subst he
  exact ⟨_, rfl, _, _, _, [], _, [], hW', trodAll_mk1 (shut_bool Tryd.underlying4 _), (trodAll_cons_mk (shut_string Tryd.underlying9 w0) (trodAll_cons_mk (shut_int Tryd.underlying5 w1) (trodAll_cons_mk (Below.trod laidOut (by kernel_rfl) (of_decide_eq_true (by kernel_rfl)) k2 bel lt2) trodAll_mk0))), rfl, bel.frame _, fun h => by cases h⟩

theorem over : Rows.identPartsRow.holds Tryd.pinned (OpenSpec.ofChange Rows.identPartsSpec) :=
  OpenClaim.holds_of_wide 6 Tryd.f6 rfl rfl rfl rfl rfl rfl rfl ⟨rfl, rfl, rfl, rfl, rfl⟩ rfl rfl rfl rfl rfl (by kernel_rfl) Tryd.func6 (by kernel_rfl)
    (of_decide_eq_true (by kernel_rfl)) (by unfold Func.isWrapper; first | (rw [if_pos (by decide +kernel)]; kernel_rfl) | (rw [if_neg (by decide +kernel)]; exact ⟨rfl, rfl⟩))
    (fun os started H enc _ => lifted os started H enc)

theorem proved : Rows.IdentPartsSaid := over
theorem plain (f : FuncId) (fn : Func) (hf : Tryd.pinned.checked.prog.funcNamed "linchpin/linchpinlaw1.IdentParts" = some f) (hfn : Tryd.pinned.checked.prog.funcs[f]? = some fn) :
    false = Tryd.pinned.checked.prog.looks [] ∧ ∀ (j : Nat) t, fn.params[j]? = some t → Tryd.pinned.checked.prog.wantsStandIn t = false := by
  obtain rfl : f = 6 := Option.some.inj ((show Tryd.prog.funcNamed "linchpin/linchpinlaw1.IdentParts" = some 6 by kernel_rfl).symm.trans hf) |>.symm
  obtain rfl : fn = Tryd.f6 := (Option.some.inj (Tryd.func6.symm.trans hfn)).symm
  refine ⟨by kernel_rfl, fun j t ht => ?_⟩
  rw [Tryd.params6] at ht
  have hm : t ∈ [9, 5, 29] := by simpa using Array.mem_of_getElem? ht
  have hall : ([9, 5, 29].all fun u => !Tryd.prog.wantsStandIn u) = true := by kernel_rfl
  exact (show Tryd.prog.wantsStandIn t = false by simpa using List.all_eq_true.1 hall t hm)

theorem card : Rows.IdentPartsCardSaid :=
  Claim7.holds_tied_plain_at .later [] _ _ _ _ proved (fun _ h => by cases h) (by kernel_rfl) (fun _ h => by cases h) identParts_row_tie rfl ⟨rfl, rfl⟩ (by kernel_rfl) rfl plain (by kernel_rfl)
#print axioms card
end Go.Proofs.YtcagjlciakcnjaaDoor.identParts
