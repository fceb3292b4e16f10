/-
  DigestTexts: for every number and every string, Text and Read return what the reference returns, and Read inverts Text. Conditions: none.
-/
import Derived.Test.YtjjdlmdijmlagaaRows
import Derived.Test.YtjjdlmdijmlagaaDigPair
import Derived.Test.YtjjdlmdijmlagaaDigBack
import Derived.Test.YtjjdlmdijmlagaaMem
import Derived.WalkKit
import Derived.ProofKit
import Derived.OpenShut
import Derived.ShutString
namespace Go.Proofs.Ytjjdlmdijmlagaa.digestTexts
open Go.ChangeShapes Go.WideShapes Go.ChangeAt Go.RowKit
open Go.ChangeMaps (open_string shut_string)
set_option linter.unusedVariables false      -- a walk need not use every 'w<i>' (that an integer argument fits its kind)

theorem own : ownKnob Try.prog.godebug = none := by kernel_rfl

set_option maxHeartbeats 2000000 in
theorem walk (a0 : Int) (a1 : ByteArray) (w0 : (Lit.int .u64 a0).wf = true) (w1 : a1.size ≤ maxLen) (w : World) :
    Calls Try.prog 5 #[.int .u64 a0, .string a1] w fun e w' => e = .returned (.bool true) ∧ Below w.heap.size w w' := by
  obtain ⟨n, rfl⟩ : ∃ n, a0 = ui n := ⟨UInt64.ofNat a0.toNat, (ui_ofNat (wf_u64_bd w0)).symm⟩
  clear w0
  have HT := Lib.hid (read_text n)
  have hts : (strOfNums (textOf n)).size ≤ maxLen := by rw [text_size]; unfold maxLen; omega
  have ht1 : ∀ W, Calls Try.prog 22 #[.int .u64 (ui n)] W fun e w' => e = .returned (.string (strOfNums (textOf n))) ∧ Below W.heap.size W w' := fun W => text_any n W
  have ht2 : ∀ W, Calls Try.prog 23 #[.int .u64 (ui n)] W fun e w' => e = .returned (.string (strOfNums (textOf n))) ∧ Below W.heap.size W w' := fun W => rtext_any n W
  have HT1 := Lib.hid ht1
  have HT2 := Lib.hid ht2
  clear ht1 ht2
  have HR1 := Lib.hid (fun W => read_any a1 W w1)
  have HR2 := Lib.hid (fun W => rread_any a1 W w1)
  have HX := Lib.hid (fun x => text_read a1 x)
  have HS : Hid (∀ W, Calls Try.prog 20 #[.string (strOfNums (textOf n))] W fun e w' => e = .returned (.tuple #[.int .u64 (ui n), .bool true]) ∧ W = w') := by
    intro W
    have := read_any (strOfNums (textOf n)) W hts
    rw [HT.out] at this
    exact this
  clear HT hts
  generalize strOfNums (textOf n) = T at *
  generalize readB a1.data.toList = R at *
  obtain ⟨x, ok⟩ := R
  go_enter Try.func5, Try.ntmps5
  go_wp2_with fail
  refine (HR1.out _).mono ?_
  rintro e w' ⟨rfl, rfl⟩
  go_wp2_with fail
  refine (HR2.out _).mono ?_
  rintro e w' ⟨rfl, rfl⟩
  go_wp2_with fail
  refine (HT1.out _).mono ?_
  rintro e w1 ⟨rfl, hb1⟩
  go_wp2_with fail
  refine (HS.out _).mono ?_
  rintro e w' ⟨rfl, rfl⟩
  go_wp2_with fail
  refine (awake_any _).mono ?_
  rintro e w2 ⟨rfl, hb2⟩
  have hb2 := hb1.trans (hb2.mono hb1.size)
  clear hb1
  go_wp2_with fail
  refine (HT1.out _).mono ?_
  rintro e w3 ⟨rfl, hb3⟩
  have hb3 := hb2.trans (hb3.mono hb2.size)
  clear hb2
  go_wp2_with fail
  refine (HT2.out _).mono ?_
  rintro e w4 ⟨rfl, hb4⟩
  have hb4 := hb3.trans (hb4.mono hb3.size)
  clear hb3
  cases ok with
  | false =>
    go_wp2_with fail
    go_ret
    exact ⟨rfl, hb4⟩
  | true =>
    go_wp2_with fail
    refine (text_any x _).mono ?_
    rw [HX.out x rfl]
    rintro e w5 ⟨rfl, hb5⟩
    have hb5 := hb4.trans (hb5.mono hb4.size)
    go_wp2_with fail
    go_ret
    exact ⟨rfl, hb5⟩

set_option maxRecDepth 100000 in
theorem lifted (os : Os) (started : os.Started) (H : Type) (enc : TypeId × Value → H) :
    ReturnsInHanded {} Try.checked os 5 .any (Rows.digestTextsSpec.pre6 enc Try.prog Try.f5 Rows.digestTextsRow.domain false) (Rows.digestTextsSpec.post enc Try.prog Try.f5 false true false false) := by
  refine returnsInHanded_of_change (C := Try.checked) own started (by kernel_rfl) Try.func5
    (ChangeSpec.witness6 (enc := enc) (C := Try.checked) false ⟨#[], #[.int .u64 0, .string ByteArray.empty], []⟩ 8 (by kernel_rfl) (by kernel_rfl) (by kernel_rfl) (by kernel_rfl)) ?_
  intro W base args ds gs before hval0 hW hcnd _
  have hval : ∀ (j : Nat) t v, Try.f5.params[j]? = some t → args[j]? = some v → Value.okWide Try.prog W .any base t v := hval0
  have hW' := hW
  obtain ⟨p, q, hA0, hV, rfl, hfz, hnd⟩ := hW
  have hA : DataW.TrodAll enc Try.prog W 0 (fun _ => true) true Try.f5.params.toList args.toList ds p := hA0
  rw [Try.params5] at hA hval
  obtain ⟨v0, vs0, d0, ds0, p0, q0, hargs, rfl, rfl, h0, r0⟩ := trodAll_cons hA
  obtain ⟨v1, vs1, d1, ds1, p1, q1, rfl, rfl, rfl, h1, r1⟩ := trodAll_cons r0
  obtain ⟨rfl, rfl, rfl⟩ := trodAll_nil r1
  obtain rfl : args = #[v0, v1] := by cases args; simp_all
  obtain ⟨rfl, rfl⟩ := trodVars_none hV
  obtain ⟨a0, rfl, rfl, rfl, w0⟩ := open_int Try.underlying24 (hval 0 24 v0 rfl rfl) h0
  obtain ⟨a1, rfl, rfl, rfl, w1⟩ := open_string Try.underlying9 (hval 1 9 v1 rfl rfl) h1
  clear hA0 hval0
  simp only [List.append_nil] at hW'
  refine (walk a0 a1 w0 w1 W).mono fun e W' ⟨he, hg⟩ => ?_
  subst he
  exact ⟨_, rfl, post_of_below (pa := []) (pv := []) hW' (fun _ _ _ => (trodAll_cons_mk (shut_bool Try.underlying4 _) trodAll_mk0)) (fun sp _ => (trodAll_cons_mk (shut_int Try.underlying24 w0) (trodAll_cons_mk (shut_string Try.underlying9 w1) trodAll_mk0))) (fun _ _ => rfl) rfl
    hg (ok_one (by kernel_rfl) rfl (okWide_bool_mk Try.underlying4 _))⟩

theorem over : Rows.digestTextsRow.holds Try.pinned (OpenSpec.ofChange Rows.digestTextsSpec) :=
  OpenClaim.holds_of_wide 5 Try.f5 rfl rfl rfl rfl rfl rfl rfl ⟨rfl, rfl, rfl, rfl, rfl⟩ rfl rfl rfl rfl rfl (by kernel_rfl) Try.func5 (by kernel_rfl)
    (of_decide_eq_true (by kernel_rfl)) (by unfold Func.isWrapper; first | (rw [if_pos (by decide +kernel)]; kernel_rfl) | (rw [if_neg (by decide +kernel)]; exact ⟨rfl, rfl⟩))
    (fun os started H enc _ => lifted os started H enc)

theorem proved : Rows.DigestTextsSaid :=
  over
#print axioms proved
end Go.Proofs.Ytjjdlmdijmlagaa.digestTexts
