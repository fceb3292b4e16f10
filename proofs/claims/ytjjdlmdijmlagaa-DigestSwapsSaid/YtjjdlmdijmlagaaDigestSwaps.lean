/-
  DigestSwaps: exchanging the last two numbers of a list changes the Root exactly if it changes the nested Pairs. Conditions: none.
-/
import Derived.Test.YtjjdlmdijmlagaaRows
import Derived.Test.YtjjdlmdijmlagaaDigPair
import Derived.WalkKit
import Derived.ProofKit
import Derived.OpenShut
import Derived.ShutString
import Derived.ChangeOld
import Derived.Below
namespace Go.Proofs.Ytjjdlmdijmlagaa.digestSwaps
open Go.ChangeShapes Go.WideShapes Go.ChangeAt Go.RowKit
open Go.ChangeMaps (open_string shut_string)
set_option linter.unusedVariables false

theorem own : ownKnob Try.prog.godebug = none := by kernel_rfl
theorem laidOut : laidOutB Try.prog = true := by kernel_rfl

def IsRow (k : IntKind) (w : World) (a : Option Addr) (len cap : Nat) (zs : List Int) : Prop :=
  (a = none ∧ len = 0 ∧ cap = 0 ∧ zs = []) ∨
  ∃ x, a = some x ∧ len ≤ cap ∧ cap ≤ maxLen ∧ zs.length = cap ∧ (∀ i, i < zs.length → w.cell? (x.add i) = some (.int k (zs.getD i 0))) ∧ ∀ n ∈ zs, (Lit.int k n).wf = true

set_option maxHeartbeats 2000000 in
theorem walk (a0 : Int) (a1 : Int) (a2 : Option Addr) (len2 cap2 : Nat) (z2 : List Int) (w : World) (w0 : (Lit.int .u64 a0).wf = true) (w1 : (Lit.int .u64 a1).wf = true) (w2 : IsRow .u64 w a2 len2 cap2 z2) :
    Calls Try.prog 9 #[.int .u64 a0, .int .u64 a1, .slice a2 len2 cap2] w fun e w' => e = .returned (.bool true) ∧ Below w.heap.size w w' := by
  obtain ⟨x, rfl⟩ : ∃ n, a0 = ui n := ⟨UInt64.ofNat a0.toNat, (ui_ofNat (wf_u64_bd w0)).symm⟩
  obtain ⟨y, rfl⟩ : ∃ n, a1 = ui n := ⟨UInt64.ofNat a1.toNat, (ui_ofNat (wf_u64_bd w1)).symm⟩
  obtain ⟨l, hrd, hml⟩ := row_rd64 w2
  clear w0 w1 w2
  unfold maxLen at hml
  obtain ⟨i0, hi0, hz0, hz1, hz2⟩ := info_parts info_u64
  by_cases hlen : 60 < len2
  · go_enter Try.func9, Try.ntmps9
    go_wp2_with (go_at_call 17; refine (awake_any _).mono ?_; rintro e w1 ⟨rfl, hb1⟩)
    go_ret
    exact ⟨rfl, hb1⟩
  · go_enter Try.func9, Try.ntmps9
    go_wp2_with (first
      | (at_builtin; refine wpList_append_fresh w rfl (.const (.slice none 0 0)) (.tmp 15) 33 rfl w.heap.size 24 i0 (.int .u64 0) 8 Try.underlying33 hi0 hz0 hz1 hz2 rfl rfl w.heap.size a2 len2 cap2 (B64 l) rfl (rd_reads hrd) (b64_one l) (by omega) (by omega) (Nat.le_refl _) ?_; intro v1 w1 hown1 hb1)
      | (at_builtin; refine wpList_append_list w1 rfl (.tmp 16) (.tmp 19) 33 rfl w.heap.size 24 i0 (.int .u64 0) 8 Try.underlying33 hi0 hz0 hz1 hz2 rfl v1 len2 (B64 l) [.int .u64 (ui x), .int .u64 (ui y)] 2 rfl hown1 (b64_one [x, y]) rfl 2 rfl (by omega) (by omega) hb1.size ?_; intro v2 w2 hown2 hb2))
    obtain ⟨A2, c2, rfl, hrd2⟩ := rd_own hown2
    rw [b64_two] at hrd2
    have hb2 := hb1.trans hb2
    clear hown1 hown2 hb1
    refine (root_any _ _ _ _ (l ++ [x, y]) _ hrd2 (by unfold maxLen; omega) (Nat.le_refl _)).mono ?_
    rintro e w3 ⟨rfl, hb3⟩
    have hb3 := hb2.trans (hb3.mono hb2.size)
    clear hrd2 hb2
    have hrd3 := rd_below hrd hb3
    go_wp2_with (first
      | (at_builtin; refine wpList_append_fresh w3 rfl (.const (.slice none 0 0)) (.tmp 22) 33 rfl w.heap.size 24 i0 (.int .u64 0) 8 Try.underlying33 hi0 hz0 hz1 hz2 rfl rfl w.heap.size a2 len2 cap2 (B64 l) rfl (rd_reads hrd3) (b64_one l) (by omega) (by omega) hb3.size ?_; intro v4 w4 hown4 hb4)
      | (at_builtin; refine wpList_append_list w4 rfl (.tmp 23) (.tmp 26) 33 rfl w.heap.size 24 i0 (.int .u64 0) 8 Try.underlying33 hi0 hz0 hz1 hz2 rfl v4 len2 (B64 l) [.int .u64 (ui y), .int .u64 (ui x)] 2 rfl hown4 (b64_one [y, x]) rfl 2 rfl (by omega) (by omega) (Nat.le_trans hb3.size hb4.size) ?_; intro v5 w5 hown5 hb5))
    obtain ⟨A5, c5, rfl, hrd5⟩ := rd_own hown5
    rw [b64_two] at hrd5
    have hb5 := (hb3.trans (hb4.mono hb3.size)).trans hb5
    clear hown4 hown5 hb3 hb4 hrd3
    refine (root_any _ _ _ _ (l ++ [y, x]) _ hrd5 (by unfold maxLen; omega) (Nat.le_refl _)).mono ?_
    rintro e w6 ⟨rfl, hb6⟩
    have hb6 := hb5.trans (hb6.mono hb5.size)
    clear hrd5 hb5
    go_wp2_with fail
    refine (root_any _ _ _ _ l _ (rd_below hrd hb6) (by unfold maxLen; omega) hb6.size).mono ?_
    rintro e w7 ⟨rfl, hb7⟩
    have hb7 := hb6.trans (hb7.mono hb6.size)
    clear hb6
    rw [root_two, root_two]
    generalize root l = r
    go_wp2_with fail
    refine (pair_any _ _ _).mono ?_
    rintro e w8 ⟨rfl, hb8⟩
    have hb8 := hb7.trans (hb8.mono hb7.size)
    clear hb7
    go_wp2_with fail
    refine (pair_any _ _ _).mono ?_
    rintro e w9 ⟨rfl, hb9⟩
    have hb9 := hb8.trans (hb9.mono hb8.size)
    clear hb8
    go_wp2_with fail
    refine (pair_any _ _ _).mono ?_
    rintro e w10 ⟨rfl, hb10⟩
    have hb10 := hb9.trans (hb10.mono hb9.size)
    clear hb9
    go_wp2_with fail
    refine (pair_any _ _ _).mono ?_
    rintro e w11 ⟨rfl, hb11⟩
    have hb11 := hb10.trans (hb11.mono hb10.size)
    clear hb10
    go_wp2_with fail
    refine (awake_any _).mono ?_
    rintro e w12 ⟨rfl, hb12⟩
    have hb12 := hb11.trans (hb12.mono hb11.size)
    clear hb11
    by_cases hxy : x = y
    · subst hxy
      go_wp2_with fail
      go_ret
      exact ⟨rfl, hb12⟩
    · have hne : (ui x != ui y) = true := by rw [bne_iff_ne]; exact fun h => hxy (ui_inj h)
      go_wp2_with fail
      go_ret
      exact ⟨rfl, hb12⟩

set_option maxRecDepth 100000 in
theorem lifted (os : Os) (started : os.Started) (H : Type) (enc : TypeId × Value → H) :
    ReturnsInHanded {} Try.checked os 9 .any (Rows.digestSwapsSpec.pre6 enc Try.prog Try.f9 Rows.digestSwapsRow.domain false) (Rows.digestSwapsSpec.post enc Try.prog Try.f9 false true false false) := by
  refine returnsInHanded_of_change (C := Try.checked) own started (by kernel_rfl) Try.func9
    (ChangeSpec.witness6 (enc := enc) (C := Try.checked) false ⟨#[], #[.int .u64 0, .int .u64 0, .slice none 0 0], []⟩ 8 (by kernel_rfl) (by kernel_rfl) (by kernel_rfl) (by kernel_rfl)) ?_
  intro W base args ds gs before hval0 hW hcnd _
  have hval : ∀ (j : Nat) t v, Try.f9.params[j]? = some t → args[j]? = some v → Value.okWide Try.prog W .any base t v := hval0
  have hW' := hW
  obtain ⟨p, q, hA0, hV, rfl, hfz, hnd⟩ := hW
  have hA : DataW.TrodAll enc Try.prog W 0 (fun _ => true) true Try.f9.params.toList args.toList ds p := hA0
  rw [Try.params9] at hA hval
  obtain ⟨v0, vs0, d0, ds0, p0, q0, hargs, rfl, rfl, h0, r0⟩ := trodAll_cons hA
  obtain ⟨v1, vs1, d1, ds1, p1, q1, rfl, rfl, rfl, h1, r1⟩ := trodAll_cons r0
  obtain ⟨v2, vs2, d2, ds2, p2, q2, rfl, rfl, rfl, h2, r2⟩ := trodAll_cons r1
  obtain ⟨rfl, rfl, rfl⟩ := trodAll_nil r2
  obtain rfl : args = #[v0, v1, v2] := by cases args; simp_all
  obtain ⟨rfl, rfl⟩ := trodVars_none hV
  obtain ⟨a0, rfl, rfl, rfl, w0⟩ := open_int Try.underlying24 (hval 0 24 v0 rfl rfl) h0
  obtain ⟨a1, rfl, rfl, rfl, w1⟩ := open_int Try.underlying24 (hval 1 24 v1 rfl rfl) h1
  obtain ⟨a2, len2, cap2, rfl⟩ := okWide_slice Try.underlying33 (hval 2 33 v2 rfl rfl)
  have k2 := h2
  have lt2 : ∀ x ∈ p2, x.block < W.heap.size := by obtain ⟨m, hm⟩ := k2; exact DataW.trod_lt m _ _ _ hm
  obtain ⟨z2, w2⟩ : ∃ zs, IsRow .u64 W a2 len2 cap2 zs := by
    obtain ⟨fuel, hf⟩ := h2
    rcases open_ints Try.underlying33 Try.underlying24 (by kernel_rfl) hf with ⟨hcs, _⟩ | ⟨x, l, c, zs, hcs, _, hl, hm, hz, _, hcell, hwz⟩
    · simp [Value.cells] at hcs
      obtain ⟨rfl, rfl, rfl⟩ := hcs
      exact ⟨[], .inl ⟨rfl, rfl, rfl, rfl⟩⟩
    · simp [Value.cells] at hcs
      obtain ⟨rfl, rfl, rfl⟩ := hcs
      exact ⟨zs, .inr ⟨_, rfl, hl, hm, by simpa using hz, hcell, hwz⟩⟩
  clear hA0 hval0
  refine (walk a0 a1 a2 len2 cap2 z2 W w0 w1 w2).mono fun e W' ⟨he, bel⟩ => ?_
  subst he
  exact ⟨_, rfl, _, _, _, [], _, [], hW', trodAll_mk1 (shut_bool Try.underlying4 _), (trodAll_cons_mk (shut_int Try.underlying24 w0) (trodAll_cons_mk (shut_int Try.underlying24 w1) (trodAll_cons_mk (Below.trod laidOut (by kernel_rfl) (of_decide_eq_true (by kernel_rfl)) k2 bel lt2) trodAll_mk0))), rfl, bel.frame _, fun h => by cases h⟩

theorem over : Rows.digestSwapsRow.holds Try.pinned (OpenSpec.ofChange Rows.digestSwapsSpec) :=
  OpenClaim.holds_of_wide 9 Try.f9 rfl rfl rfl rfl rfl rfl rfl ⟨rfl, rfl, rfl, rfl, rfl⟩ rfl rfl rfl rfl rfl (by kernel_rfl) Try.func9 (by kernel_rfl)
    (of_decide_eq_true (by kernel_rfl)) (by unfold Func.isWrapper; first | (rw [if_pos (by decide +kernel)]; kernel_rfl) | (rw [if_neg (by decide +kernel)]; exact ⟨rfl, rfl⟩))
    (fun os started H enc _ => lifted os started H enc)

theorem proved : Rows.DigestSwapsSaid := over
#print axioms proved
end Go.Proofs.Ytjjdlmdijmlagaa.digestSwaps
