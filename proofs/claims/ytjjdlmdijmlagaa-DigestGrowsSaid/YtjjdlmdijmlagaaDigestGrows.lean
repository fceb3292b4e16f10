/-
  DigestGrows: the Root of a list with one number appended is the Pair of the list's Root and the number, and the Root of the empty list is the Sum of no bytes. Conditions: none.
-/
import Derived.Test.YtjjdlmdijmlagaaRows
import Derived.Test.YtjjdlmdijmlagaaDigPair
import Derived.WalkKit
import Derived.ProofKit
import Derived.OpenShut
import Derived.ShutString
import Derived.ChangeOld
import Derived.Below
namespace Go.Proofs.Ytjjdlmdijmlagaa.digestGrows
open Go.ChangeShapes Go.WideShapes Go.ChangeAt Go.RowKit
open Go.ChangeMaps (open_string shut_string)
set_option linter.unusedVariables false

theorem own : ownKnob Try.prog.godebug = none := by kernel_rfl
theorem laidOut : laidOutB Try.prog = true := by kernel_rfl

def IsRow (k : IntKind) (w : World) (a : Option Addr) (len cap : Nat) (zs : List Int) : Prop :=
  (a = none ∧ len = 0 ∧ cap = 0 ∧ zs = []) ∨
  ∃ x, a = some x ∧ len ≤ cap ∧ cap ≤ maxLen ∧ zs.length = cap ∧ (∀ i, i < zs.length → w.cell? (x.add i) = some (.int k (zs.getD i 0))) ∧ ∀ n ∈ zs, (Lit.int k n).wf = true

set_option maxHeartbeats 1000000 in
theorem walk (a0 : Option Addr) (len0 cap0 : Nat) (z0 : List Int) (a1 : Int) (w : World) (w0 : IsRow .u64 w a0 len0 cap0 z0) (w1 : (Lit.int .u64 a1).wf = true) :
    Calls Try.prog 8 #[.slice a0 len0 cap0, .int .u64 a1] w fun e w' => e = .returned (.bool true) ∧ Below w.heap.size w w' := by
  obtain ⟨l, hrd, hml⟩ := row_rd64 w0
  obtain ⟨x, rfl⟩ : ∃ n, a1 = ui n := ⟨UInt64.ofNat a1.toNat, (ui_ofNat (wf_u64_bd w1)).symm⟩
  clear w0 w1
  unfold maxLen at hml
  obtain ⟨i0, hi0, hz0, hz1, hz2⟩ := info_parts info_u64
  by_cases hlen : 200 < len0
  · go_enter Try.func8, Try.ntmps8
    go_wp2_with (go_at_call 17; refine (awake_any _).mono ?_; rintro e w1 ⟨rfl, hb1⟩)
    go_ret
    exact ⟨rfl, hb1⟩
  · go_enter Try.func8, Try.ntmps8
    go_wp2_with (first
      | (at_builtin; refine wpList_append_fresh w rfl (.const (.slice none 0 0)) (.tmp 10) 33 rfl w.heap.size 24 i0 (.int .u64 0) 8 Try.underlying33 hi0 hz0 hz1 hz2 rfl rfl w.heap.size a0 len0 cap0 (B64 l) rfl (rd_reads hrd) (b64_one l) (by omega) (by omega) (Nat.le_refl _) ?_; intro v1 w1 hown1 hb1)
      | (at_builtin; refine wpList_append_list w1 rfl (.tmp 11) (.tmp 13) 33 rfl w.heap.size 24 i0 (.int .u64 0) 8 Try.underlying33 hi0 hz0 hz1 hz2 rfl v1 len0 (B64 l) [.int .u64 (ui x)] 1 rfl hown1 (b64_one [x]) rfl 1 rfl (by omega) (by omega) hb1.size ?_; intro v2 w2 hown2 hb2))
    obtain ⟨A2, c2, rfl, hrd2⟩ := rd_own hown2
    rw [b64_snoc] at hrd2
    have hb2 := hb1.trans hb2
    clear hown1 hown2 hb1
    refine (awake_any _).mono ?_
    rintro e w3 ⟨rfl, hb3⟩
    have hrd3 := rd_below hrd2 hb3
    have hs3 := hb3.size
    have hb3 := hb2.trans (hb3.mono hb2.size)
    clear hrd2 hb2
    go_wp2_with fail
    refine (root_any _ _ _ _ (l ++ [x]) _ hrd3 (by unfold maxLen; omega) hs3).mono ?_
    rintro e w4 ⟨rfl, hb4⟩
    have hb4 := hb3.trans (hb4.mono hb3.size)
    clear hrd3 hs3 hb3
    go_wp2_with fail
    refine (root_any _ _ _ _ l _ (rd_below hrd hb4) (by unfold maxLen; omega) hb4.size).mono ?_
    rintro e w5 ⟨rfl, hb5⟩
    have hb5 := hb4.trans (hb5.mono hb4.size)
    clear hb4
    go_wp2_with fail
    refine (pair_any _ _ _).mono ?_
    rw [← root_snoc]
    rintro e w6 ⟨rfl, hb6⟩
    have hb6 := hb5.trans (hb6.mono hb5.size)
    clear hb5
    go_wp2_with fail
    refine (root_any _ _ _ _ [] _ (nil64 w6) (by unfold maxLen; omega) (by omega)).mono ?_
    rintro e w7 ⟨rfl, hb7⟩
    have hb7 := hb6.trans (hb7.mono hb6.size)
    clear hb6
    go_wp2_with fail
    refine (sum_any _ _ _ _ [] _ (rd_nil w7) (by unfold maxLen; omega)).mono ?_
    rintro e w' ⟨rfl, rfl⟩
    have h0 : root [] = sum [] := rfl
    rw [h0]
    go_wp2_with fail
    go_ret
    exact ⟨rfl, hb7⟩

set_option maxRecDepth 100000 in
theorem lifted (os : Os) (started : os.Started) (H : Type) (enc : TypeId × Value → H) :
    ReturnsInHanded {} Try.checked os 8 .any (Rows.digestGrowsSpec.pre6 enc Try.prog Try.f8 Rows.digestGrowsRow.domain false) (Rows.digestGrowsSpec.post enc Try.prog Try.f8 false true false false) := by
  refine returnsInHanded_of_change (C := Try.checked) own started (by kernel_rfl) Try.func8
    (ChangeSpec.witness6 (enc := enc) (C := Try.checked) false ⟨#[], #[.slice none 0 0, .int .u64 0], []⟩ 8 (by kernel_rfl) (by kernel_rfl) (by kernel_rfl) (by kernel_rfl)) ?_
  intro W base args ds gs before hval0 hW hcnd _
  have hval : ∀ (j : Nat) t v, Try.f8.params[j]? = some t → args[j]? = some v → Value.okWide Try.prog W .any base t v := hval0
  have hW' := hW
  obtain ⟨p, q, hA0, hV, rfl, hfz, hnd⟩ := hW
  have hA : DataW.TrodAll enc Try.prog W 0 (fun _ => true) true Try.f8.params.toList args.toList ds p := hA0
  rw [Try.params8] at hA hval
  obtain ⟨v0, vs0, d0, ds0, p0, q0, hargs, rfl, rfl, h0, r0⟩ := trodAll_cons hA
  obtain ⟨v1, vs1, d1, ds1, p1, q1, rfl, rfl, rfl, h1, r1⟩ := trodAll_cons r0
  obtain ⟨rfl, rfl, rfl⟩ := trodAll_nil r1
  obtain rfl : args = #[v0, v1] := by cases args; simp_all
  obtain ⟨rfl, rfl⟩ := trodVars_none hV
  obtain ⟨a0, len0, cap0, rfl⟩ := okWide_slice Try.underlying33 (hval 0 33 v0 rfl rfl)
  have k0 := h0
  have lt0 : ∀ x ∈ p0, x.block < W.heap.size := by obtain ⟨m, hm⟩ := k0; exact DataW.trod_lt m _ _ _ hm
  obtain ⟨z0, w0⟩ : ∃ zs, IsRow .u64 W a0 len0 cap0 zs := by
    obtain ⟨fuel, hf⟩ := h0
    rcases open_ints Try.underlying33 Try.underlying24 (by kernel_rfl) hf with ⟨hcs, _⟩ | ⟨x, l, c, zs, hcs, _, hl, hm, hz, _, hcell, hwz⟩
    · simp [Value.cells] at hcs
      obtain ⟨rfl, rfl, rfl⟩ := hcs
      exact ⟨[], .inl ⟨rfl, rfl, rfl, rfl⟩⟩
    · simp [Value.cells] at hcs
      obtain ⟨rfl, rfl, rfl⟩ := hcs
      exact ⟨zs, .inr ⟨_, rfl, hl, hm, by simpa using hz, hcell, hwz⟩⟩
  obtain ⟨a1, rfl, rfl, rfl, w1⟩ := open_int Try.underlying24 (hval 1 24 v1 rfl rfl) h1
  clear hA0 hval0
  refine (walk a0 len0 cap0 z0 a1 W w0 w1).mono fun e W' ⟨he, bel⟩ => ?_
  subst he
  exact ⟨_, rfl, _, _, _, [], _, [], hW', trodAll_mk1 (shut_bool Try.underlying4 _), (trodAll_cons_mk (Below.trod laidOut (by kernel_rfl) (of_decide_eq_true (by kernel_rfl)) k0 bel lt0) (trodAll_cons_mk (shut_int Try.underlying24 w1) trodAll_mk0)), rfl, bel.frame _, fun h => by cases h⟩

theorem over : Rows.digestGrowsRow.holds Try.pinned (OpenSpec.ofChange Rows.digestGrowsSpec) :=
  OpenClaim.holds_of_wide 8 Try.f8 rfl rfl rfl rfl rfl rfl rfl ⟨rfl, rfl, rfl, rfl, rfl⟩ rfl rfl rfl rfl rfl (by kernel_rfl) Try.func8 (by kernel_rfl)
    (of_decide_eq_true (by kernel_rfl)) (by unfold Func.isWrapper; first | (rw [if_pos (by decide +kernel)]; kernel_rfl) | (rw [if_neg (by decide +kernel)]; exact ⟨rfl, rfl⟩))
    (fun os started H enc _ => lifted os started H enc)

theorem proved : Rows.DigestGrowsSaid := over
#print axioms proved
end Go.Proofs.Ytjjdlmdijmlagaa.digestGrows
