/-
  DigestOne: of bytes of which one is changed the Sum is another one. Conditions: none.
-/
import Derived.Test.YtjjdlmdijmlagaaRows
import Derived.Test.YtjjdlmdijmlagaaDigPair
import Derived.WalkKit
import Derived.ProofKit
import Derived.OpenShut
import Derived.ShutString
import Derived.ChangeOld
import Derived.Below
namespace Go.Proofs.Ytjjdlmdijmlagaa.digestOne
open Go.ChangeShapes Go.WideShapes Go.ChangeAt Go.RowKit
open Go.ChangeMaps (open_string shut_string)
set_option linter.unusedVariables false

theorem own : ownKnob Try.prog.godebug = none := by kernel_rfl
theorem laidOut : laidOutB Try.prog = true := by kernel_rfl

def IsRow (k : IntKind) (w : World) (a : Option Addr) (len cap : Nat) (zs : List Int) : Prop :=
  (a = none ∧ len = 0 ∧ cap = 0 ∧ zs = []) ∨
  ∃ x, a = some x ∧ len ≤ cap ∧ cap ≤ maxLen ∧ zs.length = cap ∧ (∀ i, i < zs.length → w.cell? (x.add i) = some (.int k (zs.getD i 0))) ∧ ∀ n ∈ zs, (Lit.int k n).wf = true

set_option maxHeartbeats 1000000 in
theorem walk (a0 : Option Addr) (len0 cap0 : Nat) (z0 : List Int) (a1 : Int) (a2 : Int) (w : World) (w0 : IsRow .u8 w a0 len0 cap0 z0) (w1 : (Lit.int .i64 a1).wf = true) (w2 : (Lit.int .u8 a2).wf = true) :
    Calls Try.prog 6 #[.slice a0 len0 cap0, .int .i64 a1, .int .u8 a2] w fun e w' => e = .returned (.bool true) ∧ Below w.heap.size w w' := by
  obtain ⟨l, hrd, hml⟩ := row_rd8 w0
  obtain ⟨d, rfl⟩ : ∃ n, a2 = bi n := ⟨UInt8.ofNat a2.toNat, (bi_ofNat (wf_u8_bd w2)).symm⟩
  obtain ⟨hv1, hv2⟩ := bounds_i64 w1
  clear w0 w1 w2
  unfold maxLen at hml
  obtain ⟨i0, hi0, hz0, hz1, hz2⟩ := info_parts info_u8
  by_cases hlen : len0 = 0
  · subst hlen
    go_enter Try.func6, Try.ntmps6
    go_wp2_with (go_at_call 17; refine (awake_any _).mono ?_; rintro e w1 ⟨rfl, hb1⟩)
    go_ret
    exact ⟨rfl, hb1⟩
  · have hl0 : ((len0 : Int) == 0) = false := by simp; omega
    by_cases hlen2 : 3000 < len0
    · go_enter Try.func6, Try.ntmps6
      go_wp2_with (go_at_call 17; refine (awake_any _).mono ?_; rintro e w1 ⟨rfl, hb1⟩)
      go_ret
      exact ⟨rfl, hb1⟩
    · have hl2 : decide ((3000 : Int) < len0) = false := by simp; omega
      go_enter Try.func6, Try.ntmps6
      go_wp2_with (first
        | (at_builtin; refine wpList_append_fresh w rfl (.const (.slice none 0 0)) (.tmp 18) 23 rfl w.heap.size 5 i0 (.int .u8 0) 1 Try.underlying23 hi0 hz0 hz1 hz2 rfl rfl w.heap.size a0 len0 cap0 (B8 l) rfl (rd_reads hrd) (b8_one l) (by omega) (by omega) (Nat.le_refl _) ?_; intro v1 w1 hown1 hb1))
      refine (place_any _ _ _ (by omega) (by omega) (by omega) (by omega)).mono ?_
      rintro e w' ⟨⟨k, hk, rfl⟩, rfl⟩
      have hll : l.length = len0 := by have := hrd.1; simpa [B8] using this
      have hkl : k < l.length := by omega
      obtain ⟨g, c1, rfl, hg1, hg2⟩ := hown1.form (by omega)
      have hcell : w1.cell? ⟨g, k, none⟩ = some (.int .u8 (bi l[k])) := by
        rw [hown1.cellAt k (by omega)]
        simp [B8, List.getElem?_eq_getElem hkl]
      have hfr := hown1.frozenAt k
      have hown2 := (hown1.stored k (.int .u8 (bi (l[k] ^^^ d)))).1
      rw [b8_set] at hown2
      have hb2 : Below w.heap.size w (w1.setCell ⟨g, k, none⟩ (.int .u8 (bi (l[k] ^^^ d)))) := hb1.setCell hg1 _
      have hx := xor8 l[k] d
      have HL := Lib.hid hll
      clear hown1 hll hg2 hb1
      go_wp2_with fail
      generalize w1.setCell ⟨g, k, none⟩ (.int .u8 (bi (l[k] ^^^ d))) = w2 at *
      clear hcell hfr hx
      obtain ⟨A2, c2, he2, hrd2⟩ := rd_own hown2
      obtain ⟨rfl, rfl⟩ : A2 = some ⟨g, 0, none⟩ ∧ c2 = c1 := by injection he2 with h1 h2 h3; exact ⟨h1.symm, h3.symm⟩
      clear he2 hown2
      refine (awake_any _).mono ?_
      rintro e w3 ⟨rfl, hb3⟩
      have hrd3 := rd_below hrd2 hb3
      have hb3 := hb2.trans (hb3.mono hb2.size)
      clear hb2 hrd2
      go_wp2_with fail
      refine (sum_any _ _ _ _ (l.set k (l[k] ^^^ d)) _ hrd3 (by unfold maxLen; omega)).mono ?_
      rintro e w' ⟨rfl, rfl⟩
      go_wp2_with fail
      refine (sum_any _ _ _ _ l _ (rd_below hrd hb3) (by unfold maxLen; omega)).mono ?_
      rintro e w' ⟨rfl, rfl⟩
      by_cases hd : d = 0
      · subst hd
        rw [one_yes l k hkl, show bi 0 = 0 from rfl]
        go_wp2_with fail
        go_ret
        exact ⟨rfl, hb3⟩
      · have h1 := one_no l k hkl d hd
        have h2 := bi_ne d hd
        go_wp2_with fail
        go_ret
        exact ⟨rfl, hb3⟩

set_option maxRecDepth 100000 in
theorem lifted (os : Os) (started : os.Started) (H : Type) (enc : TypeId × Value → H) :
    ReturnsInHanded {} Try.checked os 6 .any (Rows.digestOneSpec.pre6 enc Try.prog Try.f6 Rows.digestOneRow.domain false) (Rows.digestOneSpec.post enc Try.prog Try.f6 false true false false) := by
  refine returnsInHanded_of_change (C := Try.checked) own started (by kernel_rfl) Try.func6
    (ChangeSpec.witness6 (enc := enc) (C := Try.checked) false ⟨#[], #[.slice none 0 0, .int .i64 0, .int .u8 0], []⟩ 8 (by kernel_rfl) (by kernel_rfl) (by kernel_rfl) (by kernel_rfl)) ?_
  intro W base args ds gs before hval0 hW hcnd _
  have hval : ∀ (j : Nat) t v, Try.f6.params[j]? = some t → args[j]? = some v → Value.okWide Try.prog W .any base t v := hval0
  have hW' := hW
  obtain ⟨p, q, hA0, hV, rfl, hfz, hnd⟩ := hW
  have hA : DataW.TrodAll enc Try.prog W 0 (fun _ => true) true Try.f6.params.toList args.toList ds p := hA0
  rw [Try.params6] at hA hval
  obtain ⟨v0, vs0, d0, ds0, p0, q0, hargs, rfl, rfl, h0, r0⟩ := trodAll_cons hA
  obtain ⟨v1, vs1, d1, ds1, p1, q1, rfl, rfl, rfl, h1, r1⟩ := trodAll_cons r0
  obtain ⟨v2, vs2, d2, ds2, p2, q2, rfl, rfl, rfl, h2, r2⟩ := trodAll_cons r1
  obtain ⟨rfl, rfl, rfl⟩ := trodAll_nil r2
  obtain rfl : args = #[v0, v1, v2] := by cases args; simp_all
  obtain ⟨rfl, rfl⟩ := trodVars_none hV
  obtain ⟨a0, len0, cap0, rfl⟩ := okWide_slice Try.underlying23 (hval 0 23 v0 rfl rfl)
  have k0 := h0
  have lt0 : ∀ x ∈ p0, x.block < W.heap.size := by obtain ⟨m, hm⟩ := k0; exact DataW.trod_lt m _ _ _ hm
  obtain ⟨z0, w0⟩ : ∃ zs, IsRow .u8 W a0 len0 cap0 zs := by
    obtain ⟨fuel, hf⟩ := h0
    rcases open_ints Try.underlying23 Try.underlying5 (by kernel_rfl) hf with ⟨hcs, _⟩ | ⟨x, l, c, zs, hcs, _, hl, hm, hz, _, hcell, hwz⟩
    · simp [Value.cells] at hcs
      obtain ⟨rfl, rfl, rfl⟩ := hcs
      exact ⟨[], .inl ⟨rfl, rfl, rfl, rfl⟩⟩
    · simp [Value.cells] at hcs
      obtain ⟨rfl, rfl, rfl⟩ := hcs
      exact ⟨zs, .inr ⟨_, rfl, hl, hm, by simpa using hz, hcell, hwz⟩⟩
  obtain ⟨a1, rfl, rfl, rfl, w1⟩ := open_int Try.underlying3 (hval 1 3 v1 rfl rfl) h1
  obtain ⟨a2, rfl, rfl, rfl, w2⟩ := open_int Try.underlying5 (hval 2 5 v2 rfl rfl) h2
  clear hA0 hval0
  refine (walk a0 len0 cap0 z0 a1 a2 W w0 w1 w2).mono fun e W' ⟨he, bel⟩ => ?_
  subst he
  exact ⟨_, rfl, _, _, _, [], _, [], hW', trodAll_mk1 (shut_bool Try.underlying4 _), (trodAll_cons_mk (Below.trod laidOut (by kernel_rfl) (of_decide_eq_true (by kernel_rfl)) k0 bel lt0) (trodAll_cons_mk (shut_int Try.underlying3 w1) (trodAll_cons_mk (shut_int Try.underlying5 w2) trodAll_mk0))), rfl, bel.frame _, fun h => by cases h⟩

theorem over : Rows.digestOneRow.holds Try.pinned (OpenSpec.ofChange Rows.digestOneSpec) :=
  OpenClaim.holds_of_wide 6 Try.f6 rfl rfl rfl rfl rfl rfl rfl ⟨rfl, rfl, rfl, rfl, rfl⟩ rfl rfl rfl rfl rfl (by kernel_rfl) Try.func6 (by kernel_rfl)
    (of_decide_eq_true (by kernel_rfl)) (by unfold Func.isWrapper; first | (rw [if_pos (by decide +kernel)]; kernel_rfl) | (rw [if_neg (by decide +kernel)]; exact ⟨rfl, rfl⟩))
    (fun os started H enc _ => lifted os started H enc)

theorem proved : Rows.DigestOneSaid := over
#print axioms proved
end Go.Proofs.Ytjjdlmdijmlagaa.digestOne
