/-
  HitLow: Low and the reference that searches by levels tell the same cost and the same limit. Conditions: strconv's table starts as the program's text lays it (the card ties it).
-/
import Derived.Test.YtmfdpdnokiidlaaDoorRows
import Derived.Test.YtmfdpdnokiidlaaDoorHRLow
import Derived.Deep.LoopGhost
import Derived.Test.YtmfdpdnokiidlaaDoorCards
import Derived.Test.YtmfdpdnokiidlaaDoorTie
import Derived.Test.YtmfdpdnokiidlaaDoorTab
import Derived.LaidMore
import Derived.MakeChecks
import Derived.SevenTiedAt
import Derived.Stop.Joined
import Derived.WalkKit
import Derived.ProofKit
import Derived.OpenShut
import Derived.ShutString
import Derived.ChangeOld
import Derived.Below
namespace Go.Proofs.YtmfdpdnokiidlaaDoor.hitLow
open Go.ChangeShapes Go.WideShapes Go.ChangeAt Go.RowKit
open Go.ChangeMaps (open_string shut_string)
set_option linter.unusedVariables false

theorem own : ownKnob Tryd.prog.godebug = none := by kernel_rfl
theorem laidOut : laidOutB Tryd.prog = true := by kernel_rfl

def IsRow (k : IntKind) (w : World) (a : Option Addr) (len cap : Nat) (zs : List Int) : Prop :=
  (a = none ∧ len = 0 ∧ cap = 0 ∧ zs = []) ∨
  ∃ x, a = some x ∧ len ≤ cap ∧ cap ≤ maxLen ∧ zs.length = cap ∧ (∀ i, i < zs.length → w.cell? (x.add i) = some (.int k (zs.getD i 0))) ∧ ∀ n ∈ zs, (Lit.int k n).wf = true

set_option maxHeartbeats 8000000 in
set_option maxRecDepth 8192 in
theorem walk (a0 : Option Addr) (len0 cap0 : Nat) (z0 : List Int) (a1 : Option Addr) (len1 cap1 : Nat) (z1 : List Int) (w : World) (w0 : IsRow .i64 w a0 len0 cap0 z0) (w1 : IsRow .i64 w a1 len1 cap1 z1) (hT : Tab w) :
    Calls Tryd.prog 3 #[.slice a0 len0 cap0, .slice a1 len1 cap1] w fun e w' => e = .returned (.bool true) ∧ Below w.heap.size w w' := by
  have HTAB := Lib.hid (fun (W : World) (hb : Below w.heap.size w W) => tab_below hT hb)
  clear hT
  by_cases hlen : 60 < len0 ∨ 60 < len1
  · have ca := awake_any w (HTAB.out w (Below.refl _ _))
    clear w0 w1
    by_cases h0 : 60 < len0
    · have i0 : (60 : Int) < (len0 : Int) := by omega
      go_enter Tryd.func3, Tryd.ntmps3
      go_wp2_with fail
      refine ca.mono ?_
      rintro e w1 ⟨rfl, hb1⟩
      go_wp2_with fail
      go_ret
      exact ⟨rfl, hb1⟩
    · have i0 : ¬ (60 : Int) < (len0 : Int) := by omega
      have i1 : (60 : Int) < (len1 : Int) := by omega
      go_enter Tryd.func3, Tryd.ntmps3
      go_wp2_with fail
      refine ca.mono ?_
      rintro e w1 ⟨rfl, hb1⟩
      go_wp2_with fail
      go_ret
      exact ⟨rfl, hb1⟩
  · have i0 : ¬ (60 : Int) < (len0 : Int) := by omega
    have i1 : ¬ (60 : Int) < (len1 : Int) := by omega
    obtain ⟨l0, hl0, hrd0, hml0, hwf0⟩ := arg_ints w0
    obtain ⟨l1, hl1, hrd1, hml1, hwf1⟩ := arg_ints w1
    have ct := table_ret a0 cap0 len0 l0 w hrd0 hl0 hml0 hwf0
    have hTok := @tab_ok l0
    have hTn := (tableP_ok l0).1
    clear w0 w1 hrd0 hwf0
    have HR1 := Lib.hid hrd1
    have HW1 := Lib.hid hwf1
    have HL1 := Lib.hid hl1
    clear hl0 hml0 hrd1 hwf1 hl1
    generalize tableP l0 = T at *
    have HTO := Lib.hid hTok
    clear hTok
    generalize hN : T.length = N at *
    have HN := Lib.hid hN
    clear hN
    go_enter Tryd.func3, Tryd.ntmps3
    go_wp2_with fail
    refine ct.mono ?_
    rintro e w1 ⟨⟨A', c', rfl, hc', hrT⟩, hb1⟩
    have HRT := Lib.hid hrT
    have cc := cores_any a1 cap1 l1 N ⟨by omega, by omega⟩ w1 (rdI_more (rdI_below HR1.out hb1) hb1.size) (by rw [HL1.out]; exact hml1) HW1.out
    rw [HL1.out] at cc
    have hk1 := coresP_ok l1 (rows := N) (by omega)
    generalize coresP l1 N = K at *
    clear ct hrT
    go_wp2_with fail
    refine cc.mono ?_
    rintro e w2 ⟨⟨Ak, ck, rfl, hck, hrK⟩, hb2⟩
    have hb2w := hb1.trans (hb2.mono hb1.size)
    have hRT2 := rdT_more (rdT_below HRT.out hb2) hb2.size
    have hml : K.length ≤ 5 := hk1.1
    have cl1 := low_any A' Ak c' ck w2.heap.size T K w2 hRT2 hrK (Nat.le_refl _) (by rw [HN.out]; omega) HTO.out (fun k hk => ⟨fun x hx => by have := (hk1.2 k hk).2 x hx; omega, by have := (hk1.2 k hk).1; omega⟩) (by omega) (HTAB.out w2 hb2w)
    have CR := Lib.hid (fun (W : World) (hb : Below w2.heap.size w2 W) => rLow_any A' Ak c' ck w2.heap.size T K W (rdT_below hRT2 hb) (rdKK_below hrK hb) hb.size HTO.out (by rw [HN.out]; omega) (fun k hk => ⟨fun x hx => by have := (hk1.2 k hk).2 x hx; omega, by have := (hk1.2 k hk).1; omega⟩) (by omega))
    rw [HN.out] at CR
    rw [HN.out] at cl1
    rw [← low_same SRT_mem (fun r hr => ⟨tab_ne HTO.out r hr, fun x hx => ((HTO.out r hr).2 x hx).1⟩) K] at CR
    have hlen : ∀ n L, lowP SRT T K = some (n, L) → L.length = N := fun n L h => by rw [← HN.out]; exact (told_ok SRT_mem (tab_ne HTO.out) h).1
    generalize hm1 : K.length = m1 at *
    generalize lowP SRT T K = o at *
    clear hm1 cc hRT2 hrK hk1
    have CW := Lib.hid (fun (W : World) (hb : Below w.heap.size w W) => awake_any W (HTAB.out W hb))
    cases o with
    | none =>
      clear hlen
      go_wp2_with fail
      refine cl1.mono ?_
      rintro e w3 ⟨rfl, hb3⟩
      have hb3w := hb2w.trans (hb3.mono hb2w.size)
      clear cl1
      go_wp2_with fail
      refine (CR.out w3 hb3).mono ?_
      rintro e w4 ⟨rfl, hb4⟩
      have hb4w := hb3w.trans (hb4.mono hb3w.size)
      have cs := same_any none none 0 0 w4.heap.size [] [] w4 ⟨rfl, fun h => absurd h (by decide)⟩ ⟨rfl, fun h => absurd h (by decide)⟩ (Nat.le_refl _) (by decide)
      rw [decide_eq_true rfl] at cs
      go_wp2_with fail
      refine cs.mono ?_
      rintro e w5 ⟨rfl, hb5⟩
      have hb5w := hb4w.trans (hb5.mono hb4w.size)
      go_wp2_with fail
      refine (CW.out _ hb5w).mono ?_
      rintro e w9 ⟨rfl, hb9⟩
      go_wp2_with fail
      go_ret
      exact ⟨rfl, hb5w.trans (hb9.mono hb5w.size)⟩
    | some nl =>
      obtain ⟨n, L⟩ := nl
      have hLL : L.length = N := hlen n L rfl
      have HLL := Lib.hid hLL
      clear hlen hLL
      go_wp2_with fail
      refine cl1.mono ?_
      rintro e w3 ⟨⟨g, cap, rfl, hcap, hrdL⟩, hb3⟩
      have hb3w := hb2w.trans (hb3.mono hb2w.size)
      have HRD := Lib.hid hrdL
      clear cl1 hrdL
      go_wp2_with fail
      refine (CR.out w3 hb3).mono ?_
      rintro e w4 ⟨⟨g2, off, cap2, rfl, hrd2⟩, hb4⟩
      have hb4w := hb3w.trans (hb4.mono hb3w.size)
      have hz4 := hb4.size
      have cs := same_any (some ⟨g, 0, none⟩) (some ⟨g2, off, none⟩) cap cap2 w4.heap.size L L w4 (rdI_more (rdI_below HRD.out hb4) hz4) hrd2 (Nat.le_refl _) (by rw [HLL.out]; omega)
      rw [decide_eq_true rfl] at cs
      clear hrd2
      generalize L.length = Ln at *
      go_wp2_with fail
      refine cs.mono ?_
      rintro e w5 ⟨rfl, hb5⟩
      have hb5w := hb4w.trans (hb5.mono hb4w.size)
      go_wp2_with fail
      refine (CW.out _ hb5w).mono ?_
      rintro e w9 ⟨rfl, hb9⟩
      go_wp2_with fail
      go_ret
      exact ⟨rfl, hb5w.trans (hb9.mono hb5w.size)⟩

set_option maxRecDepth 100000 in
theorem lifted (os : Os) (started : os.Started) (H : Type) (enc : TypeId × Value → H) :
    ReturnsInHanded {} Tryd.checked os 3 .any (fun w args => (Rows.hitLowSpec.pre enc Tryd.prog Tryd.f3 [] false w args ∧ laidMetH Tryd.prog Rows.hitLowRow.laid w) ∧ sizedMet enc Tryd.prog Tryd.f3 (OpenSpec.ofChange Rows.hitLowSpec) false w args) (Rows.hitLowSpec.post enc Tryd.prog Tryd.f3 false true false false) := by
  refine returnsInHanded_of_change_and (C := Tryd.checked) (X := fun w _ => laidMetH Tryd.prog Rows.hitLowRow.laid w) (fun _ _ _ hh h => h.of_heap hh) own started (by kernel_rfl) Tryd.func3
    (ChangeSpec.witness_shaped (enc := enc) (C := Tryd.checked) (os := os) (X := fun w _ => laidMetH Tryd.prog Rows.hitLowRow.laid w) false (World.doorLaid Tryd.prog 400 os) #[.slice none 0 0, .slice none 0 0] 8 rfl (World.shaped_of_RefB (by kernel_rfl) (by kernel_rfl)) (by kernel_rfl) (by kernel_rfl) (by kernel_rfl)
      (laidMetH_of_parts3 (fuel := 8) (laidMet_of_run' 8 (by kernel_rfl) (by kernel_rfl)) (by kernel_rfl) (by kernel_rfl))) ?_
  intro W base args ds gs before hval0 hW _ _ hL _
  have hval : ∀ (j : Nat) t v, Tryd.f3.params[j]? = some t → args[j]? = some v → Value.okWide Tryd.prog W .any base t v := hval0
  have hW' := hW
  obtain ⟨p, q, hA0, hV, rfl, hfz, hnd⟩ := hW
  have hA : DataW.TrodAll enc Tryd.prog W 0 (fun _ => true) true Tryd.f3.params.toList args.toList ds p := hA0
  rw [Tryd.params3] at hA hval
  obtain ⟨v0, vs0, d0, ds0, p0, q0, hargs, rfl, rfl, h0, r0⟩ := trodAll_cons hA
  obtain ⟨v1, vs1, d1, ds1, p1, q1, rfl, rfl, rfl, h1, r1⟩ := trodAll_cons r0
  obtain ⟨rfl, rfl, rfl⟩ := trodAll_nil r1
  obtain rfl : args = #[v0, v1] := by cases args; simp_all
  obtain ⟨rfl, rfl⟩ := trodVars_none hV
  obtain ⟨a0, len0, cap0, rfl⟩ := okWide_slice Tryd.underlying22 (hval 0 22 v0 rfl rfl)
  have k0 := h0
  have lt0 : ∀ x ∈ p0, x.block < W.heap.size := by obtain ⟨m, hm⟩ := k0; exact DataW.trod_lt m _ _ _ hm
  obtain ⟨z0, w0⟩ : ∃ zs, IsRow .i64 W a0 len0 cap0 zs := by
    obtain ⟨fuel, hf⟩ := h0
    rcases open_ints Tryd.underlying22 Tryd.underlying3 (by kernel_rfl) hf with ⟨hcs, _⟩ | ⟨x, l, c, zs, hcs, _, hl, hm, hz, _, hcell, hwz⟩
    · simp [Value.cells] at hcs
      obtain ⟨rfl, rfl, rfl⟩ := hcs
      exact ⟨[], .inl ⟨rfl, rfl, rfl, rfl⟩⟩
    · simp [Value.cells] at hcs
      obtain ⟨rfl, rfl, rfl⟩ := hcs
      exact ⟨zs, .inr ⟨_, rfl, hl, hm, by simpa using hz, hcell, hwz⟩⟩
  obtain ⟨a1, len1, cap1, rfl⟩ := okWide_slice Tryd.underlying22 (hval 1 22 v1 rfl rfl)
  have k1 := h1
  have lt1 : ∀ x ∈ p1, x.block < W.heap.size := by obtain ⟨m, hm⟩ := k1; exact DataW.trod_lt m _ _ _ hm
  obtain ⟨z1, w1⟩ : ∃ zs, IsRow .i64 W a1 len1 cap1 zs := by
    obtain ⟨fuel, hf⟩ := h1
    rcases open_ints Tryd.underlying22 Tryd.underlying3 (by kernel_rfl) hf with ⟨hcs, _⟩ | ⟨x, l, c, zs, hcs, _, hl, hm, hz, _, hcell, hwz⟩
    · simp [Value.cells] at hcs
      obtain ⟨rfl, rfl, rfl⟩ := hcs
      exact ⟨[], .inl ⟨rfl, rfl, rfl, rfl⟩⟩
    · simp [Value.cells] at hcs
      obtain ⟨rfl, rfl, rfl⟩ := hcs
      exact ⟨zs, .inr ⟨_, rfl, hl, hm, by simpa using hz, hcell, hwz⟩⟩
  clear hA0 hval0
  refine (walk a0 len0 cap0 z0 a1 len1 cap1 z1 W w0 w1 (tab_of hL (by kernel_rfl) (MakeChecks.laidMetH_plain _ _ _ (by kernel_rfl)))).mono fun e W' ⟨he, bel⟩ => ?_
  subst he
  exact ⟨_, rfl, _, _, _, [], _, [], hW', trodAll_mk1 (shut_bool Tryd.underlying4 _), (trodAll_cons_mk (Below.trod laidOut (by kernel_rfl) (of_decide_eq_true (by kernel_rfl)) k0 bel lt0) (trodAll_cons_mk (Below.trod laidOut (by kernel_rfl) (of_decide_eq_true (by kernel_rfl)) k1 bel lt1) trodAll_mk0)), rfl, bel.frame _, fun h => by cases h⟩

theorem over : Rows.hitLowRow.holds Tryd.pinned (OpenSpec.ofChange Rows.hitLowSpec) :=
  OpenClaim.holds_of_wide 3 Tryd.f3 rfl rfl rfl rfl rfl rfl rfl ⟨rfl, rfl, rfl, rfl, rfl⟩ rfl rfl rfl rfl rfl (by kernel_rfl) Tryd.func3 (by kernel_rfl)
    (of_decide_eq_true (by kernel_rfl)) (by unfold Func.isWrapper; first | (rw [if_pos (by decide +kernel)]; kernel_rfl) | (rw [if_neg (by decide +kernel)]; exact ⟨rfl, rfl⟩))
    (fun os started H enc _ => lifted os started H enc)

theorem proved : Rows.HitLowSaid := over
theorem plain (f : FuncId) (fn : Func) (hf : Tryd.pinned.checked.prog.funcNamed "linchpin/linchpinlaw36.HitLow" = some f) (hfn : Tryd.pinned.checked.prog.funcs[f]? = some fn) :
    false = Tryd.pinned.checked.prog.looks [] ∧ ∀ (j : Nat) t, fn.params[j]? = some t → Tryd.pinned.checked.prog.wantsStandIn t = false := by
  obtain rfl : f = 3 := Option.some.inj ((show Tryd.prog.funcNamed "linchpin/linchpinlaw36.HitLow" = some 3 by kernel_rfl).symm.trans hf) |>.symm
  obtain rfl : fn = Tryd.f3 := (Option.some.inj (Tryd.func3.symm.trans hfn)).symm
  refine ⟨by kernel_rfl, fun j t ht => ?_⟩
  rw [Tryd.params3] at ht
  have hm : t ∈ [22, 22] := by simpa using Array.mem_of_getElem? ht
  have hall : ([22, 22].all fun u => !Tryd.prog.wantsStandIn u) = true := by kernel_rfl
  exact (show Tryd.prog.wantsStandIn t = false by simpa using List.all_eq_true.1 hall t hm)

theorem card : Rows.HitLowCardSaid :=
  Claim7.holds_tied_plain_at .later [] _ _ _ _ proved (fun _ h => by cases h) (by kernel_rfl) (fun _ h => by cases h) hitLow_row_tie rfl ⟨rfl, rfl⟩ (by kernel_rfl) rfl plain (by kernel_rfl)
#print axioms card
end Go.Proofs.YtmfdpdnokiidlaaDoor.hitLow
