/-
  HitNone: without cores Low pays each row's least cost; a core with a term of no values is hit by anything. Conditions: strconv's table starts as the program's text lays it (the card ties it).
-/
import Derived.Test.YtmfdpdnokiidlaaDoorRows
import Derived.Test.YtmfdpdnokiidlaaDoorHBase
import Derived.Deep.LoopGhost
import Derived.Test.YtmfdpdnokiidlaaDoorCards
import Derived.Test.YtmfdpdnokiidlaaDoorTie
import Derived.Test.YtmfdpdnokiidlaaDoorTab
import Derived.LaidMore
import Derived.MakeChecks
import Derived.SevenTiedAt
import Derived.Stop.Joined
import Derived.WalkKit
import Derived.ProofKit
import Derived.OpenShut
import Derived.ShutString
import Derived.ChangeOld
import Derived.Below
namespace Go.Proofs.YtmfdpdnokiidlaaDoor.hitNone
open Go.ChangeShapes Go.WideShapes Go.ChangeAt Go.RowKit
open Go.ChangeMaps (open_string shut_string)
set_option linter.unusedVariables false

theorem own : ownKnob Tryd.prog.godebug = none := by kernel_rfl
theorem laidOut : laidOutB Tryd.prog = true := by kernel_rfl

def IsRow (k : IntKind) (w : World) (a : Option Addr) (len cap : Nat) (zs : List Int) : Prop :=
  (a = none ∧ len = 0 ∧ cap = 0 ∧ zs = []) ∨
  ∃ x, a = some x ∧ len ≤ cap ∧ cap ≤ maxLen ∧ zs.length = cap ∧ (∀ i, i < zs.length → w.cell? (x.add i) = some (.int k (zs.getD i 0))) ∧ ∀ n ∈ zs, (Lit.int k n).wf = true

set_option maxHeartbeats 8000000 in
set_option maxRecDepth 8192 in
theorem walk (a0 : Option Addr) (len0 cap0 : Nat) (z0 : List Int) (a1 : Int) (w : World) (w0 : IsRow .i64 w a0 len0 cap0 z0) (w1 : (Lit.int .i64 a1).wf = true) (hT : Tab w) :
    Calls Tryd.prog 8 #[.slice a0 len0 cap0, .int .i64 a1] w fun e w' => e = .returned (.bool true) ∧ Below w.heap.size w w' := by
  have HTAB := Lib.hid (fun (W : World) (hb : Below w.heap.size w W) => tab_below hT hb)
  clear hT
  by_cases hlen : 60 < len0
  · have i1 : (60 : Int) < (len0 : Int) := by omega
    have ca := awake_any w (HTAB.out w (Below.refl _ _))
    clear w0
    go_enter Tryd.func8, Tryd.ntmps8
    go_wp2_with fail
    refine ca.mono ?_
    rintro e w1 ⟨rfl, hb1⟩
    go_wp2_with fail
    go_ret
    exact ⟨rfl, hb1⟩
  · have i1 : ¬ (60 : Int) < (len0 : Int) := by omega
    obtain ⟨l, hl, hrd, hml, hwf⟩ := arg_ints w0
    have ct := table_ret a0 cap0 len0 l w hrd hl hml hwf
    have hb1 := bounds_i64 w1
    have hTok := @tab_ok l
    have hTn := (tableP_ok l).1
    clear w0 w1 hrd hwf
    generalize tableP l = T at *
    clear hl hml
    have HTO := Lib.hid hTok
    clear hTok
    go_enter Tryd.func8, Tryd.ntmps8
    go_wp2_with fail
    refine ct.mono ?_
    rintro e w1 ⟨⟨A', c', rfl, hc', hrT⟩, hb2⟩
    have HRT := Lib.hid hrT
    have HNE := Lib.hid (tab_ne HTO.out)
    have cl := low_any A' none c' 0 w1.heap.size T [] w1 hrT (rdKK_nil _ _) (Nat.le_refl _) (by omega) HTO.out (fun k hk => by simp at hk) (by simp) (HTAB.out w1 hb2)
    rw [none_law SRT_mem HNE.out (cores := []) (fun c hc => by simp at hc)] at cl
    clear ct hrT
    generalize hN : T.length = N at *
    have HN := Lib.hid hN
    clear hN
    have hml2 : (T.map minR).length = N := by rw [List.length_map, HN.out]
    go_wp2_with fail
    refine cl.mono ?_
    rintro e w2 ⟨⟨g, cap, rfl, hcap, hrd2⟩, hb3⟩
    have hb3w := hb2.trans (hb3.mono hb2.size)
    have HRT2 := Lib.hid (rdT_below HRT.out hb3)
    have HRL := Lib.hid hrd2
    rw [hml2] at hcap
    rw [hml2]
    have HML := Lib.hid hml2
    clear cl hrd2 hml2
    have hz3 := hb3.size
    go_wp2_with fail
    go_loopg [9, 10, 11, 12] N (fun k2 s9 s10 _ _ wr => ∃ k : Nat, k + k2 = N ∧ s9 = .int .i64 (totK T k) ∧ s10 = .int .i64 k ∧ w2 = wr)
    case atStart => exact ⟨0, by omega, rfl, rfl, rfl⟩
    case round =>
      obtain ⟨k, hk, rfl, rfl, rfl⟩ := hrel
      by_cases hlt : k < N
      · have i2 : (k : Int) < (N : Int) := by omega
        have hlc : k < T.length := by rw [HN.out]; exact hlt
        have hxk : T[k]? = some T[k] := List.getElem?_eq_getElem hlc
        have hmem := List.getElem_mem hlc
        generalize T[k] = row at *
        obtain ⟨b, off, Ai, ci, rfl, hb, hcell, hci, hri⟩ := rdT_at HRT2.out hxk
        obtain ⟨hr0, hr5⟩ := (HTO.out row hmem).1
        obtain ⟨bi, oi, rfl, hbi, hc0⟩ := rdI_at hri (k := 0) hr0
        have HRI := Lib.hid hri
        have HMN := Lib.hid (fun (v : Nat) (h0 : 0 < v) => (HTO.out row hmem).2 _ (min_in (row := row) (v := v) h0 hr0))
        have HTS := Lib.hid (totK_succ hxk)
        have htb := totK_bd HTO.out k (by omega)
        obtain ⟨bl, ol, el, hbl, hcl⟩ := rdI_at HRL.out (k := k) (by rw [HML.out]; exact hlt)
        cases el
        have ee : (T.map minR).getD k 0 = minR row := by rw [List.getD_eq_getElem?_getD, List.getElem?_map, hxk]; rfl
        rw [ee, Nat.zero_add] at hcl
        have hmb := min_bd HTO.out hmem
        have HM1 := Lib.hid (min_one (row := row) hr0)
        have HMT := Lib.hid (fun (v : Nat) (h0 : 0 < v) (hv : v < row.length) => min_take (row := row) h0 hv)
        have HME := Lib.hid (show minR (row.take row.length) = minR row by rw [List.take_length])
        rw [← HM1.out, Nat.add_zero] at hc0
        have i0 : (0 : Int) < (row.length : Int) := by omega
        clear hxk hmem hlc hri ee
        generalize hrl : row.length = rl at *
        have HRLN := Lib.hid hrl
        clear hrl
        go_wp2_with fail
        go_loopg [11, 12] (rl - 1) (fun k3 s11 s12 w3 => ∃ v : Nat, 0 < v ∧ v + k3 = rl ∧ s11 = .int .i64 (minR (row.take v)) ∧ s12 = .int .i64 v ∧ w2 = w3)
        case atStart => exact ⟨1, by omega, by omega, rfl, rfl, rfl⟩
        case round =>
          obtain ⟨v, hv0, hv, rfl, rfl, rfl⟩ := hrel
          by_cases hvl : v < rl
          · have i3 : (v : Int) < (rl : Int) := by omega
            obtain ⟨b2, o2, e2, _, hcv⟩ := rdI_at HRI.out (k := v) (by rw [HRLN.out]; exact hvl)
            cases e2
            have hmt := HMT.out v hv0 hvl
            have HMV := Lib.hid hmt
            clear hmt
            generalize row.getD v 0 = rv at *
            generalize minR (row.take v) = mv at *
            go_wp2_with fail
            go_roundg (rl - (v + 1))
            case rel => exact ⟨v + 1, by omega, by omega, by rw [HMV.out], by go_num, rfl⟩
            case measure => omega
          · obtain rfl : v = rl := by omega
            rw [HME.out]
            generalize minR row = mr at *
            go_wp2_with fail
            go_roundg (N - (k + 1))
            case rel => exact ⟨k + 1, by omega, by rw [HTS.out], by go_num, rfl⟩
            case measure => omega
      · obtain rfl : k = N := by omega
        have cp := place_any a1 k w2 (by omega) (by omega) hb1.1 hb1.2
        have hpl := place_lt a1 (n := k) (by omega)
        have htk : totK T k = (T.map minR).sum := by unfold totK; rw [← HN.out, List.take_length]
        rw [htk]
        generalize placeN a1 k = pl at *
        generalize hSS : (T.map minR).sum = S at *
        have HSS := Lib.hid hSS
        clear hSS
        go_wp2_with fail
        refine cp.mono ?_
        rintro e w3 ⟨rfl, rfl⟩
        have hL := loc_new (loc_start w2) w2.heap.size [.int .i64 1, .int .i64 0, .int .i64 (pl : Nat), .int .i64 32] 3
        clear cp htk
        go_wp2_with fail
        generalize hW : World.alloc _ _ = W4
        have hb4 : Below w2.heap.size w2 W4 := by rw [← hW]; exact box_below _ _
        have hL4 : Loc w2 W4 [(w2.heap.size, [.int .i64 1, .int .i64 0, .int .i64 (pl : Nat), .int .i64 32])] := by rw [← hW]; exact hL
        clear hW hL
        have cc := cores_any (some ⟨w2.heap.size, 0, none⟩) 4 [1, 0, (pl : Int), 32] k ⟨by omega, by omega⟩ W4 (rdI_cells (l := [1, 0, (pl : Int), 32]) (loc_own hL4 0 rfl).1 (loc_lt hL4 0 rfl)) (by unfold maxLen; simp) (by
          intro z hz
          simp only [List.mem_cons, List.not_mem_nil, or_false] at hz
          rcases hz with rfl | rfl | rfl | rfl
          · exact WalkArith.wf_i64 (by omega)
          · exact WalkArith.wf_i64 (by omega)
          · exact WalkArith.wf_i64 (by omega)
          · exact WalkArith.wf_i64 (by omega))
        rw [none_cores pl k hpl] at cc
        refine cc.mono ?_
        rintro e w5 ⟨⟨A5, c5, rfl, hc5, hrK⟩, hb5⟩
        have hb5w : Below w2.heap.size w2 w5 := hb4.trans (hb5.mono hb4.size)
        have hbw5 := hb3w.trans (hb5w.mono hb3w.size)
        have hz5 := hb5w.size
        have cl := low_any A' A5 c' c5 w5.heap.size T [[⟨pl, 0⟩]] w5 (rdT_more (rdT_below HRT2.out (hb5w.mono hz3)) (Nat.le_trans hz3 hz5)) hrK (Nat.le_refl _) (by rw [HN.out]; omega) HTO.out
          (fun q hq => by simp at hq; subst hq; exact ⟨fun x hx => by simp at hx; subst hx; exact ⟨by show pl ≤ 1000000; omega, by show 0 < 32; omega⟩, by simp⟩) (by simp) (HTAB.out w5 hbw5)
        rw [none_law SRT_mem HNE.out (cores := [[⟨pl, 0⟩]]) (fun q hq => by simp at hq; subst hq; exact empty_hit HNE.out (by rw [HN.out]; exact hpl))] at cl
        have hmm : ([[⟨pl, 0⟩]] : List (List Tm)).length = 1 := rfl
        rw [hmm, HN.out, HSS.out] at cl
        rw [hmm]
        have cw := fun (W : World) (hb : Below w.heap.size w W) => awake_any W (HTAB.out W hb)
        clear cc
        go_wp2_with fail
        refine cl.mono ?_
        rintro e w6 ⟨⟨g2, cap2, rfl, hcap2, hrd6⟩, hb6⟩
        have hbw6 := hbw5.trans (hb6.mono hbw5.size)
        clear cl hrd6
        go_wp2_with fail
        refine (cw _ hbw6).mono ?_
        rintro e w7 ⟨rfl, hb7⟩
        go_wp2_with fail
        go_ret
        exact ⟨rfl, hbw6.trans (hb7.mono hbw6.size)⟩

set_option maxRecDepth 100000 in
theorem lifted (os : Os) (started : os.Started) (H : Type) (enc : TypeId × Value → H) :
    ReturnsInHanded {} Tryd.checked os 8 .any (fun w args => (Rows.hitNoneSpec.pre enc Tryd.prog Tryd.f8 [] false w args ∧ laidMetH Tryd.prog Rows.hitNoneRow.laid w) ∧ sizedMet enc Tryd.prog Tryd.f8 (OpenSpec.ofChange Rows.hitNoneSpec) false w args) (Rows.hitNoneSpec.post enc Tryd.prog Tryd.f8 false true false false) := by
  refine returnsInHanded_of_change_and (C := Tryd.checked) (X := fun w _ => laidMetH Tryd.prog Rows.hitNoneRow.laid w) (fun _ _ _ hh h => h.of_heap hh) own started (by kernel_rfl) Tryd.func8
    (ChangeSpec.witness_shaped (enc := enc) (C := Tryd.checked) (os := os) (X := fun w _ => laidMetH Tryd.prog Rows.hitNoneRow.laid w) false (World.doorLaid Tryd.prog 400 os) #[.slice none 0 0, .int .i64 0] 8 rfl (World.shaped_of_RefB (by kernel_rfl) (by kernel_rfl)) (by kernel_rfl) (by kernel_rfl) (by kernel_rfl)
      (laidMetH_of_parts3 (fuel := 8) (laidMet_of_run' 8 (by kernel_rfl) (by kernel_rfl)) (by kernel_rfl) (by kernel_rfl))) ?_
  intro W base args ds gs before hval0 hW _ _ hL _
  have hval : ∀ (j : Nat) t v, Tryd.f8.params[j]? = some t → args[j]? = some v → Value.okWide Tryd.prog W .any base t v := hval0
  have hW' := hW
  obtain ⟨p, q, hA0, hV, rfl, hfz, hnd⟩ := hW
  have hA : DataW.TrodAll enc Tryd.prog W 0 (fun _ => true) true Tryd.f8.params.toList args.toList ds p := hA0
  rw [Tryd.params8] at hA hval
  obtain ⟨v0, vs0, d0, ds0, p0, q0, hargs, rfl, rfl, h0, r0⟩ := trodAll_cons hA
  obtain ⟨v1, vs1, d1, ds1, p1, q1, rfl, rfl, rfl, h1, r1⟩ := trodAll_cons r0
  obtain ⟨rfl, rfl, rfl⟩ := trodAll_nil r1
  obtain rfl : args = #[v0, v1] := by cases args; simp_all
  obtain ⟨rfl, rfl⟩ := trodVars_none hV
  obtain ⟨a0, len0, cap0, rfl⟩ := okWide_slice Tryd.underlying22 (hval 0 22 v0 rfl rfl)
  have k0 := h0
  have lt0 : ∀ x ∈ p0, x.block < W.heap.size := by obtain ⟨m, hm⟩ := k0; exact DataW.trod_lt m _ _ _ hm
  obtain ⟨z0, w0⟩ : ∃ zs, IsRow .i64 W a0 len0 cap0 zs := by
    obtain ⟨fuel, hf⟩ := h0
    rcases open_ints Tryd.underlying22 Tryd.underlying3 (by kernel_rfl) hf with ⟨hcs, _⟩ | ⟨x, l, c, zs, hcs, _, hl, hm, hz, _, hcell, hwz⟩
    · simp [Value.cells] at hcs
      obtain ⟨rfl, rfl, rfl⟩ := hcs
      exact ⟨[], .inl ⟨rfl, rfl, rfl, rfl⟩⟩
    · simp [Value.cells] at hcs
      obtain ⟨rfl, rfl, rfl⟩ := hcs
      exact ⟨zs, .inr ⟨_, rfl, hl, hm, by simpa using hz, hcell, hwz⟩⟩
  obtain ⟨a1, rfl, rfl, rfl, w1⟩ := open_int Tryd.underlying3 (hval 1 3 v1 rfl rfl) h1
  clear hA0 hval0
  refine (walk a0 len0 cap0 z0 a1 W w0 w1 (tab_of hL (by kernel_rfl) (MakeChecks.laidMetH_plain _ _ _ (by kernel_rfl)))).mono fun e W' ⟨he, bel⟩ => ?_
  subst he
  exact ⟨_, rfl, _, _, _, [], _, [], hW', trodAll_mk1 (shut_bool Tryd.underlying4 _), (trodAll_cons_mk (Below.trod laidOut (by kernel_rfl) (of_decide_eq_true (by kernel_rfl)) k0 bel lt0) (trodAll_cons_mk (shut_int Tryd.underlying3 w1) trodAll_mk0)), rfl, bel.frame _, fun h => by cases h⟩

theorem over : Rows.hitNoneRow.holds Tryd.pinned (OpenSpec.ofChange Rows.hitNoneSpec) :=
  OpenClaim.holds_of_wide 8 Tryd.f8 rfl rfl rfl rfl rfl rfl rfl ⟨rfl, rfl, rfl, rfl, rfl⟩ rfl rfl rfl rfl rfl (by kernel_rfl) Tryd.func8 (by kernel_rfl)
    (of_decide_eq_true (by kernel_rfl)) (by unfold Func.isWrapper; first | (rw [if_pos (by decide +kernel)]; kernel_rfl) | (rw [if_neg (by decide +kernel)]; exact ⟨rfl, rfl⟩))
    (fun os started H enc _ => lifted os started H enc)

theorem proved : Rows.HitNoneSaid := over
theorem plain (f : FuncId) (fn : Func) (hf : Tryd.pinned.checked.prog.funcNamed "linchpin/linchpinlaw36.HitNone" = some f) (hfn : Tryd.pinned.checked.prog.funcs[f]? = some fn) :
    false = Tryd.pinned.checked.prog.looks [] ∧ ∀ (j : Nat) t, fn.params[j]? = some t → Tryd.pinned.checked.prog.wantsStandIn t = false := by
  obtain rfl : f = 8 := Option.some.inj ((show Tryd.prog.funcNamed "linchpin/linchpinlaw36.HitNone" = some 8 by kernel_rfl).symm.trans hf) |>.symm
  obtain rfl : fn = Tryd.f8 := (Option.some.inj (Tryd.func8.symm.trans hfn)).symm
  refine ⟨by kernel_rfl, fun j t ht => ?_⟩
  rw [Tryd.params8] at ht
  have hm : t ∈ [22, 3] := by simpa using Array.mem_of_getElem? ht
  have hall : ([22, 3].all fun u => !Tryd.prog.wantsStandIn u) = true := by kernel_rfl
  exact (show Tryd.prog.wantsStandIn t = false by simpa using List.all_eq_true.1 hall t hm)

theorem card : Rows.HitNoneCardSaid :=
  Claim7.holds_tied_plain_at .later [] _ _ _ _ proved (fun _ h => by cases h) (by kernel_rfl) (fun _ h => by cases h) hitNone_row_tie rfl ⟨rfl, rfl⟩ (by kernel_rfl) rfl plain (by kernel_rfl)
#print axioms card
end Go.Proofs.YtmfdpdnokiidlaaDoor.hitNone
