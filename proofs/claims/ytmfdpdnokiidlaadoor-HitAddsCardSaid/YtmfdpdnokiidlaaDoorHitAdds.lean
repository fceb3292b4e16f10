/-
  HitAdds: one row's costs all so much more make Low so much more; all costs so many times as much, so many times. Conditions: strconv's table starts as the program's text lays it (the card ties it).
-/
import Derived.Test.YtmfdpdnokiidlaaDoorRows
import Derived.Test.YtmfdpdnokiidlaaDoorHTwo
import Derived.Deep.LoopGhost
import Derived.Deep.CutRange
import Derived.Deep.DeepCutAuto
import Derived.Test.YtmfdpdnokiidlaaDoorCards
import Derived.Test.YtmfdpdnokiidlaaDoorTie
import Derived.Test.YtmfdpdnokiidlaaDoorTab
import Derived.LaidMore
import Derived.MakeChecks
import Derived.SevenTiedAt
import Derived.Stop.Joined
import Derived.WalkKit
import Derived.ProofKit
import Derived.OpenShut
import Derived.ShutString
import Derived.ChangeOld
import Derived.Below
namespace Go.Proofs.YtmfdpdnokiidlaaDoor.hitAdds
open Go.ChangeShapes Go.WideShapes Go.ChangeAt Go.RowKit
open Go.ChangeMaps (open_string shut_string)
set_option linter.unusedVariables false

theorem own : ownKnob Tryd.prog.godebug = none := by kernel_rfl
theorem laidOut : laidOutB Tryd.prog = true := by kernel_rfl

def IsRow (k : IntKind) (w : World) (a : Option Addr) (len cap : Nat) (zs : List Int) : Prop :=
  (a = none ∧ len = 0 ∧ cap = 0 ∧ zs = []) ∨
  ∃ x, a = some x ∧ len ≤ cap ∧ cap ≤ maxLen ∧ zs.length = cap ∧ (∀ i, i < zs.length → w.cell? (x.add i) = some (.int k (zs.getD i 0))) ∧ ∀ n ∈ zs, (Lit.int k n).wf = true

set_option maxHeartbeats 16000000 in
set_option linter.unusedSimpArgs false in
set_option maxRecDepth 8192 in
theorem walk (a0 : Option Addr) (len0 cap0 : Nat) (z0 : List Int) (a1 : Option Addr) (len1 cap1 : Nat) (z1 : List Int) (a2 : Int) (a3 : Int) (a4 : Int) (w : World) (w0 : IsRow .i64 w a0 len0 cap0 z0) (w1 : IsRow .i64 w a1 len1 cap1 z1) (w2 : (Lit.int .i64 a2).wf = true) (w3 : (Lit.int .i64 a3).wf = true) (w4 : (Lit.int .i64 a4).wf = true) (hT : Tab w) :
    Calls Tryd.prog 7 #[.slice a0 len0 cap0, .slice a1 len1 cap1, .int .i64 a2, .int .i64 a3, .int .i64 a4] w fun e w' => e = .returned (.bool true) ∧ Below w.heap.size w w' := by
  have HTAB := Lib.hid (fun (W : World) (hb : Below w.heap.size w W) => tab_below hT hb)
  clear hT
  by_cases hlen : 60 < len0 ∨ 60 < len1
  · have ca := awake_any w (HTAB.out w (Below.refl _ _))
    clear w0 w1 w2 w3 w4
    by_cases h0 : 60 < len0
    · have i0 : (60 : Int) < (len0 : Int) := by omega
      go_enter Tryd.func7, Tryd.ntmps7
      go_wp2_with fail
      refine ca.mono ?_
      rintro e w1 ⟨rfl, hb1⟩
      go_wp2_with fail
      go_ret
      exact ⟨rfl, hb1⟩
    · have i0 : ¬ (60 : Int) < (len0 : Int) := by omega
      have i1 : (60 : Int) < (len1 : Int) := by omega
      go_enter Tryd.func7, Tryd.ntmps7
      go_wp2_with fail
      refine ca.mono ?_
      rintro e w1 ⟨rfl, hb1⟩
      go_wp2_with fail
      go_ret
      exact ⟨rfl, hb1⟩
  · have i0 : ¬ (60 : Int) < (len0 : Int) := by omega
    have i1 : ¬ (60 : Int) < (len1 : Int) := by omega
    obtain ⟨l0, hl0, hrd0, hml0, hwf0⟩ := arg_ints w0
    obtain ⟨l1, hl1, hrd1, hml1, hwf1⟩ := arg_ints w1
    have ct := table_ret a0 cap0 len0 l0 w hrd0 hl0 hml0 hwf0
    have hTok := (tableP_ok l0).2
    have hTn := (tableP_ok l0).1
    have hb2 := bounds_i64 w2
    have hb3 := bounds_i64 w3
    have hb4 := bounds_i64 w4
    clear w0 w1 w2 w3 w4 hrd0 hwf0
    obtain ⟨s0, hs0, hz0, hz1, hz2⟩ := info_parts info_int
    have HS := Lib.hid hs0
    have HZ := Lib.hid (And.intro hz0 (And.intro hz1 hz2))
    clear hs0 hz0 hz1 hz2
    obtain ⟨s1, hs1, hz0, hz1, hz2⟩ := info_parts info_ints
    have HS1 := Lib.hid hs1
    have HZ1 := Lib.hid (And.intro hz0 (And.intro hz1 hz2))
    clear hs1 hz0 hz1 hz2
    have HR1 := Lib.hid hrd1
    have HW1 := Lib.hid hwf1
    have HL1 := Lib.hid hl1
    clear hl0 hml0 hrd1 hwf1 hl1
    generalize tableP l0 = T at *
    have HTK := Lib.hid hTok
    have HTO := Lib.hid (show TabOk T from fun r hr => ⟨(hTok r hr).1, fun x hx => ⟨((hTok r hr).2 x hx).1, by have := ((hTok r hr).2 x hx).2; omega⟩⟩)
    clear hTok
    generalize hN : T.length = N at *
    have HN := Lib.hid hN
    clear hN
    have p2 := place_any a2 N
    have p3 := place_any a3 100
    have p4 := place_any a4 5
    have l2 := place_lt a2 (n := N) (by omega)
    have l3 := place_lt a3 (n := 100) (by omega)
    have l4 := place_lt a4 (n := 5) (by omega)
    generalize placeN a2 N = pu at *
    generalize placeN a3 100 = xx at *
    obtain ⟨kk, hkk⟩ : ∃ q, 1 + placeN a4 5 = q := ⟨_, rfl⟩
    have hkk1 : 1 ≤ kk ∧ kk ≤ 5 := by omega
    have HKK := Lib.hid hkk
    clear hkk
    generalize placeN a4 5 = k4 at *
    go_enter Tryd.func7, Tryd.ntmps7
    go_wp2_with fail
    refine ct.mono ?_
    rintro e w1 ⟨⟨A', c', rfl, hc', hrT⟩, hb1⟩
    have HRT := Lib.hid hrT
    have cc := cores_any a1 cap1 l1 N ⟨by omega, by omega⟩ w1 (rdI_more (rdI_below HR1.out hb1) hb1.size) (by rw [HL1.out]; exact hml1) HW1.out
    rw [HL1.out] at cc
    have hk1 := coresP_ok l1 (rows := N) (by omega)
    generalize coresP l1 N = K at *
    clear ct hrT
    go_wp2_with fail
    refine cc.mono ?_
    rintro e w2 ⟨⟨Ak, ck, rfl, hck, hrK⟩, hb2'⟩
    have hb2w := hb1.trans (hb2'.mono hb1.size)
    have HRT2 := Lib.hid (rdT_more (rdT_below HRT.out hb2') hb2'.size)
    have HK2 := Lib.hid hrK
    have hm5 : K.length ≤ 5 := hk1.1
    have HX := Lib.hid hk1.2
    generalize hmq : K.length = m1 at *
    have HM1 := Lib.hid hmq
    clear hmq cc hrK hk1
    go_wp2_with fail
    refine (p2 w2 (by omega) (by omega) hb2.1 hb2.2).mono ?_
    rintro e w3 ⟨rfl, rfl⟩
    go_wp2_with fail
    refine (p3 w2 (by omega) (by omega) hb3.1 hb3.2).mono ?_
    rintro e w3 ⟨rfl, rfl⟩
    go_wp2_with fail
    refine (p4 w2 (by omega) (by omega) hb4.1 hb4.2).mono ?_
    rintro e w3 ⟨rfl, rfl⟩
    clear p2 p3 p4
    have hkk2 : (1 : Int) + (k4 : Nat) = (kk : Nat) := by rw [← HKK.out]; omega
    have HKK2 := Lib.hid hkk2
    clear hkk2
    go_wp2_with fail
    rw [HKK2.out]
    go_loopg [16, 17, 18, 19, 20, 21, 22] N (fun k2 s16 s17 s18 _ _ _ _ wr => ∃ k : Nat, k + k2 = N ∧ s18 = .int .i64 k ∧ TT2 w2 wr s16 (upK (addF pu (xx : Nat)) T k) s17 (upK (mulF kk) T k))
    case atStart => exact ⟨0, by omega, rfl, ⟨[], [], AB.nil _ _, fun i r hr => by simp [upK] at hr, fun i r hr => by simp [upK] at hr⟩⟩
    case round =>
      obtain ⟨k, hk, rfl, htt⟩ := hrel
      by_cases hlt : k < N
      · have i3 : (k : Int) < (N : Int) := by omega
        have hlc : k < T.length := by rw [HN.out]; exact hlt
        have hxk : T[k]? = some T[k] := List.getElem?_eq_getElem hlc
        have hmem := List.getElem_mem hlc
        have hua := upK_len (f := addF pu (xx : Nat)) (T := T) (i := k) (by omega)
        have hub := upK_len (f := mulF kk) (T := T) (i := k) (by omega)
        generalize T[k] = row at *
        have HUA := Lib.hid (upK_succ (f := addF pu (xx : Nat)) hxk)
        have HUB := Lib.hid (upK_succ (f := mulF kk) hxk)
        obtain ⟨xa, xb, hab, hra, hrb⟩ := htt.ex
        have hbel := hab.bel
        obtain ⟨b, off, Ai, ci, rfl, hb, hcell, hci, hri⟩ := rdT_at (rdT_below HRT2.out hbel) hxk
        obtain ⟨hr0, hr5⟩ := (HTO.out row hmem).1
        obtain ⟨bi, oi, rfl, hbi, _⟩ := rdI_at hri (k := 0) hr0
        have HRI := Lib.hid hri
        have HTT := Lib.hid htt
        have hbs0 : b < wr.heap.size := by have := hbel.size; omega
        have hbis0 : bi < wr.heap.size := by have := hbel.size; omega
        have HC := Lib.hid (fun x (hx : x ∈ row) => (HTK.out row hmem).2 x hx)
        clear hxk hmem hlc hri hab hra hrb htt
        generalize hrl : row.length = rl at *
        have HRL := Lib.hid hrl
        clear hrl
        have AB0 := Lib.hid (AB.nil 3 wr)
        go_wp2_with fail
        go_loopg [19, 20, 21, 22] rl (fun k3 s19 s20 s21 _ w5 => ∃ v : Nat, v + k3 = rl ∧ s21 = .int .i64 v ∧ AB 3 wr w5 s19 v (((row.take v).map (addF pu (xx : Nat) k)).map (Value.int .i64)) s20 v (((row.take v).map (mulF kk k)).map (Value.int .i64)))
        case atStart => exact ⟨0, by omega, rfl, AB0.out⟩
        case round =>
          obtain ⟨v, hv, rfl, hab⟩ := hrel
          have hw5 := hab.bel.size
          have q0 := (hab.bel.cell (p := ⟨b, off + k, none⟩) hbs0).trans hcell
          by_cases hvl : v < rl
          · have i5 : (v : Int) < (rl : Int) := by omega
            obtain ⟨b2, o2, e2, _, r0⟩ := rdI_at HRI.out (k := v) (by rw [HRL.out]; exact hvl)
            cases e2
            have r0 := (hab.bel.cell (p := ⟨bi, oi + v, none⟩) hbis0).trans r0
            have hcb := HC.out (row.getD v 0) (by rw [List.getD_eq_getElem?_getD, List.getElem?_eq_getElem (show v < row.length by rw [HRL.out]; exact hvl)]; exact List.getElem_mem _)
            have HTA := Lib.hid (map_take (f := addF pu (xx : Nat) k) (row := row) (v := v) (by rw [HRL.out]; exact hvl))
            have HTB := Lib.hid (map_take (f := mulF kk k) (row := row) (v := v) (by rw [HRL.out]; exact hvl))
            obtain ⟨Aa, ca, rfl, hca⟩ := own_slice hab.oa
            obtain ⟨Ab, cb, rfl, hcb2⟩ := own_slice hab.ob
            have HAB := Lib.hid hab
            clear hab
            generalize row.getD v 0 = cst at *
            have hadd : IntKind.i64.wrap (cst + (xx : Nat)) = cst + (xx : Nat) := IntWalk.i64_in _ (by omega)
            have hml1 : 0 ≤ cst * (kk : Nat) ∧ cst * (kk : Nat) ≤ 1048576 * 5 := by
              obtain ⟨c0, c1⟩ := hcb
              refine ⟨Int.mul_nonneg c0 (by omega), Int.le_trans (Int.mul_le_mul_of_nonneg_right c1 (by omega)) (by omega)⟩
            have hmulw0 : IntKind.i64.wrap (cst * (kk : Nat)) = cst * (kk : Nat) := IntWalk.i64_in _ (by omega)
            go_upto_if 80 with fail
            go_cut [22] (fun vy wx => vy = .int .i64 (addF pu (xx : Nat) k cst) ∧ wr = wx)
            case first =>
              by_cases hku : k = pu
              · have e : addF pu (xx : Nat) k cst = cst + (xx : Nat) := by unfold addF; rw [if_pos hku]
                have e2 : (k : Int) = (pu : Int) := by omega
                have HE := Lib.hid e
                clear e
                go_wp2_with fail
                go_meet
                exact ⟨by rw [HE.out], rfl⟩
              · have e : addF pu (xx : Nat) k cst = cst := by unfold addF; rw [if_neg hku]
                have e2 : ¬ (k : Int) = (pu : Int) := by omega
                have HE := Lib.hid e
                clear e
                go_wp2_with fail
                go_meet
                exact ⟨by rw [HE.out], rfl⟩
            case rest =>
              obtain ⟨rfl, rfl⟩ := hcut
              have hmm : mulF kk k cst = cst * (kk : Nat) := rfl
              rw [hmm] at HTB
              generalize addF pu (xx : Nat) k cst = y at *
              clear hmm hadd
              have hmulw : IntKind.i64.wrap (cst * (kk : Nat)) = cst * (kk : Nat) := hmulw0
              generalize hcm : cst * (kk : Nat) = cm at *
              have ab0 : AB 3 _ wr.drew _ v _ _ v _ := HAB.out.call (Below.refl _ _).drew
              have hla : ∀ g, (Value.slice Aa v ca).ownBlock = some g → g < wr.drew.heap.size := fun g h => (ab0.oa.lt g h).2
              have hlb : ∀ g, (Value.slice Ab v cb).ownBlock = some g → g < wr.drew.heap.size := fun g h => (ab0.ob.lt g h).2
              have q0 : wr.drew.cell? ⟨b, off + k, none⟩ = _ := q0
              have r0 : wr.drew.cell? ⟨bi, oi + v, none⟩ = _ := r0
              have hbs := hbs0
              have hbis := hbis0
              go_wp2_with fail
              refine wp_region_held_drew (S := fun W => W.cell? ⟨b, off + k, none⟩ = some (.slice (some ⟨bi, oi, none⟩) rl ci) ∧ W.cell? ⟨bi, oi + v, none⟩ = some (.int .i64 cst)) (by kernel_rfl) ⟨q0, r0⟩ (fun hHeld => ?_)
              refine takeD (i := 0) (d := some 84) (v := ?_) rfl rfl (by kernel_rfl) (by kernel_rfl) (by kernel_rfl) (fun _ _ _ h => h) (Or.inl ⟨by rfl, ?_⟩) (by assumption) ?_
              rotate_left
              · intro wS hSw; (try dsimp only at hSw); go_simp; (try with_reducible rfl)
              try simp only [Act.put, List.setIfInBounds_toArray, List.set_cons_zero, List.set_cons_succ]
              refine takeD (i := 1) (d := some 85) (v := ?_) rfl rfl (by kernel_rfl) (by kernel_rfl) (by kernel_rfl) (fun _ _ _ h => h) (Or.inl ⟨by rfl, ?_⟩) (by assumption) ?_
              rotate_left
              · intro wS hSw; (try dsimp only at hSw); go_simp; (try with_reducible rfl)
              try simp only [Act.put, List.setIfInBounds_toArray, List.set_cons_zero, List.set_cons_succ]
              refine takeD (i := 4) (d := some 88) (v := ?_) rfl rfl (by kernel_rfl) (by kernel_rfl) (by kernel_rfl) (fun _ _ _ h => h) (Or.inl ⟨by rfl, ?_⟩) (by assumption) ?_
              rotate_left
              · intro wS hSw; (try dsimp only at hSw); go_simp; (try with_reducible rfl)
              try simp only [Act.put, List.setIfInBounds_toArray, List.set_cons_zero, List.set_cons_succ]
              refine takeD (i := 5) (d := some 89) (v := ?_) rfl rfl (by kernel_rfl) (by kernel_rfl) (by kernel_rfl) (fun _ _ _ h => h) (Or.inl ⟨by rfl, ?_⟩) (by assumption) ?_
              rotate_left
              · intro wS hSw; (try dsimp only at hSw); go_simp; (try with_reducible rfl)
              try simp only [Act.put, List.setIfInBounds_toArray, List.set_cons_zero, List.set_cons_succ]
              refine takeD (i := 6) (d := some 90) (v := ?_) rfl rfl (by kernel_rfl) (by kernel_rfl) (by kernel_rfl) (fun _ _ _ h => h) (Or.inl ⟨by rfl, ?_⟩) (by assumption) ?_
              rotate_left
              · intro wS hSw; (try dsimp only at hSw); go_simp; (try with_reducible rfl)
              try simp only [Act.put, List.setIfInBounds_toArray, List.set_cons_zero, List.set_cons_succ]
              refine takeD (i := 7) (d := some 91) (v := ?_) rfl rfl (by kernel_rfl) (by kernel_rfl) (by kernel_rfl) (fun _ _ _ h => h) (Or.inl ⟨by rfl, ?_⟩) (by assumption) ?_
              rotate_left
              · intro wS hSw; (try dsimp only at hSw); go_simp; (try with_reducible rfl)
              try simp only [Act.put, List.setIfInBounds_toArray, List.set_cons_zero, List.set_cons_succ]
              refine takeD (i := 8) (d := some 92) (v := ?_) rfl rfl (by kernel_rfl) (by kernel_rfl) (by kernel_rfl) (fun _ _ _ h => h) (Or.inl ⟨by rfl, ?_⟩) (by assumption) ?_
              rotate_left
              · intro wS hSw; (try dsimp only at hSw); go_simp; (try with_reducible rfl)
              try simp only [Act.put, List.setIfInBounds_toArray, List.set_cons_zero, List.set_cons_succ]
              refine takeD (i := 9) (d := some 93) (v := ?_) rfl rfl (by kernel_rfl) (by kernel_rfl) (by kernel_rfl) (fun _ _ _ h => h) (Or.inl ⟨by rfl, ?_⟩) (by assumption) ?_
              rotate_left
              · intro wS hSw; (try dsimp only at hSw); go_simp; (try with_reducible rfl)
              try simp only [Act.put, List.setIfInBounds_toArray, List.set_cons_zero, List.set_cons_succ]
              refine takeD (i := 10) (d := some 94) (v := ?_) rfl rfl (by kernel_rfl) (by kernel_rfl) (by kernel_rfl) (fun _ _ _ h => h) (Or.inl ⟨by rfl, ?_⟩) (by assumption) ?_
              rotate_left
              · intro wS hSw; (try dsimp only at hSw); go_simp; (try with_reducible rfl)
              try simp only [Act.put, List.setIfInBounds_toArray, List.set_cons_zero, List.set_cons_succ]
              refine takeD (i := 11) (d := some 95) (v := ?_) rfl rfl (by kernel_rfl) (by kernel_rfl) (by kernel_rfl) (fun _ _ _ h => h) (Or.inl ⟨by rfl, ?_⟩) (by assumption) ?_
              rotate_left
              · intro wS hSw; (try dsimp only at hSw); go_simp; (try with_reducible rfl)
              try simp only [Act.put, List.setIfInBounds_toArray, List.set_cons_zero, List.set_cons_succ]
              refine takeD (i := 12) (d := some 96) (v := ?_) rfl rfl (by kernel_rfl) (by kernel_rfl) (by kernel_rfl) (fun _ _ _ h => h) (Or.inl ⟨by rfl, ?_⟩) (by assumption) ?_
              rotate_left
              · intro wS hSw; (try dsimp only at hSw); go_simp; (try with_reducible rfl)
              try simp only [Act.put, List.setIfInBounds_toArray, List.set_cons_zero, List.set_cons_succ]
              refine takeD (i := 13) (d := some 97) (v := .int .i64 cm) rfl rfl (by kernel_rfl) (by kernel_rfl) (by kernel_rfl) (fun _ _ _ h => h) (Or.inl ⟨by rfl, ?_⟩) (by assumption) ?_
              · intro wS hSw; (try dsimp only at hSw); go_simp; (try simp [hcm, hmulw]); (try with_reducible rfl)
              try simp only [Act.put, List.setIfInBounds_toArray, List.set_cons_zero, List.set_cons_succ]
              generalize hWW : wr.drew = W0 at *
              clear hWW
              refine wpAnyH_ready (rs := [2, 14]) (by kernel_rfl) (by simp) ?_
              refine consD (d := some 86) rfl rfl (fun KK hKK => ?_) (consD (d := some 98) rfl rfl (fun KK hKK => ?_) AllReadyH.nil)
              · go_simp
                have bx0 : Below W0.heap.size W0 (W0.alloc (.cells #[.int .i64 y] 3)) := box_below _ _
                have oxa : Own (W0.alloc (.cells #[.int .i64 y] 3)) W0.heap.size [.int .i64 y] := own_new W0 [.int .i64 y] 3
                have zxa : W0.heap.size < (W0.alloc (.cells #[.int .i64 y] 3)).heap.size := by simp
                have ab1 := ab0.call bx0
                have sz0 := bx0.size
                have bz0 := bx0.mono ab0.bel.size
                have q1 := (bz0.cell (p := ⟨b, off + k, none⟩) hbs).trans q0
                have r1 := (bz0.cell (p := ⟨bi, oi + v, none⟩) hbis).trans r0
                generalize hWW : W0.alloc _ = W1 at *
                clear hWW
                refine hKK.out _ _ ⟨q1, r1⟩ (fun hHeld => ?_)
                clear hKK KK
                try simp only [Act.put, List.setIfInBounds_toArray, List.set_cons_zero, List.set_cons_succ]
                refine wpAnyH_ready (rs := [3, 14]) (by kernel_rfl) (by simp) ?_
                refine consD (d := some 87) rfl rfl (fun KK hKK => ?_) (consD (d := some 98) rfl rfl (fun KK hKK => ?_) AllReadyH.nil)
                · refine step_append_any (w := W1) (P := Tryd.prog) rfl (.tmp 84) (.tmp 86) 22 rfl _ 3 s0 _ 1 8 Tryd.underlying22 HS.out HZ.out.1 HZ.out.2.1 HZ.out.2.2 rfl (by omega) (.slice Aa v ca) v _ rfl ab1.oa W1.heap.size (some ⟨W0.heap.size, 0, none⟩) 1 1 [.int .i64 y] rfl (reads_box oxa zxa) (by intro yy hy; simp at hy; subst hy; rfl) (by unfold maxLen; omega) (by omega) ab1.bel.size ?_
                  intro va2 W2 hoa hga hka
                  have ab2 := ab1.appA hoa hga hka
                  have sz1 := hga.size
                  have bz1 := (Below.refl _ W1).grown hga ab1.bel.size (fun g hg => (ab1.oa.lt g hg).1)
                  have q2 := (bz1.cell (p := ⟨b, off + k, none⟩) hbs).trans q1
                  have r2 := (bz1.cell (p := ⟨bi, oi + v, none⟩) hbis).trans r1
                  refine hKK.out _ _ ⟨q2, r2⟩ (fun hHeld => ?_)
                  clear hKK KK
                  try simp only [Act.put, List.setIfInBounds_toArray, List.set_cons_zero, List.set_cons_succ]
                  refine wpAnyH_ready (rs := [14]) (by kernel_rfl) (by simp) ?_
                  refine consD (d := some 98) rfl rfl (fun KK hKK => ?_) AllReadyH.nil
                  go_simp
                  have bx2 : Below W2.heap.size W2 (W2.alloc (.cells #[.int .i64 cm] 3)) := box_below _ _
                  have oxb : Own (W2.alloc (.cells #[.int .i64 cm] 3)) W2.heap.size [.int .i64 cm] := own_new W2 [.int .i64 cm] 3
                  have zxb : W2.heap.size < (W2.alloc (.cells #[.int .i64 cm] 3)).heap.size := by simp
                  have ab3 := ab2.call bx2
                  have sz2 := bx2.size
                  have bz2 := bx2.mono ab2.bel.size
                  have q3 := (bz2.cell (p := ⟨b, off + k, none⟩) hbs).trans q2
                  have r3 := (bz2.cell (p := ⟨bi, oi + v, none⟩) hbis).trans r2
                  generalize hWW : W2.alloc _ = W3 at *
                  clear hWW
                  refine hKK.out _ _ ⟨q3, r3⟩ (fun hHeld => ?_)
                  clear hKK KK
                  try simp only [Act.put, List.setIfInBounds_toArray, List.set_cons_zero, List.set_cons_succ]
                  refine wpAnyH_ready (rs := [15]) (by kernel_rfl) (by simp) ?_
                  refine consD (d := some 99) rfl rfl (fun KK hKK => ?_) AllReadyH.nil
                  refine step_append_any (w := W3) (P := Tryd.prog) rfl (.tmp 88) (.tmp 98) 22 rfl _ 3 s0 _ 1 8 Tryd.underlying22 HS.out HZ.out.1 HZ.out.2.1 HZ.out.2.2 rfl (by omega) (.slice Ab v cb) v _ rfl ab3.ob W3.heap.size (some ⟨W2.heap.size, 0, none⟩) 1 1 [.int .i64 cm] rfl (reads_box oxb zxb) (by intro yy hy; simp at hy; subst hy; rfl) (by unfold maxLen; omega) (by omega) ab3.bel.size ?_
                  intro vb2 W4 hob hgb hkb
                  have ab4 := ab3.appB hob hgb hkb
                  have sz3 := hgb.size
                  have bz3 := (Below.refl _ W3).grown hgb ab3.bel.size (fun g hg => (ab3.ob.lt g hg).1)
                  have q4 := (bz3.cell (p := ⟨b, off + k, none⟩) hbs).trans q3
                  have r4 := (bz3.cell (p := ⟨bi, oi + v, none⟩) hbis).trans r3
                  refine hKK.out _ _ ⟨q4, r4⟩ (fun hHeld => ?_)
                  clear hKK KK
                  try simp only [Act.put, List.setIfInBounds_toArray, List.set_cons_zero, List.set_cons_succ]
                  refine takeD (i := 16) (d := some 19) (v := ?_) rfl rfl (by kernel_rfl) (by kernel_rfl) (by kernel_rfl) (fun _ _ _ h => h) (Or.inl ⟨by rfl, ?_⟩) (by assumption) ?_
                  rotate_left
                  · intro wS hSw; (try dsimp only at hSw); go_simp; (try with_reducible rfl)
                  try simp only [Act.put, List.setIfInBounds_toArray, List.set_cons_zero, List.set_cons_succ]
                  refine takeD (i := 17) (d := some 20) (v := ?_) rfl rfl (by kernel_rfl) (by kernel_rfl) (by kernel_rfl) (fun _ _ _ h => h) (Or.inl ⟨by rfl, ?_⟩) (by assumption) ?_
                  rotate_left
                  · intro wS hSw; (try dsimp only at hSw); go_simp; (try with_reducible rfl)
                  try simp only [Act.put, List.setIfInBounds_toArray, List.set_cons_zero, List.set_cons_succ]
                  refine wpAnyH_done (by kernel_rfl) ?_ _
                  obtain ⟨Aa2, ca2, rfl, hca2⟩ := own_slice ab4.oa
                  obtain ⟨Ab2, cb2, rfl, hcb2⟩ := own_slice ab4.ob
                  have AB9 := Lib.hid (show AB 3 _ W4 _ (v + 1) (((row.take (v + 1)).map (addF pu (xx : Nat) k)).map (Value.int .i64)) _ (v + 1) (((row.take (v + 1)).map (mulF kk k)).map (Value.int .i64)) from by rw [HTA.out, HTB.out, List.map_append, List.map_append]; exact ab4)
                  clear ab0 q0 r0 ab1 q1 r1 ab2 q2 r2 ab3 q3 r3 ab4 q4 r4
                  go_wp2_with fail
                  go_roundg (rl - (v + 1))
                  case rel => exact ⟨v + 1, by omega, by go_num, AB9.out⟩
                  case measure => omega
                · go_simp
                  have bx1 : Below W1.heap.size W1 (W1.alloc (.cells #[.int .i64 cm] 3)) := box_below _ _
                  have oxb : Own (W1.alloc (.cells #[.int .i64 cm] 3)) W1.heap.size [.int .i64 cm] := own_new W1 [.int .i64 cm] 3
                  have zxb : W1.heap.size < (W1.alloc (.cells #[.int .i64 cm] 3)).heap.size := by simp
                  have ab2 := ab1.call bx1
                  have sz1 := bx1.size
                  have bz1 := bx1.mono ab1.bel.size
                  have q2 := (bz1.cell (p := ⟨b, off + k, none⟩) hbs).trans q1
                  have r2 := (bz1.cell (p := ⟨bi, oi + v, none⟩) hbis).trans r1
                  have oxa := own_below oxa zxa bx1
                  have zxa := Nat.lt_of_lt_of_le zxa sz1
                  generalize hWW : W1.alloc _ = W2 at *
                  clear hWW
                  refine hKK.out _ _ ⟨q2, r2⟩ (fun hHeld => ?_)
                  clear hKK KK
                  try simp only [Act.put, List.setIfInBounds_toArray, List.set_cons_zero, List.set_cons_succ]
                  refine wpAnyH_ready (rs := [3]) (by kernel_rfl) (by simp) ?_
                  refine consD (d := some 87) rfl rfl (fun KK hKK => ?_) AllReadyH.nil
                  refine step_append_any (w := W2) (P := Tryd.prog) rfl (.tmp 84) (.tmp 86) 22 rfl _ 3 s0 _ 1 8 Tryd.underlying22 HS.out HZ.out.1 HZ.out.2.1 HZ.out.2.2 rfl (by omega) (.slice Aa v ca) v _ rfl ab2.oa W2.heap.size (some ⟨W0.heap.size, 0, none⟩) 1 1 [.int .i64 y] rfl (reads_box oxa zxa) (by intro yy hy; simp at hy; subst hy; rfl) (by unfold maxLen; omega) (by omega) ab2.bel.size ?_
                  intro va2 W3 hoa hga hka
                  have ab3 := ab2.appA hoa hga hka
                  have sz2 := hga.size
                  have bz2 := (Below.refl _ W2).grown hga ab2.bel.size (fun g hg => (ab2.oa.lt g hg).1)
                  have q3 := (bz2.cell (p := ⟨b, off + k, none⟩) hbs).trans q2
                  have r3 := (bz2.cell (p := ⟨bi, oi + v, none⟩) hbis).trans r2
                  have oxb := own_same oxb (hga.block _ zxb (fun he => by have := hla _ he.symm; omega))
                  have zxb := Nat.lt_of_lt_of_le zxb sz2
                  refine hKK.out _ _ ⟨q3, r3⟩ (fun hHeld => ?_)
                  clear hKK KK
                  try simp only [Act.put, List.setIfInBounds_toArray, List.set_cons_zero, List.set_cons_succ]
                  refine wpAnyH_ready (rs := [15]) (by kernel_rfl) (by simp) ?_
                  refine consD (d := some 99) rfl rfl (fun KK hKK => ?_) AllReadyH.nil
                  refine step_append_any (w := W3) (P := Tryd.prog) rfl (.tmp 88) (.tmp 98) 22 rfl _ 3 s0 _ 1 8 Tryd.underlying22 HS.out HZ.out.1 HZ.out.2.1 HZ.out.2.2 rfl (by omega) (.slice Ab v cb) v _ rfl ab3.ob W3.heap.size (some ⟨W1.heap.size, 0, none⟩) 1 1 [.int .i64 cm] rfl (reads_box oxb zxb) (by intro yy hy; simp at hy; subst hy; rfl) (by unfold maxLen; omega) (by omega) ab3.bel.size ?_
                  intro vb2 W4 hob hgb hkb
                  have ab4 := ab3.appB hob hgb hkb
                  have sz3 := hgb.size
                  have bz3 := (Below.refl _ W3).grown hgb ab3.bel.size (fun g hg => (ab3.ob.lt g hg).1)
                  have q4 := (bz3.cell (p := ⟨b, off + k, none⟩) hbs).trans q3
                  have r4 := (bz3.cell (p := ⟨bi, oi + v, none⟩) hbis).trans r3
                  refine hKK.out _ _ ⟨q4, r4⟩ (fun hHeld => ?_)
                  clear hKK KK
                  try simp only [Act.put, List.setIfInBounds_toArray, List.set_cons_zero, List.set_cons_succ]
                  refine takeD (i := 16) (d := some 19) (v := ?_) rfl rfl (by kernel_rfl) (by kernel_rfl) (by kernel_rfl) (fun _ _ _ h => h) (Or.inl ⟨by rfl, ?_⟩) (by assumption) ?_
                  rotate_left
                  · intro wS hSw; (try dsimp only at hSw); go_simp; (try with_reducible rfl)
                  try simp only [Act.put, List.setIfInBounds_toArray, List.set_cons_zero, List.set_cons_succ]
                  refine takeD (i := 17) (d := some 20) (v := ?_) rfl rfl (by kernel_rfl) (by kernel_rfl) (by kernel_rfl) (fun _ _ _ h => h) (Or.inl ⟨by rfl, ?_⟩) (by assumption) ?_
                  rotate_left
                  · intro wS hSw; (try dsimp only at hSw); go_simp; (try with_reducible rfl)
                  try simp only [Act.put, List.setIfInBounds_toArray, List.set_cons_zero, List.set_cons_succ]
                  refine wpAnyH_done (by kernel_rfl) ?_ _
                  obtain ⟨Aa2, ca2, rfl, hca2⟩ := own_slice ab4.oa
                  obtain ⟨Ab2, cb2, rfl, hcb2⟩ := own_slice ab4.ob
                  have AB9 := Lib.hid (show AB 3 _ W4 _ (v + 1) (((row.take (v + 1)).map (addF pu (xx : Nat) k)).map (Value.int .i64)) _ (v + 1) (((row.take (v + 1)).map (mulF kk k)).map (Value.int .i64)) from by rw [HTA.out, HTB.out, List.map_append, List.map_append]; exact ab4)
                  clear ab0 q0 r0 ab1 q1 r1 ab2 q2 r2 ab3 q3 r3 ab4 q4 r4
                  go_wp2_with fail
                  go_roundg (rl - (v + 1))
                  case rel => exact ⟨v + 1, by omega, by go_num, AB9.out⟩
                  case measure => omega
              · go_simp
                have bx0 : Below W0.heap.size W0 (W0.alloc (.cells #[.int .i64 cm] 3)) := box_below _ _
                have oxb : Own (W0.alloc (.cells #[.int .i64 cm] 3)) W0.heap.size [.int .i64 cm] := own_new W0 [.int .i64 cm] 3
                have zxb : W0.heap.size < (W0.alloc (.cells #[.int .i64 cm] 3)).heap.size := by simp
                have ab1 := ab0.call bx0
                have sz0 := bx0.size
                have bz0 := bx0.mono ab0.bel.size
                have q1 := (bz0.cell (p := ⟨b, off + k, none⟩) hbs).trans q0
                have r1 := (bz0.cell (p := ⟨bi, oi + v, none⟩) hbis).trans r0
                generalize hWW : W0.alloc _ = W1 at *
                clear hWW
                refine hKK.out _ _ ⟨q1, r1⟩ (fun hHeld => ?_)
                clear hKK KK
                try simp only [Act.put, List.setIfInBounds_toArray, List.set_cons_zero, List.set_cons_succ]
                refine wpAnyH_ready (rs := [2]) (by kernel_rfl) (by simp) ?_
                refine consD (d := some 86) rfl rfl (fun KK hKK => ?_) AllReadyH.nil
                go_simp
                have bx1 : Below W1.heap.size W1 (W1.alloc (.cells #[.int .i64 y] 3)) := box_below _ _
                have oxa : Own (W1.alloc (.cells #[.int .i64 y] 3)) W1.heap.size [.int .i64 y] := own_new W1 [.int .i64 y] 3
                have zxa : W1.heap.size < (W1.alloc (.cells #[.int .i64 y] 3)).heap.size := by simp
                have ab2 := ab1.call bx1
                have sz1 := bx1.size
                have bz1 := bx1.mono ab1.bel.size
                have q2 := (bz1.cell (p := ⟨b, off + k, none⟩) hbs).trans q1
                have r2 := (bz1.cell (p := ⟨bi, oi + v, none⟩) hbis).trans r1
                have oxb := own_below oxb zxb bx1
                have zxb := Nat.lt_of_lt_of_le zxb sz1
                generalize hWW : W1.alloc _ = W2 at *
                clear hWW
                refine hKK.out _ _ ⟨q2, r2⟩ (fun hHeld => ?_)
                clear hKK KK
                try simp only [Act.put, List.setIfInBounds_toArray, List.set_cons_zero, List.set_cons_succ]
                refine wpAnyH_ready (rs := [3]) (by kernel_rfl) (by simp) ?_
                refine consD (d := some 87) rfl rfl (fun KK hKK => ?_) AllReadyH.nil
                refine step_append_any (w := W2) (P := Tryd.prog) rfl (.tmp 84) (.tmp 86) 22 rfl _ 3 s0 _ 1 8 Tryd.underlying22 HS.out HZ.out.1 HZ.out.2.1 HZ.out.2.2 rfl (by omega) (.slice Aa v ca) v _ rfl ab2.oa W2.heap.size (some ⟨W1.heap.size, 0, none⟩) 1 1 [.int .i64 y] rfl (reads_box oxa zxa) (by intro yy hy; simp at hy; subst hy; rfl) (by unfold maxLen; omega) (by omega) ab2.bel.size ?_
                intro va2 W3 hoa hga hka
                have ab3 := ab2.appA hoa hga hka
                have sz2 := hga.size
                have bz2 := (Below.refl _ W2).grown hga ab2.bel.size (fun g hg => (ab2.oa.lt g hg).1)
                have q3 := (bz2.cell (p := ⟨b, off + k, none⟩) hbs).trans q2
                have r3 := (bz2.cell (p := ⟨bi, oi + v, none⟩) hbis).trans r2
                have oxb := own_same oxb (hga.block _ zxb (fun he => by have := hla _ he.symm; omega))
                have zxb := Nat.lt_of_lt_of_le zxb sz2
                refine hKK.out _ _ ⟨q3, r3⟩ (fun hHeld => ?_)
                clear hKK KK
                try simp only [Act.put, List.setIfInBounds_toArray, List.set_cons_zero, List.set_cons_succ]
                refine wpAnyH_ready (rs := [15]) (by kernel_rfl) (by simp) ?_
                refine consD (d := some 99) rfl rfl (fun KK hKK => ?_) AllReadyH.nil
                refine step_append_any (w := W3) (P := Tryd.prog) rfl (.tmp 88) (.tmp 98) 22 rfl _ 3 s0 _ 1 8 Tryd.underlying22 HS.out HZ.out.1 HZ.out.2.1 HZ.out.2.2 rfl (by omega) (.slice Ab v cb) v _ rfl ab3.ob W3.heap.size (some ⟨W0.heap.size, 0, none⟩) 1 1 [.int .i64 cm] rfl (reads_box oxb zxb) (by intro yy hy; simp at hy; subst hy; rfl) (by unfold maxLen; omega) (by omega) ab3.bel.size ?_
                intro vb2 W4 hob hgb hkb
                have ab4 := ab3.appB hob hgb hkb
                have sz3 := hgb.size
                have bz3 := (Below.refl _ W3).grown hgb ab3.bel.size (fun g hg => (ab3.ob.lt g hg).1)
                have q4 := (bz3.cell (p := ⟨b, off + k, none⟩) hbs).trans q3
                have r4 := (bz3.cell (p := ⟨bi, oi + v, none⟩) hbis).trans r3
                refine hKK.out _ _ ⟨q4, r4⟩ (fun hHeld => ?_)
                clear hKK KK
                try simp only [Act.put, List.setIfInBounds_toArray, List.set_cons_zero, List.set_cons_succ]
                refine takeD (i := 16) (d := some 19) (v := ?_) rfl rfl (by kernel_rfl) (by kernel_rfl) (by kernel_rfl) (fun _ _ _ h => h) (Or.inl ⟨by rfl, ?_⟩) (by assumption) ?_
                rotate_left
                · intro wS hSw; (try dsimp only at hSw); go_simp; (try with_reducible rfl)
                try simp only [Act.put, List.setIfInBounds_toArray, List.set_cons_zero, List.set_cons_succ]
                refine takeD (i := 17) (d := some 20) (v := ?_) rfl rfl (by kernel_rfl) (by kernel_rfl) (by kernel_rfl) (fun _ _ _ h => h) (Or.inl ⟨by rfl, ?_⟩) (by assumption) ?_
                rotate_left
                · intro wS hSw; (try dsimp only at hSw); go_simp; (try with_reducible rfl)
                try simp only [Act.put, List.setIfInBounds_toArray, List.set_cons_zero, List.set_cons_succ]
                refine wpAnyH_done (by kernel_rfl) ?_ _
                obtain ⟨Aa2, ca2, rfl, hca2⟩ := own_slice ab4.oa
                obtain ⟨Ab2, cb2, rfl, hcb2⟩ := own_slice ab4.ob
                have AB9 := Lib.hid (show AB 3 _ W4 _ (v + 1) (((row.take (v + 1)).map (addF pu (xx : Nat) k)).map (Value.int .i64)) _ (v + 1) (((row.take (v + 1)).map (mulF kk k)).map (Value.int .i64)) from by rw [HTA.out, HTB.out, List.map_append, List.map_append]; exact ab4)
                clear ab0 q0 r0 ab1 q1 r1 ab2 q2 r2 ab3 q3 r3 ab4 q4 r4
                go_wp2_with fail
                go_roundg (rl - (v + 1))
                case rel => exact ⟨v + 1, by omega, by go_num, AB9.out⟩
                case measure => omega
          · obtain rfl : v = rl := by omega
            have htr : row.take v = row := List.take_of_length_le (by rw [HRL.out]; exact Nat.le_refl _)
            have hbz := hab.bel
            have hzz := hbz.size
            obtain ⟨xa, xb, hAB, hRA, hRB⟩ := HTT.out.ex
            have hwz := hAB.bel.size
            rw [htr] at hab
            obtain ⟨Aa, ca, rfl, hca⟩ := own_slice hab.oa
            obtain ⟨Ab, cb, rfl, hcb2⟩ := own_slice hab.ob
            have ab1 := AB.mk (hAB.bel.trans (hbz.mono hwz)) (own_stay hAB.oa fun g _ _ h2 => hbz.block g h2) (own_stay hAB.ob fun g _ _ h2 => hbz.block g h2) hAB.ne
            have ra1 := hRA.stay fun g _ h2 => hbz.block g h2
            have rb1 := hRB.stay fun g _ h2 => hbz.block g h2
            have na1 := own_mono hab.oa hwz
            have nb1 := own_mono hab.ob hwz
            rw [hua] at ab1
            rw [hub] at ab1
            have hxal : xa.length = k := by have h := hAB.oa.1; rw [hua] at h; simpa using h
            have hxbl : xb.length = k := by have h := hAB.ob.1; rw [hub] at h; simpa using h
            have AB1 := Lib.hid ab1
            have RA1 := Lib.hid ra1
            have RB1 := Lib.hid rb1
            have NA1 := Lib.hid na1
            have NB1 := Lib.hid nb1
            have hz20 := ab1.bel.size
            have oa1 := ab1.oa
            clear hab hAB hRA hRB ab1 ra1 rb1 na1 nb1
            go_wp2_with (first | (at_builtin; refine wpList_append_grow2 wr rfl (.tmp 100) (.tmp 102) 24 rfl w2.heap.size 22 s1 _ 24 Tryd.underlying24 HS1.out HZ1.out.1 HZ1.out.2.1 HZ1.out.2.2 rfl _ k xa (.slice Aa v ca) oa1 rfl (by simp [Act.eval, go_sem]) (by simp [Act.eval, go_sem]) (by omega) (by omega) (by omega) ?_; intro v5 w5 hown5 hg5 hk5; obtain ⟨A5, c5, rfl, hc5⟩ := own_slice hown5; have b1 : Below wr.heap.size wr (wr.alloc (.cells #[.slice Aa v ca] 22)) := box_below _ _; have ab2 := AB1.out.call b1; have oa2 := ab2.oa; have ra2 := (RA1.out.stay (W' := wr.alloc (.cells #[.slice Aa v ca] 22)) fun g _ h2 => b1.block g h2).other oa2 hg5; have rb2 := (RB1.out.stay (W' := wr.alloc (.cells #[.slice Aa v ca] 22)) fun g _ h2 => b1.block g h2).other oa2 hg5; have na2 := own_other (own_keep NA1.out b1) oa2 (by decide) hg5; have nb2 := own_other (own_keep NB1.out b1) oa2 (by decide) hg5; have ab3 := ab2.appA hown5 hg5 hk5; have ob3 := ab3.ob; have hz5 := ab3.bel.size; have AB3 := Lib.hid ab3; have RA3 := Lib.hid ra2; have RB3 := Lib.hid rb2; have NA3 := Lib.hid na2; have NB3 := Lib.hid nb2; clear ab2 oa2 ra2 rb2 na2 nb2 ab3 hown5 hg5 hk5 b1 oa1) | (at_builtin; refine wpList_append_grow2 w5 rfl (.tmp 104) (.tmp 106) 24 rfl w2.heap.size 22 s1 _ 24 Tryd.underlying24 HS1.out HZ1.out.1 HZ1.out.2.1 HZ1.out.2.2 rfl _ k xb (.slice Ab v cb) ob3 rfl (by simp [Act.eval, go_sem]) (by simp [Act.eval, go_sem]) (by omega) (by omega) (by omega) ?_; intro v6 w6 hown6 hg6 hk6; obtain ⟨A6, c6, rfl, hc6⟩ := own_slice hown6) | fail)
            have b1 : Below w5.heap.size w5 (w5.alloc (.cells #[.slice Ab v cb] 22)) := box_below _ _
            have ab4 := AB3.out.call b1
            have ob4 := ab4.ob
            have ra4 := (RA3.out.stay (W' := w5.alloc (.cells #[.slice Ab v cb] 22)) fun g _ h2 => b1.block g h2).other ob4 hg6
            have rb4 := (RB3.out.stay (W' := w5.alloc (.cells #[.slice Ab v cb] 22)) fun g _ h2 => b1.block g h2).other ob4 hg6
            have na4 := own_other (own_keep NA3.out b1) ob4 (by decide) hg6
            have nb4 := own_other (own_keep NB3.out b1) ob4 (by decide) hg6
            have ab5 := ab4.appB hown6 hg6 hk6
            have HTT6 := Lib.hid (show TT2 w2 w6 (.slice A5 (k + 1) c5) (upK (addF pu (xx : Nat)) T (k + 1)) (.slice A6 (k + 1) c6) (upK (mulF kk) T (k + 1)) from by
              rw [HUA.out, HUB.out]
              refine ⟨_, _, by rw [List.length_append, List.length_append, hua, hub]; exact ab5, ra4.snoc (by rw [hua]; exact hxal) (by rw [List.length_map, HRL.out]) hca na4, rb4.snoc (by rw [hub]; exact hxbl) (by rw [List.length_map, HRL.out]) hcb2 nb4⟩)
            clear ab4 ob4 ra4 rb4 na4 nb4 ab5 hown6 hg6 hk6 b1 ob3
            go_wp2_with fail
            go_roundg (N - (k + 1))
            case rel => exact ⟨k + 1, by omega, by go_num, HTT6.out⟩
            case measure => omega
      · obtain rfl : k = N := by omega
        obtain ⟨ta, tb⟩ := htt.rd
        have hbel : Below w2.heap.size w2 wr := by obtain ⟨xa, xb, hab, _, _⟩ := htt.ex; exact hab.bel
        have hbw := hb2w.trans (hbel.mono hb2w.size)
        have hz2 := hbel.size
        obtain ⟨Aa, ca, rfl, hca, hra⟩ := ta.rd
        obtain ⟨Ab, cb, rfl, hcb, hrb⟩ := tb.rd
        have eua : upK (addF pu (xx : Nat)) T k = turnT (addF pu (xx : Nat)) 0 T := by rw [← HN.out]; exact upK_end
        have eub : upK (mulF kk) T k = turnT (mulF kk) 0 T := by rw [← HN.out]; exact upK_end
        rw [eua] at hra hca
        rw [eub] at hrb hcb
        rw [eua, eub]
        rw [turn_len, HN.out] at hca hcb
        rw [turn_len, turn_len, HN.out]
        have hxm : ∀ q ∈ K, (∀ x ∈ q, x.u ≤ 1000000 ∧ x.m < 32) ∧ q.length ≤ 12 := fun q hq => ⟨fun x hx => by have := (HX.out q hq).2 x hx; omega, by have := (HX.out q hq).1; omega⟩
        have HRA := Lib.hid hra
        have HRB := Lib.hid hrb
        have tok1 : TabOk (turnT (addF pu (xx : Nat)) 0 T) := turn_ok (b := 1048576) HTK.out fun i x h0 h1 => by unfold addF; split <;> omega
        have tok2 : TabOk (turnT (mulF kk) 0 T) := turn_ok (b := 1048576) HTK.out fun i x h0 h1 => by
          unfold mulF
          exact ⟨Int.mul_nonneg h0 (by omega), Int.le_trans (Int.mul_le_mul_of_nonneg_right h1 (by omega)) (by omega)⟩
        have cl1 := low_any A' Ak c' ck wr.heap.size T K wr (rdT_more (rdT_below HRT2.out hbel) hz2) (rdKK_more (rdKK_below HK2.out hbel) hz2) (Nat.le_refl _) (by rw [HN.out]; omega) HTO.out hxm (by rw [HM1.out]; omega) (HTAB.out wr hbw)
        have CL2 := Lib.hid (fun (W : World) (hb : Below wr.heap.size wr W) => low_any Aa Ak ca ck wr.heap.size (turnT (addF pu (xx : Nat)) 0 T) K W (rdT_below HRA.out hb) (rdKK_more (rdKK_below HK2.out (hbel.trans (hb.mono hz2))) hz2) hb.size (by rw [turn_len, HN.out]; omega) tok1 hxm (by rw [HM1.out]; omega) (HTAB.out W (hbw.trans (hb.mono hbw.size))))
        have CL3 := Lib.hid (fun (W : World) (hb : Below wr.heap.size wr W) => low_any Ab Ak cb ck wr.heap.size (turnT (mulF kk) 0 T) K W (rdT_below HRB.out hb) (rdKK_more (rdKK_below HK2.out (hbel.trans (hb.mono hz2))) hz2) hb.size (by rw [turn_len, HN.out]; omega) tok2 hxm (by rw [HM1.out]; omega) (HTAB.out W (hbw.trans (hb.mono hbw.size))))
        have CW := Lib.hid (fun (W : World) (hb : Below w.heap.size w W) => awake_any W (HTAB.out W hb))
        have hadd := add_law SRT_mem (tab_ne HTO.out) (u := pu) (by rw [HN.out]; exact l2) (xx : Nat) K
        have hmul := mul_law SRT_mem (tab_ne HTO.out) (k := (kk : Nat)) (by omega) K
        rw [show (turnT (fun _ c => c * ((kk : Nat) : Int)) 0 T) = turnT (mulF kk) 0 T from rfl] at hmul
        rw [HN.out, HM1.out] at cl1
        rw [turn_len, HN.out, HM1.out] at CL2 CL3
        clear hra hrb ta tb htt hxm tok1 tok2 eua eub
        cases hlp : lowP SRT T K with
        | none =>
          have h2 := hadd.2 hlp
          have h3 := hmul.2 hlp
          rw [hlp] at cl1
          rw [h2] at CL2
          rw [h3] at CL3
          clear hadd hmul hlp h2 h3
          go_wp2_with fail
          refine cl1.mono ?_
          rintro e w5 ⟨rfl, hb5⟩
          clear cl1
          go_wp2_with fail
          refine (CL2.out w5 hb5).mono ?_
          rintro e w6 ⟨rfl, hb6⟩
          have hb56 := hb5.trans (hb6.mono hb5.size)
          go_wp2_with fail
          refine (CL3.out w6 hb56).mono ?_
          rintro e w7 ⟨rfl, hb7⟩
          have hb57 := hb56.trans (hb7.mono hb56.size)
          have hbz := hbw.trans (hb57.mono hbw.size)
          go_wp2_with fail
          refine (CW.out w7 hbz).mono ?_
          rintro e w8 ⟨rfl, hb8⟩
          go_wp2_with fail
          go_ret
          exact ⟨rfl, hbz.trans (hb8.mono hbz.size)⟩
        | some p =>
          obtain ⟨n, L⟩ := p
          obtain ⟨K2, h2⟩ := hadd.1 n L hlp
          obtain ⟨K3, h3⟩ := hmul.1 n L hlp
          obtain ⟨a, _, hsum, _⟩ := (lowP_ok SRT_mem (tab_ne HTO.out) K).1 n L hlp
          have hLL := inD_len a
          rw [HN.out] at hLL
          have hsb := sum_bd (inD_lim HTO.out a)
          have hn0 : 0 ≤ n ∧ n ≤ 83886080 := by rw [hsum]; rw [hLL] at hsb; omega
          rw [hlp] at cl1
          rw [h2] at CL2
          rw [h3] at CL3
          clear hadd hmul hlp h2 h3 a hsum hsb
          have hw1 : IntKind.i64.wrap (n + (xx : Nat)) = n + (xx : Nat) := IntWalk.i64_in _ (by omega)
          have hnk : 0 ≤ n * (kk : Nat) ∧ n * (kk : Nat) ≤ 83886080 * 5 := ⟨Int.mul_nonneg hn0.1 (by omega), Int.le_trans (Int.mul_le_mul_of_nonneg_right hn0.2 (by omega)) (by omega)⟩
          have hw2 : IntKind.i64.wrap (n * (kk : Nat)) = n * (kk : Nat) := IntWalk.i64_in _ (by omega)
          go_wp2_with fail
          refine cl1.mono ?_
          rintro e w5 ⟨⟨g5, cc5, rfl, _, _⟩, hb5⟩
          clear cl1
          go_wp2_with fail
          refine (CL2.out w5 hb5).mono ?_
          rintro e w6 ⟨⟨g6, cc6, rfl, _, _⟩, hb6⟩
          have hb56 := hb5.trans (hb6.mono hb5.size)
          go_wp2_with fail
          refine (CL3.out w6 hb56).mono ?_
          rintro e w7 ⟨⟨g7, cc7, rfl, _, _⟩, hb7⟩
          have hb57 := hb56.trans (hb7.mono hb56.size)
          have hbz := hbw.trans (hb57.mono hbw.size)
          go_wp2_with fail
          refine (CW.out w7 hbz).mono ?_
          rintro e w8 ⟨rfl, hb8⟩
          go_wp2_with fail
          go_ret
          exact ⟨rfl, hbz.trans (hb8.mono hbz.size)⟩

set_option maxRecDepth 100000 in
theorem lifted (os : Os) (started : os.Started) (H : Type) (enc : TypeId × Value → H) :
    ReturnsInHanded {} Tryd.checked os 7 .any (fun w args => (Rows.hitAddsSpec.pre enc Tryd.prog Tryd.f7 [] false w args ∧ laidMetH Tryd.prog Rows.hitAddsRow.laid w) ∧ sizedMet enc Tryd.prog Tryd.f7 (OpenSpec.ofChange Rows.hitAddsSpec) false w args) (Rows.hitAddsSpec.post enc Tryd.prog Tryd.f7 false true false false) := by
  refine returnsInHanded_of_change_and (C := Tryd.checked) (X := fun w _ => laidMetH Tryd.prog Rows.hitAddsRow.laid w) (fun _ _ _ hh h => h.of_heap hh) own started (by kernel_rfl) Tryd.func7
    (ChangeSpec.witness_shaped (enc := enc) (C := Tryd.checked) (os := os) (X := fun w _ => laidMetH Tryd.prog Rows.hitAddsRow.laid w) false (World.doorLaid Tryd.prog 400 os) #[.slice none 0 0, .slice none 0 0, .int .i64 0, .int .i64 0, .int .i64 0] 8 rfl (World.shaped_of_RefB (by kernel_rfl) (by kernel_rfl)) (by kernel_rfl) (by kernel_rfl) (by kernel_rfl)
      (laidMetH_of_parts3 (fuel := 8) (laidMet_of_run' 8 (by kernel_rfl) (by kernel_rfl)) (by kernel_rfl) (by kernel_rfl))) ?_
  intro W base args ds gs before hval0 hW _ _ hL _
  have hval : ∀ (j : Nat) t v, Tryd.f7.params[j]? = some t → args[j]? = some v → Value.okWide Tryd.prog W .any base t v := hval0
  have hW' := hW
  obtain ⟨p, q, hA0, hV, rfl, hfz, hnd⟩ := hW
  have hA : DataW.TrodAll enc Tryd.prog W 0 (fun _ => true) true Tryd.f7.params.toList args.toList ds p := hA0
  rw [Tryd.params7] at hA hval
  obtain ⟨v0, vs0, d0, ds0, p0, q0, hargs, rfl, rfl, h0, r0⟩ := trodAll_cons hA
  obtain ⟨v1, vs1, d1, ds1, p1, q1, rfl, rfl, rfl, h1, r1⟩ := trodAll_cons r0
  obtain ⟨v2, vs2, d2, ds2, p2, q2, rfl, rfl, rfl, h2, r2⟩ := trodAll_cons r1
  obtain ⟨v3, vs3, d3, ds3, p3, q3, rfl, rfl, rfl, h3, r3⟩ := trodAll_cons r2
  obtain ⟨v4, vs4, d4, ds4, p4, q4, rfl, rfl, rfl, h4, r4⟩ := trodAll_cons r3
  obtain ⟨rfl, rfl, rfl⟩ := trodAll_nil r4
  obtain rfl : args = #[v0, v1, v2, v3, v4] := by cases args; simp_all
  obtain ⟨rfl, rfl⟩ := trodVars_none hV
  obtain ⟨a0, len0, cap0, rfl⟩ := okWide_slice Tryd.underlying22 (hval 0 22 v0 rfl rfl)
  have k0 := h0
  have lt0 : ∀ x ∈ p0, x.block < W.heap.size := by obtain ⟨m, hm⟩ := k0; exact DataW.trod_lt m _ _ _ hm
  obtain ⟨z0, w0⟩ : ∃ zs, IsRow .i64 W a0 len0 cap0 zs := by
    obtain ⟨fuel, hf⟩ := h0
    rcases open_ints Tryd.underlying22 Tryd.underlying3 (by kernel_rfl) hf with ⟨hcs, _⟩ | ⟨x, l, c, zs, hcs, _, hl, hm, hz, _, hcell, hwz⟩
    · simp [Value.cells] at hcs
      obtain ⟨rfl, rfl, rfl⟩ := hcs
      exact ⟨[], .inl ⟨rfl, rfl, rfl, rfl⟩⟩
    · simp [Value.cells] at hcs
      obtain ⟨rfl, rfl, rfl⟩ := hcs
      exact ⟨zs, .inr ⟨_, rfl, hl, hm, by simpa using hz, hcell, hwz⟩⟩
  obtain ⟨a1, len1, cap1, rfl⟩ := okWide_slice Tryd.underlying22 (hval 1 22 v1 rfl rfl)
  have k1 := h1
  have lt1 : ∀ x ∈ p1, x.block < W.heap.size := by obtain ⟨m, hm⟩ := k1; exact DataW.trod_lt m _ _ _ hm
  obtain ⟨z1, w1⟩ : ∃ zs, IsRow .i64 W a1 len1 cap1 zs := by
    obtain ⟨fuel, hf⟩ := h1
    rcases open_ints Tryd.underlying22 Tryd.underlying3 (by kernel_rfl) hf with ⟨hcs, _⟩ | ⟨x, l, c, zs, hcs, _, hl, hm, hz, _, hcell, hwz⟩
    · simp [Value.cells] at hcs
      obtain ⟨rfl, rfl, rfl⟩ := hcs
      exact ⟨[], .inl ⟨rfl, rfl, rfl, rfl⟩⟩
    · simp [Value.cells] at hcs
      obtain ⟨rfl, rfl, rfl⟩ := hcs
      exact ⟨zs, .inr ⟨_, rfl, hl, hm, by simpa using hz, hcell, hwz⟩⟩
  obtain ⟨a2, rfl, rfl, rfl, w2⟩ := open_int Tryd.underlying3 (hval 2 3 v2 rfl rfl) h2
  obtain ⟨a3, rfl, rfl, rfl, w3⟩ := open_int Tryd.underlying3 (hval 3 3 v3 rfl rfl) h3
  obtain ⟨a4, rfl, rfl, rfl, w4⟩ := open_int Tryd.underlying3 (hval 4 3 v4 rfl rfl) h4
  clear hA0 hval0
  refine (walk a0 len0 cap0 z0 a1 len1 cap1 z1 a2 a3 a4 W w0 w1 w2 w3 w4 (tab_of hL (by kernel_rfl) (MakeChecks.laidMetH_plain _ _ _ (by kernel_rfl)))).mono fun e W' ⟨he, bel⟩ => ?_
  subst he
  exact ⟨_, rfl, _, _, _, [], _, [], hW', trodAll_mk1 (shut_bool Tryd.underlying4 _), (trodAll_cons_mk (Below.trod laidOut (by kernel_rfl) (of_decide_eq_true (by kernel_rfl)) k0 bel lt0) (trodAll_cons_mk (Below.trod laidOut (by kernel_rfl) (of_decide_eq_true (by kernel_rfl)) k1 bel lt1) (trodAll_cons_mk (shut_int Tryd.underlying3 w2) (trodAll_cons_mk (shut_int Tryd.underlying3 w3) (trodAll_cons_mk (shut_int Tryd.underlying3 w4) trodAll_mk0))))), rfl, bel.frame _, fun h => by cases h⟩

theorem over : Rows.hitAddsRow.holds Tryd.pinned (OpenSpec.ofChange Rows.hitAddsSpec) :=
  OpenClaim.holds_of_wide 7 Tryd.f7 rfl rfl rfl rfl rfl rfl rfl ⟨rfl, rfl, rfl, rfl, rfl⟩ rfl rfl rfl rfl rfl (by kernel_rfl) Tryd.func7 (by kernel_rfl)
    (of_decide_eq_true (by kernel_rfl)) (by unfold Func.isWrapper; first | (rw [if_pos (by decide +kernel)]; kernel_rfl) | (rw [if_neg (by decide +kernel)]; exact ⟨rfl, rfl⟩))
    (fun os started H enc _ => lifted os started H enc)

theorem proved : Rows.HitAddsSaid := over
theorem plain (f : FuncId) (fn : Func) (hf : Tryd.pinned.checked.prog.funcNamed "linchpin/linchpinlaw36.HitAdds" = some f) (hfn : Tryd.pinned.checked.prog.funcs[f]? = some fn) :
    false = Tryd.pinned.checked.prog.looks [] ∧ ∀ (j : Nat) t, fn.params[j]? = some t → Tryd.pinned.checked.prog.wantsStandIn t = false := by
  obtain rfl : f = 7 := Option.some.inj ((show Tryd.prog.funcNamed "linchpin/linchpinlaw36.HitAdds" = some 7 by kernel_rfl).symm.trans hf) |>.symm
  obtain rfl : fn = Tryd.f7 := (Option.some.inj (Tryd.func7.symm.trans hfn)).symm
  refine ⟨by kernel_rfl, fun j t ht => ?_⟩
  rw [Tryd.params7] at ht
  have hm : t ∈ [22, 22, 3, 3, 3] := by simpa using Array.mem_of_getElem? ht
  have hall : ([22, 22, 3, 3, 3].all fun u => !Tryd.prog.wantsStandIn u) = true := by kernel_rfl
  exact (show Tryd.prog.wantsStandIn t = false by simpa using List.all_eq_true.1 hall t hm)

theorem card : Rows.HitAddsCardSaid :=
  Claim7.holds_tied_plain_at .later [] _ _ _ _ proved (fun _ h => by cases h) (by kernel_rfl) (fun _ h => by cases h) hitAdds_row_tie rfl ⟨rfl, rfl⟩ (by kernel_rfl) rfl plain (by kernel_rfl)
#print axioms card
end Go.Proofs.YtmfdpdnokiidlaaDoor.hitAdds
