/-
  HitWithin: a limit hits a core exactly if not all values that it permits satisfy the core's terms. Conditions: strconv's table starts as the program's text lays it (the card ties it).
-/
import Derived.Test.YtmfdpdnokiidlaaDoorRows
import Derived.Test.YtmfdpdnokiidlaaDoorHWithin
import Derived.Deep.LoopGhost
import Derived.Test.YtmfdpdnokiidlaaDoorCards
import Derived.Test.YtmfdpdnokiidlaaDoorTie
import Derived.Test.YtmfdpdnokiidlaaDoorTab
import Derived.LaidMore
import Derived.MakeChecks
import Derived.SevenTiedAt
import Derived.Stop.Joined
import Derived.WalkKit
import Derived.ProofKit
import Derived.OpenShut
import Derived.ShutString
import Derived.ChangeOld
import Derived.Below
namespace Go.Proofs.YtmfdpdnokiidlaaDoor.hitWithin
open Go.ChangeShapes Go.WideShapes Go.ChangeAt Go.RowKit
open Go.ChangeMaps (open_string shut_string)
set_option linter.unusedVariables false

theorem own : ownKnob Tryd.prog.godebug = none := by kernel_rfl
theorem laidOut : laidOutB Tryd.prog = true := by kernel_rfl

def IsRow (k : IntKind) (w : World) (a : Option Addr) (len cap : Nat) (zs : List Int) : Prop :=
  (a = none ∧ len = 0 ∧ cap = 0 ∧ zs = []) ∨
  ∃ x, a = some x ∧ len ≤ cap ∧ cap ≤ maxLen ∧ zs.length = cap ∧ (∀ i, i < zs.length → w.cell? (x.add i) = some (.int k (zs.getD i 0))) ∧ ∀ n ∈ zs, (Lit.int k n).wf = true

set_option maxHeartbeats 8000000 in
set_option maxRecDepth 8192 in
theorem walk (a0 : Option Addr) (len0 cap0 : Nat) (z0 : List Int) (a1 : Option Addr) (len1 cap1 : Nat) (z1 : List Int) (a2 : Option Addr) (len2 cap2 : Nat) (z2 : List Int) (w : World) (w0 : IsRow .i64 w a0 len0 cap0 z0) (w1 : IsRow .i64 w a1 len1 cap1 z1) (w2 : IsRow .i64 w a2 len2 cap2 z2) (hT : Tab w) :
    Calls Tryd.prog 6 #[.slice a0 len0 cap0, .slice a1 len1 cap1, .slice a2 len2 cap2] w fun e w' => e = .returned (.bool true) ∧ Below w.heap.size w w' := by
  have HTAB := Lib.hid (fun (W : World) (hb : Below w.heap.size w W) => tab_below hT hb)
  clear hT
  by_cases hlen : 60 < len0 ∨ 60 < len1 ∨ 60 < len2
  · have ca := awake_any w (HTAB.out w (Below.refl _ _))
    clear w0 w1 w2
    by_cases h0 : 60 < len0
    · have i0 : (60 : Int) < (len0 : Int) := by omega
      go_enter Tryd.func6, Tryd.ntmps6
      go_wp2_with fail
      refine ca.mono ?_
      rintro e w1 ⟨rfl, hb1⟩
      go_wp2_with fail
      go_ret
      exact ⟨rfl, hb1⟩
    · have i0 : ¬ (60 : Int) < (len0 : Int) := by omega
      by_cases h1 : 60 < len1
      · have i1 : (60 : Int) < (len1 : Int) := by omega
        go_enter Tryd.func6, Tryd.ntmps6
        go_wp2_with fail
        refine ca.mono ?_
        rintro e w1 ⟨rfl, hb1⟩
        go_wp2_with fail
        go_ret
        exact ⟨rfl, hb1⟩
      · have i1 : ¬ (60 : Int) < (len1 : Int) := by omega
        have i2 : (60 : Int) < (len2 : Int) := by omega
        go_enter Tryd.func6, Tryd.ntmps6
        go_wp2_with fail
        refine ca.mono ?_
        rintro e w1 ⟨rfl, hb1⟩
        go_wp2_with fail
        go_ret
        exact ⟨rfl, hb1⟩
  · have i0 : ¬ (60 : Int) < (len0 : Int) := by omega
    have i1 : ¬ (60 : Int) < (len1 : Int) := by omega
    have i2 : ¬ (60 : Int) < (len2 : Int) := by omega
    obtain ⟨l0, hl0, hrd0, hml0, hwf0⟩ := arg_ints w0
    obtain ⟨l1, hl1, hrd1, hml1, hwf1⟩ := arg_ints w1
    obtain ⟨l2, hl2, hrd2, hml2, hwf2⟩ := arg_ints w2
    have ct := table_ret a0 cap0 len0 l0 w hrd0 hl0 hml0 hwf0
    have hTok := @tab_ok l0
    have hTn := (tableP_ok l0).1
    clear w0 w1 w2 hrd0 hwf0
    obtain ⟨s0, hs0, hz0, hz1, hz2⟩ := info_parts info_int
    have HS := Lib.hid hs0
    have HZ := Lib.hid (And.intro hz0 (And.intro hz1 hz2))
    clear hs0 hz0 hz1 hz2
    have HR2 := Lib.hid hrd2
    have HW2 := Lib.hid hwf2
    have HL2 := Lib.hid hl2
    have CAT := Lib.hid (fun (W : World) (hb : Below w.heap.size w W) (u : Nat) (hu : u ≤ 1000) => by
      have h := atm_any a1 cap1 w.heap.size l1 u W (rdI_below hrd1 hb) (by rw [hl1]; exact hml1) (by omega)
      rwa [hl1] at h)
    have CPL := Lib.hid (fun (W : World) (u : Nat) => place_any (atM l1 u) 9 W (by omega) (by omega) (atm_bd hwf1 u).1 (atm_bd hwf1 u).2)
    clear hl0 hml0 hrd1 hrd2 hwf1 hwf2 hl1 hl2
    generalize tableP l0 = T at *
    have HTO := Lib.hid hTok
    clear hTok
    generalize hN : T.length = N at *
    have HN := Lib.hid hN
    clear hN
    go_enter Tryd.func6, Tryd.ntmps6
    go_wp2_with fail
    refine ct.mono ?_
    rintro e w1 ⟨⟨A', c', rfl, hc', hrT⟩, hb1⟩
    have HRT := Lib.hid hrT
    clear ct hrT
    go_wp2_with fail
    go_loopg [8, 9] N (fun k2 s8 s9 wr => ∃ k : Nat, k + k2 = N ∧ s9 = .int .i64 k ∧ wr.ownsRow w1.heap.size 3 1 s8 k ((limW l1 k).map (Value.int .i64)) ∧ Below w1.heap.size w1 wr)
    case atStart => exact ⟨0, by omega, rfl, World.ownsRow_nil _ _ _ _, Below.refl _ _⟩
    case round =>
      obtain ⟨k, hk, rfl, hown, hbel⟩ := hrel
      obtain ⟨Av, cv, rfl, hcv⟩ := own_slice hown
      have HOWN := Lib.hid hown
      by_cases hlt : k < N
      · have i3 : (k : Int) < (N : Int) := by omega
        have hbw := hb1.trans (hbel.mono hb1.size)
        have hat := CAT.out wr hbw k (by omega)
        have hpl := CPL.out wr k
        have HLS := Lib.hid (limW_succ l1 k)
        have HNX := Lib.hid (show nextN l1 k 9 = placeN (atM l1 k) 9 from rfl)
        have hzz := hbel.size
        generalize atM l1 k = am at *
        generalize placeN am 9 = pn at *
        rw [HNX.out] at HLS
        go_wp2_with fail
        refine hat.mono ?_
        rintro e w5 ⟨rfl, rfl⟩
        go_wp2_with fail
        refine hpl.mono ?_
        rintro e w5 ⟨rfl, rfl⟩
        clear hat hpl
        go_wp2_with (first | (at_builtin; refine wpList_append_grow wr rfl (.tmp 37) (.tmp 42) 22 rfl w1.heap.size 3 s0 _ 1 8 Tryd.underlying22 HS.out HZ.out.1 HZ.out.2.1 HZ.out.2.2 rfl (by omega) (.slice Av k cv) k _ [.int .i64 (pn : Nat)] rfl hown (by simp; rfl) (by simp [Act.eval, go_sem]) (by simp [Act.eval, go_sem]) (by omega) (by omega) (by omega) ?_; intro v5 w5 hown5 hg5) | fail)
        have hb5 : Below w1.heap.size wr w5 := (Below.refl _ _).grown hg5 (by omega) (fun g hg => (hown.lt g hg).1)
        have HO5 : Hid (w5.ownsRow w1.heap.size 3 1 v5 (k + 1) ((limW l1 (k + 1)).map (Value.int .i64))) := Lib.hid (by rw [HLS.out, List.map_append]; exact hown5)
        have hb55 := hbel.trans hb5
        clear hown5 hg5 hown hb5
        go_wp2_with fail
        go_roundg (N - (k + 1))
        case rel => exact ⟨k + 1, by omega, by go_num, HO5.out, hb55⟩
        case measure => omega
      · obtain rfl : k = N := by omega
        have hbw := hb1.trans (hbel.mono hb1.size)
        have hz0 := hb1.size
        have hz1 := hbel.size
        have hrl : RdI wr wr.heap.size Av (limW l1 k) := by
          obtain ⟨A9, c9, e9, hr9⟩ := rd_own hown
          cases e9
          unfold RdI
          rw [limW_len]
          exact hr9
        have hRT3 := rdT_more (rdT_below HRT.out hbel) hz1
        have cw := within_any A' Av c' cv wr.heap.size T (limW l1 k) wr hRT3 hrl (Nat.le_refl _) HTO.out (by rw [HN.out]; omega) (by rw [limW_len]; omega)
        rw [limW_len, HN.out] at cw
        have HLL := Lib.hid (limW_len l1 k)
        have HRL := Lib.hid hrl
        have HRT3 := Lib.hid hRT3
        clear hrl hRT3 hown
        generalize limW l1 k = L at *
        go_wp2_with fail
        refine cw.mono ?_
        rintro e w4 ⟨⟨vm, rfl, hm4⟩, hb4⟩
        have hbw4 := hbw.trans (hb4.mono hbw.size)
        obtain ⟨Am, cm, rfl, hcm⟩ := own_slice hm4
        have hrm : RdI w4 w4.heap.size Am (masksP T L k) := by
          obtain ⟨A9, c9, e9, hr9⟩ := rd_own hm4
          cases e9
          unfold RdI
          rw [masks_len]
          exact hr9
        have cc := cores_any a2 cap2 l2 k ⟨by omega, by omega⟩ w4 (rdI_more (rdI_below HR2.out hbw4) hbw4.size) (by rw [HL2.out]; exact hml2) HW2.out
        rw [HL2.out] at cc
        have hk1 := coresP_ok l2 (rows := k) (by omega)
        generalize coresP l2 k = K at *
        have HRM := Lib.hid hrm
        clear cw hm4 hrm
        go_wp2_with fail
        refine cc.mono ?_
        rintro e w5 ⟨⟨Ak, ck, rfl, hck, hrK⟩, hb5⟩
        have hbw5 := hbw4.trans (hb5.mono hbw4.size)
        have hz4 := hb4.size
        have hz5 := hb5.size
        have HRM5 := Lib.hid (rdI_below HRM.out hb5)
        have HRT5 := Lib.hid (rdT_below HRT3.out (hb4.trans (hb5.mono hz4)))
        have HRL5 := Lib.hid (rdI_below HRL.out (hb4.trans (hb5.mono hz4)))
        have HK5 := Lib.hid hrK
        have HX := Lib.hid hk1.2
        have HML := Lib.hid (masks_len T L k)
        have hm5 : K.length ≤ 5 := hk1.1
        generalize hmq : K.length = m1 at *
        have HM1 := Lib.hid hmq
        clear hmq cc hrK hk1
        go_wp2_with fail
        go_loopg [12, 13, 14] m1 (fun k2 s12 _ _ w6 => ∃ q : Nat, q + k2 = m1 ∧ s12 = .int .i64 q ∧ Below w5.heap.size w5 w6)
        case atStart => exact ⟨0, by omega, rfl, Below.refl _ _⟩
        case round =>
          obtain ⟨q, hq, rfl, hb6⟩ := hrel
          by_cases hql : q < m1
          · have i4 : (q : Int) < (m1 : Int) := by omega
            have hlc : q < K.length := by rw [HM1.out]; exact hql
            have hxk : K[q]? = some K[q] := List.getElem?_eq_getElem hlc
            have hmem := List.getElem_mem hlc
            generalize K[q] = core at *
            have hz6 := hb6.size
            obtain ⟨b, off, Ai, ci, rfl, hb, hcell, hci, hri⟩ := rdKK_at (rdKK_below HK5.out hb6) hxk
            obtain ⟨hx1, hx2⟩ := HX.out core hmem
            have HX2 := Lib.hid hx2
            have HNOT := Lib.hid (hits_not (t := T) L (c := core) fun x hx => by rw [HN.out]; exact (hx2 x hx).1)
            have HRI := Lib.hid hri
            have ch := Lib.hid (fun (W : World) (hb7 : Below wr.heap.size wr W) => hits_any A' Av Ai c' cv ci W.heap.size T L core W (rdT_more (rdT_below (rdT_below HRT5.out (hb6.mono (by omega))) (hb7.mono (by omega))) (by have := hb7.size; omega)) (rdI_more (rdI_below (rdI_below HRL5.out (hb6.mono (by omega))) (hb7.mono (by omega))) (by have := hb7.size; omega)) (rdK_more (rdK_below hri (hb7.mono (by omega))) (by have := hb7.size; omega)) (Nat.le_refl _) (by rw [HN.out]; omega) (fun r hr => (HTO.out r hr).1) (fun x hx => by have := hx2 x hx; omega) (by rw [HLL.out]; omega) (by omega))
            rw [HN.out, HLL.out, HNOT.out] at ch
            have hbq : b < wr.heap.size := by omega
            clear hxk hmem hlc hri hx2
            generalize hnx : core.length = nx at *
            have HNXX := Lib.hid hnx
            clear hnx
            go_wp2_with fail
            go_loopg [13, 14] nx (fun k3 s13 s14 w7 => ∃ j : Nat, j + k3 = nx ∧ s13 = .bool ((core.take j).all (tellsX T L)) ∧ s14 = .int .i64 j ∧ Below wr.heap.size wr w7)
            case atStart => exact ⟨0, by omega, rfl, rfl, Below.refl _ _⟩
            case round =>
              obtain ⟨j, hj, rfl, rfl, hb7⟩ := hrel
              have q0 := (hb7.cell (p := ⟨b, off + q, none⟩) hbq).trans hcell
              by_cases hjl : j < nx
              · have i5 : (j : Int) < (nx : Int) := by omega
                have hjc : j < core.length := by rw [HNXX.out]; exact hjl
                have hyj : core[j]? = some core[j] := List.getElem?_eq_getElem hjc
                have hym := List.getElem_mem hjc
                generalize core[j] = y at *
                obtain ⟨hy1, hy2⟩ := HX2.out y hym
                obtain ⟨bi, oi, rfl, hbi, hyc⟩ := rdK_below HRI.out (hb7.mono (by omega)) (by rw [HNXX.out]; omega)
                obtain ⟨k0, k1⟩ := hyc j y hyj
                have HSN := Lib.hid (all_snoc2 (p := tellsX T L) hyj)
                obtain ⟨bm, om, rfl, hbm, qm⟩ := rdI_at (rdI_below (rdI_below HRM5.out (hb6.mono (by omega))) (hb7.mono (by omega))) (k := y.u) (by rw [HML.out]; exact hy1)
                rw [masks_at T L hy1] at qm
                have hmu : maskU T L y.u < 32 := by
                  have h1 := mask_lt (T.getD y.u []) (L.getD y.u 0) (T.getD y.u []).length
                  have h2 : (T.getD y.u []).length ≤ 5 := by
                    rw [List.getD_eq_getElem?_getD, List.getElem?_eq_getElem (show y.u < T.length by rw [HN.out]; exact hy1)]
                    exact (HTO.out _ (List.getElem_mem _)).1.2
                  exact Nat.lt_of_lt_of_le h1 (Nat.le_trans (Nat.pow_le_pow_right (by omega) h2) (by decide))
                have ht := tells_any (maskU T L y.u) y.m wr.drew hmu hy2
                have hte : (tellsN (maskU T L y.u) y.m == 2) = tellsX T L y := by rw [← tells_two]; rfl
                clear hyc hyj hym hjc
                generalize tellsX T L y = tx at *
                generalize maskU T L y.u = mu at *
                obtain ⟨u, m⟩ := y
                dsimp only at *
                have i6 : (u : Int) < (k : Int) := by omega
                generalize tellsN mu m = tn at *
                generalize hal : (core.take j).all (tellsX T L) = al at *
                clear hal
                cases al with
                | true =>
                  go_wp2_with fail
                  refine wp_region_held_drew (S := fun W => W.cell? ⟨b, off + q, none⟩ = some (.slice (some ⟨bi, oi, none⟩) nx ci) ∧ W.cell? ⟨bi, oi + j * 2, none⟩ = some (.int .i64 (u : Nat)) ∧ W.cell? ⟨bi, oi + j * 2 + 1, none⟩ = some (.int .i64 (m : Nat)) ∧ W.cell? ⟨bm, om + u, none⟩ = some (.int .i64 (mu : Nat))) (by kernel_rfl) ⟨q0, k0, k1, qm⟩ (fun hHeld => ?_)
                  refine takeD (i := 0) (d := some 66) (v := ?_) rfl rfl (by kernel_rfl) (by kernel_rfl) (by kernel_rfl) (fun _ _ _ h => h) (Or.inl ⟨by rfl, ?_⟩) (by assumption) ?_
                  rotate_left
                  · intro wS hSw; (try dsimp only at hSw); go_simp; (try with_reducible rfl)
                  try simp only [Act.put, List.setIfInBounds_toArray, List.set_cons_zero, List.set_cons_succ]
                  refine takeD (i := 1) (d := some 67) (v := ?_) rfl rfl (by kernel_rfl) (by kernel_rfl) (by kernel_rfl) (fun _ _ _ h => h) (Or.inl ⟨by rfl, ?_⟩) (by assumption) ?_
                  rotate_left
                  · intro wS hSw; (try dsimp only at hSw); go_simp; (try with_reducible rfl)
                  try simp only [Act.put, List.setIfInBounds_toArray, List.set_cons_zero, List.set_cons_succ]
                  refine takeD (i := 2) (d := some 68) (v := ?_) rfl rfl (by kernel_rfl) (by kernel_rfl) (by kernel_rfl) (fun _ _ _ h => h) (Or.inl ⟨by rfl, ?_⟩) (by assumption) ?_
                  rotate_left
                  · intro wS hSw; (try dsimp only at hSw); go_simp; (try with_reducible rfl)
                  try simp only [Act.put, List.setIfInBounds_toArray, List.set_cons_zero, List.set_cons_succ]
                  refine takeD (i := 3) (d := some 69) (v := ?_) rfl rfl (by kernel_rfl) (by kernel_rfl) (by kernel_rfl) (fun _ _ _ h => h) (Or.inl ⟨by rfl, ?_⟩) (by assumption) ?_
                  rotate_left
                  · intro wS hSw; (try dsimp only at hSw); go_simp; (try with_reducible rfl)
                  try simp only [Act.put, List.setIfInBounds_toArray, List.set_cons_zero, List.set_cons_succ]
                  refine takeD (i := 4) (d := some 70) (v := ?_) rfl rfl (by kernel_rfl) (by kernel_rfl) (by kernel_rfl) (fun _ _ _ h => h) (Or.inl ⟨by rfl, ?_⟩) (by assumption) ?_
                  rotate_left
                  · intro wS hSw; (try dsimp only at hSw); go_simp; (try with_reducible rfl)
                  try simp only [Act.put, List.setIfInBounds_toArray, List.set_cons_zero, List.set_cons_succ]
                  refine takeD (i := 5) (d := some 71) (v := ?_) rfl rfl (by kernel_rfl) (by kernel_rfl) (by kernel_rfl) (fun _ _ _ h => h) (Or.inl ⟨by rfl, ?_⟩) (by assumption) ?_
                  rotate_left
                  · intro wS hSw; (try dsimp only at hSw); go_simp; (try with_reducible rfl)
                  try simp only [Act.put, List.setIfInBounds_toArray, List.set_cons_zero, List.set_cons_succ]
                  refine takeD (i := 6) (d := some 72) (v := ?_) rfl rfl (by kernel_rfl) (by kernel_rfl) (by kernel_rfl) (fun _ _ _ h => h) (Or.inl ⟨by rfl, ?_⟩) (by assumption) ?_
                  rotate_left
                  · intro wS hSw; (try dsimp only at hSw); go_simp; (try with_reducible rfl)
                  try simp only [Act.put, List.setIfInBounds_toArray, List.set_cons_zero, List.set_cons_succ]
                  refine takeD (i := 7) (d := some 73) (v := ?_) rfl rfl (by kernel_rfl) (by kernel_rfl) (by kernel_rfl) (fun _ _ _ h => h) (Or.inl ⟨by rfl, ?_⟩) (by assumption) ?_
                  rotate_left
                  · intro wS hSw; (try dsimp only at hSw); go_simp; (try with_reducible rfl)
                  try simp only [Act.put, List.setIfInBounds_toArray, List.set_cons_zero, List.set_cons_succ]
                  refine takeD (i := 8) (d := some 74) (v := ?_) rfl rfl (by kernel_rfl) (by kernel_rfl) (by kernel_rfl) (fun _ _ _ h => h) (Or.inl ⟨by rfl, ?_⟩) (by assumption) ?_
                  rotate_left
                  · intro wS hSw; (try dsimp only at hSw); go_simp; (try with_reducible rfl)
                  try simp only [Act.put, List.setIfInBounds_toArray, List.set_cons_zero, List.set_cons_succ]
                  refine takeD (i := 9) (d := some 75) (v := ?_) rfl rfl (by kernel_rfl) (by kernel_rfl) (by kernel_rfl) (fun _ _ _ h => h) (Or.inl ⟨by rfl, ?_⟩) (by assumption) ?_
                  rotate_left
                  · intro wS hSw; (try dsimp only at hSw); go_simp; (try with_reducible rfl)
                  try simp only [Act.put, List.setIfInBounds_toArray, List.set_cons_zero, List.set_cons_succ]
                  refine takeD (i := 10) (d := some 76) (v := ?_) rfl rfl (by kernel_rfl) (by kernel_rfl) (by kernel_rfl) (fun _ _ _ h => h) (Or.inl ⟨by rfl, ?_⟩) (by assumption) ?_
                  rotate_left
                  · intro wS hSw; (try dsimp only at hSw); go_simp; (try with_reducible rfl)
                  try simp only [Act.put, List.setIfInBounds_toArray, List.set_cons_zero, List.set_cons_succ]
                  refine takeD (i := 11) (d := some 77) (v := ?_) rfl rfl (by kernel_rfl) (by kernel_rfl) (by kernel_rfl) (fun _ _ _ h => h) (Or.inl ⟨by rfl, ?_⟩) (by assumption) ?_
                  rotate_left
                  · intro wS hSw; (try dsimp only at hSw); go_simp; (try with_reducible rfl)
                  try simp only [Act.put, List.setIfInBounds_toArray, List.set_cons_zero, List.set_cons_succ]
                  refine takeD (i := 12) (d := some 78) (v := ?_) rfl rfl (by kernel_rfl) (by kernel_rfl) (by kernel_rfl) (fun _ _ _ h => h) (Or.inl ⟨by rfl, ?_⟩) (by assumption) ?_
                  rotate_left
                  · intro wS hSw; (try dsimp only at hSw); go_simp; (try with_reducible rfl)
                  try simp only [Act.put, List.setIfInBounds_toArray, List.set_cons_zero, List.set_cons_succ]
                  refine takeD (i := 13) (d := some 79) (v := ?_) rfl rfl (by kernel_rfl) (by kernel_rfl) (by kernel_rfl) (fun _ _ _ h => h) (Or.inl ⟨by rfl, ?_⟩) (by assumption) ?_
                  rotate_left
                  · intro wS hSw; (try dsimp only at hSw); go_simp; (try with_reducible rfl)
                  try simp only [Act.put, List.setIfInBounds_toArray, List.set_cons_zero, List.set_cons_succ]
                  refine takeD (i := 14) (d := some 80) (v := ?_) rfl rfl (by kernel_rfl) (by kernel_rfl) (by kernel_rfl) (fun _ _ _ h => h) (Or.inl ⟨by rfl, ?_⟩) (by assumption) ?_
                  rotate_left
                  · intro wS hSw; (try dsimp only at hSw); go_simp; (try with_reducible rfl)
                  try simp only [Act.put, List.setIfInBounds_toArray, List.set_cons_zero, List.set_cons_succ]
                  refine takeD (i := 15) (d := some 81) (v := ?_) rfl rfl (by kernel_rfl) (by kernel_rfl) (by kernel_rfl) (fun _ _ _ h => h) (Or.inl ⟨by rfl, ?_⟩) (by assumption) ?_
                  rotate_left
                  · intro wS hSw; (try dsimp only at hSw); go_simp; (try with_reducible rfl)
                  try simp only [Act.put, List.setIfInBounds_toArray, List.set_cons_zero, List.set_cons_succ]
                  refine takeD (i := 16) (d := some 82) (v := ?_) rfl rfl (by kernel_rfl) (by kernel_rfl) (by kernel_rfl) (fun _ _ _ h => h) (Or.inl ⟨by rfl, ?_⟩) (by assumption) ?_
                  rotate_left
                  · intro wS hSw; (try dsimp only at hSw); go_simp; (try with_reducible rfl)
                  try simp only [Act.put, List.setIfInBounds_toArray, List.set_cons_zero, List.set_cons_succ]
                  refine takeD (i := 17) (d := some 83) (v := ?_) rfl rfl (by kernel_rfl) (by kernel_rfl) (by kernel_rfl) (fun _ _ _ h => h) (Or.inl ⟨by rfl, ?_⟩) (by assumption) ?_
                  rotate_left
                  · intro wS hSw; (try dsimp only at hSw); go_simp; (try with_reducible rfl)
                  try simp only [Act.put, List.setIfInBounds_toArray, List.set_cons_zero, List.set_cons_succ]
                  refine takeD (i := 18) (d := some 84) (v := ?_) rfl rfl (by kernel_rfl) (by kernel_rfl) (by kernel_rfl) (fun _ _ _ h => h) (Or.inl ⟨by rfl, ?_⟩) (by assumption) ?_
                  rotate_left
                  · intro wS hSw; (try dsimp only at hSw); go_simp; (try with_reducible rfl)
                  try simp only [Act.put, List.setIfInBounds_toArray, List.set_cons_zero, List.set_cons_succ]
                  refine takeD (i := 19) (d := some 85) (v := ?_) rfl rfl (by kernel_rfl) (by kernel_rfl) (by kernel_rfl) (fun _ _ _ h => h) (Or.inl ⟨by rfl, ?_⟩) (by assumption) ?_
                  rotate_left
                  · intro wS hSw; (try dsimp only at hSw); go_simp; (try with_reducible rfl)
                  try simp only [Act.put, List.setIfInBounds_toArray, List.set_cons_zero, List.set_cons_succ]
                  refine takeD (i := 20) (d := some 86) (v := ?_) rfl rfl (by kernel_rfl) (by kernel_rfl) (by kernel_rfl) (fun _ _ _ h => h) (Or.inl ⟨by rfl, ?_⟩) (by assumption) ?_
                  rotate_left
                  · intro wS hSw; (try dsimp only at hSw); go_simp; (try with_reducible rfl)
                  try simp only [Act.put, List.setIfInBounds_toArray, List.set_cons_zero, List.set_cons_succ]
                  refine wpAnyH_ready (rs := [21]) (by kernel_rfl) (by simp) ?_
                  refine consD (d := some 87) rfl rfl (fun K hK => ?_) AllReadyH.nil
                  go_simp
                  (go_at_call 20; (with_reducible refine ht.mono ?_); rintro e w8 ⟨rfl, rfl⟩)
                  refine hK.out _ _ ⟨q0, k0, k1, qm⟩ (fun hHeld => ?_)
                  clear hK K
                  try simp only [Act.put, List.setIfInBounds_toArray, List.set_cons_zero, List.set_cons_succ]
                  refine takeD (i := 22) (d := some 88) (v := .bool tx) rfl rfl (by kernel_rfl) (by kernel_rfl) (by kernel_rfl) (fun _ _ _ h => h) (Or.inl ⟨by rfl, ?_⟩) (by assumption) ?_
                  · intro wS hSw; (try dsimp only at hSw); go_simp; (try simp [hte]); (try with_reducible rfl)
                  try simp only [Act.put, List.setIfInBounds_toArray, List.set_cons_zero, List.set_cons_succ]
                  refine takeD (i := 23) (d := some 89) (v := ?_) rfl rfl (by kernel_rfl) (by kernel_rfl) (by kernel_rfl) (fun _ _ _ h => h) (Or.inl ⟨by rfl, ?_⟩) (by assumption) ?_
                  rotate_left
                  · intro wS hSw; (try dsimp only at hSw); go_simp; (try with_reducible rfl)
                  try simp only [Act.put, List.setIfInBounds_toArray, List.set_cons_zero, List.set_cons_succ]
                  refine takeD (i := 24) (d := some 13) (v := ?_) rfl rfl (by kernel_rfl) (by kernel_rfl) (by kernel_rfl) (fun _ _ _ h => h) (Or.inl ⟨by rfl, ?_⟩) (by assumption) ?_
                  rotate_left
                  · intro wS hSw; (try dsimp only at hSw); go_simp; (try with_reducible rfl)
                  try simp only [Act.put, List.setIfInBounds_toArray, List.set_cons_zero, List.set_cons_succ]
                  refine wpAnyH_done (by kernel_rfl) ?_ _
                  go_wp2_with fail
                  go_roundg (nx - (j + 1))
                  case rel => exact ⟨j + 1, by omega, by rw [HSN.out]; rfl, by go_num, hb7.drew⟩
                  case measure => omega
                | false =>
                  go_wp2_with fail
                  refine wp_region_held_drew (S := fun W => W.cell? ⟨b, off + q, none⟩ = some (.slice (some ⟨bi, oi, none⟩) nx ci) ∧ W.cell? ⟨bi, oi + j * 2, none⟩ = some (.int .i64 (u : Nat)) ∧ W.cell? ⟨bi, oi + j * 2 + 1, none⟩ = some (.int .i64 (m : Nat)) ∧ W.cell? ⟨bm, om + u, none⟩ = some (.int .i64 (mu : Nat))) (by kernel_rfl) ⟨q0, k0, k1, qm⟩ (fun hHeld => ?_)
                  refine takeD (i := 0) (d := some 66) (v := ?_) rfl rfl (by kernel_rfl) (by kernel_rfl) (by kernel_rfl) (fun _ _ _ h => h) (Or.inl ⟨by rfl, ?_⟩) (by assumption) ?_
                  rotate_left
                  · intro wS hSw; (try dsimp only at hSw); go_simp; (try with_reducible rfl)
                  try simp only [Act.put, List.setIfInBounds_toArray, List.set_cons_zero, List.set_cons_succ]
                  refine takeD (i := 1) (d := some 67) (v := ?_) rfl rfl (by kernel_rfl) (by kernel_rfl) (by kernel_rfl) (fun _ _ _ h => h) (Or.inl ⟨by rfl, ?_⟩) (by assumption) ?_
                  rotate_left
                  · intro wS hSw; (try dsimp only at hSw); go_simp; (try with_reducible rfl)
                  try simp only [Act.put, List.setIfInBounds_toArray, List.set_cons_zero, List.set_cons_succ]
                  refine takeD (i := 2) (d := some 68) (v := undef) rfl rfl (by kernel_rfl) (by kernel_rfl) (by kernel_rfl) (fun _ _ _ h => h) (Or.inr ⟨by kernel_rfl, rfl⟩) (by assumption) ?_
                  try simp only [Act.put, List.setIfInBounds_toArray, List.set_cons_zero, List.set_cons_succ]
                  refine takeD (i := 3) (d := some 69) (v := undef) rfl rfl (by kernel_rfl) (by kernel_rfl) (by kernel_rfl) (fun _ _ _ h => h) (Or.inr ⟨by kernel_rfl, rfl⟩) (by assumption) ?_
                  try simp only [Act.put, List.setIfInBounds_toArray, List.set_cons_zero, List.set_cons_succ]
                  refine takeD (i := 4) (d := some 70) (v := undef) rfl rfl (by kernel_rfl) (by kernel_rfl) (by kernel_rfl) (fun _ _ _ h => h) (Or.inr ⟨by kernel_rfl, rfl⟩) (by assumption) ?_
                  try simp only [Act.put, List.setIfInBounds_toArray, List.set_cons_zero, List.set_cons_succ]
                  refine takeD (i := 5) (d := some 71) (v := undef) rfl rfl (by kernel_rfl) (by kernel_rfl) (by kernel_rfl) (fun _ _ _ h => h) (Or.inr ⟨by kernel_rfl, rfl⟩) (by assumption) ?_
                  try simp only [Act.put, List.setIfInBounds_toArray, List.set_cons_zero, List.set_cons_succ]
                  refine takeD (i := 6) (d := some 72) (v := undef) rfl rfl (by kernel_rfl) (by kernel_rfl) (by kernel_rfl) (fun _ _ _ h => h) (Or.inr ⟨by kernel_rfl, rfl⟩) (by assumption) ?_
                  try simp only [Act.put, List.setIfInBounds_toArray, List.set_cons_zero, List.set_cons_succ]
                  refine takeD (i := 7) (d := some 73) (v := undef) rfl rfl (by kernel_rfl) (by kernel_rfl) (by kernel_rfl) (fun _ _ _ h => h) (Or.inr ⟨by kernel_rfl, rfl⟩) (by assumption) ?_
                  try simp only [Act.put, List.setIfInBounds_toArray, List.set_cons_zero, List.set_cons_succ]
                  refine takeD (i := 8) (d := some 74) (v := undef) rfl rfl (by kernel_rfl) (by kernel_rfl) (by kernel_rfl) (fun _ _ _ h => h) (Or.inr ⟨by kernel_rfl, rfl⟩) (by assumption) ?_
                  try simp only [Act.put, List.setIfInBounds_toArray, List.set_cons_zero, List.set_cons_succ]
                  refine takeD (i := 9) (d := some 75) (v := undef) rfl rfl (by kernel_rfl) (by kernel_rfl) (by kernel_rfl) (fun _ _ _ h => h) (Or.inr ⟨by kernel_rfl, rfl⟩) (by assumption) ?_
                  try simp only [Act.put, List.setIfInBounds_toArray, List.set_cons_zero, List.set_cons_succ]
                  refine takeD (i := 10) (d := some 76) (v := undef) rfl rfl (by kernel_rfl) (by kernel_rfl) (by kernel_rfl) (fun _ _ _ h => h) (Or.inr ⟨by kernel_rfl, rfl⟩) (by assumption) ?_
                  try simp only [Act.put, List.setIfInBounds_toArray, List.set_cons_zero, List.set_cons_succ]
                  refine takeD (i := 11) (d := some 77) (v := undef) rfl rfl (by kernel_rfl) (by kernel_rfl) (by kernel_rfl) (fun _ _ _ h => h) (Or.inr ⟨by kernel_rfl, rfl⟩) (by assumption) ?_
                  try simp only [Act.put, List.setIfInBounds_toArray, List.set_cons_zero, List.set_cons_succ]
                  refine takeD (i := 12) (d := some 78) (v := undef) rfl rfl (by kernel_rfl) (by kernel_rfl) (by kernel_rfl) (fun _ _ _ h => h) (Or.inr ⟨by kernel_rfl, rfl⟩) (by assumption) ?_
                  try simp only [Act.put, List.setIfInBounds_toArray, List.set_cons_zero, List.set_cons_succ]
                  refine takeD (i := 13) (d := some 79) (v := undef) rfl rfl (by kernel_rfl) (by kernel_rfl) (by kernel_rfl) (fun _ _ _ h => h) (Or.inr ⟨by kernel_rfl, rfl⟩) (by assumption) ?_
                  try simp only [Act.put, List.setIfInBounds_toArray, List.set_cons_zero, List.set_cons_succ]
                  refine takeD (i := 14) (d := some 80) (v := undef) rfl rfl (by kernel_rfl) (by kernel_rfl) (by kernel_rfl) (fun _ _ _ h => h) (Or.inr ⟨by kernel_rfl, rfl⟩) (by assumption) ?_
                  try simp only [Act.put, List.setIfInBounds_toArray, List.set_cons_zero, List.set_cons_succ]
                  refine takeD (i := 15) (d := some 81) (v := undef) rfl rfl (by kernel_rfl) (by kernel_rfl) (by kernel_rfl) (fun _ _ _ h => h) (Or.inr ⟨by kernel_rfl, rfl⟩) (by assumption) ?_
                  try simp only [Act.put, List.setIfInBounds_toArray, List.set_cons_zero, List.set_cons_succ]
                  refine takeD (i := 16) (d := some 82) (v := undef) rfl rfl (by kernel_rfl) (by kernel_rfl) (by kernel_rfl) (fun _ _ _ h => h) (Or.inr ⟨by kernel_rfl, rfl⟩) (by assumption) ?_
                  try simp only [Act.put, List.setIfInBounds_toArray, List.set_cons_zero, List.set_cons_succ]
                  refine takeD (i := 17) (d := some 83) (v := undef) rfl rfl (by kernel_rfl) (by kernel_rfl) (by kernel_rfl) (fun _ _ _ h => h) (Or.inr ⟨by kernel_rfl, rfl⟩) (by assumption) ?_
                  try simp only [Act.put, List.setIfInBounds_toArray, List.set_cons_zero, List.set_cons_succ]
                  refine takeD (i := 18) (d := some 84) (v := undef) rfl rfl (by kernel_rfl) (by kernel_rfl) (by kernel_rfl) (fun _ _ _ h => h) (Or.inr ⟨by kernel_rfl, rfl⟩) (by assumption) ?_
                  try simp only [Act.put, List.setIfInBounds_toArray, List.set_cons_zero, List.set_cons_succ]
                  refine takeD (i := 19) (d := some 85) (v := undef) rfl rfl (by kernel_rfl) (by kernel_rfl) (by kernel_rfl) (fun _ _ _ h => h) (Or.inr ⟨by kernel_rfl, rfl⟩) (by assumption) ?_
                  try simp only [Act.put, List.setIfInBounds_toArray, List.set_cons_zero, List.set_cons_succ]
                  refine takeD (i := 20) (d := some 86) (v := undef) rfl rfl (by kernel_rfl) (by kernel_rfl) (by kernel_rfl) (fun _ _ _ h => h) (Or.inr ⟨by kernel_rfl, rfl⟩) (by assumption) ?_
                  try simp only [Act.put, List.setIfInBounds_toArray, List.set_cons_zero, List.set_cons_succ]
                  refine takeD (i := 21) (d := some 87) (v := undef) rfl rfl (by kernel_rfl) (by kernel_rfl) (by kernel_rfl) (fun _ _ _ h => h) (Or.inr ⟨by kernel_rfl, rfl⟩) (by assumption) ?_
                  try simp only [Act.put, List.setIfInBounds_toArray, List.set_cons_zero, List.set_cons_succ]
                  refine takeD (i := 22) (d := some 88) (v := undef) rfl rfl (by kernel_rfl) (by kernel_rfl) (by kernel_rfl) (fun _ _ _ h => h) (Or.inr ⟨by kernel_rfl, rfl⟩) (by assumption) ?_
                  try simp only [Act.put, List.setIfInBounds_toArray, List.set_cons_zero, List.set_cons_succ]
                  refine takeD (i := 23) (d := some 89) (v := ?_) rfl rfl (by kernel_rfl) (by kernel_rfl) (by kernel_rfl) (fun _ _ _ h => h) (Or.inl ⟨by rfl, ?_⟩) (by assumption) ?_
                  rotate_left
                  · intro wS hSw; (try dsimp only at hSw); go_simp; (try with_reducible rfl)
                  try simp only [Act.put, List.setIfInBounds_toArray, List.set_cons_zero, List.set_cons_succ]
                  refine takeD (i := 24) (d := some 13) (v := ?_) rfl rfl (by kernel_rfl) (by kernel_rfl) (by kernel_rfl) (fun _ _ _ h => h) (Or.inl ⟨by rfl, ?_⟩) (by assumption) ?_
                  rotate_left
                  · intro wS hSw; (try dsimp only at hSw); go_simp; (try with_reducible rfl)
                  try simp only [Act.put, List.setIfInBounds_toArray, List.set_cons_zero, List.set_cons_succ]
                  refine wpAnyH_done (by kernel_rfl) ?_ _
                  go_wp2_with fail
                  go_roundg (nx - (j + 1))
                  case rel => exact ⟨j + 1, by omega, by rw [HSN.out]; rfl, by go_num, hb7.drew⟩
                  case measure => omega
              · obtain rfl : j = nx := by omega
                have hf : (core.take j).all (tellsX T L) = core.all (tellsX T L) := by rw [List.take_of_length_le (by rw [HNXX.out]; exact Nat.le_refl _)]
                rw [hf]
                have chh := ch.out wr hb7
                generalize core.all (tellsX T L) = al at *
                clear hf
                have hbz := hbw5.trans (hb6.mono hbw5.size)
                cases al with
                | true =>
                  go_wp2_with fail
                  refine chh.mono ?_
                  rintro e w8 ⟨rfl, hb8⟩
                  go_wp2_with fail
                  go_roundg (m1 - (q + 1))
                  case rel => exact ⟨q + 1, by omega, by go_num, hb6.trans ((hb7.trans (hb8.mono hb7.size)).mono hz6)⟩
                  case measure => omega
                | false =>
                  go_wp2_with fail
                  refine chh.mono ?_
                  rintro e w8 ⟨rfl, hb8⟩
                  go_wp2_with fail
                  go_roundg (m1 - (q + 1))
                  case rel => exact ⟨q + 1, by omega, by go_num, hb6.trans ((hb7.trans (hb8.mono hb7.size)).mono hz6)⟩
                  case measure => omega
          · obtain rfl : q = m1 := by omega
            have hbz := hbw5.trans (hb6.mono hbw5.size)
            have cq := awake_any wr (HTAB.out _ hbz)
            go_wp2_with fail
            refine cq.mono ?_
            rintro e w9 ⟨rfl, hb9⟩
            go_wp2_with fail
            go_ret
            exact ⟨rfl, hbz.trans (hb9.mono hbz.size)⟩

set_option maxRecDepth 100000 in
theorem lifted (os : Os) (started : os.Started) (H : Type) (enc : TypeId × Value → H) :
    ReturnsInHanded {} Tryd.checked os 6 .any (fun w args => (Rows.hitWithinSpec.pre enc Tryd.prog Tryd.f6 [] false w args ∧ laidMetH Tryd.prog Rows.hitWithinRow.laid w) ∧ sizedMet enc Tryd.prog Tryd.f6 (OpenSpec.ofChange Rows.hitWithinSpec) false w args) (Rows.hitWithinSpec.post enc Tryd.prog Tryd.f6 false true false false) := by
  refine returnsInHanded_of_change_and (C := Tryd.checked) (X := fun w _ => laidMetH Tryd.prog Rows.hitWithinRow.laid w) (fun _ _ _ hh h => h.of_heap hh) own started (by kernel_rfl) Tryd.func6
    (ChangeSpec.witness_shaped (enc := enc) (C := Tryd.checked) (os := os) (X := fun w _ => laidMetH Tryd.prog Rows.hitWithinRow.laid w) false (World.doorLaid Tryd.prog 400 os) #[.slice none 0 0, .slice none 0 0, .slice none 0 0] 8 rfl (World.shaped_of_RefB (by kernel_rfl) (by kernel_rfl)) (by kernel_rfl) (by kernel_rfl) (by kernel_rfl)
      (laidMetH_of_parts3 (fuel := 8) (laidMet_of_run' 8 (by kernel_rfl) (by kernel_rfl)) (by kernel_rfl) (by kernel_rfl))) ?_
  intro W base args ds gs before hval0 hW _ _ hL _
  have hval : ∀ (j : Nat) t v, Tryd.f6.params[j]? = some t → args[j]? = some v → Value.okWide Tryd.prog W .any base t v := hval0
  have hW' := hW
  obtain ⟨p, q, hA0, hV, rfl, hfz, hnd⟩ := hW
  have hA : DataW.TrodAll enc Tryd.prog W 0 (fun _ => true) true Tryd.f6.params.toList args.toList ds p := hA0
  rw [Tryd.params6] at hA hval
  obtain ⟨v0, vs0, d0, ds0, p0, q0, hargs, rfl, rfl, h0, r0⟩ := trodAll_cons hA
  obtain ⟨v1, vs1, d1, ds1, p1, q1, rfl, rfl, rfl, h1, r1⟩ := trodAll_cons r0
  obtain ⟨v2, vs2, d2, ds2, p2, q2, rfl, rfl, rfl, h2, r2⟩ := trodAll_cons r1
  obtain ⟨rfl, rfl, rfl⟩ := trodAll_nil r2
  obtain rfl : args = #[v0, v1, v2] := by cases args; simp_all
  obtain ⟨rfl, rfl⟩ := trodVars_none hV
  obtain ⟨a0, len0, cap0, rfl⟩ := okWide_slice Tryd.underlying22 (hval 0 22 v0 rfl rfl)
  have k0 := h0
  have lt0 : ∀ x ∈ p0, x.block < W.heap.size := by obtain ⟨m, hm⟩ := k0; exact DataW.trod_lt m _ _ _ hm
  obtain ⟨z0, w0⟩ : ∃ zs, IsRow .i64 W a0 len0 cap0 zs := by
    obtain ⟨fuel, hf⟩ := h0
    rcases open_ints Tryd.underlying22 Tryd.underlying3 (by kernel_rfl) hf with ⟨hcs, _⟩ | ⟨x, l, c, zs, hcs, _, hl, hm, hz, _, hcell, hwz⟩
    · simp [Value.cells] at hcs
      obtain ⟨rfl, rfl, rfl⟩ := hcs
      exact ⟨[], .inl ⟨rfl, rfl, rfl, rfl⟩⟩
    · simp [Value.cells] at hcs
      obtain ⟨rfl, rfl, rfl⟩ := hcs
      exact ⟨zs, .inr ⟨_, rfl, hl, hm, by simpa using hz, hcell, hwz⟩⟩
  obtain ⟨a1, len1, cap1, rfl⟩ := okWide_slice Tryd.underlying22 (hval 1 22 v1 rfl rfl)
  have k1 := h1
  have lt1 : ∀ x ∈ p1, x.block < W.heap.size := by obtain ⟨m, hm⟩ := k1; exact DataW.trod_lt m _ _ _ hm
  obtain ⟨z1, w1⟩ : ∃ zs, IsRow .i64 W a1 len1 cap1 zs := by
    obtain ⟨fuel, hf⟩ := h1
    rcases open_ints Tryd.underlying22 Tryd.underlying3 (by kernel_rfl) hf with ⟨hcs, _⟩ | ⟨x, l, c, zs, hcs, _, hl, hm, hz, _, hcell, hwz⟩
    · simp [Value.cells] at hcs
      obtain ⟨rfl, rfl, rfl⟩ := hcs
      exact ⟨[], .inl ⟨rfl, rfl, rfl, rfl⟩⟩
    · simp [Value.cells] at hcs
      obtain ⟨rfl, rfl, rfl⟩ := hcs
      exact ⟨zs, .inr ⟨_, rfl, hl, hm, by simpa using hz, hcell, hwz⟩⟩
  obtain ⟨a2, len2, cap2, rfl⟩ := okWide_slice Tryd.underlying22 (hval 2 22 v2 rfl rfl)
  have k2 := h2
  have lt2 : ∀ x ∈ p2, x.block < W.heap.size := by obtain ⟨m, hm⟩ := k2; exact DataW.trod_lt m _ _ _ hm
  obtain ⟨z2, w2⟩ : ∃ zs, IsRow .i64 W a2 len2 cap2 zs := by
    obtain ⟨fuel, hf⟩ := h2
    rcases open_ints Tryd.underlying22 Tryd.underlying3 (by kernel_rfl) hf with ⟨hcs, _⟩ | ⟨x, l, c, zs, hcs, _, hl, hm, hz, _, hcell, hwz⟩
    · simp [Value.cells] at hcs
      obtain ⟨rfl, rfl, rfl⟩ := hcs
      exact ⟨[], .inl ⟨rfl, rfl, rfl, rfl⟩⟩
    · simp [Value.cells] at hcs
      obtain ⟨rfl, rfl, rfl⟩ := hcs
      exact ⟨zs, .inr ⟨_, rfl, hl, hm, by simpa using hz, hcell, hwz⟩⟩
  clear hA0 hval0
  refine (walk a0 len0 cap0 z0 a1 len1 cap1 z1 a2 len2 cap2 z2 W w0 w1 w2 (tab_of hL (by kernel_rfl) (MakeChecks.laidMetH_plain _ _ _ (by kernel_rfl)))).mono fun e W' ⟨he, bel⟩ => ?_
  subst he
  exact ⟨_, rfl, _, _, _, [], _, [], hW', trodAll_mk1 (shut_bool Tryd.underlying4 _), (trodAll_cons_mk (Below.trod laidOut (by kernel_rfl) (of_decide_eq_true (by kernel_rfl)) k0 bel lt0) (trodAll_cons_mk (Below.trod laidOut (by kernel_rfl) (of_decide_eq_true (by kernel_rfl)) k1 bel lt1) (trodAll_cons_mk (Below.trod laidOut (by kernel_rfl) (of_decide_eq_true (by kernel_rfl)) k2 bel lt2) trodAll_mk0))), rfl, bel.frame _, fun h => by cases h⟩

theorem over : Rows.hitWithinRow.holds Tryd.pinned (OpenSpec.ofChange Rows.hitWithinSpec) :=
  OpenClaim.holds_of_wide 6 Tryd.f6 rfl rfl rfl rfl rfl rfl rfl ⟨rfl, rfl, rfl, rfl, rfl⟩ rfl rfl rfl rfl rfl (by kernel_rfl) Tryd.func6 (by kernel_rfl)
    (of_decide_eq_true (by kernel_rfl)) (by unfold Func.isWrapper; first | (rw [if_pos (by decide +kernel)]; kernel_rfl) | (rw [if_neg (by decide +kernel)]; exact ⟨rfl, rfl⟩))
    (fun os started H enc _ => lifted os started H enc)

theorem proved : Rows.HitWithinSaid := over
theorem plain (f : FuncId) (fn : Func) (hf : Tryd.pinned.checked.prog.funcNamed "linchpin/linchpinlaw36.HitWithin" = some f) (hfn : Tryd.pinned.checked.prog.funcs[f]? = some fn) :
    false = Tryd.pinned.checked.prog.looks [] ∧ ∀ (j : Nat) t, fn.params[j]? = some t → Tryd.pinned.checked.prog.wantsStandIn t = false := by
  obtain rfl : f = 6 := Option.some.inj ((show Tryd.prog.funcNamed "linchpin/linchpinlaw36.HitWithin" = some 6 by kernel_rfl).symm.trans hf) |>.symm
  obtain rfl : fn = Tryd.f6 := (Option.some.inj (Tryd.func6.symm.trans hfn)).symm
  refine ⟨by kernel_rfl, fun j t ht => ?_⟩
  rw [Tryd.params6] at ht
  have hm : t ∈ [22, 22, 22] := by simpa using Array.mem_of_getElem? ht
  have hall : ([22, 22, 22].all fun u => !Tryd.prog.wantsStandIn u) = true := by kernel_rfl
  exact (show Tryd.prog.wantsStandIn t = false by simpa using List.all_eq_true.1 hall t hm)

theorem card : Rows.HitWithinCardSaid :=
  Claim7.holds_tied_plain_at .later [] _ _ _ _ proved (fun _ h => by cases h) (by kernel_rfl) (fun _ h => by cases h) hitWithin_row_tie rfl ⟨rfl, rfl⟩ (by kernel_rfl) rfl plain (by kernel_rfl)
#print axioms card
end Go.Proofs.YtmfdpdnokiidlaaDoor.hitWithin
