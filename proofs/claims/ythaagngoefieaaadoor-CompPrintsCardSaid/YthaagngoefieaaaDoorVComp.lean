/-
  The walk of chapter 2's Compare, the program's: versions that may be, with cores that differ; and the whole. Conditions: Pre and Build have at most 1048576 bytes.
-/
import Derived.Test.YthaagngoefieaaaDoorVCompB
namespace Go.Proofs.YthaagngoefieaaaDoor
open Go.ChangeShapes Go.WideShapes Go.ChangeAt Go.RowKit
set_option linter.unusedVariables false

theorem ten_drew {w W : World} {x0 x1 x2 x3 x4 y0 y1 y2 y3 y4 : Value} (h : Ten w W x0 x1 x2 x3 x4 y0 y1 y2 y3 y4) : Ten w W.drew x0 x1 x2 x3 x4 y0 y1 y2 y3 y4 :=
  ⟨h.1, h.2.1, h.2.2.1, h.2.2.2.1, h.2.2.2.2.1, h.2.2.2.2.2.1, h.2.2.2.2.2.2.1, h.2.2.2.2.2.2.2.1, h.2.2.2.2.2.2.2.2.1, h.2.2.2.2.2.2.2.2.2.1, h.2.2.2.2.2.2.2.2.2.2.1, below_drewN h.2.2.2.2.2.2.2.2.2.2.2 1⟩
theorem rd_more {w : World} {B B' n : Nat} {A : Option Addr} {xs : List Value} (h : Rd w B A n xs) (hB : B ≤ B') : Rd w B' A n xs := by
  refine ⟨h.1, fun hn => ?_⟩
  obtain ⟨b, off, e, hlt, hc⟩ := h.2 hn
  exact ⟨b, off, e, by omega, hc⟩
/-- Two lists of texts in memory. -/
def Splitted (w W : World) (x y : Value) (ps qs : List (List UInt8)) : Prop :=
  ∃ A c A' c', x = .slice A ps.length c ∧ y = .slice A' qs.length c' ∧ Rd W W.heap.size A ps.length (BS ps) ∧ Rd W W.heap.size A' qs.length (BS qs) ∧ Below w.heap.size w W

set_option maxRecDepth 8192 in
set_option maxHeartbeats 8000000 in
theorem compare_main (a b c : Int) (p q : ByteArray) (a' b' c' : Int) (p' q' : ByteArray) (w : World) (hp : p.size ≤ 1048576) (hq : q.size ≤ 1048576) (hp' : p'.size ≤ 1048576) (hq' : q'.size ≤ 1048576) (hx : mayV (verS a b c p q) = true) (hy : mayV (verS a' b' c' p' q') = true) (he : eqV a b c p ⟨#[]⟩ a' b' c' p' ⟨#[]⟩ = false) :
    Calls Tryd.prog 20 #[.agg #[.int .i64 a, .int .i64 b, .int .i64 c, .string p, .string q], .agg #[.int .i64 a', .int .i64 b', .int .i64 c', .string p', .string q']] w fun e w' => e = .returned (.int .i64 (compV (verS a b c p q) (verS a' b' c' p' q'))) ∧ Below w.heap.size w w' := by
  have m1 := fun W => may_any a b c p q W hp hq
  have m2 := fun W => may_any a' b' c' p' q' W hp' hq'
  have HC := Lib.hid (comp_yes hx hy)
  have HPRE := Lib.hid (core_pre he)
  rw [hx] at m1
  rw [hy] at m2
  have heq : ∀ W, (binOp .eql 24 (.agg #[.int .i64 a, .int .i64 b, .int .i64 c, .string p, .string ⟨#[]⟩]) (.agg #[.int .i64 a', .int .i64 b', .int .i64 c', .string p', .string ⟨#[]⟩])).run Tryd.prog W = .ok (.bool false) W := fun W => by rw [run_eqV, he]
  clear hx hy he
  generalize compV (verS a b c p q) (verS a' b' c' p' q') = R at *
  dsimp only [verS] at HC
  go_enter Tryd.func20, Tryd.ntmps20
  go_wp2
  generalize hwb : (w.alloc (.cells #[.int .i64 a, .int .i64 b, .int .i64 c, .string p, .string q] 24)).alloc (.cells #[.int .i64 a', .int .i64 b', .int .i64 c', .string p', .string q'] 24) = wb
  have hbb : Below w.heap.size w wb := by rw [← hwb]; exact two_below _ _ _
  have hlb : w.heap.size + 1 < wb.heap.size := by rw [← hwb]; simp
  have h55 := two_five w (.int .i64 a) (.int .i64 b) (.int .i64 c) (.string p) (.string q) (.int .i64 a') (.int .i64 b') (.int .i64 c') (.string p') (.string q') 24 24 (w1 := wb) (B := w.heap.size + 2) (by rw [hwb]; exact Below.refl _ _) (Nat.le_refl _)
  clear hwb
  obtain ⟨⟨k0, k1, k2, k3, k4⟩, ⟨l0, l1, l2, l3, l4⟩⟩ := h55
  have hB2 : Below w.heap.size w wb.drew := below_drewN hbb 1
  go_cut [24] from 10 to 24 (fun v wx => v = .bool false ∧ Ten w wx (.int .i64 a) (.int .i64 b) (.int .i64 c) (.string p) (.string q) (.int .i64 a') (.int .i64 b') (.int .i64 c') (.string p') (.string q'))
  case first =>
    have hT : Ten w wb.drew (.int .i64 a) (.int .i64 b) (.int .i64 c) (.string p) (.string q) (.int .i64 a') (.int .i64 b') (.int .i64 c') (.string p') (.string q') := ⟨k0, k1, k2, k3, k4, l0, l1, l2, l3, l4, hlb, hB2⟩
    go_region_with (first | (go_at_call 41; (with_reducible refine (m1 _).mono ?_); rintro e w' ⟨rfl, hb'⟩; obtain ⟨hT, k0, k1, k2, k3, k4, l0, l1, l2, l3, l4, hlt, hB⟩ := ten_next hb' hT) | (go_at_call 41; (with_reducible refine (m2 _).mono ?_); rintro e w' ⟨rfl, hb'⟩; obtain ⟨hT, k0, k1, k2, k3, k4, l0, l1, l2, l3, l4, hlt, hB⟩ := ten_next hb' hT) | (go_at_call 47; refine (core_any _ _ _ _ _ _).mono ?_; rintro e w' ⟨rfl, hb'⟩; obtain ⟨hT, k0, k1, k2, k3, k4, l0, l1, l2, l3, l4, hlt, hB⟩ := ten_next hb' hT))
    all_goals
      go_wp2_with fail
      go_meet
      exact ⟨rfl, by assumption⟩
  case rest =>
    obtain ⟨rfl, hT⟩ := hcut
    clear heq m1 m2 k0 k1 k2 k3 k4 l0 l1 l2 l3 l4 hB2 hbb hlb
    obtain ⟨k0, k1, k2, k3, k4, l0, l1, l2, l3, l4, hlb, hbb⟩ := id hT
    have c0 := fun W => still_same (cmp_any a a' W)
    have c1 := fun W => still_same (cmp_any b b' W)
    have c2 := fun W => still_same (cmp_any c c' W)
    generalize intsI a a' = r0 at *
    generalize intsI b b' = r1 at *
    generalize intsI c c' = r2 at *
    go_wp2_with fail
    refine wp_region_still_tail 15 (by kernel_rfl) (by kernel_rfl) ?_
    simp only [List.take_succ_cons, List.take_zero, List.drop_succ_cons, List.drop_zero]
    iterate 4 still_step
    still_call (c0 _)
    iterate 4 still_step
    still_call (c1 _)
    iterate 4 still_step
    still_call (c2 _)
    refine wpStill_nil ?_
    change wpList _ _ _ _ _ wc.drew
    have hT2 : Ten w wc.drew (.int .i64 a) (.int .i64 b) (.int .i64 c) (.string p) (.string q) (.int .i64 a') (.int .i64 b') (.int .i64 c') (.string p') (.string q') := ten_drew hT
    clear hT k0 k1 k2 k3 k4 l0 l1 l2 l3 l4 hlb hbb c0 c1 c2
    generalize wc.drew = wd at *
    go_wp2_with fail
    refine (or_any r0 r1 r2 _ _ _ (by simp [go_sem]) (by simp [go_sem]) (by simp [go_sem])).mono ?_
    rintro e w3 ⟨rfl, rfl⟩
    obtain ⟨hT3, k0, k1, k2, k3, k4, l0, l1, l2, l3, l4, hlb, hbb⟩ := ten_next (box_below wd (.cells #[.int .i64 r0, .int .i64 r1, .int .i64 r2] 3)) hT2
    clear hT2
    generalize wd.alloc (.cells #[.int .i64 r0, .int .i64 r1, .int .i64 r2] 3) = we at *
    have HC2 : Hid (R = orI (orI r0 (orI r1 r2)) (presI p.data.toList p'.data.toList)) := HC.out.trans (or_or _ _ _ _)
    clear HC
    generalize orI r0 (orI r1 r2) = r at *
    by_cases h0 : r = 0
    · have hne := HPRE.out h0
      have HR : Hid (R = presI p.data.toList p'.data.toList) := by have h := HC2.out; rw [h0] at h; exact h
      have HNE := Lib.hid hne
      clear HC2 HPRE hne
      subst h0
      by_cases hp0 : p.size = 0
      · have e2 := empty_str p hp0
        have HF : Hid (R = 1) := by rw [HR.out, size_nil hp0]; exact pres_no_a (by rw [← size_nil hp0]; exact HNE.out)
        go_wp2_with fail
        go_ret
        exact ⟨ret_i64 HF.out.symm, hbb⟩
      · have e2 := (empty_no (s := p) (by omega)).1
        by_cases hq0 : p'.size = 0
        · have e3 := empty_str p' hq0
          have HF : Hid (R = -1) := by rw [HR.out, size_nil hq0]; exact pres_no_b (by rw [← size_nil hq0]; exact HNE.out)
          go_wp2_with fail
          go_ret
          exact ⟨ret_i64 HF.out.symm, hbb⟩
        · have e3 := (empty_no (s := p') (by omega)).1
          have HROW : Hid (R = rowI (splitL p.data.toList 46) (splitL p'.data.toList 46)) := HR.out.trans (pres_row HNE.out (fun h => hp0 (nil_size h)) (fun h => hq0 (nil_size h)))
          have HLE : Hid (∀ q ∈ splitL p.data.toList 46, q.length ≤ 1048576) := fun q hq => by have := piece_le hq; rw [len_size] at this; omega
          have HLF : Hid (∀ q ∈ splitL p'.data.toList 46, q.length ≤ 1048576) := fun q hq => by have := piece_le hq; rw [len_size] at this; omega
          have hn := split_len_le p.data.toList 46
          rw [len_size] at hn
          have hm := split_len_le p'.data.toList 46
          rw [len_size] at hm
          have hsa : ∀ W : World, Calls Tryd.prog 50 #[.string p, .int .u8 46] W fun e w' => (∃ v, e = .returned v ∧ w'.ownsRow W.heap.size 9 1 v (splitL p.data.toList 46).length (BS (splitL p.data.toList 46))) ∧ Below W.heap.size W w' := fun W => split_any p 46 W hp
          have hsb : ∀ W : World, Calls Tryd.prog 50 #[.string p', .int .u8 46] W fun e w' => (∃ v, e = .returned v ∧ w'.ownsRow W.heap.size 9 1 v (splitL p'.data.toList 46).length (BS (splitL p'.data.toList 46))) ∧ Below W.heap.size W w' := fun W => split_any p' 46 W hp'
          generalize splitL p.data.toList 46 = ps at *
          generalize splitL p'.data.toList 46 = qs at *
          clear HR HNE
          go_wp2_with fail
          have hTd := ten_drew hT3
          go_cut [6, 7] from 51 to 56 (fun x y wx => Splitted w wx x y ps qs)
          case first =>
            go_region_with (first
              | (go_at_call 50; (with_reducible refine (hsa _).mono ?_); rintro e wa ⟨⟨va, rfl, howna⟩, hba⟩; obtain ⟨Aa, ca, rfl, hrda⟩ := rd_own howna; obtain ⟨hTa, k0, k1, k2, k3, k4, l0, l1, l2, l3, l4, hlb, hbb⟩ := ten_next hba (by assumption))
              | (go_at_call 50; (with_reducible refine (hsb _).mono ?_); rintro e wz ⟨⟨vz, rfl, hownz⟩, hbz⟩; obtain ⟨Az, cz, rfl, hrdz⟩ := rd_own hownz; obtain ⟨hTz, k0, k1, k2, k3, k4, l0, l1, l2, l3, l4, hlb, hbb⟩ := ten_next hbz (by assumption)))
            all_goals
              go_wp2_with fail
              go_meet
              exact ⟨Aa, ca, Az, cz, rfl, rfl, rd_more (rd_below hrda hbz) hbz.size, hrdz, hbb⟩
          case rest =>
            obtain ⟨A, c1, A', c2, rfl, rfl, hrd, hrd', hbB⟩ := hcut
            have HRD := Lib.hid hrd
            have HRD' := Lib.hid hrd'
            clear hrd hrd' hsa hsb k0 k1 k2 k3 k4 l0 l1 l2 l3 l4 hlb hbb hT3 hTd e2 e3 hp0 hq0
            generalize hN : ps.length = n at *
            generalize hM : qs.length = m at *
            go_wp2_with fail
            go_loopw [8, 9] (fun i _ wr => ∃ j : Nat, j ≤ n ∧ j ≤ m ∧ i = .int .i64 j ∧ Hid (rowI (ps.drop j) (qs.drop j) = R) ∧ Below wc.heap.size wc wr) (fun i _ _ => n - (intOf i).toNat)
            case atStart => exact ⟨0, by omega, by omega, rfl, HROW.out.symm, Below.refl _ _⟩
            case round =>
              obtain ⟨j, hj, hj', rfl, HJ, hbel⟩ := hrel
              have hbR := hbB.trans (hbel.mono hbB.size)
              by_cases hlt : j < n ∧ j < m
              · obtain ⟨hl1, hl2⟩ := hlt
                obtain ⟨k, off, x, rfl, hk0, hpj, hc0⟩ := rds_cell (rd_below HRD.out hbel) hl1
                obtain ⟨k', off', y, rfl, hk0', hpj', hc0'⟩ := rds_cell (rd_below HRD'.out hbel) hl2
                have HST := Lib.hid (row_step hpj hpj')
                obtain ⟨t, ht, hpt, hts⟩ := piece_of hpj HLE.out
                obtain ⟨t', ht', hpt', hts'⟩ := piece_of hpj' HLF.out
                rw [← ht] at hc0
                rw [← ht'] at hc0'
                have hone := fun W => onetag_any t t' W (by unfold maxLen; omega) (by unfold maxLen; omega)
                rw [hpt, hpt'] at hone
                clear hpj hpj' ht ht' hpt hpt'
                have i1 : (j : Int) < (n : Int) := by omega
                have i2 : (j : Int) < (m : Int) := by omega
                have HS2 : Hid (R = if oneI x y = 0 then rowI (ps.drop (j + 1)) (qs.drop (j + 1)) else oneI x y) := HJ.out.symm.trans HST.out
                clear HST
                generalize oneI x y = r at *
                by_cases hr0 : r = 0
                · have HN : Hid (rowI (ps.drop (j + 1)) (qs.drop (j + 1)) = R) := (HS2.out.trans (if_pos hr0)).symm
                  clear HS2
                  subst hr0
                  go_wp2_with fail
                  refine wp_region_still_tail 8 (by kernel_rfl) (by kernel_rfl) ?_
                  simp only [List.take_succ_cons, List.take_zero, List.drop_succ_cons, List.drop_zero]
                  iterate 8 still_step
                  refine wpStill_nil ?_
                  change wpList _ _ _ _ _ wr.drew
                  have hbd := below_drewN hbel 1
                  have hbd2 := below_drewN hbR 1
                  go_wp2_with fail
                  refine (hone _).mono ?_
                  rintro e w4 ⟨rfl, hb4⟩
                  go_wp2_with fail
                  go_roundw
                  case rel => exact ⟨j + 1, by omega, by omega, by go_num, HN, hbd.trans (hb4.mono hbd.size)⟩
                  case measure => simp [intOf]; omega
                · have HF : Hid (R = r) := HS2.out.trans (if_neg hr0)
                  clear HS2
                  have hr1 : (r == 0) = false := by simpa using hr0
                  have hr2 : (r != 0) = true := by simpa using hr0
                  go_wp2_with fail
                  refine wp_region_still_tail 8 (by kernel_rfl) (by kernel_rfl) ?_
                  simp only [List.take_succ_cons, List.take_zero, List.drop_succ_cons, List.drop_zero]
                  iterate 8 still_step
                  refine wpStill_nil ?_
                  change wpList _ _ _ _ _ wr.drew
                  have hbd := below_drewN hbel 1
                  have hbd2 := below_drewN hbR 1
                  go_wp2_with fail
                  refine (hone _).mono ?_
                  rintro e w4 ⟨rfl, hb4⟩
                  go_wp2_with fail
                  go_ret
                  exact ⟨ret_i64 HF.out.symm, hbd2.trans (hb4.mono hbd2.size)⟩
              · have HF : Hid (R = intsI n m) := by have h := row_end (L := ps) (M := qs) (j := j) (by omega) (by omega) (by omega); rw [HJ.out, hN, hM] at h; exact h
                have hi := fun W => cmp_any n m W
                by_cases hl1 : j < n
                · obtain rfl : j = m := by omega
                  have i1 : (j : Int) < (n : Int) := by omega
                  go_wp2_with (go_at_call 49; refine (hi _).mono ?_; rintro e w3 ⟨rfl, rfl⟩)
                  go_ret
                  exact ⟨ret_i64 HF.out.symm, hbR⟩
                · obtain rfl : j = n := by omega
                  go_wp2_with (go_at_call 49; refine (hi _).mono ?_; rintro e w3 ⟨rfl, rfl⟩)
                  go_ret
                  exact ⟨ret_i64 HF.out.symm, hbR⟩
    · have hr1 : (r == 0) = false := by simpa using h0
      have hr2 : (r != 0) = true := by simpa using h0
      have HF : Hid (R = r) := HC2.out.trans (or_n h0 _)
      go_wp2_with fail
      go_ret
      exact ⟨ret_i64 HF.out.symm, hbb⟩

theorem compare_any (a b c : Int) (p q : ByteArray) (a' b' c' : Int) (p' q' : ByteArray) (w : World) (hp : p.size ≤ 1048576) (hq : q.size ≤ 1048576) (hp' : p'.size ≤ 1048576) (hq' : q'.size ≤ 1048576) :
    Calls Tryd.prog 20 #[.agg #[.int .i64 a, .int .i64 b, .int .i64 c, .string p, .string q], .agg #[.int .i64 a', .int .i64 b', .int .i64 c', .string p', .string q']] w fun e w' => e = .returned (.int .i64 (compV (verS a b c p q) (verS a' b' c' p' q'))) ∧ Below w.heap.size w w' := by
  cases hx : mayV (verS a b c p q)
  · rw [comp_no_a hx]
    exact compare_n0 a b c p q a' b' c' p' q' w hp hq hp' hq' hx
  cases hy : mayV (verS a' b' c' p' q')
  · rw [comp_no_b hy]
    exact compare_n1 a b c p q a' b' c' p' q' w hp hq hp' hq' hx hy
  cases he : eqV a b c p ⟨#[]⟩ a' b' c' p' ⟨#[]⟩
  · exact compare_main a b c p q a' b' c' p' q' w hp hq hp' hq' hx hy he
  · rw [comp_core he]
    exact compare_core a b c p q a' b' c' p' q' w hp hq hp' hq' hx hy he
end Go.Proofs.YthaagngoefieaaaDoor
