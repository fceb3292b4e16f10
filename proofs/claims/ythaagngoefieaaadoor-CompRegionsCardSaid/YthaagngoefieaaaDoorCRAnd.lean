/-
  The walk of chapter 4's reference And. Conditions: at most 1000 spans; Pre and Build of each cut have at most 1048576 bytes.
-/
import Derived.Test.YthaagngoefieaaaDoorCRNot
namespace Go.Proofs.YthaagngoefieaaaDoor
open Go.ChangeShapes Go.WideShapes Go.ChangeAt Go.RowKit
set_option linter.unusedVariables false
set_option linter.unusedSimpArgs false

def tAnd (la lb : List SpanC) (f t : CutC) : Bool := inC la f t && inC lb f t
theorem andR_eq (la lb : List SpanC) : andR la lb = if mayRow la = true ∧ mayRow lb = true then stretch (tAnd la lb) [] (cutsC (la ++ lb)) else [] := rfl
theorem rds_reads {w : World} {B n : Nat} {A : Option Addr} {l : List SpanC} (h : RdS w B A l) (hl : l.length = n) : Reads w B 14 A n (l.flatMap spanCells) := by
  refine ⟨by rw [flat_slen, hl], fun h0 => ?_⟩
  obtain ⟨b, rfl, hb, hc⟩ := h (by omega)
  refine ⟨_, rfl, hb, fun j u hu => ?_⟩
  rw [add_plain, Nat.zero_add]
  exact hc j u hu
set_option maxRecDepth 8192 in
set_option maxHeartbeats 8000000 in
theorem rand_any (A A' : Option Addr) (n n' cap cap' B : Nat) (la lb : List SpanC) (w : World) (h : RdS w B A la) (h' : RdS w B A' lb) (hl : la.length = n) (hl' : lb.length = n') (hok : ∀ s ∈ la, okS s) (hok' : ∀ s ∈ lb, okS s) (hB : B ≤ w.heap.size) (hn : n + n' ≤ 1000) :
    Calls Tryd.prog 26 #[.slice A n cap, .slice A' n' cap'] w (Row4 (andR la lb) w) := by
  obtain ⟨j0, hj0, hy0, hy1, hy2⟩ := info_parts info_span
  have HI := Lib.hid hj0
  have HY := Lib.hid (And.intro hy0 (And.intro hy1 hy2))
  clear hj0 hy0 hy1 hy2
  have H := Lib.hid h
  have H' := Lib.hid h'
  have HL := Lib.hid hl
  have HL' := Lib.hid hl'
  have hok3 : ∀ s ∈ la ++ lb, okS s := fun s hs => (List.mem_append.1 hs).elim (hok s) (hok' s)
  have HD := Lib.hid (cuts_bd hok3)
  have hm1 := fun W (h1 : RdS W B A la) (h2 : B ≤ W.heap.size) => rrowmay_any A n cap B la W h1 hl hok h2 (by omega)
  have hm2 := fun W (h1 : RdS W B A' lb) (h2 : B ≤ W.heap.size) => rrowmay_any A' n' cap' B lb W h1 hl' hok' h2 (by omega)
  have ci := fun W (h1 : RdS W B A la) (h2 : B ≤ W.heap.size) => fun fe fa fb fc fp fq ff te ta tb tc tp tq tf hfp hfq htp htq => rin_any A n cap B la fe fa fb fc fp fq ff te ta tb tc tp tq tf W h1 hl hok h2 (by omega) hfp hfq htp htq
  have cj := fun W (h1 : RdS W B A' lb) (h2 : B ≤ W.heap.size) => fun fe fa fb fc fp fq ff te ta tb tc tp tq tf hfp hfq htp htq => rin_any A' n' cap' B lb fe fa fb fc fp fq ff te ta tb tc tp tq tf W h1 hl' hok' h2 (by omega) hfp hfq htp htq
  have cm1 := hm1 w h hB
  clear hm1 h h' hl hl'
  rw [andR_eq]
  cases hma : mayRow la
  · rw [hma] at cm1
    rw [if_neg (by simp)]
    clear hma HD ci cj hm2
    go_enter Tryd.func26, Tryd.ntmps26
    go_wp2_with fail
    refine cm1.mono ?_
    rintro r w1 ⟨rfl, hb1⟩
    go_wp2_with fail
    go_ret
    exact ⟨none, 0, 0, rfl, rfl, Nat.le_refl _, rds_none, hb1⟩
  rw [hma] at cm1
  cases hmb : mayRow lb
  · rw [hmb] at hm2
    rw [if_neg (by simp)]
    clear hma hmb HD ci cj
    go_enter Tryd.func26, Tryd.ntmps26
    go_wp2_with fail
    refine cm1.mono ?_
    rintro r w1 ⟨rfl, hb1⟩
    have cm2 := hm2 w1 (rds_below H'.out (hb1.mono hB)) (Nat.le_trans hB hb1.size)
    clear cm1 hm2
    go_wp2_with fail
    refine cm2.mono ?_
    rintro r w2 ⟨rfl, hb2⟩
    go_wp2_with fail
    go_ret
    exact ⟨none, 0, 0, rfl, rfl, Nat.le_refl _, rds_none, hb1.trans (hb2.mono hb1.size)⟩
  rw [hmb] at hm2
  rw [if_pos ⟨rfl, rfl⟩]
  generalize hR : stretch (tAnd la lb) [] (cutsC (la ++ lb)) = R
  have HR := Lib.hid hR
  clear hma hmb hR
  go_enter Tryd.func26, Tryd.ntmps26
  go_wp2_with fail
  refine cm1.mono ?_
  rintro r w1 ⟨rfl, hb1⟩
  have cm2 := hm2 w1 (rds_below H'.out (hb1.mono hB)) (Nat.le_trans hB hb1.size)
  clear cm1 hm2
  go_wp2_with fail
  refine cm2.mono ?_
  rintro r w1b ⟨rfl, hb2⟩
  have hbw0 := hb1.trans (hb2.mono hb1.size)
  clear hb1 hb2 cm2
  have hb20 := hbw0.size
  go_wp2_with (first
    | (at_builtin; refine wpList_append_any _ rfl (.const (.slice none 0 0)) (.tmp 16) 38 rfl w1b.heap.size 50 j0 _ 14 144 Tryd.underlying38 HI.out HY.out.1 HY.out.2.1 HY.out.2.2 rfl (by omega) (.slice none 0 0) 0 [] rfl (World.ownsRow_nil _ _ _ _) B A n cap (la.flatMap spanCells) rfl (rds_reads (rds_below H.out (hbw0.mono hB)) HL.out) (spans_one _) (by unfold maxLen; omega) (by omega) (Nat.le_refl _) ?_; intro v1 wA ho1 hg1 _; have hbA := hbw0.trans ((grown_below hg1 (Nat.le_refl _) fun g hg => by cases hg).mono hb20))
    | (at_builtin; refine wpList_append_any _ rfl (.tmp 17) (.tmp 18) 38 rfl w1b.heap.size 50 j0 _ 14 144 Tryd.underlying38 HI.out HY.out.1 HY.out.2.1 HY.out.2.2 rfl (by omega) v1 (0 + n) ([] ++ la.flatMap spanCells) rfl ho1 B A' n' cap' (lb.flatMap spanCells) rfl (rds_reads (rds_below H'.out (hbA.mono hB)) HL'.out) (spans_one _) (by unfold maxLen; omega) (by omega) hg1.size ?_; intro v2 wB ho2 hg2 _; have hbB := hbA.trans ((grown_below hg2 hg1.size fun g hg => (ho1.lt g hg).1).mono hb20); obtain ⟨A9, cap9, rfl, hc9, hl9, hr9⟩ := own_rds (l := la ++ lb) (by simpa using ho2); have HL9 := Lib.hid hl9; clear hl9)
    | fail)
  have cc1 := rcuts_any A9 _ cap9 wB.heap.size (la ++ lb) wB hr9 HL9.out hok3 (Nat.le_refl _) (by omega)
  refine cc1.mono ?_
  rintro r w2 ⟨Ac, nc, cap2, rfl, hnc, hcc, hrc, hb2⟩
  have HN := Lib.hid hnc
  have HC := Lib.hid hrc
  have hbw0 := hbB.trans (hb2.mono hbB.size)
  have hb20 := hbw0.size
  clear cc1 hnc hrc hb2 ho1 ho2 hg1 hg2 hbA hbB hr9
  obtain ⟨hko, hk2, hkm⟩ := HD.out (la ++ lb).length (Nat.le_refl _)
  rw [List.take_of_length_le (Nat.le_refl _)] at hko hk2 hkm
  have HK := Lib.hid hko
  rw [← HN.out] at hk2 hkm
  rw [List.length_append, HL.out, HL'.out] at hkm
  clear hko HD
  go_wp2
  go_loopw [5, 7] (fun s i wr => ∃ (k : Nat) (v : Value) (out : List SpanC), v = s ∧ i = .int .i64 k ∧ k + 1 ≤ nc ∧ NotAt w2 wr (tAnd la lb) R (cutsC (la ++ lb)) out v k) (fun _ i _ => nc - (intOf i).toNat)
  case atStart => exact ⟨0, .slice none 0 0, [], rfl, rfl, by omega, HR.out, World.ownsRow_nil _ _ _ _, fun s hs => by simp at hs, Nat.le_refl _, Below.refl _ _⟩
  case round =>
    obtain ⟨k, v, out, rfl, rfl, hk, hst⟩ := hrel
    have HS := Lib.hid hst.1
    have HO := Lib.hid hst.2.1
    have hok2 := hst.2.2.1
    have hlk := hst.2.2.2.1
    have hbw := hst.2.2.2.2
    clear hst
    by_cases hlt : k + 1 < nc
    · have hrc := rdc_below HC.out hbw
      obtain ⟨bc, e, a, x, c, p, q, f, rfl, hbB, hs1, ⟨hp, hq⟩, k0, k1, k2, k3, k4, k5, k6⟩ := rdc_at hrc HK.out (k := k) (by rw [← HN.out]; omega)
      obtain ⟨bd, e', a', x', c', p', q', f', hbd, _, hs2, ⟨hp', hq'⟩, l0, l1, l2, l3, l4, l5, l6⟩ := rdc_at hrc HK.out (k := k + 1) (by rw [← HN.out]; omega)
      obtain rfl : bc = bd := by injection hbd with h1; injection h1
      clear hbd hrc
      have i1 : (k : Int) < (nc : Int) := by omega
      have i2 : (k : Int) + 1 < (nc : Int) := by omega
      have i3 : IntKind.i64.wrap ((k : Int) + 1) = (k : Int) + 1 := IntWalk.i64_in _ (by omega)
      have i4 : (0 : Int) ≤ (k : Int) + 1 := by omega
      have i5 : ((k : Int) + 1).toNat = k + 1 := by omega
      have hbw2 : Below w2.heap.size w2 wr.drew := hbw.drew
      have hge := hbw.size
      have hT := HS.out
      rw [stretch_step hs1 hs2] at hT
      have hBw : Below B w wr.drew := (hbw0.mono hB).trans (hbw2.mono (Nat.le_trans hB hb20))
      have HA := Lib.hid (rds_below H.out hBw)
      have HB := Lib.hid (rds_below H'.out hBw)
      have hBr : B ≤ wr.heap.size := Nat.le_trans hB (Nat.le_trans hb20 hge)
      have mi := ci wr.drew HA.out hBr e a x c p q f e' a' x' c' p' q' f' hp hq hp' hq'
      unfold cutW at mi
      clear ci hs1 hs2
      have mj := fun W (hb : Below wr.drew.heap.size wr.drew W) => cj W (rds_below HB.out (hb.mono hBr)) (Nat.le_trans hBr hb.size) e a x c p q f e' a' x' c' p' q' f' hp hq hp' hq'
      unfold cutW at mj
      clear cj
      have HT := Lib.hid (show stretch (tAnd la lb) (if (inC la (cutS e a x c p q f) (cutS e' a' x' c' p' q' f') && inC lb (cutS e a x c p q f) (cutS e' a' x' c' p' q' f')) = true then growC out (cutS e a x c p q f) (cutS e' a' x' c' p' q' f') else out) (List.drop (k + 1) (cutsC (la ++ lb))) = R from hT)
      clear hT
      cases ha : inC la (cutS e a x c p q f) (cutS e' a' x' c' p' q' f')
      · rw [ha] at HT mi
        have HF : Hid (stretch (tAnd la lb) out (List.drop (k + 1) (cutsC (la ++ lb))) = R) := HT.out
        clear ha HT mj
        go_wp2_with fail
        refine wp_region_held_drew (S := fun W => (W.cell? ⟨bc, k * 7, none⟩ = some (.int .i64 e) ∧ W.cell? ⟨bc, k * 7 + 1, none⟩ = some (.int .i64 a) ∧ W.cell? ⟨bc, k * 7 + 2, none⟩ = some (.int .i64 x) ∧ W.cell? ⟨bc, k * 7 + 3, none⟩ = some (.int .i64 c) ∧ W.cell? ⟨bc, k * 7 + 4, none⟩ = some (.string p) ∧ W.cell? ⟨bc, k * 7 + 5, none⟩ = some (.string q) ∧ W.cell? ⟨bc, k * 7 + 6, none⟩ = some (.bool f)) ∧ (W.cell? ⟨bc, (k + 1) * 7, none⟩ = some (.int .i64 e') ∧ W.cell? ⟨bc, (k + 1) * 7 + 1, none⟩ = some (.int .i64 a') ∧ W.cell? ⟨bc, (k + 1) * 7 + 2, none⟩ = some (.int .i64 x') ∧ W.cell? ⟨bc, (k + 1) * 7 + 3, none⟩ = some (.int .i64 c') ∧ W.cell? ⟨bc, (k + 1) * 7 + 4, none⟩ = some (.string p') ∧ W.cell? ⟨bc, (k + 1) * 7 + 5, none⟩ = some (.string q') ∧ W.cell? ⟨bc, (k + 1) * 7 + 6, none⟩ = some (.bool f')) ∧ Below w2.heap.size w2 W) (by kernel_rfl) ⟨⟨k0, k1, k2, k3, k4, k5, k6⟩, ⟨l0, l1, l2, l3, l4, l5, l6⟩, hbw2⟩ (fun hHeld => ?_)
        refine takeD (i := 0) (d := some 28) (v := ?_) rfl rfl (by kernel_rfl) (by kernel_rfl) (by kernel_rfl) (fun _ _ _ h => h) (Or.inl ⟨by rfl, ?_⟩) (by assumption) ?_
        rotate_left
        · intro wS hSw; (try dsimp only at hSw); go_simp; (try with_reducible rfl)
        try simp only [Act.put, List.setIfInBounds_toArray, List.set_cons_zero, List.set_cons_succ]
        refine takeD (i := 1) (d := some 29) (v := ?_) rfl rfl (by kernel_rfl) (by kernel_rfl) (by kernel_rfl) (fun _ _ _ h => h) (Or.inl ⟨by rfl, ?_⟩) (by assumption) ?_
        rotate_left
        · intro wS hSw; (try dsimp only at hSw); go_simp; (try with_reducible rfl)
        try simp only [Act.put, List.setIfInBounds_toArray, List.set_cons_zero, List.set_cons_succ]
        refine takeD (i := 2) (d := some 30) (v := ?_) rfl rfl (by kernel_rfl) (by kernel_rfl) (by kernel_rfl) (fun _ _ _ h => h) (Or.inl ⟨by rfl, ?_⟩) (by assumption) ?_
        rotate_left
        · intro wS hSw; (try dsimp only at hSw); go_simp; (try with_reducible rfl)
        try simp only [Act.put, List.setIfInBounds_toArray, List.set_cons_zero, List.set_cons_succ]
        refine takeD (i := 3) (d := some 31) (v := ?_) rfl rfl (by kernel_rfl) (by kernel_rfl) (by kernel_rfl) (fun _ _ _ h => h) (Or.inl ⟨by rfl, ?_⟩) (by assumption) ?_
        rotate_left
        · intro wS hSw; (try dsimp only at hSw); go_simp; (try with_reducible rfl)
        try simp only [Act.put, List.setIfInBounds_toArray, List.set_cons_zero, List.set_cons_succ]
        refine takeD (i := 4) (d := some 32) (v := ?_) rfl rfl (by kernel_rfl) (by kernel_rfl) (by kernel_rfl) (fun _ _ _ h => h) (Or.inl ⟨by rfl, ?_⟩) (by assumption) ?_
        rotate_left
        · intro wS hSw; (try dsimp only at hSw); go_simp; (try with_reducible rfl)
        try simp only [Act.put, List.setIfInBounds_toArray, List.set_cons_zero, List.set_cons_succ]
        refine takeD (i := 5) (d := some 33) (v := ?_) rfl rfl (by kernel_rfl) (by kernel_rfl) (by kernel_rfl) (fun _ _ _ h => h) (Or.inl ⟨by rfl, ?_⟩) (by assumption) ?_
        rotate_left
        · intro wS hSw; (try dsimp only at hSw); go_simp; (try with_reducible rfl)
        try simp only [Act.put, List.setIfInBounds_toArray, List.set_cons_zero, List.set_cons_succ]
        refine takeD (i := 6) (d := some 34) (v := ?_) rfl rfl (by kernel_rfl) (by kernel_rfl) (by kernel_rfl) (fun _ _ _ h => h) (Or.inl ⟨by rfl, ?_⟩) (by assumption) ?_
        rotate_left
        · intro wS hSw; (try dsimp only at hSw); go_simp; (try with_reducible rfl)
        try simp only [Act.put, List.setIfInBounds_toArray, List.set_cons_zero, List.set_cons_succ]
        refine takeD (i := 7) (d := some 35) (v := ?_) rfl rfl (by kernel_rfl) (by kernel_rfl) (by kernel_rfl) (fun _ _ _ h => h) (Or.inl ⟨by rfl, ?_⟩) (by assumption) ?_
        rotate_left
        · intro wS hSw; (try dsimp only at hSw); go_simp; (try with_reducible rfl)
        try simp only [Act.put, List.setIfInBounds_toArray, List.set_cons_zero, List.set_cons_succ]
        refine takeD (i := 8) (d := some 36) (v := ?_) rfl rfl (by kernel_rfl) (by kernel_rfl) (by kernel_rfl) (fun _ _ _ h => h) (Or.inl ⟨by rfl, ?_⟩) (by assumption) ?_
        rotate_left
        · intro wS hSw; (try dsimp only at hSw); go_simp; (try with_reducible rfl)
        try simp only [Act.put, List.setIfInBounds_toArray, List.set_cons_zero, List.set_cons_succ]
        refine takeD (i := 9) (d := some 37) (v := ?_) rfl rfl (by kernel_rfl) (by kernel_rfl) (by kernel_rfl) (fun _ _ _ h => h) (Or.inl ⟨by rfl, ?_⟩) (by assumption) ?_
        rotate_left
        · intro wS hSw; (try dsimp only at hSw); go_simp; (try with_reducible rfl)
        try simp only [Act.put, List.setIfInBounds_toArray, List.set_cons_zero, List.set_cons_succ]
        refine wpAnyH_ready (rs := [10]) (by kernel_rfl) (by simp) ?_
        refine consD (d := some 38) rfl rfl (fun K hK => ?_) AllReadyH.nil
        go_simp
        (go_at_call 59; (with_reducible refine (mi).mono ?_); rintro r w4 ⟨rfl, hb4⟩)
        have hbM := hbw2.trans (hb4.mono hbw2.size)
        have hbb : bc < wr.drew.heap.size := Nat.lt_of_lt_of_le hbB hbw.size
        have hbx : Below wr.heap.size wr w4 := ((Below.refl wr.heap.size wr).drew).trans (show Below wr.heap.size wr.drew w4 from hb4)
        refine hK.out _ _ ⟨keep7 hb4 hbb hHeld.1, keep7 hb4 hbb hHeld.2.1, hbM⟩ (fun hHeld => ?_)
        clear hK K
        try simp only [Act.put, List.setIfInBounds_toArray, List.set_cons_zero, List.set_cons_succ]
        refine takeD (i := 11) (d := some 39) (v := ?_) rfl rfl (by kernel_rfl) (by kernel_rfl) (by kernel_rfl) (fun _ _ _ h => h) (Or.inl ⟨by rfl, ?_⟩) (by assumption) ?_
        rotate_left
        · intro wS hSw; (try dsimp only at hSw); go_simp; (try with_reducible rfl)
        try simp only [Act.put, List.setIfInBounds_toArray, List.set_cons_zero, List.set_cons_succ]
        refine takeD (i := 12) (d := some 40) (v := undef) rfl rfl (by kernel_rfl) (by kernel_rfl) (by kernel_rfl) (fun _ _ _ h => h) (Or.inr ⟨by rfl, rfl⟩) (by assumption) ?_
        try simp only [Act.put, List.setIfInBounds_toArray, List.set_cons_zero, List.set_cons_succ]
        refine takeD (i := 13) (d := some 41) (v := undef) rfl rfl (by kernel_rfl) (by kernel_rfl) (by kernel_rfl) (fun _ _ _ h => h) (Or.inr ⟨by rfl, rfl⟩) (by assumption) ?_
        try simp only [Act.put, List.setIfInBounds_toArray, List.set_cons_zero, List.set_cons_succ]
        refine takeD (i := 14) (d := some 42) (v := undef) rfl rfl (by kernel_rfl) (by kernel_rfl) (by kernel_rfl) (fun _ _ _ h => h) (Or.inr ⟨by rfl, rfl⟩) (by assumption) ?_
        try simp only [Act.put, List.setIfInBounds_toArray, List.set_cons_zero, List.set_cons_succ]
        refine takeD (i := 15) (d := some 43) (v := undef) rfl rfl (by kernel_rfl) (by kernel_rfl) (by kernel_rfl) (fun _ _ _ h => h) (Or.inr ⟨by rfl, rfl⟩) (by assumption) ?_
        try simp only [Act.put, List.setIfInBounds_toArray, List.set_cons_zero, List.set_cons_succ]
        refine takeD (i := 16) (d := some 44) (v := undef) rfl rfl (by kernel_rfl) (by kernel_rfl) (by kernel_rfl) (fun _ _ _ h => h) (Or.inr ⟨by rfl, rfl⟩) (by assumption) ?_
        try simp only [Act.put, List.setIfInBounds_toArray, List.set_cons_zero, List.set_cons_succ]
        refine takeD (i := 17) (d := some 45) (v := undef) rfl rfl (by kernel_rfl) (by kernel_rfl) (by kernel_rfl) (fun _ _ _ h => h) (Or.inr ⟨by rfl, rfl⟩) (by assumption) ?_
        try simp only [Act.put, List.setIfInBounds_toArray, List.set_cons_zero, List.set_cons_succ]
        refine takeD (i := 18) (d := some 46) (v := undef) rfl rfl (by kernel_rfl) (by kernel_rfl) (by kernel_rfl) (fun _ _ _ h => h) (Or.inr ⟨by rfl, rfl⟩) (by assumption) ?_
        try simp only [Act.put, List.setIfInBounds_toArray, List.set_cons_zero, List.set_cons_succ]
        refine takeD (i := 19) (d := some 47) (v := undef) rfl rfl (by kernel_rfl) (by kernel_rfl) (by kernel_rfl) (fun _ _ _ h => h) (Or.inr ⟨by rfl, rfl⟩) (by assumption) ?_
        try simp only [Act.put, List.setIfInBounds_toArray, List.set_cons_zero, List.set_cons_succ]
        refine takeD (i := 20) (d := some 48) (v := undef) rfl rfl (by kernel_rfl) (by kernel_rfl) (by kernel_rfl) (fun _ _ _ h => h) (Or.inr ⟨by rfl, rfl⟩) (by assumption) ?_
        try simp only [Act.put, List.setIfInBounds_toArray, List.set_cons_zero, List.set_cons_succ]
        refine takeD (i := 21) (d := some 49) (v := undef) rfl rfl (by kernel_rfl) (by kernel_rfl) (by kernel_rfl) (fun _ _ _ h => h) (Or.inr ⟨by rfl, rfl⟩) (by assumption) ?_
        try simp only [Act.put, List.setIfInBounds_toArray, List.set_cons_zero, List.set_cons_succ]
        refine takeD (i := 22) (d := some 50) (v := undef) rfl rfl (by kernel_rfl) (by kernel_rfl) (by kernel_rfl) (fun _ _ _ h => h) (Or.inr ⟨by rfl, rfl⟩) (by assumption) ?_
        try simp only [Act.put, List.setIfInBounds_toArray, List.set_cons_zero, List.set_cons_succ]
        refine takeD (i := 23) (d := some 51) (v := ?_) rfl rfl (by kernel_rfl) (by kernel_rfl) (by kernel_rfl) (fun _ _ _ h => h) (Or.inl ⟨by rfl, ?_⟩) (by assumption) ?_
        rotate_left
        · intro wS hSw; (try dsimp only at hSw); go_simp; (try with_reducible rfl)
        try simp only [Act.put, List.setIfInBounds_toArray, List.set_cons_zero, List.set_cons_succ]
        refine wpAnyH_done (by kernel_rfl) ?_ _
        go_wp2_with fail
        go_roundw
        case rel => exact ⟨k + 1, v, out, rfl, by go_num, by omega, HF.out, own_keep HO.out hbx, hok2, by omega, hbM⟩
        case measure => simp [intOf]; omega
      · cases hb : inC lb (cutS e a x c p q f) (cutS e' a' x' c' p' q' f')
        · rw [ha] at HT mi
          rw [hb] at HT mj
          have HF : Hid (stretch (tAnd la lb) out (List.drop (k + 1) (cutsC (la ++ lb))) = R) := HT.out
          clear ha hb HT
          go_wp2_with fail
          refine wp_region_held_drew (S := fun W => (W.cell? ⟨bc, k * 7, none⟩ = some (.int .i64 e) ∧ W.cell? ⟨bc, k * 7 + 1, none⟩ = some (.int .i64 a) ∧ W.cell? ⟨bc, k * 7 + 2, none⟩ = some (.int .i64 x) ∧ W.cell? ⟨bc, k * 7 + 3, none⟩ = some (.int .i64 c) ∧ W.cell? ⟨bc, k * 7 + 4, none⟩ = some (.string p) ∧ W.cell? ⟨bc, k * 7 + 5, none⟩ = some (.string q) ∧ W.cell? ⟨bc, k * 7 + 6, none⟩ = some (.bool f)) ∧ (W.cell? ⟨bc, (k + 1) * 7, none⟩ = some (.int .i64 e') ∧ W.cell? ⟨bc, (k + 1) * 7 + 1, none⟩ = some (.int .i64 a') ∧ W.cell? ⟨bc, (k + 1) * 7 + 2, none⟩ = some (.int .i64 x') ∧ W.cell? ⟨bc, (k + 1) * 7 + 3, none⟩ = some (.int .i64 c') ∧ W.cell? ⟨bc, (k + 1) * 7 + 4, none⟩ = some (.string p') ∧ W.cell? ⟨bc, (k + 1) * 7 + 5, none⟩ = some (.string q') ∧ W.cell? ⟨bc, (k + 1) * 7 + 6, none⟩ = some (.bool f')) ∧ Below w2.heap.size w2 W) (by kernel_rfl) ⟨⟨k0, k1, k2, k3, k4, k5, k6⟩, ⟨l0, l1, l2, l3, l4, l5, l6⟩, hbw2⟩ (fun hHeld => ?_)
          refine takeD (i := 0) (d := some 28) (v := ?_) rfl rfl (by kernel_rfl) (by kernel_rfl) (by kernel_rfl) (fun _ _ _ h => h) (Or.inl ⟨by rfl, ?_⟩) (by assumption) ?_
          rotate_left
          · intro wS hSw; (try dsimp only at hSw); go_simp; (try with_reducible rfl)
          try simp only [Act.put, List.setIfInBounds_toArray, List.set_cons_zero, List.set_cons_succ]
          refine takeD (i := 1) (d := some 29) (v := ?_) rfl rfl (by kernel_rfl) (by kernel_rfl) (by kernel_rfl) (fun _ _ _ h => h) (Or.inl ⟨by rfl, ?_⟩) (by assumption) ?_
          rotate_left
          · intro wS hSw; (try dsimp only at hSw); go_simp; (try with_reducible rfl)
          try simp only [Act.put, List.setIfInBounds_toArray, List.set_cons_zero, List.set_cons_succ]
          refine takeD (i := 2) (d := some 30) (v := ?_) rfl rfl (by kernel_rfl) (by kernel_rfl) (by kernel_rfl) (fun _ _ _ h => h) (Or.inl ⟨by rfl, ?_⟩) (by assumption) ?_
          rotate_left
          · intro wS hSw; (try dsimp only at hSw); go_simp; (try with_reducible rfl)
          try simp only [Act.put, List.setIfInBounds_toArray, List.set_cons_zero, List.set_cons_succ]
          refine takeD (i := 3) (d := some 31) (v := ?_) rfl rfl (by kernel_rfl) (by kernel_rfl) (by kernel_rfl) (fun _ _ _ h => h) (Or.inl ⟨by rfl, ?_⟩) (by assumption) ?_
          rotate_left
          · intro wS hSw; (try dsimp only at hSw); go_simp; (try with_reducible rfl)
          try simp only [Act.put, List.setIfInBounds_toArray, List.set_cons_zero, List.set_cons_succ]
          refine takeD (i := 4) (d := some 32) (v := ?_) rfl rfl (by kernel_rfl) (by kernel_rfl) (by kernel_rfl) (fun _ _ _ h => h) (Or.inl ⟨by rfl, ?_⟩) (by assumption) ?_
          rotate_left
          · intro wS hSw; (try dsimp only at hSw); go_simp; (try with_reducible rfl)
          try simp only [Act.put, List.setIfInBounds_toArray, List.set_cons_zero, List.set_cons_succ]
          refine takeD (i := 5) (d := some 33) (v := ?_) rfl rfl (by kernel_rfl) (by kernel_rfl) (by kernel_rfl) (fun _ _ _ h => h) (Or.inl ⟨by rfl, ?_⟩) (by assumption) ?_
          rotate_left
          · intro wS hSw; (try dsimp only at hSw); go_simp; (try with_reducible rfl)
          try simp only [Act.put, List.setIfInBounds_toArray, List.set_cons_zero, List.set_cons_succ]
          refine takeD (i := 6) (d := some 34) (v := ?_) rfl rfl (by kernel_rfl) (by kernel_rfl) (by kernel_rfl) (fun _ _ _ h => h) (Or.inl ⟨by rfl, ?_⟩) (by assumption) ?_
          rotate_left
          · intro wS hSw; (try dsimp only at hSw); go_simp; (try with_reducible rfl)
          try simp only [Act.put, List.setIfInBounds_toArray, List.set_cons_zero, List.set_cons_succ]
          refine takeD (i := 7) (d := some 35) (v := ?_) rfl rfl (by kernel_rfl) (by kernel_rfl) (by kernel_rfl) (fun _ _ _ h => h) (Or.inl ⟨by rfl, ?_⟩) (by assumption) ?_
          rotate_left
          · intro wS hSw; (try dsimp only at hSw); go_simp; (try with_reducible rfl)
          try simp only [Act.put, List.setIfInBounds_toArray, List.set_cons_zero, List.set_cons_succ]
          refine takeD (i := 8) (d := some 36) (v := ?_) rfl rfl (by kernel_rfl) (by kernel_rfl) (by kernel_rfl) (fun _ _ _ h => h) (Or.inl ⟨by rfl, ?_⟩) (by assumption) ?_
          rotate_left
          · intro wS hSw; (try dsimp only at hSw); go_simp; (try with_reducible rfl)
          try simp only [Act.put, List.setIfInBounds_toArray, List.set_cons_zero, List.set_cons_succ]
          refine takeD (i := 9) (d := some 37) (v := ?_) rfl rfl (by kernel_rfl) (by kernel_rfl) (by kernel_rfl) (fun _ _ _ h => h) (Or.inl ⟨by rfl, ?_⟩) (by assumption) ?_
          rotate_left
          · intro wS hSw; (try dsimp only at hSw); go_simp; (try with_reducible rfl)
          try simp only [Act.put, List.setIfInBounds_toArray, List.set_cons_zero, List.set_cons_succ]
          refine wpAnyH_ready (rs := [10]) (by kernel_rfl) (by simp) ?_
          refine consD (d := some 38) rfl rfl (fun K hK => ?_) AllReadyH.nil
          go_simp
          (go_at_call 59; (with_reducible refine (mi).mono ?_); rintro r w4 ⟨rfl, hb4⟩)
          have hbM := hbw2.trans (hb4.mono hbw2.size)
          have hbb : bc < wr.drew.heap.size := Nat.lt_of_lt_of_le hbB hbw.size
          have hbx : Below wr.heap.size wr w4 := ((Below.refl wr.heap.size wr).drew).trans (show Below wr.heap.size wr.drew w4 from hb4)
          refine hK.out _ _ ⟨keep7 hb4 hbb hHeld.1, keep7 hb4 hbb hHeld.2.1, hbM⟩ (fun hHeld => ?_)
          clear hK K
          try simp only [Act.put, List.setIfInBounds_toArray, List.set_cons_zero, List.set_cons_succ]
          refine takeD (i := 11) (d := some 39) (v := ?_) rfl rfl (by kernel_rfl) (by kernel_rfl) (by kernel_rfl) (fun _ _ _ h => h) (Or.inl ⟨by rfl, ?_⟩) (by assumption) ?_
          rotate_left
          · intro wS hSw; (try dsimp only at hSw); go_simp; (try with_reducible rfl)
          try simp only [Act.put, List.setIfInBounds_toArray, List.set_cons_zero, List.set_cons_succ]
          refine takeD (i := 12) (d := some 40) (v := ?_) rfl rfl (by kernel_rfl) (by kernel_rfl) (by kernel_rfl) (fun _ _ _ h => h) (Or.inl ⟨by rfl, ?_⟩) (by assumption) ?_
          rotate_left
          · intro wS hSw; (try dsimp only at hSw); go_simp; (try with_reducible rfl)
          try simp only [Act.put, List.setIfInBounds_toArray, List.set_cons_zero, List.set_cons_succ]
          refine takeD (i := 13) (d := some 41) (v := ?_) rfl rfl (by kernel_rfl) (by kernel_rfl) (by kernel_rfl) (fun _ _ _ h => h) (Or.inl ⟨by rfl, ?_⟩) (by assumption) ?_
          rotate_left
          · intro wS hSw; (try dsimp only at hSw); go_simp; (try with_reducible rfl)
          try simp only [Act.put, List.setIfInBounds_toArray, List.set_cons_zero, List.set_cons_succ]
          refine takeD (i := 14) (d := some 42) (v := ?_) rfl rfl (by kernel_rfl) (by kernel_rfl) (by kernel_rfl) (fun _ _ _ h => h) (Or.inl ⟨by rfl, ?_⟩) (by assumption) ?_
          rotate_left
          · intro wS hSw; (try dsimp only at hSw); go_simp; (try with_reducible rfl)
          try simp only [Act.put, List.setIfInBounds_toArray, List.set_cons_zero, List.set_cons_succ]
          refine takeD (i := 15) (d := some 43) (v := ?_) rfl rfl (by kernel_rfl) (by kernel_rfl) (by kernel_rfl) (fun _ _ _ h => h) (Or.inl ⟨by rfl, ?_⟩) (by assumption) ?_
          rotate_left
          · intro wS hSw; (try dsimp only at hSw); go_simp; (try with_reducible rfl)
          try simp only [Act.put, List.setIfInBounds_toArray, List.set_cons_zero, List.set_cons_succ]
          refine takeD (i := 16) (d := some 44) (v := ?_) rfl rfl (by kernel_rfl) (by kernel_rfl) (by kernel_rfl) (fun _ _ _ h => h) (Or.inl ⟨by rfl, ?_⟩) (by assumption) ?_
          rotate_left
          · intro wS hSw; (try dsimp only at hSw); go_simp; (try with_reducible rfl)
          try simp only [Act.put, List.setIfInBounds_toArray, List.set_cons_zero, List.set_cons_succ]
          refine takeD (i := 17) (d := some 45) (v := ?_) rfl rfl (by kernel_rfl) (by kernel_rfl) (by kernel_rfl) (fun _ _ _ h => h) (Or.inl ⟨by rfl, ?_⟩) (by assumption) ?_
          rotate_left
          · intro wS hSw; (try dsimp only at hSw); go_simp; (try with_reducible rfl)
          try simp only [Act.put, List.setIfInBounds_toArray, List.set_cons_zero, List.set_cons_succ]
          refine takeD (i := 18) (d := some 46) (v := ?_) rfl rfl (by kernel_rfl) (by kernel_rfl) (by kernel_rfl) (fun _ _ _ h => h) (Or.inl ⟨by rfl, ?_⟩) (by assumption) ?_
          rotate_left
          · intro wS hSw; (try dsimp only at hSw); go_simp; (try with_reducible rfl)
          try simp only [Act.put, List.setIfInBounds_toArray, List.set_cons_zero, List.set_cons_succ]
          refine takeD (i := 19) (d := some 47) (v := ?_) rfl rfl (by kernel_rfl) (by kernel_rfl) (by kernel_rfl) (fun _ _ _ h => h) (Or.inl ⟨by rfl, ?_⟩) (by assumption) ?_
          rotate_left
          · intro wS hSw; (try dsimp only at hSw); go_simp; (try with_reducible rfl)
          try simp only [Act.put, List.setIfInBounds_toArray, List.set_cons_zero, List.set_cons_succ]
          refine takeD (i := 20) (d := some 48) (v := ?_) rfl rfl (by kernel_rfl) (by kernel_rfl) (by kernel_rfl) (fun _ _ _ h => h) (Or.inl ⟨by rfl, ?_⟩) (by assumption) ?_
          rotate_left
          · intro wS hSw; (try dsimp only at hSw); go_simp; (try with_reducible rfl)
          try simp only [Act.put, List.setIfInBounds_toArray, List.set_cons_zero, List.set_cons_succ]
          refine takeD (i := 21) (d := some 49) (v := ?_) rfl rfl (by kernel_rfl) (by kernel_rfl) (by kernel_rfl) (fun _ _ _ h => h) (Or.inl ⟨by rfl, ?_⟩) (by assumption) ?_
          rotate_left
          · intro wS hSw; (try dsimp only at hSw); go_simp; (try with_reducible rfl)
          try simp only [Act.put, List.setIfInBounds_toArray, List.set_cons_zero, List.set_cons_succ]
          refine wpAnyH_ready (rs := [22]) (by kernel_rfl) (by simp) ?_
          refine consD (d := some 50) rfl rfl (fun K hK => ?_) AllReadyH.nil
          go_simp
          have mj2 := mj w4 hb4
          (go_at_call 59; (with_reducible refine (mj2).mono ?_); rintro r w6 ⟨rfl, hb6⟩)
          have hbM := hbM.trans (hb6.mono hbM.size)
          have hbx := hbx.trans (hb6.mono hbx.size)
          have hbb4 := Nat.lt_of_lt_of_le hbb hb4.size
          refine hK.out _ _ ⟨keep7 hb6 hbb4 hHeld.1, keep7 hb6 hbb4 hHeld.2.1, hbM⟩ (fun hHeld => ?_)
          clear hK K
          try simp only [Act.put, List.setIfInBounds_toArray, List.set_cons_zero, List.set_cons_succ]
          refine takeD (i := 23) (d := some 51) (v := ?_) rfl rfl (by kernel_rfl) (by kernel_rfl) (by kernel_rfl) (fun _ _ _ h => h) (Or.inl ⟨by rfl, ?_⟩) (by assumption) ?_
          rotate_left
          · intro wS hSw; (try dsimp only at hSw); go_simp; (try with_reducible rfl)
          try simp only [Act.put, List.setIfInBounds_toArray, List.set_cons_zero, List.set_cons_succ]
          refine wpAnyH_done (by kernel_rfl) ?_ _
          go_wp2_with fail
          go_roundw
          case rel => exact ⟨k + 1, v, out, rfl, by go_num, by omega, HF.out, own_keep HO.out hbx, hok2, by omega, hbM⟩
          case measure => simp [intOf]; omega
        · rw [ha] at HT mi
          rw [hb] at HT mj
          have HF : Hid (stretch (tAnd la lb) (growC out (cutS e a x c p q f) (cutS e' a' x' c' p' q' f')) (List.drop (k + 1) (cutsC (la ++ lb))) = R) := HT.out
          clear ha hb HT
          go_wp2_with fail
          refine wp_region_held_drew (S := fun W => (W.cell? ⟨bc, k * 7, none⟩ = some (.int .i64 e) ∧ W.cell? ⟨bc, k * 7 + 1, none⟩ = some (.int .i64 a) ∧ W.cell? ⟨bc, k * 7 + 2, none⟩ = some (.int .i64 x) ∧ W.cell? ⟨bc, k * 7 + 3, none⟩ = some (.int .i64 c) ∧ W.cell? ⟨bc, k * 7 + 4, none⟩ = some (.string p) ∧ W.cell? ⟨bc, k * 7 + 5, none⟩ = some (.string q) ∧ W.cell? ⟨bc, k * 7 + 6, none⟩ = some (.bool f)) ∧ (W.cell? ⟨bc, (k + 1) * 7, none⟩ = some (.int .i64 e') ∧ W.cell? ⟨bc, (k + 1) * 7 + 1, none⟩ = some (.int .i64 a') ∧ W.cell? ⟨bc, (k + 1) * 7 + 2, none⟩ = some (.int .i64 x') ∧ W.cell? ⟨bc, (k + 1) * 7 + 3, none⟩ = some (.int .i64 c') ∧ W.cell? ⟨bc, (k + 1) * 7 + 4, none⟩ = some (.string p') ∧ W.cell? ⟨bc, (k + 1) * 7 + 5, none⟩ = some (.string q') ∧ W.cell? ⟨bc, (k + 1) * 7 + 6, none⟩ = some (.bool f')) ∧ Below w2.heap.size w2 W) (by kernel_rfl) ⟨⟨k0, k1, k2, k3, k4, k5, k6⟩, ⟨l0, l1, l2, l3, l4, l5, l6⟩, hbw2⟩ (fun hHeld => ?_)
          refine takeD (i := 0) (d := some 28) (v := ?_) rfl rfl (by kernel_rfl) (by kernel_rfl) (by kernel_rfl) (fun _ _ _ h => h) (Or.inl ⟨by rfl, ?_⟩) (by assumption) ?_
          rotate_left
          · intro wS hSw; (try dsimp only at hSw); go_simp; (try with_reducible rfl)
          try simp only [Act.put, List.setIfInBounds_toArray, List.set_cons_zero, List.set_cons_succ]
          refine takeD (i := 1) (d := some 29) (v := ?_) rfl rfl (by kernel_rfl) (by kernel_rfl) (by kernel_rfl) (fun _ _ _ h => h) (Or.inl ⟨by rfl, ?_⟩) (by assumption) ?_
          rotate_left
          · intro wS hSw; (try dsimp only at hSw); go_simp; (try with_reducible rfl)
          try simp only [Act.put, List.setIfInBounds_toArray, List.set_cons_zero, List.set_cons_succ]
          refine takeD (i := 2) (d := some 30) (v := ?_) rfl rfl (by kernel_rfl) (by kernel_rfl) (by kernel_rfl) (fun _ _ _ h => h) (Or.inl ⟨by rfl, ?_⟩) (by assumption) ?_
          rotate_left
          · intro wS hSw; (try dsimp only at hSw); go_simp; (try with_reducible rfl)
          try simp only [Act.put, List.setIfInBounds_toArray, List.set_cons_zero, List.set_cons_succ]
          refine takeD (i := 3) (d := some 31) (v := ?_) rfl rfl (by kernel_rfl) (by kernel_rfl) (by kernel_rfl) (fun _ _ _ h => h) (Or.inl ⟨by rfl, ?_⟩) (by assumption) ?_
          rotate_left
          · intro wS hSw; (try dsimp only at hSw); go_simp; (try with_reducible rfl)
          try simp only [Act.put, List.setIfInBounds_toArray, List.set_cons_zero, List.set_cons_succ]
          refine takeD (i := 4) (d := some 32) (v := ?_) rfl rfl (by kernel_rfl) (by kernel_rfl) (by kernel_rfl) (fun _ _ _ h => h) (Or.inl ⟨by rfl, ?_⟩) (by assumption) ?_
          rotate_left
          · intro wS hSw; (try dsimp only at hSw); go_simp; (try with_reducible rfl)
          try simp only [Act.put, List.setIfInBounds_toArray, List.set_cons_zero, List.set_cons_succ]
          refine takeD (i := 5) (d := some 33) (v := ?_) rfl rfl (by kernel_rfl) (by kernel_rfl) (by kernel_rfl) (fun _ _ _ h => h) (Or.inl ⟨by rfl, ?_⟩) (by assumption) ?_
          rotate_left
          · intro wS hSw; (try dsimp only at hSw); go_simp; (try with_reducible rfl)
          try simp only [Act.put, List.setIfInBounds_toArray, List.set_cons_zero, List.set_cons_succ]
          refine takeD (i := 6) (d := some 34) (v := ?_) rfl rfl (by kernel_rfl) (by kernel_rfl) (by kernel_rfl) (fun _ _ _ h => h) (Or.inl ⟨by rfl, ?_⟩) (by assumption) ?_
          rotate_left
          · intro wS hSw; (try dsimp only at hSw); go_simp; (try with_reducible rfl)
          try simp only [Act.put, List.setIfInBounds_toArray, List.set_cons_zero, List.set_cons_succ]
          refine takeD (i := 7) (d := some 35) (v := ?_) rfl rfl (by kernel_rfl) (by kernel_rfl) (by kernel_rfl) (fun _ _ _ h => h) (Or.inl ⟨by rfl, ?_⟩) (by assumption) ?_
          rotate_left
          · intro wS hSw; (try dsimp only at hSw); go_simp; (try with_reducible rfl)
          try simp only [Act.put, List.setIfInBounds_toArray, List.set_cons_zero, List.set_cons_succ]
          refine takeD (i := 8) (d := some 36) (v := ?_) rfl rfl (by kernel_rfl) (by kernel_rfl) (by kernel_rfl) (fun _ _ _ h => h) (Or.inl ⟨by rfl, ?_⟩) (by assumption) ?_
          rotate_left
          · intro wS hSw; (try dsimp only at hSw); go_simp; (try with_reducible rfl)
          try simp only [Act.put, List.setIfInBounds_toArray, List.set_cons_zero, List.set_cons_succ]
          refine takeD (i := 9) (d := some 37) (v := ?_) rfl rfl (by kernel_rfl) (by kernel_rfl) (by kernel_rfl) (fun _ _ _ h => h) (Or.inl ⟨by rfl, ?_⟩) (by assumption) ?_
          rotate_left
          · intro wS hSw; (try dsimp only at hSw); go_simp; (try with_reducible rfl)
          try simp only [Act.put, List.setIfInBounds_toArray, List.set_cons_zero, List.set_cons_succ]
          refine wpAnyH_ready (rs := [10]) (by kernel_rfl) (by simp) ?_
          refine consD (d := some 38) rfl rfl (fun K hK => ?_) AllReadyH.nil
          go_simp
          (go_at_call 59; (with_reducible refine (mi).mono ?_); rintro r w4 ⟨rfl, hb4⟩)
          have hbM := hbw2.trans (hb4.mono hbw2.size)
          have hbb : bc < wr.drew.heap.size := Nat.lt_of_lt_of_le hbB hbw.size
          have hbx : Below wr.heap.size wr w4 := ((Below.refl wr.heap.size wr).drew).trans (show Below wr.heap.size wr.drew w4 from hb4)
          refine hK.out _ _ ⟨keep7 hb4 hbb hHeld.1, keep7 hb4 hbb hHeld.2.1, hbM⟩ (fun hHeld => ?_)
          clear hK K
          try simp only [Act.put, List.setIfInBounds_toArray, List.set_cons_zero, List.set_cons_succ]
          refine takeD (i := 11) (d := some 39) (v := ?_) rfl rfl (by kernel_rfl) (by kernel_rfl) (by kernel_rfl) (fun _ _ _ h => h) (Or.inl ⟨by rfl, ?_⟩) (by assumption) ?_
          rotate_left
          · intro wS hSw; (try dsimp only at hSw); go_simp; (try with_reducible rfl)
          try simp only [Act.put, List.setIfInBounds_toArray, List.set_cons_zero, List.set_cons_succ]
          refine takeD (i := 12) (d := some 40) (v := ?_) rfl rfl (by kernel_rfl) (by kernel_rfl) (by kernel_rfl) (fun _ _ _ h => h) (Or.inl ⟨by rfl, ?_⟩) (by assumption) ?_
          rotate_left
          · intro wS hSw; (try dsimp only at hSw); go_simp; (try with_reducible rfl)
          try simp only [Act.put, List.setIfInBounds_toArray, List.set_cons_zero, List.set_cons_succ]
          refine takeD (i := 13) (d := some 41) (v := ?_) rfl rfl (by kernel_rfl) (by kernel_rfl) (by kernel_rfl) (fun _ _ _ h => h) (Or.inl ⟨by rfl, ?_⟩) (by assumption) ?_
          rotate_left
          · intro wS hSw; (try dsimp only at hSw); go_simp; (try with_reducible rfl)
          try simp only [Act.put, List.setIfInBounds_toArray, List.set_cons_zero, List.set_cons_succ]
          refine takeD (i := 14) (d := some 42) (v := ?_) rfl rfl (by kernel_rfl) (by kernel_rfl) (by kernel_rfl) (fun _ _ _ h => h) (Or.inl ⟨by rfl, ?_⟩) (by assumption) ?_
          rotate_left
          · intro wS hSw; (try dsimp only at hSw); go_simp; (try with_reducible rfl)
          try simp only [Act.put, List.setIfInBounds_toArray, List.set_cons_zero, List.set_cons_succ]
          refine takeD (i := 15) (d := some 43) (v := ?_) rfl rfl (by kernel_rfl) (by kernel_rfl) (by kernel_rfl) (fun _ _ _ h => h) (Or.inl ⟨by rfl, ?_⟩) (by assumption) ?_
          rotate_left
          · intro wS hSw; (try dsimp only at hSw); go_simp; (try with_reducible rfl)
          try simp only [Act.put, List.setIfInBounds_toArray, List.set_cons_zero, List.set_cons_succ]
          refine takeD (i := 16) (d := some 44) (v := ?_) rfl rfl (by kernel_rfl) (by kernel_rfl) (by kernel_rfl) (fun _ _ _ h => h) (Or.inl ⟨by rfl, ?_⟩) (by assumption) ?_
          rotate_left
          · intro wS hSw; (try dsimp only at hSw); go_simp; (try with_reducible rfl)
          try simp only [Act.put, List.setIfInBounds_toArray, List.set_cons_zero, List.set_cons_succ]
          refine takeD (i := 17) (d := some 45) (v := ?_) rfl rfl (by kernel_rfl) (by kernel_rfl) (by kernel_rfl) (fun _ _ _ h => h) (Or.inl ⟨by rfl, ?_⟩) (by assumption) ?_
          rotate_left
          · intro wS hSw; (try dsimp only at hSw); go_simp; (try with_reducible rfl)
          try simp only [Act.put, List.setIfInBounds_toArray, List.set_cons_zero, List.set_cons_succ]
          refine takeD (i := 18) (d := some 46) (v := ?_) rfl rfl (by kernel_rfl) (by kernel_rfl) (by kernel_rfl) (fun _ _ _ h => h) (Or.inl ⟨by rfl, ?_⟩) (by assumption) ?_
          rotate_left
          · intro wS hSw; (try dsimp only at hSw); go_simp; (try with_reducible rfl)
          try simp only [Act.put, List.setIfInBounds_toArray, List.set_cons_zero, List.set_cons_succ]
          refine takeD (i := 19) (d := some 47) (v := ?_) rfl rfl (by kernel_rfl) (by kernel_rfl) (by kernel_rfl) (fun _ _ _ h => h) (Or.inl ⟨by rfl, ?_⟩) (by assumption) ?_
          rotate_left
          · intro wS hSw; (try dsimp only at hSw); go_simp; (try with_reducible rfl)
          try simp only [Act.put, List.setIfInBounds_toArray, List.set_cons_zero, List.set_cons_succ]
          refine takeD (i := 20) (d := some 48) (v := ?_) rfl rfl (by kernel_rfl) (by kernel_rfl) (by kernel_rfl) (fun _ _ _ h => h) (Or.inl ⟨by rfl, ?_⟩) (by assumption) ?_
          rotate_left
          · intro wS hSw; (try dsimp only at hSw); go_simp; (try with_reducible rfl)
          try simp only [Act.put, List.setIfInBounds_toArray, List.set_cons_zero, List.set_cons_succ]
          refine takeD (i := 21) (d := some 49) (v := ?_) rfl rfl (by kernel_rfl) (by kernel_rfl) (by kernel_rfl) (fun _ _ _ h => h) (Or.inl ⟨by rfl, ?_⟩) (by assumption) ?_
          rotate_left
          · intro wS hSw; (try dsimp only at hSw); go_simp; (try with_reducible rfl)
          try simp only [Act.put, List.setIfInBounds_toArray, List.set_cons_zero, List.set_cons_succ]
          refine wpAnyH_ready (rs := [22]) (by kernel_rfl) (by simp) ?_
          refine consD (d := some 50) rfl rfl (fun K hK => ?_) AllReadyH.nil
          go_simp
          have mj2 := mj w4 hb4
          (go_at_call 59; (with_reducible refine (mj2).mono ?_); rintro r w6 ⟨rfl, hb6⟩)
          have hbM := hbM.trans (hb6.mono hbM.size)
          have hbx := hbx.trans (hb6.mono hbx.size)
          have hbb4 := Nat.lt_of_lt_of_le hbb hb4.size
          refine hK.out _ _ ⟨keep7 hb6 hbb4 hHeld.1, keep7 hb6 hbb4 hHeld.2.1, hbM⟩ (fun hHeld => ?_)
          clear hK K
          try simp only [Act.put, List.setIfInBounds_toArray, List.set_cons_zero, List.set_cons_succ]
          refine takeD (i := 23) (d := some 51) (v := ?_) rfl rfl (by kernel_rfl) (by kernel_rfl) (by kernel_rfl) (fun _ _ _ h => h) (Or.inl ⟨by rfl, ?_⟩) (by assumption) ?_
          rotate_left
          · intro wS hSw; (try dsimp only at hSw); go_simp; (try with_reducible rfl)
          try simp only [Act.put, List.setIfInBounds_toArray, List.set_cons_zero, List.set_cons_succ]
          refine wpAnyH_done (by kernel_rfl) ?_ _
          obtain ⟨k0, k1, k2, k3, k4, k5, k6⟩ := hHeld.1
          obtain ⟨l0, l1, l2, l3, l4, l5, l6⟩ := hHeld.2.1
          have hov : w6.drew.ownsRow w2.heap.size 50 14 v out.length (out.flatMap spanCells) := own_keep HO.out hbx.drew
          go_wp2_with fail
          refine wp_region_held_drew (S := fun W => (W.cell? ⟨bc, k * 7, none⟩ = some (.int .i64 e) ∧ W.cell? ⟨bc, k * 7 + 1, none⟩ = some (.int .i64 a) ∧ W.cell? ⟨bc, k * 7 + 2, none⟩ = some (.int .i64 x) ∧ W.cell? ⟨bc, k * 7 + 3, none⟩ = some (.int .i64 c) ∧ W.cell? ⟨bc, k * 7 + 4, none⟩ = some (.string p) ∧ W.cell? ⟨bc, k * 7 + 5, none⟩ = some (.string q) ∧ W.cell? ⟨bc, k * 7 + 6, none⟩ = some (.bool f)) ∧ (W.cell? ⟨bc, (k + 1) * 7, none⟩ = some (.int .i64 e') ∧ W.cell? ⟨bc, (k + 1) * 7 + 1, none⟩ = some (.int .i64 a') ∧ W.cell? ⟨bc, (k + 1) * 7 + 2, none⟩ = some (.int .i64 x') ∧ W.cell? ⟨bc, (k + 1) * 7 + 3, none⟩ = some (.int .i64 c') ∧ W.cell? ⟨bc, (k + 1) * 7 + 4, none⟩ = some (.string p') ∧ W.cell? ⟨bc, (k + 1) * 7 + 5, none⟩ = some (.string q') ∧ W.cell? ⟨bc, (k + 1) * 7 + 6, none⟩ = some (.bool f')) ∧ Below w2.heap.size w2 W) (by kernel_rfl) ⟨⟨k0, k1, k2, k3, k4, k5, k6⟩, ⟨l0, l1, l2, l3, l4, l5, l6⟩, hbM.drew⟩ (fun hHeld => ?_)
          refine takeD (i := 0) (d := some 52) (v := ?_) rfl rfl (by kernel_rfl) (by kernel_rfl) (by kernel_rfl) (fun _ _ _ h => h) (Or.inl ⟨by rfl, ?_⟩) (by assumption) ?_
          rotate_left
          · intro wS hSw; (try dsimp only at hSw); go_simp; (try with_reducible rfl)
          try simp only [Act.put, List.setIfInBounds_toArray, List.set_cons_zero, List.set_cons_succ]
          refine takeD (i := 1) (d := some 53) (v := ?_) rfl rfl (by kernel_rfl) (by kernel_rfl) (by kernel_rfl) (fun _ _ _ h => h) (Or.inl ⟨by rfl, ?_⟩) (by assumption) ?_
          rotate_left
          · intro wS hSw; (try dsimp only at hSw); go_simp; (try with_reducible rfl)
          try simp only [Act.put, List.setIfInBounds_toArray, List.set_cons_zero, List.set_cons_succ]
          refine takeD (i := 2) (d := some 54) (v := ?_) rfl rfl (by kernel_rfl) (by kernel_rfl) (by kernel_rfl) (fun _ _ _ h => h) (Or.inl ⟨by rfl, ?_⟩) (by assumption) ?_
          rotate_left
          · intro wS hSw; (try dsimp only at hSw); go_simp; (try with_reducible rfl)
          try simp only [Act.put, List.setIfInBounds_toArray, List.set_cons_zero, List.set_cons_succ]
          refine takeD (i := 3) (d := some 55) (v := ?_) rfl rfl (by kernel_rfl) (by kernel_rfl) (by kernel_rfl) (fun _ _ _ h => h) (Or.inl ⟨by rfl, ?_⟩) (by assumption) ?_
          rotate_left
          · intro wS hSw; (try dsimp only at hSw); go_simp; (try with_reducible rfl)
          try simp only [Act.put, List.setIfInBounds_toArray, List.set_cons_zero, List.set_cons_succ]
          refine takeD (i := 4) (d := some 56) (v := ?_) rfl rfl (by kernel_rfl) (by kernel_rfl) (by kernel_rfl) (fun _ _ _ h => h) (Or.inl ⟨by rfl, ?_⟩) (by assumption) ?_
          rotate_left
          · intro wS hSw; (try dsimp only at hSw); go_simp; (try with_reducible rfl)
          try simp only [Act.put, List.setIfInBounds_toArray, List.set_cons_zero, List.set_cons_succ]
          refine takeD (i := 5) (d := some 57) (v := ?_) rfl rfl (by kernel_rfl) (by kernel_rfl) (by kernel_rfl) (fun _ _ _ h => h) (Or.inl ⟨by rfl, ?_⟩) (by assumption) ?_
          rotate_left
          · intro wS hSw; (try dsimp only at hSw); go_simp; (try with_reducible rfl)
          try simp only [Act.put, List.setIfInBounds_toArray, List.set_cons_zero, List.set_cons_succ]
          refine takeD (i := 6) (d := some 58) (v := ?_) rfl rfl (by kernel_rfl) (by kernel_rfl) (by kernel_rfl) (fun _ _ _ h => h) (Or.inl ⟨by rfl, ?_⟩) (by assumption) ?_
          rotate_left
          · intro wS hSw; (try dsimp only at hSw); go_simp; (try with_reducible rfl)
          try simp only [Act.put, List.setIfInBounds_toArray, List.set_cons_zero, List.set_cons_succ]
          refine takeD (i := 7) (d := some 59) (v := ?_) rfl rfl (by kernel_rfl) (by kernel_rfl) (by kernel_rfl) (fun _ _ _ h => h) (Or.inl ⟨by rfl, ?_⟩) (by assumption) ?_
          rotate_left
          · intro wS hSw; (try dsimp only at hSw); go_simp; (try with_reducible rfl)
          try simp only [Act.put, List.setIfInBounds_toArray, List.set_cons_zero, List.set_cons_succ]
          refine takeD (i := 8) (d := some 60) (v := ?_) rfl rfl (by kernel_rfl) (by kernel_rfl) (by kernel_rfl) (fun _ _ _ h => h) (Or.inl ⟨by rfl, ?_⟩) (by assumption) ?_
          rotate_left
          · intro wS hSw; (try dsimp only at hSw); go_simp; (try with_reducible rfl)
          try simp only [Act.put, List.setIfInBounds_toArray, List.set_cons_zero, List.set_cons_succ]
          refine takeD (i := 9) (d := some 61) (v := ?_) rfl rfl (by kernel_rfl) (by kernel_rfl) (by kernel_rfl) (fun _ _ _ h => h) (Or.inl ⟨by rfl, ?_⟩) (by assumption) ?_
          rotate_left
          · intro wS hSw; (try dsimp only at hSw); go_simp; (try with_reducible rfl)
          try simp only [Act.put, List.setIfInBounds_toArray, List.set_cons_zero, List.set_cons_succ]
          refine wpAnyH_ready (rs := [10]) (by kernel_rfl) (by simp) ?_
          refine consD (d := some 62) rfl rfl (fun K hK => ?_) AllReadyH.nil
          go_simp
          have mg := rgrow_any v w2.heap.size out.length out e a x c p q f e' a' x' c' p' q' f' _ hov hok2 hbM.size (by omega) hp hq
          unfold cutW at mg
          (go_at_call 60; (with_reducible refine (mg).mono ?_); rintro r w5 ⟨v5, rfl, ho5, hb5⟩)
          have hbM5 := hbM.drew.trans hb5
          refine hK.out _ _ ⟨keep7 hb5 hbB hHeld.1, keep7 hb5 hbB hHeld.2.1, hbM5⟩ (fun hHeld => ?_)
          clear hK K
          try simp only [Act.put, List.setIfInBounds_toArray, List.set_cons_zero, List.set_cons_succ]
          refine takeD (i := 11) (d := some 5) (v := ?_) rfl rfl (by kernel_rfl) (by kernel_rfl) (by kernel_rfl) (fun _ _ _ h => h) (Or.inl ⟨by rfl, ?_⟩) (by assumption) ?_
          rotate_left
          · intro wS hSw; (try dsimp only at hSw); go_simp; (try with_reducible rfl)
          try simp only [Act.put, List.setIfInBounds_toArray, List.set_cons_zero, List.set_cons_succ]
          refine wpAnyH_done (by kernel_rfl) ?_ _
          go_wp2_with fail
          go_roundw
          case rel => exact ⟨k + 1, v5, growC out (cutS e a x c p q f) (cutS e' a' x' c' p' q' f'), rfl, by go_num, by omega, HF.out, ho5, grow_ok (okC_S hp hq) (okC_S hp' hq') hok2, Nat.le_trans (grow_len _ _ _) (by omega), hbM5⟩
          case measure => simp [intOf]; omega
    · have HE : Hid (R = out) := by rw [← HS.out]; exact stretch_end (by rw [← HN.out]; omega)
      have i1 : ¬ (k : Int) + 1 < (nc : Int) := by omega
      have i3 : IntKind.i64.wrap ((k : Int) + 1) = (k : Int) + 1 := IntWalk.i64_in _ (by omega)
      go_wp2_with fail
      go_ret
      rw [HE.out]
      obtain ⟨A3, cap3, hv3, hc3, _, hr3⟩ := own_rds HO.out
      exact ⟨A3, _, cap3, row_slice hv3, rfl, hc3, hr3, hbw0.trans (hbw.mono hb20)⟩
end Go.Proofs.YthaagngoefieaaaDoor
