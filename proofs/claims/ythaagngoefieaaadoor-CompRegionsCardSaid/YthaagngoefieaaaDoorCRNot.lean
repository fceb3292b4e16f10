/-
  The walk of chapter 4's reference Not. Conditions: at most 1000 spans; Pre and Build of each cut have at most 1048576 bytes.
-/
import Derived.Test.YthaagngoefieaaaDoorCGrow
import Derived.Test.YthaagngoefieaaaDoorCCuts
import Derived.Test.YthaagngoefieaaaDoorCIn
import Derived.IntWalk
namespace Go.Proofs.YthaagngoefieaaaDoor
open Go.ChangeShapes Go.WideShapes Go.ChangeAt Go.RowKit
set_option linter.unusedVariables false
set_option linter.unusedSimpArgs false

theorem stretch_step {test : CutC → CutC → Bool} {cs : List CutC} {k : Nat} {a b : CutC} {out : List SpanC} (ha : cs[k]? = some a) (hb : cs[k + 1]? = some b) :
    stretch test out (cs.drop k) = stretch test (if test a b = true then growC out a b else out) (cs.drop (k + 1)) := by
  obtain ⟨h1, rfl⟩ := List.getElem?_eq_some_iff.1 ha
  obtain ⟨h2, rfl⟩ := List.getElem?_eq_some_iff.1 hb
  rw [List.drop_eq_getElem_cons h1, List.drop_eq_getElem_cons h2, stretch]
theorem stretch_end {test : CutC → CutC → Bool} {cs : List CutC} {k : Nat} {out : List SpanC} (h : cs.length ≤ k + 1) : stretch test out (cs.drop k) = out := by
  have hl : (cs.drop k).length ≤ 1 := by rw [List.length_drop]; omega
  generalize cs.drop k = l at hl
  match l, hl with
  | [], _ => rfl
  | [x], _ => rfl
  | x :: y :: l, h => simp at h
theorem grow_ok {l : List SpanC} {f t : CutC} (hf : okC f) (ht : okC t) (h : ∀ s ∈ l, okS s) : ∀ s ∈ growC l f t, okS s := by
  intro s hs
  unfold growC at hs
  split at hs
  · rename_i u hu
    split at hs
    · rcases List.mem_append.1 hs with hs | hs
      · exact h s ((List.dropLast_sublist l).subset hs)
      · simp at hs; subst hs; exact ⟨(h u (List.mem_of_getLast? hu)).1, ht⟩
    · rcases List.mem_append.1 hs with hs | hs
      · exact h s hs
      · simp at hs; subst hs; exact ⟨hf, ht⟩
  · simp at hs; subst hs; exact ⟨hf, ht⟩
theorem grow_len (l : List SpanC) (f t : CutC) : (growC l f t).length ≤ l.length + 1 := by
  unfold growC
  split
  · rename_i u hu
    have : l ≠ [] := by intro e; subst e; simp at hu
    have := List.length_pos_iff.2 this
    split
    · first | (simp; done) | (simp; omega)
    · simp
  · simp
theorem okC_S {e a x c : Int} {p q : ByteArray} {f : Bool} (hp : p.size ≤ 1048576) (hq : q.size ≤ 1048576) : okC (cutS e a x c p q f) :=
  ⟨by show p.data.toList.length ≤ _; rw [len_size]; exact hp, by show q.data.toList.length ≤ _; rw [len_size]; exact hq⟩
/-- A round of Not or And: what is left to do; the row so far. -/
def NotAt (w W : World) (test : CutC → CutC → Bool) (R : List SpanC) (cs : List CutC) (out : List SpanC) (v : Value) (k : Nat) : Prop :=
  stretch test out (cs.drop k) = R ∧ W.ownsRow w.heap.size 50 14 v out.length (out.flatMap spanCells) ∧ (∀ s ∈ out, okS s) ∧ out.length ≤ k ∧ Below w.heap.size w W

def tNot (l : List SpanC) (f t : CutC) : Bool := !inC l f t
theorem notR_eq (l : List SpanC) : notR l = if mayRow l = true then stretch (tNot l) [] (cutsC l) else [] := rfl
set_option maxRecDepth 8192 in
set_option maxHeartbeats 8000000 in
theorem rnot_any (A : Option Addr) (n cap B : Nat) (l : List SpanC) (w : World) (h : RdS w B A l) (hl : l.length = n) (hok : ∀ s ∈ l, okS s) (hB : B ≤ w.heap.size) (hn : n ≤ 1000) :
    Calls Tryd.prog 25 #[.slice A n cap] w (Row4 (notR l) w) := by
  have H := Lib.hid h
  have HL := Lib.hid hl
  have HD := Lib.hid (cuts_bd hok)
  have cm := fun W (h1 : RdS W B A l) (h2 : B ≤ W.heap.size) => rrowmay_any A n cap B l W h1 hl hok h2 (by omega)
  have cc := fun W (h1 : RdS W B A l) (h2 : B ≤ W.heap.size) => rcuts_any A n cap B l W h1 hl hok h2 (by omega)
  have ci := fun W (h1 : RdS W B A l) (h2 : B ≤ W.heap.size) => fun fe fa fb fc fp fq ff te ta tb tc tp tq tf hfp hfq htp htq => rin_any A n cap B l fe fa fb fc fp fq ff te ta tb tc tp tq tf W h1 hl hok h2 (by omega) hfp hfq htp htq
  have cm1 := cm w h hB
  clear cm
  rw [notR_eq]
  cases hm : mayRow l
  · rw [hm] at cm1
    clear h hl hm HD cc ci
    go_enter Tryd.func25, Tryd.ntmps25
    go_wp2_with fail
    refine cm1.mono ?_
    rintro r w1 ⟨rfl, hb1⟩
    go_wp2_with fail
    go_ret
    exact ⟨none, 0, 0, rfl, rfl, Nat.le_refl _, rds_none, hb1⟩
  rw [hm] at cm1
  rw [if_pos rfl]
  generalize hR : stretch (tNot l) [] (cutsC l) = R
  have HR := Lib.hid hR
  clear h hl hm hR
  go_enter Tryd.func25, Tryd.ntmps25
  go_wp2_with fail
  refine cm1.mono ?_
  rintro r w1 ⟨rfl, hb1⟩
  have cc1 := cc w1 (rds_below H.out (hb1.mono hB)) (Nat.le_trans hB hb1.size)
  clear cm1 cc
  go_wp2_with fail
  refine cc1.mono ?_
  rintro r w2 ⟨Ac, nc, cap2, rfl, hnc, hcc, hrc, hb2⟩
  have HN := Lib.hid hnc
  have HC := Lib.hid hrc
  have hbw0 := hb1.trans (hb2.mono hb1.size)
  have hb20 := hbw0.size
  clear cc1 hnc hrc hb1 hb2
  obtain ⟨hko, hk2, hkm⟩ := HD.out n (by rw [HL.out]; exact Nat.le_refl _)
  rw [List.take_of_length_le (by rw [HL.out]; exact Nat.le_refl _)] at hko hk2 hkm
  have HK := Lib.hid hko
  rw [← HN.out] at hk2 hkm
  clear hko HD
  go_wp2
  go_loopw [3, 5] (fun s i wr => ∃ (k : Nat) (v : Value) (out : List SpanC), v = s ∧ i = .int .i64 k ∧ k + 1 ≤ nc ∧ NotAt w2 wr (tNot l) R (cutsC l) out v k) (fun _ i _ => nc - (intOf i).toNat)
  case atStart => exact ⟨0, .slice none 0 0, [], rfl, rfl, by omega, HR.out, World.ownsRow_nil _ _ _ _, fun s hs => by simp at hs, Nat.le_refl _, Below.refl _ _⟩
  case round =>
    obtain ⟨k, v, out, rfl, rfl, hk, hst⟩ := hrel
    have HS := Lib.hid hst.1
    have HO := Lib.hid hst.2.1
    have hok2 := hst.2.2.1
    have hlk := hst.2.2.2.1
    have hbw := hst.2.2.2.2
    clear hst
    by_cases hlt : k + 1 < nc
    · have hrc := rdc_below HC.out hbw
      obtain ⟨bc, e, a, x, c, p, q, f, rfl, hbB, hs1, ⟨hp, hq⟩, k0, k1, k2, k3, k4, k5, k6⟩ := rdc_at hrc HK.out (k := k) (by rw [← HN.out]; omega)
      obtain ⟨bd, e', a', x', c', p', q', f', hbd, _, hs2, ⟨hp', hq'⟩, l0, l1, l2, l3, l4, l5, l6⟩ := rdc_at hrc HK.out (k := k + 1) (by rw [← HN.out]; omega)
      obtain rfl : bc = bd := by injection hbd with h1; injection h1
      clear hbd hrc
      have i1 : (k : Int) < (nc : Int) := by omega
      have i2 : (k : Int) + 1 < (nc : Int) := by omega
      have i3 : IntKind.i64.wrap ((k : Int) + 1) = (k : Int) + 1 := IntWalk.i64_in _ (by omega)
      have i4 : (0 : Int) ≤ (k : Int) + 1 := by omega
      have i5 : ((k : Int) + 1).toNat = k + 1 := by omega
      have hbw2 : Below w2.heap.size w2 wr.drew := hbw.drew
      have hge := hbw.size
      have hT := HS.out
      rw [stretch_step hs1 hs2] at hT
      have hrl : RdS wr.drew B A l := rds_below H.out ((hbw0.mono hB).trans (hbw2.mono (Nat.le_trans hB hb20)))
      have mi := ci wr.drew hrl (Nat.le_trans hB (Nat.le_trans hb20 hge)) e a x c p q f e' a' x' c' p' q' f' hp hq hp' hq'
      unfold cutW at mi
      clear ci hs1 hs2 hrl
      have HT := Lib.hid (show stretch (tNot l) (if (!inC l (cutS e a x c p q f) (cutS e' a' x' c' p' q' f')) = true then growC out (cutS e a x c p q f) (cutS e' a' x' c' p' q' f') else out) (List.drop (k + 1) (cutsC l)) = R from hT)
      clear hT
      cases hin : inC l (cutS e a x c p q f) (cutS e' a' x' c' p' q' f')
      · rw [hin] at HT mi
        have HF : Hid (stretch (tNot l) (growC out (cutS e a x c p q f) (cutS e' a' x' c' p' q' f')) (List.drop (k + 1) (cutsC l)) = R) := HT.out
        clear hin HT
        go_wp2_with fail
        refine wp_region_held_drew (S := fun W => (W.cell? ⟨bc, k * 7, none⟩ = some (.int .i64 e) ∧ W.cell? ⟨bc, k * 7 + 1, none⟩ = some (.int .i64 a) ∧ W.cell? ⟨bc, k * 7 + 2, none⟩ = some (.int .i64 x) ∧ W.cell? ⟨bc, k * 7 + 3, none⟩ = some (.int .i64 c) ∧ W.cell? ⟨bc, k * 7 + 4, none⟩ = some (.string p) ∧ W.cell? ⟨bc, k * 7 + 5, none⟩ = some (.string q) ∧ W.cell? ⟨bc, k * 7 + 6, none⟩ = some (.bool f)) ∧ (W.cell? ⟨bc, (k + 1) * 7, none⟩ = some (.int .i64 e') ∧ W.cell? ⟨bc, (k + 1) * 7 + 1, none⟩ = some (.int .i64 a') ∧ W.cell? ⟨bc, (k + 1) * 7 + 2, none⟩ = some (.int .i64 x') ∧ W.cell? ⟨bc, (k + 1) * 7 + 3, none⟩ = some (.int .i64 c') ∧ W.cell? ⟨bc, (k + 1) * 7 + 4, none⟩ = some (.string p') ∧ W.cell? ⟨bc, (k + 1) * 7 + 5, none⟩ = some (.string q') ∧ W.cell? ⟨bc, (k + 1) * 7 + 6, none⟩ = some (.bool f')) ∧ Below w2.heap.size w2 W) (by kernel_rfl) ⟨⟨k0, k1, k2, k3, k4, k5, k6⟩, ⟨l0, l1, l2, l3, l4, l5, l6⟩, hbw2⟩ (fun hHeld => ?_)
        refine takeD (i := 0) (d := some 18) (v := ?_) rfl rfl (by kernel_rfl) (by kernel_rfl) (by kernel_rfl) (fun _ _ _ h => h) (Or.inl ⟨by rfl, ?_⟩) (by assumption) ?_
        rotate_left
        · intro wS hSw; (try dsimp only at hSw); go_simp; (try with_reducible rfl)
        try simp only [Act.put, List.setIfInBounds_toArray, List.set_cons_zero, List.set_cons_succ]
        refine takeD (i := 1) (d := some 19) (v := ?_) rfl rfl (by kernel_rfl) (by kernel_rfl) (by kernel_rfl) (fun _ _ _ h => h) (Or.inl ⟨by rfl, ?_⟩) (by assumption) ?_
        rotate_left
        · intro wS hSw; (try dsimp only at hSw); go_simp; (try with_reducible rfl)
        try simp only [Act.put, List.setIfInBounds_toArray, List.set_cons_zero, List.set_cons_succ]
        refine takeD (i := 2) (d := some 20) (v := ?_) rfl rfl (by kernel_rfl) (by kernel_rfl) (by kernel_rfl) (fun _ _ _ h => h) (Or.inl ⟨by rfl, ?_⟩) (by assumption) ?_
        rotate_left
        · intro wS hSw; (try dsimp only at hSw); go_simp; (try with_reducible rfl)
        try simp only [Act.put, List.setIfInBounds_toArray, List.set_cons_zero, List.set_cons_succ]
        refine takeD (i := 3) (d := some 21) (v := ?_) rfl rfl (by kernel_rfl) (by kernel_rfl) (by kernel_rfl) (fun _ _ _ h => h) (Or.inl ⟨by rfl, ?_⟩) (by assumption) ?_
        rotate_left
        · intro wS hSw; (try dsimp only at hSw); go_simp; (try with_reducible rfl)
        try simp only [Act.put, List.setIfInBounds_toArray, List.set_cons_zero, List.set_cons_succ]
        refine takeD (i := 4) (d := some 22) (v := ?_) rfl rfl (by kernel_rfl) (by kernel_rfl) (by kernel_rfl) (fun _ _ _ h => h) (Or.inl ⟨by rfl, ?_⟩) (by assumption) ?_
        rotate_left
        · intro wS hSw; (try dsimp only at hSw); go_simp; (try with_reducible rfl)
        try simp only [Act.put, List.setIfInBounds_toArray, List.set_cons_zero, List.set_cons_succ]
        refine takeD (i := 5) (d := some 23) (v := ?_) rfl rfl (by kernel_rfl) (by kernel_rfl) (by kernel_rfl) (fun _ _ _ h => h) (Or.inl ⟨by rfl, ?_⟩) (by assumption) ?_
        rotate_left
        · intro wS hSw; (try dsimp only at hSw); go_simp; (try with_reducible rfl)
        try simp only [Act.put, List.setIfInBounds_toArray, List.set_cons_zero, List.set_cons_succ]
        refine takeD (i := 6) (d := some 24) (v := ?_) rfl rfl (by kernel_rfl) (by kernel_rfl) (by kernel_rfl) (fun _ _ _ h => h) (Or.inl ⟨by rfl, ?_⟩) (by assumption) ?_
        rotate_left
        · intro wS hSw; (try dsimp only at hSw); go_simp; (try with_reducible rfl)
        try simp only [Act.put, List.setIfInBounds_toArray, List.set_cons_zero, List.set_cons_succ]
        refine takeD (i := 7) (d := some 25) (v := ?_) rfl rfl (by kernel_rfl) (by kernel_rfl) (by kernel_rfl) (fun _ _ _ h => h) (Or.inl ⟨by rfl, ?_⟩) (by assumption) ?_
        rotate_left
        · intro wS hSw; (try dsimp only at hSw); go_simp; (try with_reducible rfl)
        try simp only [Act.put, List.setIfInBounds_toArray, List.set_cons_zero, List.set_cons_succ]
        refine takeD (i := 8) (d := some 26) (v := ?_) rfl rfl (by kernel_rfl) (by kernel_rfl) (by kernel_rfl) (fun _ _ _ h => h) (Or.inl ⟨by rfl, ?_⟩) (by assumption) ?_
        rotate_left
        · intro wS hSw; (try dsimp only at hSw); go_simp; (try with_reducible rfl)
        try simp only [Act.put, List.setIfInBounds_toArray, List.set_cons_zero, List.set_cons_succ]
        refine takeD (i := 9) (d := some 27) (v := ?_) rfl rfl (by kernel_rfl) (by kernel_rfl) (by kernel_rfl) (fun _ _ _ h => h) (Or.inl ⟨by rfl, ?_⟩) (by assumption) ?_
        rotate_left
        · intro wS hSw; (try dsimp only at hSw); go_simp; (try with_reducible rfl)
        try simp only [Act.put, List.setIfInBounds_toArray, List.set_cons_zero, List.set_cons_succ]
        refine wpAnyH_ready (rs := [10]) (by kernel_rfl) (by simp) ?_
        refine consD (d := some 28) rfl rfl (fun K hK => ?_) AllReadyH.nil
        go_simp
        (go_at_call 59; (with_reducible refine (mi).mono ?_); rintro r w4 ⟨rfl, hb4⟩)
        have hbM := hbw2.trans (hb4.mono hbw2.size)
        have hbx : Below wr.heap.size wr w4 := ((Below.refl wr.heap.size wr).drew).trans (show Below wr.heap.size wr.drew w4 from hb4)
        have hbb : bc < wr.drew.heap.size := Nat.lt_of_lt_of_le hbB hbw.size
        refine hK.out _ _ ⟨keep7 hb4 hbb hHeld.1, keep7 hb4 hbb hHeld.2.1, hbM⟩ (fun hHeld => ?_)
        clear hK K
        try simp only [Act.put, List.setIfInBounds_toArray, List.set_cons_zero, List.set_cons_succ]
        refine takeD (i := 11) (d := some 29) (v := ?_) rfl rfl (by kernel_rfl) (by kernel_rfl) (by kernel_rfl) (fun _ _ _ h => h) (Or.inl ⟨by rfl, ?_⟩) (by assumption) ?_
        rotate_left
        · intro wS hSw; (try dsimp only at hSw); go_simp; (try with_reducible rfl)
        try simp only [Act.put, List.setIfInBounds_toArray, List.set_cons_zero, List.set_cons_succ]
        refine wpAnyH_done (by kernel_rfl) ?_ _
        obtain ⟨k0, k1, k2, k3, k4, k5, k6⟩ := hHeld.1
        obtain ⟨l0, l1, l2, l3, l4, l5, l6⟩ := hHeld.2.1
        have hov : w4.drew.ownsRow w2.heap.size 50 14 v out.length (out.flatMap spanCells) := own_keep HO.out hbx.drew
        go_wp2_with fail
        refine wp_region_held_drew (S := fun W => (W.cell? ⟨bc, k * 7, none⟩ = some (.int .i64 e) ∧ W.cell? ⟨bc, k * 7 + 1, none⟩ = some (.int .i64 a) ∧ W.cell? ⟨bc, k * 7 + 2, none⟩ = some (.int .i64 x) ∧ W.cell? ⟨bc, k * 7 + 3, none⟩ = some (.int .i64 c) ∧ W.cell? ⟨bc, k * 7 + 4, none⟩ = some (.string p) ∧ W.cell? ⟨bc, k * 7 + 5, none⟩ = some (.string q) ∧ W.cell? ⟨bc, k * 7 + 6, none⟩ = some (.bool f)) ∧ (W.cell? ⟨bc, (k + 1) * 7, none⟩ = some (.int .i64 e') ∧ W.cell? ⟨bc, (k + 1) * 7 + 1, none⟩ = some (.int .i64 a') ∧ W.cell? ⟨bc, (k + 1) * 7 + 2, none⟩ = some (.int .i64 x') ∧ W.cell? ⟨bc, (k + 1) * 7 + 3, none⟩ = some (.int .i64 c') ∧ W.cell? ⟨bc, (k + 1) * 7 + 4, none⟩ = some (.string p') ∧ W.cell? ⟨bc, (k + 1) * 7 + 5, none⟩ = some (.string q') ∧ W.cell? ⟨bc, (k + 1) * 7 + 6, none⟩ = some (.bool f')) ∧ Below w2.heap.size w2 W) (by kernel_rfl) ⟨⟨k0, k1, k2, k3, k4, k5, k6⟩, ⟨l0, l1, l2, l3, l4, l5, l6⟩, hbM.drew⟩ (fun hHeld => ?_)
        refine takeD (i := 0) (d := some 30) (v := ?_) rfl rfl (by kernel_rfl) (by kernel_rfl) (by kernel_rfl) (fun _ _ _ h => h) (Or.inl ⟨by rfl, ?_⟩) (by assumption) ?_
        rotate_left
        · intro wS hSw; (try dsimp only at hSw); go_simp; (try with_reducible rfl)
        try simp only [Act.put, List.setIfInBounds_toArray, List.set_cons_zero, List.set_cons_succ]
        refine takeD (i := 1) (d := some 31) (v := ?_) rfl rfl (by kernel_rfl) (by kernel_rfl) (by kernel_rfl) (fun _ _ _ h => h) (Or.inl ⟨by rfl, ?_⟩) (by assumption) ?_
        rotate_left
        · intro wS hSw; (try dsimp only at hSw); go_simp; (try with_reducible rfl)
        try simp only [Act.put, List.setIfInBounds_toArray, List.set_cons_zero, List.set_cons_succ]
        refine takeD (i := 2) (d := some 32) (v := ?_) rfl rfl (by kernel_rfl) (by kernel_rfl) (by kernel_rfl) (fun _ _ _ h => h) (Or.inl ⟨by rfl, ?_⟩) (by assumption) ?_
        rotate_left
        · intro wS hSw; (try dsimp only at hSw); go_simp; (try with_reducible rfl)
        try simp only [Act.put, List.setIfInBounds_toArray, List.set_cons_zero, List.set_cons_succ]
        refine takeD (i := 3) (d := some 33) (v := ?_) rfl rfl (by kernel_rfl) (by kernel_rfl) (by kernel_rfl) (fun _ _ _ h => h) (Or.inl ⟨by rfl, ?_⟩) (by assumption) ?_
        rotate_left
        · intro wS hSw; (try dsimp only at hSw); go_simp; (try with_reducible rfl)
        try simp only [Act.put, List.setIfInBounds_toArray, List.set_cons_zero, List.set_cons_succ]
        refine takeD (i := 4) (d := some 34) (v := ?_) rfl rfl (by kernel_rfl) (by kernel_rfl) (by kernel_rfl) (fun _ _ _ h => h) (Or.inl ⟨by rfl, ?_⟩) (by assumption) ?_
        rotate_left
        · intro wS hSw; (try dsimp only at hSw); go_simp; (try with_reducible rfl)
        try simp only [Act.put, List.setIfInBounds_toArray, List.set_cons_zero, List.set_cons_succ]
        refine takeD (i := 5) (d := some 35) (v := ?_) rfl rfl (by kernel_rfl) (by kernel_rfl) (by kernel_rfl) (fun _ _ _ h => h) (Or.inl ⟨by rfl, ?_⟩) (by assumption) ?_
        rotate_left
        · intro wS hSw; (try dsimp only at hSw); go_simp; (try with_reducible rfl)
        try simp only [Act.put, List.setIfInBounds_toArray, List.set_cons_zero, List.set_cons_succ]
        refine takeD (i := 6) (d := some 36) (v := ?_) rfl rfl (by kernel_rfl) (by kernel_rfl) (by kernel_rfl) (fun _ _ _ h => h) (Or.inl ⟨by rfl, ?_⟩) (by assumption) ?_
        rotate_left
        · intro wS hSw; (try dsimp only at hSw); go_simp; (try with_reducible rfl)
        try simp only [Act.put, List.setIfInBounds_toArray, List.set_cons_zero, List.set_cons_succ]
        refine takeD (i := 7) (d := some 37) (v := ?_) rfl rfl (by kernel_rfl) (by kernel_rfl) (by kernel_rfl) (fun _ _ _ h => h) (Or.inl ⟨by rfl, ?_⟩) (by assumption) ?_
        rotate_left
        · intro wS hSw; (try dsimp only at hSw); go_simp; (try with_reducible rfl)
        try simp only [Act.put, List.setIfInBounds_toArray, List.set_cons_zero, List.set_cons_succ]
        refine takeD (i := 8) (d := some 38) (v := ?_) rfl rfl (by kernel_rfl) (by kernel_rfl) (by kernel_rfl) (fun _ _ _ h => h) (Or.inl ⟨by rfl, ?_⟩) (by assumption) ?_
        rotate_left
        · intro wS hSw; (try dsimp only at hSw); go_simp; (try with_reducible rfl)
        try simp only [Act.put, List.setIfInBounds_toArray, List.set_cons_zero, List.set_cons_succ]
        refine takeD (i := 9) (d := some 39) (v := ?_) rfl rfl (by kernel_rfl) (by kernel_rfl) (by kernel_rfl) (fun _ _ _ h => h) (Or.inl ⟨by rfl, ?_⟩) (by assumption) ?_
        rotate_left
        · intro wS hSw; (try dsimp only at hSw); go_simp; (try with_reducible rfl)
        try simp only [Act.put, List.setIfInBounds_toArray, List.set_cons_zero, List.set_cons_succ]
        refine wpAnyH_ready (rs := [10]) (by kernel_rfl) (by simp) ?_
        refine consD (d := some 40) rfl rfl (fun K hK => ?_) AllReadyH.nil
        go_simp
        have mg := rgrow_any v w2.heap.size out.length out e a x c p q f e' a' x' c' p' q' f' _ hov hok2 hbM.size (by omega) hp hq
        unfold cutW at mg
        (go_at_call 60; (with_reducible refine (mg).mono ?_); rintro r w5 ⟨v5, rfl, ho5, hb5⟩)
        have hbM5 := hbM.drew.trans hb5
        refine hK.out _ _ ⟨keep7 hb5 hbB hHeld.1, keep7 hb5 hbB hHeld.2.1, hbM5⟩ (fun hHeld => ?_)
        clear hK K
        try simp only [Act.put, List.setIfInBounds_toArray, List.set_cons_zero, List.set_cons_succ]
        refine takeD (i := 11) (d := some 3) (v := ?_) rfl rfl (by kernel_rfl) (by kernel_rfl) (by kernel_rfl) (fun _ _ _ h => h) (Or.inl ⟨by rfl, ?_⟩) (by assumption) ?_
        rotate_left
        · intro wS hSw; (try dsimp only at hSw); go_simp; (try with_reducible rfl)
        try simp only [Act.put, List.setIfInBounds_toArray, List.set_cons_zero, List.set_cons_succ]
        refine wpAnyH_done (by kernel_rfl) ?_ _
        go_wp2_with fail
        go_roundw
        case rel => exact ⟨k + 1, v5, growC out (cutS e a x c p q f) (cutS e' a' x' c' p' q' f'), rfl, by go_num, by omega, HF.out, ho5, grow_ok (okC_S hp hq) (okC_S hp' hq') hok2, Nat.le_trans (grow_len _ _ _) (by omega), hbM5⟩
        case measure => simp [intOf]; omega
      · rw [hin] at HT mi
        have HF : Hid (stretch (tNot l) out (List.drop (k + 1) (cutsC l)) = R) := HT.out
        clear hin HT
        go_wp2_with fail
        refine wp_region_held_drew (S := fun W => (W.cell? ⟨bc, k * 7, none⟩ = some (.int .i64 e) ∧ W.cell? ⟨bc, k * 7 + 1, none⟩ = some (.int .i64 a) ∧ W.cell? ⟨bc, k * 7 + 2, none⟩ = some (.int .i64 x) ∧ W.cell? ⟨bc, k * 7 + 3, none⟩ = some (.int .i64 c) ∧ W.cell? ⟨bc, k * 7 + 4, none⟩ = some (.string p) ∧ W.cell? ⟨bc, k * 7 + 5, none⟩ = some (.string q) ∧ W.cell? ⟨bc, k * 7 + 6, none⟩ = some (.bool f)) ∧ (W.cell? ⟨bc, (k + 1) * 7, none⟩ = some (.int .i64 e') ∧ W.cell? ⟨bc, (k + 1) * 7 + 1, none⟩ = some (.int .i64 a') ∧ W.cell? ⟨bc, (k + 1) * 7 + 2, none⟩ = some (.int .i64 x') ∧ W.cell? ⟨bc, (k + 1) * 7 + 3, none⟩ = some (.int .i64 c') ∧ W.cell? ⟨bc, (k + 1) * 7 + 4, none⟩ = some (.string p') ∧ W.cell? ⟨bc, (k + 1) * 7 + 5, none⟩ = some (.string q') ∧ W.cell? ⟨bc, (k + 1) * 7 + 6, none⟩ = some (.bool f')) ∧ Below w2.heap.size w2 W) (by kernel_rfl) ⟨⟨k0, k1, k2, k3, k4, k5, k6⟩, ⟨l0, l1, l2, l3, l4, l5, l6⟩, hbw2⟩ (fun hHeld => ?_)
        refine takeD (i := 0) (d := some 18) (v := ?_) rfl rfl (by kernel_rfl) (by kernel_rfl) (by kernel_rfl) (fun _ _ _ h => h) (Or.inl ⟨by rfl, ?_⟩) (by assumption) ?_
        rotate_left
        · intro wS hSw; (try dsimp only at hSw); go_simp; (try with_reducible rfl)
        try simp only [Act.put, List.setIfInBounds_toArray, List.set_cons_zero, List.set_cons_succ]
        refine takeD (i := 1) (d := some 19) (v := ?_) rfl rfl (by kernel_rfl) (by kernel_rfl) (by kernel_rfl) (fun _ _ _ h => h) (Or.inl ⟨by rfl, ?_⟩) (by assumption) ?_
        rotate_left
        · intro wS hSw; (try dsimp only at hSw); go_simp; (try with_reducible rfl)
        try simp only [Act.put, List.setIfInBounds_toArray, List.set_cons_zero, List.set_cons_succ]
        refine takeD (i := 2) (d := some 20) (v := ?_) rfl rfl (by kernel_rfl) (by kernel_rfl) (by kernel_rfl) (fun _ _ _ h => h) (Or.inl ⟨by rfl, ?_⟩) (by assumption) ?_
        rotate_left
        · intro wS hSw; (try dsimp only at hSw); go_simp; (try with_reducible rfl)
        try simp only [Act.put, List.setIfInBounds_toArray, List.set_cons_zero, List.set_cons_succ]
        refine takeD (i := 3) (d := some 21) (v := ?_) rfl rfl (by kernel_rfl) (by kernel_rfl) (by kernel_rfl) (fun _ _ _ h => h) (Or.inl ⟨by rfl, ?_⟩) (by assumption) ?_
        rotate_left
        · intro wS hSw; (try dsimp only at hSw); go_simp; (try with_reducible rfl)
        try simp only [Act.put, List.setIfInBounds_toArray, List.set_cons_zero, List.set_cons_succ]
        refine takeD (i := 4) (d := some 22) (v := ?_) rfl rfl (by kernel_rfl) (by kernel_rfl) (by kernel_rfl) (fun _ _ _ h => h) (Or.inl ⟨by rfl, ?_⟩) (by assumption) ?_
        rotate_left
        · intro wS hSw; (try dsimp only at hSw); go_simp; (try with_reducible rfl)
        try simp only [Act.put, List.setIfInBounds_toArray, List.set_cons_zero, List.set_cons_succ]
        refine takeD (i := 5) (d := some 23) (v := ?_) rfl rfl (by kernel_rfl) (by kernel_rfl) (by kernel_rfl) (fun _ _ _ h => h) (Or.inl ⟨by rfl, ?_⟩) (by assumption) ?_
        rotate_left
        · intro wS hSw; (try dsimp only at hSw); go_simp; (try with_reducible rfl)
        try simp only [Act.put, List.setIfInBounds_toArray, List.set_cons_zero, List.set_cons_succ]
        refine takeD (i := 6) (d := some 24) (v := ?_) rfl rfl (by kernel_rfl) (by kernel_rfl) (by kernel_rfl) (fun _ _ _ h => h) (Or.inl ⟨by rfl, ?_⟩) (by assumption) ?_
        rotate_left
        · intro wS hSw; (try dsimp only at hSw); go_simp; (try with_reducible rfl)
        try simp only [Act.put, List.setIfInBounds_toArray, List.set_cons_zero, List.set_cons_succ]
        refine takeD (i := 7) (d := some 25) (v := ?_) rfl rfl (by kernel_rfl) (by kernel_rfl) (by kernel_rfl) (fun _ _ _ h => h) (Or.inl ⟨by rfl, ?_⟩) (by assumption) ?_
        rotate_left
        · intro wS hSw; (try dsimp only at hSw); go_simp; (try with_reducible rfl)
        try simp only [Act.put, List.setIfInBounds_toArray, List.set_cons_zero, List.set_cons_succ]
        refine takeD (i := 8) (d := some 26) (v := ?_) rfl rfl (by kernel_rfl) (by kernel_rfl) (by kernel_rfl) (fun _ _ _ h => h) (Or.inl ⟨by rfl, ?_⟩) (by assumption) ?_
        rotate_left
        · intro wS hSw; (try dsimp only at hSw); go_simp; (try with_reducible rfl)
        try simp only [Act.put, List.setIfInBounds_toArray, List.set_cons_zero, List.set_cons_succ]
        refine takeD (i := 9) (d := some 27) (v := ?_) rfl rfl (by kernel_rfl) (by kernel_rfl) (by kernel_rfl) (fun _ _ _ h => h) (Or.inl ⟨by rfl, ?_⟩) (by assumption) ?_
        rotate_left
        · intro wS hSw; (try dsimp only at hSw); go_simp; (try with_reducible rfl)
        try simp only [Act.put, List.setIfInBounds_toArray, List.set_cons_zero, List.set_cons_succ]
        refine wpAnyH_ready (rs := [10]) (by kernel_rfl) (by simp) ?_
        refine consD (d := some 28) rfl rfl (fun K hK => ?_) AllReadyH.nil
        go_simp
        (go_at_call 59; (with_reducible refine (mi).mono ?_); rintro r w4 ⟨rfl, hb4⟩)
        have hbM := hbw2.trans (hb4.mono hbw2.size)
        have hbx : Below wr.heap.size wr w4 := ((Below.refl wr.heap.size wr).drew).trans (show Below wr.heap.size wr.drew w4 from hb4)
        have hbb : bc < wr.drew.heap.size := Nat.lt_of_lt_of_le hbB hbw.size
        refine hK.out _ _ ⟨keep7 hb4 hbb hHeld.1, keep7 hb4 hbb hHeld.2.1, hbM⟩ (fun hHeld => ?_)
        clear hK K
        try simp only [Act.put, List.setIfInBounds_toArray, List.set_cons_zero, List.set_cons_succ]
        refine takeD (i := 11) (d := some 29) (v := ?_) rfl rfl (by kernel_rfl) (by kernel_rfl) (by kernel_rfl) (fun _ _ _ h => h) (Or.inl ⟨by rfl, ?_⟩) (by assumption) ?_
        rotate_left
        · intro wS hSw; (try dsimp only at hSw); go_simp; (try with_reducible rfl)
        try simp only [Act.put, List.setIfInBounds_toArray, List.set_cons_zero, List.set_cons_succ]
        refine wpAnyH_done (by kernel_rfl) ?_ _
        go_wp2_with fail
        go_roundw
        case rel => exact ⟨k + 1, v, out, rfl, by go_num, by omega, HF.out, own_keep HO.out hbx, hok2, by omega, hbM⟩
        case measure => simp [intOf]; omega
    · have HE : Hid (R = out) := by rw [← HS.out]; exact stretch_end (by rw [← HN.out]; omega)
      have i1 : ¬ (k : Int) + 1 < (nc : Int) := by omega
      have i3 : IntKind.i64.wrap ((k : Int) + 1) = (k : Int) + 1 := IntWalk.i64_in _ (by omega)
      go_wp2_with fail
      go_ret
      rw [HE.out]
      obtain ⟨A3, cap3, hv3, hc3, _, hr3⟩ := own_rds HO.out
      exact ⟨A3, _, cap3, row_slice hv3, rfl, hc3, hr3, hbw0.trans (hbw.mono hb20)⟩
end Go.Proofs.YthaagngoefieaaaDoor
