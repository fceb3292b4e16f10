/-
  The walk of chapter 4's reference in: is a stretch in one of some spans. Conditions: Pre and Build of each cut have at most 1048576 bytes.
-/
import Derived.Test.YthaagngoefieaaaDoorCRowMay
namespace Go.Proofs.YthaagngoefieaaaDoor
open Go.ChangeShapes Go.WideShapes Go.ChangeAt Go.RowKit
set_option linter.unusedVariables false
set_option linter.unusedSimpArgs false

def inTest (f t : CutC) (s : SpanC) : Bool := decide (compCut s.f f ≤ 0) && decide (compCut t s.t ≤ 0)
theorem inC_eq (l : List SpanC) (f t : CutC) : inC l f t = l.any (inTest f t) := rfl
theorem any_take_succ {p : SpanC → Bool} {l : List SpanC} {k : Nat} {s : SpanC} (h : (l.take k).any p = false) (hs : l[k]? = some s) (hp : p s = false) : (l.take (k + 1)).any p = false := by
  obtain ⟨hlt, rfl⟩ := List.getElem?_eq_some_iff.1 hs
  rw [List.take_succ_eq_append_getElem hlt, List.any_append, h]
  simp [hp]
theorem any_hit {p : SpanC → Bool} {l : List SpanC} {k : Nat} {s : SpanC} (hs : l[k]? = some s) (hp : p s = true) : l.any p = true := List.any_eq_true.2 ⟨s, List.mem_of_getElem? hs, hp⟩
def InAt (w W : World) (l : List SpanC) (f t : CutC) (L : List (Nat × List Value)) (k : Nat) : Prop := (l.take k).any (inTest f t) = false ∧ Loc w W L
set_option maxRecDepth 8192 in
set_option maxHeartbeats 8000000 in
theorem rin_any (A : Option Addr) (n cap B : Nat) (l : List SpanC) (fe fa fb fc : Int) (fp fq : ByteArray) (ff : Bool) (te ta tb tc : Int) (tp tq : ByteArray) (tf : Bool) (w : World) (h : RdS w B A l) (hl : l.length = n) (hok : ∀ s ∈ l, okS s) (hB : B ≤ w.heap.size) (hn : n ≤ 1073741824)
    (hfp : fp.size ≤ 1048576) (hfq : fq.size ≤ 1048576) (htp : tp.size ≤ 1048576) (htq : tq.size ≤ 1048576) :
    Calls Tryd.prog 59 #[.slice A n cap, cutW fe fa fb fc fp fq ff, cutW te ta tb tc tp tq tf] w fun e w' => e = .returned (.bool (inC l (cutS fe fa fb fc fp fq ff) (cutS te ta tb tc tp tq tf))) ∧ Below w.heap.size w w' := by
  have H := Lib.hid h
  have HL := Lib.hid hl
  rw [inC_eq]
  clear h hl
  unfold cutW
  go_enter Tryd.func59, Tryd.ntmps59
  go_wp2
  go_loopw [7] (fun i wr => ∃ k : Nat, k ≤ n ∧ i = .int .i64 k ∧ InAt w wr l (cutS fe fa fb fc fp fq ff) (cutS te ta tb tc tp tq tf) [(w.heap.size, [.int .i64 fe, .int .i64 fa, .int .i64 fb, .int .i64 fc, .string fp, .string fq, .bool ff]), (w.heap.size + 1, [.int .i64 te, .int .i64 ta, .int .i64 tb, .int .i64 tc, .string tp, .string tq, .bool tf])] k) (fun i _ => n - (intOf i).toNat)
  case atStart => exact ⟨0, by omega, rfl, rfl, loc_new (loc_new (loc_start w) w.heap.size [.int .i64 fe, .int .i64 fa, .int .i64 fb, .int .i64 fc, .string fp, .string fq, .bool ff] _) (w.heap.size + 1) [.int .i64 te, .int .i64 ta, .int .i64 tb, .int .i64 tc, .string tp, .string tq, .bool tf] _⟩
  case round =>
    obtain ⟨k, hk, rfl, hst⟩ := hrel
    have HS := Lib.hid hst.1
    have hL := hst.2
    clear hst
    by_cases hlt : k < n
    · have hrd := rds_below H.out (hL.1.mono hB)
      obtain ⟨b, e, a, x, c, p, q, f, e', a', x', c', p', q', f', rfl, hbB, hs, ⟨hp, hq, hp', hq'⟩, k0, k1, k2, k3, k4, k5, k6, k7, k8, k9, k10, k11, k12, k13⟩ := rds_at hrd hok (k := k) (by rw [HL.out]; exact hlt)
      have hge := hL.1.size
      have hbw : b < wr.heap.size := by omega
      have m1 := fun W => rcutcomp_any e a x c p q f fe fa fb fc fp fq ff W hp hq hfp hfq
      have m2 := fun W => rcutcomp_any te ta tb tc tp tq tf e' a' x' c' p' q' f' W htp htq hp' hq'
      have ht : inTest (cutS fe fa fb fc fp fq ff) (cutS te ta tb tc tp tq tf) ⟨cutS e a x c p q f, cutS e' a' x' c' p' q' f'⟩ = (decide (compCut (cutS e a x c p q f) (cutS fe fa fb fc fp fq ff) ≤ 0) && decide (compCut (cutS te ta tb tc tp tq tf) (cutS e' a' x' c' p' q' f') ≤ 0)) := rfl
      unfold cutW at m1 m2
      have i1 : (k : Int) < (n : Int) := by omega
      generalize compCut (cutS e a x c p q f) (cutS fe fa fb fc fp fq ff) = d1 at *
      generalize compCut (cutS te ta tb tc tp tq tf) (cutS e' a' x' c' p' q' f') = d2 at *
      have hLd := loc_drew hL
      obtain ⟨u0, u1, u2, u3, u4, u5, u6⟩ := cells7L (loc_own hL 0 rfl).1
      obtain ⟨v0, v1, v2, v3, v4, v5, v6⟩ := cells7L (loc_own hL 1 rfl).1
      by_cases h1 : d1 ≤ 0
      · by_cases h2 : d2 ≤ 0
        · have HE : Hid (l.any (inTest (cutS fe fa fb fc fp fq ff) (cutS te ta tb tc tp tq tf)) = true) := any_hit hs (by rw [ht]; simp [h1, h2])
          clear hs ht
          go_wp2_with fail
          refine wp_region_held_drew (S := fun W => (W.cell? ⟨b, k * 14, none⟩ = some (.int .i64 e) ∧ W.cell? ⟨b, k * 14 + 1, none⟩ = some (.int .i64 a) ∧ W.cell? ⟨b, k * 14 + 2, none⟩ = some (.int .i64 x) ∧ W.cell? ⟨b, k * 14 + 3, none⟩ = some (.int .i64 c) ∧ W.cell? ⟨b, k * 14 + 4, none⟩ = some (.string p) ∧ W.cell? ⟨b, k * 14 + 5, none⟩ = some (.string q) ∧ W.cell? ⟨b, k * 14 + 6, none⟩ = some (.bool f) ∧ W.cell? ⟨b, k * 14 + 7, none⟩ = some (.int .i64 e') ∧ W.cell? ⟨b, k * 14 + 8, none⟩ = some (.int .i64 a') ∧ W.cell? ⟨b, k * 14 + 9, none⟩ = some (.int .i64 x') ∧ W.cell? ⟨b, k * 14 + 10, none⟩ = some (.int .i64 c') ∧ W.cell? ⟨b, k * 14 + 11, none⟩ = some (.string p') ∧ W.cell? ⟨b, k * 14 + 12, none⟩ = some (.string q') ∧ W.cell? ⟨b, k * 14 + 13, none⟩ = some (.bool f')) ∧ (W.cell? ⟨w.heap.size, 0, none⟩ = some (.int .i64 fe) ∧ W.cell? ⟨w.heap.size, 1, none⟩ = some (.int .i64 fa) ∧ W.cell? ⟨w.heap.size, 2, none⟩ = some (.int .i64 fb) ∧ W.cell? ⟨w.heap.size, 3, none⟩ = some (.int .i64 fc) ∧ W.cell? ⟨w.heap.size, 4, none⟩ = some (.string fp) ∧ W.cell? ⟨w.heap.size, 5, none⟩ = some (.string fq) ∧ W.cell? ⟨w.heap.size, 6, none⟩ = some (.bool ff)) ∧ (W.cell? ⟨w.heap.size + 1, 0, none⟩ = some (.int .i64 te) ∧ W.cell? ⟨w.heap.size + 1, 1, none⟩ = some (.int .i64 ta) ∧ W.cell? ⟨w.heap.size + 1, 2, none⟩ = some (.int .i64 tb) ∧ W.cell? ⟨w.heap.size + 1, 3, none⟩ = some (.int .i64 tc) ∧ W.cell? ⟨w.heap.size + 1, 4, none⟩ = some (.string tp) ∧ W.cell? ⟨w.heap.size + 1, 5, none⟩ = some (.string tq) ∧ W.cell? ⟨w.heap.size + 1, 6, none⟩ = some (.bool tf))) (by kernel_rfl) ⟨⟨k0, k1, k2, k3, k4, k5, k6, k7, k8, k9, k10, k11, k12, k13⟩, ⟨u0, u1, u2, u3, u4, u5, u6⟩, ⟨v0, v1, v2, v3, v4, v5, v6⟩⟩ (fun hHeld => ?_)
          refine takeD (i := 0) (d := some 14) (v := ?_) rfl rfl (by kernel_rfl) (by kernel_rfl) (by kernel_rfl) (fun _ _ _ h => h) (Or.inl ⟨by rfl, ?_⟩) (by assumption) ?_
          rotate_left
          · intro wS hSw; (try dsimp only at hSw); go_simp; (try with_reducible rfl)
          try simp only [Act.put, List.setIfInBounds_toArray, List.set_cons_zero, List.set_cons_succ]
          refine takeD (i := 1) (d := some 15) (v := ?_) rfl rfl (by kernel_rfl) (by kernel_rfl) (by kernel_rfl) (fun _ _ _ h => h) (Or.inl ⟨by rfl, ?_⟩) (by assumption) ?_
          rotate_left
          · intro wS hSw; (try dsimp only at hSw); go_simp; (try with_reducible rfl)
          try simp only [Act.put, List.setIfInBounds_toArray, List.set_cons_zero, List.set_cons_succ]
          refine takeD (i := 2) (d := some 16) (v := ?_) rfl rfl (by kernel_rfl) (by kernel_rfl) (by kernel_rfl) (fun _ _ _ h => h) (Or.inl ⟨by rfl, ?_⟩) (by assumption) ?_
          rotate_left
          · intro wS hSw; (try dsimp only at hSw); go_simp; (try with_reducible rfl)
          try simp only [Act.put, List.setIfInBounds_toArray, List.set_cons_zero, List.set_cons_succ]
          refine takeD (i := 3) (d := some 17) (v := ?_) rfl rfl (by kernel_rfl) (by kernel_rfl) (by kernel_rfl) (fun _ _ _ h => h) (Or.inl ⟨by rfl, ?_⟩) (by assumption) ?_
          rotate_left
          · intro wS hSw; (try dsimp only at hSw); go_simp; (try with_reducible rfl)
          try simp only [Act.put, List.setIfInBounds_toArray, List.set_cons_zero, List.set_cons_succ]
          refine takeD (i := 4) (d := some 18) (v := ?_) rfl rfl (by kernel_rfl) (by kernel_rfl) (by kernel_rfl) (fun _ _ _ h => h) (Or.inl ⟨by rfl, ?_⟩) (by assumption) ?_
          rotate_left
          · intro wS hSw; (try dsimp only at hSw); go_simp; (try with_reducible rfl)
          try simp only [Act.put, List.setIfInBounds_toArray, List.set_cons_zero, List.set_cons_succ]
          refine takeD (i := 5) (d := some 19) (v := ?_) rfl rfl (by kernel_rfl) (by kernel_rfl) (by kernel_rfl) (fun _ _ _ h => h) (Or.inl ⟨by rfl, ?_⟩) (by assumption) ?_
          rotate_left
          · intro wS hSw; (try dsimp only at hSw); go_simp; (try with_reducible rfl)
          try simp only [Act.put, List.setIfInBounds_toArray, List.set_cons_zero, List.set_cons_succ]
          refine wpAnyH_ready (rs := [6]) (by kernel_rfl) (by simp) ?_
          refine consD (d := some 20) rfl rfl (fun K hK => ?_) AllReadyH.nil
          go_simp
          (go_at_call 62; (with_reducible refine (m1 _).mono ?_); rintro r w4 ⟨rfl, hb4⟩)
          have hM4 := loc_call hLd hb4
          have hb4w := Nat.lt_of_lt_of_le hbw hb4.size
          refine hK.out _ _ ⟨keep14 hb4 hbw hHeld.1, cells7L (loc_own hM4 0 rfl).1, cells7L (loc_own hM4 1 rfl).1⟩ (fun hHeld => ?_)
          clear hK K
          try simp only [Act.put, List.setIfInBounds_toArray, List.set_cons_zero, List.set_cons_succ]
          refine takeD (i := 7) (d := some 21) (v := ?_) rfl rfl (by kernel_rfl) (by kernel_rfl) (by kernel_rfl) (fun _ _ _ h => h) (Or.inl ⟨by rfl, ?_⟩) (by assumption) ?_
          rotate_left
          · intro wS hSw; (try dsimp only at hSw); go_simp; (try with_reducible rfl)
          try simp only [Act.put, List.setIfInBounds_toArray, List.set_cons_zero, List.set_cons_succ]
          refine takeD (i := 8) (d := some 22) (v := ?_) rfl rfl (by kernel_rfl) (by kernel_rfl) (by kernel_rfl) (fun _ _ _ h => h) (Or.inl ⟨by rfl, ?_⟩) (by assumption) ?_
          rotate_left
          · intro wS hSw; (try dsimp only at hSw); go_simp; (try with_reducible rfl)
          try simp only [Act.put, List.setIfInBounds_toArray, List.set_cons_zero, List.set_cons_succ]
          refine takeD (i := 9) (d := some 23) (v := ?_) rfl rfl (by kernel_rfl) (by kernel_rfl) (by kernel_rfl) (fun _ _ _ h => h) (Or.inl ⟨by rfl, ?_⟩) (by assumption) ?_
          rotate_left
          · intro wS hSw; (try dsimp only at hSw); go_simp; (try with_reducible rfl)
          try simp only [Act.put, List.setIfInBounds_toArray, List.set_cons_zero, List.set_cons_succ]
          refine takeD (i := 10) (d := some 24) (v := ?_) rfl rfl (by kernel_rfl) (by kernel_rfl) (by kernel_rfl) (fun _ _ _ h => h) (Or.inl ⟨by rfl, ?_⟩) (by assumption) ?_
          rotate_left
          · intro wS hSw; (try dsimp only at hSw); go_simp; (try with_reducible rfl)
          try simp only [Act.put, List.setIfInBounds_toArray, List.set_cons_zero, List.set_cons_succ]
          refine takeD (i := 11) (d := some 25) (v := ?_) rfl rfl (by kernel_rfl) (by kernel_rfl) (by kernel_rfl) (fun _ _ _ h => h) (Or.inl ⟨by rfl, ?_⟩) (by assumption) ?_
          rotate_left
          · intro wS hSw; (try dsimp only at hSw); go_simp; (try with_reducible rfl)
          try simp only [Act.put, List.setIfInBounds_toArray, List.set_cons_zero, List.set_cons_succ]
          refine takeD (i := 12) (d := some 26) (v := ?_) rfl rfl (by kernel_rfl) (by kernel_rfl) (by kernel_rfl) (fun _ _ _ h => h) (Or.inl ⟨by rfl, ?_⟩) (by assumption) ?_
          rotate_left
          · intro wS hSw; (try dsimp only at hSw); go_simp; (try with_reducible rfl)
          try simp only [Act.put, List.setIfInBounds_toArray, List.set_cons_zero, List.set_cons_succ]
          refine takeD (i := 13) (d := some 27) (v := ?_) rfl rfl (by kernel_rfl) (by kernel_rfl) (by kernel_rfl) (fun _ _ _ h => h) (Or.inl ⟨by rfl, ?_⟩) (by assumption) ?_
          rotate_left
          · intro wS hSw; (try dsimp only at hSw); go_simp; (try with_reducible rfl)
          try simp only [Act.put, List.setIfInBounds_toArray, List.set_cons_zero, List.set_cons_succ]
          refine takeD (i := 14) (d := some 28) (v := ?_) rfl rfl (by kernel_rfl) (by kernel_rfl) (by kernel_rfl) (fun _ _ _ h => h) (Or.inl ⟨by rfl, ?_⟩) (by assumption) ?_
          rotate_left
          · intro wS hSw; (try dsimp only at hSw); go_simp; (try with_reducible rfl)
          try simp only [Act.put, List.setIfInBounds_toArray, List.set_cons_zero, List.set_cons_succ]
          refine wpAnyH_ready (rs := [15]) (by kernel_rfl) (by simp) ?_
          refine consD (d := some 29) rfl rfl (fun K hK => ?_) AllReadyH.nil
          go_simp
          (go_at_call 62; (with_reducible refine (m2 _).mono ?_); rintro r w5 ⟨rfl, hb5⟩)
          have hM5 := loc_call hM4 hb5
          refine hK.out _ _ ⟨keep14 hb5 hb4w hHeld.1, cells7L (loc_own hM5 0 rfl).1, cells7L (loc_own hM5 1 rfl).1⟩ (fun hHeld => ?_)
          clear hK K
          try simp only [Act.put, List.setIfInBounds_toArray, List.set_cons_zero, List.set_cons_succ]
          refine takeD (i := 16) (d := some 30) (v := ?_) rfl rfl (by kernel_rfl) (by kernel_rfl) (by kernel_rfl) (fun _ _ _ h => h) (Or.inl ⟨by rfl, ?_⟩) (by assumption) ?_
          rotate_left
          · intro wS hSw; (try dsimp only at hSw); go_simp; (try with_reducible rfl)
          try simp only [Act.put, List.setIfInBounds_toArray, List.set_cons_zero, List.set_cons_succ]
          refine takeD (i := 17) (d := some 31) (v := ?_) rfl rfl (by kernel_rfl) (by kernel_rfl) (by kernel_rfl) (fun _ _ _ h => h) (Or.inl ⟨by rfl, ?_⟩) (by assumption) ?_
          rotate_left
          · intro wS hSw; (try dsimp only at hSw); go_simp; (try with_reducible rfl)
          try simp only [Act.put, List.setIfInBounds_toArray, List.set_cons_zero, List.set_cons_succ]
          refine wpAnyH_done (by kernel_rfl) ?_ _
          go_wp2_with fail
          go_ret
          exact ⟨ret_bool HE.out.symm, loc_below hM5⟩
        · have HN := Lib.hid (any_take_succ HS.out hs (by rw [ht]; simp [h2]))
          clear hs ht
          go_wp2_with fail
          refine wp_region_held_drew (S := fun W => (W.cell? ⟨b, k * 14, none⟩ = some (.int .i64 e) ∧ W.cell? ⟨b, k * 14 + 1, none⟩ = some (.int .i64 a) ∧ W.cell? ⟨b, k * 14 + 2, none⟩ = some (.int .i64 x) ∧ W.cell? ⟨b, k * 14 + 3, none⟩ = some (.int .i64 c) ∧ W.cell? ⟨b, k * 14 + 4, none⟩ = some (.string p) ∧ W.cell? ⟨b, k * 14 + 5, none⟩ = some (.string q) ∧ W.cell? ⟨b, k * 14 + 6, none⟩ = some (.bool f) ∧ W.cell? ⟨b, k * 14 + 7, none⟩ = some (.int .i64 e') ∧ W.cell? ⟨b, k * 14 + 8, none⟩ = some (.int .i64 a') ∧ W.cell? ⟨b, k * 14 + 9, none⟩ = some (.int .i64 x') ∧ W.cell? ⟨b, k * 14 + 10, none⟩ = some (.int .i64 c') ∧ W.cell? ⟨b, k * 14 + 11, none⟩ = some (.string p') ∧ W.cell? ⟨b, k * 14 + 12, none⟩ = some (.string q') ∧ W.cell? ⟨b, k * 14 + 13, none⟩ = some (.bool f')) ∧ (W.cell? ⟨w.heap.size, 0, none⟩ = some (.int .i64 fe) ∧ W.cell? ⟨w.heap.size, 1, none⟩ = some (.int .i64 fa) ∧ W.cell? ⟨w.heap.size, 2, none⟩ = some (.int .i64 fb) ∧ W.cell? ⟨w.heap.size, 3, none⟩ = some (.int .i64 fc) ∧ W.cell? ⟨w.heap.size, 4, none⟩ = some (.string fp) ∧ W.cell? ⟨w.heap.size, 5, none⟩ = some (.string fq) ∧ W.cell? ⟨w.heap.size, 6, none⟩ = some (.bool ff)) ∧ (W.cell? ⟨w.heap.size + 1, 0, none⟩ = some (.int .i64 te) ∧ W.cell? ⟨w.heap.size + 1, 1, none⟩ = some (.int .i64 ta) ∧ W.cell? ⟨w.heap.size + 1, 2, none⟩ = some (.int .i64 tb) ∧ W.cell? ⟨w.heap.size + 1, 3, none⟩ = some (.int .i64 tc) ∧ W.cell? ⟨w.heap.size + 1, 4, none⟩ = some (.string tp) ∧ W.cell? ⟨w.heap.size + 1, 5, none⟩ = some (.string tq) ∧ W.cell? ⟨w.heap.size + 1, 6, none⟩ = some (.bool tf))) (by kernel_rfl) ⟨⟨k0, k1, k2, k3, k4, k5, k6, k7, k8, k9, k10, k11, k12, k13⟩, ⟨u0, u1, u2, u3, u4, u5, u6⟩, ⟨v0, v1, v2, v3, v4, v5, v6⟩⟩ (fun hHeld => ?_)
          refine takeD (i := 0) (d := some 14) (v := ?_) rfl rfl (by kernel_rfl) (by kernel_rfl) (by kernel_rfl) (fun _ _ _ h => h) (Or.inl ⟨by rfl, ?_⟩) (by assumption) ?_
          rotate_left
          · intro wS hSw; (try dsimp only at hSw); go_simp; (try with_reducible rfl)
          try simp only [Act.put, List.setIfInBounds_toArray, List.set_cons_zero, List.set_cons_succ]
          refine takeD (i := 1) (d := some 15) (v := ?_) rfl rfl (by kernel_rfl) (by kernel_rfl) (by kernel_rfl) (fun _ _ _ h => h) (Or.inl ⟨by rfl, ?_⟩) (by assumption) ?_
          rotate_left
          · intro wS hSw; (try dsimp only at hSw); go_simp; (try with_reducible rfl)
          try simp only [Act.put, List.setIfInBounds_toArray, List.set_cons_zero, List.set_cons_succ]
          refine takeD (i := 2) (d := some 16) (v := ?_) rfl rfl (by kernel_rfl) (by kernel_rfl) (by kernel_rfl) (fun _ _ _ h => h) (Or.inl ⟨by rfl, ?_⟩) (by assumption) ?_
          rotate_left
          · intro wS hSw; (try dsimp only at hSw); go_simp; (try with_reducible rfl)
          try simp only [Act.put, List.setIfInBounds_toArray, List.set_cons_zero, List.set_cons_succ]
          refine takeD (i := 3) (d := some 17) (v := ?_) rfl rfl (by kernel_rfl) (by kernel_rfl) (by kernel_rfl) (fun _ _ _ h => h) (Or.inl ⟨by rfl, ?_⟩) (by assumption) ?_
          rotate_left
          · intro wS hSw; (try dsimp only at hSw); go_simp; (try with_reducible rfl)
          try simp only [Act.put, List.setIfInBounds_toArray, List.set_cons_zero, List.set_cons_succ]
          refine takeD (i := 4) (d := some 18) (v := ?_) rfl rfl (by kernel_rfl) (by kernel_rfl) (by kernel_rfl) (fun _ _ _ h => h) (Or.inl ⟨by rfl, ?_⟩) (by assumption) ?_
          rotate_left
          · intro wS hSw; (try dsimp only at hSw); go_simp; (try with_reducible rfl)
          try simp only [Act.put, List.setIfInBounds_toArray, List.set_cons_zero, List.set_cons_succ]
          refine takeD (i := 5) (d := some 19) (v := ?_) rfl rfl (by kernel_rfl) (by kernel_rfl) (by kernel_rfl) (fun _ _ _ h => h) (Or.inl ⟨by rfl, ?_⟩) (by assumption) ?_
          rotate_left
          · intro wS hSw; (try dsimp only at hSw); go_simp; (try with_reducible rfl)
          try simp only [Act.put, List.setIfInBounds_toArray, List.set_cons_zero, List.set_cons_succ]
          refine wpAnyH_ready (rs := [6]) (by kernel_rfl) (by simp) ?_
          refine consD (d := some 20) rfl rfl (fun K hK => ?_) AllReadyH.nil
          go_simp
          (go_at_call 62; (with_reducible refine (m1 _).mono ?_); rintro r w4 ⟨rfl, hb4⟩)
          have hM4 := loc_call hLd hb4
          have hb4w := Nat.lt_of_lt_of_le hbw hb4.size
          refine hK.out _ _ ⟨keep14 hb4 hbw hHeld.1, cells7L (loc_own hM4 0 rfl).1, cells7L (loc_own hM4 1 rfl).1⟩ (fun hHeld => ?_)
          clear hK K
          try simp only [Act.put, List.setIfInBounds_toArray, List.set_cons_zero, List.set_cons_succ]
          refine takeD (i := 7) (d := some 21) (v := ?_) rfl rfl (by kernel_rfl) (by kernel_rfl) (by kernel_rfl) (fun _ _ _ h => h) (Or.inl ⟨by rfl, ?_⟩) (by assumption) ?_
          rotate_left
          · intro wS hSw; (try dsimp only at hSw); go_simp; (try with_reducible rfl)
          try simp only [Act.put, List.setIfInBounds_toArray, List.set_cons_zero, List.set_cons_succ]
          refine takeD (i := 8) (d := some 22) (v := ?_) rfl rfl (by kernel_rfl) (by kernel_rfl) (by kernel_rfl) (fun _ _ _ h => h) (Or.inl ⟨by rfl, ?_⟩) (by assumption) ?_
          rotate_left
          · intro wS hSw; (try dsimp only at hSw); go_simp; (try with_reducible rfl)
          try simp only [Act.put, List.setIfInBounds_toArray, List.set_cons_zero, List.set_cons_succ]
          refine takeD (i := 9) (d := some 23) (v := ?_) rfl rfl (by kernel_rfl) (by kernel_rfl) (by kernel_rfl) (fun _ _ _ h => h) (Or.inl ⟨by rfl, ?_⟩) (by assumption) ?_
          rotate_left
          · intro wS hSw; (try dsimp only at hSw); go_simp; (try with_reducible rfl)
          try simp only [Act.put, List.setIfInBounds_toArray, List.set_cons_zero, List.set_cons_succ]
          refine takeD (i := 10) (d := some 24) (v := ?_) rfl rfl (by kernel_rfl) (by kernel_rfl) (by kernel_rfl) (fun _ _ _ h => h) (Or.inl ⟨by rfl, ?_⟩) (by assumption) ?_
          rotate_left
          · intro wS hSw; (try dsimp only at hSw); go_simp; (try with_reducible rfl)
          try simp only [Act.put, List.setIfInBounds_toArray, List.set_cons_zero, List.set_cons_succ]
          refine takeD (i := 11) (d := some 25) (v := ?_) rfl rfl (by kernel_rfl) (by kernel_rfl) (by kernel_rfl) (fun _ _ _ h => h) (Or.inl ⟨by rfl, ?_⟩) (by assumption) ?_
          rotate_left
          · intro wS hSw; (try dsimp only at hSw); go_simp; (try with_reducible rfl)
          try simp only [Act.put, List.setIfInBounds_toArray, List.set_cons_zero, List.set_cons_succ]
          refine takeD (i := 12) (d := some 26) (v := ?_) rfl rfl (by kernel_rfl) (by kernel_rfl) (by kernel_rfl) (fun _ _ _ h => h) (Or.inl ⟨by rfl, ?_⟩) (by assumption) ?_
          rotate_left
          · intro wS hSw; (try dsimp only at hSw); go_simp; (try with_reducible rfl)
          try simp only [Act.put, List.setIfInBounds_toArray, List.set_cons_zero, List.set_cons_succ]
          refine takeD (i := 13) (d := some 27) (v := ?_) rfl rfl (by kernel_rfl) (by kernel_rfl) (by kernel_rfl) (fun _ _ _ h => h) (Or.inl ⟨by rfl, ?_⟩) (by assumption) ?_
          rotate_left
          · intro wS hSw; (try dsimp only at hSw); go_simp; (try with_reducible rfl)
          try simp only [Act.put, List.setIfInBounds_toArray, List.set_cons_zero, List.set_cons_succ]
          refine takeD (i := 14) (d := some 28) (v := ?_) rfl rfl (by kernel_rfl) (by kernel_rfl) (by kernel_rfl) (fun _ _ _ h => h) (Or.inl ⟨by rfl, ?_⟩) (by assumption) ?_
          rotate_left
          · intro wS hSw; (try dsimp only at hSw); go_simp; (try with_reducible rfl)
          try simp only [Act.put, List.setIfInBounds_toArray, List.set_cons_zero, List.set_cons_succ]
          refine wpAnyH_ready (rs := [15]) (by kernel_rfl) (by simp) ?_
          refine consD (d := some 29) rfl rfl (fun K hK => ?_) AllReadyH.nil
          go_simp
          (go_at_call 62; (with_reducible refine (m2 _).mono ?_); rintro r w5 ⟨rfl, hb5⟩)
          have hM5 := loc_call hM4 hb5
          refine hK.out _ _ ⟨keep14 hb5 hb4w hHeld.1, cells7L (loc_own hM5 0 rfl).1, cells7L (loc_own hM5 1 rfl).1⟩ (fun hHeld => ?_)
          clear hK K
          try simp only [Act.put, List.setIfInBounds_toArray, List.set_cons_zero, List.set_cons_succ]
          refine takeD (i := 16) (d := some 30) (v := ?_) rfl rfl (by kernel_rfl) (by kernel_rfl) (by kernel_rfl) (fun _ _ _ h => h) (Or.inl ⟨by rfl, ?_⟩) (by assumption) ?_
          rotate_left
          · intro wS hSw; (try dsimp only at hSw); go_simp; (try with_reducible rfl)
          try simp only [Act.put, List.setIfInBounds_toArray, List.set_cons_zero, List.set_cons_succ]
          refine takeD (i := 17) (d := some 31) (v := ?_) rfl rfl (by kernel_rfl) (by kernel_rfl) (by kernel_rfl) (fun _ _ _ h => h) (Or.inl ⟨by rfl, ?_⟩) (by assumption) ?_
          rotate_left
          · intro wS hSw; (try dsimp only at hSw); go_simp; (try with_reducible rfl)
          try simp only [Act.put, List.setIfInBounds_toArray, List.set_cons_zero, List.set_cons_succ]
          refine wpAnyH_done (by kernel_rfl) ?_ _
          go_wp2_with fail
          go_roundw
          case rel => exact ⟨k + 1, by omega, by go_num, HN.out, hM5⟩
          case measure => simp [intOf]; omega
      · have HN := Lib.hid (any_take_succ HS.out hs (by rw [ht]; simp [h1]))
        have g1 : decide (d1 ≤ 0) = false := decide_eq_false h1
        clear hs ht
        go_wp2_with fail
        refine wp_region_held_drew (S := fun W => (W.cell? ⟨b, k * 14, none⟩ = some (.int .i64 e) ∧ W.cell? ⟨b, k * 14 + 1, none⟩ = some (.int .i64 a) ∧ W.cell? ⟨b, k * 14 + 2, none⟩ = some (.int .i64 x) ∧ W.cell? ⟨b, k * 14 + 3, none⟩ = some (.int .i64 c) ∧ W.cell? ⟨b, k * 14 + 4, none⟩ = some (.string p) ∧ W.cell? ⟨b, k * 14 + 5, none⟩ = some (.string q) ∧ W.cell? ⟨b, k * 14 + 6, none⟩ = some (.bool f) ∧ W.cell? ⟨b, k * 14 + 7, none⟩ = some (.int .i64 e') ∧ W.cell? ⟨b, k * 14 + 8, none⟩ = some (.int .i64 a') ∧ W.cell? ⟨b, k * 14 + 9, none⟩ = some (.int .i64 x') ∧ W.cell? ⟨b, k * 14 + 10, none⟩ = some (.int .i64 c') ∧ W.cell? ⟨b, k * 14 + 11, none⟩ = some (.string p') ∧ W.cell? ⟨b, k * 14 + 12, none⟩ = some (.string q') ∧ W.cell? ⟨b, k * 14 + 13, none⟩ = some (.bool f')) ∧ (W.cell? ⟨w.heap.size, 0, none⟩ = some (.int .i64 fe) ∧ W.cell? ⟨w.heap.size, 1, none⟩ = some (.int .i64 fa) ∧ W.cell? ⟨w.heap.size, 2, none⟩ = some (.int .i64 fb) ∧ W.cell? ⟨w.heap.size, 3, none⟩ = some (.int .i64 fc) ∧ W.cell? ⟨w.heap.size, 4, none⟩ = some (.string fp) ∧ W.cell? ⟨w.heap.size, 5, none⟩ = some (.string fq) ∧ W.cell? ⟨w.heap.size, 6, none⟩ = some (.bool ff)) ∧ (W.cell? ⟨w.heap.size + 1, 0, none⟩ = some (.int .i64 te) ∧ W.cell? ⟨w.heap.size + 1, 1, none⟩ = some (.int .i64 ta) ∧ W.cell? ⟨w.heap.size + 1, 2, none⟩ = some (.int .i64 tb) ∧ W.cell? ⟨w.heap.size + 1, 3, none⟩ = some (.int .i64 tc) ∧ W.cell? ⟨w.heap.size + 1, 4, none⟩ = some (.string tp) ∧ W.cell? ⟨w.heap.size + 1, 5, none⟩ = some (.string tq) ∧ W.cell? ⟨w.heap.size + 1, 6, none⟩ = some (.bool tf))) (by kernel_rfl) ⟨⟨k0, k1, k2, k3, k4, k5, k6, k7, k8, k9, k10, k11, k12, k13⟩, ⟨u0, u1, u2, u3, u4, u5, u6⟩, ⟨v0, v1, v2, v3, v4, v5, v6⟩⟩ (fun hHeld => ?_)
        refine takeD (i := 0) (d := some 14) (v := ?_) rfl rfl (by kernel_rfl) (by kernel_rfl) (by kernel_rfl) (fun _ _ _ h => h) (Or.inl ⟨by rfl, ?_⟩) (by assumption) ?_
        rotate_left
        · intro wS hSw; (try dsimp only at hSw); go_simp; (try with_reducible rfl)
        try simp only [Act.put, List.setIfInBounds_toArray, List.set_cons_zero, List.set_cons_succ]
        refine takeD (i := 1) (d := some 15) (v := ?_) rfl rfl (by kernel_rfl) (by kernel_rfl) (by kernel_rfl) (fun _ _ _ h => h) (Or.inl ⟨by rfl, ?_⟩) (by assumption) ?_
        rotate_left
        · intro wS hSw; (try dsimp only at hSw); go_simp; (try with_reducible rfl)
        try simp only [Act.put, List.setIfInBounds_toArray, List.set_cons_zero, List.set_cons_succ]
        refine takeD (i := 2) (d := some 16) (v := ?_) rfl rfl (by kernel_rfl) (by kernel_rfl) (by kernel_rfl) (fun _ _ _ h => h) (Or.inl ⟨by rfl, ?_⟩) (by assumption) ?_
        rotate_left
        · intro wS hSw; (try dsimp only at hSw); go_simp; (try with_reducible rfl)
        try simp only [Act.put, List.setIfInBounds_toArray, List.set_cons_zero, List.set_cons_succ]
        refine takeD (i := 3) (d := some 17) (v := ?_) rfl rfl (by kernel_rfl) (by kernel_rfl) (by kernel_rfl) (fun _ _ _ h => h) (Or.inl ⟨by rfl, ?_⟩) (by assumption) ?_
        rotate_left
        · intro wS hSw; (try dsimp only at hSw); go_simp; (try with_reducible rfl)
        try simp only [Act.put, List.setIfInBounds_toArray, List.set_cons_zero, List.set_cons_succ]
        refine takeD (i := 4) (d := some 18) (v := ?_) rfl rfl (by kernel_rfl) (by kernel_rfl) (by kernel_rfl) (fun _ _ _ h => h) (Or.inl ⟨by rfl, ?_⟩) (by assumption) ?_
        rotate_left
        · intro wS hSw; (try dsimp only at hSw); go_simp; (try with_reducible rfl)
        try simp only [Act.put, List.setIfInBounds_toArray, List.set_cons_zero, List.set_cons_succ]
        refine takeD (i := 5) (d := some 19) (v := ?_) rfl rfl (by kernel_rfl) (by kernel_rfl) (by kernel_rfl) (fun _ _ _ h => h) (Or.inl ⟨by rfl, ?_⟩) (by assumption) ?_
        rotate_left
        · intro wS hSw; (try dsimp only at hSw); go_simp; (try with_reducible rfl)
        try simp only [Act.put, List.setIfInBounds_toArray, List.set_cons_zero, List.set_cons_succ]
        refine wpAnyH_ready (rs := [6]) (by kernel_rfl) (by simp) ?_
        refine consD (d := some 20) rfl rfl (fun K hK => ?_) AllReadyH.nil
        go_simp
        (go_at_call 62; (with_reducible refine (m1 _).mono ?_); rintro r w4 ⟨rfl, hb4⟩)
        have hM4 := loc_call hLd hb4
        have hb4w := Nat.lt_of_lt_of_le hbw hb4.size
        refine hK.out _ _ ⟨keep14 hb4 hbw hHeld.1, cells7L (loc_own hM4 0 rfl).1, cells7L (loc_own hM4 1 rfl).1⟩ (fun hHeld => ?_)
        clear hK K
        try simp only [Act.put, List.setIfInBounds_toArray, List.set_cons_zero, List.set_cons_succ]
        refine takeD (i := 7) (d := some 21) (v := ?_) rfl rfl (by kernel_rfl) (by kernel_rfl) (by kernel_rfl) (fun _ _ _ h => h) (Or.inl ⟨by rfl, ?_⟩) (by assumption) ?_
        rotate_left
        · intro wS hSw; (try dsimp only at hSw); go_simp; (try with_reducible rfl)
        try simp only [Act.put, List.setIfInBounds_toArray, List.set_cons_zero, List.set_cons_succ]
        refine takeD (i := 8) (d := some 22) (v := ?_) rfl rfl (by kernel_rfl) (by kernel_rfl) (by kernel_rfl) (fun _ _ _ h => h) (Or.inl ⟨by rfl, ?_⟩) (by assumption) ?_
        rotate_left
        · intro wS hSw; (try dsimp only at hSw); go_simp; (try with_reducible rfl)
        try simp only [Act.put, List.setIfInBounds_toArray, List.set_cons_zero, List.set_cons_succ]
        refine takeD (i := 9) (d := some 23) (v := undef) rfl rfl (by kernel_rfl) (by kernel_rfl) (by kernel_rfl) (fun _ _ _ h => h) (Or.inr ⟨by rfl, rfl⟩) (by assumption) ?_
        try simp only [Act.put, List.setIfInBounds_toArray, List.set_cons_zero, List.set_cons_succ]
        refine takeD (i := 10) (d := some 24) (v := undef) rfl rfl (by kernel_rfl) (by kernel_rfl) (by kernel_rfl) (fun _ _ _ h => h) (Or.inr ⟨by rfl, rfl⟩) (by assumption) ?_
        try simp only [Act.put, List.setIfInBounds_toArray, List.set_cons_zero, List.set_cons_succ]
        refine takeD (i := 11) (d := some 25) (v := undef) rfl rfl (by kernel_rfl) (by kernel_rfl) (by kernel_rfl) (fun _ _ _ h => h) (Or.inr ⟨by rfl, rfl⟩) (by assumption) ?_
        try simp only [Act.put, List.setIfInBounds_toArray, List.set_cons_zero, List.set_cons_succ]
        refine takeD (i := 12) (d := some 26) (v := undef) rfl rfl (by kernel_rfl) (by kernel_rfl) (by kernel_rfl) (fun _ _ _ h => h) (Or.inr ⟨by rfl, rfl⟩) (by assumption) ?_
        try simp only [Act.put, List.setIfInBounds_toArray, List.set_cons_zero, List.set_cons_succ]
        refine takeD (i := 13) (d := some 27) (v := undef) rfl rfl (by kernel_rfl) (by kernel_rfl) (by kernel_rfl) (fun _ _ _ h => h) (Or.inr ⟨by rfl, rfl⟩) (by assumption) ?_
        try simp only [Act.put, List.setIfInBounds_toArray, List.set_cons_zero, List.set_cons_succ]
        refine takeD (i := 14) (d := some 28) (v := undef) rfl rfl (by kernel_rfl) (by kernel_rfl) (by kernel_rfl) (fun _ _ _ h => h) (Or.inr ⟨by rfl, rfl⟩) (by assumption) ?_
        try simp only [Act.put, List.setIfInBounds_toArray, List.set_cons_zero, List.set_cons_succ]
        refine takeD (i := 15) (d := some 29) (v := undef) rfl rfl (by kernel_rfl) (by kernel_rfl) (by kernel_rfl) (fun _ _ _ h => h) (Or.inr ⟨by rfl, rfl⟩) (by assumption) ?_
        try simp only [Act.put, List.setIfInBounds_toArray, List.set_cons_zero, List.set_cons_succ]
        refine takeD (i := 16) (d := some 30) (v := undef) rfl rfl (by kernel_rfl) (by kernel_rfl) (by kernel_rfl) (fun _ _ _ h => h) (Or.inr ⟨by rfl, rfl⟩) (by assumption) ?_
        try simp only [Act.put, List.setIfInBounds_toArray, List.set_cons_zero, List.set_cons_succ]
        refine takeD (i := 17) (d := some 31) (v := ?_) rfl rfl (by kernel_rfl) (by kernel_rfl) (by kernel_rfl) (fun _ _ _ h => h) (Or.inl ⟨by rfl, ?_⟩) (by assumption) ?_
        rotate_left
        · intro wS hSw; (try dsimp only at hSw); go_simp; (try with_reducible rfl)
        try simp only [Act.put, List.setIfInBounds_toArray, List.set_cons_zero, List.set_cons_succ]
        refine wpAnyH_done (by kernel_rfl) ?_ _
        go_wp2_with fail
        go_roundw
        case rel => exact ⟨k + 1, by omega, by go_num, HN.out, hM4⟩
        case measure => simp [intOf]; omega
    · obtain rfl : k = n := by omega
      have HE : Hid (l.any (inTest (cutS fe fa fb fc fp fq ff) (cutS te ta tb tc tp tq tf)) = false) := by
        have := HS.out
        rwa [List.take_of_length_le (by rw [HL.out]; exact Nat.le_refl _)] at this
      go_wp2_with fail
      go_ret
      exact ⟨ret_bool HE.out.symm, loc_below hL⟩
end Go.Proofs.YthaagngoefieaaaDoor
