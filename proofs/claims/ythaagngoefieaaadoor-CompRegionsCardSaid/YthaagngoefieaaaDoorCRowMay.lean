/-
  Rows of spans in memory, read; the walks of chapter 4's May of a row, the program's and the reference's. Conditions: Pre and Build of each cut have at most 1048576 bytes.
-/
import Derived.Test.YthaagngoefieaaaDoorG5
import Derived.Deep.RegionHeld3
import Derived.Deep.DeepCutAuto
import Derived.IntWalk
namespace Go.Proofs.YthaagngoefieaaaDoor
open Go.ChangeShapes Go.WideShapes Go.ChangeAt Go.RowKit
set_option linter.unusedVariables false
set_option linter.unusedSimpArgs false

theorem rds_at {w : World} {B : Nat} {A : Option Addr} {l : List SpanC} {k : Nat} (h : RdS w B A l) (hok : ∀ s ∈ l, okS s) (hk : k < l.length) :
    ∃ (b : Nat) (e a x c : Int) (p q : ByteArray) (f : Bool) (e' a' x' c' : Int) (p' q' : ByteArray) (f' : Bool), A = some ⟨b, 0, none⟩ ∧ b < B ∧ l[k]? = some ⟨cutS e a x c p q f, cutS e' a' x' c' p' q' f'⟩ ∧
      (p.size ≤ 1048576 ∧ q.size ≤ 1048576 ∧ p'.size ≤ 1048576 ∧ q'.size ≤ 1048576) ∧ (w.cell? ⟨b, k * 14, none⟩ = some (.int .i64 e) ∧ w.cell? ⟨b, k * 14 + 1, none⟩ = some (.int .i64 a) ∧ w.cell? ⟨b, k * 14 + 2, none⟩ = some (.int .i64 x) ∧ w.cell? ⟨b, k * 14 + 3, none⟩ = some (.int .i64 c) ∧ w.cell? ⟨b, k * 14 + 4, none⟩ = some (.string p) ∧ w.cell? ⟨b, k * 14 + 5, none⟩ = some (.string q) ∧ w.cell? ⟨b, k * 14 + 6, none⟩ = some (.bool f) ∧ w.cell? ⟨b, k * 14 + 7, none⟩ = some (.int .i64 e') ∧ w.cell? ⟨b, k * 14 + 8, none⟩ = some (.int .i64 a') ∧ w.cell? ⟨b, k * 14 + 9, none⟩ = some (.int .i64 x') ∧ w.cell? ⟨b, k * 14 + 10, none⟩ = some (.int .i64 c') ∧ w.cell? ⟨b, k * 14 + 11, none⟩ = some (.string p') ∧ w.cell? ⟨b, k * 14 + 12, none⟩ = some (.string q') ∧ w.cell? ⟨b, k * 14 + 13, none⟩ = some (.bool f')) := by
  obtain ⟨b, rfl, hb, hc⟩ := h (by omega)
  have hg : l[k]? = some l[k] := List.getElem?_eq_getElem hk
  have ho := hok _ (List.getElem_mem hk)
  generalize l[k] = s at *
  obtain ⟨F, G⟩ := s
  obtain ⟨e, a, x, c, p, q, f, hF, _, hFc, hp, hq⟩ := cut_of F
  obtain ⟨e', a', x', c', p', q', f', hG, _, hGc, hp', hq'⟩ := cut_of G
  have hs : spanCells ⟨F, G⟩ = [.int .i64 e, .int .i64 a, .int .i64 x, .int .i64 c, .string p, .string q, .bool f] ++ [.int .i64 e', .int .i64 a', .int .i64 x', .int .i64 c', .string p', .string q', .bool f'] := by rw [← hFc, ← hGc]; rfl
  refine ⟨b, e, a, x, c, p, q, f, e', a', x', c', p', q', f', rfl, hb, by rw [hg, hF, hG], ⟨by rw [hp]; exact ho.1.1, by rw [hq]; exact ho.1.2, by rw [hp']; exact ho.2.1, by rw [hq']; exact ho.2.2⟩, ?_⟩
  have fs : ∀ m u, m < 14 → (spanCells ⟨F, G⟩)[m]? = some u → w.cell? ⟨b, k * 14 + m, none⟩ = some u := fun m u hm hu => hc _ _ ((flat_span l k m _ hg hm).trans hu)
  rw [hs] at fs
  exact ⟨fs 0 _ (by omega) rfl, fs 1 _ (by omega) rfl, fs 2 _ (by omega) rfl, fs 3 _ (by omega) rfl, fs 4 _ (by omega) rfl, fs 5 _ (by omega) rfl, fs 6 _ (by omega) rfl, fs 7 _ (by omega) rfl, fs 8 _ (by omega) rfl, fs 9 _ (by omega) rfl, fs 10 _ (by omega) rfl, fs 11 _ (by omega) rfl, fs 12 _ (by omega) rfl, fs 13 _ (by omega) rfl⟩

theorem keep7 {W W' : World} {B b o0 o1 o2 o3 o4 o5 o6 : Nat} {x0 x1 x2 x3 x4 x5 x6 : Value} (hb : Below B W W') (h : b < B)
    (hc : W.cell? ⟨b, o0, none⟩ = some x0 ∧ W.cell? ⟨b, o1, none⟩ = some x1 ∧ W.cell? ⟨b, o2, none⟩ = some x2 ∧ W.cell? ⟨b, o3, none⟩ = some x3 ∧ W.cell? ⟨b, o4, none⟩ = some x4 ∧ W.cell? ⟨b, o5, none⟩ = some x5 ∧ W.cell? ⟨b, o6, none⟩ = some x6) :
    W'.cell? ⟨b, o0, none⟩ = some x0 ∧ W'.cell? ⟨b, o1, none⟩ = some x1 ∧ W'.cell? ⟨b, o2, none⟩ = some x2 ∧ W'.cell? ⟨b, o3, none⟩ = some x3 ∧ W'.cell? ⟨b, o4, none⟩ = some x4 ∧ W'.cell? ⟨b, o5, none⟩ = some x5 ∧ W'.cell? ⟨b, o6, none⟩ = some x6 := by
  have k : ∀ o v, W.cell? ⟨b, o, none⟩ = some v → W'.cell? ⟨b, o, none⟩ = some v := fun o v hv => (hb.cell (p := ⟨b, o, none⟩) h).trans hv
  exact ⟨k _ _ hc.1, k _ _ hc.2.1, k _ _ hc.2.2.1, k _ _ hc.2.2.2.1, k _ _ hc.2.2.2.2.1, k _ _ hc.2.2.2.2.2.1, k _ _ hc.2.2.2.2.2.2⟩
theorem keep14 {W W' : World} {B b o0 o1 o2 o3 o4 o5 o6 o7 o8 o9 o10 o11 o12 o13 : Nat} {x0 x1 x2 x3 x4 x5 x6 x7 x8 x9 x10 x11 x12 x13 : Value} (hb : Below B W W') (h : b < B)
    (hc : W.cell? ⟨b, o0, none⟩ = some x0 ∧ W.cell? ⟨b, o1, none⟩ = some x1 ∧ W.cell? ⟨b, o2, none⟩ = some x2 ∧ W.cell? ⟨b, o3, none⟩ = some x3 ∧ W.cell? ⟨b, o4, none⟩ = some x4 ∧ W.cell? ⟨b, o5, none⟩ = some x5 ∧ W.cell? ⟨b, o6, none⟩ = some x6 ∧ W.cell? ⟨b, o7, none⟩ = some x7 ∧ W.cell? ⟨b, o8, none⟩ = some x8 ∧ W.cell? ⟨b, o9, none⟩ = some x9 ∧ W.cell? ⟨b, o10, none⟩ = some x10 ∧ W.cell? ⟨b, o11, none⟩ = some x11 ∧ W.cell? ⟨b, o12, none⟩ = some x12 ∧ W.cell? ⟨b, o13, none⟩ = some x13) :
    W'.cell? ⟨b, o0, none⟩ = some x0 ∧ W'.cell? ⟨b, o1, none⟩ = some x1 ∧ W'.cell? ⟨b, o2, none⟩ = some x2 ∧ W'.cell? ⟨b, o3, none⟩ = some x3 ∧ W'.cell? ⟨b, o4, none⟩ = some x4 ∧ W'.cell? ⟨b, o5, none⟩ = some x5 ∧ W'.cell? ⟨b, o6, none⟩ = some x6 ∧ W'.cell? ⟨b, o7, none⟩ = some x7 ∧ W'.cell? ⟨b, o8, none⟩ = some x8 ∧ W'.cell? ⟨b, o9, none⟩ = some x9 ∧ W'.cell? ⟨b, o10, none⟩ = some x10 ∧ W'.cell? ⟨b, o11, none⟩ = some x11 ∧ W'.cell? ⟨b, o12, none⟩ = some x12 ∧ W'.cell? ⟨b, o13, none⟩ = some x13 := by
  have k : ∀ o v, W.cell? ⟨b, o, none⟩ = some v → W'.cell? ⟨b, o, none⟩ = some v := fun o v hv => (hb.cell (p := ⟨b, o, none⟩) h).trans hv
  obtain ⟨h0, h1, h2, h3, h4, h5, h6, h7, h8, h9, h10, h11, h12, h13⟩ := hc
  exact ⟨k _ _ h0, k _ _ h1, k _ _ h2, k _ _ h3, k _ _ h4, k _ _ h5, k _ _ h6, k _ _ h7, k _ _ h8, k _ _ h9, k _ _ h10, k _ _ h11, k _ _ h12, k _ _ h13⟩
/-- The first k spans are right, and so is each against the one ahead. -/
def okR (l : List SpanC) (k : Nat) : Prop := ∀ i s, i < k → l[i]? = some s → mayS s = true ∧ ∀ r, 0 < i → l[i - 1]? = some r → compCut r.t s.f < 0
theorem okR_succ {l : List SpanC} {k : Nat} {s : SpanC} (h : okR l k) (hs : l[k]? = some s) (hm : mayS s = true) (hr : ∀ r, 0 < k → l[k - 1]? = some r → compCut r.t s.f < 0) : okR l (k + 1) := by
  intro i u hi hu
  rcases Nat.lt_succ_iff_lt_or_eq.1 hi with h1 | rfl
  · exact h i u h1 hu
  · rw [hs] at hu; cases hu; exact ⟨hm, hr⟩
theorem mayRow_all : ∀ (l : List SpanC), okR l l.length → mayRow l = true
  | [], _ => rfl
  | [s], h => (h 0 s (by simp) rfl).1
  | s :: t :: l, h => by
    have h0 := h 0 s (by simp) rfl
    have h1 := h 1 t (by simp) rfl
    have h2 := mayRow_all (t :: l) (fun i u hi hu => by
      have := h (i + 1) u (by simp at hi ⊢; omega) (by simpa using hu)
      refine ⟨this.1, fun r hi0 hr => this.2 r (by omega) ?_⟩
      obtain ⟨j, rfl⟩ : ∃ j, i = j + 1 := ⟨i - 1, by omega⟩
      simpa using hr)
    simp only [mayRow, h0.1, h2, Bool.and_true, Bool.true_and, decide_eq_true_eq]
    exact h1.2 s (by omega) rfl
theorem mayRow_get : ∀ {l : List SpanC}, mayRow l = true → ∀ {k : Nat} {s : SpanC}, l[k]? = some s → mayS s = true ∧ ∀ r, 0 < k → l[k - 1]? = some r → compCut r.t s.f < 0
  | [], _, k, s, hs => by simp at hs
  | [x], h, k, s, hs => by
    match k, hs with
    | 0, hs => simp at hs; subst hs; exact ⟨h, fun r h0 => absurd h0 (by omega)⟩
  | x :: y :: l, h, k, s, hs => by
    simp only [mayRow, Bool.and_eq_true, decide_eq_true_eq] at h
    match k, hs with
    | 0, hs => simp at hs; subst hs; exact ⟨h.1.1, fun r h0 => absurd h0 (by omega)⟩
    | 1, hs =>
      simp at hs
      subst hs
      refine ⟨(mayRow_get h.2 (k := 0) rfl).1, fun r _ hr => ?_⟩
      simp at hr
      subst hr
      exact h.1.2
    | k + 2, hs =>
      have h2 := mayRow_get h.2 (k := k + 1) (s := s) (by simpa using hs)
      refine ⟨h2.1, fun r _ hr => h2.2 r (by omega) (by simpa using hr)⟩
theorem mayRow_1 {l : List SpanC} {k : Nat} {s : SpanC} (hs : l[k]? = some s) (hm : mayS s = false) : mayRow l = false := by
  rw [Bool.eq_false_iff]
  intro h
  have := (mayRow_get h hs).1
  rw [hm] at this
  cases this
theorem mayRow_2 {l : List SpanC} {k : Nat} {r s : SpanC} (h0 : 0 < k) (hr : l[k - 1]? = some r) (hs : l[k]? = some s) (hm : ¬ compCut r.t s.f < 0) : mayRow l = false := by
  rw [Bool.eq_false_iff]
  intro h
  exact hm ((mayRow_get h hs).2 r h0 hr)

set_option maxRecDepth 8192 in
set_option maxHeartbeats 4000000 in
theorem rowmay_any (A : Option Addr) (n cap B : Nat) (l : List SpanC) (w : World) (h : RdS w B A l) (hl : l.length = n) (hok : ∀ s ∈ l, okS s) (hB : B ≤ w.heap.size) (hn : n ≤ 1073741824) :
    Calls Tryd.prog 84 #[.slice A n cap] w fun e w' => e = .returned (.bool (mayRow l)) ∧ Below w.heap.size w w' := by
  have H := Lib.hid h
  have HL := Lib.hid hl
  clear h hl
  go_enter Tryd.func84, Tryd.ntmps84
  go_wp2
  go_loopw [7] (fun i wr => ∃ k : Nat, k ≤ n ∧ i = .int .i64 k ∧ okR l k ∧ Below w.heap.size w wr) (fun i _ => n - (intOf i).toNat)
  case atStart => exact ⟨0, by omega, rfl, fun i s hi => absurd hi (by omega), Below.refl _ _⟩
  case round =>
    obtain ⟨k, hk, rfl, hokr, hbel⟩ := hrel
    have HO := Lib.hid hokr
    clear hokr
    by_cases hlt : k < n
    · have hrd := rds_below H.out (hbel.mono hB)
      obtain ⟨b, e, a, x, c, p, q, f, e', a', x', c', p', q', f', rfl, hbB, hs, ⟨hp, hq, hp', hq'⟩, k0, k1, k2, k3, k4, k5, k6, k7, k8, k9, k10, k11, k12, k13⟩ := rds_at hrd hok (k := k) (by rw [HL.out]; exact hlt)
      have hsz := hbel.size
      have hbw : b < wr.heap.size := by omega
      have cs := fun W => spanmay_any e a x c p q f e' a' x' c' p' q' f' W hp hq hp' hq'
      by_cases h0 : k = 0
      · subst h0
        simp only [Nat.zero_mul, Nat.zero_add] at k0 k1 k2 k3 k4 k5 k6 k7 k8 k9 k10 k11 k12 k13
        cases hm : mayS ⟨cutS e a x c p q f, cutS e' a' x' c' p' q' f'⟩
        · have HE : Hid (mayRow l = false) := mayRow_1 hs hm
          rw [hm] at cs
          clear hm hs
          go_wp2_with fail
          have hLd := loc_drew (loc_new (loc_start wr) wr.heap.size [.int .i64 e, .int .i64 a, .int .i64 x, .int .i64 c, .string p, .string q, .bool f, .int .i64 e', .int .i64 a', .int .i64 x', .int .i64 c', .string p', .string q', .bool f'] 50)
          refine wp_region_held_drew (S := fun W => (W.cell? ⟨wr.heap.size, 0, none⟩ = some (.int .i64 e) ∧ W.cell? ⟨wr.heap.size, 1, none⟩ = some (.int .i64 a) ∧ W.cell? ⟨wr.heap.size, 2, none⟩ = some (.int .i64 x) ∧ W.cell? ⟨wr.heap.size, 3, none⟩ = some (.int .i64 c) ∧ W.cell? ⟨wr.heap.size, 4, none⟩ = some (.string p) ∧ W.cell? ⟨wr.heap.size, 5, none⟩ = some (.string q) ∧ W.cell? ⟨wr.heap.size, 6, none⟩ = some (.bool f) ∧ W.cell? ⟨wr.heap.size, 7, none⟩ = some (.int .i64 e') ∧ W.cell? ⟨wr.heap.size, 8, none⟩ = some (.int .i64 a') ∧ W.cell? ⟨wr.heap.size, 9, none⟩ = some (.int .i64 x') ∧ W.cell? ⟨wr.heap.size, 10, none⟩ = some (.int .i64 c') ∧ W.cell? ⟨wr.heap.size, 11, none⟩ = some (.string p') ∧ W.cell? ⟨wr.heap.size, 12, none⟩ = some (.string q') ∧ W.cell? ⟨wr.heap.size, 13, none⟩ = some (.bool f')) ∧ Loc wr W [(wr.heap.size, [.int .i64 e, .int .i64 a, .int .i64 x, .int .i64 c, .string p, .string q, .bool f, .int .i64 e', .int .i64 a', .int .i64 x', .int .i64 c', .string p', .string q', .bool f'])]) (by kernel_rfl) ⟨cells14L (loc_own hLd 0 rfl).1, hLd⟩ (fun hHeld => ?_)
          refine takeD (i := 0) (d := some 12) (v := ?_) rfl rfl (by kernel_rfl) (by kernel_rfl) (by kernel_rfl) (fun _ _ _ h => h) (Or.inl ⟨by rfl, ?_⟩) (by assumption) ?_
          rotate_left
          · intro wS hSw; (try dsimp only at hSw); go_simp; (try with_reducible rfl)
          try simp only [Act.put, List.setIfInBounds_toArray, List.set_cons_zero, List.set_cons_succ]
          refine wpAnyH_ready (rs := [1]) (by kernel_rfl) (by simp) ?_
          refine consD (d := some 13) rfl rfl (fun K hK => ?_) AllReadyH.nil
          go_simp
          (go_at_call 102; (with_reducible refine (cs _).mono ?_); rintro e w1 ⟨rfl, hb1⟩)
          have hL := loc_call hHeld.2 hb1
          refine hK.out _ _ ⟨cells14L (loc_own hL 0 rfl).1, hL⟩ (fun hHeld => ?_)
          clear hK K
          try simp only [Act.put, List.setIfInBounds_toArray, List.set_cons_zero, List.set_cons_succ]
          refine takeD (i := 2) (d := some 14) (v := ?_) rfl rfl (by kernel_rfl) (by kernel_rfl) (by kernel_rfl) (fun _ _ _ h => h) (Or.inl ⟨by rfl, ?_⟩) (by assumption) ?_
          rotate_left
          · intro wS hSw; (try dsimp only at hSw); go_simp; (try with_reducible rfl)
          try simp only [Act.put, List.setIfInBounds_toArray, List.set_cons_zero, List.set_cons_succ]
          refine takeD (i := 3) (d := some 15) (v := ?_) rfl rfl (by kernel_rfl) (by kernel_rfl) (by kernel_rfl) (fun _ _ _ h => h) (Or.inl ⟨by rfl, ?_⟩) (by assumption) ?_
          rotate_left
          · intro wS hSw; (try dsimp only at hSw); go_simp; (try with_reducible rfl)
          try simp only [Act.put, List.setIfInBounds_toArray, List.set_cons_zero, List.set_cons_succ]
          refine takeD (i := 4) (d := some 16) (v := undef) rfl rfl (by kernel_rfl) (by kernel_rfl) (by kernel_rfl) (fun _ _ _ h => h) (Or.inr ⟨by rfl, rfl⟩) (by assumption) ?_
          try simp only [Act.put, List.setIfInBounds_toArray, List.set_cons_zero, List.set_cons_succ]
          refine takeD (i := 5) (d := some 17) (v := undef) rfl rfl (by kernel_rfl) (by kernel_rfl) (by kernel_rfl) (fun _ _ _ h => h) (Or.inr ⟨by rfl, rfl⟩) (by assumption) ?_
          try simp only [Act.put, List.setIfInBounds_toArray, List.set_cons_zero, List.set_cons_succ]
          refine takeD (i := 6) (d := some 18) (v := undef) rfl rfl (by kernel_rfl) (by kernel_rfl) (by kernel_rfl) (fun _ _ _ h => h) (Or.inr ⟨by rfl, rfl⟩) (by assumption) ?_
          try simp only [Act.put, List.setIfInBounds_toArray, List.set_cons_zero, List.set_cons_succ]
          refine takeD (i := 7) (d := some 19) (v := undef) rfl rfl (by kernel_rfl) (by kernel_rfl) (by kernel_rfl) (fun _ _ _ h => h) (Or.inr ⟨by rfl, rfl⟩) (by assumption) ?_
          try simp only [Act.put, List.setIfInBounds_toArray, List.set_cons_zero, List.set_cons_succ]
          refine takeD (i := 8) (d := some 20) (v := undef) rfl rfl (by kernel_rfl) (by kernel_rfl) (by kernel_rfl) (fun _ _ _ h => h) (Or.inr ⟨by rfl, rfl⟩) (by assumption) ?_
          try simp only [Act.put, List.setIfInBounds_toArray, List.set_cons_zero, List.set_cons_succ]
          refine takeD (i := 9) (d := some 21) (v := undef) rfl rfl (by kernel_rfl) (by kernel_rfl) (by kernel_rfl) (fun _ _ _ h => h) (Or.inr ⟨by rfl, rfl⟩) (by assumption) ?_
          try simp only [Act.put, List.setIfInBounds_toArray, List.set_cons_zero, List.set_cons_succ]
          refine takeD (i := 10) (d := some 22) (v := undef) rfl rfl (by kernel_rfl) (by kernel_rfl) (by kernel_rfl) (fun _ _ _ h => h) (Or.inr ⟨by rfl, rfl⟩) (by assumption) ?_
          try simp only [Act.put, List.setIfInBounds_toArray, List.set_cons_zero, List.set_cons_succ]
          refine takeD (i := 11) (d := some 23) (v := undef) rfl rfl (by kernel_rfl) (by kernel_rfl) (by kernel_rfl) (fun _ _ _ h => h) (Or.inr ⟨by rfl, rfl⟩) (by assumption) ?_
          try simp only [Act.put, List.setIfInBounds_toArray, List.set_cons_zero, List.set_cons_succ]
          refine takeD (i := 12) (d := some 24) (v := undef) rfl rfl (by kernel_rfl) (by kernel_rfl) (by kernel_rfl) (fun _ _ _ h => h) (Or.inr ⟨by rfl, rfl⟩) (by assumption) ?_
          try simp only [Act.put, List.setIfInBounds_toArray, List.set_cons_zero, List.set_cons_succ]
          refine takeD (i := 13) (d := some 25) (v := undef) rfl rfl (by kernel_rfl) (by kernel_rfl) (by kernel_rfl) (fun _ _ _ h => h) (Or.inr ⟨by rfl, rfl⟩) (by assumption) ?_
          try simp only [Act.put, List.setIfInBounds_toArray, List.set_cons_zero, List.set_cons_succ]
          refine takeD (i := 14) (d := some 26) (v := undef) rfl rfl (by kernel_rfl) (by kernel_rfl) (by kernel_rfl) (fun _ _ _ h => h) (Or.inr ⟨by rfl, rfl⟩) (by assumption) ?_
          try simp only [Act.put, List.setIfInBounds_toArray, List.set_cons_zero, List.set_cons_succ]
          refine takeD (i := 15) (d := some 27) (v := undef) rfl rfl (by kernel_rfl) (by kernel_rfl) (by kernel_rfl) (fun _ _ _ h => h) (Or.inr ⟨by rfl, rfl⟩) (by assumption) ?_
          try simp only [Act.put, List.setIfInBounds_toArray, List.set_cons_zero, List.set_cons_succ]
          refine takeD (i := 16) (d := some 28) (v := undef) rfl rfl (by kernel_rfl) (by kernel_rfl) (by kernel_rfl) (fun _ _ _ h => h) (Or.inr ⟨by rfl, rfl⟩) (by assumption) ?_
          try simp only [Act.put, List.setIfInBounds_toArray, List.set_cons_zero, List.set_cons_succ]
          refine takeD (i := 17) (d := some 29) (v := undef) rfl rfl (by kernel_rfl) (by kernel_rfl) (by kernel_rfl) (fun _ _ _ h => h) (Or.inr ⟨by rfl, rfl⟩) (by assumption) ?_
          try simp only [Act.put, List.setIfInBounds_toArray, List.set_cons_zero, List.set_cons_succ]
          refine takeD (i := 18) (d := some 30) (v := ?_) rfl rfl (by kernel_rfl) (by kernel_rfl) (by kernel_rfl) (fun _ _ _ h => h) (Or.inl ⟨by rfl, ?_⟩) (by assumption) ?_
          rotate_left
          · intro wS hSw; (try dsimp only at hSw); go_simp; (try with_reducible rfl)
          try simp only [Act.put, List.setIfInBounds_toArray, List.set_cons_zero, List.set_cons_succ]
          refine wpAnyH_done (by kernel_rfl) ?_ _
          go_wp2_with fail
          go_ret
          exact ⟨ret_bool HE.out.symm, hbel.trans (hL.1.mono hsz)⟩
        · have HS := Lib.hid (okR_succ HO.out hs hm (fun r hr => absurd hr (by omega)))
          rw [hm] at cs
          clear hm hs
          go_wp2_with fail
          have hLd := loc_drew (loc_new (loc_start wr) wr.heap.size [.int .i64 e, .int .i64 a, .int .i64 x, .int .i64 c, .string p, .string q, .bool f, .int .i64 e', .int .i64 a', .int .i64 x', .int .i64 c', .string p', .string q', .bool f'] 50)
          refine wp_region_held_drew (S := fun W => (W.cell? ⟨wr.heap.size, 0, none⟩ = some (.int .i64 e) ∧ W.cell? ⟨wr.heap.size, 1, none⟩ = some (.int .i64 a) ∧ W.cell? ⟨wr.heap.size, 2, none⟩ = some (.int .i64 x) ∧ W.cell? ⟨wr.heap.size, 3, none⟩ = some (.int .i64 c) ∧ W.cell? ⟨wr.heap.size, 4, none⟩ = some (.string p) ∧ W.cell? ⟨wr.heap.size, 5, none⟩ = some (.string q) ∧ W.cell? ⟨wr.heap.size, 6, none⟩ = some (.bool f) ∧ W.cell? ⟨wr.heap.size, 7, none⟩ = some (.int .i64 e') ∧ W.cell? ⟨wr.heap.size, 8, none⟩ = some (.int .i64 a') ∧ W.cell? ⟨wr.heap.size, 9, none⟩ = some (.int .i64 x') ∧ W.cell? ⟨wr.heap.size, 10, none⟩ = some (.int .i64 c') ∧ W.cell? ⟨wr.heap.size, 11, none⟩ = some (.string p') ∧ W.cell? ⟨wr.heap.size, 12, none⟩ = some (.string q') ∧ W.cell? ⟨wr.heap.size, 13, none⟩ = some (.bool f')) ∧ Loc wr W [(wr.heap.size, [.int .i64 e, .int .i64 a, .int .i64 x, .int .i64 c, .string p, .string q, .bool f, .int .i64 e', .int .i64 a', .int .i64 x', .int .i64 c', .string p', .string q', .bool f'])]) (by kernel_rfl) ⟨cells14L (loc_own hLd 0 rfl).1, hLd⟩ (fun hHeld => ?_)
          refine takeD (i := 0) (d := some 12) (v := ?_) rfl rfl (by kernel_rfl) (by kernel_rfl) (by kernel_rfl) (fun _ _ _ h => h) (Or.inl ⟨by rfl, ?_⟩) (by assumption) ?_
          rotate_left
          · intro wS hSw; (try dsimp only at hSw); go_simp; (try with_reducible rfl)
          try simp only [Act.put, List.setIfInBounds_toArray, List.set_cons_zero, List.set_cons_succ]
          refine wpAnyH_ready (rs := [1]) (by kernel_rfl) (by simp) ?_
          refine consD (d := some 13) rfl rfl (fun K hK => ?_) AllReadyH.nil
          go_simp
          (go_at_call 102; (with_reducible refine (cs _).mono ?_); rintro e w1 ⟨rfl, hb1⟩)
          have hL := loc_call hHeld.2 hb1
          refine hK.out _ _ ⟨cells14L (loc_own hL 0 rfl).1, hL⟩ (fun hHeld => ?_)
          clear hK K
          try simp only [Act.put, List.setIfInBounds_toArray, List.set_cons_zero, List.set_cons_succ]
          refine takeD (i := 2) (d := some 14) (v := ?_) rfl rfl (by kernel_rfl) (by kernel_rfl) (by kernel_rfl) (fun _ _ _ h => h) (Or.inl ⟨by rfl, ?_⟩) (by assumption) ?_
          rotate_left
          · intro wS hSw; (try dsimp only at hSw); go_simp; (try with_reducible rfl)
          try simp only [Act.put, List.setIfInBounds_toArray, List.set_cons_zero, List.set_cons_succ]
          refine takeD (i := 3) (d := some 15) (v := ?_) rfl rfl (by kernel_rfl) (by kernel_rfl) (by kernel_rfl) (fun _ _ _ h => h) (Or.inl ⟨by rfl, ?_⟩) (by assumption) ?_
          rotate_left
          · intro wS hSw; (try dsimp only at hSw); go_simp; (try with_reducible rfl)
          try simp only [Act.put, List.setIfInBounds_toArray, List.set_cons_zero, List.set_cons_succ]
          refine takeD (i := 4) (d := some 16) (v := ?_) rfl rfl (by kernel_rfl) (by kernel_rfl) (by kernel_rfl) (fun _ _ _ h => h) (Or.inl ⟨by rfl, ?_⟩) (by assumption) ?_
          rotate_left
          · intro wS hSw; (try dsimp only at hSw); go_simp; (try with_reducible rfl)
          try simp only [Act.put, List.setIfInBounds_toArray, List.set_cons_zero, List.set_cons_succ]
          refine takeD (i := 5) (d := some 17) (v := ?_) rfl rfl (by kernel_rfl) (by kernel_rfl) (by kernel_rfl) (fun _ _ _ h => h) (Or.inl ⟨by rfl, ?_⟩) (by assumption) ?_
          rotate_left
          · intro wS hSw; (try dsimp only at hSw); go_simp; (try with_reducible rfl)
          try simp only [Act.put, List.setIfInBounds_toArray, List.set_cons_zero, List.set_cons_succ]
          refine takeD (i := 6) (d := some 18) (v := ?_) rfl rfl (by kernel_rfl) (by kernel_rfl) (by kernel_rfl) (fun _ _ _ h => h) (Or.inl ⟨by rfl, ?_⟩) (by assumption) ?_
          rotate_left
          · intro wS hSw; (try dsimp only at hSw); go_simp; (try with_reducible rfl)
          try simp only [Act.put, List.setIfInBounds_toArray, List.set_cons_zero, List.set_cons_succ]
          refine takeD (i := 7) (d := some 19) (v := undef) rfl rfl (by kernel_rfl) (by kernel_rfl) (by kernel_rfl) (fun _ _ _ h => h) (Or.inr ⟨by rfl, rfl⟩) (by assumption) ?_
          try simp only [Act.put, List.setIfInBounds_toArray, List.set_cons_zero, List.set_cons_succ]
          refine takeD (i := 8) (d := some 20) (v := undef) rfl rfl (by kernel_rfl) (by kernel_rfl) (by kernel_rfl) (fun _ _ _ h => h) (Or.inr ⟨by rfl, rfl⟩) (by assumption) ?_
          try simp only [Act.put, List.setIfInBounds_toArray, List.set_cons_zero, List.set_cons_succ]
          refine takeD (i := 9) (d := some 21) (v := undef) rfl rfl (by kernel_rfl) (by kernel_rfl) (by kernel_rfl) (fun _ _ _ h => h) (Or.inr ⟨by rfl, rfl⟩) (by assumption) ?_
          try simp only [Act.put, List.setIfInBounds_toArray, List.set_cons_zero, List.set_cons_succ]
          refine takeD (i := 10) (d := some 22) (v := undef) rfl rfl (by kernel_rfl) (by kernel_rfl) (by kernel_rfl) (fun _ _ _ h => h) (Or.inr ⟨by rfl, rfl⟩) (by assumption) ?_
          try simp only [Act.put, List.setIfInBounds_toArray, List.set_cons_zero, List.set_cons_succ]
          refine takeD (i := 11) (d := some 23) (v := undef) rfl rfl (by kernel_rfl) (by kernel_rfl) (by kernel_rfl) (fun _ _ _ h => h) (Or.inr ⟨by rfl, rfl⟩) (by assumption) ?_
          try simp only [Act.put, List.setIfInBounds_toArray, List.set_cons_zero, List.set_cons_succ]
          refine takeD (i := 12) (d := some 24) (v := undef) rfl rfl (by kernel_rfl) (by kernel_rfl) (by kernel_rfl) (fun _ _ _ h => h) (Or.inr ⟨by rfl, rfl⟩) (by assumption) ?_
          try simp only [Act.put, List.setIfInBounds_toArray, List.set_cons_zero, List.set_cons_succ]
          refine takeD (i := 13) (d := some 25) (v := undef) rfl rfl (by kernel_rfl) (by kernel_rfl) (by kernel_rfl) (fun _ _ _ h => h) (Or.inr ⟨by rfl, rfl⟩) (by assumption) ?_
          try simp only [Act.put, List.setIfInBounds_toArray, List.set_cons_zero, List.set_cons_succ]
          refine takeD (i := 14) (d := some 26) (v := undef) rfl rfl (by kernel_rfl) (by kernel_rfl) (by kernel_rfl) (fun _ _ _ h => h) (Or.inr ⟨by rfl, rfl⟩) (by assumption) ?_
          try simp only [Act.put, List.setIfInBounds_toArray, List.set_cons_zero, List.set_cons_succ]
          refine takeD (i := 15) (d := some 27) (v := undef) rfl rfl (by kernel_rfl) (by kernel_rfl) (by kernel_rfl) (fun _ _ _ h => h) (Or.inr ⟨by rfl, rfl⟩) (by assumption) ?_
          try simp only [Act.put, List.setIfInBounds_toArray, List.set_cons_zero, List.set_cons_succ]
          refine takeD (i := 16) (d := some 28) (v := undef) rfl rfl (by kernel_rfl) (by kernel_rfl) (by kernel_rfl) (fun _ _ _ h => h) (Or.inr ⟨by rfl, rfl⟩) (by assumption) ?_
          try simp only [Act.put, List.setIfInBounds_toArray, List.set_cons_zero, List.set_cons_succ]
          refine takeD (i := 17) (d := some 29) (v := ?_) rfl rfl (by kernel_rfl) (by kernel_rfl) (by kernel_rfl) (fun _ _ _ h => h) (Or.inl ⟨by rfl, ?_⟩) (by assumption) ?_
          rotate_left
          · intro wS hSw; (try dsimp only at hSw); go_simp; (try with_reducible rfl)
          try simp only [Act.put, List.setIfInBounds_toArray, List.set_cons_zero, List.set_cons_succ]
          refine takeD (i := 18) (d := some 30) (v := ?_) rfl rfl (by kernel_rfl) (by kernel_rfl) (by kernel_rfl) (fun _ _ _ h => h) (Or.inl ⟨by rfl, ?_⟩) (by assumption) ?_
          rotate_left
          · intro wS hSw; (try dsimp only at hSw); go_simp; (try with_reducible rfl)
          try simp only [Act.put, List.setIfInBounds_toArray, List.set_cons_zero, List.set_cons_succ]
          refine wpAnyH_done (by kernel_rfl) ?_ _
          go_wp2_with fail
          go_roundw
          case rel => exact ⟨1, by omega, by go_num, HS.out, hbel.trans (hL.1.mono hsz)⟩
          case measure => simp [intOf]; omega
      · obtain ⟨j, rfl⟩ : ∃ j, k = j + 1 := ⟨k - 1, by omega⟩
        clear h0
        obtain ⟨b2, g1, g2, g3, g4, y, z, g, g1', g2', g3', g4', y', z', g', hb2, hbB2, hs2, ⟨hy, hz, hy', hz'⟩, j0, j1, j2, j3, j4, j5, j6, j7, j8, j9, j10, j11, j12, j13⟩ := rds_at hrd hok (k := j) (by rw [HL.out]; omega)
        injection hb2 with hb2
        injection hb2 with hb2
        subst hb2
        have cc := fun W => cutcomp_any g1' g2' g3' g4' y' z' g' e a x c p q f W hy' hz' hp hq
        unfold cutW at cc
        have i0 : (0 : Int) < (j : Int) + 1 := by omega
        have i4 : (0 : Int) ≤ (j : Int) + 1 := by omega
        have i1 : (j : Int) + 1 < (n : Int) := by omega
        have i2 : (j : Int) < (n : Int) := by omega
        clear j0 j1 j2 j3 j4 j5 j6
        cases hm : mayS ⟨cutS e a x c p q f, cutS e' a' x' c' p' q' f'⟩
        · have HE : Hid (mayRow l = false) := mayRow_1 hs hm
          rw [hm] at cs
          clear hm hs hs2 cc
          go_wp2_with fail
          have hLd := loc_drew (loc_new (loc_start wr) wr.heap.size [.int .i64 e, .int .i64 a, .int .i64 x, .int .i64 c, .string p, .string q, .bool f, .int .i64 e', .int .i64 a', .int .i64 x', .int .i64 c', .string p', .string q', .bool f'] 50)
          refine wp_region_held_drew (S := fun W => (W.cell? ⟨wr.heap.size, 0, none⟩ = some (.int .i64 e) ∧ W.cell? ⟨wr.heap.size, 1, none⟩ = some (.int .i64 a) ∧ W.cell? ⟨wr.heap.size, 2, none⟩ = some (.int .i64 x) ∧ W.cell? ⟨wr.heap.size, 3, none⟩ = some (.int .i64 c) ∧ W.cell? ⟨wr.heap.size, 4, none⟩ = some (.string p) ∧ W.cell? ⟨wr.heap.size, 5, none⟩ = some (.string q) ∧ W.cell? ⟨wr.heap.size, 6, none⟩ = some (.bool f) ∧ W.cell? ⟨wr.heap.size, 7, none⟩ = some (.int .i64 e') ∧ W.cell? ⟨wr.heap.size, 8, none⟩ = some (.int .i64 a') ∧ W.cell? ⟨wr.heap.size, 9, none⟩ = some (.int .i64 x') ∧ W.cell? ⟨wr.heap.size, 10, none⟩ = some (.int .i64 c') ∧ W.cell? ⟨wr.heap.size, 11, none⟩ = some (.string p') ∧ W.cell? ⟨wr.heap.size, 12, none⟩ = some (.string q') ∧ W.cell? ⟨wr.heap.size, 13, none⟩ = some (.bool f')) ∧ Loc wr W [(wr.heap.size, [.int .i64 e, .int .i64 a, .int .i64 x, .int .i64 c, .string p, .string q, .bool f, .int .i64 e', .int .i64 a', .int .i64 x', .int .i64 c', .string p', .string q', .bool f'])]) (by kernel_rfl) ⟨cells14L (loc_own hLd 0 rfl).1, hLd⟩ (fun hHeld => ?_)
          refine takeD (i := 0) (d := some 12) (v := ?_) rfl rfl (by kernel_rfl) (by kernel_rfl) (by kernel_rfl) (fun _ _ _ h => h) (Or.inl ⟨by rfl, ?_⟩) (by assumption) ?_
          rotate_left
          · intro wS hSw; (try dsimp only at hSw); go_simp; (try with_reducible rfl)
          try simp only [Act.put, List.setIfInBounds_toArray, List.set_cons_zero, List.set_cons_succ]
          refine wpAnyH_ready (rs := [1]) (by kernel_rfl) (by simp) ?_
          refine consD (d := some 13) rfl rfl (fun K hK => ?_) AllReadyH.nil
          go_simp
          (go_at_call 102; (with_reducible refine (cs _).mono ?_); rintro e w1 ⟨rfl, hb1⟩)
          have hL := loc_call hHeld.2 hb1
          refine hK.out _ _ ⟨cells14L (loc_own hL 0 rfl).1, hL⟩ (fun hHeld => ?_)
          clear hK K
          try simp only [Act.put, List.setIfInBounds_toArray, List.set_cons_zero, List.set_cons_succ]
          refine takeD (i := 2) (d := some 14) (v := ?_) rfl rfl (by kernel_rfl) (by kernel_rfl) (by kernel_rfl) (fun _ _ _ h => h) (Or.inl ⟨by rfl, ?_⟩) (by assumption) ?_
          rotate_left
          · intro wS hSw; (try dsimp only at hSw); go_simp; (try with_reducible rfl)
          try simp only [Act.put, List.setIfInBounds_toArray, List.set_cons_zero, List.set_cons_succ]
          refine takeD (i := 3) (d := some 15) (v := ?_) rfl rfl (by kernel_rfl) (by kernel_rfl) (by kernel_rfl) (fun _ _ _ h => h) (Or.inl ⟨by rfl, ?_⟩) (by assumption) ?_
          rotate_left
          · intro wS hSw; (try dsimp only at hSw); go_simp; (try with_reducible rfl)
          try simp only [Act.put, List.setIfInBounds_toArray, List.set_cons_zero, List.set_cons_succ]
          refine takeD (i := 4) (d := some 16) (v := undef) rfl rfl (by kernel_rfl) (by kernel_rfl) (by kernel_rfl) (fun _ _ _ h => h) (Or.inr ⟨by rfl, rfl⟩) (by assumption) ?_
          try simp only [Act.put, List.setIfInBounds_toArray, List.set_cons_zero, List.set_cons_succ]
          refine takeD (i := 5) (d := some 17) (v := undef) rfl rfl (by kernel_rfl) (by kernel_rfl) (by kernel_rfl) (fun _ _ _ h => h) (Or.inr ⟨by rfl, rfl⟩) (by assumption) ?_
          try simp only [Act.put, List.setIfInBounds_toArray, List.set_cons_zero, List.set_cons_succ]
          refine takeD (i := 6) (d := some 18) (v := undef) rfl rfl (by kernel_rfl) (by kernel_rfl) (by kernel_rfl) (fun _ _ _ h => h) (Or.inr ⟨by rfl, rfl⟩) (by assumption) ?_
          try simp only [Act.put, List.setIfInBounds_toArray, List.set_cons_zero, List.set_cons_succ]
          refine takeD (i := 7) (d := some 19) (v := undef) rfl rfl (by kernel_rfl) (by kernel_rfl) (by kernel_rfl) (fun _ _ _ h => h) (Or.inr ⟨by rfl, rfl⟩) (by assumption) ?_
          try simp only [Act.put, List.setIfInBounds_toArray, List.set_cons_zero, List.set_cons_succ]
          refine takeD (i := 8) (d := some 20) (v := undef) rfl rfl (by kernel_rfl) (by kernel_rfl) (by kernel_rfl) (fun _ _ _ h => h) (Or.inr ⟨by rfl, rfl⟩) (by assumption) ?_
          try simp only [Act.put, List.setIfInBounds_toArray, List.set_cons_zero, List.set_cons_succ]
          refine takeD (i := 9) (d := some 21) (v := undef) rfl rfl (by kernel_rfl) (by kernel_rfl) (by kernel_rfl) (fun _ _ _ h => h) (Or.inr ⟨by rfl, rfl⟩) (by assumption) ?_
          try simp only [Act.put, List.setIfInBounds_toArray, List.set_cons_zero, List.set_cons_succ]
          refine takeD (i := 10) (d := some 22) (v := undef) rfl rfl (by kernel_rfl) (by kernel_rfl) (by kernel_rfl) (fun _ _ _ h => h) (Or.inr ⟨by rfl, rfl⟩) (by assumption) ?_
          try simp only [Act.put, List.setIfInBounds_toArray, List.set_cons_zero, List.set_cons_succ]
          refine takeD (i := 11) (d := some 23) (v := undef) rfl rfl (by kernel_rfl) (by kernel_rfl) (by kernel_rfl) (fun _ _ _ h => h) (Or.inr ⟨by rfl, rfl⟩) (by assumption) ?_
          try simp only [Act.put, List.setIfInBounds_toArray, List.set_cons_zero, List.set_cons_succ]
          refine takeD (i := 12) (d := some 24) (v := undef) rfl rfl (by kernel_rfl) (by kernel_rfl) (by kernel_rfl) (fun _ _ _ h => h) (Or.inr ⟨by rfl, rfl⟩) (by assumption) ?_
          try simp only [Act.put, List.setIfInBounds_toArray, List.set_cons_zero, List.set_cons_succ]
          refine takeD (i := 13) (d := some 25) (v := undef) rfl rfl (by kernel_rfl) (by kernel_rfl) (by kernel_rfl) (fun _ _ _ h => h) (Or.inr ⟨by rfl, rfl⟩) (by assumption) ?_
          try simp only [Act.put, List.setIfInBounds_toArray, List.set_cons_zero, List.set_cons_succ]
          refine takeD (i := 14) (d := some 26) (v := undef) rfl rfl (by kernel_rfl) (by kernel_rfl) (by kernel_rfl) (fun _ _ _ h => h) (Or.inr ⟨by rfl, rfl⟩) (by assumption) ?_
          try simp only [Act.put, List.setIfInBounds_toArray, List.set_cons_zero, List.set_cons_succ]
          refine takeD (i := 15) (d := some 27) (v := undef) rfl rfl (by kernel_rfl) (by kernel_rfl) (by kernel_rfl) (fun _ _ _ h => h) (Or.inr ⟨by rfl, rfl⟩) (by assumption) ?_
          try simp only [Act.put, List.setIfInBounds_toArray, List.set_cons_zero, List.set_cons_succ]
          refine takeD (i := 16) (d := some 28) (v := undef) rfl rfl (by kernel_rfl) (by kernel_rfl) (by kernel_rfl) (fun _ _ _ h => h) (Or.inr ⟨by rfl, rfl⟩) (by assumption) ?_
          try simp only [Act.put, List.setIfInBounds_toArray, List.set_cons_zero, List.set_cons_succ]
          refine takeD (i := 17) (d := some 29) (v := undef) rfl rfl (by kernel_rfl) (by kernel_rfl) (by kernel_rfl) (fun _ _ _ h => h) (Or.inr ⟨by rfl, rfl⟩) (by assumption) ?_
          try simp only [Act.put, List.setIfInBounds_toArray, List.set_cons_zero, List.set_cons_succ]
          refine takeD (i := 18) (d := some 30) (v := ?_) rfl rfl (by kernel_rfl) (by kernel_rfl) (by kernel_rfl) (fun _ _ _ h => h) (Or.inl ⟨by rfl, ?_⟩) (by assumption) ?_
          rotate_left
          · intro wS hSw; (try dsimp only at hSw); go_simp; (try with_reducible rfl)
          try simp only [Act.put, List.setIfInBounds_toArray, List.set_cons_zero, List.set_cons_succ]
          refine wpAnyH_done (by kernel_rfl) ?_ _
          go_wp2_with fail
          go_ret
          exact ⟨ret_bool HE.out.symm, hbel.trans (hL.1.mono hsz)⟩
        · by_cases hk : compCut (cutS g1' g2' g3' g4' y' z' g') (cutS e a x c p q f) < 0
          · have HS := Lib.hid (okR_succ HO.out hs hm (fun r _ hr => by rw [Nat.add_sub_cancel, hs2] at hr; cases hr; exact hk))
            rw [hm] at cs
            clear hm hs hs2
            generalize compCut (cutS g1' g2' g3' g4' y' z' g') (cutS e a x c p q f) = d at *
            have i3 : ¬ 0 ≤ d := by omega
            go_wp2_with fail
            have hLd := loc_drew (loc_new (loc_start wr) wr.heap.size [.int .i64 e, .int .i64 a, .int .i64 x, .int .i64 c, .string p, .string q, .bool f, .int .i64 e', .int .i64 a', .int .i64 x', .int .i64 c', .string p', .string q', .bool f'] 50)
            have iw : IntKind.i64.wrap (j : Int) = (j : Int) := IntWalk.i64_in _ (by omega)
            refine wp_region_held_drew (S := fun W => (W.cell? ⟨wr.heap.size, 0, none⟩ = some (.int .i64 e) ∧ W.cell? ⟨wr.heap.size, 1, none⟩ = some (.int .i64 a) ∧ W.cell? ⟨wr.heap.size, 2, none⟩ = some (.int .i64 x) ∧ W.cell? ⟨wr.heap.size, 3, none⟩ = some (.int .i64 c) ∧ W.cell? ⟨wr.heap.size, 4, none⟩ = some (.string p) ∧ W.cell? ⟨wr.heap.size, 5, none⟩ = some (.string q) ∧ W.cell? ⟨wr.heap.size, 6, none⟩ = some (.bool f) ∧ W.cell? ⟨wr.heap.size, 7, none⟩ = some (.int .i64 e') ∧ W.cell? ⟨wr.heap.size, 8, none⟩ = some (.int .i64 a') ∧ W.cell? ⟨wr.heap.size, 9, none⟩ = some (.int .i64 x') ∧ W.cell? ⟨wr.heap.size, 10, none⟩ = some (.int .i64 c') ∧ W.cell? ⟨wr.heap.size, 11, none⟩ = some (.string p') ∧ W.cell? ⟨wr.heap.size, 12, none⟩ = some (.string q') ∧ W.cell? ⟨wr.heap.size, 13, none⟩ = some (.bool f')) ∧ (W.cell? ⟨b, j * 14 + 7, none⟩ = some (.int .i64 g1') ∧ W.cell? ⟨b, j * 14 + 8, none⟩ = some (.int .i64 g2') ∧ W.cell? ⟨b, j * 14 + 9, none⟩ = some (.int .i64 g3') ∧ W.cell? ⟨b, j * 14 + 10, none⟩ = some (.int .i64 g4') ∧ W.cell? ⟨b, j * 14 + 11, none⟩ = some (.string y') ∧ W.cell? ⟨b, j * 14 + 12, none⟩ = some (.string z') ∧ W.cell? ⟨b, j * 14 + 13, none⟩ = some (.bool g')) ∧ Loc wr W [(wr.heap.size, [.int .i64 e, .int .i64 a, .int .i64 x, .int .i64 c, .string p, .string q, .bool f, .int .i64 e', .int .i64 a', .int .i64 x', .int .i64 c', .string p', .string q', .bool f'])]) (by kernel_rfl) ⟨cells14L (loc_own hLd 0 rfl).1, keep7 hLd.1 hbw ⟨j7, j8, j9, j10, j11, j12, j13⟩, hLd⟩ (fun hHeld => ?_)
            refine takeD (i := 0) (d := some 12) (v := ?_) rfl rfl (by kernel_rfl) (by kernel_rfl) (by kernel_rfl) (fun _ _ _ h => h) (Or.inl ⟨by rfl, ?_⟩) (by assumption) ?_
            rotate_left
            · intro wS hSw; (try dsimp only at hSw); go_simp; (try with_reducible rfl)
            try simp only [Act.put, List.setIfInBounds_toArray, List.set_cons_zero, List.set_cons_succ]
            refine wpAnyH_ready (rs := [1]) (by kernel_rfl) (by simp) ?_
            refine consD (d := some 13) rfl rfl (fun K hK => ?_) AllReadyH.nil
            go_simp
            (go_at_call 102; (with_reducible refine (cs _).mono ?_); rintro e w1 ⟨rfl, hb1⟩)
            have hL := loc_call hHeld.2.2 hb1
            refine hK.out _ _ ⟨cells14L (loc_own hL 0 rfl).1, keep7 hb1 (Nat.lt_of_lt_of_le hbw hHeld.2.2.1.size) hHeld.2.1, hL⟩ (fun hHeld => ?_)
            clear hK K
            try simp only [Act.put, List.setIfInBounds_toArray, List.set_cons_zero, List.set_cons_succ]
            refine takeD (i := 2) (d := some 14) (v := ?_) rfl rfl (by kernel_rfl) (by kernel_rfl) (by kernel_rfl) (fun _ _ _ h => h) (Or.inl ⟨by rfl, ?_⟩) (by assumption) ?_
            rotate_left
            · intro wS hSw; (try dsimp only at hSw); go_simp; (try with_reducible rfl)
            try simp only [Act.put, List.setIfInBounds_toArray, List.set_cons_zero, List.set_cons_succ]
            refine takeD (i := 3) (d := some 15) (v := ?_) rfl rfl (by kernel_rfl) (by kernel_rfl) (by kernel_rfl) (fun _ _ _ h => h) (Or.inl ⟨by rfl, ?_⟩) (by assumption) ?_
            rotate_left
            · intro wS hSw; (try dsimp only at hSw); go_simp; (try with_reducible rfl)
            try simp only [Act.put, List.setIfInBounds_toArray, List.set_cons_zero, List.set_cons_succ]
            refine takeD (i := 4) (d := some 16) (v := ?_) rfl rfl (by kernel_rfl) (by kernel_rfl) (by kernel_rfl) (fun _ _ _ h => h) (Or.inl ⟨by rfl, ?_⟩) (by assumption) ?_
            rotate_left
            · intro wS hSw; (try dsimp only at hSw); go_simp; (try with_reducible rfl)
            try simp only [Act.put, List.setIfInBounds_toArray, List.set_cons_zero, List.set_cons_succ]
            refine takeD (i := 5) (d := some 17) (v := ?_) rfl rfl (by kernel_rfl) (by kernel_rfl) (by kernel_rfl) (fun _ _ _ h => h) (Or.inl ⟨by rfl, ?_⟩) (by assumption) ?_
            rotate_left
            · intro wS hSw; (try dsimp only at hSw); go_simp; (try with_reducible rfl)
            try simp only [Act.put, List.setIfInBounds_toArray, List.set_cons_zero, List.set_cons_succ]
            refine takeD (i := 6) (d := some 18) (v := ?_) rfl rfl (by kernel_rfl) (by kernel_rfl) (by kernel_rfl) (fun _ _ _ h => h) (Or.inl ⟨by rfl, ?_⟩) (by assumption) ?_
            rotate_left
            · intro wS hSw; (try dsimp only at hSw); go_simp; (try with_reducible rfl)
            try simp only [Act.put, List.setIfInBounds_toArray, List.set_cons_zero, List.set_cons_succ]
            refine takeD (i := 7) (d := some 19) (v := ?_) rfl rfl (by kernel_rfl) (by kernel_rfl) (by kernel_rfl) (fun _ _ _ h => h) (Or.inl ⟨by rfl, ?_⟩) (by assumption) ?_
            rotate_left
            · intro wS hSw; (try dsimp only at hSw); go_simp; (try with_reducible rfl)
            try simp only [Act.put, List.setIfInBounds_toArray, List.set_cons_zero, List.set_cons_succ]
            refine takeD (i := 8) (d := some 20) (v := ?_) rfl rfl (by kernel_rfl) (by kernel_rfl) (by kernel_rfl) (fun _ _ _ h => h) (Or.inl ⟨by rfl, ?_⟩) (by assumption) ?_
            rotate_left
            · intro wS hSw; (try dsimp only at hSw); go_simp; (try with_reducible rfl)
            try simp only [Act.put, List.setIfInBounds_toArray, List.set_cons_zero, List.set_cons_succ]
            refine takeD (i := 9) (d := some 21) (v := ?_) rfl rfl (by kernel_rfl) (by kernel_rfl) (by kernel_rfl) (fun _ _ _ h => h) (Or.inl ⟨by rfl, ?_⟩) (by assumption) ?_
            rotate_left
            · intro wS hSw; (try dsimp only at hSw); go_simp; (try with_reducible rfl)
            try simp only [Act.put, List.setIfInBounds_toArray, List.set_cons_zero, List.set_cons_succ]
            refine takeD (i := 10) (d := some 22) (v := ?_) rfl rfl (by kernel_rfl) (by kernel_rfl) (by kernel_rfl) (fun _ _ _ h => h) (Or.inl ⟨by rfl, ?_⟩) (by assumption) ?_
            rotate_left
            · intro wS hSw; (try dsimp only at hSw); go_simp; (try with_reducible rfl)
            try simp only [Act.put, List.setIfInBounds_toArray, List.set_cons_zero, List.set_cons_succ]
            refine takeD (i := 11) (d := some 23) (v := ?_) rfl rfl (by kernel_rfl) (by kernel_rfl) (by kernel_rfl) (fun _ _ _ h => h) (Or.inl ⟨by rfl, ?_⟩) (by assumption) ?_
            rotate_left
            · intro wS hSw; (try dsimp only at hSw); go_simp; (try with_reducible rfl)
            try simp only [Act.put, List.setIfInBounds_toArray, List.set_cons_zero, List.set_cons_succ]
            refine takeD (i := 12) (d := some 24) (v := ?_) rfl rfl (by kernel_rfl) (by kernel_rfl) (by kernel_rfl) (fun _ _ _ h => h) (Or.inl ⟨by rfl, ?_⟩) (by assumption) ?_
            rotate_left
            · intro wS hSw; (try dsimp only at hSw); go_simp; (try with_reducible rfl)
            try simp only [Act.put, List.setIfInBounds_toArray, List.set_cons_zero, List.set_cons_succ]
            refine takeD (i := 13) (d := some 25) (v := ?_) rfl rfl (by kernel_rfl) (by kernel_rfl) (by kernel_rfl) (fun _ _ _ h => h) (Or.inl ⟨by rfl, ?_⟩) (by assumption) ?_
            rotate_left
            · intro wS hSw; (try dsimp only at hSw); go_simp; (try with_reducible rfl)
            try simp only [Act.put, List.setIfInBounds_toArray, List.set_cons_zero, List.set_cons_succ]
            refine takeD (i := 14) (d := some 26) (v := ?_) rfl rfl (by kernel_rfl) (by kernel_rfl) (by kernel_rfl) (fun _ _ _ h => h) (Or.inl ⟨by rfl, ?_⟩) (by assumption) ?_
            rotate_left
            · intro wS hSw; (try dsimp only at hSw); go_simp; (try with_reducible rfl)
            try simp only [Act.put, List.setIfInBounds_toArray, List.set_cons_zero, List.set_cons_succ]
            refine wpAnyH_ready (rs := [15]) (by kernel_rfl) (by simp) ?_
            refine consD (d := some 27) rfl rfl (fun K hK => ?_) AllReadyH.nil
            go_simp
            (go_at_call 85; (with_reducible refine (cc _).mono ?_); rintro e w2 ⟨rfl, hb2⟩)
            have hL := loc_call hHeld.2.2 hb2
            refine hK.out _ _ ⟨cells14L (loc_own hL 0 rfl).1, keep7 hb2 (Nat.lt_of_lt_of_le hbw hHeld.2.2.1.size) hHeld.2.1, hL⟩ (fun hHeld => ?_)
            clear hK K
            try simp only [Act.put, List.setIfInBounds_toArray, List.set_cons_zero, List.set_cons_succ]
            refine takeD (i := 16) (d := some 28) (v := ?_) rfl rfl (by kernel_rfl) (by kernel_rfl) (by kernel_rfl) (fun _ _ _ h => h) (Or.inl ⟨by rfl, ?_⟩) (by assumption) ?_
            rotate_left
            · intro wS hSw; (try dsimp only at hSw); go_simp; (try with_reducible rfl)
            try simp only [Act.put, List.setIfInBounds_toArray, List.set_cons_zero, List.set_cons_succ]
            refine takeD (i := 17) (d := some 29) (v := ?_) rfl rfl (by kernel_rfl) (by kernel_rfl) (by kernel_rfl) (fun _ _ _ h => h) (Or.inl ⟨by rfl, ?_⟩) (by assumption) ?_
            rotate_left
            · intro wS hSw; (try dsimp only at hSw); go_simp; (try with_reducible rfl)
            try simp only [Act.put, List.setIfInBounds_toArray, List.set_cons_zero, List.set_cons_succ]
            refine takeD (i := 18) (d := some 30) (v := ?_) rfl rfl (by kernel_rfl) (by kernel_rfl) (by kernel_rfl) (fun _ _ _ h => h) (Or.inl ⟨by rfl, ?_⟩) (by assumption) ?_
            rotate_left
            · intro wS hSw; (try dsimp only at hSw); go_simp; (try with_reducible rfl)
            try simp only [Act.put, List.setIfInBounds_toArray, List.set_cons_zero, List.set_cons_succ]
            refine wpAnyH_done (by kernel_rfl) ?_ _
            clear iw
            go_wp2_with fail
            go_roundw
            case rel => exact ⟨j + 1 + 1, by omega, by go_num, HS.out, hbel.trans (hL.1.mono hsz)⟩
            case measure => simp [intOf]; omega
          · have HE : Hid (mayRow l = false) := mayRow_2 (k := j + 1) (by omega) (by rw [Nat.add_sub_cancel]; exact hs2) hs hk
            rw [hm] at cs
            clear hm hs hs2
            generalize compCut (cutS g1' g2' g3' g4' y' z' g') (cutS e a x c p q f) = d at *
            have i3 : 0 ≤ d := by omega
            go_wp2_with fail
            have hLd := loc_drew (loc_new (loc_start wr) wr.heap.size [.int .i64 e, .int .i64 a, .int .i64 x, .int .i64 c, .string p, .string q, .bool f, .int .i64 e', .int .i64 a', .int .i64 x', .int .i64 c', .string p', .string q', .bool f'] 50)
            have iw : IntKind.i64.wrap (j : Int) = (j : Int) := IntWalk.i64_in _ (by omega)
            refine wp_region_held_drew (S := fun W => (W.cell? ⟨wr.heap.size, 0, none⟩ = some (.int .i64 e) ∧ W.cell? ⟨wr.heap.size, 1, none⟩ = some (.int .i64 a) ∧ W.cell? ⟨wr.heap.size, 2, none⟩ = some (.int .i64 x) ∧ W.cell? ⟨wr.heap.size, 3, none⟩ = some (.int .i64 c) ∧ W.cell? ⟨wr.heap.size, 4, none⟩ = some (.string p) ∧ W.cell? ⟨wr.heap.size, 5, none⟩ = some (.string q) ∧ W.cell? ⟨wr.heap.size, 6, none⟩ = some (.bool f) ∧ W.cell? ⟨wr.heap.size, 7, none⟩ = some (.int .i64 e') ∧ W.cell? ⟨wr.heap.size, 8, none⟩ = some (.int .i64 a') ∧ W.cell? ⟨wr.heap.size, 9, none⟩ = some (.int .i64 x') ∧ W.cell? ⟨wr.heap.size, 10, none⟩ = some (.int .i64 c') ∧ W.cell? ⟨wr.heap.size, 11, none⟩ = some (.string p') ∧ W.cell? ⟨wr.heap.size, 12, none⟩ = some (.string q') ∧ W.cell? ⟨wr.heap.size, 13, none⟩ = some (.bool f')) ∧ (W.cell? ⟨b, j * 14 + 7, none⟩ = some (.int .i64 g1') ∧ W.cell? ⟨b, j * 14 + 8, none⟩ = some (.int .i64 g2') ∧ W.cell? ⟨b, j * 14 + 9, none⟩ = some (.int .i64 g3') ∧ W.cell? ⟨b, j * 14 + 10, none⟩ = some (.int .i64 g4') ∧ W.cell? ⟨b, j * 14 + 11, none⟩ = some (.string y') ∧ W.cell? ⟨b, j * 14 + 12, none⟩ = some (.string z') ∧ W.cell? ⟨b, j * 14 + 13, none⟩ = some (.bool g')) ∧ Loc wr W [(wr.heap.size, [.int .i64 e, .int .i64 a, .int .i64 x, .int .i64 c, .string p, .string q, .bool f, .int .i64 e', .int .i64 a', .int .i64 x', .int .i64 c', .string p', .string q', .bool f'])]) (by kernel_rfl) ⟨cells14L (loc_own hLd 0 rfl).1, keep7 hLd.1 hbw ⟨j7, j8, j9, j10, j11, j12, j13⟩, hLd⟩ (fun hHeld => ?_)
            refine takeD (i := 0) (d := some 12) (v := ?_) rfl rfl (by kernel_rfl) (by kernel_rfl) (by kernel_rfl) (fun _ _ _ h => h) (Or.inl ⟨by rfl, ?_⟩) (by assumption) ?_
            rotate_left
            · intro wS hSw; (try dsimp only at hSw); go_simp; (try with_reducible rfl)
            try simp only [Act.put, List.setIfInBounds_toArray, List.set_cons_zero, List.set_cons_succ]
            refine wpAnyH_ready (rs := [1]) (by kernel_rfl) (by simp) ?_
            refine consD (d := some 13) rfl rfl (fun K hK => ?_) AllReadyH.nil
            go_simp
            (go_at_call 102; (with_reducible refine (cs _).mono ?_); rintro e w1 ⟨rfl, hb1⟩)
            have hL := loc_call hHeld.2.2 hb1
            refine hK.out _ _ ⟨cells14L (loc_own hL 0 rfl).1, keep7 hb1 (Nat.lt_of_lt_of_le hbw hHeld.2.2.1.size) hHeld.2.1, hL⟩ (fun hHeld => ?_)
            clear hK K
            try simp only [Act.put, List.setIfInBounds_toArray, List.set_cons_zero, List.set_cons_succ]
            refine takeD (i := 2) (d := some 14) (v := ?_) rfl rfl (by kernel_rfl) (by kernel_rfl) (by kernel_rfl) (fun _ _ _ h => h) (Or.inl ⟨by rfl, ?_⟩) (by assumption) ?_
            rotate_left
            · intro wS hSw; (try dsimp only at hSw); go_simp; (try with_reducible rfl)
            try simp only [Act.put, List.setIfInBounds_toArray, List.set_cons_zero, List.set_cons_succ]
            refine takeD (i := 3) (d := some 15) (v := ?_) rfl rfl (by kernel_rfl) (by kernel_rfl) (by kernel_rfl) (fun _ _ _ h => h) (Or.inl ⟨by rfl, ?_⟩) (by assumption) ?_
            rotate_left
            · intro wS hSw; (try dsimp only at hSw); go_simp; (try with_reducible rfl)
            try simp only [Act.put, List.setIfInBounds_toArray, List.set_cons_zero, List.set_cons_succ]
            refine takeD (i := 4) (d := some 16) (v := ?_) rfl rfl (by kernel_rfl) (by kernel_rfl) (by kernel_rfl) (fun _ _ _ h => h) (Or.inl ⟨by rfl, ?_⟩) (by assumption) ?_
            rotate_left
            · intro wS hSw; (try dsimp only at hSw); go_simp; (try with_reducible rfl)
            try simp only [Act.put, List.setIfInBounds_toArray, List.set_cons_zero, List.set_cons_succ]
            refine takeD (i := 5) (d := some 17) (v := ?_) rfl rfl (by kernel_rfl) (by kernel_rfl) (by kernel_rfl) (fun _ _ _ h => h) (Or.inl ⟨by rfl, ?_⟩) (by assumption) ?_
            rotate_left
            · intro wS hSw; (try dsimp only at hSw); go_simp; (try with_reducible rfl)
            try simp only [Act.put, List.setIfInBounds_toArray, List.set_cons_zero, List.set_cons_succ]
            refine takeD (i := 6) (d := some 18) (v := ?_) rfl rfl (by kernel_rfl) (by kernel_rfl) (by kernel_rfl) (fun _ _ _ h => h) (Or.inl ⟨by rfl, ?_⟩) (by assumption) ?_
            rotate_left
            · intro wS hSw; (try dsimp only at hSw); go_simp; (try with_reducible rfl)
            try simp only [Act.put, List.setIfInBounds_toArray, List.set_cons_zero, List.set_cons_succ]
            refine takeD (i := 7) (d := some 19) (v := ?_) rfl rfl (by kernel_rfl) (by kernel_rfl) (by kernel_rfl) (fun _ _ _ h => h) (Or.inl ⟨by rfl, ?_⟩) (by assumption) ?_
            rotate_left
            · intro wS hSw; (try dsimp only at hSw); go_simp; (try with_reducible rfl)
            try simp only [Act.put, List.setIfInBounds_toArray, List.set_cons_zero, List.set_cons_succ]
            refine takeD (i := 8) (d := some 20) (v := ?_) rfl rfl (by kernel_rfl) (by kernel_rfl) (by kernel_rfl) (fun _ _ _ h => h) (Or.inl ⟨by rfl, ?_⟩) (by assumption) ?_
            rotate_left
            · intro wS hSw; (try dsimp only at hSw); go_simp; (try with_reducible rfl)
            try simp only [Act.put, List.setIfInBounds_toArray, List.set_cons_zero, List.set_cons_succ]
            refine takeD (i := 9) (d := some 21) (v := ?_) rfl rfl (by kernel_rfl) (by kernel_rfl) (by kernel_rfl) (fun _ _ _ h => h) (Or.inl ⟨by rfl, ?_⟩) (by assumption) ?_
            rotate_left
            · intro wS hSw; (try dsimp only at hSw); go_simp; (try with_reducible rfl)
            try simp only [Act.put, List.setIfInBounds_toArray, List.set_cons_zero, List.set_cons_succ]
            refine takeD (i := 10) (d := some 22) (v := ?_) rfl rfl (by kernel_rfl) (by kernel_rfl) (by kernel_rfl) (fun _ _ _ h => h) (Or.inl ⟨by rfl, ?_⟩) (by assumption) ?_
            rotate_left
            · intro wS hSw; (try dsimp only at hSw); go_simp; (try with_reducible rfl)
            try simp only [Act.put, List.setIfInBounds_toArray, List.set_cons_zero, List.set_cons_succ]
            refine takeD (i := 11) (d := some 23) (v := ?_) rfl rfl (by kernel_rfl) (by kernel_rfl) (by kernel_rfl) (fun _ _ _ h => h) (Or.inl ⟨by rfl, ?_⟩) (by assumption) ?_
            rotate_left
            · intro wS hSw; (try dsimp only at hSw); go_simp; (try with_reducible rfl)
            try simp only [Act.put, List.setIfInBounds_toArray, List.set_cons_zero, List.set_cons_succ]
            refine takeD (i := 12) (d := some 24) (v := ?_) rfl rfl (by kernel_rfl) (by kernel_rfl) (by kernel_rfl) (fun _ _ _ h => h) (Or.inl ⟨by rfl, ?_⟩) (by assumption) ?_
            rotate_left
            · intro wS hSw; (try dsimp only at hSw); go_simp; (try with_reducible rfl)
            try simp only [Act.put, List.setIfInBounds_toArray, List.set_cons_zero, List.set_cons_succ]
            refine takeD (i := 13) (d := some 25) (v := ?_) rfl rfl (by kernel_rfl) (by kernel_rfl) (by kernel_rfl) (fun _ _ _ h => h) (Or.inl ⟨by rfl, ?_⟩) (by assumption) ?_
            rotate_left
            · intro wS hSw; (try dsimp only at hSw); go_simp; (try with_reducible rfl)
            try simp only [Act.put, List.setIfInBounds_toArray, List.set_cons_zero, List.set_cons_succ]
            refine takeD (i := 14) (d := some 26) (v := ?_) rfl rfl (by kernel_rfl) (by kernel_rfl) (by kernel_rfl) (fun _ _ _ h => h) (Or.inl ⟨by rfl, ?_⟩) (by assumption) ?_
            rotate_left
            · intro wS hSw; (try dsimp only at hSw); go_simp; (try with_reducible rfl)
            try simp only [Act.put, List.setIfInBounds_toArray, List.set_cons_zero, List.set_cons_succ]
            refine wpAnyH_ready (rs := [15]) (by kernel_rfl) (by simp) ?_
            refine consD (d := some 27) rfl rfl (fun K hK => ?_) AllReadyH.nil
            go_simp
            (go_at_call 85; (with_reducible refine (cc _).mono ?_); rintro e w2 ⟨rfl, hb2⟩)
            have hL := loc_call hHeld.2.2 hb2
            refine hK.out _ _ ⟨cells14L (loc_own hL 0 rfl).1, keep7 hb2 (Nat.lt_of_lt_of_le hbw hHeld.2.2.1.size) hHeld.2.1, hL⟩ (fun hHeld => ?_)
            clear hK K
            try simp only [Act.put, List.setIfInBounds_toArray, List.set_cons_zero, List.set_cons_succ]
            refine takeD (i := 16) (d := some 28) (v := ?_) rfl rfl (by kernel_rfl) (by kernel_rfl) (by kernel_rfl) (fun _ _ _ h => h) (Or.inl ⟨by rfl, ?_⟩) (by assumption) ?_
            rotate_left
            · intro wS hSw; (try dsimp only at hSw); go_simp; (try with_reducible rfl)
            try simp only [Act.put, List.setIfInBounds_toArray, List.set_cons_zero, List.set_cons_succ]
            refine takeD (i := 17) (d := some 29) (v := ?_) rfl rfl (by kernel_rfl) (by kernel_rfl) (by kernel_rfl) (fun _ _ _ h => h) (Or.inl ⟨by rfl, ?_⟩) (by assumption) ?_
            rotate_left
            · intro wS hSw; (try dsimp only at hSw); go_simp; (try with_reducible rfl)
            try simp only [Act.put, List.setIfInBounds_toArray, List.set_cons_zero, List.set_cons_succ]
            refine takeD (i := 18) (d := some 30) (v := ?_) rfl rfl (by kernel_rfl) (by kernel_rfl) (by kernel_rfl) (fun _ _ _ h => h) (Or.inl ⟨by rfl, ?_⟩) (by assumption) ?_
            rotate_left
            · intro wS hSw; (try dsimp only at hSw); go_simp; (try with_reducible rfl)
            try simp only [Act.put, List.setIfInBounds_toArray, List.set_cons_zero, List.set_cons_succ]
            refine wpAnyH_done (by kernel_rfl) ?_ _
            clear iw
            go_wp2_with fail
            go_ret
            exact ⟨ret_bool HE.out.symm, hbel.trans (hL.1.mono hsz)⟩
    · obtain rfl : k = n := by omega
      have HE : Hid (mayRow l = true) := mayRow_all l (by rw [HL.out]; exact HO.out)
      go_wp2_with fail
      go_ret
      exact ⟨ret_bool HE.out.symm, hbel⟩

set_option maxRecDepth 8192 in
set_option maxHeartbeats 4000000 in
theorem rrowmay_any (A : Option Addr) (n cap B : Nat) (l : List SpanC) (w : World) (h : RdS w B A l) (hl : l.length = n) (hok : ∀ s ∈ l, okS s) (hB : B ≤ w.heap.size) (hn : n ≤ 1073741824) :
    Calls Tryd.prog 52 #[.slice A n cap] w fun e w' => e = .returned (.bool (mayRow l)) ∧ Below w.heap.size w w' := by
  have H := Lib.hid h
  have HL := Lib.hid hl
  clear h hl
  go_enter Tryd.func52, Tryd.ntmps52
  go_wp2
  go_loopw [3] (fun i wr => ∃ k : Nat, k ≤ n ∧ i = .int .i64 k ∧ okR l k ∧ Below w.heap.size w wr) (fun i _ => n - (intOf i).toNat)
  case atStart => exact ⟨0, by omega, rfl, fun i s hi => absurd hi (by omega), Below.refl _ _⟩
  case round =>
    obtain ⟨k, hk, rfl, hokr, hbel⟩ := hrel
    have HO := Lib.hid hokr
    clear hokr
    by_cases hlt : k < n
    · have hrd := rds_below H.out (hbel.mono hB)
      obtain ⟨b, e, a, x, c, p, q, f, e', a', x', c', p', q', f', rfl, hbB, hs, ⟨hp, hq, hp', hq'⟩, k0, k1, k2, k3, k4, k5, k6, k7, k8, k9, k10, k11, k12, k13⟩ := rds_at hrd hok (k := k) (by rw [HL.out]; exact hlt)
      have hsz := hbel.size
      have hbw : b < wr.heap.size := by omega
      have cs := fun W => rspanmay_any e a x c p q f e' a' x' c' p' q' f' W hp hq hp' hq'
      by_cases h0 : k = 0
      · subst h0
        simp only [Nat.zero_mul, Nat.zero_add] at k0 k1 k2 k3 k4 k5 k6 k7 k8 k9 k10 k11 k12 k13
        cases hm : mayS ⟨cutS e a x c p q f, cutS e' a' x' c' p' q' f'⟩
        · have HE : Hid (mayRow l = false) := mayRow_1 hs hm
          rw [hm] at cs
          clear hm hs
          go_wp2_with fail
          have hLd := loc_drew (loc_start wr)
          refine wp_region_held_drew (S := fun W => (W.cell? ⟨b, 0, none⟩ = some (.int .i64 e) ∧ W.cell? ⟨b, 1, none⟩ = some (.int .i64 a) ∧ W.cell? ⟨b, 2, none⟩ = some (.int .i64 x) ∧ W.cell? ⟨b, 3, none⟩ = some (.int .i64 c) ∧ W.cell? ⟨b, 4, none⟩ = some (.string p) ∧ W.cell? ⟨b, 5, none⟩ = some (.string q) ∧ W.cell? ⟨b, 6, none⟩ = some (.bool f) ∧ W.cell? ⟨b, 7, none⟩ = some (.int .i64 e') ∧ W.cell? ⟨b, 8, none⟩ = some (.int .i64 a') ∧ W.cell? ⟨b, 9, none⟩ = some (.int .i64 x') ∧ W.cell? ⟨b, 10, none⟩ = some (.int .i64 c') ∧ W.cell? ⟨b, 11, none⟩ = some (.string p') ∧ W.cell? ⟨b, 12, none⟩ = some (.string q') ∧ W.cell? ⟨b, 13, none⟩ = some (.bool f')) ∧ Loc wr W []) (by kernel_rfl) ⟨⟨k0, k1, k2, k3, k4, k5, k6, k7, k8, k9, k10, k11, k12, k13⟩, hLd⟩ (fun hHeld => ?_)
          refine takeD (i := 0) (d := some 10) (v := ?_) rfl rfl (by kernel_rfl) (by kernel_rfl) (by kernel_rfl) (fun _ _ _ h => h) (Or.inl ⟨by rfl, ?_⟩) (by assumption) ?_
          rotate_left
          · intro wS hSw; (try dsimp only at hSw); go_simp; (try with_reducible rfl)
          try simp only [Act.put, List.setIfInBounds_toArray, List.set_cons_zero, List.set_cons_succ]
          refine takeD (i := 1) (d := some 11) (v := ?_) rfl rfl (by kernel_rfl) (by kernel_rfl) (by kernel_rfl) (fun _ _ _ h => h) (Or.inl ⟨by rfl, ?_⟩) (by assumption) ?_
          rotate_left
          · intro wS hSw; (try dsimp only at hSw); go_simp; (try with_reducible rfl)
          try simp only [Act.put, List.setIfInBounds_toArray, List.set_cons_zero, List.set_cons_succ]
          refine takeD (i := 2) (d := some 12) (v := ?_) rfl rfl (by kernel_rfl) (by kernel_rfl) (by kernel_rfl) (fun _ _ _ h => h) (Or.inl ⟨by rfl, ?_⟩) (by assumption) ?_
          rotate_left
          · intro wS hSw; (try dsimp only at hSw); go_simp; (try with_reducible rfl)
          try simp only [Act.put, List.setIfInBounds_toArray, List.set_cons_zero, List.set_cons_succ]
          refine takeD (i := 3) (d := some 13) (v := ?_) rfl rfl (by kernel_rfl) (by kernel_rfl) (by kernel_rfl) (fun _ _ _ h => h) (Or.inl ⟨by rfl, ?_⟩) (by assumption) ?_
          rotate_left
          · intro wS hSw; (try dsimp only at hSw); go_simp; (try with_reducible rfl)
          try simp only [Act.put, List.setIfInBounds_toArray, List.set_cons_zero, List.set_cons_succ]
          refine wpAnyH_ready (rs := [4]) (by kernel_rfl) (by simp) ?_
          refine consD (d := some 14) rfl rfl (fun K hK => ?_) AllReadyH.nil
          go_simp
          (go_at_call 81; (with_reducible refine (cs _).mono ?_); rintro e w1 ⟨rfl, hb1⟩)
          have hL := loc_call hHeld.2 hb1
          refine hK.out _ _ ⟨keep14 hb1 (Nat.lt_of_lt_of_le hbw hHeld.2.1.size) hHeld.1, hL⟩ (fun hHeld => ?_)
          clear hK K
          try simp only [Act.put, List.setIfInBounds_toArray, List.set_cons_zero, List.set_cons_succ]
          refine takeD (i := 5) (d := some 15) (v := ?_) rfl rfl (by kernel_rfl) (by kernel_rfl) (by kernel_rfl) (fun _ _ _ h => h) (Or.inl ⟨by rfl, ?_⟩) (by assumption) ?_
          rotate_left
          · intro wS hSw; (try dsimp only at hSw); go_simp; (try with_reducible rfl)
          try simp only [Act.put, List.setIfInBounds_toArray, List.set_cons_zero, List.set_cons_succ]
          refine takeD (i := 6) (d := some 16) (v := ?_) rfl rfl (by kernel_rfl) (by kernel_rfl) (by kernel_rfl) (fun _ _ _ h => h) (Or.inl ⟨by rfl, ?_⟩) (by assumption) ?_
          rotate_left
          · intro wS hSw; (try dsimp only at hSw); go_simp; (try with_reducible rfl)
          try simp only [Act.put, List.setIfInBounds_toArray, List.set_cons_zero, List.set_cons_succ]
          refine takeD (i := 7) (d := some 17) (v := undef) rfl rfl (by kernel_rfl) (by kernel_rfl) (by kernel_rfl) (fun _ _ _ h => h) (Or.inr ⟨by rfl, rfl⟩) (by assumption) ?_
          try simp only [Act.put, List.setIfInBounds_toArray, List.set_cons_zero, List.set_cons_succ]
          refine takeD (i := 8) (d := some 18) (v := undef) rfl rfl (by kernel_rfl) (by kernel_rfl) (by kernel_rfl) (fun _ _ _ h => h) (Or.inr ⟨by rfl, rfl⟩) (by assumption) ?_
          try simp only [Act.put, List.setIfInBounds_toArray, List.set_cons_zero, List.set_cons_succ]
          refine takeD (i := 9) (d := some 19) (v := undef) rfl rfl (by kernel_rfl) (by kernel_rfl) (by kernel_rfl) (fun _ _ _ h => h) (Or.inr ⟨by rfl, rfl⟩) (by assumption) ?_
          try simp only [Act.put, List.setIfInBounds_toArray, List.set_cons_zero, List.set_cons_succ]
          refine takeD (i := 10) (d := some 20) (v := undef) rfl rfl (by kernel_rfl) (by kernel_rfl) (by kernel_rfl) (fun _ _ _ h => h) (Or.inr ⟨by rfl, rfl⟩) (by assumption) ?_
          try simp only [Act.put, List.setIfInBounds_toArray, List.set_cons_zero, List.set_cons_succ]
          refine takeD (i := 11) (d := some 21) (v := undef) rfl rfl (by kernel_rfl) (by kernel_rfl) (by kernel_rfl) (fun _ _ _ h => h) (Or.inr ⟨by rfl, rfl⟩) (by assumption) ?_
          try simp only [Act.put, List.setIfInBounds_toArray, List.set_cons_zero, List.set_cons_succ]
          refine takeD (i := 12) (d := some 22) (v := undef) rfl rfl (by kernel_rfl) (by kernel_rfl) (by kernel_rfl) (fun _ _ _ h => h) (Or.inr ⟨by rfl, rfl⟩) (by assumption) ?_
          try simp only [Act.put, List.setIfInBounds_toArray, List.set_cons_zero, List.set_cons_succ]
          refine takeD (i := 13) (d := some 23) (v := undef) rfl rfl (by kernel_rfl) (by kernel_rfl) (by kernel_rfl) (fun _ _ _ h => h) (Or.inr ⟨by rfl, rfl⟩) (by assumption) ?_
          try simp only [Act.put, List.setIfInBounds_toArray, List.set_cons_zero, List.set_cons_succ]
          refine takeD (i := 14) (d := some 24) (v := undef) rfl rfl (by kernel_rfl) (by kernel_rfl) (by kernel_rfl) (fun _ _ _ h => h) (Or.inr ⟨by rfl, rfl⟩) (by assumption) ?_
          try simp only [Act.put, List.setIfInBounds_toArray, List.set_cons_zero, List.set_cons_succ]
          refine takeD (i := 15) (d := some 25) (v := undef) rfl rfl (by kernel_rfl) (by kernel_rfl) (by kernel_rfl) (fun _ _ _ h => h) (Or.inr ⟨by rfl, rfl⟩) (by assumption) ?_
          try simp only [Act.put, List.setIfInBounds_toArray, List.set_cons_zero, List.set_cons_succ]
          refine takeD (i := 16) (d := some 26) (v := undef) rfl rfl (by kernel_rfl) (by kernel_rfl) (by kernel_rfl) (fun _ _ _ h => h) (Or.inr ⟨by rfl, rfl⟩) (by assumption) ?_
          try simp only [Act.put, List.setIfInBounds_toArray, List.set_cons_zero, List.set_cons_succ]
          refine takeD (i := 17) (d := some 27) (v := undef) rfl rfl (by kernel_rfl) (by kernel_rfl) (by kernel_rfl) (fun _ _ _ h => h) (Or.inr ⟨by rfl, rfl⟩) (by assumption) ?_
          try simp only [Act.put, List.setIfInBounds_toArray, List.set_cons_zero, List.set_cons_succ]
          refine takeD (i := 18) (d := some 28) (v := undef) rfl rfl (by kernel_rfl) (by kernel_rfl) (by kernel_rfl) (fun _ _ _ h => h) (Or.inr ⟨by rfl, rfl⟩) (by assumption) ?_
          try simp only [Act.put, List.setIfInBounds_toArray, List.set_cons_zero, List.set_cons_succ]
          refine takeD (i := 19) (d := some 29) (v := undef) rfl rfl (by kernel_rfl) (by kernel_rfl) (by kernel_rfl) (fun _ _ _ h => h) (Or.inr ⟨by rfl, rfl⟩) (by assumption) ?_
          try simp only [Act.put, List.setIfInBounds_toArray, List.set_cons_zero, List.set_cons_succ]
          refine takeD (i := 20) (d := some 30) (v := undef) rfl rfl (by kernel_rfl) (by kernel_rfl) (by kernel_rfl) (fun _ _ _ h => h) (Or.inr ⟨by rfl, rfl⟩) (by assumption) ?_
          try simp only [Act.put, List.setIfInBounds_toArray, List.set_cons_zero, List.set_cons_succ]
          refine takeD (i := 21) (d := some 31) (v := undef) rfl rfl (by kernel_rfl) (by kernel_rfl) (by kernel_rfl) (fun _ _ _ h => h) (Or.inr ⟨by rfl, rfl⟩) (by assumption) ?_
          try simp only [Act.put, List.setIfInBounds_toArray, List.set_cons_zero, List.set_cons_succ]
          refine takeD (i := 22) (d := some 32) (v := undef) rfl rfl (by kernel_rfl) (by kernel_rfl) (by kernel_rfl) (fun _ _ _ h => h) (Or.inr ⟨by rfl, rfl⟩) (by assumption) ?_
          try simp only [Act.put, List.setIfInBounds_toArray, List.set_cons_zero, List.set_cons_succ]
          refine takeD (i := 23) (d := some 33) (v := undef) rfl rfl (by kernel_rfl) (by kernel_rfl) (by kernel_rfl) (fun _ _ _ h => h) (Or.inr ⟨by rfl, rfl⟩) (by assumption) ?_
          try simp only [Act.put, List.setIfInBounds_toArray, List.set_cons_zero, List.set_cons_succ]
          refine takeD (i := 24) (d := some 34) (v := ?_) rfl rfl (by kernel_rfl) (by kernel_rfl) (by kernel_rfl) (fun _ _ _ h => h) (Or.inl ⟨by rfl, ?_⟩) (by assumption) ?_
          rotate_left
          · intro wS hSw; (try dsimp only at hSw); go_simp; (try with_reducible rfl)
          try simp only [Act.put, List.setIfInBounds_toArray, List.set_cons_zero, List.set_cons_succ]
          refine wpAnyH_done (by kernel_rfl) ?_ _
          go_wp2_with fail
          go_ret
          exact ⟨ret_bool HE.out.symm, hbel.trans (hL.1.mono hsz)⟩
        · have HS := Lib.hid (okR_succ HO.out hs hm (fun r hr => absurd hr (by omega)))
          rw [hm] at cs
          clear hm hs
          go_wp2_with fail
          have hLd := loc_drew (loc_start wr)
          refine wp_region_held_drew (S := fun W => (W.cell? ⟨b, 0, none⟩ = some (.int .i64 e) ∧ W.cell? ⟨b, 1, none⟩ = some (.int .i64 a) ∧ W.cell? ⟨b, 2, none⟩ = some (.int .i64 x) ∧ W.cell? ⟨b, 3, none⟩ = some (.int .i64 c) ∧ W.cell? ⟨b, 4, none⟩ = some (.string p) ∧ W.cell? ⟨b, 5, none⟩ = some (.string q) ∧ W.cell? ⟨b, 6, none⟩ = some (.bool f) ∧ W.cell? ⟨b, 7, none⟩ = some (.int .i64 e') ∧ W.cell? ⟨b, 8, none⟩ = some (.int .i64 a') ∧ W.cell? ⟨b, 9, none⟩ = some (.int .i64 x') ∧ W.cell? ⟨b, 10, none⟩ = some (.int .i64 c') ∧ W.cell? ⟨b, 11, none⟩ = some (.string p') ∧ W.cell? ⟨b, 12, none⟩ = some (.string q') ∧ W.cell? ⟨b, 13, none⟩ = some (.bool f')) ∧ Loc wr W []) (by kernel_rfl) ⟨⟨k0, k1, k2, k3, k4, k5, k6, k7, k8, k9, k10, k11, k12, k13⟩, hLd⟩ (fun hHeld => ?_)
          refine takeD (i := 0) (d := some 10) (v := ?_) rfl rfl (by kernel_rfl) (by kernel_rfl) (by kernel_rfl) (fun _ _ _ h => h) (Or.inl ⟨by rfl, ?_⟩) (by assumption) ?_
          rotate_left
          · intro wS hSw; (try dsimp only at hSw); go_simp; (try with_reducible rfl)
          try simp only [Act.put, List.setIfInBounds_toArray, List.set_cons_zero, List.set_cons_succ]
          refine takeD (i := 1) (d := some 11) (v := ?_) rfl rfl (by kernel_rfl) (by kernel_rfl) (by kernel_rfl) (fun _ _ _ h => h) (Or.inl ⟨by rfl, ?_⟩) (by assumption) ?_
          rotate_left
          · intro wS hSw; (try dsimp only at hSw); go_simp; (try with_reducible rfl)
          try simp only [Act.put, List.setIfInBounds_toArray, List.set_cons_zero, List.set_cons_succ]
          refine takeD (i := 2) (d := some 12) (v := ?_) rfl rfl (by kernel_rfl) (by kernel_rfl) (by kernel_rfl) (fun _ _ _ h => h) (Or.inl ⟨by rfl, ?_⟩) (by assumption) ?_
          rotate_left
          · intro wS hSw; (try dsimp only at hSw); go_simp; (try with_reducible rfl)
          try simp only [Act.put, List.setIfInBounds_toArray, List.set_cons_zero, List.set_cons_succ]
          refine takeD (i := 3) (d := some 13) (v := ?_) rfl rfl (by kernel_rfl) (by kernel_rfl) (by kernel_rfl) (fun _ _ _ h => h) (Or.inl ⟨by rfl, ?_⟩) (by assumption) ?_
          rotate_left
          · intro wS hSw; (try dsimp only at hSw); go_simp; (try with_reducible rfl)
          try simp only [Act.put, List.setIfInBounds_toArray, List.set_cons_zero, List.set_cons_succ]
          refine wpAnyH_ready (rs := [4]) (by kernel_rfl) (by simp) ?_
          refine consD (d := some 14) rfl rfl (fun K hK => ?_) AllReadyH.nil
          go_simp
          (go_at_call 81; (with_reducible refine (cs _).mono ?_); rintro e w1 ⟨rfl, hb1⟩)
          have hL := loc_call hHeld.2 hb1
          refine hK.out _ _ ⟨keep14 hb1 (Nat.lt_of_lt_of_le hbw hHeld.2.1.size) hHeld.1, hL⟩ (fun hHeld => ?_)
          clear hK K
          try simp only [Act.put, List.setIfInBounds_toArray, List.set_cons_zero, List.set_cons_succ]
          refine takeD (i := 5) (d := some 15) (v := ?_) rfl rfl (by kernel_rfl) (by kernel_rfl) (by kernel_rfl) (fun _ _ _ h => h) (Or.inl ⟨by rfl, ?_⟩) (by assumption) ?_
          rotate_left
          · intro wS hSw; (try dsimp only at hSw); go_simp; (try with_reducible rfl)
          try simp only [Act.put, List.setIfInBounds_toArray, List.set_cons_zero, List.set_cons_succ]
          refine takeD (i := 6) (d := some 16) (v := ?_) rfl rfl (by kernel_rfl) (by kernel_rfl) (by kernel_rfl) (fun _ _ _ h => h) (Or.inl ⟨by rfl, ?_⟩) (by assumption) ?_
          rotate_left
          · intro wS hSw; (try dsimp only at hSw); go_simp; (try with_reducible rfl)
          try simp only [Act.put, List.setIfInBounds_toArray, List.set_cons_zero, List.set_cons_succ]
          refine takeD (i := 7) (d := some 17) (v := ?_) rfl rfl (by kernel_rfl) (by kernel_rfl) (by kernel_rfl) (fun _ _ _ h => h) (Or.inl ⟨by rfl, ?_⟩) (by assumption) ?_
          rotate_left
          · intro wS hSw; (try dsimp only at hSw); go_simp; (try with_reducible rfl)
          try simp only [Act.put, List.setIfInBounds_toArray, List.set_cons_zero, List.set_cons_succ]
          refine takeD (i := 8) (d := some 18) (v := ?_) rfl rfl (by kernel_rfl) (by kernel_rfl) (by kernel_rfl) (fun _ _ _ h => h) (Or.inl ⟨by rfl, ?_⟩) (by assumption) ?_
          rotate_left
          · intro wS hSw; (try dsimp only at hSw); go_simp; (try with_reducible rfl)
          try simp only [Act.put, List.setIfInBounds_toArray, List.set_cons_zero, List.set_cons_succ]
          refine takeD (i := 9) (d := some 19) (v := ?_) rfl rfl (by kernel_rfl) (by kernel_rfl) (by kernel_rfl) (fun _ _ _ h => h) (Or.inl ⟨by rfl, ?_⟩) (by assumption) ?_
          rotate_left
          · intro wS hSw; (try dsimp only at hSw); go_simp; (try with_reducible rfl)
          try simp only [Act.put, List.setIfInBounds_toArray, List.set_cons_zero, List.set_cons_succ]
          refine takeD (i := 10) (d := some 20) (v := undef) rfl rfl (by kernel_rfl) (by kernel_rfl) (by kernel_rfl) (fun _ _ _ h => h) (Or.inr ⟨by rfl, rfl⟩) (by assumption) ?_
          try simp only [Act.put, List.setIfInBounds_toArray, List.set_cons_zero, List.set_cons_succ]
          refine takeD (i := 11) (d := some 21) (v := undef) rfl rfl (by kernel_rfl) (by kernel_rfl) (by kernel_rfl) (fun _ _ _ h => h) (Or.inr ⟨by rfl, rfl⟩) (by assumption) ?_
          try simp only [Act.put, List.setIfInBounds_toArray, List.set_cons_zero, List.set_cons_succ]
          refine takeD (i := 12) (d := some 22) (v := undef) rfl rfl (by kernel_rfl) (by kernel_rfl) (by kernel_rfl) (fun _ _ _ h => h) (Or.inr ⟨by rfl, rfl⟩) (by assumption) ?_
          try simp only [Act.put, List.setIfInBounds_toArray, List.set_cons_zero, List.set_cons_succ]
          refine takeD (i := 13) (d := some 23) (v := undef) rfl rfl (by kernel_rfl) (by kernel_rfl) (by kernel_rfl) (fun _ _ _ h => h) (Or.inr ⟨by rfl, rfl⟩) (by assumption) ?_
          try simp only [Act.put, List.setIfInBounds_toArray, List.set_cons_zero, List.set_cons_succ]
          refine takeD (i := 14) (d := some 24) (v := undef) rfl rfl (by kernel_rfl) (by kernel_rfl) (by kernel_rfl) (fun _ _ _ h => h) (Or.inr ⟨by rfl, rfl⟩) (by assumption) ?_
          try simp only [Act.put, List.setIfInBounds_toArray, List.set_cons_zero, List.set_cons_succ]
          refine takeD (i := 15) (d := some 25) (v := undef) rfl rfl (by kernel_rfl) (by kernel_rfl) (by kernel_rfl) (fun _ _ _ h => h) (Or.inr ⟨by rfl, rfl⟩) (by assumption) ?_
          try simp only [Act.put, List.setIfInBounds_toArray, List.set_cons_zero, List.set_cons_succ]
          refine takeD (i := 16) (d := some 26) (v := undef) rfl rfl (by kernel_rfl) (by kernel_rfl) (by kernel_rfl) (fun _ _ _ h => h) (Or.inr ⟨by rfl, rfl⟩) (by assumption) ?_
          try simp only [Act.put, List.setIfInBounds_toArray, List.set_cons_zero, List.set_cons_succ]
          refine takeD (i := 17) (d := some 27) (v := undef) rfl rfl (by kernel_rfl) (by kernel_rfl) (by kernel_rfl) (fun _ _ _ h => h) (Or.inr ⟨by rfl, rfl⟩) (by assumption) ?_
          try simp only [Act.put, List.setIfInBounds_toArray, List.set_cons_zero, List.set_cons_succ]
          refine takeD (i := 18) (d := some 28) (v := undef) rfl rfl (by kernel_rfl) (by kernel_rfl) (by kernel_rfl) (fun _ _ _ h => h) (Or.inr ⟨by rfl, rfl⟩) (by assumption) ?_
          try simp only [Act.put, List.setIfInBounds_toArray, List.set_cons_zero, List.set_cons_succ]
          refine takeD (i := 19) (d := some 29) (v := undef) rfl rfl (by kernel_rfl) (by kernel_rfl) (by kernel_rfl) (fun _ _ _ h => h) (Or.inr ⟨by rfl, rfl⟩) (by assumption) ?_
          try simp only [Act.put, List.setIfInBounds_toArray, List.set_cons_zero, List.set_cons_succ]
          refine takeD (i := 20) (d := some 30) (v := undef) rfl rfl (by kernel_rfl) (by kernel_rfl) (by kernel_rfl) (fun _ _ _ h => h) (Or.inr ⟨by rfl, rfl⟩) (by assumption) ?_
          try simp only [Act.put, List.setIfInBounds_toArray, List.set_cons_zero, List.set_cons_succ]
          refine takeD (i := 21) (d := some 31) (v := undef) rfl rfl (by kernel_rfl) (by kernel_rfl) (by kernel_rfl) (fun _ _ _ h => h) (Or.inr ⟨by rfl, rfl⟩) (by assumption) ?_
          try simp only [Act.put, List.setIfInBounds_toArray, List.set_cons_zero, List.set_cons_succ]
          refine takeD (i := 22) (d := some 32) (v := undef) rfl rfl (by kernel_rfl) (by kernel_rfl) (by kernel_rfl) (fun _ _ _ h => h) (Or.inr ⟨by rfl, rfl⟩) (by assumption) ?_
          try simp only [Act.put, List.setIfInBounds_toArray, List.set_cons_zero, List.set_cons_succ]
          refine takeD (i := 23) (d := some 33) (v := ?_) rfl rfl (by kernel_rfl) (by kernel_rfl) (by kernel_rfl) (fun _ _ _ h => h) (Or.inl ⟨by rfl, ?_⟩) (by assumption) ?_
          rotate_left
          · intro wS hSw; (try dsimp only at hSw); go_simp; (try with_reducible rfl)
          try simp only [Act.put, List.setIfInBounds_toArray, List.set_cons_zero, List.set_cons_succ]
          refine takeD (i := 24) (d := some 34) (v := ?_) rfl rfl (by kernel_rfl) (by kernel_rfl) (by kernel_rfl) (fun _ _ _ h => h) (Or.inl ⟨by rfl, ?_⟩) (by assumption) ?_
          rotate_left
          · intro wS hSw; (try dsimp only at hSw); go_simp; (try with_reducible rfl)
          try simp only [Act.put, List.setIfInBounds_toArray, List.set_cons_zero, List.set_cons_succ]
          refine wpAnyH_done (by kernel_rfl) ?_ _
          go_wp2_with fail
          go_roundw
          case rel => exact ⟨1, by omega, by go_num, HS.out, hbel.trans (hL.1.mono hsz)⟩
          case measure => simp [intOf]; omega
      · obtain ⟨j, rfl⟩ : ∃ j, k = j + 1 := ⟨k - 1, by omega⟩
        clear h0
        obtain ⟨b2, g1, g2, g3, g4, y, z, g, g1', g2', g3', g4', y', z', g', hb2, hbB2, hs2, ⟨hy, hz, hy', hz'⟩, j0, j1, j2, j3, j4, j5, j6, j7, j8, j9, j10, j11, j12, j13⟩ := rds_at hrd hok (k := j) (by rw [HL.out]; omega)
        injection hb2 with hb2
        injection hb2 with hb2
        subst hb2
        have cc := fun W => rcutcomp_any g1' g2' g3' g4' y' z' g' e a x c p q f W hy' hz' hp hq
        unfold cutW at cc
        have i0 : (0 : Int) < (j : Int) + 1 := by omega
        have i4 : (0 : Int) ≤ (j : Int) + 1 := by omega
        have i1 : (j : Int) + 1 < (n : Int) := by omega
        have i2 : (j : Int) < (n : Int) := by omega
        clear j0 j1 j2 j3 j4 j5 j6
        cases hm : mayS ⟨cutS e a x c p q f, cutS e' a' x' c' p' q' f'⟩
        · have HE : Hid (mayRow l = false) := mayRow_1 hs hm
          rw [hm] at cs
          clear hm hs hs2 cc
          go_wp2_with fail
          have hLd := loc_drew (loc_start wr)
          refine wp_region_held_drew (S := fun W => (W.cell? ⟨b, (j + 1) * 14, none⟩ = some (.int .i64 e) ∧ W.cell? ⟨b, (j + 1) * 14 + 1, none⟩ = some (.int .i64 a) ∧ W.cell? ⟨b, (j + 1) * 14 + 2, none⟩ = some (.int .i64 x) ∧ W.cell? ⟨b, (j + 1) * 14 + 3, none⟩ = some (.int .i64 c) ∧ W.cell? ⟨b, (j + 1) * 14 + 4, none⟩ = some (.string p) ∧ W.cell? ⟨b, (j + 1) * 14 + 5, none⟩ = some (.string q) ∧ W.cell? ⟨b, (j + 1) * 14 + 6, none⟩ = some (.bool f) ∧ W.cell? ⟨b, (j + 1) * 14 + 7, none⟩ = some (.int .i64 e') ∧ W.cell? ⟨b, (j + 1) * 14 + 8, none⟩ = some (.int .i64 a') ∧ W.cell? ⟨b, (j + 1) * 14 + 9, none⟩ = some (.int .i64 x') ∧ W.cell? ⟨b, (j + 1) * 14 + 10, none⟩ = some (.int .i64 c') ∧ W.cell? ⟨b, (j + 1) * 14 + 11, none⟩ = some (.string p') ∧ W.cell? ⟨b, (j + 1) * 14 + 12, none⟩ = some (.string q') ∧ W.cell? ⟨b, (j + 1) * 14 + 13, none⟩ = some (.bool f')) ∧ Loc wr W []) (by kernel_rfl) ⟨⟨k0, k1, k2, k3, k4, k5, k6, k7, k8, k9, k10, k11, k12, k13⟩, hLd⟩ (fun hHeld => ?_)
          refine takeD (i := 0) (d := some 10) (v := ?_) rfl rfl (by kernel_rfl) (by kernel_rfl) (by kernel_rfl) (fun _ _ _ h => h) (Or.inl ⟨by rfl, ?_⟩) (by assumption) ?_
          rotate_left
          · intro wS hSw; (try dsimp only at hSw); go_simp; (try with_reducible rfl)
          try simp only [Act.put, List.setIfInBounds_toArray, List.set_cons_zero, List.set_cons_succ]
          refine takeD (i := 1) (d := some 11) (v := ?_) rfl rfl (by kernel_rfl) (by kernel_rfl) (by kernel_rfl) (fun _ _ _ h => h) (Or.inl ⟨by rfl, ?_⟩) (by assumption) ?_
          rotate_left
          · intro wS hSw; (try dsimp only at hSw); go_simp; (try with_reducible rfl)
          try simp only [Act.put, List.setIfInBounds_toArray, List.set_cons_zero, List.set_cons_succ]
          refine takeD (i := 2) (d := some 12) (v := ?_) rfl rfl (by kernel_rfl) (by kernel_rfl) (by kernel_rfl) (fun _ _ _ h => h) (Or.inl ⟨by rfl, ?_⟩) (by assumption) ?_
          rotate_left
          · intro wS hSw; (try dsimp only at hSw); go_simp; (try with_reducible rfl)
          try simp only [Act.put, List.setIfInBounds_toArray, List.set_cons_zero, List.set_cons_succ]
          refine takeD (i := 3) (d := some 13) (v := ?_) rfl rfl (by kernel_rfl) (by kernel_rfl) (by kernel_rfl) (fun _ _ _ h => h) (Or.inl ⟨by rfl, ?_⟩) (by assumption) ?_
          rotate_left
          · intro wS hSw; (try dsimp only at hSw); go_simp; (try with_reducible rfl)
          try simp only [Act.put, List.setIfInBounds_toArray, List.set_cons_zero, List.set_cons_succ]
          refine wpAnyH_ready (rs := [4]) (by kernel_rfl) (by simp) ?_
          refine consD (d := some 14) rfl rfl (fun K hK => ?_) AllReadyH.nil
          go_simp
          (go_at_call 81; (with_reducible refine (cs _).mono ?_); rintro e w1 ⟨rfl, hb1⟩)
          have hL := loc_call hHeld.2 hb1
          refine hK.out _ _ ⟨keep14 hb1 (Nat.lt_of_lt_of_le hbw hHeld.2.1.size) hHeld.1, hL⟩ (fun hHeld => ?_)
          clear hK K
          try simp only [Act.put, List.setIfInBounds_toArray, List.set_cons_zero, List.set_cons_succ]
          refine takeD (i := 5) (d := some 15) (v := ?_) rfl rfl (by kernel_rfl) (by kernel_rfl) (by kernel_rfl) (fun _ _ _ h => h) (Or.inl ⟨by rfl, ?_⟩) (by assumption) ?_
          rotate_left
          · intro wS hSw; (try dsimp only at hSw); go_simp; (try with_reducible rfl)
          try simp only [Act.put, List.setIfInBounds_toArray, List.set_cons_zero, List.set_cons_succ]
          refine takeD (i := 6) (d := some 16) (v := ?_) rfl rfl (by kernel_rfl) (by kernel_rfl) (by kernel_rfl) (fun _ _ _ h => h) (Or.inl ⟨by rfl, ?_⟩) (by assumption) ?_
          rotate_left
          · intro wS hSw; (try dsimp only at hSw); go_simp; (try with_reducible rfl)
          try simp only [Act.put, List.setIfInBounds_toArray, List.set_cons_zero, List.set_cons_succ]
          refine takeD (i := 7) (d := some 17) (v := undef) rfl rfl (by kernel_rfl) (by kernel_rfl) (by kernel_rfl) (fun _ _ _ h => h) (Or.inr ⟨by rfl, rfl⟩) (by assumption) ?_
          try simp only [Act.put, List.setIfInBounds_toArray, List.set_cons_zero, List.set_cons_succ]
          refine takeD (i := 8) (d := some 18) (v := undef) rfl rfl (by kernel_rfl) (by kernel_rfl) (by kernel_rfl) (fun _ _ _ h => h) (Or.inr ⟨by rfl, rfl⟩) (by assumption) ?_
          try simp only [Act.put, List.setIfInBounds_toArray, List.set_cons_zero, List.set_cons_succ]
          refine takeD (i := 9) (d := some 19) (v := undef) rfl rfl (by kernel_rfl) (by kernel_rfl) (by kernel_rfl) (fun _ _ _ h => h) (Or.inr ⟨by rfl, rfl⟩) (by assumption) ?_
          try simp only [Act.put, List.setIfInBounds_toArray, List.set_cons_zero, List.set_cons_succ]
          refine takeD (i := 10) (d := some 20) (v := undef) rfl rfl (by kernel_rfl) (by kernel_rfl) (by kernel_rfl) (fun _ _ _ h => h) (Or.inr ⟨by rfl, rfl⟩) (by assumption) ?_
          try simp only [Act.put, List.setIfInBounds_toArray, List.set_cons_zero, List.set_cons_succ]
          refine takeD (i := 11) (d := some 21) (v := undef) rfl rfl (by kernel_rfl) (by kernel_rfl) (by kernel_rfl) (fun _ _ _ h => h) (Or.inr ⟨by rfl, rfl⟩) (by assumption) ?_
          try simp only [Act.put, List.setIfInBounds_toArray, List.set_cons_zero, List.set_cons_succ]
          refine takeD (i := 12) (d := some 22) (v := undef) rfl rfl (by kernel_rfl) (by kernel_rfl) (by kernel_rfl) (fun _ _ _ h => h) (Or.inr ⟨by rfl, rfl⟩) (by assumption) ?_
          try simp only [Act.put, List.setIfInBounds_toArray, List.set_cons_zero, List.set_cons_succ]
          refine takeD (i := 13) (d := some 23) (v := undef) rfl rfl (by kernel_rfl) (by kernel_rfl) (by kernel_rfl) (fun _ _ _ h => h) (Or.inr ⟨by rfl, rfl⟩) (by assumption) ?_
          try simp only [Act.put, List.setIfInBounds_toArray, List.set_cons_zero, List.set_cons_succ]
          refine takeD (i := 14) (d := some 24) (v := undef) rfl rfl (by kernel_rfl) (by kernel_rfl) (by kernel_rfl) (fun _ _ _ h => h) (Or.inr ⟨by rfl, rfl⟩) (by assumption) ?_
          try simp only [Act.put, List.setIfInBounds_toArray, List.set_cons_zero, List.set_cons_succ]
          refine takeD (i := 15) (d := some 25) (v := undef) rfl rfl (by kernel_rfl) (by kernel_rfl) (by kernel_rfl) (fun _ _ _ h => h) (Or.inr ⟨by rfl, rfl⟩) (by assumption) ?_
          try simp only [Act.put, List.setIfInBounds_toArray, List.set_cons_zero, List.set_cons_succ]
          refine takeD (i := 16) (d := some 26) (v := undef) rfl rfl (by kernel_rfl) (by kernel_rfl) (by kernel_rfl) (fun _ _ _ h => h) (Or.inr ⟨by rfl, rfl⟩) (by assumption) ?_
          try simp only [Act.put, List.setIfInBounds_toArray, List.set_cons_zero, List.set_cons_succ]
          refine takeD (i := 17) (d := some 27) (v := undef) rfl rfl (by kernel_rfl) (by kernel_rfl) (by kernel_rfl) (fun _ _ _ h => h) (Or.inr ⟨by rfl, rfl⟩) (by assumption) ?_
          try simp only [Act.put, List.setIfInBounds_toArray, List.set_cons_zero, List.set_cons_succ]
          refine takeD (i := 18) (d := some 28) (v := undef) rfl rfl (by kernel_rfl) (by kernel_rfl) (by kernel_rfl) (fun _ _ _ h => h) (Or.inr ⟨by rfl, rfl⟩) (by assumption) ?_
          try simp only [Act.put, List.setIfInBounds_toArray, List.set_cons_zero, List.set_cons_succ]
          refine takeD (i := 19) (d := some 29) (v := undef) rfl rfl (by kernel_rfl) (by kernel_rfl) (by kernel_rfl) (fun _ _ _ h => h) (Or.inr ⟨by rfl, rfl⟩) (by assumption) ?_
          try simp only [Act.put, List.setIfInBounds_toArray, List.set_cons_zero, List.set_cons_succ]
          refine takeD (i := 20) (d := some 30) (v := undef) rfl rfl (by kernel_rfl) (by kernel_rfl) (by kernel_rfl) (fun _ _ _ h => h) (Or.inr ⟨by rfl, rfl⟩) (by assumption) ?_
          try simp only [Act.put, List.setIfInBounds_toArray, List.set_cons_zero, List.set_cons_succ]
          refine takeD (i := 21) (d := some 31) (v := undef) rfl rfl (by kernel_rfl) (by kernel_rfl) (by kernel_rfl) (fun _ _ _ h => h) (Or.inr ⟨by rfl, rfl⟩) (by assumption) ?_
          try simp only [Act.put, List.setIfInBounds_toArray, List.set_cons_zero, List.set_cons_succ]
          refine takeD (i := 22) (d := some 32) (v := undef) rfl rfl (by kernel_rfl) (by kernel_rfl) (by kernel_rfl) (fun _ _ _ h => h) (Or.inr ⟨by rfl, rfl⟩) (by assumption) ?_
          try simp only [Act.put, List.setIfInBounds_toArray, List.set_cons_zero, List.set_cons_succ]
          refine takeD (i := 23) (d := some 33) (v := undef) rfl rfl (by kernel_rfl) (by kernel_rfl) (by kernel_rfl) (fun _ _ _ h => h) (Or.inr ⟨by rfl, rfl⟩) (by assumption) ?_
          try simp only [Act.put, List.setIfInBounds_toArray, List.set_cons_zero, List.set_cons_succ]
          refine takeD (i := 24) (d := some 34) (v := ?_) rfl rfl (by kernel_rfl) (by kernel_rfl) (by kernel_rfl) (fun _ _ _ h => h) (Or.inl ⟨by rfl, ?_⟩) (by assumption) ?_
          rotate_left
          · intro wS hSw; (try dsimp only at hSw); go_simp; (try with_reducible rfl)
          try simp only [Act.put, List.setIfInBounds_toArray, List.set_cons_zero, List.set_cons_succ]
          refine wpAnyH_done (by kernel_rfl) ?_ _
          go_wp2_with fail
          go_ret
          exact ⟨ret_bool HE.out.symm, hbel.trans (hL.1.mono hsz)⟩
        · by_cases hk : compCut (cutS g1' g2' g3' g4' y' z' g') (cutS e a x c p q f) < 0
          · have HS := Lib.hid (okR_succ HO.out hs hm (fun r _ hr => by rw [Nat.add_sub_cancel, hs2] at hr; cases hr; exact hk))
            rw [hm] at cs
            clear hm hs hs2
            generalize compCut (cutS g1' g2' g3' g4' y' z' g') (cutS e a x c p q f) = d at *
            have i3 : ¬ 0 ≤ d := by omega
            go_wp2_with fail
            have hLd := loc_drew (loc_start wr)
            have iw : IntKind.i64.wrap (j : Int) = (j : Int) := IntWalk.i64_in _ (by omega)
            refine wp_region_held_drew (S := fun W => (W.cell? ⟨b, (j + 1) * 14, none⟩ = some (.int .i64 e) ∧ W.cell? ⟨b, (j + 1) * 14 + 1, none⟩ = some (.int .i64 a) ∧ W.cell? ⟨b, (j + 1) * 14 + 2, none⟩ = some (.int .i64 x) ∧ W.cell? ⟨b, (j + 1) * 14 + 3, none⟩ = some (.int .i64 c) ∧ W.cell? ⟨b, (j + 1) * 14 + 4, none⟩ = some (.string p) ∧ W.cell? ⟨b, (j + 1) * 14 + 5, none⟩ = some (.string q) ∧ W.cell? ⟨b, (j + 1) * 14 + 6, none⟩ = some (.bool f) ∧ W.cell? ⟨b, (j + 1) * 14 + 7, none⟩ = some (.int .i64 e') ∧ W.cell? ⟨b, (j + 1) * 14 + 8, none⟩ = some (.int .i64 a') ∧ W.cell? ⟨b, (j + 1) * 14 + 9, none⟩ = some (.int .i64 x') ∧ W.cell? ⟨b, (j + 1) * 14 + 10, none⟩ = some (.int .i64 c') ∧ W.cell? ⟨b, (j + 1) * 14 + 11, none⟩ = some (.string p') ∧ W.cell? ⟨b, (j + 1) * 14 + 12, none⟩ = some (.string q') ∧ W.cell? ⟨b, (j + 1) * 14 + 13, none⟩ = some (.bool f')) ∧ (W.cell? ⟨b, j * 14 + 7, none⟩ = some (.int .i64 g1') ∧ W.cell? ⟨b, j * 14 + 8, none⟩ = some (.int .i64 g2') ∧ W.cell? ⟨b, j * 14 + 9, none⟩ = some (.int .i64 g3') ∧ W.cell? ⟨b, j * 14 + 10, none⟩ = some (.int .i64 g4') ∧ W.cell? ⟨b, j * 14 + 11, none⟩ = some (.string y') ∧ W.cell? ⟨b, j * 14 + 12, none⟩ = some (.string z') ∧ W.cell? ⟨b, j * 14 + 13, none⟩ = some (.bool g')) ∧ Loc wr W []) (by kernel_rfl) ⟨⟨k0, k1, k2, k3, k4, k5, k6, k7, k8, k9, k10, k11, k12, k13⟩, ⟨j7, j8, j9, j10, j11, j12, j13⟩, hLd⟩ (fun hHeld => ?_)
            refine takeD (i := 0) (d := some 10) (v := ?_) rfl rfl (by kernel_rfl) (by kernel_rfl) (by kernel_rfl) (fun _ _ _ h => h) (Or.inl ⟨by rfl, ?_⟩) (by assumption) ?_
            rotate_left
            · intro wS hSw; (try dsimp only at hSw); go_simp; (try with_reducible rfl)
            try simp only [Act.put, List.setIfInBounds_toArray, List.set_cons_zero, List.set_cons_succ]
            refine takeD (i := 1) (d := some 11) (v := ?_) rfl rfl (by kernel_rfl) (by kernel_rfl) (by kernel_rfl) (fun _ _ _ h => h) (Or.inl ⟨by rfl, ?_⟩) (by assumption) ?_
            rotate_left
            · intro wS hSw; (try dsimp only at hSw); go_simp; (try with_reducible rfl)
            try simp only [Act.put, List.setIfInBounds_toArray, List.set_cons_zero, List.set_cons_succ]
            refine takeD (i := 2) (d := some 12) (v := ?_) rfl rfl (by kernel_rfl) (by kernel_rfl) (by kernel_rfl) (fun _ _ _ h => h) (Or.inl ⟨by rfl, ?_⟩) (by assumption) ?_
            rotate_left
            · intro wS hSw; (try dsimp only at hSw); go_simp; (try with_reducible rfl)
            try simp only [Act.put, List.setIfInBounds_toArray, List.set_cons_zero, List.set_cons_succ]
            refine takeD (i := 3) (d := some 13) (v := ?_) rfl rfl (by kernel_rfl) (by kernel_rfl) (by kernel_rfl) (fun _ _ _ h => h) (Or.inl ⟨by rfl, ?_⟩) (by assumption) ?_
            rotate_left
            · intro wS hSw; (try dsimp only at hSw); go_simp; (try with_reducible rfl)
            try simp only [Act.put, List.setIfInBounds_toArray, List.set_cons_zero, List.set_cons_succ]
            refine wpAnyH_ready (rs := [4]) (by kernel_rfl) (by simp) ?_
            refine consD (d := some 14) rfl rfl (fun K hK => ?_) AllReadyH.nil
            go_simp
            (go_at_call 81; (with_reducible refine (cs _).mono ?_); rintro e w1 ⟨rfl, hb1⟩)
            have hL := loc_call hHeld.2.2 hb1
            refine hK.out _ _ ⟨keep14 hb1 (Nat.lt_of_lt_of_le hbw hHeld.2.2.1.size) hHeld.1, keep7 hb1 (Nat.lt_of_lt_of_le hbw hHeld.2.2.1.size) hHeld.2.1, hL⟩ (fun hHeld => ?_)
            clear hK K
            try simp only [Act.put, List.setIfInBounds_toArray, List.set_cons_zero, List.set_cons_succ]
            refine takeD (i := 5) (d := some 15) (v := ?_) rfl rfl (by kernel_rfl) (by kernel_rfl) (by kernel_rfl) (fun _ _ _ h => h) (Or.inl ⟨by rfl, ?_⟩) (by assumption) ?_
            rotate_left
            · intro wS hSw; (try dsimp only at hSw); go_simp; (try with_reducible rfl)
            try simp only [Act.put, List.setIfInBounds_toArray, List.set_cons_zero, List.set_cons_succ]
            refine takeD (i := 6) (d := some 16) (v := ?_) rfl rfl (by kernel_rfl) (by kernel_rfl) (by kernel_rfl) (fun _ _ _ h => h) (Or.inl ⟨by rfl, ?_⟩) (by assumption) ?_
            rotate_left
            · intro wS hSw; (try dsimp only at hSw); go_simp; (try with_reducible rfl)
            try simp only [Act.put, List.setIfInBounds_toArray, List.set_cons_zero, List.set_cons_succ]
            refine takeD (i := 7) (d := some 17) (v := ?_) rfl rfl (by kernel_rfl) (by kernel_rfl) (by kernel_rfl) (fun _ _ _ h => h) (Or.inl ⟨by rfl, ?_⟩) (by assumption) ?_
            rotate_left
            · intro wS hSw; (try dsimp only at hSw); go_simp; (try with_reducible rfl)
            try simp only [Act.put, List.setIfInBounds_toArray, List.set_cons_zero, List.set_cons_succ]
            refine takeD (i := 8) (d := some 18) (v := ?_) rfl rfl (by kernel_rfl) (by kernel_rfl) (by kernel_rfl) (fun _ _ _ h => h) (Or.inl ⟨by rfl, ?_⟩) (by assumption) ?_
            rotate_left
            · intro wS hSw; (try dsimp only at hSw); go_simp; (try with_reducible rfl)
            try simp only [Act.put, List.setIfInBounds_toArray, List.set_cons_zero, List.set_cons_succ]
            refine takeD (i := 9) (d := some 19) (v := ?_) rfl rfl (by kernel_rfl) (by kernel_rfl) (by kernel_rfl) (fun _ _ _ h => h) (Or.inl ⟨by rfl, ?_⟩) (by assumption) ?_
            rotate_left
            · intro wS hSw; (try dsimp only at hSw); go_simp; (try with_reducible rfl)
            try simp only [Act.put, List.setIfInBounds_toArray, List.set_cons_zero, List.set_cons_succ]
            refine takeD (i := 10) (d := some 20) (v := ?_) rfl rfl (by kernel_rfl) (by kernel_rfl) (by kernel_rfl) (fun _ _ _ h => h) (Or.inl ⟨by rfl, ?_⟩) (by assumption) ?_
            rotate_left
            · intro wS hSw; (try dsimp only at hSw); go_simp; (try with_reducible rfl)
            try simp only [Act.put, List.setIfInBounds_toArray, List.set_cons_zero, List.set_cons_succ]
            refine takeD (i := 11) (d := some 21) (v := ?_) rfl rfl (by kernel_rfl) (by kernel_rfl) (by kernel_rfl) (fun _ _ _ h => h) (Or.inl ⟨by rfl, ?_⟩) (by assumption) ?_
            rotate_left
            · intro wS hSw; (try dsimp only at hSw); go_simp; (try with_reducible rfl)
            try simp only [Act.put, List.setIfInBounds_toArray, List.set_cons_zero, List.set_cons_succ]
            refine takeD (i := 12) (d := some 22) (v := ?_) rfl rfl (by kernel_rfl) (by kernel_rfl) (by kernel_rfl) (fun _ _ _ h => h) (Or.inl ⟨by rfl, ?_⟩) (by assumption) ?_
            rotate_left
            · intro wS hSw; (try dsimp only at hSw); go_simp; (try with_reducible rfl)
            try simp only [Act.put, List.setIfInBounds_toArray, List.set_cons_zero, List.set_cons_succ]
            refine takeD (i := 13) (d := some 23) (v := ?_) rfl rfl (by kernel_rfl) (by kernel_rfl) (by kernel_rfl) (fun _ _ _ h => h) (Or.inl ⟨by rfl, ?_⟩) (by assumption) ?_
            rotate_left
            · intro wS hSw; (try dsimp only at hSw); go_simp; (try with_reducible rfl)
            try simp only [Act.put, List.setIfInBounds_toArray, List.set_cons_zero, List.set_cons_succ]
            refine takeD (i := 14) (d := some 24) (v := ?_) rfl rfl (by kernel_rfl) (by kernel_rfl) (by kernel_rfl) (fun _ _ _ h => h) (Or.inl ⟨by rfl, ?_⟩) (by assumption) ?_
            rotate_left
            · intro wS hSw; (try dsimp only at hSw); go_simp; (try with_reducible rfl)
            try simp only [Act.put, List.setIfInBounds_toArray, List.set_cons_zero, List.set_cons_succ]
            refine takeD (i := 15) (d := some 25) (v := ?_) rfl rfl (by kernel_rfl) (by kernel_rfl) (by kernel_rfl) (fun _ _ _ h => h) (Or.inl ⟨by rfl, ?_⟩) (by assumption) ?_
            rotate_left
            · intro wS hSw; (try dsimp only at hSw); go_simp; (try with_reducible rfl)
            try simp only [Act.put, List.setIfInBounds_toArray, List.set_cons_zero, List.set_cons_succ]
            refine takeD (i := 16) (d := some 26) (v := ?_) rfl rfl (by kernel_rfl) (by kernel_rfl) (by kernel_rfl) (fun _ _ _ h => h) (Or.inl ⟨by rfl, ?_⟩) (by assumption) ?_
            rotate_left
            · intro wS hSw; (try dsimp only at hSw); go_simp; (try with_reducible rfl)
            try simp only [Act.put, List.setIfInBounds_toArray, List.set_cons_zero, List.set_cons_succ]
            refine takeD (i := 17) (d := some 27) (v := ?_) rfl rfl (by kernel_rfl) (by kernel_rfl) (by kernel_rfl) (fun _ _ _ h => h) (Or.inl ⟨by rfl, ?_⟩) (by assumption) ?_
            rotate_left
            · intro wS hSw; (try dsimp only at hSw); go_simp; (try with_reducible rfl)
            try simp only [Act.put, List.setIfInBounds_toArray, List.set_cons_zero, List.set_cons_succ]
            refine takeD (i := 18) (d := some 28) (v := ?_) rfl rfl (by kernel_rfl) (by kernel_rfl) (by kernel_rfl) (fun _ _ _ h => h) (Or.inl ⟨by rfl, ?_⟩) (by assumption) ?_
            rotate_left
            · intro wS hSw; (try dsimp only at hSw); go_simp; (try with_reducible rfl)
            try simp only [Act.put, List.setIfInBounds_toArray, List.set_cons_zero, List.set_cons_succ]
            refine takeD (i := 19) (d := some 29) (v := ?_) rfl rfl (by kernel_rfl) (by kernel_rfl) (by kernel_rfl) (fun _ _ _ h => h) (Or.inl ⟨by rfl, ?_⟩) (by assumption) ?_
            rotate_left
            · intro wS hSw; (try dsimp only at hSw); go_simp; (try with_reducible rfl)
            try simp only [Act.put, List.setIfInBounds_toArray, List.set_cons_zero, List.set_cons_succ]
            refine takeD (i := 20) (d := some 30) (v := ?_) rfl rfl (by kernel_rfl) (by kernel_rfl) (by kernel_rfl) (fun _ _ _ h => h) (Or.inl ⟨by rfl, ?_⟩) (by assumption) ?_
            rotate_left
            · intro wS hSw; (try dsimp only at hSw); go_simp; (try with_reducible rfl)
            try simp only [Act.put, List.setIfInBounds_toArray, List.set_cons_zero, List.set_cons_succ]
            refine wpAnyH_ready (rs := [21]) (by kernel_rfl) (by simp) ?_
            refine consD (d := some 31) rfl rfl (fun K hK => ?_) AllReadyH.nil
            go_simp
            (go_at_call 62; (with_reducible refine (cc _).mono ?_); rintro e w2 ⟨rfl, hb2⟩)
            have hL := loc_call hHeld.2.2 hb2
            refine hK.out _ _ ⟨keep14 hb2 (Nat.lt_of_lt_of_le hbw hHeld.2.2.1.size) hHeld.1, keep7 hb2 (Nat.lt_of_lt_of_le hbw hHeld.2.2.1.size) hHeld.2.1, hL⟩ (fun hHeld => ?_)
            clear hK K
            try simp only [Act.put, List.setIfInBounds_toArray, List.set_cons_zero, List.set_cons_succ]
            refine takeD (i := 22) (d := some 32) (v := ?_) rfl rfl (by kernel_rfl) (by kernel_rfl) (by kernel_rfl) (fun _ _ _ h => h) (Or.inl ⟨by rfl, ?_⟩) (by assumption) ?_
            rotate_left
            · intro wS hSw; (try dsimp only at hSw); go_simp; (try with_reducible rfl)
            try simp only [Act.put, List.setIfInBounds_toArray, List.set_cons_zero, List.set_cons_succ]
            refine takeD (i := 23) (d := some 33) (v := ?_) rfl rfl (by kernel_rfl) (by kernel_rfl) (by kernel_rfl) (fun _ _ _ h => h) (Or.inl ⟨by rfl, ?_⟩) (by assumption) ?_
            rotate_left
            · intro wS hSw; (try dsimp only at hSw); go_simp; (try with_reducible rfl)
            try simp only [Act.put, List.setIfInBounds_toArray, List.set_cons_zero, List.set_cons_succ]
            refine takeD (i := 24) (d := some 34) (v := ?_) rfl rfl (by kernel_rfl) (by kernel_rfl) (by kernel_rfl) (fun _ _ _ h => h) (Or.inl ⟨by rfl, ?_⟩) (by assumption) ?_
            rotate_left
            · intro wS hSw; (try dsimp only at hSw); go_simp; (try with_reducible rfl)
            try simp only [Act.put, List.setIfInBounds_toArray, List.set_cons_zero, List.set_cons_succ]
            refine wpAnyH_done (by kernel_rfl) ?_ _
            clear iw
            go_wp2_with fail
            go_roundw
            case rel => exact ⟨j + 1 + 1, by omega, by go_num, HS.out, hbel.trans (hL.1.mono hsz)⟩
            case measure => simp [intOf]; omega
          · have HE : Hid (mayRow l = false) := mayRow_2 (k := j + 1) (by omega) (by rw [Nat.add_sub_cancel]; exact hs2) hs hk
            rw [hm] at cs
            clear hm hs hs2
            generalize compCut (cutS g1' g2' g3' g4' y' z' g') (cutS e a x c p q f) = d at *
            have i3 : 0 ≤ d := by omega
            go_wp2_with fail
            have hLd := loc_drew (loc_start wr)
            have iw : IntKind.i64.wrap (j : Int) = (j : Int) := IntWalk.i64_in _ (by omega)
            refine wp_region_held_drew (S := fun W => (W.cell? ⟨b, (j + 1) * 14, none⟩ = some (.int .i64 e) ∧ W.cell? ⟨b, (j + 1) * 14 + 1, none⟩ = some (.int .i64 a) ∧ W.cell? ⟨b, (j + 1) * 14 + 2, none⟩ = some (.int .i64 x) ∧ W.cell? ⟨b, (j + 1) * 14 + 3, none⟩ = some (.int .i64 c) ∧ W.cell? ⟨b, (j + 1) * 14 + 4, none⟩ = some (.string p) ∧ W.cell? ⟨b, (j + 1) * 14 + 5, none⟩ = some (.string q) ∧ W.cell? ⟨b, (j + 1) * 14 + 6, none⟩ = some (.bool f) ∧ W.cell? ⟨b, (j + 1) * 14 + 7, none⟩ = some (.int .i64 e') ∧ W.cell? ⟨b, (j + 1) * 14 + 8, none⟩ = some (.int .i64 a') ∧ W.cell? ⟨b, (j + 1) * 14 + 9, none⟩ = some (.int .i64 x') ∧ W.cell? ⟨b, (j + 1) * 14 + 10, none⟩ = some (.int .i64 c') ∧ W.cell? ⟨b, (j + 1) * 14 + 11, none⟩ = some (.string p') ∧ W.cell? ⟨b, (j + 1) * 14 + 12, none⟩ = some (.string q') ∧ W.cell? ⟨b, (j + 1) * 14 + 13, none⟩ = some (.bool f')) ∧ (W.cell? ⟨b, j * 14 + 7, none⟩ = some (.int .i64 g1') ∧ W.cell? ⟨b, j * 14 + 8, none⟩ = some (.int .i64 g2') ∧ W.cell? ⟨b, j * 14 + 9, none⟩ = some (.int .i64 g3') ∧ W.cell? ⟨b, j * 14 + 10, none⟩ = some (.int .i64 g4') ∧ W.cell? ⟨b, j * 14 + 11, none⟩ = some (.string y') ∧ W.cell? ⟨b, j * 14 + 12, none⟩ = some (.string z') ∧ W.cell? ⟨b, j * 14 + 13, none⟩ = some (.bool g')) ∧ Loc wr W []) (by kernel_rfl) ⟨⟨k0, k1, k2, k3, k4, k5, k6, k7, k8, k9, k10, k11, k12, k13⟩, ⟨j7, j8, j9, j10, j11, j12, j13⟩, hLd⟩ (fun hHeld => ?_)
            refine takeD (i := 0) (d := some 10) (v := ?_) rfl rfl (by kernel_rfl) (by kernel_rfl) (by kernel_rfl) (fun _ _ _ h => h) (Or.inl ⟨by rfl, ?_⟩) (by assumption) ?_
            rotate_left
            · intro wS hSw; (try dsimp only at hSw); go_simp; (try with_reducible rfl)
            try simp only [Act.put, List.setIfInBounds_toArray, List.set_cons_zero, List.set_cons_succ]
            refine takeD (i := 1) (d := some 11) (v := ?_) rfl rfl (by kernel_rfl) (by kernel_rfl) (by kernel_rfl) (fun _ _ _ h => h) (Or.inl ⟨by rfl, ?_⟩) (by assumption) ?_
            rotate_left
            · intro wS hSw; (try dsimp only at hSw); go_simp; (try with_reducible rfl)
            try simp only [Act.put, List.setIfInBounds_toArray, List.set_cons_zero, List.set_cons_succ]
            refine takeD (i := 2) (d := some 12) (v := ?_) rfl rfl (by kernel_rfl) (by kernel_rfl) (by kernel_rfl) (fun _ _ _ h => h) (Or.inl ⟨by rfl, ?_⟩) (by assumption) ?_
            rotate_left
            · intro wS hSw; (try dsimp only at hSw); go_simp; (try with_reducible rfl)
            try simp only [Act.put, List.setIfInBounds_toArray, List.set_cons_zero, List.set_cons_succ]
            refine takeD (i := 3) (d := some 13) (v := ?_) rfl rfl (by kernel_rfl) (by kernel_rfl) (by kernel_rfl) (fun _ _ _ h => h) (Or.inl ⟨by rfl, ?_⟩) (by assumption) ?_
            rotate_left
            · intro wS hSw; (try dsimp only at hSw); go_simp; (try with_reducible rfl)
            try simp only [Act.put, List.setIfInBounds_toArray, List.set_cons_zero, List.set_cons_succ]
            refine wpAnyH_ready (rs := [4]) (by kernel_rfl) (by simp) ?_
            refine consD (d := some 14) rfl rfl (fun K hK => ?_) AllReadyH.nil
            go_simp
            (go_at_call 81; (with_reducible refine (cs _).mono ?_); rintro e w1 ⟨rfl, hb1⟩)
            have hL := loc_call hHeld.2.2 hb1
            refine hK.out _ _ ⟨keep14 hb1 (Nat.lt_of_lt_of_le hbw hHeld.2.2.1.size) hHeld.1, keep7 hb1 (Nat.lt_of_lt_of_le hbw hHeld.2.2.1.size) hHeld.2.1, hL⟩ (fun hHeld => ?_)
            clear hK K
            try simp only [Act.put, List.setIfInBounds_toArray, List.set_cons_zero, List.set_cons_succ]
            refine takeD (i := 5) (d := some 15) (v := ?_) rfl rfl (by kernel_rfl) (by kernel_rfl) (by kernel_rfl) (fun _ _ _ h => h) (Or.inl ⟨by rfl, ?_⟩) (by assumption) ?_
            rotate_left
            · intro wS hSw; (try dsimp only at hSw); go_simp; (try with_reducible rfl)
            try simp only [Act.put, List.setIfInBounds_toArray, List.set_cons_zero, List.set_cons_succ]
            refine takeD (i := 6) (d := some 16) (v := ?_) rfl rfl (by kernel_rfl) (by kernel_rfl) (by kernel_rfl) (fun _ _ _ h => h) (Or.inl ⟨by rfl, ?_⟩) (by assumption) ?_
            rotate_left
            · intro wS hSw; (try dsimp only at hSw); go_simp; (try with_reducible rfl)
            try simp only [Act.put, List.setIfInBounds_toArray, List.set_cons_zero, List.set_cons_succ]
            refine takeD (i := 7) (d := some 17) (v := ?_) rfl rfl (by kernel_rfl) (by kernel_rfl) (by kernel_rfl) (fun _ _ _ h => h) (Or.inl ⟨by rfl, ?_⟩) (by assumption) ?_
            rotate_left
            · intro wS hSw; (try dsimp only at hSw); go_simp; (try with_reducible rfl)
            try simp only [Act.put, List.setIfInBounds_toArray, List.set_cons_zero, List.set_cons_succ]
            refine takeD (i := 8) (d := some 18) (v := ?_) rfl rfl (by kernel_rfl) (by kernel_rfl) (by kernel_rfl) (fun _ _ _ h => h) (Or.inl ⟨by rfl, ?_⟩) (by assumption) ?_
            rotate_left
            · intro wS hSw; (try dsimp only at hSw); go_simp; (try with_reducible rfl)
            try simp only [Act.put, List.setIfInBounds_toArray, List.set_cons_zero, List.set_cons_succ]
            refine takeD (i := 9) (d := some 19) (v := ?_) rfl rfl (by kernel_rfl) (by kernel_rfl) (by kernel_rfl) (fun _ _ _ h => h) (Or.inl ⟨by rfl, ?_⟩) (by assumption) ?_
            rotate_left
            · intro wS hSw; (try dsimp only at hSw); go_simp; (try with_reducible rfl)
            try simp only [Act.put, List.setIfInBounds_toArray, List.set_cons_zero, List.set_cons_succ]
            refine takeD (i := 10) (d := some 20) (v := ?_) rfl rfl (by kernel_rfl) (by kernel_rfl) (by kernel_rfl) (fun _ _ _ h => h) (Or.inl ⟨by rfl, ?_⟩) (by assumption) ?_
            rotate_left
            · intro wS hSw; (try dsimp only at hSw); go_simp; (try with_reducible rfl)
            try simp only [Act.put, List.setIfInBounds_toArray, List.set_cons_zero, List.set_cons_succ]
            refine takeD (i := 11) (d := some 21) (v := ?_) rfl rfl (by kernel_rfl) (by kernel_rfl) (by kernel_rfl) (fun _ _ _ h => h) (Or.inl ⟨by rfl, ?_⟩) (by assumption) ?_
            rotate_left
            · intro wS hSw; (try dsimp only at hSw); go_simp; (try with_reducible rfl)
            try simp only [Act.put, List.setIfInBounds_toArray, List.set_cons_zero, List.set_cons_succ]
            refine takeD (i := 12) (d := some 22) (v := ?_) rfl rfl (by kernel_rfl) (by kernel_rfl) (by kernel_rfl) (fun _ _ _ h => h) (Or.inl ⟨by rfl, ?_⟩) (by assumption) ?_
            rotate_left
            · intro wS hSw; (try dsimp only at hSw); go_simp; (try with_reducible rfl)
            try simp only [Act.put, List.setIfInBounds_toArray, List.set_cons_zero, List.set_cons_succ]
            refine takeD (i := 13) (d := some 23) (v := ?_) rfl rfl (by kernel_rfl) (by kernel_rfl) (by kernel_rfl) (fun _ _ _ h => h) (Or.inl ⟨by rfl, ?_⟩) (by assumption) ?_
            rotate_left
            · intro wS hSw; (try dsimp only at hSw); go_simp; (try with_reducible rfl)
            try simp only [Act.put, List.setIfInBounds_toArray, List.set_cons_zero, List.set_cons_succ]
            refine takeD (i := 14) (d := some 24) (v := ?_) rfl rfl (by kernel_rfl) (by kernel_rfl) (by kernel_rfl) (fun _ _ _ h => h) (Or.inl ⟨by rfl, ?_⟩) (by assumption) ?_
            rotate_left
            · intro wS hSw; (try dsimp only at hSw); go_simp; (try with_reducible rfl)
            try simp only [Act.put, List.setIfInBounds_toArray, List.set_cons_zero, List.set_cons_succ]
            refine takeD (i := 15) (d := some 25) (v := ?_) rfl rfl (by kernel_rfl) (by kernel_rfl) (by kernel_rfl) (fun _ _ _ h => h) (Or.inl ⟨by rfl, ?_⟩) (by assumption) ?_
            rotate_left
            · intro wS hSw; (try dsimp only at hSw); go_simp; (try with_reducible rfl)
            try simp only [Act.put, List.setIfInBounds_toArray, List.set_cons_zero, List.set_cons_succ]
            refine takeD (i := 16) (d := some 26) (v := ?_) rfl rfl (by kernel_rfl) (by kernel_rfl) (by kernel_rfl) (fun _ _ _ h => h) (Or.inl ⟨by rfl, ?_⟩) (by assumption) ?_
            rotate_left
            · intro wS hSw; (try dsimp only at hSw); go_simp; (try with_reducible rfl)
            try simp only [Act.put, List.setIfInBounds_toArray, List.set_cons_zero, List.set_cons_succ]
            refine takeD (i := 17) (d := some 27) (v := ?_) rfl rfl (by kernel_rfl) (by kernel_rfl) (by kernel_rfl) (fun _ _ _ h => h) (Or.inl ⟨by rfl, ?_⟩) (by assumption) ?_
            rotate_left
            · intro wS hSw; (try dsimp only at hSw); go_simp; (try with_reducible rfl)
            try simp only [Act.put, List.setIfInBounds_toArray, List.set_cons_zero, List.set_cons_succ]
            refine takeD (i := 18) (d := some 28) (v := ?_) rfl rfl (by kernel_rfl) (by kernel_rfl) (by kernel_rfl) (fun _ _ _ h => h) (Or.inl ⟨by rfl, ?_⟩) (by assumption) ?_
            rotate_left
            · intro wS hSw; (try dsimp only at hSw); go_simp; (try with_reducible rfl)
            try simp only [Act.put, List.setIfInBounds_toArray, List.set_cons_zero, List.set_cons_succ]
            refine takeD (i := 19) (d := some 29) (v := ?_) rfl rfl (by kernel_rfl) (by kernel_rfl) (by kernel_rfl) (fun _ _ _ h => h) (Or.inl ⟨by rfl, ?_⟩) (by assumption) ?_
            rotate_left
            · intro wS hSw; (try dsimp only at hSw); go_simp; (try with_reducible rfl)
            try simp only [Act.put, List.setIfInBounds_toArray, List.set_cons_zero, List.set_cons_succ]
            refine takeD (i := 20) (d := some 30) (v := ?_) rfl rfl (by kernel_rfl) (by kernel_rfl) (by kernel_rfl) (fun _ _ _ h => h) (Or.inl ⟨by rfl, ?_⟩) (by assumption) ?_
            rotate_left
            · intro wS hSw; (try dsimp only at hSw); go_simp; (try with_reducible rfl)
            try simp only [Act.put, List.setIfInBounds_toArray, List.set_cons_zero, List.set_cons_succ]
            refine wpAnyH_ready (rs := [21]) (by kernel_rfl) (by simp) ?_
            refine consD (d := some 31) rfl rfl (fun K hK => ?_) AllReadyH.nil
            go_simp
            (go_at_call 62; (with_reducible refine (cc _).mono ?_); rintro e w2 ⟨rfl, hb2⟩)
            have hL := loc_call hHeld.2.2 hb2
            refine hK.out _ _ ⟨keep14 hb2 (Nat.lt_of_lt_of_le hbw hHeld.2.2.1.size) hHeld.1, keep7 hb2 (Nat.lt_of_lt_of_le hbw hHeld.2.2.1.size) hHeld.2.1, hL⟩ (fun hHeld => ?_)
            clear hK K
            try simp only [Act.put, List.setIfInBounds_toArray, List.set_cons_zero, List.set_cons_succ]
            refine takeD (i := 22) (d := some 32) (v := ?_) rfl rfl (by kernel_rfl) (by kernel_rfl) (by kernel_rfl) (fun _ _ _ h => h) (Or.inl ⟨by rfl, ?_⟩) (by assumption) ?_
            rotate_left
            · intro wS hSw; (try dsimp only at hSw); go_simp; (try with_reducible rfl)
            try simp only [Act.put, List.setIfInBounds_toArray, List.set_cons_zero, List.set_cons_succ]
            refine takeD (i := 23) (d := some 33) (v := ?_) rfl rfl (by kernel_rfl) (by kernel_rfl) (by kernel_rfl) (fun _ _ _ h => h) (Or.inl ⟨by rfl, ?_⟩) (by assumption) ?_
            rotate_left
            · intro wS hSw; (try dsimp only at hSw); go_simp; (try with_reducible rfl)
            try simp only [Act.put, List.setIfInBounds_toArray, List.set_cons_zero, List.set_cons_succ]
            refine takeD (i := 24) (d := some 34) (v := ?_) rfl rfl (by kernel_rfl) (by kernel_rfl) (by kernel_rfl) (fun _ _ _ h => h) (Or.inl ⟨by rfl, ?_⟩) (by assumption) ?_
            rotate_left
            · intro wS hSw; (try dsimp only at hSw); go_simp; (try with_reducible rfl)
            try simp only [Act.put, List.setIfInBounds_toArray, List.set_cons_zero, List.set_cons_succ]
            refine wpAnyH_done (by kernel_rfl) ?_ _
            clear iw
            go_wp2_with fail
            go_ret
            exact ⟨ret_bool HE.out.symm, hbel.trans (hL.1.mono hsz)⟩
    · obtain rfl : k = n := by omega
      have HE : Hid (mayRow l = true) := mayRow_all l (by rw [HL.out]; exact HO.out)
      go_wp2_with fail
      go_ret
      exact ⟨ret_bool HE.out.symm, hbel⟩

end Go.Proofs.YthaagngoefieaaaDoor
