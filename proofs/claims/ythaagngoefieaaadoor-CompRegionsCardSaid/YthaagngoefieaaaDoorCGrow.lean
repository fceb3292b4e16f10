/-
  The walk of chapter 4's reference grow: a row of the caller's own with a stretch behind it. Conditions: at most 1000000 spans; Pre and Build of each cut have at most 1048576 bytes.
-/
import Derived.Test.YthaagngoefieaaaDoorCNot
import Derived.Test.YthaagngoefieaaaDoorG5
namespace Go.Proofs.YthaagngoefieaaaDoor
open Go.ChangeShapes Go.WideShapes Go.ChangeAt Go.RowKit
set_option linter.unusedVariables false
set_option linter.unusedSimpArgs false

theorem putX_app : ∀ (ys a b : List Value), b.length = ys.length → putX (a ++ b) a.length ys = a ++ ys
  | [], a, b, h => by
    have : b = [] := List.eq_nil_of_length_eq_zero (by simpa using h)
    subst this
    simp [putX]
  | y :: ys, a, [], h => by simp at h
  | y :: ys, a, b0 :: b, h => by
    have ih := putX_app ys (a ++ [y]) b (by simpa using h)
    rw [putX, show (a ++ b0 :: b).set a.length y = (a ++ [y]) ++ b by simp, show a.length + 1 = (a ++ [y]).length by simp, ih]
    simp
theorem own_puts {base : Nat} {e : TypeId} {size g n cap : Nat} (hb : base ≤ g) {w0 : World} : ∀ (ys : List Value) (W : World) (xs : List Value) (i : Nat), W.ownsRow base e size (.slice (some ⟨g, 0, none⟩) n cap) n xs →
    (putL W g i ys).ownsRow base e size (.slice (some ⟨g, 0, none⟩) n cap) n (putX xs i ys)
  | [], _, _, _, h => h
  | y :: ys, W, xs, i, h => own_puts hb (w0 := w0) ys _ _ _ (h.stored i y).1
theorem own_keep {w w' : World} {base n size : Nat} {e : TypeId} {v : Value} {xs : List Value} (h : w.ownsRow base e size v n xs) (hb : Below w.heap.size w w') : w'.ownsRow base e size v n xs := by
  refine ⟨h.1, ?_⟩
  rcases h.2 with hn | ⟨g, cap, cur, hv, hg, hh, rest⟩
  · exact .inl hn
  · exact .inr ⟨g, cap, cur, hv, hg, (hb.block g (Array.getElem?_eq_some_iff.1 hh).1).trans hh, rest⟩
theorem spans_one (l : List SpanC) : ∀ u ∈ l.flatMap spanCells, u.oneCell' = true := by
  intro u hu
  obtain ⟨s, _, hs⟩ := List.mem_flatMap.1 hu
  exact span_one s u hs
theorem flat_slen : ∀ l : List SpanC, (l.flatMap spanCells).length = l.length * 14
  | [] => rfl
  | s :: l => by rw [List.flatMap_cons, List.length_append, flat_slen l, span_len, List.length_cons]; omega
/-- What grow hands back: a row of the caller's own. -/
def RowG (base : Nat) (l : List SpanC) (w : World) (r : Ending) (w' : World) : Prop :=
  ∃ v, r = .returned v ∧ w'.ownsRow base 50 14 v l.length (l.flatMap spanCells) ∧ Below base w w'
theorem grow_nil (f t : CutC) : growC [] f t = [⟨f, t⟩] := rfl
theorem last_at {l : List SpanC} {K : Nat} {s : SpanC} (hn : l.length = K + 1) (hs : l[K]? = some s) : l.getLast? = some s ∧ l = l.dropLast ++ [s] ∧ l.dropLast.length = K := by
  have hne : l ≠ [] := by intro e; subst e; simp at hn
  obtain ⟨hlt, he⟩ := List.getElem?_eq_some_iff.1 hs
  have h1 : l.getLast hne = s := by rw [List.getLast_eq_getElem]; rw [← he]; congr 1; omega
  refine ⟨by rw [List.getLast?_eq_getElem?, hn]; exact hs, ?_, by simp; omega⟩
  have := (List.dropLast_concat_getLast hne).symm
  rwa [h1] at this
theorem grow_yes {l : List SpanC} {K : Nat} {s : SpanC} {f t : CutC} (hn : l.length = K + 1) (hs : l[K]? = some s) (hc : compCut s.t f = 0) : growC l f t = l.dropLast ++ [⟨s.f, t⟩] := by
  unfold growC
  rw [(last_at hn hs).1]
  dsimp only
  rw [if_pos hc]
theorem grow_no {l : List SpanC} {K : Nat} {s : SpanC} {f t : CutC} (hn : l.length = K + 1) (hs : l[K]? = some s) (hc : ¬ compCut s.t f = 0) : growC l f t = l ++ [⟨f, t⟩] := by
  unfold growC
  rw [(last_at hn hs).1]
  dsimp only
  rw [if_neg hc]
/-- The last span's second cut, written anew. -/
theorem grow_put {l : List SpanC} {K : Nat} {s : SpanC} {f t : CutC} (hn : l.length = K + 1) (hs : l[K]? = some s) (hc : compCut s.t f = 0) : putX (l.flatMap spanCells) (K * 14 + 7) (cutCells t) = (growC l f t).flatMap spanCells := by
  obtain ⟨_, h2, h3⟩ := last_at hn hs
  rw [grow_yes hn hs hc]
  have e : l.flatMap spanCells = (l.dropLast.flatMap spanCells ++ cutCells s.f) ++ cutCells s.t := by
    conv => lhs; rw [h2]
    rw [List.flatMap_append, List.append_assoc]
    simp [spanCells]
  have hl : (l.dropLast.flatMap spanCells ++ cutCells s.f).length = K * 14 + 7 := by
    rw [List.length_append, flat_slen, h3]
    rfl
  rw [e, ← hl, putX_app (cutCells t) _ (cutCells s.t) rfl, List.flatMap_append]
  simp [spanCells]

set_option maxRecDepth 8192 in
set_option maxHeartbeats 8000000 in
theorem rgrow_any (v : Value) (base n : Nat) (l : List SpanC) (fe fa fb fc : Int) (fp fq : ByteArray) (ff : Bool) (te ta tb tc : Int) (tp tq : ByteArray) (tf : Bool) (w : World) (h : w.ownsRow base 50 14 v n (l.flatMap spanCells)) (hok : ∀ s ∈ l, okS s) (hbase : base ≤ w.heap.size) (hn : n ≤ 1000000)
    (hfp : fp.size ≤ 1048576) (hfq : fq.size ≤ 1048576) :
    Calls Tryd.prog 60 #[v, cutW fe fa fb fc fp fq ff, cutW te ta tb tc tp tq tf] w (RowG base (growC l (cutS fe fa fb fc fp fq ff) (cutS te ta tb tc tp tq tf)) w) := by
  obtain ⟨j0, hj0, hy0, hy1, hy2⟩ := info_parts info_span
  have HI := Lib.hid hj0
  have HY := Lib.hid (And.intro hy0 (And.intro hy1 hy2))
  clear hj0 hy0 hy1 hy2
  have hl : l.length = n := by have h1 := h.1; rw [flat_slen] at h1; omega
  have HO := Lib.hid h
  have hL0 := loc_new (loc_new (loc_start w) w.heap.size [.int .i64 fe, .int .i64 fa, .int .i64 fb, .int .i64 fc, .string fp, .string fq, .bool ff] 48) (w.heap.size + 1) [.int .i64 te, .int .i64 ta, .int .i64 tb, .int .i64 tc, .string tp, .string tq, .bool tf] 48
  have ho0 : (((w.alloc (.cells #[.int .i64 fe, .int .i64 fa, .int .i64 fb, .int .i64 fc, .string fp, .string fq, .bool ff] 48)).alloc (.cells #[.int .i64 te, .int .i64 ta, .int .i64 tb, .int .i64 tc, .string tp, .string tq, .bool tf] 48))).ownsRow base 50 14 v n (l.flatMap spanCells) := (HO.out.alloc _).alloc _
  unfold cutW
  rcases Nat.eq_zero_or_pos n with hz | hz
  · have hl0 : l = [] := List.eq_nil_of_length_eq_zero (by omega)
    subst hl0
    subst hz
    have HE := Lib.hid (grow_nil (cutS fe fa fb fc fp fq ff) (cutS te ta tb tc tp tq tf))
    clear hl
    obtain ⟨A, cap, rfl, _, _, _⟩ := own_rds h
    clear h
    go_enter Tryd.func60, Tryd.ntmps60
    go_wp2_with fail
    generalize hW : World.alloc (World.alloc _ _) _ = W1
    rw [hW] at hL0 ho0
    have hLd := loc_drew hL0
    obtain ⟨u0, u1, u2, u3, u4, u5, u6⟩ := cells7L (loc_own hL0 0 rfl).1
    obtain ⟨t0, t1, t2, t3, t4, t5, t6⟩ := cells7L (loc_own hL0 1 rfl).1
    refine wp_region_held_drew (S := fun W => (W.cell? ⟨w.heap.size, 0, none⟩ = some (.int .i64 fe) ∧ W.cell? ⟨w.heap.size, 1, none⟩ = some (.int .i64 fa) ∧ W.cell? ⟨w.heap.size, 2, none⟩ = some (.int .i64 fb) ∧ W.cell? ⟨w.heap.size, 3, none⟩ = some (.int .i64 fc) ∧ W.cell? ⟨w.heap.size, 4, none⟩ = some (.string fp) ∧ W.cell? ⟨w.heap.size, 5, none⟩ = some (.string fq) ∧ W.cell? ⟨w.heap.size, 6, none⟩ = some (.bool ff)) ∧ (W.cell? ⟨w.heap.size + 1, 0, none⟩ = some (.int .i64 te) ∧ W.cell? ⟨w.heap.size + 1, 1, none⟩ = some (.int .i64 ta) ∧ W.cell? ⟨w.heap.size + 1, 2, none⟩ = some (.int .i64 tb) ∧ W.cell? ⟨w.heap.size + 1, 3, none⟩ = some (.int .i64 tc) ∧ W.cell? ⟨w.heap.size + 1, 4, none⟩ = some (.string tp) ∧ W.cell? ⟨w.heap.size + 1, 5, none⟩ = some (.string tq) ∧ W.cell? ⟨w.heap.size + 1, 6, none⟩ = some (.bool tf)) ∧ Loc w W [(w.heap.size, [.int .i64 fe, .int .i64 fa, .int .i64 fb, .int .i64 fc, .string fp, .string fq, .bool ff]), (w.heap.size + 1, [.int .i64 te, .int .i64 ta, .int .i64 tb, .int .i64 tc, .string tp, .string tq, .bool tf])]) (by kernel_rfl) ⟨⟨u0, u1, u2, u3, u4, u5, u6⟩, ⟨t0, t1, t2, t3, t4, t5, t6⟩, hLd⟩ (fun hHeld => ?_)
    refine takeD (i := 0) (d := some 11) (v := ?_) rfl rfl (by kernel_rfl) (by kernel_rfl) (by kernel_rfl) (fun _ _ _ h => h) (Or.inl ⟨by rfl, ?_⟩) (by assumption) ?_
    rotate_left
    · intro wS hSw; (try dsimp only at hSw); go_simp; (try with_reducible rfl)
    try simp only [Act.put, List.setIfInBounds_toArray, List.set_cons_zero, List.set_cons_succ]
    refine takeD (i := 1) (d := some 12) (v := ?_) rfl rfl (by kernel_rfl) (by kernel_rfl) (by kernel_rfl) (fun _ _ _ h => h) (Or.inl ⟨by rfl, ?_⟩) (by assumption) ?_
    rotate_left
    · intro wS hSw; (try dsimp only at hSw); go_simp; (try with_reducible rfl)
    try simp only [Act.put, List.setIfInBounds_toArray, List.set_cons_zero, List.set_cons_succ]
    refine takeD (i := 2) (d := some 13) (v := ?_) rfl rfl (by kernel_rfl) (by kernel_rfl) (by kernel_rfl) (fun _ _ _ h => h) (Or.inl ⟨by rfl, ?_⟩) (by assumption) ?_
    rotate_left
    · intro wS hSw; (try dsimp only at hSw); go_simp; (try with_reducible rfl)
    try simp only [Act.put, List.setIfInBounds_toArray, List.set_cons_zero, List.set_cons_succ]
    refine takeD (i := 3) (d := some 14) (v := undef) rfl rfl (by kernel_rfl) (by kernel_rfl) (by kernel_rfl) (fun _ _ _ h => h) (Or.inr ⟨by rfl, rfl⟩) (by assumption) ?_
    try simp only [Act.put, List.setIfInBounds_toArray, List.set_cons_zero, List.set_cons_succ]
    refine takeD (i := 4) (d := some 15) (v := undef) rfl rfl (by kernel_rfl) (by kernel_rfl) (by kernel_rfl) (fun _ _ _ h => h) (Or.inr ⟨by rfl, rfl⟩) (by assumption) ?_
    try simp only [Act.put, List.setIfInBounds_toArray, List.set_cons_zero, List.set_cons_succ]
    refine takeD (i := 5) (d := some 16) (v := undef) rfl rfl (by kernel_rfl) (by kernel_rfl) (by kernel_rfl) (fun _ _ _ h => h) (Or.inr ⟨by rfl, rfl⟩) (by assumption) ?_
    try simp only [Act.put, List.setIfInBounds_toArray, List.set_cons_zero, List.set_cons_succ]
    refine takeD (i := 6) (d := some 17) (v := undef) rfl rfl (by kernel_rfl) (by kernel_rfl) (by kernel_rfl) (fun _ _ _ h => h) (Or.inr ⟨by rfl, rfl⟩) (by assumption) ?_
    try simp only [Act.put, List.setIfInBounds_toArray, List.set_cons_zero, List.set_cons_succ]
    refine takeD (i := 7) (d := some 18) (v := undef) rfl rfl (by kernel_rfl) (by kernel_rfl) (by kernel_rfl) (fun _ _ _ h => h) (Or.inr ⟨by rfl, rfl⟩) (by assumption) ?_
    try simp only [Act.put, List.setIfInBounds_toArray, List.set_cons_zero, List.set_cons_succ]
    refine takeD (i := 8) (d := some 19) (v := undef) rfl rfl (by kernel_rfl) (by kernel_rfl) (by kernel_rfl) (fun _ _ _ h => h) (Or.inr ⟨by rfl, rfl⟩) (by assumption) ?_
    try simp only [Act.put, List.setIfInBounds_toArray, List.set_cons_zero, List.set_cons_succ]
    refine takeD (i := 9) (d := some 20) (v := undef) rfl rfl (by kernel_rfl) (by kernel_rfl) (by kernel_rfl) (fun _ _ _ h => h) (Or.inr ⟨by rfl, rfl⟩) (by assumption) ?_
    try simp only [Act.put, List.setIfInBounds_toArray, List.set_cons_zero, List.set_cons_succ]
    refine takeD (i := 10) (d := some 21) (v := undef) rfl rfl (by kernel_rfl) (by kernel_rfl) (by kernel_rfl) (fun _ _ _ h => h) (Or.inr ⟨by rfl, rfl⟩) (by assumption) ?_
    try simp only [Act.put, List.setIfInBounds_toArray, List.set_cons_zero, List.set_cons_succ]
    refine takeD (i := 11) (d := some 22) (v := ?_) rfl rfl (by kernel_rfl) (by kernel_rfl) (by kernel_rfl) (fun _ _ _ h => h) (Or.inl ⟨by rfl, ?_⟩) (by assumption) ?_
    rotate_left
    · intro wS hSw; (try dsimp only at hSw); go_simp; (try with_reducible rfl)
    try simp only [Act.put, List.setIfInBounds_toArray, List.set_cons_zero, List.set_cons_succ]
    refine wpAnyH_done (by kernel_rfl) ?_ _
    clear u0 u1 u2 u3 u4 u5 u6 t0 t1 t2 t3 t4 t5 t6
    have hLe := hHeld.2.2
    have ho1 : W1.drew.ownsRow base 50 14 (.slice A 0 cap) 0 (([] : List SpanC).flatMap spanCells) := ho0
    obtain ⟨u0, u1, u2, u3, u4, u5, u6⟩ := cells7L (loc_own hLe 0 rfl).1
    obtain ⟨t0, t1, t2, t3, t4, t5, t6⟩ := cells7L (loc_own hLe 1 rfl).1
    have hzz := (loc_below hLe).size
    go_wp2_with (first | (at_builtin; refine wpList_append_cells _ rfl (.tmp 29) (.tmp 33) 38 rfl base 50 j0 _ 14 144 Tryd.underlying38 HI.out HY.out.1 HY.out.2.1 HY.out.2.2 rfl (by omega) _ 0 (([] : List SpanC).flatMap spanCells) [.int .i64 fe, .int .i64 fa, .int .i64 fb, .int .i64 fc, .string fp, .string fq, .bool ff, .int .i64 te, .int .i64 ta, .int .i64 tb, .int .i64 tc, .string tp, .string tq, .bool tf] rfl ho1 (by rw [← cells_S]; exact span_one _) (by simp [Act.eval, go_sem]) (by simp [Act.eval, go_sem]) (by omega) (by omega) (by omega) ?_; intro v5 w5 hown5 hb5) | fail)
    go_wp2_with fail
    go_ret
    rw [HE.out]
    exact ⟨v5, rfl, by simpa [cells_S] using hown5, ((loc_below hLe).mono hbase).trans hb5⟩
  · obtain ⟨K, rfl⟩ : ∃ K, n = K + 1 := ⟨n - 1, by omega⟩
    obtain ⟨A, cap, rfl, hcap, _, hrd⟩ := own_rds h
    obtain ⟨g, e, a, x, c, p, q, f, e', a', x', c', p', q', f', rfl, hgB, hs, ⟨hp, hq, hp', hq'⟩, _⟩ := rds_at hrd hok (k := K) (by omega)
    have hgb : base ≤ g := (HO.out.lt g rfl).1
    have hfz := fun (W : World) (ho : W.ownsRow base 50 14 (.slice (some ⟨g, 0, none⟩) (K + 1) cap) (K + 1) (l.flatMap spanCells)) j => ho.frozenAt j
    have hcell : ∀ W : World, W.ownsRow base 50 14 (.slice (some ⟨g, 0, none⟩) (K + 1) cap) (K + 1) (l.flatMap spanCells) → (W.cell? ⟨g, K * 14, none⟩ = some (.int .i64 e) ∧ W.cell? ⟨g, K * 14 + 1, none⟩ = some (.int .i64 a) ∧ W.cell? ⟨g, K * 14 + 2, none⟩ = some (.int .i64 x) ∧ W.cell? ⟨g, K * 14 + 3, none⟩ = some (.int .i64 c) ∧ W.cell? ⟨g, K * 14 + 4, none⟩ = some (.string p) ∧ W.cell? ⟨g, K * 14 + 5, none⟩ = some (.string q) ∧ W.cell? ⟨g, K * 14 + 6, none⟩ = some (.bool f) ∧ W.cell? ⟨g, K * 14 + 7, none⟩ = some (.int .i64 e') ∧ W.cell? ⟨g, K * 14 + 8, none⟩ = some (.int .i64 a') ∧ W.cell? ⟨g, K * 14 + 9, none⟩ = some (.int .i64 x') ∧ W.cell? ⟨g, K * 14 + 10, none⟩ = some (.int .i64 c') ∧ W.cell? ⟨g, K * 14 + 11, none⟩ = some (.string p') ∧ W.cell? ⟨g, K * 14 + 12, none⟩ = some (.string q') ∧ W.cell? ⟨g, K * 14 + 13, none⟩ = some (.bool f')) := by
      intro W ho
      obtain ⟨A3, cap3, hv3, _, _, hr3⟩ := own_rds ho
      obtain ⟨rfl, rfl⟩ : some (⟨g, 0, none⟩ : Addr) = A3 ∧ cap = cap3 := by injection hv3 with h1 h2 h3; exact ⟨h1, h3⟩
      obtain ⟨g2, e2, a2, x2, c2, p2, q2, f2, e3, a3, x3, c3, p3, q3, f3, hg2, _, hs2, _, k2⟩ := rds_at hr3 hok (k := K) (by omega)
      obtain rfl : g = g2 := by injection hg2 with h1; injection h1
      have hss := Option.some.inj (hs.symm.trans hs2)
      simp only [SpanC.mk.injEq, cutS, verS, CutC.mk.injEq, Ver.mk.injEq] at hss
      obtain ⟨⟨r1, ⟨r2, r3, r4, r5, r6⟩, r7⟩, r8, ⟨r9, r10, r11, r12, r13⟩, r14⟩ := hss
      have w1 : p = p2 := by rw [← back p, ← back p2, r5]
      have w2 : q = q2 := by rw [← back q, ← back q2, r6]
      have w3 : p' = p3 := by rw [← back p', ← back p3, r12]
      have w4 : q' = q3 := by rw [← back q', ← back q3, r13]
      rw [r1, r2, r3, r4, r7, r8, r9, r10, r11, r14, w1, w2, w3, w4]
      exact k2
    have m1 := fun W => rcutcomp_any e' a' x' c' p' q' f' fe fa fb fc fp fq ff W hp' hq' hfp hfq
    unfold cutW at m1
    have HP := Lib.hid (And.intro (fun hc => grow_put (t := cutS te ta tb tc tp tq tf) (f := cutS fe fa fb fc fp fq ff) hl hs hc) (And.intro (fun hc => grow_yes (t := cutS te ta tb tc tp tq tf) (f := cutS fe fa fb fc fp fq ff) hl hs hc) (fun hc => grow_no (t := cutS te ta tb tc tp tq tf) (f := cutS fe fa fb fc fp fq ff) hl hs hc)))
    dsimp only at HP
    generalize compCut (cutS e' a' x' c' p' q' f') (cutS fe fa fb fc fp fq ff) = d at *
    have HL := Lib.hid (last_at hl hs)
    clear hs hrd h hl
    have hsub : IntKind.i64.wrap (((K + 1 : Nat) : Int) - 1) = (K : Int) := by rw [show ((K + 1 : Nat) : Int) - 1 = (K : Int) by omega]; exact IntWalk.i64_in _ (by omega)
    have hsub2 : IntKind.i64.wrap ((K : Int) + 1 - 1) = (K : Int) := by rw [show (K : Int) + 1 - 1 = (K : Int) by omega]; exact IntWalk.i64_in _ (by omega)
    have hsub3 : IntKind.i64.wrap (K : Int) = (K : Int) := IntWalk.i64_in _ (by omega)
    have i0 : (0 : Int) ≤ (K : Int) := by omega
    have i1 : (K : Int) < ((K + 1 : Nat) : Int) := by omega
    have i2 : (K : Int) < (K : Int) + 1 := by omega
    have i3 : K < K + 1 := by omega
    by_cases hd : d = 0
    · have HE := Lib.hid (HP.out.1 hd)
      have HG := Lib.hid (HP.out.2.1 hd)
      have g0 : (d == 0) = true := by simpa using hd
      clear HP hd
      go_enter Tryd.func60, Tryd.ntmps60
      go_wp2_with fail
      generalize hW : World.alloc (World.alloc _ _) _ = W1
      rw [hW] at hL0 ho0
      have hLd := loc_drew hL0
      obtain ⟨u0, u1, u2, u3, u4, u5, u6⟩ := cells7L (loc_own hL0 0 rfl).1
      obtain ⟨t0, t1, t2, t3, t4, t5, t6⟩ := cells7L (loc_own hL0 1 rfl).1
      have ho1 : W1.drew.ownsRow base 50 14 (.slice (some ⟨g, 0, none⟩) (K + 1) cap) (K + 1) (l.flatMap spanCells) := ho0
      refine wp_region_held_drew (S := fun W => (W.cell? ⟨g, K * 14, none⟩ = some (.int .i64 e) ∧ W.cell? ⟨g, K * 14 + 1, none⟩ = some (.int .i64 a) ∧ W.cell? ⟨g, K * 14 + 2, none⟩ = some (.int .i64 x) ∧ W.cell? ⟨g, K * 14 + 3, none⟩ = some (.int .i64 c) ∧ W.cell? ⟨g, K * 14 + 4, none⟩ = some (.string p) ∧ W.cell? ⟨g, K * 14 + 5, none⟩ = some (.string q) ∧ W.cell? ⟨g, K * 14 + 6, none⟩ = some (.bool f) ∧ W.cell? ⟨g, K * 14 + 7, none⟩ = some (.int .i64 e') ∧ W.cell? ⟨g, K * 14 + 8, none⟩ = some (.int .i64 a') ∧ W.cell? ⟨g, K * 14 + 9, none⟩ = some (.int .i64 x') ∧ W.cell? ⟨g, K * 14 + 10, none⟩ = some (.int .i64 c') ∧ W.cell? ⟨g, K * 14 + 11, none⟩ = some (.string p') ∧ W.cell? ⟨g, K * 14 + 12, none⟩ = some (.string q') ∧ W.cell? ⟨g, K * 14 + 13, none⟩ = some (.bool f')) ∧ (W.cell? ⟨w.heap.size, 0, none⟩ = some (.int .i64 fe) ∧ W.cell? ⟨w.heap.size, 1, none⟩ = some (.int .i64 fa) ∧ W.cell? ⟨w.heap.size, 2, none⟩ = some (.int .i64 fb) ∧ W.cell? ⟨w.heap.size, 3, none⟩ = some (.int .i64 fc) ∧ W.cell? ⟨w.heap.size, 4, none⟩ = some (.string fp) ∧ W.cell? ⟨w.heap.size, 5, none⟩ = some (.string fq) ∧ W.cell? ⟨w.heap.size, 6, none⟩ = some (.bool ff)) ∧ (W.cell? ⟨w.heap.size + 1, 0, none⟩ = some (.int .i64 te) ∧ W.cell? ⟨w.heap.size + 1, 1, none⟩ = some (.int .i64 ta) ∧ W.cell? ⟨w.heap.size + 1, 2, none⟩ = some (.int .i64 tb) ∧ W.cell? ⟨w.heap.size + 1, 3, none⟩ = some (.int .i64 tc) ∧ W.cell? ⟨w.heap.size + 1, 4, none⟩ = some (.string tp) ∧ W.cell? ⟨w.heap.size + 1, 5, none⟩ = some (.string tq) ∧ W.cell? ⟨w.heap.size + 1, 6, none⟩ = some (.bool tf)) ∧ Loc w W [(w.heap.size, [.int .i64 fe, .int .i64 fa, .int .i64 fb, .int .i64 fc, .string fp, .string fq, .bool ff]), (w.heap.size + 1, [.int .i64 te, .int .i64 ta, .int .i64 tb, .int .i64 tc, .string tp, .string tq, .bool tf])]) (by kernel_rfl) ⟨hcell _ ho1, ⟨u0, u1, u2, u3, u4, u5, u6⟩, ⟨t0, t1, t2, t3, t4, t5, t6⟩, hLd⟩ (fun hHeld => ?_)
      refine takeD (i := 0) (d := some 11) (v := ?_) rfl rfl (by kernel_rfl) (by kernel_rfl) (by kernel_rfl) (fun _ _ _ h => h) (Or.inl ⟨by rfl, ?_⟩) (by assumption) ?_
      rotate_left
      · intro wS hSw; (try dsimp only at hSw); go_simp; (try with_reducible rfl)
      try simp only [Act.put, List.setIfInBounds_toArray, List.set_cons_zero, List.set_cons_succ]
      refine takeD (i := 1) (d := some 12) (v := .bool true) rfl rfl (by kernel_rfl) (by kernel_rfl) (by kernel_rfl) (fun _ _ _ h => h) (Or.inl ⟨by rfl, ?_⟩) (by assumption) ?_
      · intro wS hSw; (try dsimp only at hSw); go_simp; (try simp [i0]); (try with_reducible rfl)
      try simp only [Act.put, List.setIfInBounds_toArray, List.set_cons_zero, List.set_cons_succ]
      refine takeD (i := 2) (d := some 13) (v := ?_) rfl rfl (by kernel_rfl) (by kernel_rfl) (by kernel_rfl) (fun _ _ _ h => h) (Or.inl ⟨by rfl, ?_⟩) (by assumption) ?_
      rotate_left
      · intro wS hSw; (try dsimp only at hSw); go_simp; (try with_reducible rfl)
      try simp only [Act.put, List.setIfInBounds_toArray, List.set_cons_zero, List.set_cons_succ]
      refine takeD (i := 3) (d := some 14) (v := ?_) rfl rfl (by kernel_rfl) (by kernel_rfl) (by kernel_rfl) (fun _ _ _ h => h) (Or.inl ⟨by rfl, ?_⟩) (by assumption) ?_
      rotate_left
      · intro wS hSw; (try dsimp only at hSw); go_simp; (try with_reducible rfl)
      try simp only [Act.put, List.setIfInBounds_toArray, List.set_cons_zero, List.set_cons_succ]
      refine takeD (i := 4) (d := some 15) (v := ?_) rfl rfl (by kernel_rfl) (by kernel_rfl) (by kernel_rfl) (fun _ _ _ h => h) (Or.inl ⟨by rfl, ?_⟩) (by assumption) ?_
      rotate_left
      · intro wS hSw; (try dsimp only at hSw); go_simp; (try with_reducible rfl)
      try simp only [Act.put, List.setIfInBounds_toArray, List.set_cons_zero, List.set_cons_succ]
      refine takeD (i := 5) (d := some 16) (v := ?_) rfl rfl (by kernel_rfl) (by kernel_rfl) (by kernel_rfl) (fun _ _ _ h => h) (Or.inl ⟨by rfl, ?_⟩) (by assumption) ?_
      rotate_left
      · intro wS hSw; (try dsimp only at hSw); go_simp; (try with_reducible rfl)
      try simp only [Act.put, List.setIfInBounds_toArray, List.set_cons_zero, List.set_cons_succ]
      refine takeD (i := 6) (d := some 17) (v := ?_) rfl rfl (by kernel_rfl) (by kernel_rfl) (by kernel_rfl) (fun _ _ _ h => h) (Or.inl ⟨by rfl, ?_⟩) (by assumption) ?_
      rotate_left
      · intro wS hSw; (try dsimp only at hSw); go_simp; (try with_reducible rfl)
      try simp only [Act.put, List.setIfInBounds_toArray, List.set_cons_zero, List.set_cons_succ]
      refine takeD (i := 7) (d := some 18) (v := ?_) rfl rfl (by kernel_rfl) (by kernel_rfl) (by kernel_rfl) (fun _ _ _ h => h) (Or.inl ⟨by rfl, ?_⟩) (by assumption) ?_
      rotate_left
      · intro wS hSw; (try dsimp only at hSw); go_simp; (try with_reducible rfl)
      try simp only [Act.put, List.setIfInBounds_toArray, List.set_cons_zero, List.set_cons_succ]
      refine takeD (i := 8) (d := some 19) (v := ?_) rfl rfl (by kernel_rfl) (by kernel_rfl) (by kernel_rfl) (fun _ _ _ h => h) (Or.inl ⟨by rfl, ?_⟩) (by assumption) ?_
      rotate_left
      · intro wS hSw; (try dsimp only at hSw); go_simp; (try with_reducible rfl)
      try simp only [Act.put, List.setIfInBounds_toArray, List.set_cons_zero, List.set_cons_succ]
      refine wpAnyH_ready (rs := [9]) (by kernel_rfl) (by simp) ?_
      refine consD (d := some 20) rfl rfl (fun K hK => ?_) AllReadyH.nil
      go_simp
      (go_at_call 62; (with_reducible refine (m1 _).mono ?_); rintro r w4 ⟨rfl, hb4⟩)
      have hM := loc_call hLd hb4
      have ho4 := own_keep ho1 hb4
      refine hK.out _ _ ⟨hcell _ ho4, cells7L (loc_own hM 0 rfl).1, cells7L (loc_own hM 1 rfl).1, hM⟩ (fun hHeld => ?_)
      clear hK K
      try simp only [Act.put, List.setIfInBounds_toArray, List.set_cons_zero, List.set_cons_succ]
      refine takeD (i := 10) (d := some 21) (v := ?_) rfl rfl (by kernel_rfl) (by kernel_rfl) (by kernel_rfl) (fun _ _ _ h => h) (Or.inl ⟨by rfl, ?_⟩) (by assumption) ?_
      rotate_left
      · intro wS hSw; (try dsimp only at hSw); go_simp; (try with_reducible rfl)
      try simp only [Act.put, List.setIfInBounds_toArray, List.set_cons_zero, List.set_cons_succ]
      refine takeD (i := 11) (d := some 22) (v := ?_) rfl rfl (by kernel_rfl) (by kernel_rfl) (by kernel_rfl) (fun _ _ _ h => h) (Or.inl ⟨by rfl, ?_⟩) (by assumption) ?_
      rotate_left
      · intro wS hSw; (try dsimp only at hSw); go_simp; (try with_reducible rfl)
      try simp only [Act.put, List.setIfInBounds_toArray, List.set_cons_zero, List.set_cons_succ]
      refine wpAnyH_done (by kernel_rfl) ?_ _
      clear u0 u1 u2 u3 u4 u5 u6 t0 t1 t2 t3 t4 t5 t6
      obtain ⟨k0, k1, k2, k3, k4, k5, k6, k7, k8, k9, k10, k11, k12, k13⟩ := hcell _ ho4
      have hf4 := hfz _ ho4
      obtain ⟨t0, t1, t2, t3, t4, t5, t6⟩ := cells7L (loc_own hM 1 rfl).1
      clear hcell hfz
      go_wp2_with fail
      go_ret
      have ho5 := own_puts hgb (w0 := w) [.int .i64 te, .int .i64 ta, .int .i64 tb, .int .i64 tc, .string tp, .string tq, .bool tf] w4 _ (K * 14 + 7) ho4
      have hb5 := below_put (B := base) hgb [.int .i64 te, .int .i64 ta, .int .i64 tb, .int .i64 tc, .string tp, .string tq, .bool tf] w4 (K * 14 + 7) (Below.refl base w4)
      have hln : (growC l (cutS fe fa fb fc fp fq ff) (cutS te ta tb tc tp tq tf)).length = K + 1 := by rw [HG.out, List.length_append, HL.out.2.2]; rfl
      refine ⟨_, rfl, ?_, ((loc_below hM).mono hbase).trans hb5⟩
      rw [hln, ← HE.out]
      exact ho5
    · have HE := Lib.hid (HP.out.2.2 hd)
      have g0 : (d == 0) = false := by simpa using hd
      clear HP hd
      go_enter Tryd.func60, Tryd.ntmps60
      go_wp2_with fail
      generalize hW : World.alloc (World.alloc _ _) _ = W1
      rw [hW] at hL0 ho0
      have hLd := loc_drew hL0
      obtain ⟨u0, u1, u2, u3, u4, u5, u6⟩ := cells7L (loc_own hL0 0 rfl).1
      obtain ⟨t0, t1, t2, t3, t4, t5, t6⟩ := cells7L (loc_own hL0 1 rfl).1
      have ho1 : W1.drew.ownsRow base 50 14 (.slice (some ⟨g, 0, none⟩) (K + 1) cap) (K + 1) (l.flatMap spanCells) := ho0
      refine wp_region_held_drew (S := fun W => (W.cell? ⟨g, K * 14, none⟩ = some (.int .i64 e) ∧ W.cell? ⟨g, K * 14 + 1, none⟩ = some (.int .i64 a) ∧ W.cell? ⟨g, K * 14 + 2, none⟩ = some (.int .i64 x) ∧ W.cell? ⟨g, K * 14 + 3, none⟩ = some (.int .i64 c) ∧ W.cell? ⟨g, K * 14 + 4, none⟩ = some (.string p) ∧ W.cell? ⟨g, K * 14 + 5, none⟩ = some (.string q) ∧ W.cell? ⟨g, K * 14 + 6, none⟩ = some (.bool f) ∧ W.cell? ⟨g, K * 14 + 7, none⟩ = some (.int .i64 e') ∧ W.cell? ⟨g, K * 14 + 8, none⟩ = some (.int .i64 a') ∧ W.cell? ⟨g, K * 14 + 9, none⟩ = some (.int .i64 x') ∧ W.cell? ⟨g, K * 14 + 10, none⟩ = some (.int .i64 c') ∧ W.cell? ⟨g, K * 14 + 11, none⟩ = some (.string p') ∧ W.cell? ⟨g, K * 14 + 12, none⟩ = some (.string q') ∧ W.cell? ⟨g, K * 14 + 13, none⟩ = some (.bool f')) ∧ (W.cell? ⟨w.heap.size, 0, none⟩ = some (.int .i64 fe) ∧ W.cell? ⟨w.heap.size, 1, none⟩ = some (.int .i64 fa) ∧ W.cell? ⟨w.heap.size, 2, none⟩ = some (.int .i64 fb) ∧ W.cell? ⟨w.heap.size, 3, none⟩ = some (.int .i64 fc) ∧ W.cell? ⟨w.heap.size, 4, none⟩ = some (.string fp) ∧ W.cell? ⟨w.heap.size, 5, none⟩ = some (.string fq) ∧ W.cell? ⟨w.heap.size, 6, none⟩ = some (.bool ff)) ∧ (W.cell? ⟨w.heap.size + 1, 0, none⟩ = some (.int .i64 te) ∧ W.cell? ⟨w.heap.size + 1, 1, none⟩ = some (.int .i64 ta) ∧ W.cell? ⟨w.heap.size + 1, 2, none⟩ = some (.int .i64 tb) ∧ W.cell? ⟨w.heap.size + 1, 3, none⟩ = some (.int .i64 tc) ∧ W.cell? ⟨w.heap.size + 1, 4, none⟩ = some (.string tp) ∧ W.cell? ⟨w.heap.size + 1, 5, none⟩ = some (.string tq) ∧ W.cell? ⟨w.heap.size + 1, 6, none⟩ = some (.bool tf)) ∧ Loc w W [(w.heap.size, [.int .i64 fe, .int .i64 fa, .int .i64 fb, .int .i64 fc, .string fp, .string fq, .bool ff]), (w.heap.size + 1, [.int .i64 te, .int .i64 ta, .int .i64 tb, .int .i64 tc, .string tp, .string tq, .bool tf])]) (by kernel_rfl) ⟨hcell _ ho1, ⟨u0, u1, u2, u3, u4, u5, u6⟩, ⟨t0, t1, t2, t3, t4, t5, t6⟩, hLd⟩ (fun hHeld => ?_)
      refine takeD (i := 0) (d := some 11) (v := ?_) rfl rfl (by kernel_rfl) (by kernel_rfl) (by kernel_rfl) (fun _ _ _ h => h) (Or.inl ⟨by rfl, ?_⟩) (by assumption) ?_
      rotate_left
      · intro wS hSw; (try dsimp only at hSw); go_simp; (try with_reducible rfl)
      try simp only [Act.put, List.setIfInBounds_toArray, List.set_cons_zero, List.set_cons_succ]
      refine takeD (i := 1) (d := some 12) (v := .bool true) rfl rfl (by kernel_rfl) (by kernel_rfl) (by kernel_rfl) (fun _ _ _ h => h) (Or.inl ⟨by rfl, ?_⟩) (by assumption) ?_
      · intro wS hSw; (try dsimp only at hSw); go_simp; (try simp [i0]); (try with_reducible rfl)
      try simp only [Act.put, List.setIfInBounds_toArray, List.set_cons_zero, List.set_cons_succ]
      refine takeD (i := 2) (d := some 13) (v := ?_) rfl rfl (by kernel_rfl) (by kernel_rfl) (by kernel_rfl) (fun _ _ _ h => h) (Or.inl ⟨by rfl, ?_⟩) (by assumption) ?_
      rotate_left
      · intro wS hSw; (try dsimp only at hSw); go_simp; (try with_reducible rfl)
      try simp only [Act.put, List.setIfInBounds_toArray, List.set_cons_zero, List.set_cons_succ]
      refine takeD (i := 3) (d := some 14) (v := ?_) rfl rfl (by kernel_rfl) (by kernel_rfl) (by kernel_rfl) (fun _ _ _ h => h) (Or.inl ⟨by rfl, ?_⟩) (by assumption) ?_
      rotate_left
      · intro wS hSw; (try dsimp only at hSw); go_simp; (try with_reducible rfl)
      try simp only [Act.put, List.setIfInBounds_toArray, List.set_cons_zero, List.set_cons_succ]
      refine takeD (i := 4) (d := some 15) (v := ?_) rfl rfl (by kernel_rfl) (by kernel_rfl) (by kernel_rfl) (fun _ _ _ h => h) (Or.inl ⟨by rfl, ?_⟩) (by assumption) ?_
      rotate_left
      · intro wS hSw; (try dsimp only at hSw); go_simp; (try with_reducible rfl)
      try simp only [Act.put, List.setIfInBounds_toArray, List.set_cons_zero, List.set_cons_succ]
      refine takeD (i := 5) (d := some 16) (v := ?_) rfl rfl (by kernel_rfl) (by kernel_rfl) (by kernel_rfl) (fun _ _ _ h => h) (Or.inl ⟨by rfl, ?_⟩) (by assumption) ?_
      rotate_left
      · intro wS hSw; (try dsimp only at hSw); go_simp; (try with_reducible rfl)
      try simp only [Act.put, List.setIfInBounds_toArray, List.set_cons_zero, List.set_cons_succ]
      refine takeD (i := 6) (d := some 17) (v := ?_) rfl rfl (by kernel_rfl) (by kernel_rfl) (by kernel_rfl) (fun _ _ _ h => h) (Or.inl ⟨by rfl, ?_⟩) (by assumption) ?_
      rotate_left
      · intro wS hSw; (try dsimp only at hSw); go_simp; (try with_reducible rfl)
      try simp only [Act.put, List.setIfInBounds_toArray, List.set_cons_zero, List.set_cons_succ]
      refine takeD (i := 7) (d := some 18) (v := ?_) rfl rfl (by kernel_rfl) (by kernel_rfl) (by kernel_rfl) (fun _ _ _ h => h) (Or.inl ⟨by rfl, ?_⟩) (by assumption) ?_
      rotate_left
      · intro wS hSw; (try dsimp only at hSw); go_simp; (try with_reducible rfl)
      try simp only [Act.put, List.setIfInBounds_toArray, List.set_cons_zero, List.set_cons_succ]
      refine takeD (i := 8) (d := some 19) (v := ?_) rfl rfl (by kernel_rfl) (by kernel_rfl) (by kernel_rfl) (fun _ _ _ h => h) (Or.inl ⟨by rfl, ?_⟩) (by assumption) ?_
      rotate_left
      · intro wS hSw; (try dsimp only at hSw); go_simp; (try with_reducible rfl)
      try simp only [Act.put, List.setIfInBounds_toArray, List.set_cons_zero, List.set_cons_succ]
      refine wpAnyH_ready (rs := [9]) (by kernel_rfl) (by simp) ?_
      refine consD (d := some 20) rfl rfl (fun K hK => ?_) AllReadyH.nil
      go_simp
      (go_at_call 62; (with_reducible refine (m1 _).mono ?_); rintro r w4 ⟨rfl, hb4⟩)
      have hM := loc_call hLd hb4
      have ho4 := own_keep ho1 hb4
      refine hK.out _ _ ⟨hcell _ ho4, cells7L (loc_own hM 0 rfl).1, cells7L (loc_own hM 1 rfl).1, hM⟩ (fun hHeld => ?_)
      clear hK K
      try simp only [Act.put, List.setIfInBounds_toArray, List.set_cons_zero, List.set_cons_succ]
      refine takeD (i := 10) (d := some 21) (v := ?_) rfl rfl (by kernel_rfl) (by kernel_rfl) (by kernel_rfl) (fun _ _ _ h => h) (Or.inl ⟨by rfl, ?_⟩) (by assumption) ?_
      rotate_left
      · intro wS hSw; (try dsimp only at hSw); go_simp; (try with_reducible rfl)
      try simp only [Act.put, List.setIfInBounds_toArray, List.set_cons_zero, List.set_cons_succ]
      refine takeD (i := 11) (d := some 22) (v := ?_) rfl rfl (by kernel_rfl) (by kernel_rfl) (by kernel_rfl) (fun _ _ _ h => h) (Or.inl ⟨by rfl, ?_⟩) (by assumption) ?_
      rotate_left
      · intro wS hSw; (try dsimp only at hSw); go_simp; (try with_reducible rfl)
      try simp only [Act.put, List.setIfInBounds_toArray, List.set_cons_zero, List.set_cons_succ]
      refine wpAnyH_done (by kernel_rfl) ?_ _
      clear u0 u1 u2 u3 u4 u5 u6 t0 t1 t2 t3 t4 t5 t6
      clear hcell hfz
      obtain ⟨u0, u1, u2, u3, u4, u5, u6⟩ := cells7L (loc_own hM 0 rfl).1
      obtain ⟨t0, t1, t2, t3, t4, t5, t6⟩ := cells7L (loc_own hM 1 rfl).1
      have hzz := (loc_below hM).size
      go_wp2_with (first | (at_builtin; refine wpList_append_cells w4 rfl (.tmp 29) (.tmp 33) 38 rfl base 50 j0 _ 14 144 Tryd.underlying38 HI.out HY.out.1 HY.out.2.1 HY.out.2.2 rfl (by omega) _ (K + 1) (l.flatMap spanCells) [.int .i64 fe, .int .i64 fa, .int .i64 fb, .int .i64 fc, .string fp, .string fq, .bool ff, .int .i64 te, .int .i64 ta, .int .i64 tb, .int .i64 tc, .string tp, .string tq, .bool tf] rfl ho4 (by rw [← cells_S]; exact span_one _) (by simp [Act.eval, go_sem]) (by simp [Act.eval, go_sem]) (by omega) (by omega) (by omega) ?_; intro v5 w5 hown5 hb5) | fail)
      go_wp2_with fail
      go_ret
      rw [HE.out]
      refine ⟨v5, rfl, ?_, ((loc_below hM).mono hbase).trans hb5⟩
      have hlk : l.length = K + 1 := by have h1 := ho4.1; rw [flat_slen] at h1; omega
      rw [List.length_append, hlk, List.flatMap_append]
      simpa [cells_S] using hown5
end Go.Proofs.YthaagngoefieaaaDoor
