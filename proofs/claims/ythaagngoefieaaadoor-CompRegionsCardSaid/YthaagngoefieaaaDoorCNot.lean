/-
  Appends of spans and cuts onto a row of the call's own; the walk of chapter 4's Not of a row of at most one span, the program's; chapter 6's Region of Ne. Conditions: Pre and Build of each cut have at most 1048576 bytes.
-/
import Derived.Test.YthaagngoefieaaaDoorCRowMay
import Derived.Test.YthaagngoefieaaaDoorCReg7
import Derived.LoopN
namespace Go.Proofs.YthaagngoefieaaaDoor
open Go.ChangeShapes Go.WideShapes Go.ChangeAt Go.RowKit
set_option linter.unusedVariables false
set_option linter.unusedSimpArgs false

theorem info_span : (Tryd.prog.info? 50).map (fun i => (i.zero, i.size, i.bytes)) = some (some (.agg #[.int .i64 0, .int .i64 0, .int .i64 0, .int .i64 0, .string ByteArray.empty, .string ByteArray.empty, .bool false, .int .i64 0, .int .i64 0, .int .i64 0, .int .i64 0, .string ByteArray.empty, .string ByteArray.empty, .bool false]), 14, 144) := by kernel_rfl
theorem info_cut : (Tryd.prog.info? 48).map (fun i => (i.zero, i.size, i.bytes)) = some (some (.agg #[.int .i64 0, .int .i64 0, .int .i64 0, .int .i64 0, .string ByteArray.empty, .string ByteArray.empty, .bool false]), 7, 72) := by kernel_rfl

/-- 'out = append(out, x)', x of several cells, out nil or the call's own. -/
theorem wpList_append_cells {P : Program} (w : World) {ops : Array Oper} {rest : List Oper} {o : Oper} {a : Act} {Q : Exit → Act → World → Prop} (hgd : o.guard = none) (s x : Operand) (t : TypeId)
    (ho : o.op = .call { callee := .builtin .append, args := #[s, x], argTypes := #[t, t] })
    (base : Nat) (e : TypeId) (i : TypeInfo) (z : Value) (size bytes : Nat) (ht : P.underlying t = some (.slice e)) (hi : P.info? e = some i) (hz : i.zero = some z)
    (hsize : i.size = size) (hby : i.bytes = bytes) (hzs : z.cells.size = size) (h0 : 0 < size)
    (v : Value) (n : Nat) (xs us : List Value) (hus : us.length = size) (hown : w.ownsRow base e size v n xs) (h1 : ∀ u ∈ us, u.oneCell' = true)
    (hs : a.eval s = v) (hx : a.eval x = .slice (some ⟨w.heap.size, 0, none⟩) 1 1)
    (hn : n ≤ 4294967296) (hbytes : bytes ≤ 16384) (hbase : base ≤ w.heap.size)
    (h : ∀ v' w', w'.ownsRow base e size v' (n + 1) (xs ++ us) → Below base w w' → wpList P ops Q rest (a.put o.dst v') w') : wpList P ops Q (o :: rest) a (w.alloc (.cells us.toArray e)) := by
  have hmul : (n + 1) * bytes ≤ 140737488355328 := Nat.le_trans (Nat.mul_le_mul (show n + 1 ≤ 4294967297 by omega) hbytes) (by omega)
  refine wpList_append_own _ hgd s x t ho base e i z size bytes ht hi hz hsize hby hzs h0 v n xs hs (hown.alloc _) ⟨w.heap.size, 0, none⟩ 1 1 us hx (by rw [hus, Nat.one_mul]) (fun j u hu => ?_) h1
    (by unfold maxLen; omega) hmul (Nat.le_trans hbase (by simp)) ?_
  · rw [add_plain, cell_of_row (w.alloc (.cells us.toArray e)) w.heap.size (0 + j) us.toArray e (0, 0) (heap_alloc_new w _)]
    simpa using hu
  · intro v' w' hown' hgrow _
    exact h v' w' hown' (((Below.refl base w).alloc hbase _).grown hgrow (Nat.le_trans hbase (by simp)) fun j hj => (hown.lt j hj).1)
theorem own_rds {w : World} {base n : Nat} {e : TypeId} {v : Value} {l : List SpanC} (h : w.ownsRow base e 14 v n (l.flatMap spanCells)) : ∃ A cap, v = .slice A n cap ∧ n ≤ cap ∧ l.length = n ∧ RdS w w.heap.size A l := by
  have hl : ∀ l : List SpanC, (l.flatMap spanCells).length = l.length * 14 := by
    intro l
    induction l with
    | nil => rfl
    | cons s l ih => rw [List.flatMap_cons, List.length_append, ih, span_len, List.length_cons]; omega
  have hln : l.length = n := by have h1 := h.1; rw [hl] at h1; omega
  rcases h.2 with ⟨rfl, rfl⟩ | ⟨g, cap, cur, rfl, _, hh, hnc, _⟩
  · exact ⟨none, 0, rfl, Nat.le_refl _, hln, fun h0 => absurd h0 (by omega)⟩
  · refine ⟨_, cap, rfl, hnc, hln, fun _ => ⟨g, rfl, (Array.getElem?_eq_some_iff.1 hh).1, fun j u hu => ?_⟩⟩
    have hc := h.cells (g := g) rfl j u hu
    rw [add_plain, Nat.zero_add] at hc
    exact hc
theorem span_one (s : SpanC) : ∀ u ∈ spanCells s, u.oneCell' = true := by
  intro u hu
  simp [spanCells, cutCells] at hu
  rcases hu with rfl | rfl | rfl | rfl | rfl | rfl | rfl | rfl | rfl | rfl | rfl | rfl | rfl | rfl <;> rfl

set_option maxRecDepth 8192 in
set_option maxHeartbeats 4000000 in
theorem not0_any (A : Option Addr) (cap : Nat) (w : World) :
    Calls Tryd.prog 55 #[.slice A 0 cap] w (Row4 [⟨firstC, lastC⟩] w) := by
  obtain ⟨j0, hj0, hy0, hy1, hy2⟩ := info_parts info_span
  have cm := fun W => rowmay_any A 0 cap 0 [] W rds_none rfl (by simp) (Nat.zero_le _) (by omega)
  rw [show mayRow [] = true from rfl] at cm
  go_enter Tryd.func55, Tryd.ntmps55
  go_wp2_with fail
  refine (cm _).mono ?_
  rintro e w1 ⟨rfl, hb1⟩
  go_wp2_with fail
  refine wp_loop_rounds 1 ?_
  rw [rounds_succ]
  go_wp2_with (at_builtin; refine wpList_append_cells _ rfl (.tmp 35) (.tmp 39) 38 rfl (w1.heap.size + 1) 50 j0 _ 14 144 Tryd.underlying38 hj0 hy0 hy1 hy2 rfl (by omega) _ 0 [] [.int .i64 (-1), .int .i64 0, .int .i64 0, .int .i64 0, .string ⟨#[]⟩, .string ⟨#[]⟩, .bool false, .int .i64 1, .int .i64 0, .int .i64 0, .int .i64 0, .string ⟨#[]⟩, .string ⟨#[]⟩, .bool false] rfl (World.ownsRow_nil _ _ _ _) (span_one ⟨firstC, lastC⟩) rfl (by simp [Act.eval, go_sem]) (by omega) (by omega) (by simp) ?_; intro v' w2 hown' hb2; obtain ⟨A2, cap2, rfl, hc2, hl2, hr2⟩ := own_rds (l := [⟨firstC, lastC⟩]) hown')
  have HL2 := Lib.hid hl2
  clear hl2
  go_wp2_with fail
  go_ret
  exact ⟨A2, 1, cap2, rfl, rfl, hc2, hr2, (hb1.trans (((box_below w1 _).mono hb1.size).trans (hb2.mono (by have := hb1.size; omega))))⟩
theorem own_putL_below {base : Nat} {e : TypeId} {size : Nat} {v : Value} {n : Nat} {xs : List Value} {b : Nat} (hb : b < base) : ∀ (ys : List Value) (W : World) (i : Nat), W.ownsRow base e size v n xs → (putL W b i ys).ownsRow base e size v n xs
  | [], _, _, h => h
  | y :: ys, W, i, h => own_putL_below hb ys _ _ (ownsRow_setCell_below h (a := ⟨b, i, none⟩) hb y)
theorem cells_S (e a x c : Int) (p q : ByteArray) (f : Bool) (e' a' x' c' : Int) (p' q' : ByteArray) (f' : Bool) : spanCells ⟨cutS e a x c p q f, cutS e' a' x' c' p' q' f'⟩ = [.int .i64 e, .int .i64 a, .int .i64 x, .int .i64 c, .string p, .string q, .bool f, .int .i64 e', .int .i64 a', .int .i64 x', .int .i64 c', .string p', .string q', .bool f'] := by simp [spanCells, cutCells, cutS, verS, back]
theorem cells_F (e a x c : Int) (p q : ByteArray) (f : Bool) : spanCells ⟨firstC, cutS e a x c p q f⟩ = [.int .i64 (-1), .int .i64 0, .int .i64 0, .int .i64 0, .string ⟨#[]⟩, .string ⟨#[]⟩, .bool false, .int .i64 e, .int .i64 a, .int .i64 x, .int .i64 c, .string p, .string q, .bool f] := by simp [spanCells, cutCells, cutS, verS, back, firstC, noVer]
theorem cells_G (e a x c : Int) (p q : ByteArray) (f : Bool) : spanCells ⟨cutS e a x c p q f, lastC⟩ = [.int .i64 e, .int .i64 a, .int .i64 x, .int .i64 c, .string p, .string q, .bool f, .int .i64 1, .int .i64 0, .int .i64 0, .int .i64 0, .string ⟨#[]⟩, .string ⟨#[]⟩, .bool false] := by simp [spanCells, cutCells, cutS, verS, back, lastC, noVer]
set_option maxRecDepth 8192 in
set_option maxHeartbeats 8000000 in
theorem not1_any (b cap : Nat) (e a x c : Int) (p q : ByteArray) (f : Bool) (e' a' x' c' : Int) (p' q' : ByteArray) (f' : Bool) (w : World) (hc : Cells w b [.int .i64 e, .int .i64 a, .int .i64 x, .int .i64 c, .string p, .string q, .bool f, .int .i64 e', .int .i64 a', .int .i64 x', .int .i64 c', .string p', .string q', .bool f']) (hbw : b < w.heap.size)
    (hp : p.size ≤ 1048576) (hq : q.size ≤ 1048576) (hp' : p'.size ≤ 1048576) (hq' : q'.size ≤ 1048576) (hm : mayS ⟨cutS e a x c p q f, cutS e' a' x' c' p' q' f'⟩ = true) :
    Calls Tryd.prog 55 #[.slice (some ⟨b, 0, none⟩) 1 cap] w (Row4 (not1 ⟨cutS e a x c p q f, cutS e' a' x' c' p' q' f'⟩) w) := by
  obtain ⟨j0, hj0, hy0, hy1, hy2⟩ := info_parts info_span
  have hrd : RdS w w.heap.size (some ⟨b, 0, none⟩) [⟨cutS e a x c p q f, cutS e' a' x' c' p' q' f'⟩] := fun _ => ⟨b, rfl, hbw, by rw [List.flatMap_cons, cells_S]; exact hc⟩
  have cm := fun W hr => rowmay_any (some ⟨b, 0, none⟩) 1 cap w.heap.size [⟨cutS e a x c p q f, cutS e' a' x' c' p' q' f'⟩] W hr rfl (by
    intro s hs
    rw [List.mem_singleton] at hs
    subst hs
    exact ⟨⟨by show p.data.toList.length ≤ _; rw [len_size]; exact hp, by show q.data.toList.length ≤ _; rw [len_size]; exact hq⟩, ⟨by show p'.data.toList.length ≤ _; rw [len_size]; exact hp', by show q'.data.toList.length ≤ _; rw [len_size]; exact hq'⟩⟩)
  have cm1 := cm w hrd (Nat.le_refl _) (by omega)
  rw [show mayRow [⟨cutS e a x c p q f, cutS e' a' x' c' p' q' f'⟩] = true from hm] at cm1
  obtain ⟨hmf, hmt, hlt, hfe, hte⟩ := span_ends hm
  have hk : compCut firstC (cutS e a x c p q f) = intsI (-1) e := comp_ends may_first hmf (.inl (by decide))
  have cc := fun W => cutcomp_any (-1) 0 0 0 ⟨#[]⟩ ⟨#[]⟩ false e a x c p q f W (by decide) (by decide) hp hq
  rw [show cutS (-1) 0 0 0 ⟨#[]⟩ ⟨#[]⟩ false = firstC from rfl, hk] at cc
  unfold cutW at cc
  have HC := Lib.hid hc
  dsimp only [cutS] at hfe hte
  clear hk hmf hmt hlt hm hc hrd cm

  rcases hfe with rfl | rfl <;> rcases hte with rfl | rfl
  · have HN : Hid (not1 ⟨cutS (-1) a x c p q f, cutS 0 a' x' c' p' q' f'⟩ = [⟨cutS 0 a' x' c' p' q' f', lastC⟩]) := rfl
    rw [show intsI (-1) (-1) = 0 from by decide] at cc
    go_enter Tryd.func55, Tryd.ntmps55
    go_wp2_with fail
    refine cm1.mono ?_
    rintro r w1 ⟨rfl, hb1⟩
    have hc1 := cells_below HC.out hbw hb1
    clear cm1
    have hbw1 : b < w1.heap.size := Nat.lt_of_lt_of_le hbw hb1.size
    have hL := loc_new (loc_start w1) w1.heap.size [.int .i64 (-1), .int .i64 0, .int .i64 0, .int .i64 0, .string ⟨#[]⟩, .string ⟨#[]⟩, .bool false] 48
    have hc2 := cells_below hc1 hbw1 (box_below w1 (.cells #[.int .i64 (-1), .int .i64 0, .int .i64 0, .int .i64 0, .string ⟨#[]⟩, .string ⟨#[]⟩, .bool false] 48))
    obtain ⟨k0, k1, k2, k3, k4, k5, k6, k7, k8, k9, k10, k11, k12, k13⟩ := cells14L hc2
    go_wp2_with fail
    refine wp_loop_rounds 2 ?_
    rw [rounds_succ]
    go_wp2_with fail
    clear k0 k1 k2 k3 k4 k5 k6 k7 k8 k9 k10 k11 k12 k13
    have hL := loc_new hL (w1.heap.size + 1) [.int .i64 (-1), .int .i64 a, .int .i64 x, .int .i64 c, .string p, .string q, .bool f, .int .i64 0, .int .i64 a', .int .i64 x', .int .i64 c', .string p', .string q', .bool f'] 50
    refine (cc _).mono ?_
    rintro r w2 ⟨rfl, hb2⟩
    have hL := loc_call hL hb2
    clear hb2 hc1 hc2
    obtain ⟨d0, d1, d2, d3, d4, d5, d6⟩ := cells7L (loc_own hL 0 rfl).1
    obtain ⟨e0, e1, e2, e3, e4, e5, e6, e7, e8, e9, e10, e11, e12, e13⟩ := cells14L (loc_own hL 1 rfl).1
    have f4 := (loc_own hL 0 rfl).2
    have z0 := loc_lt hL 0 rfl
    have z1 := loc_lt hL 1 rfl
    have hz1b : w1.heap.size ≤ w2.heap.size := hL.1.size
    go_wp2_with fail
    clear d0 d1 d2 d3 d4 d5 d6 e0 e1 e2 e3 e4 e5 e6 e7 e8 e9 e10 e11 e12 e13 f4
    generalize hW : World.setCell (World.setCell _ _ _) ⟨_, 6, none⟩ _ = W4
    have hL4 : Loc w1 W4 [(w1.heap.size, [.int .i64 0, .int .i64 a', .int .i64 x', .int .i64 c', .string p', .string q', .bool f']), (w1.heap.size + 1, [.int .i64 (-1), .int .i64 a, .int .i64 x, .int .i64 c, .string p, .string q, .bool f, .int .i64 0, .int .i64 a', .int .i64 x', .int .i64 c', .string p', .string q', .bool f'])] := by rw [← hW]; exact loc_put hL 0 0 [.int .i64 0, .int .i64 a', .int .i64 x', .int .i64 c', .string p', .string q', .bool f'] rfl (by simp)
    clear hW
    have hBw := hb1.trans (hL4.1.mono hb1.size)
    obtain ⟨d0, d1, d2, d3, d4, d5, d6⟩ := cells7L (loc_own hL4 0 rfl).1
    rw [rounds_succ]
    go_wp2_with (first | (at_builtin; refine wpList_append_cells W4 rfl (.tmp 35) (.tmp 39) 38 rfl W4.heap.size 50 j0 _ 14 144 Tryd.underlying38 hj0 hy0 hy1 hy2 rfl (by omega) _ 0 [] [.int .i64 0, .int .i64 a', .int .i64 x', .int .i64 c', .string p', .string q', .bool f', .int .i64 1, .int .i64 0, .int .i64 0, .int .i64 0, .string ⟨#[]⟩, .string ⟨#[]⟩, .bool false] rfl (World.ownsRow_nil _ _ _ _) (by rw [← cells_G]; exact span_one _) (by simp [Act.eval, go_sem]) (by simp [Act.eval, go_sem]) (by omega) (by omega) (Nat.le_refl _) ?_; intro v5 w5 hown5 hb5) | fail)
    obtain ⟨A2, cap2, rfl, hc2, hl2, hr2⟩ := own_rds (l := [⟨cutS 0 a' x' c' p' q' f', lastC⟩]) (by rw [show List.flatMap spanCells [⟨cutS 0 a' x' c' p' q' f', lastC⟩] = [] ++ [.int .i64 0, .int .i64 a', .int .i64 x', .int .i64 c', .string p', .string q', .bool f', .int .i64 1, .int .i64 0, .int .i64 0, .int .i64 0, .string ⟨#[]⟩, .string ⟨#[]⟩, .bool false] from by simp [cells_F, cells_G]]; exact hown5)
    clear hl2
    go_wp2_with fail
    go_ret
    rw [HN.out]
    exact ⟨A2, 1, cap2, rfl, rfl, hc2, hr2, hBw.trans (hb5.mono (by have := hb1.size; have := hL4.1.size; omega))⟩
  · have HN : Hid (not1 ⟨cutS (-1) a x c p q f, cutS 1 a' x' c' p' q' f'⟩ = []) := rfl
    rw [show intsI (-1) (-1) = 0 from by decide] at cc
    go_enter Tryd.func55, Tryd.ntmps55
    go_wp2_with fail
    refine cm1.mono ?_
    rintro r w1 ⟨rfl, hb1⟩
    have hc1 := cells_below HC.out hbw hb1
    clear cm1
    have hbw1 : b < w1.heap.size := Nat.lt_of_lt_of_le hbw hb1.size
    have hL := loc_new (loc_start w1) w1.heap.size [.int .i64 (-1), .int .i64 0, .int .i64 0, .int .i64 0, .string ⟨#[]⟩, .string ⟨#[]⟩, .bool false] 48
    have hc2 := cells_below hc1 hbw1 (box_below w1 (.cells #[.int .i64 (-1), .int .i64 0, .int .i64 0, .int .i64 0, .string ⟨#[]⟩, .string ⟨#[]⟩, .bool false] 48))
    obtain ⟨k0, k1, k2, k3, k4, k5, k6, k7, k8, k9, k10, k11, k12, k13⟩ := cells14L hc2
    go_wp2_with fail
    refine wp_loop_rounds 2 ?_
    rw [rounds_succ]
    go_wp2_with fail
    clear k0 k1 k2 k3 k4 k5 k6 k7 k8 k9 k10 k11 k12 k13
    have hL := loc_new hL (w1.heap.size + 1) [.int .i64 (-1), .int .i64 a, .int .i64 x, .int .i64 c, .string p, .string q, .bool f, .int .i64 1, .int .i64 a', .int .i64 x', .int .i64 c', .string p', .string q', .bool f'] 50
    refine (cc _).mono ?_
    rintro r w2 ⟨rfl, hb2⟩
    have hL := loc_call hL hb2
    clear hb2 hc1 hc2
    obtain ⟨d0, d1, d2, d3, d4, d5, d6⟩ := cells7L (loc_own hL 0 rfl).1
    obtain ⟨e0, e1, e2, e3, e4, e5, e6, e7, e8, e9, e10, e11, e12, e13⟩ := cells14L (loc_own hL 1 rfl).1
    have f4 := (loc_own hL 0 rfl).2
    have z0 := loc_lt hL 0 rfl
    have z1 := loc_lt hL 1 rfl
    have hz1b : w1.heap.size ≤ w2.heap.size := hL.1.size
    go_wp2_with fail
    clear d0 d1 d2 d3 d4 d5 d6 e0 e1 e2 e3 e4 e5 e6 e7 e8 e9 e10 e11 e12 e13 f4
    generalize hW : World.setCell (World.setCell _ _ _) ⟨_, 6, none⟩ _ = W4
    have hL4 : Loc w1 W4 [(w1.heap.size, [.int .i64 1, .int .i64 a', .int .i64 x', .int .i64 c', .string p', .string q', .bool f']), (w1.heap.size + 1, [.int .i64 (-1), .int .i64 a, .int .i64 x, .int .i64 c, .string p, .string q, .bool f, .int .i64 1, .int .i64 a', .int .i64 x', .int .i64 c', .string p', .string q', .bool f'])] := by rw [← hW]; exact loc_put hL 0 0 [.int .i64 1, .int .i64 a', .int .i64 x', .int .i64 c', .string p', .string q', .bool f'] rfl (by simp)
    clear hW
    have hBw := hb1.trans (hL4.1.mono hb1.size)
    obtain ⟨d0, d1, d2, d3, d4, d5, d6⟩ := cells7L (loc_own hL4 0 rfl).1
    rw [rounds_succ]
    go_wp2_with fail
    go_ret
    rw [HN.out]
    exact ⟨none, 0, 0, rfl, rfl, Nat.le_refl _, rds_none, hBw⟩
  · have HN : Hid (not1 ⟨cutS 0 a x c p q f, cutS 0 a' x' c' p' q' f'⟩ = [⟨firstC, cutS 0 a x c p q f⟩, ⟨cutS 0 a' x' c' p' q' f', lastC⟩]) := rfl
    rw [show intsI (-1) 0 = -1 from by decide] at cc
    go_enter Tryd.func55, Tryd.ntmps55
    go_wp2_with fail
    refine cm1.mono ?_
    rintro r w1 ⟨rfl, hb1⟩
    have hc1 := cells_below HC.out hbw hb1
    clear cm1
    have hbw1 : b < w1.heap.size := Nat.lt_of_lt_of_le hbw hb1.size
    have hL := loc_new (loc_start w1) w1.heap.size [.int .i64 (-1), .int .i64 0, .int .i64 0, .int .i64 0, .string ⟨#[]⟩, .string ⟨#[]⟩, .bool false] 48
    have hc2 := cells_below hc1 hbw1 (box_below w1 (.cells #[.int .i64 (-1), .int .i64 0, .int .i64 0, .int .i64 0, .string ⟨#[]⟩, .string ⟨#[]⟩, .bool false] 48))
    obtain ⟨k0, k1, k2, k3, k4, k5, k6, k7, k8, k9, k10, k11, k12, k13⟩ := cells14L hc2
    go_wp2_with fail
    refine wp_loop_rounds 2 ?_
    rw [rounds_succ]
    go_wp2_with fail
    clear k0 k1 k2 k3 k4 k5 k6 k7 k8 k9 k10 k11 k12 k13
    have hL := loc_new hL (w1.heap.size + 1) [.int .i64 0, .int .i64 a, .int .i64 x, .int .i64 c, .string p, .string q, .bool f, .int .i64 0, .int .i64 a', .int .i64 x', .int .i64 c', .string p', .string q', .bool f'] 50
    refine (cc _).mono ?_
    rintro r w2 ⟨rfl, hb2⟩
    have hL := loc_call hL hb2
    clear hb2 hc1 hc2
    obtain ⟨d0, d1, d2, d3, d4, d5, d6⟩ := cells7L (loc_own hL 0 rfl).1
    obtain ⟨e0, e1, e2, e3, e4, e5, e6, e7, e8, e9, e10, e11, e12, e13⟩ := cells14L (loc_own hL 1 rfl).1
    have f4 := (loc_own hL 0 rfl).2
    have z0 := loc_lt hL 0 rfl
    have z1 := loc_lt hL 1 rfl
    have hz1b : w1.heap.size ≤ w2.heap.size := hL.1.size
    go_wp2_with (first | (at_builtin; refine wpList_append_cells _ rfl (.tmp 22) (.tmp 27) 38 rfl w2.heap.size 50 j0 _ 14 144 Tryd.underlying38 hj0 hy0 hy1 hy2 rfl (by omega) _ 0 [] [.int .i64 (-1), .int .i64 0, .int .i64 0, .int .i64 0, .string ⟨#[]⟩, .string ⟨#[]⟩, .bool false, .int .i64 0, .int .i64 a, .int .i64 x, .int .i64 c, .string p, .string q, .bool f] rfl (World.ownsRow_nil _ _ _ _) (by rw [← cells_F]; exact span_one _) (by simp [Act.eval, go_sem]) (by simp [Act.eval, go_sem]) (by omega) (by omega) (Nat.le_refl _) ?_; intro v2 w3 hown3 hb3; have hL3 := loc_call hL hb3; obtain ⟨d0, d1, d2, d3, d4, d5, d6⟩ := cells7L (loc_own hL3 0 rfl).1; obtain ⟨e0, e1, e2, e3, e4, e5, e6, e7, e8, e9, e10, e11, e12, e13⟩ := cells14L (loc_own hL3 1 rfl).1; have f4 := (loc_own hL3 0 rfl).2) | fail)
    clear d0 d1 d2 d3 d4 d5 d6 e0 e1 e2 e3 e4 e5 e6 e7 e8 e9 e10 e11 e12 e13 f4 hL
    generalize hW : World.setCell (World.setCell _ _ _) ⟨_, 6, none⟩ _ = W4
    have hL4 : Loc w1 W4 [(w1.heap.size, [.int .i64 0, .int .i64 a', .int .i64 x', .int .i64 c', .string p', .string q', .bool f']), (w1.heap.size + 1, [.int .i64 0, .int .i64 a, .int .i64 x, .int .i64 c, .string p, .string q, .bool f, .int .i64 0, .int .i64 a', .int .i64 x', .int .i64 c', .string p', .string q', .bool f'])] := by rw [← hW]; exact loc_put hL3 0 0 [.int .i64 0, .int .i64 a', .int .i64 x', .int .i64 c', .string p', .string q', .bool f'] rfl (by simp)
    have hown4 : W4.ownsRow w2.heap.size 50 14 v2 1 ([] ++ [.int .i64 (-1), .int .i64 0, .int .i64 0, .int .i64 0, .string ⟨#[]⟩, .string ⟨#[]⟩, .bool false, .int .i64 0, .int .i64 a, .int .i64 x, .int .i64 c, .string p, .string q, .bool f]) := by rw [← hW]; exact own_putL_below z0 [.int .i64 0, .int .i64 a', .int .i64 x', .int .i64 c', .string p', .string q', .bool f'] w3 0 hown3
    have hz4 : w2.heap.size ≤ W4.heap.size := by have := hb3.size; rw [← hW]; simpa using this
    clear hown3 hL3 hb3
    clear hW
    have hBw := hb1.trans (hL4.1.mono hb1.size)
    obtain ⟨d0, d1, d2, d3, d4, d5, d6⟩ := cells7L (loc_own hL4 0 rfl).1
    rw [rounds_succ]
    go_wp2_with (first | (at_builtin; refine wpList_append_cells W4 rfl (.tmp 35) (.tmp 39) 38 rfl w2.heap.size 50 j0 _ 14 144 Tryd.underlying38 hj0 hy0 hy1 hy2 rfl (by omega) _ 1 ([] ++ [.int .i64 (-1), .int .i64 0, .int .i64 0, .int .i64 0, .string ⟨#[]⟩, .string ⟨#[]⟩, .bool false, .int .i64 0, .int .i64 a, .int .i64 x, .int .i64 c, .string p, .string q, .bool f]) [.int .i64 0, .int .i64 a', .int .i64 x', .int .i64 c', .string p', .string q', .bool f', .int .i64 1, .int .i64 0, .int .i64 0, .int .i64 0, .string ⟨#[]⟩, .string ⟨#[]⟩, .bool false] rfl hown4 (by rw [← cells_G]; exact span_one _) (by simp [Act.eval, go_sem]) (by simp [Act.eval, go_sem]) (by omega) (by omega) hz4 ?_; intro v5 w5 hown5 hb5) | fail)
    obtain ⟨A2, cap2, rfl, hc2, hl2, hr2⟩ := own_rds (l := [⟨firstC, cutS 0 a x c p q f⟩, ⟨cutS 0 a' x' c' p' q' f', lastC⟩]) (by rw [show List.flatMap spanCells [⟨firstC, cutS 0 a x c p q f⟩, ⟨cutS 0 a' x' c' p' q' f', lastC⟩] = ([] ++ [.int .i64 (-1), .int .i64 0, .int .i64 0, .int .i64 0, .string ⟨#[]⟩, .string ⟨#[]⟩, .bool false, .int .i64 0, .int .i64 a, .int .i64 x, .int .i64 c, .string p, .string q, .bool f]) ++ [.int .i64 0, .int .i64 a', .int .i64 x', .int .i64 c', .string p', .string q', .bool f', .int .i64 1, .int .i64 0, .int .i64 0, .int .i64 0, .string ⟨#[]⟩, .string ⟨#[]⟩, .bool false] from by simp [cells_F, cells_G]]; exact hown5)
    clear hl2
    go_wp2_with fail
    go_ret
    rw [HN.out]
    exact ⟨A2, 2, cap2, rfl, rfl, hc2, hr2, hBw.trans (hb5.mono (by have := hb1.size; have := hz1b; omega))⟩
  · have HN : Hid (not1 ⟨cutS 0 a x c p q f, cutS 1 a' x' c' p' q' f'⟩ = [⟨firstC, cutS 0 a x c p q f⟩]) := rfl
    rw [show intsI (-1) 0 = -1 from by decide] at cc
    go_enter Tryd.func55, Tryd.ntmps55
    go_wp2_with fail
    refine cm1.mono ?_
    rintro r w1 ⟨rfl, hb1⟩
    have hc1 := cells_below HC.out hbw hb1
    clear cm1
    have hbw1 : b < w1.heap.size := Nat.lt_of_lt_of_le hbw hb1.size
    have hL := loc_new (loc_start w1) w1.heap.size [.int .i64 (-1), .int .i64 0, .int .i64 0, .int .i64 0, .string ⟨#[]⟩, .string ⟨#[]⟩, .bool false] 48
    have hc2 := cells_below hc1 hbw1 (box_below w1 (.cells #[.int .i64 (-1), .int .i64 0, .int .i64 0, .int .i64 0, .string ⟨#[]⟩, .string ⟨#[]⟩, .bool false] 48))
    obtain ⟨k0, k1, k2, k3, k4, k5, k6, k7, k8, k9, k10, k11, k12, k13⟩ := cells14L hc2
    go_wp2_with fail
    refine wp_loop_rounds 2 ?_
    rw [rounds_succ]
    go_wp2_with fail
    clear k0 k1 k2 k3 k4 k5 k6 k7 k8 k9 k10 k11 k12 k13
    have hL := loc_new hL (w1.heap.size + 1) [.int .i64 0, .int .i64 a, .int .i64 x, .int .i64 c, .string p, .string q, .bool f, .int .i64 1, .int .i64 a', .int .i64 x', .int .i64 c', .string p', .string q', .bool f'] 50
    refine (cc _).mono ?_
    rintro r w2 ⟨rfl, hb2⟩
    have hL := loc_call hL hb2
    clear hb2 hc1 hc2
    obtain ⟨d0, d1, d2, d3, d4, d5, d6⟩ := cells7L (loc_own hL 0 rfl).1
    obtain ⟨e0, e1, e2, e3, e4, e5, e6, e7, e8, e9, e10, e11, e12, e13⟩ := cells14L (loc_own hL 1 rfl).1
    have f4 := (loc_own hL 0 rfl).2
    have z0 := loc_lt hL 0 rfl
    have z1 := loc_lt hL 1 rfl
    have hz1b : w1.heap.size ≤ w2.heap.size := hL.1.size
    go_wp2_with (first | (at_builtin; refine wpList_append_cells _ rfl (.tmp 22) (.tmp 27) 38 rfl w2.heap.size 50 j0 _ 14 144 Tryd.underlying38 hj0 hy0 hy1 hy2 rfl (by omega) _ 0 [] [.int .i64 (-1), .int .i64 0, .int .i64 0, .int .i64 0, .string ⟨#[]⟩, .string ⟨#[]⟩, .bool false, .int .i64 0, .int .i64 a, .int .i64 x, .int .i64 c, .string p, .string q, .bool f] rfl (World.ownsRow_nil _ _ _ _) (by rw [← cells_F]; exact span_one _) (by simp [Act.eval, go_sem]) (by simp [Act.eval, go_sem]) (by omega) (by omega) (Nat.le_refl _) ?_; intro v2 w3 hown3 hb3; have hL3 := loc_call hL hb3; obtain ⟨d0, d1, d2, d3, d4, d5, d6⟩ := cells7L (loc_own hL3 0 rfl).1; obtain ⟨e0, e1, e2, e3, e4, e5, e6, e7, e8, e9, e10, e11, e12, e13⟩ := cells14L (loc_own hL3 1 rfl).1; have f4 := (loc_own hL3 0 rfl).2) | fail)
    clear d0 d1 d2 d3 d4 d5 d6 e0 e1 e2 e3 e4 e5 e6 e7 e8 e9 e10 e11 e12 e13 f4 hL
    generalize hW : World.setCell (World.setCell _ _ _) ⟨_, 6, none⟩ _ = W4
    have hL4 : Loc w1 W4 [(w1.heap.size, [.int .i64 1, .int .i64 a', .int .i64 x', .int .i64 c', .string p', .string q', .bool f']), (w1.heap.size + 1, [.int .i64 0, .int .i64 a, .int .i64 x, .int .i64 c, .string p, .string q, .bool f, .int .i64 1, .int .i64 a', .int .i64 x', .int .i64 c', .string p', .string q', .bool f'])] := by rw [← hW]; exact loc_put hL3 0 0 [.int .i64 1, .int .i64 a', .int .i64 x', .int .i64 c', .string p', .string q', .bool f'] rfl (by simp)
    have hown4 : W4.ownsRow w2.heap.size 50 14 v2 1 ([] ++ [.int .i64 (-1), .int .i64 0, .int .i64 0, .int .i64 0, .string ⟨#[]⟩, .string ⟨#[]⟩, .bool false, .int .i64 0, .int .i64 a, .int .i64 x, .int .i64 c, .string p, .string q, .bool f]) := by rw [← hW]; exact own_putL_below z0 [.int .i64 1, .int .i64 a', .int .i64 x', .int .i64 c', .string p', .string q', .bool f'] w3 0 hown3
    have hz4 : w2.heap.size ≤ W4.heap.size := by have := hb3.size; rw [← hW]; simpa using this
    clear hown3 hL3 hb3
    clear hW
    have hBw := hb1.trans (hL4.1.mono hb1.size)
    obtain ⟨d0, d1, d2, d3, d4, d5, d6⟩ := cells7L (loc_own hL4 0 rfl).1
    obtain ⟨A2, cap2, rfl, hc2, hl2, hr2⟩ := own_rds (l := [⟨firstC, cutS 0 a x c p q f⟩]) (by rw [show List.flatMap spanCells [⟨firstC, cutS 0 a x c p q f⟩] = [] ++ [.int .i64 (-1), .int .i64 0, .int .i64 0, .int .i64 0, .string ⟨#[]⟩, .string ⟨#[]⟩, .bool false, .int .i64 0, .int .i64 a, .int .i64 x, .int .i64 c, .string p, .string q, .bool f] from by simp [cells_F]]; exact hown4)
    clear hl2
    rw [rounds_succ]
    go_wp2_with fail
    go_ret
    rw [HN.out]
    exact ⟨A2, 1, cap2, rfl, rfl, hc2, hr2, hBw⟩
/-- Not of a row of at most one span. -/
theorem not_small (l : List SpanC) (A : Option Addr) (n cap : Nat) (w : World) (h : RdS w w.heap.size A l) (hl : l.length ≤ 1) (hn : n = l.length) (hok : ∀ s ∈ l, okS s) (hm : mayRow l = true) :
    Calls Tryd.prog 55 #[.slice A n cap] w (Row4 (notP l) w) := by
  rcases l with _ | ⟨s, l⟩
  · obtain rfl : n = 0 := hn
    have := not0_any A cap w
    rw [← notP_nil] at this
    exact this
  · rcases l with _ | ⟨t, l⟩
    · obtain rfl : n = 1 := hn
      rw [notP_one hm]
      obtain ⟨b, rfl, hb, hc⟩ := h (by simp)
      have ho := hok s (by simp)
      obtain ⟨F, G⟩ := s
      obtain ⟨e, a, x, c, p, q, f, hF, _, hFc, hp, hq⟩ := cut_of F
      obtain ⟨e', a', x', c', p', q', f', hG, _, hGc, hp', hq'⟩ := cut_of G
      have hp2 : p.size ≤ 1048576 := by rw [hp]; exact ho.1.1
      have hq2 : q.size ≤ 1048576 := by rw [hq]; exact ho.1.2
      have hp2' : p'.size ≤ 1048576 := by rw [hp']; exact ho.2.1
      have hq2' : q'.size ≤ 1048576 := by rw [hq']; exact ho.2.2
      have hc2 : Cells w b (spanCells ⟨F, G⟩) := by simpa using hc
      clear hFc hGc hp hq hp' hq' ho hc h hok hl
      rw [hF, hG] at hc2 hm ⊢
      rw [cells_S] at hc2
      exact not1_any b cap e a x c p q f e' a' x' c' p' q' f' w hc2 hb hp2 hq2 hp2' hq2' hm
    · exact absurd hl (by simp)
end Go.Proofs.YthaagngoefieaaaDoor
