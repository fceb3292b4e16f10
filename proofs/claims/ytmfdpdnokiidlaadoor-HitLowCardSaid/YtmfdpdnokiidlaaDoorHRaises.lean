/-
  Chapter 36: the walk of hit.raises. Conditions: as for least; at most 1000 terms.
-/
import Derived.Test.YtmfdpdnokiidlaaDoorHHits
namespace Go.Proofs.YtmfdpdnokiidlaaDoor
open Go.ChangeShapes Go.WideShapes Go.ChangeAt Go.RowKit
set_option linter.unusedVariables false
set_option linter.unusedSimpArgs false

/-- 'out = append(out, x)', x of several cells, out nil or the call's own. -/
theorem wpList_append_cells {P : Program} (w : World) {ops : Array Oper} {rest : List Oper} {o : Oper} {a : Act} {Q : Exit → Act → World → Prop} (hgd : o.guard = none) (s x : Operand) (t : TypeId)
    (ho : o.op = .call { callee := .builtin .append, args := #[s, x], argTypes := #[t, t] })
    (base : Nat) (e : TypeId) (i : TypeInfo) (z : Value) (size bytes : Nat) (ht : P.underlying t = some (.slice e)) (hi : P.info? e = some i) (hz : i.zero = some z)
    (hsize : i.size = size) (hby : i.bytes = bytes) (hzs : z.cells.size = size) (h0 : 0 < size)
    (v : Value) (n : Nat) (xs us : List Value) (hus : us.length = size) (hown : w.ownsRow base e size v n xs) (h1 : ∀ u ∈ us, u.oneCell' = true)
    (hs : a.eval s = v) (hx : a.eval x = .slice (some ⟨w.heap.size, 0, none⟩) 1 1)
    (hn : n ≤ 4294967296) (hbytes : bytes ≤ 16384) (hbase : base ≤ w.heap.size)
    (h : ∀ v' w', w'.ownsRow base e size v' (n + 1) (xs ++ us) → Below base w w' → wpList P ops Q rest (a.put o.dst v') w') : wpList P ops Q (o :: rest) a (w.alloc (.cells us.toArray e)) := by
  have hmul : (n + 1) * bytes ≤ 140737488355328 := Nat.le_trans (Nat.mul_le_mul (show n + 1 ≤ 4294967297 by omega) hbytes) (by omega)
  refine wpList_append_own _ hgd s x t ho base e i z size bytes ht hi hz hsize hby hzs h0 v n xs hs (hown.alloc _) ⟨w.heap.size, 0, none⟩ 1 1 us hx (by rw [hus, Nat.one_mul]) (fun j u hu => ?_) h1
    (by unfold maxLen; omega) hmul (Nat.le_trans hbase (by simp)) ?_
  · rw [add_plain, cell_of_row (w.alloc (.cells us.toArray e)) w.heap.size (0 + j) us.toArray e (0, 0) (heap_alloc_new w _)]
    simpa using hu
  · intro v' w' hown' hgrow _
    exact h v' w' hown' (((Below.refl base w).alloc hbase _).grown hgrow (Nat.le_trans hbase (by simp)) fun j hj => (hown.lt j hj).1)
theorem own_keep {w w' : World} {base n size : Nat} {e : TypeId} {v : Value} {xs : List Value} (h : w.ownsRow base e size v n xs) (hb : Below w.heap.size w w') : w'.ownsRow base e size v n xs := by
  refine ⟨h.1, ?_⟩
  rcases h.2 with hn | ⟨g, cap, cur, hv, hg, hh, rest⟩
  · exact .inl hn
  · exact .inr ⟨g, cap, cur, hv, hg, (hb.block g (Array.getElem?_eq_some_iff.1 hh).1).trans hh, rest⟩
theorem info_raise : (Tryd.prog.info? 61).map (fun i => (i.zero, i.size, i.bytes)) = some (some (.agg #[.int .i64 0, .int .i64 0]), 2, 16) := by kernel_rfl
def wayCells (r : Way) : List Value := [.int .i64 (r.1 : Nat), .int .i64 r.2]
theorem way_flat : ∀ l : List Way, (l.flatMap wayCells).length = l.length * 2
  | [] => rfl
  | s :: l => by rw [List.flatMap_cons, List.length_append, way_flat l, List.length_cons]; show 2 + _ = _; omega
/-- A row of ways. -/
def RdW (w : World) (B : Nat) (A : Option Addr) (l : List Way) : Prop :=
  0 < l.length → ∃ b, A = some ⟨b, 0, none⟩ ∧ b < B ∧ ∀ j r, l[j]? = some r → w.cell? ⟨b, j * 2, none⟩ = some (.int .i64 (r.1 : Nat)) ∧ w.cell? ⟨b, j * 2 + 1, none⟩ = some (.int .i64 r.2)
theorem rdW_below {w w' : World} {B : Nat} {A : Option Addr} {l : List Way} (h : RdW w B A l) (hb : Below B w w') : RdW w' B A l := fun h0 => by
  obtain ⟨b, e, hlt, hc⟩ := h h0
  exact ⟨b, e, hlt, fun j x hx => ⟨(hb.cell (p := ⟨b, j * 2, none⟩) hlt).trans (hc j x hx).1, (hb.cell (p := ⟨b, j * 2 + 1, none⟩) hlt).trans (hc j x hx).2⟩⟩
theorem flat_way : ∀ (l : List Way) (k m : Nat) (s : Way), l[k]? = some s → m < 2 → (l.flatMap wayCells)[k * 2 + m]? = (wayCells s)[m]?
  | [], k, m, s, h, _ => by simp at h
  | x :: l, 0, m, s, h, hm => by
    simp at h
    subst h
    rw [List.flatMap_cons, Nat.zero_mul, Nat.zero_add, List.getElem?_append_left (by show m < 2; exact hm)]
  | x :: l, k + 1, m, s, h, hm => by
    rw [List.flatMap_cons, List.getElem?_append_right (by show 2 ≤ _; omega), show (k + 1) * 2 + m - (wayCells x).length = k * 2 + m from by show _ - 2 = _; omega]
    exact flat_way l k m s (by simpa using h) hm
theorem own_rdw {w : World} {base n : Nat} {e : TypeId} {v : Value} {l : List Way} (h : w.ownsRow base e 2 v n (l.flatMap wayCells)) : ∃ A cap, v = .slice A n cap ∧ n ≤ cap ∧ l.length = n ∧ RdW w w.heap.size A l := by
  have hln : l.length = n := by have h1 := h.1; rw [way_flat] at h1; omega
  rcases h.2 with ⟨rfl, rfl⟩ | ⟨g, cap, cur, rfl, _, hh, hnc, _⟩
  · exact ⟨none, 0, rfl, Nat.le_refl _, hln, fun h0 => absurd h0 (by omega)⟩
  · refine ⟨_, cap, rfl, hnc, hln, fun _ => ⟨g, rfl, (Array.getElem?_eq_some_iff.1 hh).1, fun j r hr => ?_⟩⟩
    have hc := h.cells (g := g) rfl
    have c0 := hc (j * 2 + 0) _ ((flat_way l j 0 r hr (by omega)).trans rfl)
    have c1 := hc (j * 2 + 1) _ ((flat_way l j 1 r hr (by omega)).trans rfl)
    rw [add_plain, Nat.zero_add] at c0 c1
    exact ⟨c0, c1⟩
/-- What raises hands back. -/
def RowW (l : List Way) (w : World) (r : Ending) (w' : World) : Prop :=
  ∃ v : Value, r = .returned v ∧ w'.ownsRow w.heap.size 61 2 v l.length (l.flatMap wayCells) ∧ Below w.heap.size w w'
theorem raises_succ {t : List (List Int)} {l : List Tm} {k : Nat} {x : Tm} (hx : l[k]? = some x) : raisesP t (l.take (k + 1)) = raisesP t (l.take k) ++ (match leastP t x with | some n => [(x.u, n)] | none => []) := by
  obtain ⟨hlt, rfl⟩ := List.getElem?_eq_some_iff.1 hx
  unfold raisesP
  rw [List.take_succ_eq_append_getElem hlt, List.filterMap_append]
  congr 1
  cases h : leastP t l[k] <;> simp [h]
theorem raises_len (t : List (List Int)) (l : List Tm) : (raisesP t l).length ≤ l.length := List.length_filterMap_le _ _
def RaAt (w W : World) (t : List (List Int)) (core : List Tm) (k : Nat) (v : Value) : Prop := W.ownsRow w.heap.size 61 2 v (raisesP t (core.take k)).length ((raisesP t (core.take k)).flatMap wayCells) ∧ Below w.heap.size w W
set_option maxRecDepth 8192 in
set_option maxHeartbeats 4000000 in
theorem raises_any (A A2 : Option Addr) (c c2 B : Nat) (t : List (List Int)) (core : List Tm) (w : World) (h : RdT w B A t) (h2 : RdK w B A2 core) (hB : B ≤ w.heap.size) (hl : t.length ≤ 1000) (hr : ∀ r ∈ t, 0 < r.length ∧ r.length ≤ 5) (hx : ∀ x ∈ core, x.u ≤ 1000000 ∧ x.m < 32) (hc : core.length ≤ 1000) :
    Calls Tryd.prog 23 #[.slice A t.length c, .slice A2 core.length c2] w (RowW (raisesP t core) w) := by
  obtain ⟨j0, hj0, hy0, hy1, hy2⟩ := info_parts info_raise
  have HI := Lib.hid hj0
  have HY := Lib.hid (And.intro hy0 (And.intro hy1 hy2))
  clear hj0 hy0 hy1 hy2
  have H2 := Lib.hid h2
  have cl := fun (W : World) (hb : Below w.heap.size w W) (x : Tm) (hxm : x ∈ core) => least_any A c B t x W (rdT_below h (hb.mono hB)) (Nat.le_trans hB hb.size) hl hr (hx x hxm).1 (hx x hxm).2
  have CL := Lib.hid cl
  clear h h2 hx cl hr
  generalize t.length = nt at *
  generalize hn : core.length = n at *
  have HN := Lib.hid hn
  clear hn
  go_enter Tryd.func23, Tryd.ntmps23
  go_wp2
  go_loopw [5, 7, 8, 9, 12] (fun s5 _ _ _ i wr => ∃ (k : Nat) (v : Value), v = s5 ∧ k ≤ n ∧ i = .int .i64 k ∧ RaAt w wr t core k v) (fun _ _ _ _ i _ => n - (intOf i).toNat)
  case atStart => exact ⟨0, .slice none 0 0, rfl, by omega, rfl, World.ownsRow_nil _ _ _ _, Below.refl _ _⟩
  case round =>
    obtain ⟨k, v, rfl, hk, rfl, hst⟩ := hrel
    have HO := Lib.hid hst.1
    have hbel := hst.2
    clear hst
    by_cases hlt : k < n
    · have i1 : (k : Int) < (n : Int) := by omega
      have hlc : k < core.length := by rw [HN.out]; exact hlt
      have hxk : core[k]? = some core[k] := List.getElem?_eq_getElem hlc
      have hmem := List.getElem_mem hlc
      generalize core[k] = x at *
      obtain ⟨b, off, rfl, hb, hcc⟩ := rdK_below H2.out (hbel.mono hB) (by omega)
      obtain ⟨k0, k1⟩ := hcc k x hxk
      have HS := Lib.hid (raises_succ (t := t) hxk)
      have hlen := raises_len t (core.take k)
      have hlk : (core.take k).length ≤ k := List.length_take_le _ _
      have hbx := hbel.trans ((box_below wr (.cells #[.int .i64 (x.u : Nat), .int .i64 (x.m : Nat)] 39)).mono hbel.size)
      have hcx := CL.out _ hbx x hmem
      have hL := loc_new (loc_start wr) wr.heap.size [.int .i64 (x.u : Nat), .int .i64 (x.m : Nat)] 39
      have ho1 : (wr.alloc (.cells #[.int .i64 (x.u : Nat), .int .i64 (x.m : Nat)] 39)).ownsRow w.heap.size 61 2 v (raisesP t (core.take k)).length ((raisesP t (core.take k)).flatMap wayCells) := HO.out.alloc _
      clear hcc hxk hmem hlc
      generalize hout : raisesP t (core.take k) = out at *
      have HOUT := Lib.hid hout
      clear hout
      generalize leastP t x = lp at *
      generalize x.u = u at *
      generalize x.m = m at *
      go_wp2_with fail
      generalize hW : World.alloc wr _ = W1 at *
      clear hW
      refine hcx.mono ?_
      rintro e w2 ⟨rfl, hb2⟩
      have hL2 := loc_call hL hb2
      have ho2 := own_keep ho1 hb2
      have hbw2 := hbx.trans (hb2.mono hbx.size)
      have d0 := (loc_own hL2 0 rfl).1 0 _ rfl
      have d1 := (loc_own hL2 0 rfl).1 1 _ rfl
      clear hcx ho1 hb2
      cases lp with
      | none =>
        have HS2 : Hid (raisesP t (core.take (k + 1)) = out) := HS.out.trans (by simp)
        go_wp2_with fail
        go_roundw
        case rel => exact ⟨k + 1, v, rfl, by omega, by go_num, by rw [HS2.out]; exact ho2, hbw2⟩
        case measure => simp [intOf]; omega
      | some q =>
        have HS2 : Hid (raisesP t (core.take (k + 1)) = out ++ [(u, q)]) := HS.out
        have hzz := hbw2.size
        go_wp2_with (first | (at_builtin; refine wpList_append_cells w2 rfl (.tmp 23) (.tmp 28) 48 rfl w.heap.size 61 j0 _ 2 16 Tryd.underlying48 HI.out HY.out.1 HY.out.2.1 HY.out.2.2 rfl (by omega) v out.length (out.flatMap wayCells) [.int .i64 (u : Nat), .int .i64 q] rfl ho2 (by simp; exact ⟨rfl, rfl⟩) (by simp [Act.eval, go_sem]) (by simp [Act.eval, go_sem]) (by omega) (by omega) (by omega) ?_; intro v5 w5 hown5 hb5) | fail)
        go_wp2_with fail
        go_roundw
        case rel => exact ⟨k + 1, v5, rfl, by omega, by go_num, by rw [HS2.out, List.length_append, List.flatMap_append]; exact hown5, hbw2.trans hb5⟩
        case measure => simp [intOf]; omega
    · obtain rfl : k = n := by omega
      have HE : Hid (core.take k = core) := List.take_of_length_le (by rw [HN.out]; exact Nat.le_refl _)
      go_wp2_with fail
      go_ret
      have hO := HO.out
      rw [HE.out] at hO
      exact ⟨v, rfl, hO, hbel⟩
end Go.Proofs.YtmfdpdnokiidlaaDoor
