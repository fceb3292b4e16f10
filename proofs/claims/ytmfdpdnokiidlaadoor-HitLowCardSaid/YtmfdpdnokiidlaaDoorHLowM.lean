/-
  Chapter 36: hit.Low's plain loops, its rows of ways in memory, its variables as the closure finds them. Conditions: none of a run's own.
-/
import Derived.Test.YtmfdpdnokiidlaaDoorHDeep
import Derived.Test.YtmfdpdnokiidlaaDoorHGrow
namespace Go.Proofs.YtmfdpdnokiidlaaDoor
open Go.ChangeShapes Go.WideShapes Go.ChangeAt Go.RowKit Go.MapKept
set_option linter.unusedVariables false
set_option linter.unusedSimpArgs false

theorem min_of {row : List Int} (h : row ≠ []) : Lib.minOf row = minR row := by
  cases row with
  | nil => exact absurd rfl h
  | cons c row => show (c :: row).foldl min c = row.foldl min c; rw [List.foldl_cons, Int.min_self]
/-- The limit's row after so many rounds. -/
def limK (t : List (List Int)) (k : Nat) : List Int := (t.take k).map minR ++ List.replicate (t.length - k) 0
theorem limK_0 (t : List (List Int)) : limK t 0 = List.replicate t.length 0 := by simp [limK]
theorem limK_end (t : List (List Int)) : limK t t.length = t.map minR := by simp [limK]
theorem limK_len (t : List (List Int)) (k : Nat) (h : k ≤ t.length) : (limK t k).length = t.length := by simp [limK]; omega
theorem limK_set {t : List (List Int)} {k : Nat} {row : List Int} (h : t[k]? = some row) : (limK t k).set k (minR row) = limK t (k + 1) := by
  obtain ⟨hlt, rfl⟩ := List.getElem?_eq_some_iff.1 h
  unfold limK
  have hl : ((t.take k).map minR).length = k := by simp; omega
  rw [show t.length - k = (t.length - (k + 1)) + 1 by omega, List.replicate_succ, List.set_append_right _ _ (by omega), hl, Nat.sub_self, List.set_cons_zero, List.take_succ_eq_append_getElem hlt, List.map_append, List.append_assoc]
  rfl
def totK (t : List (List Int)) (k : Nat) : Int := ((t.take k).map minR).sum
theorem totK_succ {t : List (List Int)} {k : Nat} {row : List Int} (h : t[k]? = some row) : totK t (k + 1) = totK t k + minR row := by
  obtain ⟨hlt, rfl⟩ := List.getElem?_eq_some_iff.1 h
  unfold totK
  rw [List.take_succ_eq_append_getElem hlt, List.map_append, List.sum_append]
  simp
/-- Costs of this chapter. -/
def TabOk (t : List (List Int)) : Prop := ∀ r ∈ t, (0 < r.length ∧ r.length ≤ 5) ∧ ∀ x ∈ r, 0 ≤ x ∧ x ≤ 16777216
theorem tab_ne {t : List (List Int)} (h : TabOk t) : ∀ r ∈ t, r ≠ [] := fun r hr e => by have := (h r hr).1.1; rw [e] at this; simp at this
theorem min_bd {t : List (List Int)} (h : TabOk t) {r : List Int} (hr : r ∈ t) : 0 ≤ minR r ∧ minR r ≤ 16777216 := (h r hr).2 _ (min_ok (tab_ne h r hr)).1
theorem lim_min {t : List (List Int)} (h : TabOk t) : Lim (t.map minR) := fun x hx => by
  obtain ⟨r, hr, rfl⟩ := List.mem_map.1 hx
  exact min_bd h hr
theorem totK_bd {t : List (List Int)} (h : TabOk t) (k : Nat) (hk : k ≤ 100) : 0 ≤ totK t k ∧ totK t k ≤ 1677721600 := by
  have h1 : Lim ((t.take k).map minR) := fun x hx => by
    obtain ⟨r, hr, rfl⟩ := List.mem_map.1 hx
    exact min_bd h (List.mem_of_mem_take hr)
  have h2 := sum_bd h1
  have h3 : ((t.take k).map minR).length ≤ k := by simp; omega
  unfold totK
  omega
theorem max_hit {t : List (List Int)} (ht : ∀ r ∈ t, r ≠ []) {c : List Tm} (h : (raisesP t c).isEmpty = false) : hitsR t (t.map maxR) c = true := by
  rw [← hits_same]
  cases hl : raisesP t c with
  | nil => rw [hl] at h; cases h
  | cons r l =>
    have hr : r ∈ raisesP t c := by rw [hl]; simp
    obtain ⟨row, h1, h2⟩ := raises_mem hr
    refine List.any_eq_true.2 ⟨r, by simp, ?_⟩
    unfold hitW
    rw [decide_eq_true_eq]
    have hm := (max_ok (ht row (List.mem_of_getElem? h1))).2 _ h2
    have e : (t.map maxR).getD r.1 0 = maxR row := by rw [List.getD_eq_getElem?_getD, List.getElem?_map, h1]; rfl
    rw [e]
    exact hm
/-- Where each core has a way the search has found a limit. -/
theorem lowP_found {t : List (List Int)} (ht : ∀ r ∈ t, r ≠ []) {cores : List (List Tm)} (h : ∀ c ∈ cores, (raisesP t c).isEmpty = false) :
    ∃ b, (deeperH SRT (cores.map (raisesP t)) (fuelH (cores.map (raisesP t))) (t.map minR) (t.map minR).sum ⟨[], none, 0⟩).best = some b ∧ lowP SRT t cores = some ((deeperH SRT (cores.map (raisesP t)) (fuelH (cores.map (raisesP t))) (t.map minR) (t.map minR).sum ⟨[], none, 0⟩).low, b) := by
  have hsome := (lowP_some (srt := SRT) SRT_mem ht (cores := cores)).2 ⟨t.map maxR, max_inD ht, fun c hc => max_hit ht (h c hc)⟩
  obtain ⟨n, L, hl⟩ := hsome
  have hn : ¬ (cores.any fun c => (raisesP t c).isEmpty) = true := by
    intro hh
    obtain ⟨c, hc, he⟩ := List.any_eq_true.1 hh
    rw [h c hc] at he
    cases he
  unfold lowP at hl ⊢
  rw [if_neg hn] at hl ⊢
  generalize deeperH SRT (cores.map (raisesP t)) (fuelH (cores.map (raisesP t))) (t.map minR) (t.map minR).sum ⟨[], none, 0⟩ = st at *
  cases hb : st.best with
  | none => rw [hb] at hl; cases hl
  | some b => exact ⟨b, rfl, rfl⟩
theorem lowP_no {t : List (List Int)} {cores : List (List Tm)} {c : List Tm} (hc : c ∈ cores) (h : (raisesP t c).isEmpty = true) : lowP SRT t cores = none := by
  unfold lowP
  rw [if_pos (List.any_eq_true.2 ⟨c, hc, h⟩)]

/-! The rows of ways. -/
def AllAt (W : World) (base : Nat) (v : Value) (rows : List (List Way)) : Prop :=
  ∃ vs : List Value, W.ownsRow base 48 1 v rows.length vs ∧ ∀ (i : Nat) (r : List Way), rows[i]? = some r → ∃ Ai ci, vs[i]? = some (.slice Ai r.length ci) ∧ r.length ≤ ci ∧ W.ownsRow base 61 2 (.slice Ai r.length ci) r.length (r.flatMap wayCells)
theorem AllAt.stay {W W' : World} {base : Nat} {v : Value} {rows : List (List Way)} (h : AllAt W base v rows) (hk : ∀ g, base ≤ g → g < W.heap.size → W'.heap[g]? = W.heap[g]?) : AllAt W' base v rows := by
  obtain ⟨vs, h1, h2⟩ := h
  refine ⟨vs, own_stay h1 fun g _ => hk g, fun i r hr => ?_⟩
  obtain ⟨Ai, ci, g1, g2, g3⟩ := h2 i r hr
  exact ⟨Ai, ci, g1, g2, own_stay g3 fun g _ => hk g⟩
theorem rdW_more {w : World} {B B' : Nat} {A : Option Addr} {l : List Way} (h : RdW w B A l) (hB : B ≤ B') : RdW w B' A l := fun h0 => by
  obtain ⟨b, e, hb, hc⟩ := h h0
  exact ⟨b, e, by omega, hc⟩
theorem own_rdr {W W' : World} {base n : Nat} {e : TypeId} {A : Option Addr} {cap : Nat} {l : List Way} (h : W.ownsRow base e 2 (.slice A n cap) n (l.flatMap wayCells)) (he : ∀ b, base ≤ b → b < W.heap.size → W'.heap[b]? = W.heap[b]?) : RdW W' W.heap.size A l := by
  have h2 := own_stay h fun g _ h1 h2 => he g h1 h2
  intro h0
  obtain ⟨A2, cap2, ev, _, _, hr⟩ := own_rdw h2
  cases ev
  obtain ⟨b, e1, _, hc⟩ := hr h0
  refine ⟨b, e1, ?_, hc⟩
  rcases h.2 with ⟨ev, h0'⟩ | ⟨g, cap3, cur, ev, _, hh, _⟩
  · have hln : l.length = n := by have h1 := h.1; rw [way_flat] at h1; omega
    omega
  · cases ev
    cases e1
    exact (Array.getElem?_eq_some_iff.1 hh).1
theorem AllAt.rd {W : World} {base : Nat} {v : Value} {rows : List (List Way)} (h : AllAt W base v rows) : ∃ A cap, v = .slice A rows.length cap ∧ rows.length ≤ cap ∧ RdR base W.heap.size W A rows := by
  obtain ⟨vs, h1, h2⟩ := h
  have hl : vs.length = rows.length := by simpa using h1.1
  have hc : ∃ A cap, v = .slice A rows.length cap ∧ rows.length ≤ cap := by
    rcases h1.2 with ⟨e, h0⟩ | ⟨g, cap, cur, e, _, _, hcap, _⟩
    · exact ⟨none, 0, by rw [e, h0], by omega⟩
    · exact ⟨_, cap, e, hcap⟩
  obtain ⟨A, cap, rfl, hcap⟩ := hc
  refine ⟨A, cap, rfl, hcap, fun W' he => ⟨vs, ?_, fun i r hi => ?_⟩⟩
  · refine ⟨hl, fun h0 => ?_⟩
    rcases h1.2 with ⟨e, h0'⟩ | ⟨g, cap3, cur, e, hg, hh, _⟩
    · omega
    · cases e
      have hlt := (Array.getElem?_eq_some_iff.1 hh).1
      refine ⟨g, 0, rfl, hlt, fun j u hu => ?_⟩
      have hcj := h1.cells (g := g) rfl j u hu
      rw [add_plain] at hcj
      exact (World.cell?_of_block (w := W) (a := ⟨g, 0 + j, none⟩) (he g hg hlt)).trans hcj
  · obtain ⟨Ai, ci, g1, g2, g3⟩ := h2 i r hi
    exact ⟨Ai, ci, g1, g2, own_rdr g3 he⟩
theorem info_ways : (Tryd.prog.info? 48).map (fun i => (i.zero, i.size, i.bytes)) = some (some (.slice none 0 0), 1, 24) := by kernel_rfl
theorem alloc_size (w : World) (o : Obj) : (w.alloc o).heap.size = w.heap.size + 1 := by simp
/-- The variables as the closure finds them first. -/
theorem din_start (p : DPar) (ok : DOk p) (W : World) (lim : List Int) (hlen : lim.length = p.N) (hlim : Lim lim) (row : Own W p.bL (lim.map (Value.int .i64))) (limv : W.cell? ⟨p.bL + 1, 0, none⟩ = some (.slice (some ⟨p.bL, 0, none⟩) p.N p.N))
    (allv : W.cell? ⟨p.ba, 0, none⟩ = some (.slice p.A p.all.length p.ca)) (alls : RdR (p.ba + 1) p.hi W p.A p.all) (hbb : p.bb = W.heap.size) (tab : ∀ W', Below p.bL W W' → Tab W') (t1 t2 t4 t5 : TypeId) :
    DIn p lim ⟨[], none, 0⟩ (((((W.alloc (.cells #[.slice none 0 0] t1)).alloc (.cells #[.int .i64 0] t2)).alloc (.map #[] 0)).alloc (.cells #[.map (some (p.bb + 2))] t4)).alloc (.cells #[.func (.func 24) #[] (dCap p)] t5)) ∧
    Below W.heap.size W (((((W.alloc (.cells #[.slice none 0 0] t1)).alloc (.cells #[.int .i64 0] t2)).alloc (.map #[] 0)).alloc (.cells #[.map (some (p.bb + 2))] t4)).alloc (.cells #[.func (.func 24) #[] (dCap p)] t5)) := by
  have o1 := ok.o1
  have o2 := ok.o2
  have o3 := ok.o3
  obtain ⟨W1, h1⟩ : ∃ X, W.alloc (.cells #[.slice none 0 0] t1) = X := ⟨_, rfl⟩
  have n1 : Own W1 p.bb [.slice none 0 0] := by rw [← h1, hbb]; exact own_new W [.slice none 0 0] t1
  have b1 : Below W.heap.size W W1 := by rw [← h1]; exact box_below _ _
  have s1 : W1.heap.size = p.bb + 1 := by rw [← h1, alloc_size, hbb]
  rw [h1]
  obtain ⟨W2, h2⟩ : ∃ X, W1.alloc (.cells #[.int .i64 0] t2) = X := ⟨_, rfl⟩
  have n2 : Own W2 (p.bb + 1) [.int .i64 0] := by rw [← h2, ← s1]; exact own_new W1 [.int .i64 0] t2
  have b2 : Below W1.heap.size W1 W2 := by rw [← h2]; exact box_below _ _
  have s2 : W2.heap.size = p.bb + 2 := by rw [← h2, alloc_size, s1]
  rw [h2]
  obtain ⟨W3, h3⟩ : ∃ X, W2.alloc (.map #[] 0) = X := ⟨_, rfl⟩
  have n3 : SetB .string W3 (p.bb + 2) [] := by rw [← h3, ← s2]; exact setB_made .string W2
  have b3 : Below W2.heap.size W2 W3 := by rw [← h3]; exact box_below _ _
  have s3 : W3.heap.size = p.bb + 3 := by rw [← h3, alloc_size, s2]
  rw [h3]
  obtain ⟨W4, h4⟩ : ∃ X, W3.alloc (.cells #[.map (some (p.bb + 2))] t4) = X := ⟨_, rfl⟩
  have n4 : Own W4 (p.bb + 3) [.map (some (p.bb + 2))] := by rw [← h4, ← s3]; exact own_new W3 [.map (some (p.bb + 2))] t4
  have b4 : Below W3.heap.size W3 W4 := by rw [← h4]; exact box_below _ _
  have s4 : W4.heap.size = p.bb + 4 := by rw [← h4, alloc_size, s3]
  rw [h4]
  obtain ⟨W5, h5⟩ : ∃ X, W4.alloc (.cells #[.func (.func 24) #[] (dCap p)] t5) = X := ⟨_, rfl⟩
  have n5 : Own W5 (p.bb + 4) [.func (.func 24) #[] (dCap p)] := by rw [← h5, ← s4]; exact own_new W4 [.func (.func 24) #[] (dCap p)] t5
  have b5 : Below W4.heap.size W4 W5 := by rw [← h5]; exact box_below _ _
  have s5 : W5.heap.size = p.bb + 5 := by rw [← h5, alloc_size, s4]
  rw [h5]
  clear h1 h2 h3 h4 h5
  have hb : Below W.heap.size W W5 := (((b1.trans (b2.mono (by omega))).trans (b3.mono (by omega))).trans (b4.mono (by omega))).trans (b5.mono (by omega))
  have k45 := b5
  have k35 : Below W3.heap.size W3 W5 := b4.trans (b5.mono (by omega))
  have k25 : Below W2.heap.size W2 W5 := b3.trans (k35.mono (by omega))
  have k15 : Below W1.heap.size W1 W5 := b2.trans (k25.mono (by omega))
  exact ⟨⟨hlen, hlim, own_below row (by omega) hb, (hb.cell (p := ⟨p.bL + 1, 0, none⟩) (show p.bL + 1 < _ by omega)).trans limv, (hb.cell (p := ⟨p.ba, 0, none⟩) (show p.ba < _ by omega)).trans allv,
    alls.same fun b h1 h2 => hb.block b (by omega), ⟨_, own_below n1 (by omega) k15, rfl⟩, own_below n2 (by omega) k25, n3.below k35 (by omega), fun s hs => by simp at hs,
    (own_below n4 (by omega) k45).1 0 _ rfl, n5.1 0 _ rfl, fun W' h' => tab W' ((hb.mono (by omega)).trans h'), by omega⟩, hb⟩
end Go.Proofs.YtmfdpdnokiidlaaDoor
