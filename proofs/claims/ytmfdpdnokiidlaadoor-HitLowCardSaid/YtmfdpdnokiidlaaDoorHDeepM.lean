/-
  Chapter 36: what hit.Low's variables hold in memory while its closure runs; calls, stores and puts keep it. Conditions: none of a run's own.
-/
import Derived.Test.YtmfdpdnokiidlaaDoorHSort
namespace Go.Proofs.YtmfdpdnokiidlaaDoor
open Go.ChangeShapes Go.WideShapes Go.ChangeAt Go.RowKit Go.MapKept
set_option linter.unusedVariables false
set_option linter.unusedSimpArgs false

/-- The blocks: limit's row bL, its variable bL + 1; all's variable ba, its rows behind it and below hi; best's variable bb, low's bb + 1, the map bb + 2, seen's variable bb + 3, deeper's bb + 4. -/
structure DPar where
  bL : Nat
  ba : Nat
  hi : Nat
  bb : Nat
  N : Nat
  ca : Nat
  A : Option Addr
  all : List (List Way)
structure DOk (p : DPar) : Prop where
  o1 : p.bL + 1 < p.ba
  o2 : p.ba < p.hi
  o3 : p.hi ≤ p.bb
  n0 : 0 < p.N
  n1 : p.N ≤ 100
  al : p.all.length ≤ 100
  ac : p.all.length ≤ p.ca
  ways : ∀ l ∈ p.all, Ways p.N l
  ways0 : ∀ l ∈ p.all, 0 < l.length ∧ l.length ≤ 12
def dCap (p : DPar) : Array Value := #[.pointer (some ⟨p.bb + 3, 0, none⟩), .pointer (some ⟨p.bL + 1, 0, none⟩), .pointer (some ⟨p.bb, 0, none⟩), .pointer (some ⟨p.ba, 0, none⟩), .pointer (some ⟨p.bb + 1, 0, none⟩), .pointer (some ⟨p.bb + 4, 0, none⟩)]
def ksL (l : List (List Int)) : List Value := l.map fun x => .string ⟨(keyL x).toArray⟩
theorem ksL_mem {l : List (List Int)} (hl : ∀ s ∈ l, Lim s) {x : List Int} (hx : Lim x) : l.contains x = true ↔ Value.string ⟨(keyL x).toArray⟩ ∈ ksL l := by
  unfold ksL
  simp only [List.contains_eq_mem, decide_eq_true_eq, List.mem_map]
  constructor
  · intro h; exact ⟨x, h, rfl⟩
  · rintro ⟨v, hv, e⟩
    injection e with e
    injection e with e
    have e2 : keyL v = keyL x := by have := congrArg Array.toList e; simpa using this
    rwa [← key_inj (hl v hv) hx e2]
/-- The rows of all: in any world whose blocks from lo to hi are as here they read as all. -/
def RdR (lo hi : Nat) (W : World) (A : Option Addr) (all : List (List Way)) : Prop := ∀ W' : World, (∀ b, lo ≤ b → b < hi → W'.heap[b]? = W.heap[b]?) → RdWW W' hi A all
theorem RdR.same {lo hi : Nat} {W W' : World} {A : Option Addr} {all : List (List Way)} (h : RdR lo hi W A all) (he : ∀ b, lo ≤ b → b < hi → W'.heap[b]? = W.heap[b]?) : RdR lo hi W' A all :=
  fun W2 h2 => h W2 fun b h3 h4 => (h2 b h3 h4).trans (he b h3 h4)
def BestV (p : DPar) (W : World) : Option (List Int) → Value → Prop
  | none, v => v = .slice none 0 0
  | some b, v => ∃ g cap, v = .slice (some ⟨g, 0, none⟩) p.N cap ∧ p.N ≤ cap ∧ p.bb + 5 ≤ g ∧ g < W.heap.size ∧ Cells W g (b.map (Value.int .i64)) ∧ b.length = p.N
theorem BestV.same {p : DPar} {W W' : World} {o : Option (List Int)} {v : Value} (h : BestV p W o v) (hs : W.heap.size ≤ W'.heap.size) (he : ∀ b, p.bb + 5 ≤ b → b < W.heap.size → W'.heap[b]? = W.heap[b]?) : BestV p W' o v := by
  cases o with
  | none => exact h
  | some b =>
    obtain ⟨g, cap, h1, h2, h3, h4, h5, h6⟩ := h
    exact ⟨g, cap, h1, h2, h3, by omega, fun i u hu => (World.cell?_of_block (w := W) (a := ⟨g, i, none⟩) (he g h3 h4)).trans (h5 i u hu), h6⟩
def BestAt (p : DPar) (o : Option (List Int)) (W : World) : Prop := ∃ v, Own W p.bb [v] ∧ BestV p W o v
theorem own_same {W W' : World} {b : Nat} {xs : List Value} (h : Own W b xs) (he : W'.heap[b]? = W.heap[b]?) : Own W' b xs :=
  ⟨fun i u hu => (World.cell?_of_block (w := W) (a := ⟨b, i, none⟩) he).trans (h.1 i u hu), fun o => (World.frozen?_of_block (w := W) (a := ⟨b, o, none⟩) he).trans (h.2 o)⟩

/-- What stands in memory when the closure is called, and when it has returned. -/
structure DIn (p : DPar) (lim : List Int) (st : StH) (W : World) : Prop where
  len : lim.length = p.N
  lims : Lim lim
  row : Own W p.bL (lim.map (Value.int .i64))
  limv : W.cell? ⟨p.bL + 1, 0, none⟩ = some (.slice (some ⟨p.bL, 0, none⟩) p.N p.N)
  allv : W.cell? ⟨p.ba, 0, none⟩ = some (.slice p.A p.all.length p.ca)
  alls : RdR (p.ba + 1) p.hi W p.A p.all
  best : BestAt p st.best W
  lowv : Own W (p.bb + 1) [.int .i64 st.low]
  seenm : SetB .string W (p.bb + 2) (ksL st.seen)
  seens : ∀ s ∈ st.seen, Lim s
  seenv : W.cell? ⟨p.bb + 3, 0, none⟩ = some (.map (some (p.bb + 2)))
  deepv : W.cell? ⟨p.bb + 4, 0, none⟩ = some (.func (.func 24) #[] (dCap p))
  tab : ∀ W', Below p.bL W W' → Tab W'
  size : p.bb + 4 < W.heap.size
theorem DIn.same {p : DPar} {lim : List Int} {st : StH} {W W' : World} (h : DIn p lim st W) (ok : DOk p) (hb : Below p.bL W W') (he : ∀ b, p.bL ≤ b → b < W.heap.size → W'.heap[b]? = W.heap[b]?) : DIn p lim st W' := by
  have o1 := ok.o1
  have o2 := ok.o2
  have o3 := ok.o3
  have hs := h.size
  have hsz := hb.size
  have hc : ∀ (b i : Nat), p.bL ≤ b → b < W.heap.size → W'.cell? ⟨b, i, none⟩ = W.cell? ⟨b, i, none⟩ := fun b i h1 h2 => World.cell?_of_block (w := W) (a := ⟨b, i, none⟩) (he b h1 h2)
  obtain ⟨v, hv1, hv2⟩ := h.best
  exact ⟨h.len, h.lims, own_same h.row (he _ (by omega) (by omega)), (hc _ _ (by omega) (by omega)).trans h.limv, (hc _ _ (by omega) (by omega)).trans h.allv,
    h.alls.same fun b h1 h2 => he b (by omega) (by omega), ⟨v, own_same hv1 (he _ (by omega) (by omega)), hv2.same hsz fun b h1 h2 => he b (by omega) h2⟩, own_same h.lowv (he _ (by omega) (by omega)),
    h.seenm.kept (he _ (by omega) (by omega)), h.seens, (hc _ _ (by omega) (by omega)).trans h.seenv, (hc _ _ (by omega) (by omega)).trans h.deepv, fun W2 h2 => h.tab W2 (hb.trans h2), by omega⟩
theorem DIn.call {p : DPar} {lim : List Int} {st : StH} {W W' : World} (h : DIn p lim st W) (ok : DOk p) (hb : Below W.heap.size W W') : DIn p lim st W' :=
  h.same ok (hb.mono (by have := h.size; have := ok.o1; have := ok.o2; have := ok.o3; omega)) fun b _ h2 => hb.block b h2
theorem DIn.drew {p : DPar} {lim : List Int} {st : StH} {W : World} (h : DIn p lim st W) (ok : DOk p) : DIn p lim st W.drew := h.call ok (Below.refl _ _).drew
/-- The limit's row is set at one place. -/
theorem DIn.set {p : DPar} {lim : List Int} {st : StH} {W : World} (h : DIn p lim st W) (ok : DOk p) {u : Nat} {c : Int} (hu : u < p.N) (h0 : 0 ≤ c ∧ c ≤ 16777216) : DIn p (lim.set u c) st (W.setCell ⟨p.bL, u, none⟩ (.int .i64 c)) := by
  have o1 := ok.o1
  have o2 := ok.o2
  have o3 := ok.o3
  have hs := h.size
  have he : ∀ b, b ≠ p.bL → (W.setCell ⟨p.bL, u, none⟩ (.int .i64 c)).heap[b]? = W.heap[b]? := fun b hb => Below.heap_setCell W ⟨p.bL, u, none⟩ _ b hb
  have hc : ∀ (b i : Nat), b ≠ p.bL → (W.setCell ⟨p.bL, u, none⟩ (.int .i64 c)).cell? ⟨b, i, none⟩ = W.cell? ⟨b, i, none⟩ := fun b i h1 => World.cell?_of_block (w := W) (a := ⟨b, i, none⟩) (he b h1)
  have hb : Below p.bL W (W.setCell ⟨p.bL, u, none⟩ (.int .i64 c)) := Below.setCell (p := ⟨p.bL, u, none⟩) (Below.refl _ _) (show p.bL ≤ p.bL from Nat.le_refl _) _
  have hsz : (W.setCell ⟨p.bL, u, none⟩ (.int .i64 c)).heap.size = W.heap.size := by simp
  obtain ⟨v, hv1, hv2⟩ := h.best
  refine ⟨by rw [List.length_set]; exact h.len, fun x hx => ?_, ?_, (hc _ _ (by omega)).trans h.limv, (hc _ _ (by omega)).trans h.allv,
    h.alls.same fun b h1 h2 => he b (by omega), ⟨v, own_same hv1 (he _ (by omega)), hv2.same hb.size fun b h1 h2 => he b (by omega)⟩, own_same h.lowv (he _ (by omega)),
    h.seenm.kept (he _ (by omega)), h.seens, (hc _ _ (by omega)).trans h.seenv, (hc _ _ (by omega)).trans h.deepv, fun W2 h2 => h.tab W2 (hb.trans h2), by omega⟩
  · rcases List.mem_or_eq_of_mem_set hx with hx | rfl
    · exact h.lims x hx
    · exact h0
  · rw [List.map_set]
    exact own_set h.row u (by rw [List.length_map, h.len]; exact hu) _
/-- The text of the limit is put into the set. -/
theorem DIn.put {p : DPar} {lim x : List Int} {st : StH} {W W' : World} (h : DIn p lim st W) (ok : DOk p) (hx : Lim x) (hg : W.grownBy W' (some (p.bb + 2))) (hm : SetB .string W' (p.bb + 2) (.string ⟨(keyL x).toArray⟩ :: ksL st.seen)) : DIn p lim ⟨x :: st.seen, st.best, st.low⟩ W' := by
  have o1 := ok.o1
  have o2 := ok.o2
  have o3 := ok.o3
  have hs := h.size
  have he : ∀ b, b < W.heap.size → b ≠ p.bb + 2 → W'.heap[b]? = W.heap[b]? := fun b h1 h2 => hg.block b h1 (by simpa using h2)
  have hc : ∀ (b i : Nat), b < W.heap.size → b ≠ p.bb + 2 → W'.cell? ⟨b, i, none⟩ = W.cell? ⟨b, i, none⟩ := fun b i h1 h2 => World.cell?_of_block (w := W) (a := ⟨b, i, none⟩) (he b h1 h2)
  have hb : Below p.bL W W' := (Below.refl _ _).grown hg (by omega) (by rintro k ⟨⟩; omega)
  have hsz := hg.size
  obtain ⟨v, hv1, hv2⟩ := h.best
  refine ⟨h.len, h.lims, own_same h.row (he _ (by omega) (by omega)), (hc _ _ (by omega) (by omega)).trans h.limv, (hc _ _ (by omega) (by omega)).trans h.allv,
    h.alls.same fun b h1 h2 => he b (by omega) (by omega), ⟨v, own_same hv1 (he _ (by omega) (by omega)), hv2.same hsz fun b h1 h2 => he b h2 (by omega)⟩, own_same h.lowv (he _ (by omega) (by omega)),
    hm, fun s hs => ?_, (hc _ _ (by omega) (by omega)).trans h.seenv, (hc _ _ (by omega) (by omega)).trans h.deepv, fun W2 h2 => h.tab W2 (hb.trans h2), by omega⟩
  rcases List.mem_cons.1 hs with rfl | hs
  · exact hx
  · exact h.seens s hs
/-- best and low are set. -/
theorem DIn.take {p : DPar} {lim : List Int} {st : StH} {W : World} {g cap : Nat} {tot : Int} (h : DIn p lim st W) (ok : DOk p) (hg : p.bb + 5 ≤ g) (hgs : g < W.heap.size) (hcap : p.N ≤ cap) (hc : Cells W g (lim.map (Value.int .i64))) :
    DIn p lim ⟨st.seen, some lim, tot⟩ ((W.setCell ⟨p.bb, 0, none⟩ (.slice (some ⟨g, 0, none⟩) p.N cap)).setCell ⟨p.bb + 1, 0, none⟩ (.int .i64 tot)) := by
  have o1 := ok.o1
  have o2 := ok.o2
  have o3 := ok.o3
  have hs := h.size
  obtain ⟨v, hv1, hv2⟩ := h.best
  obtain ⟨W1, hW1⟩ : ∃ W1, W.setCell ⟨p.bb, 0, none⟩ (.slice (some ⟨g, 0, none⟩) p.N cap) = W1 := ⟨_, rfl⟩
  have e1 : ∀ b, b ≠ p.bb → W1.heap[b]? = W.heap[b]? := fun b hb => by rw [← hW1]; exact Below.heap_setCell W ⟨p.bb, 0, none⟩ _ b hb
  have s1 : W1.heap.size = W.heap.size := by rw [← hW1]; simp
  have b1 : Below p.bL W W1 := by rw [← hW1]; exact (Below.refl _ _).setCell (show p.bL ≤ p.bb by omega) _
  have v1 : Own W1 p.bb [.slice (some ⟨g, 0, none⟩) p.N cap] := by rw [← hW1]; exact own_set hv1 0 (by simp) _
  have l1 : Own W1 (p.bb + 1) [.int .i64 st.low] := own_same h.lowv (e1 _ (by omega))
  rw [hW1]
  obtain ⟨W2, hW2⟩ : ∃ W2, W1.setCell ⟨p.bb + 1, 0, none⟩ (.int .i64 tot) = W2 := ⟨_, rfl⟩
  have e2 : ∀ b, b ≠ p.bb + 1 → W2.heap[b]? = W1.heap[b]? := fun b hb => by rw [← hW2]; exact Below.heap_setCell W1 ⟨p.bb + 1, 0, none⟩ _ b hb
  have s2 : W2.heap.size = W1.heap.size := by rw [← hW2]; simp
  have b2 : Below p.bL W1 W2 := by rw [← hW2]; exact (Below.refl _ _).setCell (show p.bL ≤ p.bb + 1 by omega) _
  have l2 : Own W2 (p.bb + 1) [.int .i64 tot] := by rw [← hW2]; exact own_set l1 0 (by simp) _
  rw [hW2]
  clear hW1 hW2
  have he : ∀ b, b ≠ p.bb → b ≠ p.bb + 1 → W2.heap[b]? = W.heap[b]? := fun b h1 h2 => (e2 b h2).trans (e1 b h1)
  have hcl : ∀ (b i : Nat), b ≠ p.bb → b ≠ p.bb + 1 → W2.cell? ⟨b, i, none⟩ = W.cell? ⟨b, i, none⟩ := fun b i h1 h2 => World.cell?_of_block (w := W) (a := ⟨b, i, none⟩) (he b h1 h2)
  exact ⟨h.len, h.lims, own_same h.row (he _ (by omega) (by omega)), (hcl _ _ (by omega) (by omega)).trans h.limv, (hcl _ _ (by omega) (by omega)).trans h.allv,
    h.alls.same fun b h1 h2 => he b (by omega) (by omega),
    ⟨_, own_same v1 (e2 _ (by omega)), g, cap, rfl, hcap, hg, by omega, fun i u hu => (hcl _ _ (by omega) (by omega)).trans (hc i u hu), h.len⟩, l2,
    h.seenm.kept (he _ (by omega) (by omega)), h.seens, (hcl _ _ (by omega) (by omega)).trans h.seenv, (hcl _ _ (by omega) (by omega)).trans h.deepv, fun W3 h3 => h.tab W3 ((b1.trans b2).trans h3), by omega⟩

/-- What the closure leaves as it was: all below limit's row, and all blocks that were there behind deeper's variable. -/
structure Kp (p : DPar) (W W' : World) : Prop where
  bel : Below p.bL W W'
  top : ∀ b, p.bb + 5 ≤ b → b < W.heap.size → W'.heap[b]? = W.heap[b]?
theorem Kp.refl (p : DPar) (W : World) : Kp p W W := ⟨Below.refl _ _, fun _ _ _ => rfl⟩
theorem Kp.trans {p : DPar} {a b c : World} (h : Kp p a b) (k : Kp p b c) : Kp p a c := ⟨h.bel.trans k.bel, fun i h1 h2 => (k.top i h1 (by have := h.bel.size; omega)).trans (h.top i h1 h2)⟩
theorem Kp.call {p : DPar} {a b c : World} (h : Kp p a b) (hs : p.bL ≤ b.heap.size) (k : Below b.heap.size b c) : Kp p a c := h.trans ⟨k.mono hs, fun i _ h2 => k.block i h2⟩
theorem Kp.drew {p : DPar} {a b : World} (h : Kp p a b) : Kp p a b.drew := ⟨h.bel.drew, h.top⟩
theorem Kp.set {p : DPar} {a b : World} (h : Kp p a b) {ad : Addr} (h1 : p.bL ≤ ad.block) (h2 : ad.block < p.bb + 5) (u : Value) : Kp p a (b.setCell ad u) :=
  ⟨h.bel.setCell h1 u, fun i h3 h4 => (Below.heap_setCell b ad u i (by omega)).trans (h.top i h3 h4)⟩
theorem Kp.put {p : DPar} {a b c : World} (h : Kp p a b) (ok : DOk p) (hs : p.bb + 4 < b.heap.size) (k : b.grownBy c (some (p.bb + 2))) : Kp p a c :=
  h.trans ⟨(Below.refl _ _).grown k (by have := ok.o1; have := ok.o2; have := ok.o3; omega) (by rintro i ⟨⟩; have := ok.o1; have := ok.o2; have := ok.o3; omega), fun i h1 h2 => k.block i h2 (by simp; omega)⟩
/-- Limit's row as a callee reads it. -/
theorem DIn.rd {p : DPar} {lim : List Int} {st : StH} {W : World} (h : DIn p lim st W) : RdI W (p.bL + 1) (some ⟨p.bL, 0, none⟩) lim :=
  ⟨by simp, fun _ => ⟨p.bL, 0, rfl, Nat.lt_succ_self _, fun j u hu => by rw [Nat.zero_add]; exact h.row.1 j u hu⟩⟩
theorem DIn.rda {p : DPar} {lim : List Int} {st : StH} {W : World} (h : DIn p lim st W) : RdWW W p.hi p.A p.all := h.alls W fun _ _ _ => rfl
end Go.Proofs.YtmfdpdnokiidlaaDoor
