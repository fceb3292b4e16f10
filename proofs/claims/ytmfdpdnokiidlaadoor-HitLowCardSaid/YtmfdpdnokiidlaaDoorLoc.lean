/-
  Blocks of a call's own: their cells kept in one word over allocations, stores and calls. Conditions: none.
-/
import Derived.Test.YtmfdpdnokiidlaaDoorCells

import Derived.Handy
namespace Go.Proofs.YtmfdpdnokiidlaaDoor
open Go.ChangeShapes Go.WideShapes Go.ChangeAt Go.RowKit
set_option linter.unusedVariables false

theorem own_set {W : World} {b : Nat} {xs : List Value} (h : Own W b xs) (i : Nat) (hi : i < xs.length) (y : Value) : Own (W.setCell ⟨b, i, none⟩ y) b (xs.set i y) := by
  refine ⟨fun j u hu => ?_, fun o => by rw [World.frozen?_setCell]; exact h.2 o⟩
  by_cases e : i = j
  · subst e
    rw [List.getElem?_set_self hi] at hu
    cases hu
    exact World.cell?_setCell_same _ _ _ (h.1 i _ (List.getElem?_eq_getElem hi))
  · rw [List.getElem?_set_ne e] at hu
    rw [World.cell?_setCell_other W ⟨b, i, none⟩ ⟨b, j, none⟩ y (fun g => e (by injection g))]
    exact h.1 j u hu
theorem own_set_other {W : World} {b c i : Nat} {xs : List Value} (h : Own W b xs) (hne : b ≠ c) (y : Value) : Own (W.setCell ⟨c, i, none⟩ y) b xs := by
  refine ⟨fun j u hu => ?_, fun o => by rw [World.frozen?_setCell]; exact h.2 o⟩
  rw [World.cell?_setCell_other W ⟨c, i, none⟩ ⟨b, j, none⟩ y (fun g => hne (by injection g with g; exact g.symm))]
  exact h.1 j u hu
/-- A list with a stretch written anew. -/
def putX : List Value → Nat → List Value → List Value
  | xs, _, [] => xs
  | xs, i, y :: ys => putX (xs.set i y) (i + 1) ys
theorem putX_len : ∀ (ys : List Value) (xs : List Value) (i : Nat), (putX xs i ys).length = xs.length
  | [], _, _ => rfl
  | y :: ys, xs, i => by rw [putX, putX_len ys, List.length_set]
theorem own_put {b : Nat} : ∀ (ys : List Value) (W : World) (xs : List Value) (i : Nat), Own W b xs → i + ys.length ≤ xs.length → Own (putL W b i ys) b (putX xs i ys)
  | [], _, _, _, h, _ => h
  | y :: ys, W, xs, i, h, hi => by
    rw [List.length_cons] at hi
    exact own_put ys _ _ _ (own_set h i (by omega) y) (by rw [List.length_set]; omega)
theorem own_put_other {b c : Nat} (hne : b ≠ c) : ∀ (ys : List Value) (W : World) (xs : List Value) (i : Nat), Own W b xs → Own (putL W c i ys) b xs
  | [], _, _, _, h => h
  | y :: ys, W, xs, i, h => own_put_other hne ys _ _ _ (own_set_other h hne y)
theorem below_put {B b : Nat} {w : World} (hB : B ≤ b) : ∀ (ys : List Value) (W : World) (i : Nat), Below B w W → Below B w (putL W b i ys)
  | [], _, _, h => h
  | y :: ys, W, i, h => below_put hB ys _ _ (h.setCell hB y)

/-- The blocks of a call's own, in the order of their making. -/
def Loc (w W : World) (L : List (Nat × List Value)) : Prop :=
  Below w.heap.size w W ∧ L.Pairwise (fun x y => x.1 ≠ y.1) ∧ ∀ x ∈ L, w.heap.size ≤ x.1 ∧ x.1 < W.heap.size ∧ Own W x.1 x.2
theorem loc_start (w : World) : Loc w w [] := ⟨Below.refl _ _, List.Pairwise.nil, fun x hx => absurd hx (by simp)⟩
theorem loc_below {w W : World} {L : List (Nat × List Value)} (h : Loc w W L) : Below w.heap.size w W := h.1
theorem loc_call {w W W' : World} {L : List (Nat × List Value)} (h : Loc w W L) (hb : Below W.heap.size W W') : Loc w W' L :=
  ⟨h.1.trans (hb.mono h.1.size), h.2.1, fun x hx => ⟨(h.2.2 x hx).1, Nat.lt_of_lt_of_le (h.2.2 x hx).2.1 hb.size, own_below (h.2.2 x hx).2.2 (h.2.2 x hx).2.1 hb⟩⟩
theorem loc_drew {w W : World} {L : List (Nat × List Value)} (h : Loc w W L) : Loc w W.drew L :=
  ⟨h.1.drew, h.2.1, fun x hx => ⟨(h.2.2 x hx).1, (h.2.2 x hx).2.1, own_drew (h.2.2 x hx).2.2⟩⟩
theorem loc_drewN {w W : World} {L : List (Nat × List Value)} (h : Loc w W L) (n : Nat) : Loc w (W.drewN n) L :=
  ⟨below_drewN h.1 n, h.2.1, fun x hx => ⟨(h.2.2 x hx).1, (h.2.2 x hx).2.1, (h.2.2 x hx).2.2⟩⟩
theorem loc_box {w W : World} {L : List (Nat × List Value)} (h : Loc w W L) (o : Obj) : Loc w (W.alloc o) L := loc_call h (box_below _ _)
theorem loc_new {w W : World} {L : List (Nat × List Value)} (h : Loc w W L) (b : Nat) (xs : List Value) (t : TypeId) (hb : b = W.heap.size := by simp) : Loc w (W.alloc (.cells xs.toArray t)) (L ++ [(b, xs)]) := by
  subst hb
  have h2 := loc_box h (.cells xs.toArray t)
  refine ⟨h2.1, ?_, fun x hx => ?_⟩
  · rw [List.pairwise_append]
    refine ⟨h.2.1, by simp, fun x hx y hy => ?_⟩
    rw [List.mem_singleton] at hy
    subst hy
    exact Nat.ne_of_lt (h.2.2 x hx).2.1
  · rcases List.mem_append.1 hx with hx | hx
    · exact h2.2.2 x hx
    · rw [List.mem_singleton] at hx
      subst hx
      exact ⟨h.1.size, by simp, own_new W xs t⟩
theorem loc_own {w W : World} {L : List (Nat × List Value)} (h : Loc w W L) (n : Nat) {b : Nat} {xs : List Value} (hn : L[n]? = some (b, xs)) : Own W b xs := (h.2.2 _ (List.mem_of_getElem? hn)).2.2
theorem loc_lt {w W : World} {L : List (Nat × List Value)} (h : Loc w W L) (n : Nat) {b : Nat} {xs : List Value} (hn : L[n]? = some (b, xs)) : b < W.heap.size := (h.2.2 _ (List.mem_of_getElem? hn)).2.1
theorem loc_ge {w W : World} {L : List (Nat × List Value)} (h : Loc w W L) (n : Nat) {b : Nat} {xs : List Value} (hn : L[n]? = some (b, xs)) : w.heap.size ≤ b := (h.2.2 _ (List.mem_of_getElem? hn)).1
theorem putL_any_size (b : Nat) : ∀ (ys : List Value) (i : Nat) (W : World), (putL W b i ys).heap.size = W.heap.size := putL_size b
theorem loc_put {w W : World} {L : List (Nat × List Value)} (h : Loc w W L) (n : Nat) {b : Nat} {xs : List Value} (i : Nat) (ys : List Value) (hn : L[n]? = some (b, xs)) (hi : i + ys.length ≤ xs.length) :
    Loc w (putL W b i ys) (L.set n (b, putX xs i ys)) := by
  have hg := loc_ge h n hn
  obtain ⟨hlt, he⟩ := List.getElem?_eq_some_iff.1 hn
  have hp := List.pairwise_iff_getElem.1 h.2.1
  refine ⟨below_put hg ys W i h.1, ?_, fun x hx => ?_⟩
  · rw [List.pairwise_iff_getElem]
    intro a c ha hc hac
    rw [List.length_set] at ha hc
    have := hp a c ha hc hac
    rw [List.getElem_set, List.getElem_set]
    split
    · rename_i e
      subst e
      rw [he] at this
      split
      · rename_i e2
        exact absurd e2 (by omega)
      · exact this
    · split
      · rename_i e
        subst e
        rw [he] at this
        exact this
      · exact this
  · obtain ⟨m, hm, rfl⟩ := List.getElem_of_mem hx
    rw [List.length_set] at hm
    rw [putL_size]
    by_cases e : n = m
    · subst e
      rw [List.getElem_set_self]
      exact ⟨hg, loc_lt h n hn, own_put ys W xs i (loc_own h n hn) hi⟩
    · rw [List.getElem_set_ne e]
      have hm2 := h.2.2 L[m] (List.getElem_mem hm)
      refine ⟨hm2.1, hm2.2.1, own_put_other ?_ ys W _ i hm2.2.2⟩
      rcases Nat.lt_or_ge n m with g | g
      · have := hp n m hlt hm g
        rw [he] at this
        exact fun h => this h.symm
      · have := hp m n hm hlt (by omega)
        rw [he] at this
        exact this
theorem loc_perm {w W : World} {L M : List (Nat × List Value)} (h : Loc w W L) (hp : L.Perm M) : Loc w W M :=
  ⟨h.1, (hp.pairwise_iff (fun hxy => Ne.symm hxy)).1 h.2.1, fun x hx => h.2.2 x (hp.mem_iff.2 hx)⟩
/-- A block that no longer matters left out. -/
theorem loc_init {w W : World} {L M : List (Nat × List Value)} (h : Loc w W (L ++ M)) : Loc w W L :=
  ⟨h.1, (List.pairwise_append.1 h.2.1).1, fun x hx => h.2.2 x (List.mem_append.2 (.inl hx))⟩
theorem loc_skip {w W : World} {x : Nat × List Value} {L : List (Nat × List Value)} (h : Loc w W (x :: L)) : Loc w W L :=
  ⟨h.1, (List.pairwise_cons.1 h.2.1).2, fun y hy => h.2.2 y (List.mem_cons_of_mem _ hy)⟩
theorem loc_more {w0 w W : World} {L : List (Nat × List Value)} (h : Loc w W L) (hb : Below w0.heap.size w0 w) : Loc w0 W L :=
  ⟨hb.trans (h.1.mono hb.size), h.2.1, fun x hx => ⟨Nat.le_trans hb.size (h.2.2 x hx).1, (h.2.2 x hx).2⟩⟩
theorem cells1L {W : World} {b : Nat} {x0 : Value} (h : Cells W b [x0]) : W.cell? ⟨b, 0, none⟩ = some x0 :=
  h 0 _ rfl
theorem cells2L {W : World} {b : Nat} {x0 x1 : Value} (h : Cells W b [x0, x1]) : W.cell? ⟨b, 0, none⟩ = some x0 ∧ W.cell? ⟨b, 1, none⟩ = some x1 :=
  ⟨h 0 _ rfl, h 1 _ rfl⟩
theorem cells3L {W : World} {b : Nat} {x0 x1 x2 : Value} (h : Cells W b [x0, x1, x2]) : W.cell? ⟨b, 0, none⟩ = some x0 ∧ W.cell? ⟨b, 1, none⟩ = some x1 ∧ W.cell? ⟨b, 2, none⟩ = some x2 :=
  ⟨h 0 _ rfl, h 1 _ rfl, h 2 _ rfl⟩
theorem cells4L {W : World} {b : Nat} {x0 x1 x2 x3 : Value} (h : Cells W b [x0, x1, x2, x3]) : W.cell? ⟨b, 0, none⟩ = some x0 ∧ W.cell? ⟨b, 1, none⟩ = some x1 ∧ W.cell? ⟨b, 2, none⟩ = some x2 ∧ W.cell? ⟨b, 3, none⟩ = some x3 :=
  ⟨h 0 _ rfl, h 1 _ rfl, h 2 _ rfl, h 3 _ rfl⟩
theorem cells5L {W : World} {b : Nat} {x0 x1 x2 x3 x4 : Value} (h : Cells W b [x0, x1, x2, x3, x4]) : W.cell? ⟨b, 0, none⟩ = some x0 ∧ W.cell? ⟨b, 1, none⟩ = some x1 ∧ W.cell? ⟨b, 2, none⟩ = some x2 ∧ W.cell? ⟨b, 3, none⟩ = some x3 ∧ W.cell? ⟨b, 4, none⟩ = some x4 :=
  ⟨h 0 _ rfl, h 1 _ rfl, h 2 _ rfl, h 3 _ rfl, h 4 _ rfl⟩
theorem cells6L {W : World} {b : Nat} {x0 x1 x2 x3 x4 x5 : Value} (h : Cells W b [x0, x1, x2, x3, x4, x5]) : W.cell? ⟨b, 0, none⟩ = some x0 ∧ W.cell? ⟨b, 1, none⟩ = some x1 ∧ W.cell? ⟨b, 2, none⟩ = some x2 ∧ W.cell? ⟨b, 3, none⟩ = some x3 ∧ W.cell? ⟨b, 4, none⟩ = some x4 ∧ W.cell? ⟨b, 5, none⟩ = some x5 :=
  ⟨h 0 _ rfl, h 1 _ rfl, h 2 _ rfl, h 3 _ rfl, h 4 _ rfl, h 5 _ rfl⟩
theorem cells7L {W : World} {b : Nat} {x0 x1 x2 x3 x4 x5 x6 : Value} (h : Cells W b [x0, x1, x2, x3, x4, x5, x6]) : W.cell? ⟨b, 0, none⟩ = some x0 ∧ W.cell? ⟨b, 1, none⟩ = some x1 ∧ W.cell? ⟨b, 2, none⟩ = some x2 ∧ W.cell? ⟨b, 3, none⟩ = some x3 ∧ W.cell? ⟨b, 4, none⟩ = some x4 ∧ W.cell? ⟨b, 5, none⟩ = some x5 ∧ W.cell? ⟨b, 6, none⟩ = some x6 :=
  ⟨h 0 _ rfl, h 1 _ rfl, h 2 _ rfl, h 3 _ rfl, h 4 _ rfl, h 5 _ rfl, h 6 _ rfl⟩
theorem cells8L {W : World} {b : Nat} {x0 x1 x2 x3 x4 x5 x6 x7 : Value} (h : Cells W b [x0, x1, x2, x3, x4, x5, x6, x7]) : W.cell? ⟨b, 0, none⟩ = some x0 ∧ W.cell? ⟨b, 1, none⟩ = some x1 ∧ W.cell? ⟨b, 2, none⟩ = some x2 ∧ W.cell? ⟨b, 3, none⟩ = some x3 ∧ W.cell? ⟨b, 4, none⟩ = some x4 ∧ W.cell? ⟨b, 5, none⟩ = some x5 ∧ W.cell? ⟨b, 6, none⟩ = some x6 ∧ W.cell? ⟨b, 7, none⟩ = some x7 :=
  ⟨h 0 _ rfl, h 1 _ rfl, h 2 _ rfl, h 3 _ rfl, h 4 _ rfl, h 5 _ rfl, h 6 _ rfl, h 7 _ rfl⟩
theorem cells14L {W : World} {b : Nat} {x0 x1 x2 x3 x4 x5 x6 x7 x8 x9 x10 x11 x12 x13 : Value} (h : Cells W b [x0, x1, x2, x3, x4, x5, x6, x7, x8, x9, x10, x11, x12, x13]) : W.cell? ⟨b, 0, none⟩ = some x0 ∧ W.cell? ⟨b, 1, none⟩ = some x1 ∧ W.cell? ⟨b, 2, none⟩ = some x2 ∧ W.cell? ⟨b, 3, none⟩ = some x3 ∧ W.cell? ⟨b, 4, none⟩ = some x4 ∧ W.cell? ⟨b, 5, none⟩ = some x5 ∧ W.cell? ⟨b, 6, none⟩ = some x6 ∧ W.cell? ⟨b, 7, none⟩ = some x7 ∧ W.cell? ⟨b, 8, none⟩ = some x8 ∧ W.cell? ⟨b, 9, none⟩ = some x9 ∧ W.cell? ⟨b, 10, none⟩ = some x10 ∧ W.cell? ⟨b, 11, none⟩ = some x11 ∧ W.cell? ⟨b, 12, none⟩ = some x12 ∧ W.cell? ⟨b, 13, none⟩ = some x13 :=
  ⟨h 0 _ rfl, h 1 _ rfl, h 2 _ rfl, h 3 _ rfl, h 4 _ rfl, h 5 _ rfl, h 6 _ rfl, h 7 _ rfl, h 8 _ rfl, h 9 _ rfl, h 10 _ rfl, h 11 _ rfl, h 12 _ rfl, h 13 _ rfl⟩
end Go.Proofs.YtmfdpdnokiidlaaDoor
