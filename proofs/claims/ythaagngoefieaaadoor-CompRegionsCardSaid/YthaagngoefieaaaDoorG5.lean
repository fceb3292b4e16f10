/-
  Merged parts, one behind another; each says ahead what it proves: Loc CNums CCutP CCutA CCut CSpan CRegP Drawn.
-/
import Derived.Test.YthaagngoefieaaaDoorG2
import Derived.Handy
import Derived.Test.YthaagngoefieaaaDoorG1
import Derived.Deep.DeepCutAuto
import Derived.Deep.QuietTactic
import Derived.BigQuiet
import Derived.Test.YthaagngoefieaaaDoorG3
import Derived.Test.YthaagngoefieaaaDoorG4
import Derived.Deep.RegionHeld3

/-
  Blocks of a call's own: their cells kept in one word over allocations, stores and calls. Conditions: none.
-/
section
namespace Go.Proofs.YthaagngoefieaaaDoor
open Go.ChangeShapes Go.WideShapes Go.ChangeAt Go.RowKit
set_option linter.unusedVariables false

theorem own_set {W : World} {b : Nat} {xs : List Value} (h : Own W b xs) (i : Nat) (hi : i < xs.length) (y : Value) : Own (W.setCell ⟨b, i, none⟩ y) b (xs.set i y) := by
  refine ⟨fun j u hu => ?_, fun o => by rw [World.frozen?_setCell]; exact h.2 o⟩
  by_cases e : i = j
  · subst e
    rw [List.getElem?_set_self hi] at hu
    cases hu
    exact World.cell?_setCell_same _ _ _ (h.1 i _ (List.getElem?_eq_getElem hi))
  · rw [List.getElem?_set_ne e] at hu
    rw [World.cell?_setCell_other W ⟨b, i, none⟩ ⟨b, j, none⟩ y (fun g => e (by injection g))]
    exact h.1 j u hu
theorem own_set_other {W : World} {b c i : Nat} {xs : List Value} (h : Own W b xs) (hne : b ≠ c) (y : Value) : Own (W.setCell ⟨c, i, none⟩ y) b xs := by
  refine ⟨fun j u hu => ?_, fun o => by rw [World.frozen?_setCell]; exact h.2 o⟩
  rw [World.cell?_setCell_other W ⟨c, i, none⟩ ⟨b, j, none⟩ y (fun g => hne (by injection g with g; exact g.symm))]
  exact h.1 j u hu
/-- A list with a stretch written anew. -/
def putX : List Value → Nat → List Value → List Value
  | xs, _, [] => xs
  | xs, i, y :: ys => putX (xs.set i y) (i + 1) ys
theorem putX_len : ∀ (ys : List Value) (xs : List Value) (i : Nat), (putX xs i ys).length = xs.length
  | [], _, _ => rfl
  | y :: ys, xs, i => by rw [putX, putX_len ys, List.length_set]
theorem own_put {b : Nat} : ∀ (ys : List Value) (W : World) (xs : List Value) (i : Nat), Own W b xs → i + ys.length ≤ xs.length → Own (putL W b i ys) b (putX xs i ys)
  | [], _, _, _, h, _ => h
  | y :: ys, W, xs, i, h, hi => by
    rw [List.length_cons] at hi
    exact own_put ys _ _ _ (own_set h i (by omega) y) (by rw [List.length_set]; omega)
theorem own_put_other {b c : Nat} (hne : b ≠ c) : ∀ (ys : List Value) (W : World) (xs : List Value) (i : Nat), Own W b xs → Own (putL W c i ys) b xs
  | [], _, _, _, h => h
  | y :: ys, W, xs, i, h => own_put_other hne ys _ _ _ (own_set_other h hne y)
theorem below_put {B b : Nat} {w : World} (hB : B ≤ b) : ∀ (ys : List Value) (W : World) (i : Nat), Below B w W → Below B w (putL W b i ys)
  | [], _, _, h => h
  | y :: ys, W, i, h => below_put hB ys _ _ (h.setCell hB y)

/-- The blocks of a call's own, in the order of their making. -/
def Loc (w W : World) (L : List (Nat × List Value)) : Prop :=
  Below w.heap.size w W ∧ L.Pairwise (fun x y => x.1 ≠ y.1) ∧ ∀ x ∈ L, w.heap.size ≤ x.1 ∧ x.1 < W.heap.size ∧ Own W x.1 x.2
theorem loc_start (w : World) : Loc w w [] := ⟨Below.refl _ _, List.Pairwise.nil, fun x hx => absurd hx (by simp)⟩
theorem loc_below {w W : World} {L : List (Nat × List Value)} (h : Loc w W L) : Below w.heap.size w W := h.1
theorem loc_call {w W W' : World} {L : List (Nat × List Value)} (h : Loc w W L) (hb : Below W.heap.size W W') : Loc w W' L :=
  ⟨h.1.trans (hb.mono h.1.size), h.2.1, fun x hx => ⟨(h.2.2 x hx).1, Nat.lt_of_lt_of_le (h.2.2 x hx).2.1 hb.size, own_below (h.2.2 x hx).2.2 (h.2.2 x hx).2.1 hb⟩⟩
theorem loc_drew {w W : World} {L : List (Nat × List Value)} (h : Loc w W L) : Loc w W.drew L :=
  ⟨h.1.drew, h.2.1, fun x hx => ⟨(h.2.2 x hx).1, (h.2.2 x hx).2.1, own_drew (h.2.2 x hx).2.2⟩⟩
theorem loc_drewN {w W : World} {L : List (Nat × List Value)} (h : Loc w W L) (n : Nat) : Loc w (W.drewN n) L :=
  ⟨below_drewN h.1 n, h.2.1, fun x hx => ⟨(h.2.2 x hx).1, (h.2.2 x hx).2.1, (h.2.2 x hx).2.2⟩⟩
theorem loc_box {w W : World} {L : List (Nat × List Value)} (h : Loc w W L) (o : Obj) : Loc w (W.alloc o) L := loc_call h (box_below _ _)
theorem loc_new {w W : World} {L : List (Nat × List Value)} (h : Loc w W L) (b : Nat) (xs : List Value) (t : TypeId) (hb : b = W.heap.size := by simp) : Loc w (W.alloc (.cells xs.toArray t)) (L ++ [(b, xs)]) := by
  subst hb
  have h2 := loc_box h (.cells xs.toArray t)
  refine ⟨h2.1, ?_, fun x hx => ?_⟩
  · rw [List.pairwise_append]
    refine ⟨h.2.1, by simp, fun x hx y hy => ?_⟩
    rw [List.mem_singleton] at hy
    subst hy
    exact Nat.ne_of_lt (h.2.2 x hx).2.1
  · rcases List.mem_append.1 hx with hx | hx
    · exact h2.2.2 x hx
    · rw [List.mem_singleton] at hx
      subst hx
      exact ⟨h.1.size, by simp, own_new W xs t⟩
theorem loc_own {w W : World} {L : List (Nat × List Value)} (h : Loc w W L) (n : Nat) {b : Nat} {xs : List Value} (hn : L[n]? = some (b, xs)) : Own W b xs := (h.2.2 _ (List.mem_of_getElem? hn)).2.2
theorem loc_lt {w W : World} {L : List (Nat × List Value)} (h : Loc w W L) (n : Nat) {b : Nat} {xs : List Value} (hn : L[n]? = some (b, xs)) : b < W.heap.size := (h.2.2 _ (List.mem_of_getElem? hn)).2.1
theorem loc_ge {w W : World} {L : List (Nat × List Value)} (h : Loc w W L) (n : Nat) {b : Nat} {xs : List Value} (hn : L[n]? = some (b, xs)) : w.heap.size ≤ b := (h.2.2 _ (List.mem_of_getElem? hn)).1
theorem putL_any_size (b : Nat) : ∀ (ys : List Value) (i : Nat) (W : World), (putL W b i ys).heap.size = W.heap.size := putL_size b
theorem loc_put {w W : World} {L : List (Nat × List Value)} (h : Loc w W L) (n : Nat) {b : Nat} {xs : List Value} (i : Nat) (ys : List Value) (hn : L[n]? = some (b, xs)) (hi : i + ys.length ≤ xs.length) :
    Loc w (putL W b i ys) (L.set n (b, putX xs i ys)) := by
  have hg := loc_ge h n hn
  obtain ⟨hlt, he⟩ := List.getElem?_eq_some_iff.1 hn
  have hp := List.pairwise_iff_getElem.1 h.2.1
  refine ⟨below_put hg ys W i h.1, ?_, fun x hx => ?_⟩
  · rw [List.pairwise_iff_getElem]
    intro a c ha hc hac
    rw [List.length_set] at ha hc
    have := hp a c ha hc hac
    rw [List.getElem_set, List.getElem_set]
    split
    · rename_i e
      subst e
      rw [he] at this
      split
      · rename_i e2
        exact absurd e2 (by omega)
      · exact this
    · split
      · rename_i e
        subst e
        rw [he] at this
        exact this
      · exact this
  · obtain ⟨m, hm, rfl⟩ := List.getElem_of_mem hx
    rw [List.length_set] at hm
    rw [putL_size]
    by_cases e : n = m
    · subst e
      rw [List.getElem_set_self]
      exact ⟨hg, loc_lt h n hn, own_put ys W xs i (loc_own h n hn) hi⟩
    · rw [List.getElem_set_ne e]
      have hm2 := h.2.2 L[m] (List.getElem_mem hm)
      refine ⟨hm2.1, hm2.2.1, own_put_other ?_ ys W _ i hm2.2.2⟩
      rcases Nat.lt_or_ge n m with g | g
      · have := hp n m hlt hm g
        rw [he] at this
        exact fun h => this h.symm
      · have := hp m n hm hlt (by omega)
        rw [he] at this
        exact this
theorem loc_perm {w W : World} {L M : List (Nat × List Value)} (h : Loc w W L) (hp : L.Perm M) : Loc w W M :=
  ⟨h.1, (hp.pairwise_iff (fun hxy => Ne.symm hxy)).1 h.2.1, fun x hx => h.2.2 x (hp.mem_iff.2 hx)⟩
/-- A block that no longer matters left out. -/
theorem loc_init {w W : World} {L M : List (Nat × List Value)} (h : Loc w W (L ++ M)) : Loc w W L :=
  ⟨h.1, (List.pairwise_append.1 h.2.1).1, fun x hx => h.2.2 x (List.mem_append.2 (.inl hx))⟩
theorem loc_skip {w W : World} {x : Nat × List Value} {L : List (Nat × List Value)} (h : Loc w W (x :: L)) : Loc w W L :=
  ⟨h.1, (List.pairwise_cons.1 h.2.1).2, fun y hy => h.2.2 y (List.mem_cons_of_mem _ hy)⟩
theorem loc_more {w0 w W : World} {L : List (Nat × List Value)} (h : Loc w W L) (hb : Below w0.heap.size w0 w) : Loc w0 W L :=
  ⟨hb.trans (h.1.mono hb.size), h.2.1, fun x hx => ⟨Nat.le_trans hb.size (h.2.2 x hx).1, (h.2.2 x hx).2⟩⟩
theorem cells1L {W : World} {b : Nat} {x0 : Value} (h : Cells W b [x0]) : W.cell? ⟨b, 0, none⟩ = some x0 :=
  h 0 _ rfl
theorem cells2L {W : World} {b : Nat} {x0 x1 : Value} (h : Cells W b [x0, x1]) : W.cell? ⟨b, 0, none⟩ = some x0 ∧ W.cell? ⟨b, 1, none⟩ = some x1 :=
  ⟨h 0 _ rfl, h 1 _ rfl⟩
theorem cells3L {W : World} {b : Nat} {x0 x1 x2 : Value} (h : Cells W b [x0, x1, x2]) : W.cell? ⟨b, 0, none⟩ = some x0 ∧ W.cell? ⟨b, 1, none⟩ = some x1 ∧ W.cell? ⟨b, 2, none⟩ = some x2 :=
  ⟨h 0 _ rfl, h 1 _ rfl, h 2 _ rfl⟩
theorem cells4L {W : World} {b : Nat} {x0 x1 x2 x3 : Value} (h : Cells W b [x0, x1, x2, x3]) : W.cell? ⟨b, 0, none⟩ = some x0 ∧ W.cell? ⟨b, 1, none⟩ = some x1 ∧ W.cell? ⟨b, 2, none⟩ = some x2 ∧ W.cell? ⟨b, 3, none⟩ = some x3 :=
  ⟨h 0 _ rfl, h 1 _ rfl, h 2 _ rfl, h 3 _ rfl⟩
theorem cells5L {W : World} {b : Nat} {x0 x1 x2 x3 x4 : Value} (h : Cells W b [x0, x1, x2, x3, x4]) : W.cell? ⟨b, 0, none⟩ = some x0 ∧ W.cell? ⟨b, 1, none⟩ = some x1 ∧ W.cell? ⟨b, 2, none⟩ = some x2 ∧ W.cell? ⟨b, 3, none⟩ = some x3 ∧ W.cell? ⟨b, 4, none⟩ = some x4 :=
  ⟨h 0 _ rfl, h 1 _ rfl, h 2 _ rfl, h 3 _ rfl, h 4 _ rfl⟩
theorem cells6L {W : World} {b : Nat} {x0 x1 x2 x3 x4 x5 : Value} (h : Cells W b [x0, x1, x2, x3, x4, x5]) : W.cell? ⟨b, 0, none⟩ = some x0 ∧ W.cell? ⟨b, 1, none⟩ = some x1 ∧ W.cell? ⟨b, 2, none⟩ = some x2 ∧ W.cell? ⟨b, 3, none⟩ = some x3 ∧ W.cell? ⟨b, 4, none⟩ = some x4 ∧ W.cell? ⟨b, 5, none⟩ = some x5 :=
  ⟨h 0 _ rfl, h 1 _ rfl, h 2 _ rfl, h 3 _ rfl, h 4 _ rfl, h 5 _ rfl⟩
theorem cells7L {W : World} {b : Nat} {x0 x1 x2 x3 x4 x5 x6 : Value} (h : Cells W b [x0, x1, x2, x3, x4, x5, x6]) : W.cell? ⟨b, 0, none⟩ = some x0 ∧ W.cell? ⟨b, 1, none⟩ = some x1 ∧ W.cell? ⟨b, 2, none⟩ = some x2 ∧ W.cell? ⟨b, 3, none⟩ = some x3 ∧ W.cell? ⟨b, 4, none⟩ = some x4 ∧ W.cell? ⟨b, 5, none⟩ = some x5 ∧ W.cell? ⟨b, 6, none⟩ = some x6 :=
  ⟨h 0 _ rfl, h 1 _ rfl, h 2 _ rfl, h 3 _ rfl, h 4 _ rfl, h 5 _ rfl, h 6 _ rfl⟩
theorem cells8L {W : World} {b : Nat} {x0 x1 x2 x3 x4 x5 x6 x7 : Value} (h : Cells W b [x0, x1, x2, x3, x4, x5, x6, x7]) : W.cell? ⟨b, 0, none⟩ = some x0 ∧ W.cell? ⟨b, 1, none⟩ = some x1 ∧ W.cell? ⟨b, 2, none⟩ = some x2 ∧ W.cell? ⟨b, 3, none⟩ = some x3 ∧ W.cell? ⟨b, 4, none⟩ = some x4 ∧ W.cell? ⟨b, 5, none⟩ = some x5 ∧ W.cell? ⟨b, 6, none⟩ = some x6 ∧ W.cell? ⟨b, 7, none⟩ = some x7 :=
  ⟨h 0 _ rfl, h 1 _ rfl, h 2 _ rfl, h 3 _ rfl, h 4 _ rfl, h 5 _ rfl, h 6 _ rfl, h 7 _ rfl⟩
theorem cells14L {W : World} {b : Nat} {x0 x1 x2 x3 x4 x5 x6 x7 x8 x9 x10 x11 x12 x13 : Value} (h : Cells W b [x0, x1, x2, x3, x4, x5, x6, x7, x8, x9, x10, x11, x12, x13]) : W.cell? ⟨b, 0, none⟩ = some x0 ∧ W.cell? ⟨b, 1, none⟩ = some x1 ∧ W.cell? ⟨b, 2, none⟩ = some x2 ∧ W.cell? ⟨b, 3, none⟩ = some x3 ∧ W.cell? ⟨b, 4, none⟩ = some x4 ∧ W.cell? ⟨b, 5, none⟩ = some x5 ∧ W.cell? ⟨b, 6, none⟩ = some x6 ∧ W.cell? ⟨b, 7, none⟩ = some x7 ∧ W.cell? ⟨b, 8, none⟩ = some x8 ∧ W.cell? ⟨b, 9, none⟩ = some x9 ∧ W.cell? ⟨b, 10, none⟩ = some x10 ∧ W.cell? ⟨b, 11, none⟩ = some x11 ∧ W.cell? ⟨b, 12, none⟩ = some x12 ∧ W.cell? ⟨b, 13, none⟩ = some x13 :=
  ⟨h 0 _ rfl, h 1 _ rfl, h 2 _ rfl, h 3 _ rfl, h 4 _ rfl, h 5 _ rfl, h 6 _ rfl, h 7 _ rfl, h 8 _ rfl, h 9 _ rfl, h 10 _ rfl, h 11 _ rfl, h 12 _ rfl, h 13 _ rfl⟩
end Go.Proofs.YthaagngoefieaaaDoor
end

/-
  The walk of chapter 6's reference numbers. Conditions: the list reads as texts.
-/
section
namespace Go.Proofs.YthaagngoefieaaaDoor
open Go.ChangeShapes Go.WideShapes Go.ChangeAt Go.RowKit
set_option linter.unusedVariables false
set_option linter.unusedSimpArgs false

def numsV6 (x : Option (Int × Int × Int)) : Value :=
  match x with
  | some (a, b, c) => .tuple #[.agg #[.int .i64 a, .int .i64 b, .int .i64 c, .string ⟨#[]⟩, .string ⟨#[]⟩], .bool true]
  | none => .tuple #[.agg #[.int .i64 0, .int .i64 0, .int .i64 0, .string ⟨#[]⟩, .string ⟨#[]⟩], .bool false]

/-- The number of a list's text; 0 behind its end. -/
def numAt (ps : List (List UInt8)) (j : Nat) : Int := match ps[j]? with | some p => ((numB p).1 : Int) | none => 0
def numsTo (ps : List (List UInt8)) (k : Nat) : List Int := [if 0 < k then numAt ps 0 else 0, if 1 < k then numAt ps 1 else 0, if 2 < k then numAt ps 2 else 0]
def okTo (ps : List (List UInt8)) (k : Nat) : Prop := ∀ j p, j < k → ps[j]? = some p → (numB p).2 = true
theorem numsTo_set (ps : List (List UInt8)) {k : Nat} (h : k < 3) : (numsTo ps k).set k (numAt ps k) = numsTo ps (k + 1) := by
  rcases (show k = 0 ∨ k = 1 ∨ k = 2 by omega) with rfl | rfl | rfl <;> simp [numsTo]
theorem numsTo_own (ps : List (List UInt8)) {k : Nat} (h : k < 3) : (numsTo ps k)[k]? = some 0 := by
  rcases (show k = 0 ∨ k = 1 ∨ k = 2 by omega) with rfl | rfl | rfl <;> simp [numsTo]
theorem okTo_succ {ps : List (List UInt8)} {k : Nat} {p : List UInt8} (h : okTo ps k) (hp : ps[k]? = some p) (hk : (numB p).2 = true) : okTo ps (k + 1) := by
  intro j q hj hq
  rcases Nat.lt_succ_iff_lt_or_eq.1 hj with h1 | rfl
  · exact h j q h1 hq
  · rw [hp] at hq; cases hq; exact hk
theorem nums_long {ps : List (List UInt8)} (h : 3 < ps.length) : numsL ps = none := by
  match ps, h with
  | _ :: _ :: _ :: _ :: _, _ => rfl
theorem nums_all {ps : List (List UInt8)} (h : ps.length ≤ 3) (ok : okTo ps ps.length) : ∃ a b c, numsTo ps ps.length = [a, b, c] ∧ numsL ps = some (a, b, c) := by
  match ps, h with
  | [], _ => exact ⟨0, 0, 0, rfl, rfl⟩
  | [x], _ =>
    have h0 := ok 0 x (by simp) rfl
    refine ⟨_, _, _, rfl, ?_⟩
    simp [numsL, h0, numAt]
  | [x, y], _ =>
    have h0 := ok 0 x (by simp) rfl
    have h1 := ok 1 y (by simp) rfl
    refine ⟨_, _, _, rfl, ?_⟩
    simp [numsL, h0, h1, numAt]
  | [x, y, z], _ =>
    have h0 := ok 0 x (by simp) rfl
    have h1 := ok 1 y (by simp) rfl
    have h2 := ok 2 z (by simp) rfl
    refine ⟨_, _, _, rfl, ?_⟩
    simp [numsL, h0, h1, h2, numAt]
theorem nums_stop {ps : List (List UInt8)} {k : Nat} {p : List UInt8} (h : ps.length ≤ 3) (hp : ps[k]? = some p) (hk : (numB p).2 = false) : numsL ps = none := by
  match ps, h with
  | [], _ => simp at hp
  | [x], _ =>
    match k, hp with
    | 0, hp => simp at hp; subst hp; simp [numsL, hk]
  | [x, y], _ =>
    match k, hp with
    | 0, hp => simp at hp; subst hp; simp [numsL, hk]
    | 1, hp => simp at hp; subst hp; simp [numsL, hk]
  | [x, y, z], _ =>
    match k, hp with
    | 0, hp => simp at hp; subst hp; simp [numsL, hk]
    | 1, hp => simp at hp; subst hp; simp [numsL, hk]
    | 2, hp => simp at hp; subst hp; simp [numsL, hk]

theorem rnums_res (W : World) (tmps : Array Value) (b : Nat) {x0 x1 x2 x3 x4 : Value} (h2 : tmps[2]?.getD undef = .pointer (some ⟨b, 0, none⟩)) (h : Cells W b [x0, x1, x2, x3, x4]) :
    (results Tryd.f38 tmps).run Tryd.prog W = .ok (.tuple #[.agg #[x0, x1, x2, x3, x4], tmps[3]?.getD undef]) W := by
  obtain ⟨k0, k1, k2, k3, k4⟩ := cells5L h
  simp [results, Tryd.results38, h2, go_sem, k0, k1, k2, k3, k4]

def nil5 : List Value := [.int .i64 0, .int .i64 0, .int .i64 0, .string ⟨#[]⟩, .string ⟨#[]⟩]
/-- The loop's state. -/
def NumsAt (w W : World) (ps : List (List UInt8)) (k : Nat) : Prop :=
  okTo ps k ∧ Loc w W [(w.heap.size, nil5), (w.heap.size + 1, (numsTo ps k).map (Value.int .i64))]

set_option maxRecDepth 8192 in
set_option maxHeartbeats 2000000 in
theorem rnums6_any (A : Option Addr) (n c B : Nat) (ps : List (List UInt8)) (w : World) (h : Rd w B A n (BS ps)) (hB : B ≤ w.heap.size) (hn : n ≤ 1073741824) (hs : ∀ p ∈ ps, p.length ≤ 1048576) :
    Calls Tryd.prog 38 #[.slice A n c] w fun e w' => e = .returned (numsV6 (numsL ps)) ∧ Below w.heap.size w w' := by
  have hpl : ps.length = n := by have := h.1; rwa [bs_len] at this
  by_cases h3 : n ≤ 3
  · have HP := Lib.hid hpl
    have HS := Lib.hid hs
    have H := Lib.hid h
    have i0 : ¬ (3 : Int) < (n : Int) := by omega
    clear h hpl hs
    go_enter Tryd.func38, Tryd.ntmps38
    go_wp2
    go_loopw [5] (fun i wr => ∃ k : Nat, k ≤ n ∧ i = .int .i64 k ∧ NumsAt w wr ps k) (fun i _ => n - (intOf i).toNat)
    case atStart =>
      refine ⟨0, by omega, rfl, fun j p hj => absurd hj (by omega), ?_⟩
      exact loc_new (loc_new (loc_start w) w.heap.size nil5 _) (w.heap.size + 1) [.int .i64 0, .int .i64 0, .int .i64 0] _
    case round =>
      obtain ⟨k, hk, rfl, hst⟩ := hrel
      have HST := Lib.hid hst
      have hL := hst.2
      clear hst
      have hge := hL.1.size
      by_cases hlt : k < n
      · obtain ⟨bb, off, p, rfl, hbb, hp, hc⟩ := rds_cell (rd_below H.out (hL.1.mono hB)) hlt
        have hps : p.length ≤ 1048576 := HS.out p (List.mem_of_getElem? hp)
        have hsz := str_size p
        have cn := fun W => rnumber_any ⟨p.toArray⟩ W (by unfold maxLen; omega)
        have e1 : (⟨p.toArray⟩ : ByteArray).data.toList = p := by simp
        rw [e1] at cn
        clear e1 hsz
        cases hnb : (numB p).2
        · have HN := Lib.hid (nums_stop (by rw [HP.out]; exact h3) hp hnb)
          rw [hnb] at cn
          clear hnb hp
          obtain ⟨c0, c1, c2, c3, c4⟩ := cells5L (loc_own hL 0 rfl).1
          have f := (loc_own hL 0 rfl).2
          have f0 := f 0
          have f1 := f 1
          have f2 := f 2
          have f3 := f 3
          have f4 := f 4
          clear f
          generalize (⟨p.toArray⟩ : ByteArray) = x at *
          generalize (numB p).1 = v at *
          go_wp2_with (go_at_call 68; refine (cn _).mono ?_; rintro e w2 ⟨rfl, rfl⟩)
          have hL2 := loc_put hL 0 0 nil5 rfl (by decide)
          refine bodyPost_ret (rnums_res _ _ w.heap.size rfl (loc_own hL2 0 rfl).1) rfl ?_
          exact ⟨by rw [HN.out]; rfl, hL2.1⟩
        · have k3 : k < 3 := by omega
          have hset : (numsTo ps k).set k (((numB p).1 : Nat) : Int) = numsTo ps (k + 1) := by
            have := numsTo_set ps k3
            unfold numAt at this
            rw [hp] at this
            exact this
          have HO := Lib.hid (okTo_succ HST.out.1 hp hnb)
          have HSET := Lib.hid hset
          rw [hnb] at cn
          clear hnb hp hset
          have ck : wr.cell? ⟨w.heap.size + 1, k, none⟩ = some (.int .i64 0) := (loc_own hL 1 rfl).1 k _ (by rw [List.getElem?_map, numsTo_own ps k3]; rfl)
          have fk := (loc_own hL 1 rfl).2 k
          have i1 : (k : Int) < 3 := by omega
          generalize (⟨p.toArray⟩ : ByteArray) = x at *
          generalize (numB p).1 = v at *
          go_wp2_with (go_at_call 68; refine (cn _).mono ?_; rintro e w2 ⟨rfl, rfl⟩)
          go_roundw
          case rel =>
            refine ⟨k + 1, by omega, by go_num, HO.out, ?_⟩
            have hL2 := loc_put hL 1 k [.int .i64 v] rfl (by simp [numsTo]; omega)
            have e2 : putX ((numsTo ps k).map (Value.int .i64)) k [.int .i64 v] = (numsTo ps (k + 1)).map (Value.int .i64) := by
              rw [← HSET.out, List.map_set]; rfl
            rw [e2] at hL2
            exact hL2
          case measure => simp [intOf]; omega
      · obtain rfl : k = n := by omega
        have hall := nums_all (ps := ps) (by rw [HP.out]; exact h3) (by rw [HP.out]; exact HST.out.1)
        rw [HP.out] at hall
        obtain ⟨v0, v1, v2, hv, hN⟩ := hall
        have HN := Lib.hid hN
        rw [hv] at hL
        clear hv hN HST
        obtain ⟨c0, c1, c2, c3, c4⟩ := cells5L (loc_own hL 0 rfl).1
        have f := (loc_own hL 0 rfl).2
        have f0 := f 0
        have f1 := f 1
        have f2 := f 2
        have f3 := f 3
        have f4 := f 4
        clear f
        obtain ⟨d0, d1, d2⟩ := cells3L (loc_own hL 1 rfl).1
        go_wp2
        have hL2 := loc_put hL 0 0 [.int .i64 v0, .int .i64 v1, .int .i64 v2, .string ⟨#[]⟩, .string ⟨#[]⟩] rfl (by simp [nil5])
        refine bodyPost_ret (rnums_res _ _ w.heap.size rfl (loc_own hL2 0 rfl).1) rfl ?_
        exact ⟨by rw [HN.out]; rfl, hL2.1⟩
  · have HN := Lib.hid (nums_long (ps := ps) (by omega))
    have i0 : (3 : Int) < (n : Int) := by omega
    clear h hpl hs hB
    go_enter Tryd.func38, Tryd.ntmps38
    go_wp2
    go_returns
    refine ⟨by rw [HN.out]; rfl, ?_⟩
    go_grown
end Go.Proofs.YthaagngoefieaaaDoor
end

/-
  Plain law of chapters 3 and 4: cuts, spans, rows of at most one span. Conditions: none.
-/
section
namespace Go.Proofs.YthaagngoefieaaaDoor
set_option linter.unusedSimpArgs false

/-- A cut; a span. -/
structure CutC where
  e : Int
  v : Ver
  aft : Bool
deriving DecidableEq
structure SpanC where
  f : CutC
  t : CutC
deriving DecidableEq
def firstC : CutC := ⟨-1, noVer, false⟩
def lastC : CutC := ⟨1, noVer, false⟩

def mayCut (c : CutC) : Bool := if c.e = 0 then mayV c.v && c.v.build.isEmpty else (decide (c.e = -1) || decide (c.e = 1)) && decide (c.v = noVer) && !c.aft
def aftI (a b : Bool) : Int := if a = b then 0 else if b = true then -1 else 1
def compCut (a b : CutC) : Int := if mayCut a = true ∧ mayCut b = true then (if a.e ≠ 0 ∨ b.e ≠ 0 then intsI a.e b.e else orI (compV a.v b.v) (aftI a.aft b.aft)) else 0
def mayS (s : SpanC) : Bool := mayCut s.f && mayCut s.t && decide (compCut s.f s.t < 0)
def aheadC (c : CutC) (v : Ver) : Bool :=
  if mayCut c = true ∧ mayV v = true then (if c.e ≠ 0 then decide (c.e < 0) else decide (compV c.v v < 0) || (decide (compV c.v v = 0) && !c.aft)) else false
def holdsC (s : SpanC) (v : Ver) : Bool := mayS s && mayV v && aheadC s.f v && !aheadC s.t v
/-- A row that may be. -/
def mayRow : List SpanC → Bool
  | [] => true
  | [s] => mayS s
  | s :: t :: l => mayS s && decide (compCut s.t t.f < 0) && mayRow (t :: l)
def hasR (l : List SpanC) (v : Ver) : Bool := mayRow l && l.any (holdsC · v)

/-! The program's Not. -/
def notGo : CutC → List SpanC → List SpanC
  | from_, [] => if from_.e < 1 then [⟨from_, lastC⟩] else []
  | from_, s :: l => (if compCut from_ s.f < 0 then [⟨from_, s.f⟩] else []) ++ notGo s.t l
def notP (l : List SpanC) : List SpanC := if mayRow l = true then notGo firstC l else []

/-! The reference's cuts, Not, And, Within. -/
def putC : List CutC → CutC → List CutC
  | [], c => [c]
  | x :: l, c => if compCut x c < 0 then x :: putC l c else if compCut x c = 0 then x :: l else c :: x :: l
def cutsC (l : List SpanC) : List CutC := l.foldl (fun out s => putC (putC out s.f) s.t) [firstC, lastC]
def inC (l : List SpanC) (f t : CutC) : Bool := l.any fun s => decide (compCut s.f f ≤ 0) && decide (compCut t s.t ≤ 0)
def growC (l : List SpanC) (f t : CutC) : List SpanC :=
  match l.getLast? with
  | some s => if compCut s.t f = 0 then l.dropLast ++ [⟨s.f, t⟩] else l ++ [⟨f, t⟩]
  | none => [⟨f, t⟩]
/-- The stretches between cuts, one behind the other, that a test takes, grown together. -/
def stretch (test : CutC → CutC → Bool) : List SpanC → List CutC → List SpanC
  | out, a :: b :: l => stretch test (if test a b = true then growC out a b else out) (b :: l)
  | out, _ => out
def notR (l : List SpanC) : List SpanC := if mayRow l = true then stretch (fun f t => !inC l f t) [] (cutsC l) else []
def andR (a b : List SpanC) : List SpanC := if mayRow a = true ∧ mayRow b = true then stretch (fun f t => inC a f t && inC b f t) [] (cutsC (a ++ b)) else []
def withinR (a b : List SpanC) : Bool := mayRow a && mayRow b && decide (andR a b = a)

/-! Facts. -/
theorem may_first : mayCut firstC = true := by decide
theorem may_last : mayCut lastC = true := by decide
theorem compv_self (v : Ver) : compV v v = 0 := by
  unfold compV
  split
  · simp [intsI, orI, presI]
  · rfl
theorem comp_self (c : CutC) : compCut c c = 0 := by
  unfold compCut
  split
  · split
    · simp [intsI]
    · simp [compv_self, orI, aftI]
  · rfl
theorem comp_of {a b : CutC} (ha : mayCut a = true) (hb : mayCut b = true) : compCut a b = if a.e ≠ 0 ∨ b.e ≠ 0 then intsI a.e b.e else orI (compV a.v b.v) (aftI a.aft b.aft) := by
  unfold compCut
  rw [if_pos ⟨ha, hb⟩]
theorem may_e {c : CutC} (h : mayCut c = true) : c.e = -1 ∨ c.e = 0 ∨ c.e = 1 := by
  unfold mayCut at h
  split at h
  · exact .inr (.inl ‹_›)
  · simp only [Bool.and_eq_true, Bool.or_eq_true, decide_eq_true_eq] at h
    rcases h.1.1 with h | h
    · exact .inl h
    · exact .inr (.inr h)
theorem end_is {c : CutC} (h : mayCut c = true) : (c.e = -1 → c = firstC) ∧ (c.e = 1 → c = lastC) := by
  unfold mayCut at h
  obtain ⟨e, v, f⟩ := c
  dsimp only at h ⊢
  constructor
  · rintro rfl
    simp at h
    obtain ⟨rfl, rfl⟩ := h
    rfl
  · rintro rfl
    simp at h
    obtain ⟨rfl, rfl⟩ := h
    rfl
theorem comp_ends {a b : CutC} (ha : mayCut a = true) (hb : mayCut b = true) (h : a.e ≠ 0 ∨ b.e ≠ 0) : compCut a b = intsI a.e b.e := by rw [comp_of ha hb, if_pos h]
theorem ints_1 {a b : Int} (h : a < b) : intsI a b = -1 := by unfold intsI; rw [if_pos h]
theorem ints_2 {a b : Int} (h : b < a) : intsI a b = 1 := by unfold intsI; rw [if_neg (by omega), if_pos h]
theorem ints_0 (a : Int) : intsI a a = 0 := by unfold intsI; rw [if_neg (by omega), if_neg (by omega)]

/-- The complement of one span. -/
def not1 (s : SpanC) : List SpanC := (if s.f.e = -1 then [] else [⟨firstC, s.f⟩]) ++ (if s.t.e = 1 then [] else [⟨s.t, lastC⟩])
theorem span_ends {s : SpanC} (h : mayS s = true) : mayCut s.f = true ∧ mayCut s.t = true ∧ compCut s.f s.t < 0 ∧ (s.f.e = -1 ∨ s.f.e = 0) ∧ (s.t.e = 0 ∨ s.t.e = 1) := by
  unfold mayS at h
  simp only [Bool.and_eq_true, decide_eq_true_eq] at h
  obtain ⟨⟨h1, h2⟩, h3⟩ := h
  refine ⟨h1, h2, h3, ?_, ?_⟩
  · rcases may_e h1 with e | e | e
    · exact .inl e
    · exact .inr e
    · exfalso
      rw [comp_ends h1 h2 (by omega)] at h3
      rcases may_e h2 with e2 | e2 | e2 <;> rw [e, e2] at h3 <;> revert h3 <;> decide
  · rcases may_e h2 with e | e | e
    · exfalso
      rw [comp_ends h1 h2 (by omega)] at h3
      rcases may_e h1 with e2 | e2 | e2 <;> rw [e, e2] at h3 <;> revert h3 <;> decide
    · exact .inl e
    · exact .inr e
theorem notP_nil : notP [] = [⟨firstC, lastC⟩] := by decide
theorem notR_nil : notR [] = [⟨firstC, lastC⟩] := by decide
theorem notP_one {s : SpanC} (h : mayS s = true) : notP [s] = not1 s := by
  obtain ⟨h1, h2, h3, h4, h5⟩ := span_ends h
  unfold notP not1
  rw [if_pos (show mayRow [s] = true from h)]
  simp only [notGo]
  congr 1
  · rw [comp_ends may_first h1 (by left; decide)]
    rcases h4 with e | e
    · rw [e]; rfl
    · rw [e]; rfl
  · rcases h5 with e | e
    · rw [e]; rfl
    · rw [e]; rfl
theorem notR_one {s : SpanC} (h : mayS s = true) : notR [s] = not1 s := by
  obtain ⟨h1, h2, h3, h4, h5⟩ := span_ends h
  have hff := comp_self s.f
  have htt := comp_self s.t
  have c1 := comp_ends may_first h1 (.inl (by decide))
  have c2 := comp_ends h1 may_first (.inr (by decide))
  have c3 := comp_ends may_first h2 (.inl (by decide))
  have c5 := comp_ends may_last h1 (.inl (by decide))
  have c7 := comp_ends may_last h2 (.inl (by decide))
  have hfl : compCut firstC lastC = -1 := by decide
  have hl1 : compCut lastC firstC = 1 := by decide
  have hf0 : compCut firstC firstC = 0 := by decide
  have hl0 : compCut lastC lastC = 0 := by decide
  have e1 : firstC.e = -1 := rfl
  have e2 : lastC.e = 1 := rfl
  have hr : mayRow [s] = true := h
  obtain ⟨f, t⟩ := s
  dsimp only at *
  rcases h4 with e | e <;> rcases h5 with g | g
  · obtain rfl := (end_is h1).1 e
    simp [g, e1, e2, intsI] at c3 c7
    simp [notR, not1, cutsC, hr, putC, stretch, inC, growC, hf0, htt, c3, c7, h3, e1, g]
  · obtain rfl := (end_is h1).1 e
    obtain rfl := (end_is h2).2 g
    decide
  · simp [e, e1, e2, intsI] at c1 c2 c5
    simp [g, e1, e2, intsI] at c3 c7
    simp [notR, not1, cutsC, hr, putC, stretch, inC, growC, hff, htt, c1, c2, c3, c5, c7, h3, e, g]
    omega
  · obtain rfl := (end_is h2).2 g
    simp [e, e1, e2, intsI] at c1 c2 c5
    simp [notR, not1, cutsC, hr, putC, stretch, inC, growC, hff, hl0, c1, c2, c5, hfl, h3, e, e2]
end Go.Proofs.YthaagngoefieaaaDoor
end

/-
  The walks of chapter 3's May of cuts, the program's and the reference's. Conditions: Pre and Build have at most 1048576 bytes.
-/
section
namespace Go.Proofs.YthaagngoefieaaaDoor
open Go.ChangeShapes Go.WideShapes Go.ChangeAt Go.RowKit
set_option linter.unusedVariables false
set_option linter.unusedSimpArgs false

def cutW (e a b c : Int) (p q : ByteArray) (f : Bool) : Value := .agg #[.int .i64 e, .int .i64 a, .int .i64 b, .int .i64 c, .string p, .string q, .bool f]
def cutS (e a b c : Int) (p q : ByteArray) (f : Bool) : CutC := ⟨e, verS a b c p q, f⟩
theorem mayCut_0 (a b c : Int) (p q : ByteArray) (f : Bool) : mayCut (cutS 0 a b c p q f) = (mayV (verS a b c p q) && q.data.toList.isEmpty) := by
  unfold mayCut cutS
  exact if_pos rfl
theorem mayCut_1 {e : Int} (h : e = -1 ∨ e = 1) (a b c : Int) (p q : ByteArray) (f : Bool) : mayCut (cutS e a b c p q f) = (eqV a b c p q 0 0 0 ⟨#[]⟩ ⟨#[]⟩ && !f) := by
  unfold mayCut cutS
  rw [eqV_ver]
  rcases h with rfl | rfl
  · rw [if_neg (show ¬ (-1 : Int) = 0 by decide)]; rfl
  · rw [if_neg (show ¬ (1 : Int) = 0 by decide)]; rfl
theorem mayCut_2 {e : Int} (h0 : e ≠ 0) (h1 : e ≠ -1) (h2 : e ≠ 1) (a b c : Int) (p q : ByteArray) (f : Bool) : mayCut (cutS e a b c p q f) = false := by
  unfold mayCut cutS
  rw [if_neg h0]
  simp [h1, h2]
theorem nil_empty {q : ByteArray} (h : q.size = 0) : q.data.toList.isEmpty = true := by rw [size_nil h]; rfl
theorem nil_not {q : ByteArray} (h : q.size ≠ 0) : q.data.toList.isEmpty = false := by
  rw [Bool.eq_false_iff, ne_eq, List.isEmpty_iff]
  intro e
  have := congrArg List.length e
  rw [len_size] at this
  exact h this
theorem compCut_a {x y : CutC} (h : mayCut x = false) : compCut x y = 0 := by unfold compCut; exact if_neg fun g => by rw [h] at g; exact absurd g.1 (by decide)
theorem compCut_b {x y : CutC} (h : mayCut y = false) : compCut x y = 0 := by unfold compCut; exact if_neg fun g => by rw [h] at g; exact absurd g.2 (by decide)
theorem compCut_e {e a b c : Int} {p q : ByteArray} {f : Bool} {e' a' b' c' : Int} {p' q' : ByteArray} {f' : Bool} (hx : mayCut (cutS e a b c p q f) = true) (hy : mayCut (cutS e' a' b' c' p' q' f') = true) (h : e ≠ 0 ∨ e' ≠ 0) : compCut (cutS e a b c p q f) (cutS e' a' b' c' p' q' f') = intsI e e' := by
  unfold compCut
  rw [if_pos ⟨hx, hy⟩, if_pos (show (cutS e a b c p q f).e ≠ 0 ∨ (cutS e' a' b' c' p' q' f').e ≠ 0 from h)]
  rfl
theorem compCut_v {a b c : Int} {p q : ByteArray} {f : Bool} {a' b' c' : Int} {p' q' : ByteArray} {f' : Bool} (hx : mayCut (cutS 0 a b c p q f) = true) (hy : mayCut (cutS 0 a' b' c' p' q' f') = true) : compCut (cutS 0 a b c p q f) (cutS 0 a' b' c' p' q' f') = orI (compV (verS a b c p q) (verS a' b' c' p' q')) (aftI f f') := by
  unfold compCut
  rw [if_pos ⟨hx, hy⟩, if_neg (show ¬((cutS 0 a b c p q f).e ≠ 0 ∨ (cutS 0 a' b' c' p' q' f').e ≠ 0) from fun h => by rcases h with h | h <;> exact h rfl)]
  rfl
theorem or_00 (x : Int) : orI 0 x = x := by unfold orI; exact if_pos rfl
theorem or_11 {r : Int} (h : r ≠ 0) (x : Int) : orI r x = r := by unfold orI; exact if_neg h

set_option maxHeartbeats 2000000 in
theorem cutmay_any (e a b c : Int) (p q : ByteArray) (f : Bool) (w : World) (hp : p.size ≤ 1048576) (hq : q.size ≤ 1048576) :
    Calls Tryd.prog 103 #[cutW e a b c p q f] w fun r w' => r = .returned (.bool (mayCut (cutS e a b c p q f))) ∧ Below w.heap.size w w' := by
  unfold cutW
  have m := fun W => may_any a b c p q W hp hq
  by_cases h0 : e = 0
  · subst h0
    rw [mayCut_0]
    cases hm : mayV (verS a b c p q)
    · rw [hm] at m
      clear hm
      go_enter Tryd.func103, Tryd.ntmps103
      go_wp2_with (go_at_call 41; refine (m _).mono ?_; rintro r w1 ⟨rfl, hb1⟩)
      go_ret
      exact ⟨rfl, (box_below w _).trans (hb1.mono (by simp))⟩
    · rw [hm] at m
      clear hm
      by_cases hq0 : q.size = 0
      · rw [nil_empty hq0]
        have e2 := empty_str q hq0
        clear hq0
        go_enter Tryd.func103, Tryd.ntmps103
        go_wp2_with fail
        refine (m _).mono ?_
        rintro r w1 ⟨rfl, hb1⟩
        have hL := loc_call (loc_new (loc_start w) w.heap.size [.int .i64 0, .int .i64 a, .int .i64 b, .int .i64 c, .string p, .string q, .bool f] 48) hb1
        clear hb1
        obtain ⟨c0, c1, c2, c3, c4, c5, c6⟩ := cells7L (loc_own hL 0 rfl).1
        go_wp2_with fail
        go_ret
        exact ⟨rfl, hL.1⟩
      · rw [nil_not hq0]
        have e2 := (empty_no (s := q) (by omega)).1
        clear hq0
        go_enter Tryd.func103, Tryd.ntmps103
        go_wp2_with fail
        refine (m _).mono ?_
        rintro r w1 ⟨rfl, hb1⟩
        have hL := loc_call (loc_new (loc_start w) w.heap.size [.int .i64 0, .int .i64 a, .int .i64 b, .int .i64 c, .string p, .string q, .bool f] 48) hb1
        clear hb1
        obtain ⟨c0, c1, c2, c3, c4, c5, c6⟩ := cells7L (loc_own hL 0 rfl).1
        go_wp2_with fail
        go_ret
        exact ⟨rfl, hL.1⟩
  · by_cases h1 : e = -1 ∨ e = 1
    · rw [mayCut_1 h1]
      have heq : ∀ W, (binOp .eql 24 (.agg #[.int .i64 a, .int .i64 b, .int .i64 c, .string p, .string q]) (.agg #[.int .i64 0, .int .i64 0, .int .i64 0, .string ⟨#[]⟩, .string ⟨#[]⟩])).run Tryd.prog W = .ok (.bool (eqV a b c p q 0 0 0 ⟨#[]⟩ ⟨#[]⟩)) W := fun W => by rw [run_eqV]
      generalize eqV a b c p q 0 0 0 ⟨#[]⟩ ⟨#[]⟩ = r at *
      clear h0 m
      rcases h1 with rfl | rfl <;> cases r <;> cases f
      all_goals
        go_enter Tryd.func103, Tryd.ntmps103
        go_wp2
        go_ret
        exact ⟨rfl, box_below _ _⟩
    · rw [mayCut_2 h0 (fun h => h1 (.inl h)) (fun h => h1 (.inr h))]
      have g0 : (e == 0) = false := by simpa using h0
      have g1 : (e == -1) = false := by simp; omega
      have g2 : (e == 1) = false := by simp; omega
      clear h0 h1 m
      go_enter Tryd.func103, Tryd.ntmps103
      go_wp2
      go_ret
      exact ⟨rfl, box_below _ _⟩

set_option maxHeartbeats 2000000 in
theorem rcutmay_any (e a b c : Int) (p q : ByteArray) (f : Bool) (w : World) (hp : p.size ≤ 1048576) (hq : q.size ≤ 1048576) :
    Calls Tryd.prog 92 #[cutW e a b c p q f] w fun r w' => r = .returned (.bool (mayCut (cutS e a b c p q f))) ∧ Below w.heap.size w w' := by
  unfold cutW
  have m := fun W => rmay_any a b c p q W hp hq
  by_cases h0 : e = 0
  · subst h0
    rw [mayCut_0]
    cases hm : mayV (verS a b c p q)
    · rw [hm] at m
      clear hm
      go_enter Tryd.func92, Tryd.ntmps92
      go_wp2_with (go_at_call 42; refine (m _).mono ?_; rintro r w1 ⟨rfl, hb1⟩)
      go_ret
      exact ⟨rfl, (box_below w _).trans (hb1.mono (by simp))⟩
    · rw [hm] at m
      clear hm
      by_cases hq0 : q.size = 0
      · rw [nil_empty hq0]
        have e2 := empty_str q hq0
        clear hq0
        go_enter Tryd.func92, Tryd.ntmps92
        go_wp2_with fail
        refine (m _).mono ?_
        rintro r w1 ⟨rfl, hb1⟩
        have hL := loc_call (loc_new (loc_start w) w.heap.size [.int .i64 0, .int .i64 a, .int .i64 b, .int .i64 c, .string p, .string q, .bool f] 48) hb1
        clear hb1
        obtain ⟨c0, c1, c2, c3, c4, c5, c6⟩ := cells7L (loc_own hL 0 rfl).1
        go_wp2_with fail
        go_ret
        exact ⟨rfl, hL.1⟩
      · rw [nil_not hq0]
        have e2 := (empty_no (s := q) (by omega)).1
        clear hq0
        go_enter Tryd.func92, Tryd.ntmps92
        go_wp2_with fail
        refine (m _).mono ?_
        rintro r w1 ⟨rfl, hb1⟩
        have hL := loc_call (loc_new (loc_start w) w.heap.size [.int .i64 0, .int .i64 a, .int .i64 b, .int .i64 c, .string p, .string q, .bool f] 48) hb1
        clear hb1
        obtain ⟨c0, c1, c2, c3, c4, c5, c6⟩ := cells7L (loc_own hL 0 rfl).1
        go_wp2_with fail
        go_ret
        exact ⟨rfl, hL.1⟩
  · by_cases h1 : e = -1 ∨ e = 1
    · rw [mayCut_1 h1]
      have heq : ∀ W, (binOp .eql 24 (.agg #[.int .i64 a, .int .i64 b, .int .i64 c, .string p, .string q]) (.agg #[.int .i64 0, .int .i64 0, .int .i64 0, .string ⟨#[]⟩, .string ⟨#[]⟩])).run Tryd.prog W = .ok (.bool (eqV a b c p q 0 0 0 ⟨#[]⟩ ⟨#[]⟩)) W := fun W => by rw [run_eqV]
      generalize eqV a b c p q 0 0 0 ⟨#[]⟩ ⟨#[]⟩ = r at *
      clear h0 m
      rcases h1 with rfl | rfl <;> cases r <;> cases f
      all_goals
        go_enter Tryd.func92, Tryd.ntmps92
        go_wp2
        go_ret
        exact ⟨rfl, box_below _ _⟩
    · rw [mayCut_2 h0 (fun h => h1 (.inl h)) (fun h => h1 (.inr h))]
      have g0 : (e == 0) = false := by simpa using h0
      have g1 : (e == -1) = false := by simp; omega
      have g2 : (e == 1) = false := by simp; omega
      clear h0 h1 m
      go_enter Tryd.func92, Tryd.ntmps92
      go_wp2
      go_ret
      exact ⟨rfl, box_below _ _⟩

end Go.Proofs.YthaagngoefieaaaDoor
end

/-
  The walks of chapter 3's Compare of cuts, the program's and the reference's. Conditions: Pre and Build have at most 1048576 bytes.
-/
section
namespace Go.Proofs.YthaagngoefieaaaDoor
open Go.ChangeShapes Go.WideShapes Go.ChangeAt Go.RowKit
set_option linter.unusedVariables false
set_option linter.unusedSimpArgs false

set_option maxRecDepth 8192 in
set_option maxHeartbeats 4000000 in
theorem cutcomp_any (e a b c : Int) (p q : ByteArray) (f : Bool) (e' a' b' c' : Int) (p' q' : ByteArray) (f' : Bool) (w : World) (hp : p.size ≤ 1048576) (hq : q.size ≤ 1048576) (hp' : p'.size ≤ 1048576) (hq' : q'.size ≤ 1048576) :
    Calls Tryd.prog 85 #[cutW e a b c p q f, cutW e' a' b' c' p' q' f'] w fun r w' => r = .returned (.int .i64 (compCut (cutS e a b c p q f) (cutS e' a' b' c' p' q' f'))) ∧ Below w.heap.size w w' := by
  have m1 := fun W => cutmay_any e a b c p q f W hp hq
  have m2 := fun W => cutmay_any e' a' b' c' p' q' f' W hp' hq'
  unfold cutW at *
  cases hx : mayCut (cutS e a b c p q f)
  · rw [compCut_a hx]
    rw [hx] at m1
    clear hx
    go_enter Tryd.func85, Tryd.ntmps85
    go_wp2_with fail
    refine (m1 _).mono ?_
    rintro r w1 ⟨rfl, hb1⟩
    go_wp2
    go_ret
    exact ⟨rfl, (two_below w _ _).trans (hb1.mono (by simp; omega))⟩
  cases hy : mayCut (cutS e' a' b' c' p' q' f')
  · rw [compCut_b hy]
    rw [hx] at m1
    rw [hy] at m2
    clear hx hy
    go_enter Tryd.func85, Tryd.ntmps85
    go_wp2_with fail
    refine (m1 _).mono ?_
    rintro r w1 ⟨rfl, hb1⟩
    have hL := loc_call (loc_new (loc_new (loc_start w) w.heap.size [.int .i64 e, .int .i64 a, .int .i64 b, .int .i64 c, .string p, .string q, .bool f] 48) (w.heap.size + 1) [.int .i64 e', .int .i64 a', .int .i64 b', .int .i64 c', .string p', .string q', .bool f'] 48) hb1
    clear hb1
    obtain ⟨c0, c1, c2, c3, c4, c5, c6⟩ := cells7L (loc_own hL 0 rfl).1
    obtain ⟨d0, d1, d2, d3, d4, d5, d6⟩ := cells7L (loc_own hL 1 rfl).1
    go_wp2_with fail
    refine (m2 _).mono ?_
    rintro r w2 ⟨rfl, hb2⟩
    have hL := loc_call hL hb2
    clear hb2 c0 c1 c2 c3 c4 c5 c6 d0 d1 d2 d3 d4 d5 d6
    obtain ⟨c0, c1, c2, c3, c4, c5, c6⟩ := cells7L (loc_own hL 0 rfl).1
    obtain ⟨d0, d1, d2, d3, d4, d5, d6⟩ := cells7L (loc_own hL 1 rfl).1
    go_wp2
    go_ret
    exact ⟨rfl, hL.1⟩
  by_cases h0 : e = 0 ∧ e' = 0
  · obtain ⟨rfl, rfl⟩ := h0
    have HC := Lib.hid (compCut_v hx hy)
    rw [hx] at m1
    rw [hy] at m2
    have cc := fun W => compare_any a b c p q a' b' c' p' q' W hp hq hp' hq'
    generalize compCut (cutS 0 a b c p q f) (cutS 0 a' b' c' p' q' f') = R at *
    generalize compV (verS a b c p q) (verS a' b' c' p' q') = k at *
    clear hx hy
    by_cases hk : k = 0
    · subst hk
      have HF : Hid (R = aftI f f') := HC.out.trans (or_00 _)
      clear HC
      cases f <;> cases f'
      all_goals
        go_enter Tryd.func85, Tryd.ntmps85
        go_wp2_with fail
        refine (m1 _).mono ?_
        rintro r w1 ⟨rfl, hb1⟩
        have hL := loc_call (loc_new (loc_new (loc_start w) w.heap.size [.int .i64 0, .int .i64 a, .int .i64 b, .int .i64 c, .string p, .string q, .bool _] 48) (w.heap.size + 1) [.int .i64 0, .int .i64 a', .int .i64 b', .int .i64 c', .string p', .string q', .bool _] 48) hb1
        clear hb1
        obtain ⟨c0, c1, c2, c3, c4, c5, c6⟩ := cells7L (loc_own hL 0 rfl).1
        obtain ⟨d0, d1, d2, d3, d4, d5, d6⟩ := cells7L (loc_own hL 1 rfl).1
        go_wp2_with fail
        refine (m2 _).mono ?_
        rintro r w2 ⟨rfl, hb2⟩
        have hL := loc_call hL hb2
        clear hb2 c0 c1 c2 c3 c4 c5 c6 d0 d1 d2 d3 d4 d5 d6
        obtain ⟨c0, c1, c2, c3, c4, c5, c6⟩ := cells7L (loc_own hL 0 rfl).1
        obtain ⟨d0, d1, d2, d3, d4, d5, d6⟩ := cells7L (loc_own hL 1 rfl).1
        go_wp2_with fail
        refine (cc _).mono ?_
        rintro r w3 ⟨rfl, hb3⟩
        have hL := loc_call hL hb3
        clear hb3 c0 c1 c2 c3 c4 c5 c6 d0 d1 d2 d3 d4 d5 d6
        obtain ⟨c0, c1, c2, c3, c4, c5, c6⟩ := cells7L (loc_own hL 0 rfl).1
        obtain ⟨d0, d1, d2, d3, d4, d5, d6⟩ := cells7L (loc_own hL 1 rfl).1
        go_wp2
        go_ret
        exact ⟨by rw [HF.out]; rfl, hL.1⟩
    · have HF : Hid (R = k) := HC.out.trans (or_11 hk _)
      have gk : (k == 0) = false := by simpa using hk
      have gk2 : (k != 0) = true := by simpa using hk
      clear HC hk
      go_enter Tryd.func85, Tryd.ntmps85
      go_wp2_with fail
      refine (m1 _).mono ?_
      rintro r w1 ⟨rfl, hb1⟩
      have hL := loc_call (loc_new (loc_new (loc_start w) w.heap.size [.int .i64 0, .int .i64 a, .int .i64 b, .int .i64 c, .string p, .string q, .bool f] 48) (w.heap.size + 1) [.int .i64 0, .int .i64 a', .int .i64 b', .int .i64 c', .string p', .string q', .bool f'] 48) hb1
      clear hb1
      obtain ⟨c0, c1, c2, c3, c4, c5, c6⟩ := cells7L (loc_own hL 0 rfl).1
      obtain ⟨d0, d1, d2, d3, d4, d5, d6⟩ := cells7L (loc_own hL 1 rfl).1
      go_wp2_with fail
      refine (m2 _).mono ?_
      rintro r w2 ⟨rfl, hb2⟩
      have hL := loc_call hL hb2
      clear hb2 c0 c1 c2 c3 c4 c5 c6 d0 d1 d2 d3 d4 d5 d6
      obtain ⟨c0, c1, c2, c3, c4, c5, c6⟩ := cells7L (loc_own hL 0 rfl).1
      obtain ⟨d0, d1, d2, d3, d4, d5, d6⟩ := cells7L (loc_own hL 1 rfl).1
      go_wp2_with fail
      refine (cc _).mono ?_
      rintro r w3 ⟨rfl, hb3⟩
      have hL := loc_call hL hb3
      clear hb3 c0 c1 c2 c3 c4 c5 c6 d0 d1 d2 d3 d4 d5 d6
      obtain ⟨c0, c1, c2, c3, c4, c5, c6⟩ := cells7L (loc_own hL 0 rfl).1
      obtain ⟨d0, d1, d2, d3, d4, d5, d6⟩ := cells7L (loc_own hL 1 rfl).1
      go_wp2
      go_ret
      exact ⟨by rw [HF.out]; rfl, hL.1⟩
  · have h1 : e ≠ 0 ∨ e' ≠ 0 := by omega
    rw [compCut_e hx hy h1]
    rw [hx] at m1
    rw [hy] at m2
    have cc := fun W => cmp_any e e' W
    clear hx hy h0
    by_cases h2 : e = 0
    · subst h2
      have h3 : e' ≠ 0 := by omega
      have g1 : (e' == 0) = false := by simpa using h3
      have g2 : (e' != 0) = true := by simpa using h3
      clear h1 h3
      go_enter Tryd.func85, Tryd.ntmps85
      go_wp2_with fail
      refine (m1 _).mono ?_
      rintro r w1 ⟨rfl, hb1⟩
      have hL := loc_call (loc_new (loc_new (loc_start w) w.heap.size [.int .i64 0, .int .i64 a, .int .i64 b, .int .i64 c, .string p, .string q, .bool f] 48) (w.heap.size + 1) [.int .i64 e', .int .i64 a', .int .i64 b', .int .i64 c', .string p', .string q', .bool f'] 48) hb1
      clear hb1
      obtain ⟨c0, c1, c2, c3, c4, c5, c6⟩ := cells7L (loc_own hL 0 rfl).1
      obtain ⟨d0, d1, d2, d3, d4, d5, d6⟩ := cells7L (loc_own hL 1 rfl).1
      go_wp2_with fail
      refine (m2 _).mono ?_
      rintro r w2 ⟨rfl, hb2⟩
      have hL := loc_call hL hb2
      clear hb2 c0 c1 c2 c3 c4 c5 c6 d0 d1 d2 d3 d4 d5 d6
      obtain ⟨c0, c1, c2, c3, c4, c5, c6⟩ := cells7L (loc_own hL 0 rfl).1
      obtain ⟨d0, d1, d2, d3, d4, d5, d6⟩ := cells7L (loc_own hL 1 rfl).1
      go_wp2_with (go_at_call 49; refine (cc _).mono ?_; rintro r w3 ⟨rfl, rfl⟩)
      go_ret
      exact ⟨rfl, hL.1⟩
    · have g1 : (e == 0) = false := by simpa using h2
      have g2 : (e != 0) = true := by simpa using h2
      clear h1 h2
      go_enter Tryd.func85, Tryd.ntmps85
      go_wp2_with fail
      refine (m1 _).mono ?_
      rintro r w1 ⟨rfl, hb1⟩
      have hL := loc_call (loc_new (loc_new (loc_start w) w.heap.size [.int .i64 e, .int .i64 a, .int .i64 b, .int .i64 c, .string p, .string q, .bool f] 48) (w.heap.size + 1) [.int .i64 e', .int .i64 a', .int .i64 b', .int .i64 c', .string p', .string q', .bool f'] 48) hb1
      clear hb1
      obtain ⟨c0, c1, c2, c3, c4, c5, c6⟩ := cells7L (loc_own hL 0 rfl).1
      obtain ⟨d0, d1, d2, d3, d4, d5, d6⟩ := cells7L (loc_own hL 1 rfl).1
      go_wp2_with fail
      refine (m2 _).mono ?_
      rintro r w2 ⟨rfl, hb2⟩
      have hL := loc_call hL hb2
      clear hb2 c0 c1 c2 c3 c4 c5 c6 d0 d1 d2 d3 d4 d5 d6
      obtain ⟨c0, c1, c2, c3, c4, c5, c6⟩ := cells7L (loc_own hL 0 rfl).1
      obtain ⟨d0, d1, d2, d3, d4, d5, d6⟩ := cells7L (loc_own hL 1 rfl).1
      go_wp2_with (go_at_call 49; refine (cc _).mono ?_; rintro r w3 ⟨rfl, rfl⟩)
      go_ret
      exact ⟨rfl, hL.1⟩
set_option maxRecDepth 8192 in
set_option maxHeartbeats 4000000 in
theorem rcutcomp_any (e a b c : Int) (p q : ByteArray) (f : Bool) (e' a' b' c' : Int) (p' q' : ByteArray) (f' : Bool) (w : World) (hp : p.size ≤ 1048576) (hq : q.size ≤ 1048576) (hp' : p'.size ≤ 1048576) (hq' : q'.size ≤ 1048576) :
    Calls Tryd.prog 62 #[cutW e a b c p q f, cutW e' a' b' c' p' q' f'] w fun r w' => r = .returned (.int .i64 (compCut (cutS e a b c p q f) (cutS e' a' b' c' p' q' f'))) ∧ Below w.heap.size w w' := by
  have m1 := fun W => rcutmay_any e a b c p q f W hp hq
  have m2 := fun W => rcutmay_any e' a' b' c' p' q' f' W hp' hq'
  unfold cutW at *
  cases hx : mayCut (cutS e a b c p q f)
  · rw [compCut_a hx]
    rw [hx] at m1
    clear hx
    go_enter Tryd.func62, Tryd.ntmps62
    go_wp2_with fail
    refine (m1 _).mono ?_
    rintro r w1 ⟨rfl, hb1⟩
    go_wp2
    go_ret
    exact ⟨rfl, (two_below w _ _).trans (hb1.mono (by simp; omega))⟩
  cases hy : mayCut (cutS e' a' b' c' p' q' f')
  · rw [compCut_b hy]
    rw [hx] at m1
    rw [hy] at m2
    clear hx hy
    go_enter Tryd.func62, Tryd.ntmps62
    go_wp2_with fail
    refine (m1 _).mono ?_
    rintro r w1 ⟨rfl, hb1⟩
    have hL := loc_call (loc_new (loc_new (loc_start w) w.heap.size [.int .i64 e, .int .i64 a, .int .i64 b, .int .i64 c, .string p, .string q, .bool f] 48) (w.heap.size + 1) [.int .i64 e', .int .i64 a', .int .i64 b', .int .i64 c', .string p', .string q', .bool f'] 48) hb1
    clear hb1
    obtain ⟨c0, c1, c2, c3, c4, c5, c6⟩ := cells7L (loc_own hL 0 rfl).1
    obtain ⟨d0, d1, d2, d3, d4, d5, d6⟩ := cells7L (loc_own hL 1 rfl).1
    go_wp2_with fail
    refine (m2 _).mono ?_
    rintro r w2 ⟨rfl, hb2⟩
    have hL := loc_call hL hb2
    clear hb2 c0 c1 c2 c3 c4 c5 c6 d0 d1 d2 d3 d4 d5 d6
    obtain ⟨c0, c1, c2, c3, c4, c5, c6⟩ := cells7L (loc_own hL 0 rfl).1
    obtain ⟨d0, d1, d2, d3, d4, d5, d6⟩ := cells7L (loc_own hL 1 rfl).1
    go_wp2
    go_ret
    exact ⟨rfl, hL.1⟩
  by_cases h0 : e = 0 ∧ e' = 0
  · obtain ⟨rfl, rfl⟩ := h0
    have HC := Lib.hid (compCut_v hx hy)
    rw [hx] at m1
    rw [hy] at m2
    have cc := fun W => rcompare_any a b c p q a' b' c' p' q' W hp hq hp' hq'
    generalize compCut (cutS 0 a b c p q f) (cutS 0 a' b' c' p' q' f') = R at *
    generalize compV (verS a b c p q) (verS a' b' c' p' q') = k at *
    clear hx hy
    by_cases hk : k = 0
    · subst hk
      have HF : Hid (R = aftI f f') := HC.out.trans (or_00 _)
      clear HC
      cases f <;> cases f'
      all_goals
        go_enter Tryd.func62, Tryd.ntmps62
        go_wp2_with fail
        refine (m1 _).mono ?_
        rintro r w1 ⟨rfl, hb1⟩
        have hL := loc_call (loc_new (loc_new (loc_start w) w.heap.size [.int .i64 0, .int .i64 a, .int .i64 b, .int .i64 c, .string p, .string q, .bool _] 48) (w.heap.size + 1) [.int .i64 0, .int .i64 a', .int .i64 b', .int .i64 c', .string p', .string q', .bool _] 48) hb1
        clear hb1
        obtain ⟨c0, c1, c2, c3, c4, c5, c6⟩ := cells7L (loc_own hL 0 rfl).1
        obtain ⟨d0, d1, d2, d3, d4, d5, d6⟩ := cells7L (loc_own hL 1 rfl).1
        go_wp2_with fail
        refine (m2 _).mono ?_
        rintro r w2 ⟨rfl, hb2⟩
        have hL := loc_call hL hb2
        clear hb2 c0 c1 c2 c3 c4 c5 c6 d0 d1 d2 d3 d4 d5 d6
        obtain ⟨c0, c1, c2, c3, c4, c5, c6⟩ := cells7L (loc_own hL 0 rfl).1
        obtain ⟨d0, d1, d2, d3, d4, d5, d6⟩ := cells7L (loc_own hL 1 rfl).1
        go_wp2_with fail
        refine (cc _).mono ?_
        rintro r w3 ⟨rfl, hb3⟩
        have hL := loc_call hL hb3
        clear hb3 c0 c1 c2 c3 c4 c5 c6 d0 d1 d2 d3 d4 d5 d6
        obtain ⟨c0, c1, c2, c3, c4, c5, c6⟩ := cells7L (loc_own hL 0 rfl).1
        obtain ⟨d0, d1, d2, d3, d4, d5, d6⟩ := cells7L (loc_own hL 1 rfl).1
        go_wp2
        go_ret
        exact ⟨by rw [HF.out]; rfl, hL.1⟩
    · have HF : Hid (R = k) := HC.out.trans (or_11 hk _)
      have gk : (k == 0) = false := by simpa using hk
      have gk2 : (k != 0) = true := by simpa using hk
      clear HC hk
      go_enter Tryd.func62, Tryd.ntmps62
      go_wp2_with fail
      refine (m1 _).mono ?_
      rintro r w1 ⟨rfl, hb1⟩
      have hL := loc_call (loc_new (loc_new (loc_start w) w.heap.size [.int .i64 0, .int .i64 a, .int .i64 b, .int .i64 c, .string p, .string q, .bool f] 48) (w.heap.size + 1) [.int .i64 0, .int .i64 a', .int .i64 b', .int .i64 c', .string p', .string q', .bool f'] 48) hb1
      clear hb1
      obtain ⟨c0, c1, c2, c3, c4, c5, c6⟩ := cells7L (loc_own hL 0 rfl).1
      obtain ⟨d0, d1, d2, d3, d4, d5, d6⟩ := cells7L (loc_own hL 1 rfl).1
      go_wp2_with fail
      refine (m2 _).mono ?_
      rintro r w2 ⟨rfl, hb2⟩
      have hL := loc_call hL hb2
      clear hb2 c0 c1 c2 c3 c4 c5 c6 d0 d1 d2 d3 d4 d5 d6
      obtain ⟨c0, c1, c2, c3, c4, c5, c6⟩ := cells7L (loc_own hL 0 rfl).1
      obtain ⟨d0, d1, d2, d3, d4, d5, d6⟩ := cells7L (loc_own hL 1 rfl).1
      go_wp2_with fail
      refine (cc _).mono ?_
      rintro r w3 ⟨rfl, hb3⟩
      have hL := loc_call hL hb3
      clear hb3 c0 c1 c2 c3 c4 c5 c6 d0 d1 d2 d3 d4 d5 d6
      obtain ⟨c0, c1, c2, c3, c4, c5, c6⟩ := cells7L (loc_own hL 0 rfl).1
      obtain ⟨d0, d1, d2, d3, d4, d5, d6⟩ := cells7L (loc_own hL 1 rfl).1
      go_wp2
      go_ret
      exact ⟨by rw [HF.out]; rfl, hL.1⟩
  · have h1 : e ≠ 0 ∨ e' ≠ 0 := by omega
    rw [compCut_e hx hy h1]
    rw [hx] at m1
    rw [hy] at m2
    have cc := fun W => ints_any e e' W
    clear hx hy h0
    by_cases h2 : e = e'
    · subst h2
      have h3 : e ≠ 0 := by omega
      have g1 : (e == 0) = false := by simpa using h3
      have g2 : (e != 0) = true := by simpa using h3
      clear h1 h3
      go_enter Tryd.func62, Tryd.ntmps62
      go_wp2_with fail
      refine (m1 _).mono ?_
      rintro r w1 ⟨rfl, hb1⟩
      have hL := loc_call (loc_new (loc_new (loc_start w) w.heap.size [.int .i64 e, .int .i64 a, .int .i64 b, .int .i64 c, .string p, .string q, .bool f] 48) (w.heap.size + 1) [.int .i64 e, .int .i64 a', .int .i64 b', .int .i64 c', .string p', .string q', .bool f'] 48) hb1
      clear hb1
      obtain ⟨c0, c1, c2, c3, c4, c5, c6⟩ := cells7L (loc_own hL 0 rfl).1
      obtain ⟨d0, d1, d2, d3, d4, d5, d6⟩ := cells7L (loc_own hL 1 rfl).1
      go_wp2_with fail
      refine (m2 _).mono ?_
      rintro r w2 ⟨rfl, hb2⟩
      have hL := loc_call hL hb2
      clear hb2 c0 c1 c2 c3 c4 c5 c6 d0 d1 d2 d3 d4 d5 d6
      obtain ⟨c0, c1, c2, c3, c4, c5, c6⟩ := cells7L (loc_own hL 0 rfl).1
      obtain ⟨d0, d1, d2, d3, d4, d5, d6⟩ := cells7L (loc_own hL 1 rfl).1
      go_wp2_with (go_at_call 93; refine (cc _).mono ?_; rintro r w3 ⟨rfl, rfl⟩)
      go_ret
      exact ⟨rfl, hL.1⟩
    · have g1 : (e == e') = false := by simpa using h2
      have g2 : (e != e') = true := by simpa using h2
      clear h1 h2
      go_enter Tryd.func62, Tryd.ntmps62
      go_wp2_with fail
      refine (m1 _).mono ?_
      rintro r w1 ⟨rfl, hb1⟩
      have hL := loc_call (loc_new (loc_new (loc_start w) w.heap.size [.int .i64 e, .int .i64 a, .int .i64 b, .int .i64 c, .string p, .string q, .bool f] 48) (w.heap.size + 1) [.int .i64 e', .int .i64 a', .int .i64 b', .int .i64 c', .string p', .string q', .bool f'] 48) hb1
      clear hb1
      obtain ⟨c0, c1, c2, c3, c4, c5, c6⟩ := cells7L (loc_own hL 0 rfl).1
      obtain ⟨d0, d1, d2, d3, d4, d5, d6⟩ := cells7L (loc_own hL 1 rfl).1
      go_wp2_with fail
      refine (m2 _).mono ?_
      rintro r w2 ⟨rfl, hb2⟩
      have hL := loc_call hL hb2
      clear hb2 c0 c1 c2 c3 c4 c5 c6 d0 d1 d2 d3 d4 d5 d6
      obtain ⟨c0, c1, c2, c3, c4, c5, c6⟩ := cells7L (loc_own hL 0 rfl).1
      obtain ⟨d0, d1, d2, d3, d4, d5, d6⟩ := cells7L (loc_own hL 1 rfl).1
      go_wp2_with (go_at_call 93; refine (cc _).mono ?_; rintro r w3 ⟨rfl, rfl⟩)
      go_ret
      exact ⟨rfl, hL.1⟩
end Go.Proofs.YthaagngoefieaaaDoor
end

/-
  Rows of spans in memory; the walks of chapter 3's SpanMay, the program's and the reference's, and of chapter 6's spans. Conditions: Pre and Build have at most 1048576 bytes.
-/
section
namespace Go.Proofs.YthaagngoefieaaaDoor
open Go.ChangeShapes Go.WideShapes Go.ChangeAt Go.RowKit
set_option linter.unusedVariables false
set_option linter.unusedSimpArgs false

def cutCells (c : CutC) : List Value := [.int .i64 c.e, .int .i64 c.v.maj, .int .i64 c.v.min, .int .i64 c.v.pat, .string ⟨c.v.pre.toArray⟩, .string ⟨c.v.build.toArray⟩, .bool c.aft]
def spanCells (s : SpanC) : List Value := cutCells s.f ++ cutCells s.t
def cutV (c : CutC) : Value := .agg (cutCells c).toArray
def spanV (s : SpanC) : Value := .agg (spanCells s).toArray
theorem cut_of (c : CutC) : ∃ (e a b d : Int) (p q : ByteArray) (f : Bool), c = cutS e a b d p q f ∧ cutV c = cutW e a b d p q f ∧ cutCells c = [.int .i64 e, .int .i64 a, .int .i64 b, .int .i64 d, .string p, .string q, .bool f] ∧ p.size = c.v.pre.length ∧ q.size = c.v.build.length := by
  obtain ⟨e, ⟨a, b, d, p, q⟩, f⟩ := c
  refine ⟨e, a, b, d, ⟨p.toArray⟩, ⟨q.toArray⟩, f, ?_, rfl, rfl, str_size p, str_size q⟩
  simp [cutS, verS]
/-- A cut whose texts are not too long. -/
def okC (c : CutC) : Prop := c.v.pre.length ≤ 1048576 ∧ c.v.build.length ≤ 1048576
def okS (s : SpanC) : Prop := okC s.f ∧ okC s.t
/-- A slice value of spans with address A reads as l; it lies below block B. -/
def RdS (w : World) (B : Nat) (A : Option Addr) (l : List SpanC) : Prop :=
  0 < l.length → ∃ b, A = some ⟨b, 0, none⟩ ∧ b < B ∧ Cells w b (l.flatMap spanCells)
theorem rds_none {w : World} {B : Nat} {A : Option Addr} : RdS w B A [] := fun h => absurd h (by simp)
theorem rds_below {w w' : World} {B : Nat} {A : Option Addr} {l : List SpanC} (h : RdS w B A l) (hb : Below B w w') : RdS w' B A l := fun hn => by
  obtain ⟨b, e, hlt, hc⟩ := h hn
  exact ⟨b, e, hlt, cells_below hc hlt hb⟩
theorem rds_more {w : World} {B B' : Nat} {A : Option Addr} {l : List SpanC} (h : RdS w B A l) (hB : B ≤ B') : RdS w B' A l := fun hn => by
  obtain ⟨b, e, hlt, hc⟩ := h hn
  exact ⟨b, e, by omega, hc⟩
theorem rds_one {w : World} {s : SpanC} (t : TypeId) : RdS (w.alloc (.cells (spanCells s).toArray t)) (w.heap.size + 1) (some ⟨w.heap.size, 0, none⟩) [s] := fun _ => by
  refine ⟨w.heap.size, rfl, by omega, ?_⟩
  have := cells_new w (spanCells s) t
  simpa using this
theorem span_len (s : SpanC) : (spanCells s).length = 14 := rfl
theorem flat_span : ∀ (l : List SpanC) (k m : Nat) (s : SpanC), l[k]? = some s → m < 14 → (l.flatMap spanCells)[k * 14 + m]? = (spanCells s)[m]?
  | [], k, m, s, h, _ => by simp at h
  | x :: l, 0, m, s, h, hm => by
    simp at h
    subst h
    rw [List.flatMap_cons, Nat.zero_mul, Nat.zero_add, List.getElem?_append_left (by rw [span_len]; exact hm)]
  | x :: l, k + 1, m, s, h, hm => by
    rw [List.flatMap_cons, List.getElem?_append_right (by rw [span_len]; omega), span_len, show (k + 1) * 14 + m - 14 = k * 14 + m from by omega]
    exact flat_span l k m s (by simpa using h) hm
theorem mayS_eq (x y : CutC) : mayS ⟨x, y⟩ = (mayCut x && mayCut y && decide (compCut x y < 0)) := rfl
def spansC (s : SpanC) : List SpanC := if compCut s.f s.t < 0 then [s] else []
theorem spans_eq (x y : CutC) : spansC ⟨x, y⟩ = if compCut x y < 0 then [⟨x, y⟩] else [] := rfl

set_option maxRecDepth 8192 in
set_option maxHeartbeats 4000000 in
theorem spanmay_any (e a b c : Int) (p q : ByteArray) (f : Bool) (e' a' b' c' : Int) (p' q' : ByteArray) (f' : Bool) (w : World) (hp : p.size ≤ 1048576) (hq : q.size ≤ 1048576) (hp' : p'.size ≤ 1048576) (hq' : q'.size ≤ 1048576) :
    Calls Tryd.prog 102 #[.agg #[.int .i64 e, .int .i64 a, .int .i64 b, .int .i64 c, .string p, .string q, .bool f, .int .i64 e', .int .i64 a', .int .i64 b', .int .i64 c', .string p', .string q', .bool f']] w fun r w' => r = .returned (.bool (mayS ⟨cutS e a b c p q f, cutS e' a' b' c' p' q' f'⟩)) ∧ Below w.heap.size w w' := by
  rw [mayS_eq]
  have m1 := fun W => cutmay_any e a b c p q f W hp hq
  have m2 := fun W => cutmay_any e' a' b' c' p' q' f' W hp' hq'
  have m3 := fun W => cutcomp_any e a b c p q f e' a' b' c' p' q' f' W hp hq hp' hq'
  unfold cutW at *
  generalize mayCut (cutS e a b c p q f) = r1 at *
  generalize mayCut (cutS e' a' b' c' p' q' f') = r2 at *
  generalize compCut (cutS e a b c p q f) (cutS e' a' b' c' p' q' f') = k at *
  cases r1
  · go_enter Tryd.func102, Tryd.ntmps102
    go_wp2_with fail
    refine (m1 _).mono ?_
    rintro r w1 ⟨rfl, hb1⟩
    have hL := loc_call (loc_new (loc_start w) w.heap.size [.int .i64 e, .int .i64 a, .int .i64 b, .int .i64 c, .string p, .string q, .bool f, .int .i64 e', .int .i64 a', .int .i64 b', .int .i64 c', .string p', .string q', .bool f'] 50) hb1
    clear hb1
    obtain ⟨c0, c1, c2, c3, c4, c5, c6, c7, c8, c9, c10, c11, c12, c13⟩ := cells14L (loc_own hL 0 rfl).1
    go_wp2
    go_ret
    exact ⟨rfl, hL.1⟩
  cases r2
  · go_enter Tryd.func102, Tryd.ntmps102
    go_wp2_with fail
    refine (m1 _).mono ?_
    rintro r w1 ⟨rfl, hb1⟩
    have hL := loc_call (loc_new (loc_start w) w.heap.size [.int .i64 e, .int .i64 a, .int .i64 b, .int .i64 c, .string p, .string q, .bool f, .int .i64 e', .int .i64 a', .int .i64 b', .int .i64 c', .string p', .string q', .bool f'] 50) hb1
    clear hb1
    obtain ⟨c0, c1, c2, c3, c4, c5, c6, c7, c8, c9, c10, c11, c12, c13⟩ := cells14L (loc_own hL 0 rfl).1
    go_wp2_with fail
    refine (m2 _).mono ?_
    rintro r w2 ⟨rfl, hb2⟩
    have hL := loc_call hL hb2
    clear hb2
    clear c0 c1 c2 c3 c4 c5 c6 c7 c8 c9 c10 c11 c12 c13
    obtain ⟨c0, c1, c2, c3, c4, c5, c6, c7, c8, c9, c10, c11, c12, c13⟩ := cells14L (loc_own hL 0 rfl).1
    go_wp2
    go_ret
    exact ⟨rfl, hL.1⟩
  · go_enter Tryd.func102, Tryd.ntmps102
    go_wp2_with fail
    refine (m1 _).mono ?_
    rintro r w1 ⟨rfl, hb1⟩
    have hL := loc_call (loc_new (loc_start w) w.heap.size [.int .i64 e, .int .i64 a, .int .i64 b, .int .i64 c, .string p, .string q, .bool f, .int .i64 e', .int .i64 a', .int .i64 b', .int .i64 c', .string p', .string q', .bool f'] 50) hb1
    clear hb1
    obtain ⟨c0, c1, c2, c3, c4, c5, c6, c7, c8, c9, c10, c11, c12, c13⟩ := cells14L (loc_own hL 0 rfl).1
    go_wp2_with fail
    refine (m2 _).mono ?_
    rintro r w2 ⟨rfl, hb2⟩
    have hL := loc_call hL hb2
    clear hb2
    clear c0 c1 c2 c3 c4 c5 c6 c7 c8 c9 c10 c11 c12 c13
    obtain ⟨c0, c1, c2, c3, c4, c5, c6, c7, c8, c9, c10, c11, c12, c13⟩ := cells14L (loc_own hL 0 rfl).1
    go_wp2_with fail
    refine (m3 _).mono ?_
    rintro r w3 ⟨rfl, hb3⟩
    have hL := loc_call hL hb3
    clear hb3
    clear c0 c1 c2 c3 c4 c5 c6 c7 c8 c9 c10 c11 c12 c13
    obtain ⟨c0, c1, c2, c3, c4, c5, c6, c7, c8, c9, c10, c11, c12, c13⟩ := cells14L (loc_own hL 0 rfl).1
    go_wp2_with fail
    go_ret
    exact ⟨rfl, hL.1⟩
set_option maxRecDepth 8192 in
set_option maxHeartbeats 4000000 in
theorem rspanmay_any (e a b c : Int) (p q : ByteArray) (f : Bool) (e' a' b' c' : Int) (p' q' : ByteArray) (f' : Bool) (w : World) (hp : p.size ≤ 1048576) (hq : q.size ≤ 1048576) (hp' : p'.size ≤ 1048576) (hq' : q'.size ≤ 1048576) :
    Calls Tryd.prog 81 #[.agg #[.int .i64 e, .int .i64 a, .int .i64 b, .int .i64 c, .string p, .string q, .bool f, .int .i64 e', .int .i64 a', .int .i64 b', .int .i64 c', .string p', .string q', .bool f']] w fun r w' => r = .returned (.bool (mayS ⟨cutS e a b c p q f, cutS e' a' b' c' p' q' f'⟩)) ∧ Below w.heap.size w w' := by
  rw [mayS_eq]
  have m1 := fun W => rcutmay_any e a b c p q f W hp hq
  have m2 := fun W => rcutmay_any e' a' b' c' p' q' f' W hp' hq'
  have m3 := fun W => rcutcomp_any e a b c p q f e' a' b' c' p' q' f' W hp hq hp' hq'
  unfold cutW at *
  generalize mayCut (cutS e a b c p q f) = r1 at *
  generalize mayCut (cutS e' a' b' c' p' q' f') = r2 at *
  generalize compCut (cutS e a b c p q f) (cutS e' a' b' c' p' q' f') = k at *
  cases r1
  · go_enter Tryd.func81, Tryd.ntmps81
    go_wp2_with fail
    refine (m1 _).mono ?_
    rintro r w1 ⟨rfl, hb1⟩
    have hL := loc_call (loc_new (loc_start w) w.heap.size [.int .i64 e, .int .i64 a, .int .i64 b, .int .i64 c, .string p, .string q, .bool f, .int .i64 e', .int .i64 a', .int .i64 b', .int .i64 c', .string p', .string q', .bool f'] 50) hb1
    clear hb1
    obtain ⟨c0, c1, c2, c3, c4, c5, c6, c7, c8, c9, c10, c11, c12, c13⟩ := cells14L (loc_own hL 0 rfl).1
    go_wp2
    go_ret
    exact ⟨rfl, hL.1⟩
  cases r2
  · go_enter Tryd.func81, Tryd.ntmps81
    go_wp2_with fail
    refine (m1 _).mono ?_
    rintro r w1 ⟨rfl, hb1⟩
    have hL := loc_call (loc_new (loc_start w) w.heap.size [.int .i64 e, .int .i64 a, .int .i64 b, .int .i64 c, .string p, .string q, .bool f, .int .i64 e', .int .i64 a', .int .i64 b', .int .i64 c', .string p', .string q', .bool f'] 50) hb1
    clear hb1
    obtain ⟨c0, c1, c2, c3, c4, c5, c6, c7, c8, c9, c10, c11, c12, c13⟩ := cells14L (loc_own hL 0 rfl).1
    go_wp2_with fail
    refine (m2 _).mono ?_
    rintro r w2 ⟨rfl, hb2⟩
    have hL := loc_call hL hb2
    clear hb2
    clear c0 c1 c2 c3 c4 c5 c6 c7 c8 c9 c10 c11 c12 c13
    obtain ⟨c0, c1, c2, c3, c4, c5, c6, c7, c8, c9, c10, c11, c12, c13⟩ := cells14L (loc_own hL 0 rfl).1
    go_wp2
    go_ret
    exact ⟨rfl, hL.1⟩
  · go_enter Tryd.func81, Tryd.ntmps81
    go_wp2_with fail
    refine (m1 _).mono ?_
    rintro r w1 ⟨rfl, hb1⟩
    have hL := loc_call (loc_new (loc_start w) w.heap.size [.int .i64 e, .int .i64 a, .int .i64 b, .int .i64 c, .string p, .string q, .bool f, .int .i64 e', .int .i64 a', .int .i64 b', .int .i64 c', .string p', .string q', .bool f'] 50) hb1
    clear hb1
    obtain ⟨c0, c1, c2, c3, c4, c5, c6, c7, c8, c9, c10, c11, c12, c13⟩ := cells14L (loc_own hL 0 rfl).1
    go_wp2_with fail
    refine (m2 _).mono ?_
    rintro r w2 ⟨rfl, hb2⟩
    have hL := loc_call hL hb2
    clear hb2
    clear c0 c1 c2 c3 c4 c5 c6 c7 c8 c9 c10 c11 c12 c13
    obtain ⟨c0, c1, c2, c3, c4, c5, c6, c7, c8, c9, c10, c11, c12, c13⟩ := cells14L (loc_own hL 0 rfl).1
    go_wp2_with fail
    refine (m3 _).mono ?_
    rintro r w3 ⟨rfl, hb3⟩
    have hL := loc_call hL hb3
    clear hb3
    clear c0 c1 c2 c3 c4 c5 c6 c7 c8 c9 c10 c11 c12 c13
    obtain ⟨c0, c1, c2, c3, c4, c5, c6, c7, c8, c9, c10, c11, c12, c13⟩ := cells14L (loc_own hL 0 rfl).1
    go_wp2_with fail
    go_ret
    exact ⟨rfl, hL.1⟩
set_option maxRecDepth 8192 in
set_option maxHeartbeats 4000000 in
/-- The row of a span, if it is one. -/
theorem spans_any (e a b c : Int) (p q : ByteArray) (f : Bool) (e' a' b' c' : Int) (p' q' : ByteArray) (f' : Bool) (w : World) (hp : p.size ≤ 1048576) (hq : q.size ≤ 1048576) (hp' : p'.size ≤ 1048576) (hq' : q'.size ≤ 1048576) :
    Calls Tryd.prog 56 #[.agg #[.int .i64 e, .int .i64 a, .int .i64 b, .int .i64 c, .string p, .string q, .bool f, .int .i64 e', .int .i64 a', .int .i64 b', .int .i64 c', .string p', .string q', .bool f']] w fun r w' => (∃ A n cap, r = .returned (.slice A n cap) ∧ n = (spansC ⟨cutS e a b c p q f, cutS e' a' b' c' p' q' f'⟩).length ∧ n ≤ cap ∧ RdS w' w'.heap.size A (spansC ⟨cutS e a b c p q f, cutS e' a' b' c' p' q' f'⟩)) ∧ Below w.heap.size w w' := by
  have m3 := fun W => cutcomp_any e a b c p q f e' a' b' c' p' q' f' W hp hq hp' hq'
  rw [spans_eq]
  unfold cutW at *
  have hsc : spanCells ⟨cutS e a b c p q f, cutS e' a' b' c' p' q' f'⟩ = [.int .i64 e, .int .i64 a, .int .i64 b, .int .i64 c, .string p, .string q, .bool f, .int .i64 e', .int .i64 a', .int .i64 b', .int .i64 c', .string p', .string q', .bool f'] := by simp [spanCells, cutCells, cutS, verS, back]
  generalize (⟨cutS e a b c p q f, cutS e' a' b' c' p' q' f'⟩ : SpanC) = S at *
  have HSC := Lib.hid hsc
  clear hsc
  generalize compCut (cutS e a b c p q f) (cutS e' a' b' c' p' q' f') = k at *
  by_cases hk : k < 0
  · rw [if_pos hk]
    have hk2 : ¬ 0 ≤ k := by omega
    clear hk
    go_enter Tryd.func56, Tryd.ntmps56

    go_wp2_with fail
    refine (m3 _).mono ?_
    rintro r w1 ⟨rfl, hb1⟩
    have hL := loc_call (loc_new (loc_start w) w.heap.size [.int .i64 e, .int .i64 a, .int .i64 b, .int .i64 c, .string p, .string q, .bool f, .int .i64 e', .int .i64 a', .int .i64 b', .int .i64 c', .string p', .string q', .bool f'] 50) hb1
    clear hb1
    obtain ⟨c0, c1, c2, c3, c4, c5, c6, c7, c8, c9, c10, c11, c12, c13⟩ := cells14L (loc_own hL 0 rfl).1
    go_wp2_with fail
    go_ret
    refine ⟨⟨_, _, _, rfl, rfl, by omega, ?_⟩, (loc_box hL _).1⟩
    have h := rds_one (w := w1) (s := S) 50
    rw [HSC.out] at h
    simpa using h
  · rw [if_neg hk]
    have hk2 : 0 ≤ k := by omega
    clear hk
    go_enter Tryd.func56, Tryd.ntmps56
    go_wp2_with fail
    refine (m3 _).mono ?_
    rintro r w1 ⟨rfl, hb1⟩
    go_wp2_with fail
    go_ret
    exact ⟨⟨_, _, _, rfl, rfl, by simp, rds_none⟩, (box_below w _).trans (hb1.mono (by simp))⟩
end Go.Proofs.YthaagngoefieaaaDoor
end

/-
  Plain law of chapter 6: the region and the zone of a comparator, the program's and the reference's. Conditions: none.
-/
section
namespace Go.Proofs.YthaagngoefieaaaDoor

/-! The region and the zone. -/
/-- The cut behind all with the same numbers up to a place: so many places are tried. -/
def highC (v : Ver) : Nat → CutC
  | 0 => lastC
  | n + 1 => match bumpV v n with
    | some r => ⟨0, r, false⟩
    | none => highC v n
def lowC (c : Cmp) : CutC := ⟨0, c.v, false⟩
def behindC (c : Cmp) : CutC := if c.parts < 3 ∧ c.op ≠ 9 then highC c.v c.parts.toNat else ⟨0, c.v, true⟩
def spanP (c : Cmp) : SpanC :=
  if c.op = 1 ∨ c.op = 2 then ⟨lowC c, behindC c⟩
  else if c.op = 3 then ⟨firstC, lowC c⟩
  else if c.op = 4 then ⟨firstC, behindC c⟩
  else if c.op = 5 then ⟨behindC c, lastC⟩
  else if c.op = 6 then ⟨lowC c, lastC⟩
  else if c.op = 7 then ⟨lowC c, highC c.v (caretP c + 1).toNat⟩
  else if c.op = 8 then ⟨lowC c, highC c.v (min (c.parts - 1) 1 + 1).toNat⟩
  else if 0 < c.parts then ⟨lowC c, highC c.v c.parts.toNat⟩ else ⟨firstC, lastC⟩
def regionP (c : Cmp) : List SpanC := if mayC c = true then (if c.op = 2 then notP (spansC (spanP c)) else spansC (spanP c)) else []
def beforeR (v : Ver) : CutC := ⟨0, coreV v, false⟩
def behindR (c : Cmp) : CutC := if c.parts < 3 ∧ 0 < c.parts then highC c.v c.parts.toNat else ⟨0, coreV c.v, true⟩
def spanR (c : Cmp) : SpanC :=
  if c.op = 1 ∨ c.op = 2 then ⟨beforeR c.v, behindR c⟩
  else if c.op = 3 then ⟨firstC, beforeR c.v⟩
  else if c.op = 4 then ⟨firstC, behindR c⟩
  else if c.op = 5 then ⟨behindR c, lastC⟩
  else if c.op = 6 then ⟨beforeR c.v, lastC⟩
  else if c.op = 7 then ⟨beforeR c.v, highC c.v (turnsR c + 1).toNat⟩
  else if c.op = 8 then ⟨beforeR c.v, highC c.v (min (c.parts - 1) 1 + 1).toNat⟩
  else if c.parts = 0 then ⟨firstC, lastC⟩ else ⟨beforeR c.v, highC c.v c.parts.toNat⟩
def regionR (c : Cmp) : List SpanC := if mayC c = true then (if c.op = 2 then notR (spansC (spanR c)) else spansC (spanR c)) else []
def zoneC (c : Cmp) : List SpanC :=
  if mayC c = true ∧ c.v.pre ≠ [] then [⟨⟨0, ⟨c.v.maj, c.v.min, c.v.pat, [48], []⟩, false⟩, ⟨0, relV c.v.maj c.v.min c.v.pat, false⟩⟩] else []

end Go.Proofs.YthaagngoefieaaaDoor
end

/-
  Regions that draw their order, walked operation by operation: the kit's laws with the temporary laid out. Conditions: none.
-/
section
namespace Go.Proofs.YthaagngoefieaaaDoor
open Go.ChangeShapes Go.WideShapes Go.ChangeAt Go.RowKit

section
variable {P : Program} {ops : Array Oper} {Q : Exit → Act → World → Prop} {md : Region.Mode} {S : World → Prop}
theorem takeD {i : Nat} {d : Option Tmp} {oi : Oper} {v : Value} {fuel : Nat} {listed : Array Bool} {a : Act} {w : World} (hi : ops[i]? = some oi) (hd : oi.dst = d)
    (hs : Region.noSelect ops = true) (hf : Region.free md ops listed i = true) (hr : (Region.ready md ops listed).contains i = true)
    (hQ : ∀ c a w, Q (.panic c) (a.put d v) w → Q (.panic c) a w) (hy : YieldsIf P ops S oi v a) (hS : S w)
    (h : wpAnyH P md ops Q S fuel (listed.setIfInBounds i true) (a.put d v) w) : wpAnyH P md ops Q S (fuel + 1) listed a w := by
  subst hd
  exact wpAnyH_take hi hs hf hr hQ hy hS h
theorem consD {fuel : Nat} {listed : Array Bool} {a : Act} {w : World} {i : Nat} {d : Option Tmp} {o : Oper} {rs : List Nat} (ho : ops[i]? = some o) (hd : o.dst = d)
    (h : ∀ K' : Act → World → Prop, Shut (∀ a w, S w → (S w → wpAnyH P md ops Q S fuel (listed.setIfInBounds i true) a w) → K' a w) → if Region.wanted o (yielded ops a.tmps) = true then Oper.wp P o a w K' Q else K' (a.put d undef) w)
    (hs : AllReadyH P md ops Q S fuel listed a w rs) : AllReadyH P md ops Q S fuel listed a w (i :: rs) := by
  subst hd
  exact AllReadyH.cons ho h hs
end
end Go.Proofs.YthaagngoefieaaaDoor
end
