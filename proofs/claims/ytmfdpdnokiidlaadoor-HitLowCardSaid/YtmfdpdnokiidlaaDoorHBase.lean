/-
  Chapter 36: what the statements' walks share: an argument's list of numbers; a table's least costs, found one by one; Low without cores. Conditions: none.
-/
import Derived.Test.YtmfdpdnokiidlaaDoorHAwake
import Derived.Test.YtmfdpdnokiidlaaDoorTab
namespace Go.Proofs.YtmfdpdnokiidlaaDoor
open Go.ChangeShapes Go.WideShapes Go.ChangeAt Go.RowKit
set_option linter.unusedVariables false
set_option linter.unusedSimpArgs false

/-- An argument's list. -/
theorem arg_ints {w : World} {a : Option Addr} {len cap : Nat} {zs : List Int}
    (h : (a = none ∧ len = 0 ∧ cap = 0 ∧ zs = []) ∨ ∃ x, a = some x ∧ len ≤ cap ∧ cap ≤ maxLen ∧ zs.length = cap ∧ (∀ i, i < zs.length → w.cell? (x.add i) = some (.int .i64 (zs.getD i 0))) ∧ ∀ n ∈ zs, (Lit.int .i64 n).wf = true) :
    ∃ l : List Int, l.length = len ∧ RdI w w.heap.size a l ∧ len ≤ maxLen ∧ ∀ z ∈ l, (Lit.int .i64 z).wf = true := by
  obtain ⟨h1, h2, h3, h4⟩ := row_rd h
  exact ⟨zs.take len, h4, by unfold RdI; rw [h4]; exact h1, h2, h3⟩
theorem tab_ok {l : List Int} : TabOk (tableP l) := fun r hr => by
  obtain ⟨h1, h2⟩ := (tableP_ok l).2 r hr
  exact ⟨h1, fun x hx => ⟨(h2 x hx).1, by have := (h2 x hx).2; omega⟩⟩
theorem rd_more {w : World} {B B' n : Nat} {A : Option Addr} {xs : List Value} (h : Rd w B A n xs) (hB : B ≤ B') : Rd w B' A n xs :=
  ⟨h.1, fun h0 => by obtain ⟨b, off, e, hb, hc⟩ := h.2 h0; exact ⟨b, off, e, by omega, hc⟩⟩
theorem rdT_more {w : World} {B B' : Nat} {A : Option Addr} {t : List (List Int)} (h : RdT w B A t) (hB : B ≤ B') : RdT w B' A t := by
  obtain ⟨vs, h1, h2⟩ := h
  refine ⟨vs, rd_more h1 hB, fun i r hr => ?_⟩
  obtain ⟨Ai, ci, g1, g2, g3⟩ := h2 i r hr
  exact ⟨Ai, ci, g1, g2, rdI_more g3 hB⟩
theorem rdK_more {w : World} {B B' : Nat} {A : Option Addr} {c : List Tm} (h : RdK w B A c) (hB : B ≤ B') : RdK w B' A c := fun h0 => by
  obtain ⟨b, off, e, hb, hc⟩ := h h0
  exact ⟨b, off, e, by omega, hc⟩
theorem rdKK_more {w : World} {B B' : Nat} {A : Option Addr} {ks : List (List Tm)} (h : RdKK w B A ks) (hB : B ≤ B') : RdKK w B' A ks := by
  obtain ⟨vs, h1, h2⟩ := h
  refine ⟨vs, rd_more h1 hB, fun i r hr => ?_⟩
  obtain ⟨Ai, ci, g1, g2, g3⟩ := h2 i r hr
  exact ⟨Ai, ci, g1, g2, rdK_more g3 hB⟩
theorem rdKK_nil (w : World) (B : Nat) : RdKK w B none [] := ⟨[], ⟨rfl, fun h => absurd h (by decide)⟩, fun i r hr => by simp at hr⟩
/-- The table of a list, as the walks want it. -/
theorem table_ret (A : Option Addr) (c n : Nat) (l : List Int) (w : World) (h : RdI w w.heap.size A l) (hn : l.length = n) (hl : n ≤ maxLen) (hw : ∀ z ∈ l, (Lit.int .i64 z).wf = true) :
    Calls Tryd.prog 10 #[.slice A n c] w fun e w' => (∃ A' c', e = .returned (.slice A' (tableP l).length c') ∧ (tableP l).length ≤ c' ∧ RdT w' w'.heap.size A' (tableP l)) ∧ Below w.heap.size w w' := by
  subst hn
  exact table_any A c l w h hl hw
theorem min_take {row : List Int} {v : Nat} (h0 : 0 < v) (hv : v < row.length) : minR (row.take (v + 1)) = min (minR (row.take v)) (row.getD v 0) := by
  cases row with
  | nil => simp at hv
  | cons c r =>
    obtain ⟨u, rfl⟩ : ∃ u, v = u + 1 := ⟨v - 1, by omega⟩
    have hu : u < r.length := by simpa using hv
    rw [List.take_succ_cons, List.take_succ_cons]
    show (r.take (u + 1)).foldl min c = min ((r.take u).foldl min c) _
    rw [List.take_succ_eq_append_getElem hu, List.foldl_append]
    simp [List.getD_eq_getElem?_getD, List.getElem?_eq_getElem hu]
theorem min_one {row : List Int} (h : 0 < row.length) : minR (row.take 1) = row.getD 0 0 := by
  cases row with
  | nil => simp at h
  | cons c r => simp [minR]
theorem min_in {row : List Int} {v : Nat} (h0 : 0 < v) (h : 0 < row.length) : minR (row.take v) ∈ row :=
  List.mem_of_mem_take (min_ok (fun e => by rcases List.take_eq_nil_iff.1 e with e | e; omega; rw [e] at h; simp at h)).1
theorem none_cores (p N : Nat) (hp : p < N) : coresP [1, 0, (p : Int), 32] N = [[⟨p, 0⟩]] := by
  have h0 : nextN [1, 0, (p : Int), 32] 0 6 = 1 := by
    show placeN 1 6 = 1
    decide
  have h1 : nextN [1, 0, (p : Int), 32] 1 4 = 0 := by
    show placeN 0 4 = 0
    decide
  have h2 : nextN [1, 0, (p : Int), 32] 2 N = p := by
    show placeN (p : Int) N = p
    unfold placeN
    rw [Int.emod_eq_of_lt (by omega) (by omega)]
    rfl
  have h3 : nextN [1, 0, (p : Int), 32] 3 32 = 0 := by
    show placeN 32 32 = 0
    decide
  unfold coresP
  rw [h0, coresGo, h1, coresGo]
  show [termGo _ N 2 1] = _
  unfold termGo
  simp [List.range_succ, h2, h3]
end Go.Proofs.YtmfdpdnokiidlaaDoor
