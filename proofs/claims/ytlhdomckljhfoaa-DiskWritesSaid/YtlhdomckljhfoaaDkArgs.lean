/-
  What the arguments of chapter 40's laws read as, and two disks compared. Conditions: none.
-/
import Derived.Test.YtlhdomckljhfoaaDkSaved
import Derived.Test.YtlhdomckljhfoaaDkElder
import Derived.Laws.StructEq
namespace Go.Proofs.Ytlhdomckljhfoaa
open Go.ChangeShapes Go.WideShapes Go.ChangeAt Go.RowKit
set_option linter.unusedVariables false

theorem row_len {k : IntKind} {w : World} {a : Option Addr} {len cap : Nat} {zs : List Int}
    (h : (a = none ∧ len = 0 ∧ cap = 0 ∧ zs = []) ∨ ∃ x, a = some x ∧ len ≤ cap ∧ cap ≤ maxLen ∧ zs.length = cap ∧ (∀ i, i < zs.length → w.cell? (x.add i) = some (.int k (zs.getD i 0))) ∧ ∀ n ∈ zs, (Lit.int k n).wf = true) : len ≤ maxLen := by
  rcases h with ⟨rfl, rfl, rfl, rfl⟩ | ⟨x, rfl, hl, hm, hz, hcell, hwz⟩
  · unfold maxLen; omega
  · omega
theorem row_rd {k : IntKind} {w : World} {a : Option Addr} {len cap : Nat} {zs : List Int}
    (h : (a = none ∧ len = 0 ∧ cap = 0 ∧ zs = []) ∨ ∃ x, a = some x ∧ len ≤ cap ∧ cap ≤ maxLen ∧ zs.length = cap ∧ (∀ i, i < zs.length → w.cell? (x.add i) = some (.int k (zs.getD i 0))) ∧ ∀ n ∈ zs, (Lit.int k n).wf = true) :
    (zs.take len).length = len ∧ (∀ n ∈ zs.take len, (Lit.int k n).wf = true) ∧ (0 < len → ∃ b off, a = some ⟨b, off, none⟩ ∧ b < w.heap.size ∧ ∀ (j : Nat) z, (zs.take len)[j]? = some z → w.cell? ⟨b, off + j, none⟩ = some (.int k z)) := by
  rcases h with ⟨rfl, rfl, rfl, rfl⟩ | ⟨x, rfl, hl, hm, hz, hcell, hwz⟩
  · exact ⟨rfl, fun n hn => by simp at hn, fun h => absurd h (by omega)⟩
  · refine ⟨by simp; omega, fun n hn => hwz n (List.mem_of_mem_take hn), fun h0 => ?_⟩
    obtain ⟨b, off, spot⟩ := x
    have hspot : spot = none := by simpa [Addr.add] using World.cell?_spot (hcell 0 (by omega))
    subst hspot
    refine ⟨b, off, rfl, World.block_lt_of_cell? w ⟨b, off, none⟩ (by simpa [Addr.add] using hcell 0 (by omega)), fun j z hj => ?_⟩
    have hadd : (⟨b, off, none⟩ : Addr).add j = ⟨b, off + j, none⟩ := by unfold Addr.add; split <;> simp_all
    rw [List.getElem?_take] at hj
    by_cases hjl : j < len
    · rw [if_pos hjl] at hj
      have hc := hcell j (by omega)
      rw [hadd] at hc
      rw [hc]
      simp [List.getD, hj]
    · rw [if_neg hjl] at hj
      cases hj
theorem row_rdi {w : World} {a : Option Addr} {len cap : Nat} {zs : List Int}
    (h : (a = none ∧ len = 0 ∧ cap = 0 ∧ zs = []) ∨ ∃ x, a = some x ∧ len ≤ cap ∧ cap ≤ maxLen ∧ zs.length = cap ∧ (∀ i, i < zs.length → w.cell? (x.add i) = some (.int .i64 (zs.getD i 0))) ∧ ∀ n ∈ zs, (Lit.int .i64 n).wf = true) :
    RdI w w.heap.size a len (zs.take len) := by
  obtain ⟨h1, h2, h3⟩ := row_rd h
  exact ⟨h1, fun z hz => bounds_i64 (h2 z hz), h3⟩

theorem run_eqD (D : ByteArray) (W : World) : (binOp .eql 25 (.agg #[.string D]) (.agg #[.string D])).run Try.prog W = .ok (.bool true) W := by
  go_simp

theorem rdw_next {w w' : World} {A : Option Addr} {n : Nat} {l : List Wr} (h : RdW w w.heap.size A n l) (hb : Below w.heap.size w w') : RdW w' w'.heap.size A n l := by
  have h1 := rdw_below h hb
  refine ⟨h1.1, h1.2.1, fun hn => ?_⟩
  obtain ⟨b, off, e, hlt, hc⟩ := h1.2.2 hn
  exact ⟨b, off, e, Nat.lt_of_lt_of_le hlt hb.size, hc⟩
/-- The cell of a disk in a block, and what lies below, kept by a call that only adds. -/
structure Keeps (w : World) (g : Nat) (S : ByteArray) (W : World) : Prop where
  cell : W.cell? ⟨g, 0, none⟩ = some (.string S)
  lt : g < W.heap.size
  bel : Below w.heap.size w W
theorem Keeps.next {w W W' : World} {g : Nat} {S : ByteArray} (h : Keeps w g S W) (hb : Below W.heap.size W W') : Keeps w g S W' :=
  ⟨(hb.cell (p := ⟨g, 0, none⟩) h.lt).trans h.cell, Nat.lt_of_lt_of_le h.lt hb.size, h.bel.trans (hb.mono h.bel.size)⟩
theorem Keeps.drew {w W : World} {g : Nat} {S : ByteArray} (h : Keeps w g S W) : Keeps w g S W.drew := h.next (below_drewN (Below.refl _ _) 1)
end Go.Proofs.Ytlhdomckljhfoaa
