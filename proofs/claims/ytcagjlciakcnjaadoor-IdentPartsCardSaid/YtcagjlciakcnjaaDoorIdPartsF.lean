/-
  Facts for the law on the pieces of chapter 1: a list of strings that came in, and how long its join is. Conditions: none.
-/
import Derived.Test.YtcagjlciakcnjaaDoorIdWholeF
namespace Go.Proofs.YtcagjlciakcnjaaDoor
open Go.RowKit

theorem strs_rd {w : World} {a : Option Addr} {len cap : Nat} {zs : List ByteArray}
    (h : (a = none ∧ len = 0 ∧ cap = 0 ∧ zs = []) ∨ ∃ x, a = some x ∧ len ≤ cap ∧ cap ≤ maxLen ∧ zs.length = cap ∧ (∀ i, i < zs.length → w.cell? (x.add i) = some (.string (zs.getD i ByteArray.empty))) ∧ ∀ s ∈ zs, s.size ≤ maxLen) :
    ∃ ps : List (List UInt8), Rd w w.heap.size a len (BS ps) ∧ len ≤ maxLen := by
  refine ⟨(zs.take len).map fun s => s.data.toList, ?_⟩
  have e : BS ((zs.take len).map fun s => s.data.toList) = (zs.take len).map Value.string := by
    unfold BS
    rw [List.map_map]
    refine List.map_congr_left fun s _ => ?_
    show Value.string ⟨s.data.toList.toArray⟩ = _
    rw [back]
  rw [e]
  rcases h with ⟨rfl, rfl, rfl, rfl⟩ | ⟨x, rfl, hl, hm, hz, hcell, _⟩
  · exact ⟨⟨rfl, fun h => absurd h (by omega)⟩, by unfold maxLen; omega⟩
  · refine ⟨⟨by simp; omega, fun h0 => ?_⟩, by omega⟩
    obtain ⟨b, off, spot⟩ := x
    have hspot : spot = none := by simpa [Addr.add] using World.cell?_spot (hcell 0 (by omega))
    subst hspot
    refine ⟨b, off, rfl, World.block_lt_of_cell? w ⟨b, off, none⟩ (by simpa [Addr.add] using hcell 0 (by omega)), fun j u hu => ?_⟩
    rw [List.getElem?_map, List.getElem?_take] at hu
    by_cases hj : j < len
    · rw [if_pos hj] at hu
      have hc := hcell j (by omega)
      rw [add_plain] at hc
      rw [List.getElem?_eq_getElem (by omega)] at hu
      rw [hc, ← hu]
      simp [List.getD, List.getElem?_eq_getElem (show j < zs.length by omega)]
    · rw [if_neg hj] at hu
      simp at hu
theorem join_le_mul {ps : List (List UInt8)} (b : UInt8) (h : ∀ p ∈ ps, p.length ≤ 200) : (joinL ps b).length ≤ 201 * ps.length := by
  have hf : ∀ r : List (List UInt8), (∀ p ∈ r, p.length ≤ 200) → (r.flatMap fun q => b :: q).length ≤ 201 * r.length := by
    intro r
    induction r with
    | nil => intro _; simp
    | cons q r ih =>
      intro hr
      have h1 := hr q (List.mem_cons_self ..)
      have h2 := ih fun p hp => hr p (List.mem_cons_of_mem _ hp)
      rw [List.flatMap_cons, List.length_append, List.length_cons, List.length_cons]
      omega
  cases ps with
  | nil => simp [joinL]
  | cons q r =>
    have h1 := h q (List.mem_cons_self ..)
    have h2 := hf r fun p hp => h p (List.mem_cons_of_mem _ hp)
    unfold joinL
    rw [List.length_append, List.length_cons]
    omega
theorem take_all_succ {P : List UInt8 → Prop} {ps : List (List UInt8)} {k : Nat} {p : List UInt8} (hp : ps[k]? = some p) (h : ∀ q ∈ ps.take k, P q) (h0 : P p) : ∀ q ∈ ps.take (k + 1), P q := by
  obtain ⟨hlt, rfl⟩ := List.getElem?_eq_some_iff.1 hp
  rw [List.take_succ_eq_append_getElem hlt]
  intro q hq
  rw [List.mem_append, List.mem_singleton] at hq
  rcases hq with hq | rfl
  · exact h q hq
  · exact h0
end Go.Proofs.YtcagjlciakcnjaaDoor
