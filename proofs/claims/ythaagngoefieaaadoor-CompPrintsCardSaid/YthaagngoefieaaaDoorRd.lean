/-
  Rows of strings in memory, read. Conditions: none.
-/
import Derived.Test.YthaagngoefieaaaDoorIdSplit
import Derived.BigQuiet
import Derived.Deep.QuietTactic
namespace Go.Proofs.YthaagngoefieaaaDoor
open Go.ChangeShapes Go.WideShapes Go.ChangeAt Go.RowKit
set_option linter.unusedVariables false

/-- A slice value with address A and n elements of one cell reads as xs: nil let in; it lies below block B. -/
def Rd (w : World) (B : Nat) (A : Option Addr) (n : Nat) (xs : List Value) : Prop :=
  xs.length = n ∧ (0 < n → ∃ b off, A = some ⟨b, off, none⟩ ∧ b < B ∧ ∀ j u, xs[j]? = some u → w.cell? ⟨b, off + j, none⟩ = some u)
theorem rd_own {w : World} {base n : Nat} {e : TypeId} {v : Value} {xs : List Value} (h : w.ownsRow base e 1 v n xs) : ∃ A cap, v = .slice A n cap ∧ Rd w w.heap.size A n xs := by
  have hl : xs.length = n := by simpa using h.1
  rcases h.2 with ⟨rfl, rfl⟩ | ⟨g, cap, cur, rfl, _, hh, _⟩
  · exact ⟨none, 0, rfl, hl, fun h0 => absurd h0 (by omega)⟩
  · refine ⟨_, cap, rfl, hl, fun _ => ⟨g, 0, rfl, (Array.getElem?_eq_some_iff.1 hh).1, fun j u hu => ?_⟩⟩
    have hc := h.cells (g := g) rfl j u hu
    rwa [add_plain] at hc
theorem rd_below {w w' : World} {B n : Nat} {A : Option Addr} {xs : List Value} (h : Rd w B A n xs) (hb : Below B w w') : Rd w' B A n xs := by
  refine ⟨h.1, fun hn => ?_⟩
  obtain ⟨b, off, e, hlt, hc⟩ := h.2 hn
  exact ⟨b, off, e, hlt, fun j u hu => (hb.cell (p := ⟨b, off + j, none⟩) hlt).trans (hc j u hu)⟩
theorem bs_len (ps : List (List UInt8)) : (BS ps).length = ps.length := by simp [BS]
theorem rds_cell {w : World} {B n : Nat} {A : Option Addr} {ps : List (List UInt8)} (h : Rd w B A n (BS ps)) {k : Nat} (hk : k < n) :
    ∃ b off p, A = some ⟨b, off, none⟩ ∧ b < B ∧ ps[k]? = some p ∧ w.cell? ⟨b, off + k, none⟩ = some (.string ⟨p.toArray⟩) := by
  obtain ⟨b, off, e, hb, hc⟩ := h.2 (by omega)
  have hl : k < ps.length := by have := h.1; rw [bs_len] at this; omega
  exact ⟨b, off, ps[k], e, hb, List.getElem?_eq_getElem hl, hc k _ (by simp [BS, List.getElem?_eq_getElem hl])⟩

theorem str_size (p : List UInt8) : (⟨p.toArray⟩ : ByteArray).size = p.length := by simp [ByteArray.size]
theorem back (s : ByteArray) : (⟨s.data.toList.toArray⟩ : ByteArray) = s := by
  obtain ⟨a⟩ := s
  simp
end Go.Proofs.YthaagngoefieaaaDoor
