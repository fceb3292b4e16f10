/-
  The row of versions that VersionRow holds against each other: its texts, what they are read as, their order; the walk of row. Conditions: none.
-/
import Derived.Test.YtabcpbmnemfnbaaDoorVAbove
namespace Go.Proofs.YtabcpbmnemfnbaaDoor
open Go.ChangeShapes Go.WideShapes Go.ChangeAt Go.RowKit
set_option linter.unusedVariables false

def rowS (k : Nat) : ByteArray := ([⟨#[48, 46, 48, 46, 48, 45, 48]⟩, ⟨#[48, 46, 48, 46, 48, 45, 48, 46, 48]⟩, ⟨#[48, 46, 48, 46, 48]⟩, ⟨#[48, 46, 57, 46, 49, 48]⟩, ⟨#[49, 46, 48, 46, 48, 45, 50]⟩, ⟨#[49, 46, 48, 46, 48, 45, 49, 49]⟩, ⟨#[49, 46, 48, 46, 48, 45, 97]⟩, ⟨#[49, 46, 48, 46, 48, 45, 97, 46, 49]⟩, ⟨#[49, 46, 48, 46, 48, 45, 97, 46, 98]⟩, ⟨#[49, 46, 48, 46, 48, 45, 97, 46, 98, 46, 48]⟩, ⟨#[49, 46, 48, 46, 48, 45, 98]⟩, ⟨#[49, 46, 48, 46, 48, 45, 98, 45, 49]⟩, ⟨#[49, 46, 48, 46, 48]⟩, ⟨#[49, 46, 48, 46, 49, 45, 48]⟩, ⟨#[49, 46, 48, 46, 49]⟩, ⟨#[49, 46, 50, 46, 48]⟩, ⟨#[49, 46, 49, 48, 46, 48]⟩, ⟨#[57, 57, 57, 57, 46, 57, 57, 57, 57, 46, 57, 57, 57, 57]⟩] : List ByteArray).getD k ⟨#[]⟩
def rowA (k : Nat) : Int := ([0, 0, 0, 0, 1, 1, 1, 1, 1, 1, 1, 1, 1, 1, 1, 1, 1, 9999] : List Int).getD k 0
def rowB (k : Nat) : Int := ([0, 0, 0, 9, 0, 0, 0, 0, 0, 0, 0, 0, 0, 0, 0, 2, 10, 9999] : List Int).getD k 0
def rowC (k : Nat) : Int := ([0, 0, 0, 10, 0, 0, 0, 0, 0, 0, 0, 0, 0, 1, 1, 0, 0, 9999] : List Int).getD k 0
def rowP (k : Nat) : ByteArray := ([⟨#[48]⟩, ⟨#[48, 46, 48]⟩, ⟨#[]⟩, ⟨#[]⟩, ⟨#[50]⟩, ⟨#[49, 49]⟩, ⟨#[97]⟩, ⟨#[97, 46, 49]⟩, ⟨#[97, 46, 98]⟩, ⟨#[97, 46, 98, 46, 48]⟩, ⟨#[98]⟩, ⟨#[98, 45, 49]⟩, ⟨#[]⟩, ⟨#[48]⟩, ⟨#[]⟩, ⟨#[]⟩, ⟨#[]⟩, ⟨#[]⟩] : List ByteArray).getD k ⟨#[]⟩
theorem row_parse : ∀ k : Fin 18, parseV (rowS k).data.toList = some (verS (rowA k) (rowB k) (rowC k) (rowP k) ⟨#[]⟩) := by decide +kernel
theorem row_comp : ∀ i j : Fin 18, compV (verS (rowA i) (rowB i) (rowC i) (rowP i) ⟨#[]⟩) (verS (rowA j) (rowB j) (rowC j) (rowP j) ⟨#[]⟩) = intsI ((i.val : Nat) : Int) ((j.val : Nat) : Int) := by decide +kernel
theorem row_sizes : ∀ k : Fin 18, (rowS k).size ≤ 20 ∧ (rowP k).size ≤ 20 := by decide +kernel
theorem row_cell {k : Nat} (h : k < 18) : (#[.string ⟨#[48, 46, 48, 46, 48, 45, 48]⟩, .string ⟨#[48, 46, 48, 46, 48, 45, 48, 46, 48]⟩, .string ⟨#[48, 46, 48, 46, 48]⟩, .string ⟨#[48, 46, 57, 46, 49, 48]⟩, .string ⟨#[49, 46, 48, 46, 48, 45, 50]⟩, .string ⟨#[49, 46, 48, 46, 48, 45, 49, 49]⟩, .string ⟨#[49, 46, 48, 46, 48, 45, 97]⟩, .string ⟨#[49, 46, 48, 46, 48, 45, 97, 46, 49]⟩, .string ⟨#[49, 46, 48, 46, 48, 45, 97, 46, 98]⟩, .string ⟨#[49, 46, 48, 46, 48, 45, 97, 46, 98, 46, 48]⟩, .string ⟨#[49, 46, 48, 46, 48, 45, 98]⟩, .string ⟨#[49, 46, 48, 46, 48, 45, 98, 45, 49]⟩, .string ⟨#[49, 46, 48, 46, 48]⟩, .string ⟨#[49, 46, 48, 46, 49, 45, 48]⟩, .string ⟨#[49, 46, 48, 46, 49]⟩, .string ⟨#[49, 46, 50, 46, 48]⟩, .string ⟨#[49, 46, 49, 48, 46, 48]⟩, .string ⟨#[57, 57, 57, 57, 46, 57, 57, 57, 57, 46, 57, 57, 57, 57]⟩] : Array Value)[k]? = some (.string (rowS k)) := by
  have hk : k = 0 ∨ k = 1 ∨ k = 2 ∨ k = 3 ∨ k = 4 ∨ k = 5 ∨ k = 6 ∨ k = 7 ∨ k = 8 ∨ k = 9 ∨ k = 10 ∨ k = 11 ∨ k = 12 ∨ k = 13 ∨ k = 14 ∨ k = 15 ∨ k = 16 ∨ k = 17 := by omega
  rcases hk with rfl | rfl | rfl | rfl | rfl | rfl | rfl | rfl | rfl | rfl | rfl | rfl | rfl | rfl | rfl | rfl | rfl | rfl <;> rfl
theorem row_any (w : World) : Calls Tryd.prog 30 #[] w fun e w' => e = .returned (.slice (some ⟨w.heap.size, 0, none⟩) 18 18) ∧ w' = w.alloc (.cells #[.string ⟨#[48, 46, 48, 46, 48, 45, 48]⟩, .string ⟨#[48, 46, 48, 46, 48, 45, 48, 46, 48]⟩, .string ⟨#[48, 46, 48, 46, 48]⟩, .string ⟨#[48, 46, 57, 46, 49, 48]⟩, .string ⟨#[49, 46, 48, 46, 48, 45, 50]⟩, .string ⟨#[49, 46, 48, 46, 48, 45, 49, 49]⟩, .string ⟨#[49, 46, 48, 46, 48, 45, 97]⟩, .string ⟨#[49, 46, 48, 46, 48, 45, 97, 46, 49]⟩, .string ⟨#[49, 46, 48, 46, 48, 45, 97, 46, 98]⟩, .string ⟨#[49, 46, 48, 46, 48, 45, 97, 46, 98, 46, 48]⟩, .string ⟨#[49, 46, 48, 46, 48, 45, 98]⟩, .string ⟨#[49, 46, 48, 46, 48, 45, 98, 45, 49]⟩, .string ⟨#[49, 46, 48, 46, 48]⟩, .string ⟨#[49, 46, 48, 46, 49, 45, 48]⟩, .string ⟨#[49, 46, 48, 46, 49]⟩, .string ⟨#[49, 46, 50, 46, 48]⟩, .string ⟨#[49, 46, 49, 48, 46, 48]⟩, .string ⟨#[57, 57, 57, 57, 46, 57, 57, 57, 57, 46, 57, 57, 57, 57]⟩] 9) := by
  go_enter Tryd.func30, Tryd.ntmps30
  go_wp2
  go_ret
  exact ⟨rfl, rfl⟩
/-- The row in memory, read at two places. -/
theorem row_two (w : World) {i j : Nat} (hi : i < 18) (hj : j < 18) : Calls Tryd.prog 30 #[] w fun e w' => e = .returned (.slice (some ⟨w.heap.size, 0, none⟩) 18 18) ∧ Below w.heap.size w w' ∧ w.heap.size < w'.heap.size ∧ w'.cell? ⟨w.heap.size, i, none⟩ = some (.string (rowS i)) ∧ w'.cell? ⟨w.heap.size, j, none⟩ = some (.string (rowS j)) := by
  refine (row_any w).mono ?_
  rintro e w' ⟨rfl, rfl⟩
  have hb := Blk.new w 9 #[.string ⟨#[48, 46, 48, 46, 48, 45, 48]⟩, .string ⟨#[48, 46, 48, 46, 48, 45, 48, 46, 48]⟩, .string ⟨#[48, 46, 48, 46, 48]⟩, .string ⟨#[48, 46, 57, 46, 49, 48]⟩, .string ⟨#[49, 46, 48, 46, 48, 45, 50]⟩, .string ⟨#[49, 46, 48, 46, 48, 45, 49, 49]⟩, .string ⟨#[49, 46, 48, 46, 48, 45, 97]⟩, .string ⟨#[49, 46, 48, 46, 48, 45, 97, 46, 49]⟩, .string ⟨#[49, 46, 48, 46, 48, 45, 97, 46, 98]⟩, .string ⟨#[49, 46, 48, 46, 48, 45, 97, 46, 98, 46, 48]⟩, .string ⟨#[49, 46, 48, 46, 48, 45, 98]⟩, .string ⟨#[49, 46, 48, 46, 48, 45, 98, 45, 49]⟩, .string ⟨#[49, 46, 48, 46, 48]⟩, .string ⟨#[49, 46, 48, 46, 49, 45, 48]⟩, .string ⟨#[49, 46, 48, 46, 49]⟩, .string ⟨#[49, 46, 50, 46, 48]⟩, .string ⟨#[49, 46, 49, 48, 46, 48]⟩, .string ⟨#[57, 57, 57, 57, 46, 57, 57, 57, 57, 46, 57, 57, 57, 57]⟩]
  exact ⟨rfl, box_below _ _, by simp, (hb.cell i).trans (row_cell hi), (hb.cell j).trans (row_cell hj)⟩
end Go.Proofs.YtabcpbmnemfnbaaDoor
