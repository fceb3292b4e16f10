/-
  Blocks whose cells are known, of any number: read, kept, written. Conditions: none.
-/
import Derived.Test.YtmfdpdnokiidlaaDoorHRow
namespace Go.Proofs.YtmfdpdnokiidlaaDoor
open Go.ChangeShapes Go.WideShapes Go.ChangeAt Go.RowKit
set_option linter.unusedVariables false

/-- The cells of a block from its head on. -/
def Cells (W : World) (b : Nat) (xs : List Value) : Prop := ∀ i u, xs[i]? = some u → W.cell? ⟨b, i, none⟩ = some u
theorem cells_below {W W' : World} {b B : Nat} {xs : List Value} (h : Cells W b xs) (hb : b < B) (hw : Below B W W') : Cells W' b xs :=
  fun i u hu => (hw.cell (p := ⟨b, i, none⟩) hb).trans (h i u hu)
theorem cells_drew {W : World} {b : Nat} {xs : List Value} (h : Cells W b xs) : Cells W.drew b xs := h
theorem cells_new (w : World) (xs : List Value) (t : TypeId) : Cells (w.alloc (.cells xs.toArray t)) w.heap.size xs := by
  intro i u hu
  rw [(Blk.new w t xs.toArray).cell i]
  simpa using hu
/-- A block of the call's own: its cells, and that it may be written. -/
def Own (W : World) (b : Nat) (xs : List Value) : Prop := Cells W b xs ∧ ∀ o, W.frozen? ⟨b, o, none⟩ = false
theorem own_new (w : World) (xs : List Value) (t : TypeId) : Own (w.alloc (.cells xs.toArray t)) w.heap.size xs :=
  ⟨cells_new w xs t, fun o => (Blk.new w t xs.toArray).frozen o⟩
theorem own_below {W W' : World} {b B : Nat} {xs : List Value} (h : Own W b xs) (hb : b < B) (hw : Below B W W') : Own W' b xs :=
  ⟨cells_below h.1 hb hw, fun o => (hw.frozen (p := ⟨b, o, none⟩) hb).trans (h.2 o)⟩
theorem own_drew {W : World} {b : Nat} {xs : List Value} (h : Own W b xs) : Own W.drew b xs := h
/-- Cells written one behind the other. -/
def putL (W : World) (b : Nat) : Nat → List Value → World
  | _, [] => W
  | i, y :: ys => putL (W.setCell ⟨b, i, none⟩ y) b (i + 1) ys
theorem putL_size (b : Nat) : ∀ (ys : List Value) (i : Nat) (W : World), (putL W b i ys).heap.size = W.heap.size
  | [], _, _ => rfl
  | y :: ys, i, W => by rw [putL, putL_size b ys]; simp
theorem putL_other {b c : Nat} (h : c ≠ b) : ∀ (ys : List Value) (i : Nat) (W : World) (o : Nat), (putL W b i ys).cell? ⟨c, o, none⟩ = W.cell? ⟨c, o, none⟩
  | [], _, _, _ => rfl
  | y :: ys, i, W, o => by
    rw [putL, putL_other h ys]
    exact World.cell?_setCell_other W ⟨b, i, none⟩ ⟨c, o, none⟩ y (fun e => h (by injection e with e; exact e.symm))
theorem box_below (w : World) (o : Obj) : Below w.heap.size w (w.alloc o) := (Below.refl _ _).alloc (Nat.le_refl _) _
end Go.Proofs.YtmfdpdnokiidlaaDoor
