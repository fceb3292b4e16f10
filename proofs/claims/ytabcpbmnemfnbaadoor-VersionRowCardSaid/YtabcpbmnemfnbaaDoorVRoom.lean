/-
  Blocks of five cells that a call has made: written, kept, returned. Conditions: none.
-/
import Derived.Test.YtabcpbmnemfnbaaDoorVThree
namespace Go.Proofs.YtabcpbmnemfnbaaDoor
open Go.ChangeShapes Go.WideShapes Go.ChangeAt Go.RowKit
set_option linter.unusedVariables false

/-- A block of the call's own: its five cells, and that it may be written. -/
def Room (W : World) (b : Nat) (x0 x1 x2 x3 x4 : Value) : Prop := Five W b x0 x1 x2 x3 x4 ∧ ∀ o, W.frozen? ⟨b, o, none⟩ = false
theorem room_new (w : World) (x0 x1 x2 x3 x4 : Value) (t : TypeId) : Room (w.alloc (.cells #[x0, x1, x2, x3, x4] t)) w.heap.size x0 x1 x2 x3 x4 :=
  ⟨cells5 w _ _ _ _ _ _ (by simpa using Below.refl _ _), fun o => by simp [go_sem]⟩
theorem room_below {W W' : World} {b B : Nat} {x0 x1 x2 x3 x4 : Value} (h : Room W b x0 x1 x2 x3 x4) (hb : b < B) (hw : Below B W W') : Room W' b x0 x1 x2 x3 x4 :=
  ⟨five_below h.1 hb hw, fun o => (hw.frozen (p := ⟨b, o, none⟩) hb).trans (h.2 o)⟩

/-- The five cells written. -/
def World.put5 (W : World) (b : Nat) (y0 y1 y2 y3 y4 : Value) : World :=
  ((((W.setCell ⟨b, 0, none⟩ y0).setCell ⟨b, 1, none⟩ y1).setCell ⟨b, 2, none⟩ y2).setCell ⟨b, 3, none⟩ y3).setCell ⟨b, 4, none⟩ y4
theorem room_put {W : World} {b : Nat} {x0 x1 x2 x3 x4 : Value} (h : Room W b x0 x1 x2 x3 x4) (y0 y1 y2 y3 y4 : Value) : Room (World.put5 W b y0 y1 y2 y3 y4) b y0 y1 y2 y3 y4 := by
  obtain ⟨⟨h0, h1, h2, h3, h4⟩, hf⟩ := h
  unfold World.put5
  refine ⟨⟨?_, ?_, ?_, ?_, ?_⟩, ?_⟩
  all_goals simp [go_sem, h0, h1, h2, h3, h4, hf]
theorem five_alloc {W : World} {b : Nat} {x0 x1 x2 x3 x4 : Value} (h : Five W b x0 x1 x2 x3 x4) (hb : b < W.heap.size) (o : Obj) : Five (W.alloc o) b x0 x1 x2 x3 x4 :=
  five_below h hb (box_below W o)
end Go.Proofs.YtabcpbmnemfnbaaDoor
