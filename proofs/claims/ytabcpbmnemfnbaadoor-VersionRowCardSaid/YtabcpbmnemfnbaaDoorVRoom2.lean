/-
  Blocks of five cells that a call has made: single cells written. Conditions: none.
-/
import Derived.Test.YtabcpbmnemfnbaaDoorVRoom
namespace Go.Proofs.YtabcpbmnemfnbaaDoor
open Go.ChangeShapes Go.WideShapes Go.ChangeAt Go.RowKit
set_option linter.unusedVariables false

theorem room_set3 {W : World} {b : Nat} {x0 x1 x2 x3 x4 : Value} (h : Room W b x0 x1 x2 x3 x4) (y : Value) : Room (W.setCell ⟨b, 3, none⟩ y) b x0 x1 x2 y x4 := by
  obtain ⟨⟨h0, h1, h2, h3, h4⟩, hf⟩ := h
  refine ⟨⟨?_, ?_, ?_, ?_, ?_⟩, ?_⟩
  all_goals simp [go_sem, h0, h1, h2, h3, h4, hf]
theorem room_set4 {W : World} {b : Nat} {x0 x1 x2 x3 x4 : Value} (h : Room W b x0 x1 x2 x3 x4) (y : Value) : Room (W.setCell ⟨b, 4, none⟩ y) b x0 x1 x2 x3 y := by
  obtain ⟨⟨h0, h1, h2, h3, h4⟩, hf⟩ := h
  refine ⟨⟨?_, ?_, ?_, ?_, ?_⟩, ?_⟩
  all_goals simp [go_sem, h0, h1, h2, h3, h4, hf]
theorem room_set012 {W : World} {b : Nat} {x0 x1 x2 x3 x4 : Value} (h : Room W b x0 x1 x2 x3 x4) (y0 y1 y2 : Value) : Room (((W.setCell ⟨b, 0, none⟩ y0).setCell ⟨b, 1, none⟩ y1).setCell ⟨b, 2, none⟩ y2) b y0 y1 y2 x3 x4 := by
  obtain ⟨⟨h0, h1, h2, h3, h4⟩, hf⟩ := h
  refine ⟨⟨?_, ?_, ?_, ?_, ?_⟩, ?_⟩
  all_goals simp [go_sem, h0, h1, h2, h3, h4, hf]
theorem room_other {W : World} {b b' o : Nat} {x0 x1 x2 x3 x4 : Value} (h : Room W b x0 x1 x2 x3 x4) (hb : b ≠ b') (y : Value) : Room (W.setCell ⟨b', o, none⟩ y) b x0 x1 x2 x3 x4 := by
  obtain ⟨⟨h0, h1, h2, h3, h4⟩, hf⟩ := h
  refine ⟨⟨?_, ?_, ?_, ?_, ?_⟩, ?_⟩
  all_goals simp [go_sem, h0, h1, h2, h3, h4, hf]
end Go.Proofs.YtabcpbmnemfnbaaDoor
