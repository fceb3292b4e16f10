/-
  Blocks of five cells, and facts on bytes (the same texts stand in XVPrint, XVRoom, XVRoom2 beside walks that this seat's program has not). Conditions: none.
-/
import Derived.Test.YthaagngoefieaaaDoorVMay
import Derived.Test.YthaagngoefieaaaDoorIdDigits
import Derived.Deep.RegionHeld3
import Derived.Deep.DeepCutAuto
import Derived.Deep.QuietTactic
import Derived.BigQuiet
import Derived.Handy
import Derived.LoopN
namespace Go.Proofs.YthaagngoefieaaaDoor
open Go.ChangeShapes Go.WideShapes Go.ChangeAt Go.RowKit
set_option linter.unusedVariables false

/-- A version's five cells. -/
def Five (w : World) (b : Nat) (x0 x1 x2 x3 x4 : Value) : Prop :=
  w.cell? ⟨b, 0, none⟩ = some x0 ∧ w.cell? ⟨b, 1, none⟩ = some x1 ∧ w.cell? ⟨b, 2, none⟩ = some x2 ∧ w.cell? ⟨b, 3, none⟩ = some x3 ∧ w.cell? ⟨b, 4, none⟩ = some x4
theorem five_below {w w' : World} {b B : Nat} {x0 x1 x2 x3 x4 : Value} (h : Five w b x0 x1 x2 x3 x4) (hb : b < B) (hw : Below B w w') : Five w' b x0 x1 x2 x3 x4 :=
  ⟨(hw.cell (p := ⟨b, 0, none⟩) hb).trans h.1, (hw.cell (p := ⟨b, 1, none⟩) hb).trans h.2.1, (hw.cell (p := ⟨b, 2, none⟩) hb).trans h.2.2.1, (hw.cell (p := ⟨b, 3, none⟩) hb).trans h.2.2.2.1, (hw.cell (p := ⟨b, 4, none⟩) hb).trans h.2.2.2.2⟩

theorem held_below {w W : World} {x0 x1 x2 x3 x4 : Value} (h : W.cell? ⟨w.heap.size, 0, none⟩ = some x0 ∧ W.cell? ⟨w.heap.size, 1, none⟩ = some x1 ∧ W.cell? ⟨w.heap.size, 2, none⟩ = some x2 ∧ W.cell? ⟨w.heap.size, 3, none⟩ = some x3 ∧ W.cell? ⟨w.heap.size, 4, none⟩ = some x4 ∧ w.heap.size < W.heap.size ∧ Below w.heap.size w W) : Below w.heap.size w W := h.2.2.2.2.2.2
theorem five_keep {w W W' : World} {x0 x1 x2 x3 x4 : Value} (hb : Below W.heap.size W W')
    (h : W.cell? ⟨w.heap.size, 0, none⟩ = some x0 ∧ W.cell? ⟨w.heap.size, 1, none⟩ = some x1 ∧ W.cell? ⟨w.heap.size, 2, none⟩ = some x2 ∧ W.cell? ⟨w.heap.size, 3, none⟩ = some x3 ∧ W.cell? ⟨w.heap.size, 4, none⟩ = some x4 ∧ w.heap.size < W.heap.size ∧ Below w.heap.size w W) :
    W'.cell? ⟨w.heap.size, 0, none⟩ = some x0 ∧ W'.cell? ⟨w.heap.size, 1, none⟩ = some x1 ∧ W'.cell? ⟨w.heap.size, 2, none⟩ = some x2 ∧ W'.cell? ⟨w.heap.size, 3, none⟩ = some x3 ∧ W'.cell? ⟨w.heap.size, 4, none⟩ = some x4 ∧ w.heap.size < W'.heap.size ∧ Below w.heap.size w W' := by
  obtain ⟨h0, h1, h2, h3, h4, hlt, hB⟩ := h
  obtain ⟨a0, a1, a2, a3, a4⟩ := five_below ⟨h0, h1, h2, h3, h4⟩ hlt hb
  exact ⟨a0, a1, a2, a3, a4, Nat.lt_of_lt_of_le hlt hb.size, hB.trans (hb.mono hB.size)⟩

theorem itoa_len {n : Int} (h0 : 0 ≤ n) (h1 : n ≤ 9999) : (Lib.itoa n).length ≤ 20 := by
  unfold Lib.itoa
  rw [if_neg (by omega)]
  exact dec_len _ (by omega)

theorem str_ext {x : ByteArray} {l : List UInt8} (h : x.data.toList = l) : Ending.returned (.string x) = .returned (.string ⟨l.toArray⟩) := by subst h; rw [back]
theorem app_list (x y : ByteArray) : (x ++ y).data.toList = x.data.toList ++ y.data.toList := by rw [ByteArray.data_append, Array.toList_append]
theorem seg_no (c : UInt8) {p : ByteArray} (h : p.size = 0) : segB c p.data.toList = [] := by
  obtain rfl := empty_is h
  rfl
theorem seg_yes (c : UInt8) {p : ByteArray} (h : p.size ≠ 0) : segB c p.data.toList = c :: p.data.toList := by
  unfold segB
  rw [if_neg]
  intro e
  have := congrArg List.length e
  rw [len_size] at this
  exact h this
/-- A block of the call's own: its five cells, and that it may be written. -/
def Room (W : World) (b : Nat) (x0 x1 x2 x3 x4 : Value) : Prop := Five W b x0 x1 x2 x3 x4 ∧ ∀ o, W.frozen? ⟨b, o, none⟩ = false
theorem room_new (w : World) (x0 x1 x2 x3 x4 : Value) (t : TypeId) : Room (w.alloc (.cells #[x0, x1, x2, x3, x4] t)) w.heap.size x0 x1 x2 x3 x4 :=
  ⟨cells5 w _ _ _ _ _ _ (by simpa using Below.refl _ _), fun o => by simp [go_sem]⟩
theorem room_below {W W' : World} {b B : Nat} {x0 x1 x2 x3 x4 : Value} (h : Room W b x0 x1 x2 x3 x4) (hb : b < B) (hw : Below B W W') : Room W' b x0 x1 x2 x3 x4 :=
  ⟨five_below h.1 hb hw, fun o => (hw.frozen (p := ⟨b, o, none⟩) hb).trans (h.2 o)⟩

/-- The five cells written. -/
def World.put5 (W : World) (b : Nat) (y0 y1 y2 y3 y4 : Value) : World :=
  ((((W.setCell ⟨b, 0, none⟩ y0).setCell ⟨b, 1, none⟩ y1).setCell ⟨b, 2, none⟩ y2).setCell ⟨b, 3, none⟩ y3).setCell ⟨b, 4, none⟩ y4
theorem room_put {W : World} {b : Nat} {x0 x1 x2 x3 x4 : Value} (h : Room W b x0 x1 x2 x3 x4) (y0 y1 y2 y3 y4 : Value) : Room (World.put5 W b y0 y1 y2 y3 y4) b y0 y1 y2 y3 y4 := by
  obtain ⟨⟨h0, h1, h2, h3, h4⟩, hf⟩ := h
  unfold World.put5
  refine ⟨⟨?_, ?_, ?_, ?_, ?_⟩, ?_⟩
  all_goals simp [go_sem, h0, h1, h2, h3, h4, hf]
theorem five_alloc {W : World} {b : Nat} {x0 x1 x2 x3 x4 : Value} (h : Five W b x0 x1 x2 x3 x4) (hb : b < W.heap.size) (o : Obj) : Five (W.alloc o) b x0 x1 x2 x3 x4 :=
  five_below h hb (box_below W o)
theorem room_set3 {W : World} {b : Nat} {x0 x1 x2 x3 x4 : Value} (h : Room W b x0 x1 x2 x3 x4) (y : Value) : Room (W.setCell ⟨b, 3, none⟩ y) b x0 x1 x2 y x4 := by
  obtain ⟨⟨h0, h1, h2, h3, h4⟩, hf⟩ := h
  refine ⟨⟨?_, ?_, ?_, ?_, ?_⟩, ?_⟩
  all_goals simp [go_sem, h0, h1, h2, h3, h4, hf]
theorem room_set4 {W : World} {b : Nat} {x0 x1 x2 x3 x4 : Value} (h : Room W b x0 x1 x2 x3 x4) (y : Value) : Room (W.setCell ⟨b, 4, none⟩ y) b x0 x1 x2 x3 y := by
  obtain ⟨⟨h0, h1, h2, h3, h4⟩, hf⟩ := h
  refine ⟨⟨?_, ?_, ?_, ?_, ?_⟩, ?_⟩
  all_goals simp [go_sem, h0, h1, h2, h3, h4, hf]
theorem room_set012 {W : World} {b : Nat} {x0 x1 x2 x3 x4 : Value} (h : Room W b x0 x1 x2 x3 x4) (y0 y1 y2 : Value) : Room (((W.setCell ⟨b, 0, none⟩ y0).setCell ⟨b, 1, none⟩ y1).setCell ⟨b, 2, none⟩ y2) b y0 y1 y2 x3 x4 := by
  obtain ⟨⟨h0, h1, h2, h3, h4⟩, hf⟩ := h
  refine ⟨⟨?_, ?_, ?_, ?_, ?_⟩, ?_⟩
  all_goals simp [go_sem, h0, h1, h2, h3, h4, hf]
theorem room_other {W : World} {b b' o : Nat} {x0 x1 x2 x3 x4 : Value} (h : Room W b x0 x1 x2 x3 x4) (hb : b ≠ b') (y : Value) : Room (W.setCell ⟨b', o, none⟩ y) b x0 x1 x2 x3 x4 := by
  obtain ⟨⟨h0, h1, h2, h3, h4⟩, hf⟩ := h
  refine ⟨⟨?_, ?_, ?_, ?_, ?_⟩, ?_⟩
  all_goals simp [go_sem, h0, h1, h2, h3, h4, hf]
theorem two_below (w : World) (o1 o2 : Obj) : Below w.heap.size w ((w.alloc o1).alloc o2) := (box_below w o1).alloc (by simp) o2
end Go.Proofs.YthaagngoefieaaaDoor
