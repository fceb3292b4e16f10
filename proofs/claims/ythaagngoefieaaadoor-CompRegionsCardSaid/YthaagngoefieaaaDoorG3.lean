/-
  Merged parts, one behind another; each says ahead what it proves: CSign CMay CRoom VRoom2 VCmp VOne VRComp VEq VCompA VCompB VComp.
-/
import Derived.Test.YthaagngoefieaaaDoorG1
import Derived.Test.YthaagngoefieaaaDoorG2
import Derived.Deep.Light
import Derived.Deep.RegionHeld3
import Derived.Deep.DeepCutAuto
import Derived.Deep.QuietTactic
import Derived.BigQuiet
import Derived.Handy
import Derived.LoopN
import Derived.Laws.StructEq
import Derived.StillTailTactics

/-
  The walks of chapter 6's sign, the program's and the reference's. Conditions: none.
-/
section
namespace Go.Proofs.YthaagngoefieaaaDoor
open Go.ChangeShapes Go.WideShapes Go.ChangeAt Go.RowKit
set_option linter.unusedVariables false

def signS (op : Int) : ByteArray := ⟨(signL op).toArray⟩
theorem sign_other {op : Int} (h1 : op ≠ 1) (h2 : op ≠ 2) (h3 : op ≠ 3) (h4 : op ≠ 4) (h5 : op ≠ 5) (h6 : op ≠ 6) (h7 : op ≠ 7) (h8 : op ≠ 8) : signS op = ⟨#[]⟩ := by
  unfold signS signL
  rw [if_neg h1, if_neg h2, if_neg h3, if_neg h4, if_neg h5, if_neg h6, if_neg h7, if_neg h8]
theorem sign_any (op : Int) (w : World) : Calls Tryd.prog 39 #[.int .i64 op] w fun e w' => e = .returned (.string (signS op)) ∧ w = w' := by
  by_cases h1 : op = 1
  · subst h1
    go_enter Tryd.func39, Tryd.ntmps39
    go_wp2
    go_ret
    exact ⟨rfl, rfl⟩
  by_cases h2 : op = 2
  · subst h2
    go_enter Tryd.func39, Tryd.ntmps39
    go_wp2
    go_ret
    exact ⟨rfl, rfl⟩
  by_cases h3 : op = 3
  · subst h3
    go_enter Tryd.func39, Tryd.ntmps39
    go_wp2
    go_ret
    exact ⟨rfl, rfl⟩
  by_cases h4 : op = 4
  · subst h4
    go_enter Tryd.func39, Tryd.ntmps39
    go_wp2
    go_ret
    exact ⟨rfl, rfl⟩
  by_cases h5 : op = 5
  · subst h5
    go_enter Tryd.func39, Tryd.ntmps39
    go_wp2
    go_ret
    exact ⟨rfl, rfl⟩
  by_cases h6 : op = 6
  · subst h6
    go_enter Tryd.func39, Tryd.ntmps39
    go_wp2
    go_ret
    exact ⟨rfl, rfl⟩
  by_cases h7 : op = 7
  · subst h7
    go_enter Tryd.func39, Tryd.ntmps39
    go_wp2
    go_ret
    exact ⟨rfl, rfl⟩
  by_cases h8 : op = 8
  · subst h8
    go_enter Tryd.func39, Tryd.ntmps39
    go_wp2
    go_ret
    exact ⟨rfl, rfl⟩
  rw [sign_other h1 h2 h3 h4 h5 h6 h7 h8]
  have e1 : (op == 1) = false := by simpa using h1
  have e2 : (op == 2) = false := by simpa using h2
  have e3 : (op == 3) = false := by simpa using h3
  have e4 : (op == 4) = false := by simpa using h4
  have e5 : (op == 5) = false := by simpa using h5
  have e6 : (op == 6) = false := by simpa using h6
  have e7 : (op == 7) = false := by simpa using h7
  have e8 : (op == 8) = false := by simpa using h8
  clear h1 h2 h3 h4 h5 h6 h7 h8
  go_enter Tryd.func39, Tryd.ntmps39
  go_wp2
  go_ret
  exact ⟨rfl, rfl⟩
theorem rsign_any (op : Int) (w : World) : Calls Tryd.prog 45 #[.int .i64 op] w fun e w' => e = .returned (.string (signS op)) ∧ w = w' := by
  by_cases h1 : op = 1
  · subst h1
    go_enter Tryd.func45, Tryd.ntmps45
    go_wp2
    go_ret
    exact ⟨rfl, rfl⟩
  by_cases h2 : op = 2
  · subst h2
    go_enter Tryd.func45, Tryd.ntmps45
    go_wp2
    go_ret
    exact ⟨rfl, rfl⟩
  by_cases h3 : op = 3
  · subst h3
    go_enter Tryd.func45, Tryd.ntmps45
    go_wp2
    go_ret
    exact ⟨rfl, rfl⟩
  by_cases h4 : op = 4
  · subst h4
    go_enter Tryd.func45, Tryd.ntmps45
    go_wp2
    go_ret
    exact ⟨rfl, rfl⟩
  by_cases h5 : op = 5
  · subst h5
    go_enter Tryd.func45, Tryd.ntmps45
    go_wp2
    go_ret
    exact ⟨rfl, rfl⟩
  by_cases h6 : op = 6
  · subst h6
    go_enter Tryd.func45, Tryd.ntmps45
    go_wp2
    go_ret
    exact ⟨rfl, rfl⟩
  by_cases h7 : op = 7
  · subst h7
    go_enter Tryd.func45, Tryd.ntmps45
    go_wp2
    go_ret
    exact ⟨rfl, rfl⟩
  by_cases h8 : op = 8
  · subst h8
    go_enter Tryd.func45, Tryd.ntmps45
    go_wp2
    go_ret
    exact ⟨rfl, rfl⟩
  rw [sign_other h1 h2 h3 h4 h5 h6 h7 h8]
  have e1 : (op == 1) = false := by simpa using h1
  have e2 : (op == 2) = false := by simpa using h2
  have e3 : (op == 3) = false := by simpa using h3
  have e4 : (op == 4) = false := by simpa using h4
  have e5 : (op == 5) = false := by simpa using h5
  have e6 : (op == 6) = false := by simpa using h6
  have e7 : (op == 7) = false := by simpa using h7
  have e8 : (op == 8) = false := by simpa using h8
  clear h1 h2 h3 h4 h5 h6 h7 h8
  go_enter Tryd.func45, Tryd.ntmps45
  go_wp2
  go_ret
  exact ⟨rfl, rfl⟩
end Go.Proofs.YthaagngoefieaaaDoor
end

/-
  The walks of chapter 6's May, the program's and the reference's. Conditions: the strings' sizes.
-/
section
namespace Go.Proofs.YthaagngoefieaaaDoor
open Go.ChangeShapes Go.WideShapes Go.ChangeAt Go.RowKit
set_option linter.unusedVariables false
set_option linter.unusedSimpArgs false

def cmpS (op ps a b c : Int) (p q : ByteArray) : Cmp := ⟨op, ps, verS a b c p q⟩
def cvV (op ps a b c : Int) (p q : ByteArray) : Value := .agg #[.int .i64 op, .int .i64 ps, .int .i64 a, .int .i64 b, .int .i64 c, .string p, .string q]
theorem mayC_eq (op ps a b c : Int) (p q : ByteArray) : mayC (cmpS op ps a b c p q) =
    (decide (1 ≤ op) && decide (op ≤ 9) && mayV (verS a b c p q) && q.data.toList.isEmpty && decide (leastC op ≤ ps) && decide (ps ≤ mostC op) && (p.data.toList.isEmpty || decide (3 ≤ ps)) &&
    (decide (0 < ps) || decide (a = 0)) && (decide (1 < ps) || decide (b = 0)) && (decide (2 < ps) || decide (c = 0))) := rfl

theorem cells7 (w : World) (x0 x1 x2 x3 x4 x5 x6 : Value) (t : TypeId) {w1 : World} (hb : Below (w.heap.size + 1) (w.alloc (.cells #[x0, x1, x2, x3, x4, x5, x6] t)) w1) :
    w1.cell? ⟨w.heap.size, 0, none⟩ = some x0 ∧ w1.cell? ⟨w.heap.size, 1, none⟩ = some x1 ∧ w1.cell? ⟨w.heap.size, 2, none⟩ = some x2 ∧ w1.cell? ⟨w.heap.size, 3, none⟩ = some x3 ∧ w1.cell? ⟨w.heap.size, 4, none⟩ = some x4 ∧ w1.cell? ⟨w.heap.size, 5, none⟩ = some x5 ∧ w1.cell? ⟨w.heap.size, 6, none⟩ = some x6 := by
  have h := cells_below (cells_new w [x0, x1, x2, x3, x4, x5, x6] t) (Nat.lt_succ_self _) hb
  exact ⟨h 0 _ rfl, h 1 _ rfl, h 2 _ rfl, h 3 _ rfl, h 4 _ rfl, h 5 _ rfl, h 6 _ rfl⟩
theorem str_e {q : ByteArray} (h : q.size = 0) : q.data.toList.isEmpty = true := by rw [List.isEmpty_iff]; exact List.eq_nil_of_length_eq_zero (by simpa using h)
theorem str_n {q : ByteArray} (h : ¬ q.size = 0) : q.data.toList.isEmpty = false := by
  rw [Bool.eq_false_iff, ne_eq, List.isEmpty_iff]
  intro e
  exact h (by rw [← len_size, e]; rfl)

set_option maxHeartbeats 4000000 in
theorem cmay_any (op ps a b c : Int) (p q : ByteArray) (w : World) (hp : p.size ≤ 1048576) (hq : q.size ≤ 1048576) :
    Calls Tryd.prog 15 #[cvV op ps a b c p q] w fun e w' => e = .returned (.bool (mayC (cmpS op ps a b c p q))) ∧ Below w.heap.size w w' := by
  have HM := Lib.hid (mayC_eq op ps a b c p q)
  have cM := fun W => may_any a b c p q W hp hq
  generalize mayC (cmpS op ps a b c p q) = R at *
  generalize mayV (verS a b c p q) = mv at *
  unfold cvV
  by_cases hp0 : p.size = 0
  all_goals
    by_cases hq0 : q.size = 0
    all_goals
      first
        | (have hpe := Lib.hid (str_e hp0); have hp1 := empty_str p hp0)
        | (have hpe := Lib.hid (str_n hp0); have hp1 := (empty_no (show 0 < p.size by omega)).1)
      first
        | (have hqe := Lib.hid (str_e hq0); have hq1 := empty_str q hq0)
        | (have hqe := Lib.hid (str_n hq0); have hq1 := (empty_no (show 0 < q.size by omega)).1)
      clear hp0 hq0
      cases mv
      all_goals
        go_enter Tryd.func15, Tryd.ntmps15
        go_wp2_with (go_at_call 41; refine (cM _).mono ?_; rintro e w1 ⟨rfl, hb1⟩; obtain ⟨k0, k1, k2, k3, k4, k5, k6⟩ := cells7 w _ _ _ _ _ _ _ _ (by simpa using hb1); have hB1 := (box_below w _).trans (hb1.mono (by simp)); clear hb1)
        all_goals
          go_ret
          refine ⟨ret_bool ?_, by first | assumption | exact box_below _ _⟩
          rw [HM.out, hpe.out, hqe.out]
          go_light
          try simp only [beq_iff_eq, bne_iff_ne, ne_eq, beq_eq_false_iff_ne, bne_eq_false_iff_eq] at *
          unfold leastC mostC
          try rw [show (c == 0) = decide (c = 0) from by by_cases h : c = 0 <;> simp [h]]
          first
            | (simp; done)
            | (simp; omega)
            | (split <;> first | (simp; done) | (simp; omega) | (exfalso; omega) | (rw [Bool.eq_iff_iff]; simp; omega))

set_option maxHeartbeats 4000000 in
theorem rcmay_any (op ps a b c : Int) (p q : ByteArray) (w : World) (hp : p.size ≤ 1048576) (hq : q.size ≤ 1048576) :
    Calls Tryd.prog 16 #[cvV op ps a b c p q] w fun e w' => e = .returned (.bool (mayC (cmpS op ps a b c p q))) ∧ Below w.heap.size w w' := by
  have HM := Lib.hid (mayC_eq op ps a b c p q)
  have cM := fun W => rmay_any a b c p q W hp hq
  generalize mayC (cmpS op ps a b c p q) = R at *
  generalize mayV (verS a b c p q) = mv at *
  unfold cvV
  by_cases hp0 : p.size = 0
  all_goals
    by_cases hq0 : q.size = 0
    all_goals
      first
        | (have hpe := Lib.hid (str_e hp0); have hp1 := empty_str p hp0)
        | (have hpe := Lib.hid (str_n hp0); have hp1 := (empty_no (show 0 < p.size by omega)).1)
      first
        | (have hqe := Lib.hid (str_e hq0); have hq1 := empty_str q hq0)
        | (have hqe := Lib.hid (str_n hq0); have hq1 := (empty_no (show 0 < q.size by omega)).1)
      clear hp0 hq0
      cases mv
      all_goals
        go_enter Tryd.func16, Tryd.ntmps16
        go_wp2_with (go_at_call 42; refine (cM _).mono ?_; rintro e w1 ⟨rfl, hb1⟩; obtain ⟨k0, k1, k2, k3, k4, k5, k6⟩ := cells7 w _ _ _ _ _ _ _ _ (by simpa using hb1); have hB1 := (box_below w _).trans (hb1.mono (by simp)); clear hb1)
        all_goals
          go_ret
          refine ⟨ret_bool ?_, by first | assumption | exact box_below _ _⟩
          rw [HM.out, hpe.out, hqe.out]
          go_light
          try simp only [beq_iff_eq, bne_iff_ne, ne_eq, beq_eq_false_iff_ne, bne_eq_false_iff_eq] at *
          unfold leastC mostC
          try rw [show (c == 0) = decide (c = 0) from by by_cases h : c = 0 <;> simp [h]]
          first
            | (simp; done)
            | (simp; omega)
            | (split <;> first | (simp; done) | (simp; omega) | (exfalso; omega) | (rw [Bool.eq_iff_iff]; simp; omega))
end Go.Proofs.YthaagngoefieaaaDoor
end

/-
  Blocks of five cells, and facts on bytes (the same texts stand in XVPrint, XVRoom, XVRoom2 beside walks that this seat's program has not). Conditions: none.
-/
section
namespace Go.Proofs.YthaagngoefieaaaDoor
open Go.ChangeShapes Go.WideShapes Go.ChangeAt Go.RowKit
set_option linter.unusedVariables false

/-- A version's five cells. -/
def Five (w : World) (b : Nat) (x0 x1 x2 x3 x4 : Value) : Prop :=
  w.cell? ⟨b, 0, none⟩ = some x0 ∧ w.cell? ⟨b, 1, none⟩ = some x1 ∧ w.cell? ⟨b, 2, none⟩ = some x2 ∧ w.cell? ⟨b, 3, none⟩ = some x3 ∧ w.cell? ⟨b, 4, none⟩ = some x4
theorem five_below {w w' : World} {b B : Nat} {x0 x1 x2 x3 x4 : Value} (h : Five w b x0 x1 x2 x3 x4) (hb : b < B) (hw : Below B w w') : Five w' b x0 x1 x2 x3 x4 :=
  ⟨(hw.cell (p := ⟨b, 0, none⟩) hb).trans h.1, (hw.cell (p := ⟨b, 1, none⟩) hb).trans h.2.1, (hw.cell (p := ⟨b, 2, none⟩) hb).trans h.2.2.1, (hw.cell (p := ⟨b, 3, none⟩) hb).trans h.2.2.2.1, (hw.cell (p := ⟨b, 4, none⟩) hb).trans h.2.2.2.2⟩

theorem held_below {w W : World} {x0 x1 x2 x3 x4 : Value} (h : W.cell? ⟨w.heap.size, 0, none⟩ = some x0 ∧ W.cell? ⟨w.heap.size, 1, none⟩ = some x1 ∧ W.cell? ⟨w.heap.size, 2, none⟩ = some x2 ∧ W.cell? ⟨w.heap.size, 3, none⟩ = some x3 ∧ W.cell? ⟨w.heap.size, 4, none⟩ = some x4 ∧ w.heap.size < W.heap.size ∧ Below w.heap.size w W) : Below w.heap.size w W := h.2.2.2.2.2.2
theorem five_keep {w W W' : World} {x0 x1 x2 x3 x4 : Value} (hb : Below W.heap.size W W')
    (h : W.cell? ⟨w.heap.size, 0, none⟩ = some x0 ∧ W.cell? ⟨w.heap.size, 1, none⟩ = some x1 ∧ W.cell? ⟨w.heap.size, 2, none⟩ = some x2 ∧ W.cell? ⟨w.heap.size, 3, none⟩ = some x3 ∧ W.cell? ⟨w.heap.size, 4, none⟩ = some x4 ∧ w.heap.size < W.heap.size ∧ Below w.heap.size w W) :
    W'.cell? ⟨w.heap.size, 0, none⟩ = some x0 ∧ W'.cell? ⟨w.heap.size, 1, none⟩ = some x1 ∧ W'.cell? ⟨w.heap.size, 2, none⟩ = some x2 ∧ W'.cell? ⟨w.heap.size, 3, none⟩ = some x3 ∧ W'.cell? ⟨w.heap.size, 4, none⟩ = some x4 ∧ w.heap.size < W'.heap.size ∧ Below w.heap.size w W' := by
  obtain ⟨h0, h1, h2, h3, h4, hlt, hB⟩ := h
  obtain ⟨a0, a1, a2, a3, a4⟩ := five_below ⟨h0, h1, h2, h3, h4⟩ hlt hb
  exact ⟨a0, a1, a2, a3, a4, Nat.lt_of_lt_of_le hlt hb.size, hB.trans (hb.mono hB.size)⟩

theorem itoa_len {n : Int} (h0 : 0 ≤ n) (h1 : n ≤ 9999) : (Lib.itoa n).length ≤ 20 := by
  unfold Lib.itoa
  rw [if_neg (by omega)]
  exact dec_len _ (by omega)

theorem str_ext {x : ByteArray} {l : List UInt8} (h : x.data.toList = l) : Ending.returned (.string x) = .returned (.string ⟨l.toArray⟩) := by subst h; rw [back]
theorem app_list (x y : ByteArray) : (x ++ y).data.toList = x.data.toList ++ y.data.toList := by rw [ByteArray.data_append, Array.toList_append]
theorem seg_no (c : UInt8) {p : ByteArray} (h : p.size = 0) : segB c p.data.toList = [] := by
  obtain rfl := empty_is h
  rfl
theorem seg_yes (c : UInt8) {p : ByteArray} (h : p.size ≠ 0) : segB c p.data.toList = c :: p.data.toList := by
  unfold segB
  rw [if_neg]
  intro e
  have := congrArg List.length e
  rw [len_size] at this
  exact h this
/-- A block of the call's own: its five cells, and that it may be written. -/
def Room (W : World) (b : Nat) (x0 x1 x2 x3 x4 : Value) : Prop := Five W b x0 x1 x2 x3 x4 ∧ ∀ o, W.frozen? ⟨b, o, none⟩ = false
theorem room_new (w : World) (x0 x1 x2 x3 x4 : Value) (t : TypeId) : Room (w.alloc (.cells #[x0, x1, x2, x3, x4] t)) w.heap.size x0 x1 x2 x3 x4 :=
  ⟨cells5 w _ _ _ _ _ _ (by simpa using Below.refl _ _), fun o => by simp [go_sem]⟩
theorem room_below {W W' : World} {b B : Nat} {x0 x1 x2 x3 x4 : Value} (h : Room W b x0 x1 x2 x3 x4) (hb : b < B) (hw : Below B W W') : Room W' b x0 x1 x2 x3 x4 :=
  ⟨five_below h.1 hb hw, fun o => (hw.frozen (p := ⟨b, o, none⟩) hb).trans (h.2 o)⟩

/-- The five cells written. -/
def World.put5 (W : World) (b : Nat) (y0 y1 y2 y3 y4 : Value) : World :=
  ((((W.setCell ⟨b, 0, none⟩ y0).setCell ⟨b, 1, none⟩ y1).setCell ⟨b, 2, none⟩ y2).setCell ⟨b, 3, none⟩ y3).setCell ⟨b, 4, none⟩ y4
theorem room_put {W : World} {b : Nat} {x0 x1 x2 x3 x4 : Value} (h : Room W b x0 x1 x2 x3 x4) (y0 y1 y2 y3 y4 : Value) : Room (World.put5 W b y0 y1 y2 y3 y4) b y0 y1 y2 y3 y4 := by
  obtain ⟨⟨h0, h1, h2, h3, h4⟩, hf⟩ := h
  unfold World.put5
  refine ⟨⟨?_, ?_, ?_, ?_, ?_⟩, ?_⟩
  all_goals simp [go_sem, h0, h1, h2, h3, h4, hf]
theorem five_alloc {W : World} {b : Nat} {x0 x1 x2 x3 x4 : Value} (h : Five W b x0 x1 x2 x3 x4) (hb : b < W.heap.size) (o : Obj) : Five (W.alloc o) b x0 x1 x2 x3 x4 :=
  five_below h hb (box_below W o)
theorem room_set3 {W : World} {b : Nat} {x0 x1 x2 x3 x4 : Value} (h : Room W b x0 x1 x2 x3 x4) (y : Value) : Room (W.setCell ⟨b, 3, none⟩ y) b x0 x1 x2 y x4 := by
  obtain ⟨⟨h0, h1, h2, h3, h4⟩, hf⟩ := h
  refine ⟨⟨?_, ?_, ?_, ?_, ?_⟩, ?_⟩
  all_goals simp [go_sem, h0, h1, h2, h3, h4, hf]
theorem room_set4 {W : World} {b : Nat} {x0 x1 x2 x3 x4 : Value} (h : Room W b x0 x1 x2 x3 x4) (y : Value) : Room (W.setCell ⟨b, 4, none⟩ y) b x0 x1 x2 x3 y := by
  obtain ⟨⟨h0, h1, h2, h3, h4⟩, hf⟩ := h
  refine ⟨⟨?_, ?_, ?_, ?_, ?_⟩, ?_⟩
  all_goals simp [go_sem, h0, h1, h2, h3, h4, hf]
theorem room_set012 {W : World} {b : Nat} {x0 x1 x2 x3 x4 : Value} (h : Room W b x0 x1 x2 x3 x4) (y0 y1 y2 : Value) : Room (((W.setCell ⟨b, 0, none⟩ y0).setCell ⟨b, 1, none⟩ y1).setCell ⟨b, 2, none⟩ y2) b y0 y1 y2 x3 x4 := by
  obtain ⟨⟨h0, h1, h2, h3, h4⟩, hf⟩ := h
  refine ⟨⟨?_, ?_, ?_, ?_, ?_⟩, ?_⟩
  all_goals simp [go_sem, h0, h1, h2, h3, h4, hf]
theorem room_other {W : World} {b b' o : Nat} {x0 x1 x2 x3 x4 : Value} (h : Room W b x0 x1 x2 x3 x4) (hb : b ≠ b') (y : Value) : Room (W.setCell ⟨b', o, none⟩ y) b x0 x1 x2 x3 x4 := by
  obtain ⟨⟨h0, h1, h2, h3, h4⟩, hf⟩ := h
  refine ⟨⟨?_, ?_, ?_, ?_, ?_⟩, ?_⟩
  all_goals simp [go_sem, h0, h1, h2, h3, h4, hf]
theorem two_below (w : World) (o1 o2 : Obj) : Below w.heap.size w ((w.alloc o1).alloc o2) := (box_below w o1).alloc (by simp) o2
end Go.Proofs.YthaagngoefieaaaDoor
end

/-
  For seat F: the blocks of five cells lie in XCRoom. Conditions: none.
-/
section

end

/-
  The walks of chapter 2's small comparisons: cmp.Compare of numbers and texts, the reference's Ints and Texts, Core. Conditions: none.
-/
section
namespace Go.Proofs.YthaagngoefieaaaDoor
open Go.ChangeShapes Go.WideShapes Go.ChangeAt Go.RowKit
set_option linter.unusedVariables false

theorem less_bytes : ∀ (x y : List UInt8), Op.bytesLess x y = lessL x y
  | [], [] => rfl
  | _ :: _, [] => rfl
  | [], _ :: _ => rfl
  | a :: x, b :: y => by
    rw [Op.bytesLess, lessL, less_bytes x y]
    rfl
theorem less_self : ∀ x : List UInt8, lessL x x = false
  | [] => rfl
  | a :: x => by rw [lessL, less_self x]; simp
theorem less_not : ∀ {x y : List UInt8}, lessL x y = true → lessL y x = false
  | [], [], h => by simp [lessL] at h
  | _ :: _, [], h => by simp [lessL] at h
  | [], _ :: _, _ => rfl
  | a :: x, b :: y, h => by
    simp only [lessL, Bool.or_eq_true, Bool.and_eq_true, decide_eq_true_eq, beq_iff_eq] at h
    rw [lessL]
    rcases h with h | ⟨rfl, h⟩
    · rw [Bool.or_eq_false_iff]
      refine ⟨by simp; omega, ?_⟩
      have : (b == a) = false := by simp; intro e; subst e; omega
      rw [this]; rfl
    · rw [less_not h]; simp
theorem less_or : ∀ {x y : List UInt8}, lessL x y = false → x ≠ y → lessL y x = true
  | [], [], _, hn => absurd rfl hn
  | _ :: _, [], _, _ => rfl
  | [], _ :: _, h, _ => by simp [lessL] at h
  | a :: x, b :: y, h, hn => by
    simp only [lessL, Bool.or_eq_false_iff, decide_eq_false_iff_not] at h
    rw [lessL]
    by_cases hab : a = b
    · subst hab
      have h2 : lessL x y = false := by simpa using h.2
      rw [less_or h2 (fun e => hn (by rw [e]))]; simp
    · have : b.toNat < a.toNat := by
        have : a.toNat ≠ b.toNat := fun e => hab (UInt8.toNat_inj.1 e)
        omega
      simp [this]

theorem isnan_any (a : Int) (w : World) : Calls Tryd.prog 78 #[.int .i64 a] w fun e w' => e = .returned (.bool false) ∧ w = w' := by
  go_enter Tryd.func78, Tryd.ntmps78
  go_wp2
  go_ret
  exact ⟨by simp, rfl⟩
theorem isnans_any (a : ByteArray) (w : World) : Calls Tryd.prog 101 #[.string a] w fun e w' => e = .returned (.bool false) ∧ w = w' := by
  go_enter Tryd.func101, Tryd.ntmps101
  go_wp2
  go_ret
  exact ⟨by simp, rfl⟩
theorem cmp_any (a b : Int) (w : World) : Calls Tryd.prog 49 #[.int .i64 a, .int .i64 b] w fun e w' => e = .returned (.int .i64 (intsI a b)) ∧ w = w' := by
  by_cases h1 : a < b
  · have e : intsI a b = -1 := by unfold intsI; rw [if_pos h1]
    rw [e]; clear e
    go_enter Tryd.func49, Tryd.ntmps49
    go_wp2_with (go_at_call 78; refine (isnan_any _ _).mono ?_; rintro e w3 ⟨rfl, rfl⟩)
    go_ret
    exact ⟨rfl, rfl⟩
  · by_cases h2 : b < a
    · have e : intsI a b = 1 := by unfold intsI; rw [if_neg h1, if_pos h2]
      rw [e]; clear e
      go_enter Tryd.func49, Tryd.ntmps49
      go_wp2_with (go_at_call 78; refine (isnan_any _ _).mono ?_; rintro e w3 ⟨rfl, rfl⟩)
      go_ret
      exact ⟨rfl, rfl⟩
    · have e : intsI a b = 0 := by unfold intsI; rw [if_neg h1, if_neg h2]
      rw [e]; clear e
      go_enter Tryd.func49, Tryd.ntmps49
      go_wp2_with (go_at_call 78; refine (isnan_any _ _).mono ?_; rintro e w3 ⟨rfl, rfl⟩)
      go_ret
      exact ⟨rfl, rfl⟩
theorem ints_any (a b : Int) (w : World) : Calls Tryd.prog 93 #[.int .i64 a, .int .i64 b] w fun e w' => e = .returned (.int .i64 (intsI a b)) ∧ w = w' := by
  by_cases h1 : a < b
  · have e : intsI a b = -1 := by unfold intsI; rw [if_pos h1]
    rw [e]; clear e
    go_enter Tryd.func93, Tryd.ntmps93
    go_wp2
    go_ret
    exact ⟨rfl, rfl⟩
  · by_cases h2 : b < a
    · have e : intsI a b = 1 := by unfold intsI; rw [if_neg h1, if_pos h2]
      rw [e]; clear e
      go_enter Tryd.func93, Tryd.ntmps93
      go_wp2
      go_ret
      exact ⟨rfl, rfl⟩
    · have e : intsI a b = 0 := by unfold intsI; rw [if_neg h1, if_neg h2]
      rw [e]; clear e
      go_enter Tryd.func93, Tryd.ntmps93
      go_wp2
      go_ret
      exact ⟨rfl, rfl⟩

/-- The facts of two texts in the walk's words. -/
theorem tx_less {a b : ByteArray} (h : lessL a.data.toList b.data.toList = true) : Op.bytesLess a.toList b.toList = true ∧ (a.toList == b.toList) = false ∧ textsI a.data.toList b.data.toList = -1 := by
  rw [Lib.toList_data, Lib.toList_data, less_bytes]
  refine ⟨h, ?_, by unfold textsI; rw [if_pos h]⟩
  have : a.data.toList ≠ b.data.toList := fun e => by rw [e, less_self] at h; cases h
  simpa using this
theorem tx_more {a b : ByteArray} (h : lessL b.data.toList a.data.toList = true) : Op.bytesLess a.toList b.toList = false ∧ (a.toList == b.toList) = false ∧ textsI a.data.toList b.data.toList = 1 := by
  rw [Lib.toList_data, Lib.toList_data, less_bytes]
  have hn := less_not h
  refine ⟨hn, ?_, by unfold textsI; rw [if_neg (by rw [hn]; decide), if_pos h]⟩
  have : a.data.toList ≠ b.data.toList := fun e => by rw [e, less_self] at h; cases h
  simpa using this
theorem tx_same {a b : ByteArray} (h : a.data.toList = b.data.toList) : Op.bytesLess a.toList b.toList = false ∧ (a.toList == b.toList) = true ∧ textsI a.data.toList b.data.toList = 0 := by
  rw [Lib.toList_data, Lib.toList_data, less_bytes, h]
  have hn := less_self b.data.toList
  exact ⟨hn, by simp, by unfold textsI; rw [if_neg (by rw [hn]; decide), if_neg (by rw [hn]; decide)]⟩
theorem tx_way (a b : ByteArray) : lessL a.data.toList b.data.toList = true ∨ lessL b.data.toList a.data.toList = true ∨ a.data.toList = b.data.toList := by
  cases h : lessL a.data.toList b.data.toList
  · by_cases e : a.data.toList = b.data.toList
    · exact .inr (.inr e)
    · exact .inr (.inl (less_or h e))
  · exact .inl rfl
theorem cmps_any (a b : ByteArray) (w : World) : Calls Tryd.prog 80 #[.string a, .string b] w fun e w' => e = .returned (.int .i64 (textsI a.data.toList b.data.toList)) ∧ w = w' := by
  rcases tx_way a b with h | h | h
  · obtain ⟨h1, h2, h3⟩ := tx_less h
    rw [h3]; clear h h3
    go_enter Tryd.func80, Tryd.ntmps80
    go_wp2_with (go_at_call 101; refine (isnans_any _ _).mono ?_; rintro e w3 ⟨rfl, rfl⟩)
    go_ret
    exact ⟨rfl, rfl⟩
  · obtain ⟨h1, h2, h3⟩ := tx_more h
    rw [h3]; clear h h3
    go_enter Tryd.func80, Tryd.ntmps80
    go_wp2_with (go_at_call 101; refine (isnans_any _ _).mono ?_; rintro e w3 ⟨rfl, rfl⟩)
    go_ret
    exact ⟨rfl, rfl⟩
  · obtain ⟨h1, h2, h3⟩ := tx_same h
    rw [h3]; clear h h3
    go_enter Tryd.func80, Tryd.ntmps80
    go_wp2_with (go_at_call 101; refine (isnans_any _ _).mono ?_; rintro e w3 ⟨rfl, rfl⟩)
    go_ret
    exact ⟨rfl, rfl⟩
theorem texts_any (a b : ByteArray) (w : World) : Calls Tryd.prog 112 #[.string a, .string b] w fun e w' => e = .returned (.int .i64 (textsI a.data.toList b.data.toList)) ∧ w = w' := by
  rcases tx_way a b with h | h | h
  · obtain ⟨h1, h2, h3⟩ := tx_less h
    rw [h3]; clear h h3
    go_enter Tryd.func112, Tryd.ntmps112
    go_wp2
    go_ret
    exact ⟨rfl, rfl⟩
  · obtain ⟨h1, h2, h3⟩ := tx_more h
    rw [h3]; clear h h3
    go_enter Tryd.func112, Tryd.ntmps112
    go_wp2
    go_ret
    exact ⟨rfl, rfl⟩
  · obtain ⟨h1, h2, h3⟩ := tx_same h
    rw [h3]; clear h h3
    go_enter Tryd.func112, Tryd.ntmps112
    go_wp2
    go_ret
    exact ⟨rfl, rfl⟩

theorem core_any (a b c : Int) (p q : ByteArray) (w : World) : Calls Tryd.prog 47 #[.agg #[.int .i64 a, .int .i64 b, .int .i64 c, .string p, .string q]] w fun e w' => e = .returned (.agg #[.int .i64 a, .int .i64 b, .int .i64 c, .string p, .string ⟨#[]⟩]) ∧ Below w.heap.size w w' := by
  go_enter Tryd.func47, Tryd.ntmps47
  go_wp2
  go_returns
  exact ⟨rfl, two_below _ _ _⟩
theorem rcore_any (a b c : Int) (p q : ByteArray) (w : World) : Calls Tryd.prog 95 #[.agg #[.int .i64 a, .int .i64 b, .int .i64 c, .string p, .string q]] w fun e w' => e = .returned (.agg #[.int .i64 a, .int .i64 b, .int .i64 c, .string p, .string ⟨#[]⟩]) ∧ Below w.heap.size w w' := by
  go_enter Tryd.func95, Tryd.ntmps95
  go_wp2
  go_returns
  exact ⟨rfl, two_below _ _ _⟩
end Go.Proofs.YthaagngoefieaaaDoor
end

/-
  The walks of chapter 2's comparison of two tags, the program's tag and the reference's one. Conditions: the texts' sizes are within the bound of a slice.
-/
section
namespace Go.Proofs.YthaagngoefieaaaDoor
open Go.ChangeShapes Go.WideShapes Go.ChangeAt Go.RowKit
set_option linter.unusedVariables false

theorem one_nn {a b : List UInt8} (h : numericB a = true) (k : numericB b = true) : oneI a b = intsI (numB a).1 (numB b).1 := by unfold oneI; rw [if_pos h, if_pos k]
theorem one_nt {a b : List UInt8} (h : numericB a = true) (k : numericB b = false) : oneI a b = -1 := by unfold oneI; rw [if_pos h, if_neg (by rw [k]; decide)]
theorem one_tn {a b : List UInt8} (h : numericB a = false) (k : numericB b = true) : oneI a b = 1 := by unfold oneI; rw [if_neg (by rw [h]; decide), if_pos k]
theorem one_tt {a b : List UInt8} (h : numericB a = false) (k : numericB b = false) : oneI a b = textsI a b := by unfold oneI; rw [if_neg (by rw [h]; decide), if_neg (by rw [k]; decide)]

set_option maxHeartbeats 1000000 in
theorem onetag_any (a b : ByteArray) (w : World) (ha : a.size ≤ maxLen) (hb : b.size ≤ maxLen) :
    Calls Tryd.prog 51 #[.string a, .string b] w fun e w' => e = .returned (.int .i64 (oneI a.data.toList b.data.toList)) ∧ Below w.heap.size w w' := by
  have na := fun W => numeric_any a W ha
  have nb := fun W => numeric_any b W hb
  have ma := fun W => number_any a W ha
  have mb := fun W => number_any b W hb
  have ct := fun W => cmps_any a b W
  cases hp : numericB a.data.toList <;> cases hq : numericB b.data.toList
  · rw [one_tt hp hq]
    rw [hp] at na
    rw [hq] at nb
    clear hp hq ma mb
    generalize textsI a.data.toList b.data.toList = r at *
    go_enter Tryd.func51, Tryd.ntmps51
    go_wp2_with fail
    refine (na _).mono ?_
    rintro e w1 ⟨rfl, rfl⟩
    go_wp2_with fail
    refine (nb _).mono ?_
    rintro e w1 ⟨rfl, rfl⟩
    go_wp2_with (go_at_call 80; refine (ct _).mono ?_; rintro e w3 ⟨rfl, rfl⟩)
    go_ret
    exact ⟨rfl, Below.refl _ _⟩
  · rw [one_tn hp hq]
    rw [hp] at na
    rw [hq] at nb
    clear hp hq ma mb ct
    go_enter Tryd.func51, Tryd.ntmps51
    go_wp2_with fail
    refine (na _).mono ?_
    rintro e w1 ⟨rfl, rfl⟩
    go_wp2_with fail
    refine (nb _).mono ?_
    rintro e w1 ⟨rfl, rfl⟩
    go_wp2
    go_ret
    exact ⟨rfl, Below.refl _ _⟩
  · rw [one_nt hp hq]
    rw [hp] at na
    rw [hq] at nb
    clear hp hq ma mb ct
    go_enter Tryd.func51, Tryd.ntmps51
    go_wp2_with fail
    refine (na _).mono ?_
    rintro e w1 ⟨rfl, rfl⟩
    go_wp2_with fail
    refine (nb _).mono ?_
    rintro e w1 ⟨rfl, rfl⟩
    go_wp2
    go_ret
    exact ⟨rfl, Below.refl _ _⟩
  · rw [one_nn hp hq]
    rw [hp] at na
    rw [hq] at nb
    clear hp hq ct
    generalize numB a.data.toList = m at *
    generalize numB b.data.toList = n at *
    obtain ⟨x, i⟩ := m
    obtain ⟨y, j⟩ := n
    go_enter Tryd.func51, Tryd.ntmps51
    go_wp2_with fail
    refine (na _).mono ?_
    rintro e w1 ⟨rfl, rfl⟩
    go_wp2_with fail
    refine (nb _).mono ?_
    rintro e w1 ⟨rfl, rfl⟩
    go_wp2_with fail
    refine (ma _).mono ?_
    rintro e w1 ⟨rfl, hb1⟩
    go_wp2_with fail
    refine (mb _).mono ?_
    rintro e w2 ⟨rfl, hb2⟩
    go_wp2_with (go_at_call 49; refine (cmp_any _ _ _).mono ?_; rintro e w3 ⟨rfl, rfl⟩)
    go_ret
    exact ⟨rfl, hb1.trans (hb2.mono hb1.size)⟩

set_option maxHeartbeats 1000000 in
theorem rone_any (a b : ByteArray) (w : World) (ha : a.size ≤ maxLen) (hb : b.size ≤ maxLen) :
    Calls Tryd.prog 107 #[.string a, .string b] w fun e w' => e = .returned (.int .i64 (oneI a.data.toList b.data.toList)) ∧ w = w' := by
  have na := fun W => rnumeric_any a W ha
  have nb := fun W => rnumeric_any b W hb
  have ma := fun W => rnumber_any a W ha
  have mb := fun W => rnumber_any b W hb
  have ct := fun W => texts_any a b W
  cases hp : numericB a.data.toList <;> cases hq : numericB b.data.toList
  · rw [one_tt hp hq]
    rw [hp] at na
    rw [hq] at nb
    clear hp hq ma mb
    generalize textsI a.data.toList b.data.toList = r at *
    go_enter Tryd.func107, Tryd.ntmps107
    go_wp2_with fail
    refine (na _).mono ?_
    rintro e w1 ⟨rfl, rfl⟩
    go_wp2_with fail
    refine (nb _).mono ?_
    rintro e w1 ⟨rfl, rfl⟩
    go_wp2_with (go_at_call 112; refine (ct _).mono ?_; rintro e w3 ⟨rfl, rfl⟩)
    go_ret
    exact ⟨rfl, rfl⟩
  · rw [one_tn hp hq]
    rw [hp] at na
    rw [hq] at nb
    clear hp hq ma mb ct
    go_enter Tryd.func107, Tryd.ntmps107
    go_wp2_with fail
    refine (na _).mono ?_
    rintro e w1 ⟨rfl, rfl⟩
    go_wp2_with fail
    refine (nb _).mono ?_
    rintro e w1 ⟨rfl, rfl⟩
    go_wp2
    go_ret
    exact ⟨rfl, rfl⟩
  · rw [one_nt hp hq]
    rw [hp] at na
    rw [hq] at nb
    clear hp hq ma mb ct
    go_enter Tryd.func107, Tryd.ntmps107
    go_wp2_with fail
    refine (na _).mono ?_
    rintro e w1 ⟨rfl, rfl⟩
    go_wp2_with fail
    refine (nb _).mono ?_
    rintro e w1 ⟨rfl, rfl⟩
    go_wp2
    go_ret
    exact ⟨rfl, rfl⟩
  · rw [one_nn hp hq]
    rw [hp] at na
    rw [hq] at nb
    clear hp hq ct
    generalize numB a.data.toList = m at *
    generalize numB b.data.toList = n at *
    obtain ⟨x, i⟩ := m
    obtain ⟨y, j⟩ := n
    go_enter Tryd.func107, Tryd.ntmps107
    go_wp2_with fail
    refine (na _).mono ?_
    rintro e w1 ⟨rfl, rfl⟩
    go_wp2_with fail
    refine (nb _).mono ?_
    rintro e w1 ⟨rfl, rfl⟩
    go_wp2_with fail
    refine (ma _).mono ?_
    rintro e w1 ⟨rfl, rfl⟩
    go_wp2_with fail
    refine (mb _).mono ?_
    rintro e w2 ⟨rfl, rfl⟩
    go_wp2_with (go_at_call 93; refine (ints_any _ _ _).mono ?_; rintro e w3 ⟨rfl, rfl⟩)
    go_ret
    exact ⟨rfl, rfl⟩
end Go.Proofs.YthaagngoefieaaaDoor
end

/-
  The walks of chapter 2's reference pres and Compare. Conditions: Pre and Build have at most 1048576 bytes.
-/
section
namespace Go.Proofs.YthaagngoefieaaaDoor
open Go.ChangeShapes Go.WideShapes Go.ChangeAt Go.RowKit
set_option linter.unusedVariables false

theorem row_step {L M : List (List UInt8)} {j : Nat} {x y : List UInt8} (hx : L[j]? = some x) (hy : M[j]? = some y) :
    rowI (L.drop j) (M.drop j) = if oneI x y = 0 then rowI (L.drop (j + 1)) (M.drop (j + 1)) else oneI x y := by
  obtain ⟨h1, rfl⟩ := List.getElem?_eq_some_iff.1 hx
  obtain ⟨h2, rfl⟩ := List.getElem?_eq_some_iff.1 hy
  rw [List.drop_eq_getElem_cons h1, List.drop_eq_getElem_cons h2]
  rfl
theorem row_end {L M : List (List UInt8)} {j : Nat} (h1 : j ≤ L.length) (h2 : j ≤ M.length) (h : j = L.length ∨ j = M.length) : rowI (L.drop j) (M.drop j) = intsI L.length M.length := by
  by_cases hL : j = L.length
  · by_cases hM : j = M.length
    · rw [List.drop_of_length_le (by omega), List.drop_of_length_le (by omega)]
      unfold intsI; rw [if_neg (by omega), if_neg (by omega)]; rfl
    · rw [List.drop_of_length_le (by omega), List.drop_eq_getElem_cons (by omega)]
      unfold intsI; rw [if_pos (by omega)]; rfl
  · have hM : j = M.length := by rcases h with h | h; exact absurd h hL; exact h
    rw [List.drop_eq_getElem_cons (show j < L.length by omega), List.drop_of_length_le (show M.length ≤ j by omega)]
    unfold intsI; rw [if_neg (by omega), if_pos (by omega)]; rfl
theorem pres_same {a b : List UInt8} (h : a = b) : presI a b = 0 := by unfold presI; rw [if_pos h]
theorem pres_no_a {b : List UInt8} (h : [] ≠ b) : presI [] b = 1 := by unfold presI; rw [if_neg h, if_pos rfl]
theorem pres_no_b {a : List UInt8} (h : a ≠ []) : presI a [] = -1 := by unfold presI; rw [if_neg h, if_neg h, if_pos rfl]
theorem pres_row {a b : List UInt8} (h : a ≠ b) (ha : a ≠ []) (hb : b ≠ []) : presI a b = rowI (splitL a 46) (splitL b 46) := by unfold presI; rw [if_neg h, if_neg ha, if_neg hb]
theorem eq_str {a b : ByteArray} (h : a.data.toList = b.data.toList) : (a.toList == b.toList) = true := by rw [Lib.toList_data, Lib.toList_data, h]; simp
theorem ne_str {a b : ByteArray} (h : a.data.toList ≠ b.data.toList) : (a.toList == b.toList) = false := by rw [Lib.toList_data, Lib.toList_data]; simpa using h
theorem ret_i64 {a b : Int} (h : a = b) : Ending.returned (.int .i64 a) = .returned (.int .i64 b) := by rw [h]
theorem nil_size {a : ByteArray} (h : a.data.toList = []) : a.size = 0 := by have := congrArg List.length h; rw [len_size] at this; simpa using this
theorem size_nil {a : ByteArray} (h : a.size = 0) : a.data.toList = [] := by apply List.eq_nil_of_length_eq_zero; rw [len_size]; exact h

set_option maxHeartbeats 2000000 in
theorem rpres_any (a b : ByteArray) (w : World) (ha : a.size ≤ 1048576) (hb : b.size ≤ 1048576) :
    Calls Tryd.prog 105 #[.string a, .string b] w fun e w' => e = .returned (.int .i64 (presI a.data.toList b.data.toList)) ∧ Below w.heap.size w w' := by
  by_cases hab : a.data.toList = b.data.toList
  · rw [pres_same hab]
    have e1 := eq_str hab
    clear hab
    go_enter Tryd.func105, Tryd.ntmps105
    go_wp2
    go_ret
    exact ⟨rfl, Below.refl _ _⟩
  have e1 := ne_str hab
  by_cases ha0 : a.size = 0
  · rw [size_nil ha0]
    rw [size_nil ha0] at hab
    rw [pres_no_a hab]
    have e2 := empty_str a ha0
    clear hab
    go_enter Tryd.func105, Tryd.ntmps105
    go_wp2
    go_ret
    exact ⟨rfl, Below.refl _ _⟩
  have e2 := (empty_no (s := a) (by omega)).1
  by_cases hb0 : b.size = 0
  · rw [size_nil hb0]
    rw [size_nil hb0] at hab
    rw [pres_no_b hab]
    have e3 := empty_str b hb0
    clear hab
    go_enter Tryd.func105, Tryd.ntmps105
    go_wp2
    go_ret
    exact ⟨rfl, Below.refl _ _⟩
  have e3 := (empty_no (s := b) (by omega)).1
  rw [pres_row hab (fun h => ha0 (nil_size h)) (fun h => hb0 (nil_size h))]
  clear hab
  have HLE : Hid (∀ q ∈ splitL a.data.toList 46, q.length ≤ 1048576) := fun q hq => by have := piece_le hq; rw [len_size] at this; omega
  have HLF : Hid (∀ q ∈ splitL b.data.toList 46, q.length ≤ 1048576) := fun q hq => by have := piece_le hq; rw [len_size] at this; omega
  have hn := split_len_le a.data.toList 46
  rw [len_size] at hn
  have hm := split_len_le b.data.toList 46
  rw [len_size] at hm
  have hsa := fun W => rsplit_any a 46 W ha
  have hsb := fun W => rsplit_any b 46 W hb
  generalize splitL a.data.toList 46 = ps at *
  generalize splitL b.data.toList 46 = qs at *
  generalize hR : rowI ps qs = R at *
  have HR := Lib.hid hR
  clear hR
  go_enter Tryd.func105, Tryd.ntmps105
  go_wp2_with fail
  refine (hsa _).mono ?_
  rintro e w1 ⟨⟨v, rfl, hown⟩, hb1⟩
  obtain ⟨A, c, rfl, hrd⟩ := rd_own hown
  clear hown
  go_wp2_with fail
  refine (hsb _).mono ?_
  rintro e w2 ⟨⟨v, rfl, hown⟩, hb2⟩
  obtain ⟨A', c', rfl, hrd'⟩ := rd_own hown
  have HRD := Lib.hid (rd_below hrd hb2)
  have HRD' := Lib.hid hrd'
  have hbB := hb1.trans (hb2.mono hb1.size)
  clear hown hrd hrd' hb1 hb2 hsa hsb
  generalize hN : ps.length = n at *
  generalize hM : qs.length = m at *
  go_wp2_with fail
  go_loopw [7, 8] (fun i _ wr => ∃ j : Nat, j ≤ n ∧ j ≤ m ∧ i = .int .i64 j ∧ Hid (rowI (ps.drop j) (qs.drop j) = R) ∧ ∃ q, wr = w2.drewN q) (fun i _ _ => n - (intOf i).toNat)
  case atStart => exact ⟨0, by omega, by omega, rfl, HR, 0, rfl⟩
  case round =>
    obtain ⟨j, hj, hj', rfl, HJ, q, rfl⟩ := hrel
    by_cases hlt : j < n ∧ j < m
    · obtain ⟨hl1, hl2⟩ := hlt
      obtain ⟨k, off, p, rfl, hk0, hpj, hc0⟩ := rds_cell HRD.out hl1
      obtain ⟨k', off', p', rfl, hk0', hpj', hc0'⟩ := rds_cell HRD'.out hl2
      have HST := Lib.hid (row_step hpj hpj')
      obtain ⟨t, ht, hpt, hts⟩ := piece_of hpj HLE.out
      obtain ⟨t', ht', hpt', hts'⟩ := piece_of hpj' HLF.out
      rw [← ht] at hc0
      rw [← ht'] at hc0'
      have hone := fun W => rone_any t t' W (by unfold maxLen; omega) (by unfold maxLen; omega)
      rw [hpt, hpt'] at hone
      clear hpj hpj' ht ht' hpt hpt'
      have i1 : (j : Int) < (n : Int) := by omega
      have i2 : (j : Int) < (m : Int) := by omega
      have HST := HST.out
      rw [HJ.out] at HST
      generalize oneI p p' = r at *
      have HST := Lib.hid HST
      by_cases hr0 : r = 0
      · subst hr0
        go_wp2_with fail
        go_quiet ((go_at_call 107; exact quiet_add_left (hone _)))
        go_wp2_with fail
        go_roundw
        case rel => exact ⟨j + 1, by omega, by omega, by go_num, (by have := HST.out; simp only [if_true] at this; exact this.symm), _, rfl⟩
        case measure => simp [intOf]; omega
      · have HF : Hid (R = r) := by have := HST.out; rw [if_neg hr0] at this; exact this
        have hr1 : (r == 0) = false := by simpa using hr0
        have hr2 : (r != 0) = true := by simpa using hr0
        go_wp2_with fail
        go_quiet ((go_at_call 107; exact quiet_add_left (hone _)))
        go_wp2_with fail
        go_ret
        exact ⟨ret_i64 HF.out.symm, below_drewN hbB _⟩
    · have HF : Hid (R = intsI n m) := by rw [← HJ.out, ← hN, ← hM]; exact row_end (by omega) (by omega) (by omega)
      have hi := fun W => ints_any n m W
      by_cases hl1 : j < n
      · obtain rfl : j = m := by omega
        have i1 : (j : Int) < (n : Int) := by omega
        go_wp2_with (go_at_call 93; refine (hi _).mono ?_; rintro e w3 ⟨rfl, rfl⟩)
        go_ret
        exact ⟨ret_i64 HF.out.symm, below_drewN hbB _⟩
      · obtain rfl : j = n := by omega
        go_wp2_with (go_at_call 93; refine (hi _).mono ?_; rintro e w3 ⟨rfl, rfl⟩)
        go_ret
        exact ⟨ret_i64 HF.out.symm, below_drewN hbB _⟩

theorem comp_no_a {x y : Ver} (h : mayV x = false) : compV x y = 0 := by unfold compV; rw [if_neg (fun k => by rw [h] at k; cases k.1)]
theorem comp_no_b {x y : Ver} (h : mayV y = false) : compV x y = 0 := by unfold compV; rw [if_neg (fun k => by rw [h] at k; cases k.2)]
theorem comp_yes {x y : Ver} (h : mayV x = true) (k : mayV y = true) : compV x y = orI (intsI x.maj y.maj) (orI (intsI x.min y.min) (orI (intsI x.pat y.pat) (presI x.pre y.pre))) := by unfold compV; rw [if_pos ⟨h, k⟩]
theorem or_0 (b : Int) : orI 0 b = b := rfl
theorem or_n {a : Int} (h : a ≠ 0) (b : Int) : orI a b = a := by unfold orI; rw [if_neg h]
theorem five_drewN {W : World} {b : Nat} {x0 x1 x2 x3 x4 : Value} (h : Five W b x0 x1 x2 x3 x4) (n : Nat) : Five (W.drewN n) b x0 x1 x2 x3 x4 := h

theorem two_five (w : World) (x0 x1 x2 x3 x4 y0 y1 y2 y3 y4 : Value) (t t' : TypeId) {w1 : World} {B : Nat} (hb : Below B ((w.alloc (.cells #[x0, x1, x2, x3, x4] t)).alloc (.cells #[y0, y1, y2, y3, y4] t')) w1) (hB : w.heap.size + 2 ≤ B := by simp) :
    Five w1 w.heap.size x0 x1 x2 x3 x4 ∧ Five w1 (w.heap.size + 1) y0 y1 y2 y3 y4 := by
  have r1 := (room_below (room_new w x0 x1 x2 x3 x4 t) (show w.heap.size < (w.alloc (.cells #[x0, x1, x2, x3, x4] t)).heap.size by simp) (box_below _ (.cells #[y0, y1, y2, y3, y4] t'))).1
  have r2 := (room_new (w.alloc (.cells #[x0, x1, x2, x3, x4] t)) y0 y1 y2 y3 y4 t').1
  simp only [World.size_alloc] at r2
  exact ⟨five_below r1 (by omega) hb, five_below r2 (by omega) hb⟩

set_option maxHeartbeats 4000000 in
theorem rcompare_any (a b c : Int) (p q : ByteArray) (a' b' c' : Int) (p' q' : ByteArray) (w : World) (hp : p.size ≤ 1048576) (hq : q.size ≤ 1048576) (hp' : p'.size ≤ 1048576) (hq' : q'.size ≤ 1048576) :
    Calls Tryd.prog 94 #[.agg #[.int .i64 a, .int .i64 b, .int .i64 c, .string p, .string q], .agg #[.int .i64 a', .int .i64 b', .int .i64 c', .string p', .string q']] w fun e w' => e = .returned (.int .i64 (compV (verS a b c p q) (verS a' b' c' p' q'))) ∧ Below w.heap.size w w' := by
  have m1 := fun W => rmay_any a b c p q W hp hq
  have m2 := fun W => rmay_any a' b' c' p' q' W hp' hq'
  cases hx : mayV (verS a b c p q)
  · rw [comp_no_a hx]
    rw [hx] at m1
    clear hx m2
    go_enter Tryd.func94, Tryd.ntmps94
    go_wp2_with fail
    refine (m1 _).mono ?_
    rintro e w1 ⟨rfl, hb1⟩
    have hbB := (two_below w _ _).trans (hb1.mono (by simp; omega))
    go_wp2
    go_ret
    exact ⟨rfl, hbB⟩
  cases hy : mayV (verS a' b' c' p' q')
  · rw [comp_no_b hy]
    rw [hx] at m1
    rw [hy] at m2
    clear hx hy
    go_enter Tryd.func94, Tryd.ntmps94
    go_wp2_with fail
    refine (m1 _).mono ?_
    rintro e w1 ⟨rfl, hb1⟩
    have hbB := (two_below w _ _).trans (hb1.mono (by simp; omega))
    obtain ⟨l0, l1, l2, l3, l4⟩ := (two_five w _ _ _ _ _ _ _ _ _ _ _ _ hb1).2
    go_wp2_with fail
    refine (m2 _).mono ?_
    rintro e w2 ⟨rfl, hb2⟩
    have hbB := hbB.trans (hb2.mono hbB.size)
    go_wp2
    go_ret
    exact ⟨rfl, hbB⟩
  have HC := Lib.hid (comp_yes hx hy)
  rw [hx] at m1
  rw [hy] at m2
  clear hx hy
  generalize compV (verS a b c p q) (verS a' b' c' p' q') = R at *
  go_enter Tryd.func94, Tryd.ntmps94
  go_wp2_with fail
  refine (m1 _).mono ?_
  rintro e w1 ⟨rfl, hb1⟩
  have hbB := (two_below w _ _).trans (hb1.mono (by simp; omega))
  have h5 := two_five w _ _ _ _ _ _ _ _ _ _ _ _ hb1
  have hz : w.heap.size + 2 ≤ w1.heap.size := by have := hb1.size; simp at this; omega
  clear hb1
  obtain ⟨l0, l1, l2, l3, l4⟩ := id h5.2
  go_wp2_with fail
  refine (m2 _).mono ?_
  rintro e w2 ⟨rfl, hb2⟩
  have hbB := hbB.trans (hb2.mono hbB.size)
  have k5 := five_below h5.1 (by omega) hb2
  have k6 := five_below h5.2 (by omega) hb2
  clear hb2 l0 l1 l2 l3 l4 h5
  obtain ⟨k0, k1, k2, k3, k4⟩ := id k5
  obtain ⟨l0, l1, l2, l3, l4⟩ := id k6
  clear m1 m2
  have i0 := fun W => ints_any a a' W
  have i1 := fun W => ints_any b b' W
  have i2 := fun W => ints_any c c' W
  have i3 := fun W => rpres_any p p' W hp hp'
  dsimp only [verS] at HC
  generalize intsI a a' = r0 at *
  generalize intsI b b' = r1 at *
  generalize intsI c c' = r2 at *
  generalize presI p.data.toList p'.data.toList = r3 at *
  by_cases h0 : r0 = 0
  · subst h0
    go_wp2_with fail
    refine (i0 _).mono ?_
    rintro e w3 ⟨rfl, rfl⟩
    go_wp2_with fail
    refine (i1 _).mono ?_
    rintro e w3 ⟨rfl, rfl⟩
    by_cases h1 : r1 = 0
    · subst h1
      go_wp2_with fail
      refine (i2 _).mono ?_
      rintro e w3 ⟨rfl, rfl⟩
      by_cases h2 : r2 = 0
      · subst h2
        go_wp2_with fail
        refine (i3 _).mono ?_
        rintro e w3 ⟨rfl, hb3⟩
        go_wp2
        go_ret
        exact ⟨ret_i64 (by rw [HC.out]; rfl), hbB.trans (hb3.mono hbB.size)⟩
      · have hr1 : (r2 == 0) = false := by simpa using h2
        have hr2 : (r2 != 0) = true := by simpa using h2
        go_wp2_with fail
        go_ret
        exact ⟨ret_i64 (by rw [HC.out]; exact (or_n h2 _).symm), hbB⟩
    · have hr1 : (r1 == 0) = false := by simpa using h1
      have hr2 : (r1 != 0) = true := by simpa using h1
      go_wp2_with fail
      go_ret
      exact ⟨ret_i64 (by rw [HC.out]; exact (or_n h1 _).symm), hbB⟩
  · have hr1 : (r0 == 0) = false := by simpa using h0
    have hr2 : (r0 != 0) = true := by simpa using h0
    go_wp2_with fail
    refine (i0 _).mono ?_
    rintro e w3 ⟨rfl, rfl⟩
    go_wp2_with fail
    go_ret
    exact ⟨ret_i64 (by rw [HC.out]; exact (or_n h0 _).symm), hbB⟩
end Go.Proofs.YthaagngoefieaaaDoor
end

/-
  Versions held against each other by '=='. Conditions: none.
-/
section
namespace Go.Proofs.YthaagngoefieaaaDoor
open Go.ChangeShapes Go.WideShapes Go.ChangeAt Go.RowKit
set_option linter.unusedVariables false

/-- Are five fields the same? -/
def eqV (a b c : Int) (p q : ByteArray) (a' b' c' : Int) (p' q' : ByteArray) : Bool :=
  (a == a') && ((b == b') && ((c == c') && ((p.toList == p'.toList) && (q.toList == q'.toList))))
theorem run_eqV (a b c : Int) (p q : ByteArray) (a' b' c' : Int) (p' q' : ByteArray) (W : World) :
    (binOp .eql 24 (.agg #[.int .i64 a, .int .i64 b, .int .i64 c, .string p, .string q]) (.agg #[.int .i64 a', .int .i64 b', .int .i64 c', .string p', .string q'])).run Tryd.prog W = .ok (.bool (eqV a b c p q a' b' c' p' q')) W := by
  unfold eqV
  cases h0 : (a == a')
  · go_simp
  cases h1 : (b == b')
  · go_simp
  cases h2 : (c == c')
  · go_simp
  cases h3 : (p.toList == p'.toList)
  · go_simp
  cases h4 : (q.toList == q'.toList)
  · go_simp
  · go_simp
theorem run_neV (a b c : Int) (p q : ByteArray) (a' b' c' : Int) (p' q' : ByteArray) (W : World) :
    (binOp .neq 24 (.agg #[.int .i64 a, .int .i64 b, .int .i64 c, .string p, .string q]) (.agg #[.int .i64 a', .int .i64 b', .int .i64 c', .string p', .string q'])).run Tryd.prog W = .ok (.bool (!eqV a b c p q a' b' c' p' q')) W := by
  unfold eqV
  cases h0 : (a == a')
  · go_simp
  cases h1 : (b == b')
  · go_simp
  cases h2 : (c == c')
  · go_simp
  cases h3 : (p.toList == p'.toList)
  · go_simp
  cases h4 : (q.toList == q'.toList)
  · go_simp
  · go_simp
theorem bytes_beq (p q : ByteArray) : (p.toList == q.toList) = decide (p.data.toList = q.data.toList) := by
  rw [Lib.toList_data, Lib.toList_data]
  by_cases h : p.data.toList = q.data.toList
  · rw [h]; simp
  · rw [decide_eq_false h]; simpa using h
theorem eqV_ver (a b c : Int) (p q : ByteArray) (a' b' c' : Int) (p' q' : ByteArray) : eqV a b c p q a' b' c' p' q' = decide (verS a b c p q = verS a' b' c' p' q') := by
  unfold eqV
  rw [bytes_beq, bytes_beq, Bool.eq_iff_iff]
  simp [verS]
theorem bytes_ext {p q : ByteArray} (h : p.data.toList = q.data.toList) : p = q := by
  rw [← back p, h, back]
end Go.Proofs.YthaagngoefieaaaDoor
end

/-
  What the walk of chapter 2's Compare takes: cmp.Or of three numbers, ten cells kept, the order's plain steps. Conditions: none.
-/
section
namespace Go.Proofs.YthaagngoefieaaaDoor
open Go.ChangeShapes Go.WideShapes Go.ChangeAt Go.RowKit
set_option linter.unusedVariables false

set_option maxHeartbeats 1000000 in
theorem or_any (x y z : Int) (b c : Nat) (w : World) (h0 : w.cell? ⟨b, 0, none⟩ = some (.int .i64 x)) (h1 : w.cell? ⟨b, 1, none⟩ = some (.int .i64 y)) (h2 : w.cell? ⟨b, 2, none⟩ = some (.int .i64 z)) :
    Calls Tryd.prog 48 #[.slice (some ⟨b, 0, none⟩) 3 c] w fun e w' => e = .returned (.int .i64 (orI x (orI y z))) ∧ w = w' := by
  have HR : Hid (∀ R : Int, R = orI x (orI y z) → R = orI x (orI y z)) := fun _ h => h
  generalize hR : orI x (orI y z) = R
  have HE := Lib.hid hR
  clear hR HR
  go_enter Tryd.func48, Tryd.ntmps48
  go_wp2
  go_loop [5, 8] (fun _ i => ∃ j : Nat, j ≤ 3 ∧ i = .int .i64 j ∧ (0 < j → x = 0) ∧ (1 < j → y = 0) ∧ (2 < j → z = 0)) (fun _ i => 3 - (intOf i).toNat)
  case atStart => exact ⟨0, by omega, rfl, by simp, by simp, by simp⟩
  case round =>
    obtain ⟨j, hj, rfl, q0, q1, q2⟩ := hrel
    have hj4 : j = 0 ∨ j = 1 ∨ j = 2 ∨ j = 3 := by omega
    rcases hj4 with rfl | rfl | rfl | rfl
    · by_cases hx : x = 0
      · subst hx
        go_wp2
        go_round
        case rel => exact ⟨1, by omega, by go_num, by simp, by simp, by simp⟩
        case measure => simp [intOf]
      · have hr : (x != 0) = true := by simpa using hx
        go_wp2
        go_ret
        exact ⟨ret_i64 (by have h := HE.out; unfold orI at h; simpa [hx] using h), rfl⟩
    · have e0 := q0 (by omega)
      subst e0
      by_cases hx : y = 0
      · subst hx
        go_wp2
        go_round
        case rel => exact ⟨2, by omega, by go_num, by simp, by simp, by simp⟩
        case measure => simp [intOf]
      · have hr : (y != 0) = true := by simpa using hx
        go_wp2
        go_ret
        exact ⟨ret_i64 (by have h := HE.out; unfold orI at h; simpa [hx] using h), rfl⟩
    · have e0 := q0 (by omega)
      subst e0
      have e1 := q1 (by omega)
      subst e1
      by_cases hx : z = 0
      · subst hx
        go_wp2
        go_round
        case rel => exact ⟨3, by omega, by go_num, by simp, by simp, by simp⟩
        case measure => simp [intOf]
      · have hr : (z != 0) = true := by simpa using hx
        go_wp2
        go_ret
        exact ⟨ret_i64 (by have h := HE.out; unfold orI at h; simpa [hx] using h), rfl⟩
    · have e0 := q0 (by omega)
      have e1 := q1 (by omega)
      have e2 := q2 (by omega)
      subst e0 e1 e2
      go_wp2
      go_ret
      exact ⟨ret_i64 HE.out, rfl⟩

theorem ten_keep {w W W' : World} {x0 x1 x2 x3 x4 y0 y1 y2 y3 y4 : Value} (hb : Below W.heap.size W W')
    (h : W.cell? ⟨w.heap.size, 0, none⟩ = some x0 ∧ W.cell? ⟨w.heap.size, 1, none⟩ = some x1 ∧ W.cell? ⟨w.heap.size, 2, none⟩ = some x2 ∧ W.cell? ⟨w.heap.size, 3, none⟩ = some x3 ∧ W.cell? ⟨w.heap.size, 4, none⟩ = some x4 ∧
      W.cell? ⟨w.heap.size + 1, 0, none⟩ = some y0 ∧ W.cell? ⟨w.heap.size + 1, 1, none⟩ = some y1 ∧ W.cell? ⟨w.heap.size + 1, 2, none⟩ = some y2 ∧ W.cell? ⟨w.heap.size + 1, 3, none⟩ = some y3 ∧ W.cell? ⟨w.heap.size + 1, 4, none⟩ = some y4 ∧ w.heap.size + 1 < W.heap.size ∧ Below w.heap.size w W) :
    W'.cell? ⟨w.heap.size, 0, none⟩ = some x0 ∧ W'.cell? ⟨w.heap.size, 1, none⟩ = some x1 ∧ W'.cell? ⟨w.heap.size, 2, none⟩ = some x2 ∧ W'.cell? ⟨w.heap.size, 3, none⟩ = some x3 ∧ W'.cell? ⟨w.heap.size, 4, none⟩ = some x4 ∧
      W'.cell? ⟨w.heap.size + 1, 0, none⟩ = some y0 ∧ W'.cell? ⟨w.heap.size + 1, 1, none⟩ = some y1 ∧ W'.cell? ⟨w.heap.size + 1, 2, none⟩ = some y2 ∧ W'.cell? ⟨w.heap.size + 1, 3, none⟩ = some y3 ∧ W'.cell? ⟨w.heap.size + 1, 4, none⟩ = some y4 ∧ w.heap.size + 1 < W'.heap.size ∧ Below w.heap.size w W' := by
  obtain ⟨h0, h1, h2, h3, h4, g0, g1, g2, g3, g4, hlt, hB⟩ := h
  obtain ⟨a0, a1, a2, a3, a4⟩ := five_below ⟨h0, h1, h2, h3, h4⟩ (show w.heap.size < W.heap.size by omega) hb
  obtain ⟨b0, b1, b2, b3, b4⟩ := five_below ⟨g0, g1, g2, g3, g4⟩ hlt hb
  exact ⟨a0, a1, a2, a3, a4, b0, b1, b2, b3, b4, Nat.lt_of_lt_of_le hlt hb.size, hB.trans (hb.mono hB.size)⟩

/-- Two boxed versions, read in a later world. -/
def Ten (w W : World) (x0 x1 x2 x3 x4 y0 y1 y2 y3 y4 : Value) : Prop :=
  W.cell? ⟨w.heap.size, 0, none⟩ = some x0 ∧ W.cell? ⟨w.heap.size, 1, none⟩ = some x1 ∧ W.cell? ⟨w.heap.size, 2, none⟩ = some x2 ∧ W.cell? ⟨w.heap.size, 3, none⟩ = some x3 ∧ W.cell? ⟨w.heap.size, 4, none⟩ = some x4 ∧
      W.cell? ⟨w.heap.size + 1, 0, none⟩ = some y0 ∧ W.cell? ⟨w.heap.size + 1, 1, none⟩ = some y1 ∧ W.cell? ⟨w.heap.size + 1, 2, none⟩ = some y2 ∧ W.cell? ⟨w.heap.size + 1, 3, none⟩ = some y3 ∧ W.cell? ⟨w.heap.size + 1, 4, none⟩ = some y4 ∧ w.heap.size + 1 < W.heap.size ∧ Below w.heap.size w W
theorem ten_next {w W W' : World} {x0 x1 x2 x3 x4 y0 y1 y2 y3 y4 : Value} (hb : Below W.heap.size W W') (h : Ten w W x0 x1 x2 x3 x4 y0 y1 y2 y3 y4) :
    Ten w W' x0 x1 x2 x3 x4 y0 y1 y2 y3 y4 ∧ W'.cell? ⟨w.heap.size, 0, none⟩ = some x0 ∧ W'.cell? ⟨w.heap.size, 1, none⟩ = some x1 ∧ W'.cell? ⟨w.heap.size, 2, none⟩ = some x2 ∧ W'.cell? ⟨w.heap.size, 3, none⟩ = some x3 ∧ W'.cell? ⟨w.heap.size, 4, none⟩ = some x4 ∧
      W'.cell? ⟨w.heap.size + 1, 0, none⟩ = some y0 ∧ W'.cell? ⟨w.heap.size + 1, 1, none⟩ = some y1 ∧ W'.cell? ⟨w.heap.size + 1, 2, none⟩ = some y2 ∧ W'.cell? ⟨w.heap.size + 1, 3, none⟩ = some y3 ∧ W'.cell? ⟨w.heap.size + 1, 4, none⟩ = some y4 ∧ w.heap.size + 1 < W'.heap.size ∧ Below w.heap.size w W' :=
  ⟨ten_keep hb h, ten_keep hb h⟩
theorem still_same {P : Program} {f : FuncId} {args : Array Value} {w : World} {v : Value} (h : Calls P f args w fun e w' => e = .returned v ∧ w = w') : Calls P f args w fun e w' => e = .returned v ∧ w' = w :=
  h.mono fun _ _ h => ⟨h.1, h.2.symm⟩
theorem or_or (i j k r : Int) : orI i (orI j (orI k r)) = orI (orI i (orI j k)) r := by
  unfold orI
  by_cases h1 : i = 0 <;> by_cases h2 : j = 0 <;> by_cases h3 : k = 0 <;> simp [h1, h2, h3]
theorem ints_zero {a b : Int} (h : intsI a b = 0) : a = b := by
  unfold intsI at h
  split at h
  · simp at h
  · split at h
    · simp at h
    · omega
theorem ints_same (a : Int) : intsI a a = 0 := by unfold intsI; rw [if_neg (by omega), if_neg (by omega)]
theorem or_zero {i j k : Int} (h : orI i (orI j k) = 0) : i = 0 ∧ j = 0 ∧ k = 0 := by
  unfold orI at h
  split at h
  · split at h
    · exact ⟨by assumption, by assumption, h⟩
    · exact absurd h (by assumption)
  · exact absurd h (by assumption)
theorem comp_core {a b c : Int} {p q : ByteArray} {a' b' c' : Int} {p' q' : ByteArray} (h : eqV a b c p ⟨#[]⟩ a' b' c' p' ⟨#[]⟩ = true) : compV (verS a b c p q) (verS a' b' c' p' q') = 0 := by
  rw [eqV_ver] at h
  have h := of_decide_eq_true h
  simp only [verS, Ver.mk.injEq] at h
  obtain ⟨rfl, rfl, rfl, h, _⟩ := h
  unfold compV verS
  split
  · dsimp only
    rw [h, ints_same, ints_same, ints_same, pres_same rfl]; rfl
  · rfl
/-- Where the cores differ and the numbers are the same, the Pres differ. -/
theorem core_pre {a b c : Int} {p : ByteArray} {a' b' c' : Int} {p' : ByteArray} (h : eqV a b c p ⟨#[]⟩ a' b' c' p' ⟨#[]⟩ = false) (h0 : orI (intsI a a') (orI (intsI b b') (intsI c c')) = 0) : p.data.toList ≠ p'.data.toList := by
  rw [eqV_ver] at h
  have h := of_decide_eq_false h
  obtain ⟨h1, h2, h3⟩ := or_zero h0
  intro e
  apply h
  rw [ints_zero h1, ints_zero h2, ints_zero h3]
  unfold verS
  rw [e]
end Go.Proofs.YthaagngoefieaaaDoor
end

/-
  The walk of chapter 2's Compare, the program's. Conditions: Pre and Build have at most 1048576 bytes.
-/
section
namespace Go.Proofs.YthaagngoefieaaaDoor
open Go.ChangeShapes Go.WideShapes Go.ChangeAt Go.RowKit
set_option linter.unusedVariables false

set_option maxHeartbeats 4000000 in
theorem compare_n0 (a b c : Int) (p q : ByteArray) (a' b' c' : Int) (p' q' : ByteArray) (w : World) (hp : p.size ≤ 1048576) (hq : q.size ≤ 1048576) (hp' : p'.size ≤ 1048576) (hq' : q'.size ≤ 1048576) (hx : mayV (verS a b c p q) = false) :
    Calls Tryd.prog 20 #[.agg #[.int .i64 a, .int .i64 b, .int .i64 c, .string p, .string q], .agg #[.int .i64 a', .int .i64 b', .int .i64 c', .string p', .string q']] w fun e w' => e = .returned (.int .i64 0) ∧ Below w.heap.size w w' := by
  have m1 := fun W => may_any a b c p q W hp hq
  rw [hx] at m1
  clear hx
  go_enter Tryd.func20, Tryd.ntmps20
  go_wp2
  generalize hwb : (w.alloc (.cells #[.int .i64 a, .int .i64 b, .int .i64 c, .string p, .string q] 24)).alloc (.cells #[.int .i64 a', .int .i64 b', .int .i64 c', .string p', .string q'] 24) = wb
  have hbb : Below w.heap.size w wb := by rw [← hwb]; exact two_below _ _ _
  have hlb : w.heap.size + 1 < wb.heap.size := by rw [← hwb]; simp
  have h55 := two_five w (.int .i64 a) (.int .i64 b) (.int .i64 c) (.string p) (.string q) (.int .i64 a') (.int .i64 b') (.int .i64 c') (.string p') (.string q') 24 24 (w1 := wb) (B := w.heap.size + 2) (by rw [hwb]; exact Below.refl _ _) (Nat.le_refl _)
  clear hwb
  obtain ⟨⟨k0, k1, k2, k3, k4⟩, ⟨l0, l1, l2, l3, l4⟩⟩ := h55
  have hB2 : Below w.heap.size w wb.drew := below_drewN hbb 1
  have hT : Ten w wb.drew (.int .i64 a) (.int .i64 b) (.int .i64 c) (.string p) (.string q) (.int .i64 a') (.int .i64 b') (.int .i64 c') (.string p') (.string q') := ⟨k0, k1, k2, k3, k4, l0, l1, l2, l3, l4, hlb, hB2⟩
  go_region_with (first | (go_at_call 41; (with_reducible refine (m1 _).mono ?_); rintro e w' ⟨rfl, hb'⟩; obtain ⟨hT, k0, k1, k2, k3, k4, l0, l1, l2, l3, l4, hlt, hB⟩ := ten_next hb' hT))
  all_goals
    go_wp2_with fail
    go_ret
    exact ⟨rfl, by first | assumption | exact hB2.trans (by assumption)⟩

set_option maxHeartbeats 4000000 in
theorem compare_n1 (a b c : Int) (p q : ByteArray) (a' b' c' : Int) (p' q' : ByteArray) (w : World) (hp : p.size ≤ 1048576) (hq : q.size ≤ 1048576) (hp' : p'.size ≤ 1048576) (hq' : q'.size ≤ 1048576) (hx : mayV (verS a b c p q) = true) (hy : mayV (verS a' b' c' p' q') = false) :
    Calls Tryd.prog 20 #[.agg #[.int .i64 a, .int .i64 b, .int .i64 c, .string p, .string q], .agg #[.int .i64 a', .int .i64 b', .int .i64 c', .string p', .string q']] w fun e w' => e = .returned (.int .i64 0) ∧ Below w.heap.size w w' := by
  have m1 := fun W => may_any a b c p q W hp hq
  have m2 := fun W => may_any a' b' c' p' q' W hp' hq'
  rw [hx] at m1
  rw [hy] at m2
  clear hx hy
  go_enter Tryd.func20, Tryd.ntmps20
  go_wp2
  generalize hwb : (w.alloc (.cells #[.int .i64 a, .int .i64 b, .int .i64 c, .string p, .string q] 24)).alloc (.cells #[.int .i64 a', .int .i64 b', .int .i64 c', .string p', .string q'] 24) = wb
  have hbb : Below w.heap.size w wb := by rw [← hwb]; exact two_below _ _ _
  have hlb : w.heap.size + 1 < wb.heap.size := by rw [← hwb]; simp
  have h55 := two_five w (.int .i64 a) (.int .i64 b) (.int .i64 c) (.string p) (.string q) (.int .i64 a') (.int .i64 b') (.int .i64 c') (.string p') (.string q') 24 24 (w1 := wb) (B := w.heap.size + 2) (by rw [hwb]; exact Below.refl _ _) (Nat.le_refl _)
  clear hwb
  obtain ⟨⟨k0, k1, k2, k3, k4⟩, ⟨l0, l1, l2, l3, l4⟩⟩ := h55
  have hB2 : Below w.heap.size w wb.drew := below_drewN hbb 1
  have hT : Ten w wb.drew (.int .i64 a) (.int .i64 b) (.int .i64 c) (.string p) (.string q) (.int .i64 a') (.int .i64 b') (.int .i64 c') (.string p') (.string q') := ⟨k0, k1, k2, k3, k4, l0, l1, l2, l3, l4, hlb, hB2⟩
  go_region_with (first | (go_at_call 41; (with_reducible refine (m1 _).mono ?_); rintro e w' ⟨rfl, hb'⟩; obtain ⟨hT, k0, k1, k2, k3, k4, l0, l1, l2, l3, l4, hlt, hB⟩ := ten_next hb' hT) | (go_at_call 41; (with_reducible refine (m2 _).mono ?_); rintro e w' ⟨rfl, hb'⟩; obtain ⟨hT, k0, k1, k2, k3, k4, l0, l1, l2, l3, l4, hlt, hB⟩ := ten_next hb' hT))
  all_goals
    go_wp2_with fail
    go_ret
    exact ⟨rfl, by first | assumption | exact hB2.trans (by assumption)⟩

set_option maxHeartbeats 4000000 in
theorem compare_core (a b c : Int) (p q : ByteArray) (a' b' c' : Int) (p' q' : ByteArray) (w : World) (hp : p.size ≤ 1048576) (hq : q.size ≤ 1048576) (hp' : p'.size ≤ 1048576) (hq' : q'.size ≤ 1048576) (hx : mayV (verS a b c p q) = true) (hy : mayV (verS a' b' c' p' q') = true) (he : eqV a b c p ⟨#[]⟩ a' b' c' p' ⟨#[]⟩ = true) :
    Calls Tryd.prog 20 #[.agg #[.int .i64 a, .int .i64 b, .int .i64 c, .string p, .string q], .agg #[.int .i64 a', .int .i64 b', .int .i64 c', .string p', .string q']] w fun e w' => e = .returned (.int .i64 0) ∧ Below w.heap.size w w' := by
  have m1 := fun W => may_any a b c p q W hp hq
  have m2 := fun W => may_any a' b' c' p' q' W hp' hq'
  rw [hx] at m1
  rw [hy] at m2
  have heq : ∀ W, (binOp .eql 24 (.agg #[.int .i64 a, .int .i64 b, .int .i64 c, .string p, .string ⟨#[]⟩]) (.agg #[.int .i64 a', .int .i64 b', .int .i64 c', .string p', .string ⟨#[]⟩])).run Tryd.prog W = .ok (.bool true) W := fun W => by rw [run_eqV, he]
  clear hx hy he
  go_enter Tryd.func20, Tryd.ntmps20
  go_wp2
  generalize hwb : (w.alloc (.cells #[.int .i64 a, .int .i64 b, .int .i64 c, .string p, .string q] 24)).alloc (.cells #[.int .i64 a', .int .i64 b', .int .i64 c', .string p', .string q'] 24) = wb
  have hbb : Below w.heap.size w wb := by rw [← hwb]; exact two_below _ _ _
  have hlb : w.heap.size + 1 < wb.heap.size := by rw [← hwb]; simp
  have h55 := two_five w (.int .i64 a) (.int .i64 b) (.int .i64 c) (.string p) (.string q) (.int .i64 a') (.int .i64 b') (.int .i64 c') (.string p') (.string q') 24 24 (w1 := wb) (B := w.heap.size + 2) (by rw [hwb]; exact Below.refl _ _) (Nat.le_refl _)
  clear hwb
  obtain ⟨⟨k0, k1, k2, k3, k4⟩, ⟨l0, l1, l2, l3, l4⟩⟩ := h55
  have hB2 : Below w.heap.size w wb.drew := below_drewN hbb 1
  have hT : Ten w wb.drew (.int .i64 a) (.int .i64 b) (.int .i64 c) (.string p) (.string q) (.int .i64 a') (.int .i64 b') (.int .i64 c') (.string p') (.string q') := ⟨k0, k1, k2, k3, k4, l0, l1, l2, l3, l4, hlb, hB2⟩
  go_region_with (first | (go_at_call 41; (with_reducible refine (m1 _).mono ?_); rintro e w' ⟨rfl, hb'⟩; obtain ⟨hT, k0, k1, k2, k3, k4, l0, l1, l2, l3, l4, hlt, hB⟩ := ten_next hb' hT) | (go_at_call 41; (with_reducible refine (m2 _).mono ?_); rintro e w' ⟨rfl, hb'⟩; obtain ⟨hT, k0, k1, k2, k3, k4, l0, l1, l2, l3, l4, hlt, hB⟩ := ten_next hb' hT) | (go_at_call 47; refine (core_any _ _ _ _ _ _).mono ?_; rintro e w' ⟨rfl, hb'⟩; obtain ⟨hT, k0, k1, k2, k3, k4, l0, l1, l2, l3, l4, hlt, hB⟩ := ten_next hb' hT))
  all_goals
    go_wp2_with fail
    go_ret
    exact ⟨rfl, by first | assumption | exact hB2.trans (by assumption)⟩
end Go.Proofs.YthaagngoefieaaaDoor
end

/-
  The walk of chapter 2's Compare, the program's: versions that may be, with cores that differ; and the whole. Conditions: Pre and Build have at most 1048576 bytes.
-/
section
namespace Go.Proofs.YthaagngoefieaaaDoor
open Go.ChangeShapes Go.WideShapes Go.ChangeAt Go.RowKit
set_option linter.unusedVariables false

theorem ten_drew {w W : World} {x0 x1 x2 x3 x4 y0 y1 y2 y3 y4 : Value} (h : Ten w W x0 x1 x2 x3 x4 y0 y1 y2 y3 y4) : Ten w W.drew x0 x1 x2 x3 x4 y0 y1 y2 y3 y4 :=
  ⟨h.1, h.2.1, h.2.2.1, h.2.2.2.1, h.2.2.2.2.1, h.2.2.2.2.2.1, h.2.2.2.2.2.2.1, h.2.2.2.2.2.2.2.1, h.2.2.2.2.2.2.2.2.1, h.2.2.2.2.2.2.2.2.2.1, h.2.2.2.2.2.2.2.2.2.2.1, below_drewN h.2.2.2.2.2.2.2.2.2.2.2 1⟩
theorem rd_more {w : World} {B B' n : Nat} {A : Option Addr} {xs : List Value} (h : Rd w B A n xs) (hB : B ≤ B') : Rd w B' A n xs := by
  refine ⟨h.1, fun hn => ?_⟩
  obtain ⟨b, off, e, hlt, hc⟩ := h.2 hn
  exact ⟨b, off, e, by omega, hc⟩
/-- Two lists of texts in memory. -/
def Splitted (w W : World) (x y : Value) (ps qs : List (List UInt8)) : Prop :=
  ∃ A c A' c', x = .slice A ps.length c ∧ y = .slice A' qs.length c' ∧ Rd W W.heap.size A ps.length (BS ps) ∧ Rd W W.heap.size A' qs.length (BS qs) ∧ Below w.heap.size w W

set_option maxRecDepth 8192 in
set_option maxHeartbeats 8000000 in
theorem compare_main (a b c : Int) (p q : ByteArray) (a' b' c' : Int) (p' q' : ByteArray) (w : World) (hp : p.size ≤ 1048576) (hq : q.size ≤ 1048576) (hp' : p'.size ≤ 1048576) (hq' : q'.size ≤ 1048576) (hx : mayV (verS a b c p q) = true) (hy : mayV (verS a' b' c' p' q') = true) (he : eqV a b c p ⟨#[]⟩ a' b' c' p' ⟨#[]⟩ = false) :
    Calls Tryd.prog 20 #[.agg #[.int .i64 a, .int .i64 b, .int .i64 c, .string p, .string q], .agg #[.int .i64 a', .int .i64 b', .int .i64 c', .string p', .string q']] w fun e w' => e = .returned (.int .i64 (compV (verS a b c p q) (verS a' b' c' p' q'))) ∧ Below w.heap.size w w' := by
  have m1 := fun W => may_any a b c p q W hp hq
  have m2 := fun W => may_any a' b' c' p' q' W hp' hq'
  have HC := Lib.hid (comp_yes hx hy)
  have HPRE := Lib.hid (core_pre he)
  rw [hx] at m1
  rw [hy] at m2
  have heq : ∀ W, (binOp .eql 24 (.agg #[.int .i64 a, .int .i64 b, .int .i64 c, .string p, .string ⟨#[]⟩]) (.agg #[.int .i64 a', .int .i64 b', .int .i64 c', .string p', .string ⟨#[]⟩])).run Tryd.prog W = .ok (.bool false) W := fun W => by rw [run_eqV, he]
  clear hx hy he
  generalize compV (verS a b c p q) (verS a' b' c' p' q') = R at *
  dsimp only [verS] at HC
  go_enter Tryd.func20, Tryd.ntmps20
  go_wp2
  generalize hwb : (w.alloc (.cells #[.int .i64 a, .int .i64 b, .int .i64 c, .string p, .string q] 24)).alloc (.cells #[.int .i64 a', .int .i64 b', .int .i64 c', .string p', .string q'] 24) = wb
  have hbb : Below w.heap.size w wb := by rw [← hwb]; exact two_below _ _ _
  have hlb : w.heap.size + 1 < wb.heap.size := by rw [← hwb]; simp
  have h55 := two_five w (.int .i64 a) (.int .i64 b) (.int .i64 c) (.string p) (.string q) (.int .i64 a') (.int .i64 b') (.int .i64 c') (.string p') (.string q') 24 24 (w1 := wb) (B := w.heap.size + 2) (by rw [hwb]; exact Below.refl _ _) (Nat.le_refl _)
  clear hwb
  obtain ⟨⟨k0, k1, k2, k3, k4⟩, ⟨l0, l1, l2, l3, l4⟩⟩ := h55
  have hB2 : Below w.heap.size w wb.drew := below_drewN hbb 1
  go_cut [24] from 10 to 24 (fun v wx => v = .bool false ∧ Ten w wx (.int .i64 a) (.int .i64 b) (.int .i64 c) (.string p) (.string q) (.int .i64 a') (.int .i64 b') (.int .i64 c') (.string p') (.string q'))
  case first =>
    have hT : Ten w wb.drew (.int .i64 a) (.int .i64 b) (.int .i64 c) (.string p) (.string q) (.int .i64 a') (.int .i64 b') (.int .i64 c') (.string p') (.string q') := ⟨k0, k1, k2, k3, k4, l0, l1, l2, l3, l4, hlb, hB2⟩
    go_region_with (first | (go_at_call 41; (with_reducible refine (m1 _).mono ?_); rintro e w' ⟨rfl, hb'⟩; obtain ⟨hT, k0, k1, k2, k3, k4, l0, l1, l2, l3, l4, hlt, hB⟩ := ten_next hb' hT) | (go_at_call 41; (with_reducible refine (m2 _).mono ?_); rintro e w' ⟨rfl, hb'⟩; obtain ⟨hT, k0, k1, k2, k3, k4, l0, l1, l2, l3, l4, hlt, hB⟩ := ten_next hb' hT) | (go_at_call 47; refine (core_any _ _ _ _ _ _).mono ?_; rintro e w' ⟨rfl, hb'⟩; obtain ⟨hT, k0, k1, k2, k3, k4, l0, l1, l2, l3, l4, hlt, hB⟩ := ten_next hb' hT))
    all_goals
      go_wp2_with fail
      go_meet
      exact ⟨rfl, by assumption⟩
  case rest =>
    obtain ⟨rfl, hT⟩ := hcut
    clear heq m1 m2 k0 k1 k2 k3 k4 l0 l1 l2 l3 l4 hB2 hbb hlb
    obtain ⟨k0, k1, k2, k3, k4, l0, l1, l2, l3, l4, hlb, hbb⟩ := id hT
    have c0 := fun W => still_same (cmp_any a a' W)
    have c1 := fun W => still_same (cmp_any b b' W)
    have c2 := fun W => still_same (cmp_any c c' W)
    generalize intsI a a' = r0 at *
    generalize intsI b b' = r1 at *
    generalize intsI c c' = r2 at *
    go_wp2_with fail
    refine wp_region_still_tail 15 (by kernel_rfl) (by kernel_rfl) ?_
    simp only [List.take_succ_cons, List.take_zero, List.drop_succ_cons, List.drop_zero]
    iterate 4 still_step
    still_call (c0 _)
    iterate 4 still_step
    still_call (c1 _)
    iterate 4 still_step
    still_call (c2 _)
    refine wpStill_nil ?_
    change wpList _ _ _ _ _ wc.drew
    have hT2 : Ten w wc.drew (.int .i64 a) (.int .i64 b) (.int .i64 c) (.string p) (.string q) (.int .i64 a') (.int .i64 b') (.int .i64 c') (.string p') (.string q') := ten_drew hT
    clear hT k0 k1 k2 k3 k4 l0 l1 l2 l3 l4 hlb hbb c0 c1 c2
    generalize wc.drew = wd at *
    go_wp2_with fail
    refine (or_any r0 r1 r2 _ _ _ (by simp [go_sem]) (by simp [go_sem]) (by simp [go_sem])).mono ?_
    rintro e w3 ⟨rfl, rfl⟩
    obtain ⟨hT3, k0, k1, k2, k3, k4, l0, l1, l2, l3, l4, hlb, hbb⟩ := ten_next (box_below wd (.cells #[.int .i64 r0, .int .i64 r1, .int .i64 r2] 3)) hT2
    clear hT2
    generalize wd.alloc (.cells #[.int .i64 r0, .int .i64 r1, .int .i64 r2] 3) = we at *
    have HC2 : Hid (R = orI (orI r0 (orI r1 r2)) (presI p.data.toList p'.data.toList)) := HC.out.trans (or_or _ _ _ _)
    clear HC
    generalize orI r0 (orI r1 r2) = r at *
    by_cases h0 : r = 0
    · have hne := HPRE.out h0
      have HR : Hid (R = presI p.data.toList p'.data.toList) := by have h := HC2.out; rw [h0] at h; exact h
      have HNE := Lib.hid hne
      clear HC2 HPRE hne
      subst h0
      by_cases hp0 : p.size = 0
      · have e2 := empty_str p hp0
        have HF : Hid (R = 1) := by rw [HR.out, size_nil hp0]; exact pres_no_a (by rw [← size_nil hp0]; exact HNE.out)
        go_wp2_with fail
        go_ret
        exact ⟨ret_i64 HF.out.symm, hbb⟩
      · have e2 := (empty_no (s := p) (by omega)).1
        by_cases hq0 : p'.size = 0
        · have e3 := empty_str p' hq0
          have HF : Hid (R = -1) := by rw [HR.out, size_nil hq0]; exact pres_no_b (by rw [← size_nil hq0]; exact HNE.out)
          go_wp2_with fail
          go_ret
          exact ⟨ret_i64 HF.out.symm, hbb⟩
        · have e3 := (empty_no (s := p') (by omega)).1
          have HROW : Hid (R = rowI (splitL p.data.toList 46) (splitL p'.data.toList 46)) := HR.out.trans (pres_row HNE.out (fun h => hp0 (nil_size h)) (fun h => hq0 (nil_size h)))
          have HLE : Hid (∀ q ∈ splitL p.data.toList 46, q.length ≤ 1048576) := fun q hq => by have := piece_le hq; rw [len_size] at this; omega
          have HLF : Hid (∀ q ∈ splitL p'.data.toList 46, q.length ≤ 1048576) := fun q hq => by have := piece_le hq; rw [len_size] at this; omega
          have hn := split_len_le p.data.toList 46
          rw [len_size] at hn
          have hm := split_len_le p'.data.toList 46
          rw [len_size] at hm
          have hsa : ∀ W : World, Calls Tryd.prog 50 #[.string p, .int .u8 46] W fun e w' => (∃ v, e = .returned v ∧ w'.ownsRow W.heap.size 9 1 v (splitL p.data.toList 46).length (BS (splitL p.data.toList 46))) ∧ Below W.heap.size W w' := fun W => split_any p 46 W hp
          have hsb : ∀ W : World, Calls Tryd.prog 50 #[.string p', .int .u8 46] W fun e w' => (∃ v, e = .returned v ∧ w'.ownsRow W.heap.size 9 1 v (splitL p'.data.toList 46).length (BS (splitL p'.data.toList 46))) ∧ Below W.heap.size W w' := fun W => split_any p' 46 W hp'
          generalize splitL p.data.toList 46 = ps at *
          generalize splitL p'.data.toList 46 = qs at *
          clear HR HNE
          go_wp2_with fail
          have hTd := ten_drew hT3
          go_cut [6, 7] from 51 to 56 (fun x y wx => Splitted w wx x y ps qs)
          case first =>
            go_region_with (first
              | (go_at_call 50; (with_reducible refine (hsa _).mono ?_); rintro e wa ⟨⟨va, rfl, howna⟩, hba⟩; obtain ⟨Aa, ca, rfl, hrda⟩ := rd_own howna; obtain ⟨hTa, k0, k1, k2, k3, k4, l0, l1, l2, l3, l4, hlb, hbb⟩ := ten_next hba (by assumption))
              | (go_at_call 50; (with_reducible refine (hsb _).mono ?_); rintro e wz ⟨⟨vz, rfl, hownz⟩, hbz⟩; obtain ⟨Az, cz, rfl, hrdz⟩ := rd_own hownz; obtain ⟨hTz, k0, k1, k2, k3, k4, l0, l1, l2, l3, l4, hlb, hbb⟩ := ten_next hbz (by assumption)))
            all_goals
              go_wp2_with fail
              go_meet
              exact ⟨Aa, ca, Az, cz, rfl, rfl, rd_more (rd_below hrda hbz) hbz.size, hrdz, hbb⟩
          case rest =>
            obtain ⟨A, c1, A', c2, rfl, rfl, hrd, hrd', hbB⟩ := hcut
            have HRD := Lib.hid hrd
            have HRD' := Lib.hid hrd'
            clear hrd hrd' hsa hsb k0 k1 k2 k3 k4 l0 l1 l2 l3 l4 hlb hbb hT3 hTd e2 e3 hp0 hq0
            generalize hN : ps.length = n at *
            generalize hM : qs.length = m at *
            go_wp2_with fail
            go_loopw [8, 9] (fun i _ wr => ∃ j : Nat, j ≤ n ∧ j ≤ m ∧ i = .int .i64 j ∧ Hid (rowI (ps.drop j) (qs.drop j) = R) ∧ Below wc.heap.size wc wr) (fun i _ _ => n - (intOf i).toNat)
            case atStart => exact ⟨0, by omega, by omega, rfl, HROW.out.symm, Below.refl _ _⟩
            case round =>
              obtain ⟨j, hj, hj', rfl, HJ, hbel⟩ := hrel
              have hbR := hbB.trans (hbel.mono hbB.size)
              by_cases hlt : j < n ∧ j < m
              · obtain ⟨hl1, hl2⟩ := hlt
                obtain ⟨k, off, x, rfl, hk0, hpj, hc0⟩ := rds_cell (rd_below HRD.out hbel) hl1
                obtain ⟨k', off', y, rfl, hk0', hpj', hc0'⟩ := rds_cell (rd_below HRD'.out hbel) hl2
                have HST := Lib.hid (row_step hpj hpj')
                obtain ⟨t, ht, hpt, hts⟩ := piece_of hpj HLE.out
                obtain ⟨t', ht', hpt', hts'⟩ := piece_of hpj' HLF.out
                rw [← ht] at hc0
                rw [← ht'] at hc0'
                have hone := fun W => onetag_any t t' W (by unfold maxLen; omega) (by unfold maxLen; omega)
                rw [hpt, hpt'] at hone
                clear hpj hpj' ht ht' hpt hpt'
                have i1 : (j : Int) < (n : Int) := by omega
                have i2 : (j : Int) < (m : Int) := by omega
                have HS2 : Hid (R = if oneI x y = 0 then rowI (ps.drop (j + 1)) (qs.drop (j + 1)) else oneI x y) := HJ.out.symm.trans HST.out
                clear HST
                generalize oneI x y = r at *
                by_cases hr0 : r = 0
                · have HN : Hid (rowI (ps.drop (j + 1)) (qs.drop (j + 1)) = R) := (HS2.out.trans (if_pos hr0)).symm
                  clear HS2
                  subst hr0
                  go_wp2_with fail
                  refine wp_region_still_tail 8 (by kernel_rfl) (by kernel_rfl) ?_
                  simp only [List.take_succ_cons, List.take_zero, List.drop_succ_cons, List.drop_zero]
                  iterate 8 still_step
                  refine wpStill_nil ?_
                  change wpList _ _ _ _ _ wr.drew
                  have hbd := below_drewN hbel 1
                  have hbd2 := below_drewN hbR 1
                  go_wp2_with fail
                  refine (hone _).mono ?_
                  rintro e w4 ⟨rfl, hb4⟩
                  go_wp2_with fail
                  go_roundw
                  case rel => exact ⟨j + 1, by omega, by omega, by go_num, HN, hbd.trans (hb4.mono hbd.size)⟩
                  case measure => simp [intOf]; omega
                · have HF : Hid (R = r) := HS2.out.trans (if_neg hr0)
                  clear HS2
                  have hr1 : (r == 0) = false := by simpa using hr0
                  have hr2 : (r != 0) = true := by simpa using hr0
                  go_wp2_with fail
                  refine wp_region_still_tail 8 (by kernel_rfl) (by kernel_rfl) ?_
                  simp only [List.take_succ_cons, List.take_zero, List.drop_succ_cons, List.drop_zero]
                  iterate 8 still_step
                  refine wpStill_nil ?_
                  change wpList _ _ _ _ _ wr.drew
                  have hbd := below_drewN hbel 1
                  have hbd2 := below_drewN hbR 1
                  go_wp2_with fail
                  refine (hone _).mono ?_
                  rintro e w4 ⟨rfl, hb4⟩
                  go_wp2_with fail
                  go_ret
                  exact ⟨ret_i64 HF.out.symm, hbd2.trans (hb4.mono hbd2.size)⟩
              · have HF : Hid (R = intsI n m) := by have h := row_end (L := ps) (M := qs) (j := j) (by omega) (by omega) (by omega); rw [HJ.out, hN, hM] at h; exact h
                have hi := fun W => cmp_any n m W
                by_cases hl1 : j < n
                · obtain rfl : j = m := by omega
                  have i1 : (j : Int) < (n : Int) := by omega
                  go_wp2_with (go_at_call 49; refine (hi _).mono ?_; rintro e w3 ⟨rfl, rfl⟩)
                  go_ret
                  exact ⟨ret_i64 HF.out.symm, hbR⟩
                · obtain rfl : j = n := by omega
                  go_wp2_with (go_at_call 49; refine (hi _).mono ?_; rintro e w3 ⟨rfl, rfl⟩)
                  go_ret
                  exact ⟨ret_i64 HF.out.symm, hbR⟩
    · have hr1 : (r == 0) = false := by simpa using h0
      have hr2 : (r != 0) = true := by simpa using h0
      have HF : Hid (R = r) := HC2.out.trans (or_n h0 _)
      go_wp2_with fail
      go_ret
      exact ⟨ret_i64 HF.out.symm, hbb⟩

theorem compare_any (a b c : Int) (p q : ByteArray) (a' b' c' : Int) (p' q' : ByteArray) (w : World) (hp : p.size ≤ 1048576) (hq : q.size ≤ 1048576) (hp' : p'.size ≤ 1048576) (hq' : q'.size ≤ 1048576) :
    Calls Tryd.prog 20 #[.agg #[.int .i64 a, .int .i64 b, .int .i64 c, .string p, .string q], .agg #[.int .i64 a', .int .i64 b', .int .i64 c', .string p', .string q']] w fun e w' => e = .returned (.int .i64 (compV (verS a b c p q) (verS a' b' c' p' q'))) ∧ Below w.heap.size w w' := by
  cases hx : mayV (verS a b c p q)
  · rw [comp_no_a hx]
    exact compare_n0 a b c p q a' b' c' p' q' w hp hq hp' hq' hx
  cases hy : mayV (verS a' b' c' p' q')
  · rw [comp_no_b hy]
    exact compare_n1 a b c p q a' b' c' p' q' w hp hq hp' hq' hx hy
  cases he : eqV a b c p ⟨#[]⟩ a' b' c' p' ⟨#[]⟩
  · exact compare_main a b c p q a' b' c' p' q' w hp hq hp' hq' hx hy he
  · rw [comp_core he]
    exact compare_core a b c p q a' b' c' p' q' w hp hq hp' hq' hx hy he
end Go.Proofs.YthaagngoefieaaaDoor
end
