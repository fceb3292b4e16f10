/-
  The walks of chapter 3's May of cuts, the program's and the reference's. Conditions: Pre and Build have at most 1048576 bytes.
-/
import Derived.Test.YthaagngoefieaaaDoorCCutP
import Derived.Test.YthaagngoefieaaaDoorLoc
import Derived.Test.YthaagngoefieaaaDoorVEq
namespace Go.Proofs.YthaagngoefieaaaDoor
open Go.ChangeShapes Go.WideShapes Go.ChangeAt Go.RowKit
set_option linter.unusedVariables false
set_option linter.unusedSimpArgs false

def cutW (e a b c : Int) (p q : ByteArray) (f : Bool) : Value := .agg #[.int .i64 e, .int .i64 a, .int .i64 b, .int .i64 c, .string p, .string q, .bool f]
def cutS (e a b c : Int) (p q : ByteArray) (f : Bool) : CutC := ⟨e, verS a b c p q, f⟩
theorem mayCut_0 (a b c : Int) (p q : ByteArray) (f : Bool) : mayCut (cutS 0 a b c p q f) = (mayV (verS a b c p q) && q.data.toList.isEmpty) := by
  unfold mayCut cutS
  exact if_pos rfl
theorem mayCut_1 {e : Int} (h : e = -1 ∨ e = 1) (a b c : Int) (p q : ByteArray) (f : Bool) : mayCut (cutS e a b c p q f) = (eqV a b c p q 0 0 0 ⟨#[]⟩ ⟨#[]⟩ && !f) := by
  unfold mayCut cutS
  rw [eqV_ver]
  rcases h with rfl | rfl
  · rw [if_neg (show ¬ (-1 : Int) = 0 by decide)]; rfl
  · rw [if_neg (show ¬ (1 : Int) = 0 by decide)]; rfl
theorem mayCut_2 {e : Int} (h0 : e ≠ 0) (h1 : e ≠ -1) (h2 : e ≠ 1) (a b c : Int) (p q : ByteArray) (f : Bool) : mayCut (cutS e a b c p q f) = false := by
  unfold mayCut cutS
  rw [if_neg h0]
  simp [h1, h2]
theorem nil_empty {q : ByteArray} (h : q.size = 0) : q.data.toList.isEmpty = true := by rw [size_nil h]; rfl
theorem nil_not {q : ByteArray} (h : q.size ≠ 0) : q.data.toList.isEmpty = false := by
  rw [Bool.eq_false_iff, ne_eq, List.isEmpty_iff]
  intro e
  have := congrArg List.length e
  rw [len_size] at this
  exact h this
theorem compCut_a {x y : CutC} (h : mayCut x = false) : compCut x y = 0 := by unfold compCut; exact if_neg fun g => by rw [h] at g; exact absurd g.1 (by decide)
theorem compCut_b {x y : CutC} (h : mayCut y = false) : compCut x y = 0 := by unfold compCut; exact if_neg fun g => by rw [h] at g; exact absurd g.2 (by decide)
theorem compCut_e {e a b c : Int} {p q : ByteArray} {f : Bool} {e' a' b' c' : Int} {p' q' : ByteArray} {f' : Bool} (hx : mayCut (cutS e a b c p q f) = true) (hy : mayCut (cutS e' a' b' c' p' q' f') = true) (h : e ≠ 0 ∨ e' ≠ 0) : compCut (cutS e a b c p q f) (cutS e' a' b' c' p' q' f') = intsI e e' := by
  unfold compCut
  rw [if_pos ⟨hx, hy⟩, if_pos (show (cutS e a b c p q f).e ≠ 0 ∨ (cutS e' a' b' c' p' q' f').e ≠ 0 from h)]
  rfl
theorem compCut_v {a b c : Int} {p q : ByteArray} {f : Bool} {a' b' c' : Int} {p' q' : ByteArray} {f' : Bool} (hx : mayCut (cutS 0 a b c p q f) = true) (hy : mayCut (cutS 0 a' b' c' p' q' f') = true) : compCut (cutS 0 a b c p q f) (cutS 0 a' b' c' p' q' f') = orI (compV (verS a b c p q) (verS a' b' c' p' q')) (aftI f f') := by
  unfold compCut
  rw [if_pos ⟨hx, hy⟩, if_neg (show ¬((cutS 0 a b c p q f).e ≠ 0 ∨ (cutS 0 a' b' c' p' q' f').e ≠ 0) from fun h => by rcases h with h | h <;> exact h rfl)]
  rfl
theorem or_00 (x : Int) : orI 0 x = x := by unfold orI; exact if_pos rfl
theorem or_11 {r : Int} (h : r ≠ 0) (x : Int) : orI r x = r := by unfold orI; exact if_neg h

set_option maxHeartbeats 2000000 in
theorem cutmay_any (e a b c : Int) (p q : ByteArray) (f : Bool) (w : World) (hp : p.size ≤ 1048576) (hq : q.size ≤ 1048576) :
    Calls Tryd.prog 103 #[cutW e a b c p q f] w fun r w' => r = .returned (.bool (mayCut (cutS e a b c p q f))) ∧ Below w.heap.size w w' := by
  unfold cutW
  have m := fun W => may_any a b c p q W hp hq
  by_cases h0 : e = 0
  · subst h0
    rw [mayCut_0]
    cases hm : mayV (verS a b c p q)
    · rw [hm] at m
      clear hm
      go_enter Tryd.func103, Tryd.ntmps103
      go_wp2_with (go_at_call 41; refine (m _).mono ?_; rintro r w1 ⟨rfl, hb1⟩)
      go_ret
      exact ⟨rfl, (box_below w _).trans (hb1.mono (by simp))⟩
    · rw [hm] at m
      clear hm
      by_cases hq0 : q.size = 0
      · rw [nil_empty hq0]
        have e2 := empty_str q hq0
        clear hq0
        go_enter Tryd.func103, Tryd.ntmps103
        go_wp2_with fail
        refine (m _).mono ?_
        rintro r w1 ⟨rfl, hb1⟩
        have hL := loc_call (loc_new (loc_start w) w.heap.size [.int .i64 0, .int .i64 a, .int .i64 b, .int .i64 c, .string p, .string q, .bool f] 48) hb1
        clear hb1
        obtain ⟨c0, c1, c2, c3, c4, c5, c6⟩ := cells7L (loc_own hL 0 rfl).1
        go_wp2_with fail
        go_ret
        exact ⟨rfl, hL.1⟩
      · rw [nil_not hq0]
        have e2 := (empty_no (s := q) (by omega)).1
        clear hq0
        go_enter Tryd.func103, Tryd.ntmps103
        go_wp2_with fail
        refine (m _).mono ?_
        rintro r w1 ⟨rfl, hb1⟩
        have hL := loc_call (loc_new (loc_start w) w.heap.size [.int .i64 0, .int .i64 a, .int .i64 b, .int .i64 c, .string p, .string q, .bool f] 48) hb1
        clear hb1
        obtain ⟨c0, c1, c2, c3, c4, c5, c6⟩ := cells7L (loc_own hL 0 rfl).1
        go_wp2_with fail
        go_ret
        exact ⟨rfl, hL.1⟩
  · by_cases h1 : e = -1 ∨ e = 1
    · rw [mayCut_1 h1]
      have heq : ∀ W, (binOp .eql 24 (.agg #[.int .i64 a, .int .i64 b, .int .i64 c, .string p, .string q]) (.agg #[.int .i64 0, .int .i64 0, .int .i64 0, .string ⟨#[]⟩, .string ⟨#[]⟩])).run Tryd.prog W = .ok (.bool (eqV a b c p q 0 0 0 ⟨#[]⟩ ⟨#[]⟩)) W := fun W => by rw [run_eqV]
      generalize eqV a b c p q 0 0 0 ⟨#[]⟩ ⟨#[]⟩ = r at *
      clear h0 m
      rcases h1 with rfl | rfl <;> cases r <;> cases f
      all_goals
        go_enter Tryd.func103, Tryd.ntmps103
        go_wp2
        go_ret
        exact ⟨rfl, box_below _ _⟩
    · rw [mayCut_2 h0 (fun h => h1 (.inl h)) (fun h => h1 (.inr h))]
      have g0 : (e == 0) = false := by simpa using h0
      have g1 : (e == -1) = false := by simp; omega
      have g2 : (e == 1) = false := by simp; omega
      clear h0 h1 m
      go_enter Tryd.func103, Tryd.ntmps103
      go_wp2
      go_ret
      exact ⟨rfl, box_below _ _⟩

set_option maxHeartbeats 2000000 in
theorem rcutmay_any (e a b c : Int) (p q : ByteArray) (f : Bool) (w : World) (hp : p.size ≤ 1048576) (hq : q.size ≤ 1048576) :
    Calls Tryd.prog 92 #[cutW e a b c p q f] w fun r w' => r = .returned (.bool (mayCut (cutS e a b c p q f))) ∧ Below w.heap.size w w' := by
  unfold cutW
  have m := fun W => rmay_any a b c p q W hp hq
  by_cases h0 : e = 0
  · subst h0
    rw [mayCut_0]
    cases hm : mayV (verS a b c p q)
    · rw [hm] at m
      clear hm
      go_enter Tryd.func92, Tryd.ntmps92
      go_wp2_with (go_at_call 42; refine (m _).mono ?_; rintro r w1 ⟨rfl, hb1⟩)
      go_ret
      exact ⟨rfl, (box_below w _).trans (hb1.mono (by simp))⟩
    · rw [hm] at m
      clear hm
      by_cases hq0 : q.size = 0
      · rw [nil_empty hq0]
        have e2 := empty_str q hq0
        clear hq0
        go_enter Tryd.func92, Tryd.ntmps92
        go_wp2_with fail
        refine (m _).mono ?_
        rintro r w1 ⟨rfl, hb1⟩
        have hL := loc_call (loc_new (loc_start w) w.heap.size [.int .i64 0, .int .i64 a, .int .i64 b, .int .i64 c, .string p, .string q, .bool f] 48) hb1
        clear hb1
        obtain ⟨c0, c1, c2, c3, c4, c5, c6⟩ := cells7L (loc_own hL 0 rfl).1
        go_wp2_with fail
        go_ret
        exact ⟨rfl, hL.1⟩
      · rw [nil_not hq0]
        have e2 := (empty_no (s := q) (by omega)).1
        clear hq0
        go_enter Tryd.func92, Tryd.ntmps92
        go_wp2_with fail
        refine (m _).mono ?_
        rintro r w1 ⟨rfl, hb1⟩
        have hL := loc_call (loc_new (loc_start w) w.heap.size [.int .i64 0, .int .i64 a, .int .i64 b, .int .i64 c, .string p, .string q, .bool f] 48) hb1
        clear hb1
        obtain ⟨c0, c1, c2, c3, c4, c5, c6⟩ := cells7L (loc_own hL 0 rfl).1
        go_wp2_with fail
        go_ret
        exact ⟨rfl, hL.1⟩
  · by_cases h1 : e = -1 ∨ e = 1
    · rw [mayCut_1 h1]
      have heq : ∀ W, (binOp .eql 24 (.agg #[.int .i64 a, .int .i64 b, .int .i64 c, .string p, .string q]) (.agg #[.int .i64 0, .int .i64 0, .int .i64 0, .string ⟨#[]⟩, .string ⟨#[]⟩])).run Tryd.prog W = .ok (.bool (eqV a b c p q 0 0 0 ⟨#[]⟩ ⟨#[]⟩)) W := fun W => by rw [run_eqV]
      generalize eqV a b c p q 0 0 0 ⟨#[]⟩ ⟨#[]⟩ = r at *
      clear h0 m
      rcases h1 with rfl | rfl <;> cases r <;> cases f
      all_goals
        go_enter Tryd.func92, Tryd.ntmps92
        go_wp2
        go_ret
        exact ⟨rfl, box_below _ _⟩
    · rw [mayCut_2 h0 (fun h => h1 (.inl h)) (fun h => h1 (.inr h))]
      have g0 : (e == 0) = false := by simpa using h0
      have g1 : (e == -1) = false := by simp; omega
      have g2 : (e == 1) = false := by simp; omega
      clear h0 h1 m
      go_enter Tryd.func92, Tryd.ntmps92
      go_wp2
      go_ret
      exact ⟨rfl, box_below _ _⟩

end Go.Proofs.YthaagngoefieaaaDoor
