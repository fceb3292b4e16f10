/-
  The walks of the statement's own begins, over, says. Conditions: the Op is one of the nine.
-/
import Derived.Test.YthaagngoefieaaaDoorCMeans
import Derived.Test.YthaagngoefieaaaDoorG5
namespace Go.Proofs.YthaagngoefieaaaDoor
open Go.ChangeShapes Go.WideShapes Go.ChangeAt Go.RowKit
set_option linter.unusedVariables false
set_option linter.unusedSimpArgs false

set_option maxHeartbeats 2000000 in
theorem lbegins_any (op ps a b c : Int) (p q : ByteArray) (va vb vc : Int) (vp vq : ByteArray) (n : Int) (w : World) :
    Calls Tryd.prog 33 #[cvV op ps a b c p q, .agg #[.int .i64 va, .int .i64 vb, .int .i64 vc, .string vp, .string vq], .int .i64 n] w fun e w' => e = .returned (.bool (beginsC (cmpS op ps a b c p q) (verS va vb vc vp vq) n)) ∧ Below w.heap.size w w' := by
  have HM := Lib.hid (show beginsC (cmpS op ps a b c p q) (verS va vb vc vp vq) n = ((decide (n < 1) || decide (va = a)) && (decide (n < 2) || decide (vb = b)) && (decide (n < 3) || decide (vc = c))) from rfl)
  generalize beginsC (cmpS op ps a b c p q) (verS va vb vc vp vq) n = R at *
  unfold cvV
  go_enter Tryd.func33, Tryd.ntmps33
  go_wp2
  all_goals
    go_ret
    refine ⟨ret_bool ?_, by first | assumption | exact (loc_box (loc_box (loc_start w) _) _).1⟩
    rw [HM.out]
    try simp only [beq_iff_eq, bne_iff_ne, ne_eq, beq_eq_false_iff_ne, bne_eq_false_iff_eq] at *
    first
      | (rw [Bool.eq_iff_iff]; simp; done)
      | (rw [Bool.eq_iff_iff]; simp; omega)
set_option maxHeartbeats 2000000 in
theorem over_any (op ps a b c : Int) (p q : ByteArray) (va vb vc : Int) (vp vq : ByteArray) (w : World) :
    Calls Tryd.prog 64 #[cvV op ps a b c p q, .agg #[.int .i64 va, .int .i64 vb, .int .i64 vc, .string vp, .string vq]] w fun e w' => e = .returned (.bool (overC (cmpS op ps a b c p q) (verS va vb vc vp vq))) ∧ Below w.heap.size w w' := by
  have HM := Lib.hid (show overC (cmpS op ps a b c p q) (verS va vb vc vp vq) = (if va ≠ a ∨ ps = 1 then decide (a < va) else if vb ≠ b ∨ ps = 2 then decide (b < vb) else decide (c < vc)) from rfl)
  generalize overC (cmpS op ps a b c p q) (verS va vb vc vp vq) = R at *
  unfold cvV
  go_enter Tryd.func64, Tryd.ntmps64
  go_wp2
  all_goals
    go_ret
    refine ⟨ret_bool ?_, by first | assumption | exact (loc_box (loc_box (loc_start w) _) _).1⟩
    rw [HM.out]
    try simp only [beq_iff_eq, bne_iff_ne, ne_eq, beq_eq_false_iff_ne, bne_eq_false_iff_eq] at *
    first
      | (simp_all; done)
      | (simp_all; omega)
      | (split <;> first | rfl | (simp_all; omega) | (split <;> first | rfl | (simp_all; omega)))
set_option maxRecDepth 8192 in
set_option maxHeartbeats 4000000 in
theorem says_any (op ps a b c : Int) (p q : ByteArray) (va vb vc : Int) (vp vq : ByteArray) (w : World) (o1 : 1 ≤ op) (o2 : op ≤ 9) :
    Calls Tryd.prog 32 #[cvV op ps a b c p q, .agg #[.int .i64 va, .int .i64 vb, .int .i64 vc, .string vp, .string vq]] w fun e w' => e = .returned (.bool (saysC (cmpS op ps a b c p q) (verS va vb vc vp vq))) ∧ Below w.heap.size w w' := by
  have mb := fun n W => lbegins_any op ps a b c p q va vb vc vp vq n W
  have mo := fun W => over_any op ps a b c p q va vb vc vp vq W
  have ho : op = 1 ∨ op = 2 ∨ op = 3 ∨ op = 4 ∨ op = 5 ∨ op = 6 ∨ op = 7 ∨ op = 8 ∨ op = 9 := by omega
  clear o1 o2
  rcases ho with rfl | rfl | rfl | rfl | rfl | rfl | rfl | rfl | rfl
  · have HM := Lib.hid (show saysC (cmpS 1 ps a b c p q) (verS va vb vc vp vq) = (beginsC (cmpS 1 ps a b c p q) (verS va vb vc vp vq) ps) from rfl)
    have m1 := mb ps
    generalize saysC (cmpS 1 ps a b c p q) (verS va vb vc vp vq) = R at *
    generalize beginsC (cmpS 1 ps a b c p q) (verS va vb vc vp vq) ps = sm at *
    generalize overC (cmpS 1 ps a b c p q) (verS va vb vc vp vq) = up at *
    clear mb
    unfold cvV at *
    go_enter Tryd.func32, Tryd.ntmps32
    go_wp2_with fail
    have hL := loc_new (loc_new (loc_start w) w.heap.size [.int .i64 1, .int .i64 ps, .int .i64 a, .int .i64 b, .int .i64 c, .string p, .string q] 26) (w.heap.size + 1) [.int .i64 va, .int .i64 vb, .int .i64 vc, .string vp, .string vq] 24
    refine (m1 _).mono ?_
    rintro e w1 ⟨rfl, hb1⟩
    have hL := loc_call hL hb1
    clear hb1
    obtain ⟨d0, d1, d2, d3, d4, d5, d6⟩ := cells7L (loc_own hL 0 rfl).1
    obtain ⟨e0, e1, e2, e3, e4⟩ := cells5L (loc_own hL 1 rfl).1
    go_wp2_with fail
    refine (mo _).mono ?_
    rintro e w2 ⟨rfl, hb1⟩
    have hL := loc_call hL hb1
    clear hb1 d0 d1 d2 d3 d4 d5 d6 e0 e1 e2 e3 e4
    obtain ⟨d0, d1, d2, d3, d4, d5, d6⟩ := cells7L (loc_own hL 0 rfl).1
    obtain ⟨e0, e1, e2, e3, e4⟩ := cells5L (loc_own hL 1 rfl).1
    go_wp2_with fail
    go_ret
    exact ⟨ret_bool HM.out.symm, hL.1⟩
  · have HM := Lib.hid (show saysC (cmpS 2 ps a b c p q) (verS va vb vc vp vq) = !(beginsC (cmpS 2 ps a b c p q) (verS va vb vc vp vq) ps) from rfl)
    have m1 := mb ps
    generalize saysC (cmpS 2 ps a b c p q) (verS va vb vc vp vq) = R at *
    generalize beginsC (cmpS 2 ps a b c p q) (verS va vb vc vp vq) ps = sm at *
    generalize overC (cmpS 2 ps a b c p q) (verS va vb vc vp vq) = up at *
    clear mb
    unfold cvV at *
    go_enter Tryd.func32, Tryd.ntmps32
    go_wp2_with fail
    have hL := loc_new (loc_new (loc_start w) w.heap.size [.int .i64 2, .int .i64 ps, .int .i64 a, .int .i64 b, .int .i64 c, .string p, .string q] 26) (w.heap.size + 1) [.int .i64 va, .int .i64 vb, .int .i64 vc, .string vp, .string vq] 24
    refine (m1 _).mono ?_
    rintro e w1 ⟨rfl, hb1⟩
    have hL := loc_call hL hb1
    clear hb1
    obtain ⟨d0, d1, d2, d3, d4, d5, d6⟩ := cells7L (loc_own hL 0 rfl).1
    obtain ⟨e0, e1, e2, e3, e4⟩ := cells5L (loc_own hL 1 rfl).1
    go_wp2_with fail
    refine (mo _).mono ?_
    rintro e w2 ⟨rfl, hb1⟩
    have hL := loc_call hL hb1
    clear hb1 d0 d1 d2 d3 d4 d5 d6 e0 e1 e2 e3 e4
    obtain ⟨d0, d1, d2, d3, d4, d5, d6⟩ := cells7L (loc_own hL 0 rfl).1
    obtain ⟨e0, e1, e2, e3, e4⟩ := cells5L (loc_own hL 1 rfl).1
    go_wp2_with fail
    go_ret
    exact ⟨ret_bool HM.out.symm, hL.1⟩
  · have HM := Lib.hid (show saysC (cmpS 3 ps a b c p q) (verS va vb vc vp vq) = (!(beginsC (cmpS 3 ps a b c p q) (verS va vb vc vp vq) ps) && !(overC (cmpS 3 ps a b c p q) (verS va vb vc vp vq))) from rfl)
    have m1 := mb ps
    generalize saysC (cmpS 3 ps a b c p q) (verS va vb vc vp vq) = R at *
    generalize beginsC (cmpS 3 ps a b c p q) (verS va vb vc vp vq) ps = sm at *
    generalize overC (cmpS 3 ps a b c p q) (verS va vb vc vp vq) = up at *
    clear mb
    unfold cvV at *
    cases sm <;> cases up
    all_goals
      go_enter Tryd.func32, Tryd.ntmps32
      go_wp2_with fail
      have hL := loc_new (loc_new (loc_start w) w.heap.size [.int .i64 3, .int .i64 ps, .int .i64 a, .int .i64 b, .int .i64 c, .string p, .string q] 26) (w.heap.size + 1) [.int .i64 va, .int .i64 vb, .int .i64 vc, .string vp, .string vq] 24
      refine (m1 _).mono ?_
      rintro e w1 ⟨rfl, hb1⟩
      have hL := loc_call hL hb1
      clear hb1
      obtain ⟨d0, d1, d2, d3, d4, d5, d6⟩ := cells7L (loc_own hL 0 rfl).1
      obtain ⟨e0, e1, e2, e3, e4⟩ := cells5L (loc_own hL 1 rfl).1
      go_wp2_with fail
      refine (mo _).mono ?_
      rintro e w2 ⟨rfl, hb1⟩
      have hL := loc_call hL hb1
      clear hb1 d0 d1 d2 d3 d4 d5 d6 e0 e1 e2 e3 e4
      obtain ⟨d0, d1, d2, d3, d4, d5, d6⟩ := cells7L (loc_own hL 0 rfl).1
      obtain ⟨e0, e1, e2, e3, e4⟩ := cells5L (loc_own hL 1 rfl).1
      go_wp2_with fail
      go_ret
      exact ⟨ret_bool HM.out.symm, hL.1⟩
  · have HM := Lib.hid (show saysC (cmpS 4 ps a b c p q) (verS va vb vc vp vq) = ((beginsC (cmpS 4 ps a b c p q) (verS va vb vc vp vq) ps) || !(overC (cmpS 4 ps a b c p q) (verS va vb vc vp vq))) from rfl)
    have m1 := mb ps
    generalize saysC (cmpS 4 ps a b c p q) (verS va vb vc vp vq) = R at *
    generalize beginsC (cmpS 4 ps a b c p q) (verS va vb vc vp vq) ps = sm at *
    generalize overC (cmpS 4 ps a b c p q) (verS va vb vc vp vq) = up at *
    clear mb
    unfold cvV at *
    cases sm <;> cases up
    all_goals
      go_enter Tryd.func32, Tryd.ntmps32
      go_wp2_with fail
      have hL := loc_new (loc_new (loc_start w) w.heap.size [.int .i64 4, .int .i64 ps, .int .i64 a, .int .i64 b, .int .i64 c, .string p, .string q] 26) (w.heap.size + 1) [.int .i64 va, .int .i64 vb, .int .i64 vc, .string vp, .string vq] 24
      refine (m1 _).mono ?_
      rintro e w1 ⟨rfl, hb1⟩
      have hL := loc_call hL hb1
      clear hb1
      obtain ⟨d0, d1, d2, d3, d4, d5, d6⟩ := cells7L (loc_own hL 0 rfl).1
      obtain ⟨e0, e1, e2, e3, e4⟩ := cells5L (loc_own hL 1 rfl).1
      go_wp2_with fail
      refine (mo _).mono ?_
      rintro e w2 ⟨rfl, hb1⟩
      have hL := loc_call hL hb1
      clear hb1 d0 d1 d2 d3 d4 d5 d6 e0 e1 e2 e3 e4
      obtain ⟨d0, d1, d2, d3, d4, d5, d6⟩ := cells7L (loc_own hL 0 rfl).1
      obtain ⟨e0, e1, e2, e3, e4⟩ := cells5L (loc_own hL 1 rfl).1
      go_wp2_with fail
      go_ret
      exact ⟨ret_bool HM.out.symm, hL.1⟩
  · have HM := Lib.hid (show saysC (cmpS 5 ps a b c p q) (verS va vb vc vp vq) = (overC (cmpS 5 ps a b c p q) (verS va vb vc vp vq)) from rfl)
    have m1 := mb ps
    generalize saysC (cmpS 5 ps a b c p q) (verS va vb vc vp vq) = R at *
    generalize beginsC (cmpS 5 ps a b c p q) (verS va vb vc vp vq) ps = sm at *
    generalize overC (cmpS 5 ps a b c p q) (verS va vb vc vp vq) = up at *
    clear mb
    unfold cvV at *
    go_enter Tryd.func32, Tryd.ntmps32
    go_wp2_with fail
    have hL := loc_new (loc_new (loc_start w) w.heap.size [.int .i64 5, .int .i64 ps, .int .i64 a, .int .i64 b, .int .i64 c, .string p, .string q] 26) (w.heap.size + 1) [.int .i64 va, .int .i64 vb, .int .i64 vc, .string vp, .string vq] 24
    refine (m1 _).mono ?_
    rintro e w1 ⟨rfl, hb1⟩
    have hL := loc_call hL hb1
    clear hb1
    obtain ⟨d0, d1, d2, d3, d4, d5, d6⟩ := cells7L (loc_own hL 0 rfl).1
    obtain ⟨e0, e1, e2, e3, e4⟩ := cells5L (loc_own hL 1 rfl).1
    go_wp2_with fail
    refine (mo _).mono ?_
    rintro e w2 ⟨rfl, hb1⟩
    have hL := loc_call hL hb1
    clear hb1 d0 d1 d2 d3 d4 d5 d6 e0 e1 e2 e3 e4
    obtain ⟨d0, d1, d2, d3, d4, d5, d6⟩ := cells7L (loc_own hL 0 rfl).1
    obtain ⟨e0, e1, e2, e3, e4⟩ := cells5L (loc_own hL 1 rfl).1
    go_wp2_with fail
    go_ret
    exact ⟨ret_bool HM.out.symm, hL.1⟩
  · have HM := Lib.hid (show saysC (cmpS 6 ps a b c p q) (verS va vb vc vp vq) = ((beginsC (cmpS 6 ps a b c p q) (verS va vb vc vp vq) ps) || (overC (cmpS 6 ps a b c p q) (verS va vb vc vp vq))) from rfl)
    have m1 := mb ps
    generalize saysC (cmpS 6 ps a b c p q) (verS va vb vc vp vq) = R at *
    generalize beginsC (cmpS 6 ps a b c p q) (verS va vb vc vp vq) ps = sm at *
    generalize overC (cmpS 6 ps a b c p q) (verS va vb vc vp vq) = up at *
    clear mb
    unfold cvV at *
    cases sm <;> cases up
    all_goals
      go_enter Tryd.func32, Tryd.ntmps32
      go_wp2_with fail
      have hL := loc_new (loc_new (loc_start w) w.heap.size [.int .i64 6, .int .i64 ps, .int .i64 a, .int .i64 b, .int .i64 c, .string p, .string q] 26) (w.heap.size + 1) [.int .i64 va, .int .i64 vb, .int .i64 vc, .string vp, .string vq] 24
      refine (m1 _).mono ?_
      rintro e w1 ⟨rfl, hb1⟩
      have hL := loc_call hL hb1
      clear hb1
      obtain ⟨d0, d1, d2, d3, d4, d5, d6⟩ := cells7L (loc_own hL 0 rfl).1
      obtain ⟨e0, e1, e2, e3, e4⟩ := cells5L (loc_own hL 1 rfl).1
      go_wp2_with fail
      refine (mo _).mono ?_
      rintro e w2 ⟨rfl, hb1⟩
      have hL := loc_call hL hb1
      clear hb1 d0 d1 d2 d3 d4 d5 d6 e0 e1 e2 e3 e4
      obtain ⟨d0, d1, d2, d3, d4, d5, d6⟩ := cells7L (loc_own hL 0 rfl).1
      obtain ⟨e0, e1, e2, e3, e4⟩ := cells5L (loc_own hL 1 rfl).1
      go_wp2_with fail
      go_ret
      exact ⟨ret_bool HM.out.symm, hL.1⟩
  · have HM := Lib.hid (show saysC (cmpS 7 ps a b c p q) (verS va vb vc vp vq) = ((beginsC (cmpS 7 ps a b c p q) (verS va vb vc vp vq) (saysN (cmpS 7 ps a b c p q))) && ((beginsC (cmpS 7 ps a b c p q) (verS va vb vc vp vq) ps) || (overC (cmpS 7 ps a b c p q) (verS va vb vc vp vq)))) from rfl)
    have m1 := mb ps
    have HN := Lib.hid (show saysN (cmpS 7 ps a b c p q) = (if 0 < a ∨ ps = 1 then 1 else if 0 < b ∨ ps = 2 then 2 else 3) from rfl)
    have mm := mb
    have HM2 := HM
    generalize saysC (cmpS 7 ps a b c p q) (verS va vb vc vp vq) = R at *
    generalize hsm : beginsC (cmpS 7 ps a b c p q) (verS va vb vc vp vq) ps = sm at m1 HM
    clear HM2 hsm
    generalize overC (cmpS 7 ps a b c p q) (verS va vb vc vp vq) = up at *
    clear mb
    unfold cvV at *
    have e1 : ∀ x : Int, ¬ x = 1 → (x == 1) = false := fun x h => by simpa using h
    have e2 : ∀ x : Int, ¬ x = 2 → (x == 2) = false := fun x h => by simpa using h
    by_cases g0 : 0 < a
    · clear e1 e2
      have HK := Lib.hid (show saysN (cmpS 7 ps a b c p q) = 1 from HN.out.trans (if_pos (.inl g0)))
      have m2 := mm 1
      rw [HK.out] at HM
      generalize beginsC (cmpS 7 ps a b c p q) (verS va vb vc vp vq) 1 = sx at m2 HM
      clear mm HN HK
      cases sx <;> cases sm <;> cases up
      all_goals
        go_enter Tryd.func32, Tryd.ntmps32
        go_wp2_with fail
        have hL := loc_new (loc_new (loc_start w) w.heap.size [.int .i64 7, .int .i64 ps, .int .i64 a, .int .i64 b, .int .i64 c, .string p, .string q] 26) (w.heap.size + 1) [.int .i64 va, .int .i64 vb, .int .i64 vc, .string vp, .string vq] 24
        refine (m1 _).mono ?_
        rintro e w1 ⟨rfl, hb1⟩
        have hL := loc_call hL hb1
        clear hb1
        obtain ⟨d0, d1, d2, d3, d4, d5, d6⟩ := cells7L (loc_own hL 0 rfl).1
        obtain ⟨e0, e1, e2, e3, e4⟩ := cells5L (loc_own hL 1 rfl).1
        go_wp2_with fail
        refine (mo _).mono ?_
        rintro e w2 ⟨rfl, hb1⟩
        have hL := loc_call hL hb1
        clear hb1 d0 d1 d2 d3 d4 d5 d6 e0 e1 e2 e3 e4
        obtain ⟨d0, d1, d2, d3, d4, d5, d6⟩ := cells7L (loc_own hL 0 rfl).1
        obtain ⟨e0, e1, e2, e3, e4⟩ := cells5L (loc_own hL 1 rfl).1
        go_wp2_with fail
        refine (m2 _).mono ?_
        rintro e w3 ⟨rfl, hb1⟩
        have hL := loc_call hL hb1
        clear hb1
        go_wp2_with fail
        go_ret
        exact ⟨ret_bool HM.out.symm, hL.1⟩
    by_cases g1 : ps = 1
    · have HP := Lib.hid (HN.out.trans (if_pos (.inr g1)))
      subst g1
      clear e1 e2
      have m2 := mm 1
      rw [HP.out] at HM
      generalize beginsC (cmpS 7 1 a b c p q) (verS va vb vc vp vq) 1 = sx at m2 HM
      clear mm HN HP
      cases sx <;> cases sm <;> cases up
      all_goals
        go_enter Tryd.func32, Tryd.ntmps32
        go_wp2_with fail
        have hL := loc_new (loc_new (loc_start w) w.heap.size [.int .i64 7, .int .i64 1, .int .i64 a, .int .i64 b, .int .i64 c, .string p, .string q] 26) (w.heap.size + 1) [.int .i64 va, .int .i64 vb, .int .i64 vc, .string vp, .string vq] 24
        refine (m1 _).mono ?_
        rintro e w1 ⟨rfl, hb1⟩
        have hL := loc_call hL hb1
        clear hb1
        obtain ⟨d0, d1, d2, d3, d4, d5, d6⟩ := cells7L (loc_own hL 0 rfl).1
        obtain ⟨e0, e1, e2, e3, e4⟩ := cells5L (loc_own hL 1 rfl).1
        go_wp2_with fail
        refine (mo _).mono ?_
        rintro e w2 ⟨rfl, hb1⟩
        have hL := loc_call hL hb1
        clear hb1 d0 d1 d2 d3 d4 d5 d6 e0 e1 e2 e3 e4
        obtain ⟨d0, d1, d2, d3, d4, d5, d6⟩ := cells7L (loc_own hL 0 rfl).1
        obtain ⟨e0, e1, e2, e3, e4⟩ := cells5L (loc_own hL 1 rfl).1
        go_wp2_with fail
        refine (m2 _).mono ?_
        rintro e w3 ⟨rfl, hb1⟩
        have hL := loc_call hL hb1
        clear hb1
        go_wp2_with fail
        go_ret
        exact ⟨ret_bool HM.out.symm, hL.1⟩
    have f1 := e1 _ g1
    by_cases g2 : 0 < b
    · clear e1 e2
      have HK := Lib.hid (show saysN (cmpS 7 ps a b c p q) = 2 from HN.out.trans ((if_neg (by omega)).trans (if_pos (.inl g2))))
      have m2 := mm 2
      rw [HK.out] at HM
      generalize beginsC (cmpS 7 ps a b c p q) (verS va vb vc vp vq) 2 = sx at m2 HM
      clear mm HN HK
      cases sx <;> cases sm <;> cases up
      all_goals
        go_enter Tryd.func32, Tryd.ntmps32
        go_wp2_with fail
        have hL := loc_new (loc_new (loc_start w) w.heap.size [.int .i64 7, .int .i64 ps, .int .i64 a, .int .i64 b, .int .i64 c, .string p, .string q] 26) (w.heap.size + 1) [.int .i64 va, .int .i64 vb, .int .i64 vc, .string vp, .string vq] 24
        refine (m1 _).mono ?_
        rintro e w1 ⟨rfl, hb1⟩
        have hL := loc_call hL hb1
        clear hb1
        obtain ⟨d0, d1, d2, d3, d4, d5, d6⟩ := cells7L (loc_own hL 0 rfl).1
        obtain ⟨e0, e1, e2, e3, e4⟩ := cells5L (loc_own hL 1 rfl).1
        go_wp2_with fail
        refine (mo _).mono ?_
        rintro e w2 ⟨rfl, hb1⟩
        have hL := loc_call hL hb1
        clear hb1 d0 d1 d2 d3 d4 d5 d6 e0 e1 e2 e3 e4
        obtain ⟨d0, d1, d2, d3, d4, d5, d6⟩ := cells7L (loc_own hL 0 rfl).1
        obtain ⟨e0, e1, e2, e3, e4⟩ := cells5L (loc_own hL 1 rfl).1
        go_wp2_with fail
        refine (m2 _).mono ?_
        rintro e w3 ⟨rfl, hb1⟩
        have hL := loc_call hL hb1
        clear hb1
        go_wp2_with fail
        go_ret
        exact ⟨ret_bool HM.out.symm, hL.1⟩
    by_cases g3 : ps = 2
    · have HP := Lib.hid (HN.out.trans ((if_neg (by omega)).trans (if_pos (.inr g3))))
      subst g3
      clear e1 e2 f1 g1
      have m2 := mm 2
      rw [HP.out] at HM
      generalize beginsC (cmpS 7 2 a b c p q) (verS va vb vc vp vq) 2 = sx at m2 HM
      clear mm HN HP
      cases sx <;> cases sm <;> cases up
      all_goals
        go_enter Tryd.func32, Tryd.ntmps32
        go_wp2_with fail
        have hL := loc_new (loc_new (loc_start w) w.heap.size [.int .i64 7, .int .i64 2, .int .i64 a, .int .i64 b, .int .i64 c, .string p, .string q] 26) (w.heap.size + 1) [.int .i64 va, .int .i64 vb, .int .i64 vc, .string vp, .string vq] 24
        refine (m1 _).mono ?_
        rintro e w1 ⟨rfl, hb1⟩
        have hL := loc_call hL hb1
        clear hb1
        obtain ⟨d0, d1, d2, d3, d4, d5, d6⟩ := cells7L (loc_own hL 0 rfl).1
        obtain ⟨e0, e1, e2, e3, e4⟩ := cells5L (loc_own hL 1 rfl).1
        go_wp2_with fail
        refine (mo _).mono ?_
        rintro e w2 ⟨rfl, hb1⟩
        have hL := loc_call hL hb1
        clear hb1 d0 d1 d2 d3 d4 d5 d6 e0 e1 e2 e3 e4
        obtain ⟨d0, d1, d2, d3, d4, d5, d6⟩ := cells7L (loc_own hL 0 rfl).1
        obtain ⟨e0, e1, e2, e3, e4⟩ := cells5L (loc_own hL 1 rfl).1
        go_wp2_with fail
        refine (m2 _).mono ?_
        rintro e w3 ⟨rfl, hb1⟩
        have hL := loc_call hL hb1
        clear hb1
        go_wp2_with fail
        go_ret
        exact ⟨ret_bool HM.out.symm, hL.1⟩
    have f2 := e2 _ g3
    have HK := Lib.hid (show saysN (cmpS 7 ps a b c p q) = 3 from HN.out.trans ((if_neg (by omega)).trans (if_neg (by omega))))
    have m2 := mm 3
    rw [HK.out] at HM
    generalize beginsC (cmpS 7 ps a b c p q) (verS va vb vc vp vq) 3 = sx at m2 HM
    clear mm HN HK
    cases sx <;> cases sm <;> cases up
    all_goals
      go_enter Tryd.func32, Tryd.ntmps32
      go_wp2_with fail
      have hL := loc_new (loc_new (loc_start w) w.heap.size [.int .i64 7, .int .i64 ps, .int .i64 a, .int .i64 b, .int .i64 c, .string p, .string q] 26) (w.heap.size + 1) [.int .i64 va, .int .i64 vb, .int .i64 vc, .string vp, .string vq] 24
      refine (m1 _).mono ?_
      rintro e w1 ⟨rfl, hb1⟩
      have hL := loc_call hL hb1
      clear hb1
      obtain ⟨d0, d1, d2, d3, d4, d5, d6⟩ := cells7L (loc_own hL 0 rfl).1
      obtain ⟨e0, e1, e2, e3, e4⟩ := cells5L (loc_own hL 1 rfl).1
      go_wp2_with fail
      refine (mo _).mono ?_
      rintro e w2 ⟨rfl, hb1⟩
      have hL := loc_call hL hb1
      clear hb1 d0 d1 d2 d3 d4 d5 d6 e0 e1 e2 e3 e4
      obtain ⟨d0, d1, d2, d3, d4, d5, d6⟩ := cells7L (loc_own hL 0 rfl).1
      obtain ⟨e0, e1, e2, e3, e4⟩ := cells5L (loc_own hL 1 rfl).1
      go_wp2_with fail
      refine (m2 _).mono ?_
      rintro e w3 ⟨rfl, hb1⟩
      have hL := loc_call hL hb1
      clear hb1
      go_wp2_with fail
      go_ret
      exact ⟨ret_bool HM.out.symm, hL.1⟩
  · have HM := Lib.hid (show saysC (cmpS 8 ps a b c p q) (verS va vb vc vp vq) = ((beginsC (cmpS 8 ps a b c p q) (verS va vb vc vp vq) (min ps 2)) && ((beginsC (cmpS 8 ps a b c p q) (verS va vb vc vp vq) ps) || (overC (cmpS 8 ps a b c p q) (verS va vb vc vp vq)))) from rfl)
    have m1 := mb ps
    have m2 := mb (min ps 2)
    generalize beginsC (cmpS 8 ps a b c p q) (verS va vb vc vp vq) (min ps 2) = sx at *
    generalize saysC (cmpS 8 ps a b c p q) (verS va vb vc vp vq) = R at *
    generalize beginsC (cmpS 8 ps a b c p q) (verS va vb vc vp vq) ps = sm at *
    generalize overC (cmpS 8 ps a b c p q) (verS va vb vc vp vq) = up at *
    clear mb
    unfold cvV at *
    cases sx <;> cases sm <;> cases up
    all_goals
      go_enter Tryd.func32, Tryd.ntmps32
      go_wp2_with fail
      have hL := loc_new (loc_new (loc_start w) w.heap.size [.int .i64 8, .int .i64 ps, .int .i64 a, .int .i64 b, .int .i64 c, .string p, .string q] 26) (w.heap.size + 1) [.int .i64 va, .int .i64 vb, .int .i64 vc, .string vp, .string vq] 24
      refine (m1 _).mono ?_
      rintro e w1 ⟨rfl, hb1⟩
      have hL := loc_call hL hb1
      clear hb1
      obtain ⟨d0, d1, d2, d3, d4, d5, d6⟩ := cells7L (loc_own hL 0 rfl).1
      obtain ⟨e0, e1, e2, e3, e4⟩ := cells5L (loc_own hL 1 rfl).1
      go_wp2_with fail
      refine (mo _).mono ?_
      rintro e w2 ⟨rfl, hb1⟩
      have hL := loc_call hL hb1
      clear hb1 d0 d1 d2 d3 d4 d5 d6 e0 e1 e2 e3 e4
      obtain ⟨d0, d1, d2, d3, d4, d5, d6⟩ := cells7L (loc_own hL 0 rfl).1
      obtain ⟨e0, e1, e2, e3, e4⟩ := cells5L (loc_own hL 1 rfl).1
      go_wp2_with fail
      refine (m2 _).mono ?_
      rintro e w3 ⟨rfl, hb1⟩
      have hL := loc_call hL hb1
      clear hb1
      go_wp2_with fail
      go_ret
      exact ⟨ret_bool HM.out.symm, hL.1⟩
  · have HM := Lib.hid (show saysC (cmpS 9 ps a b c p q) (verS va vb vc vp vq) = (beginsC (cmpS 9 ps a b c p q) (verS va vb vc vp vq) ps) from rfl)
    have m1 := mb ps
    generalize saysC (cmpS 9 ps a b c p q) (verS va vb vc vp vq) = R at *
    generalize beginsC (cmpS 9 ps a b c p q) (verS va vb vc vp vq) ps = sm at *
    generalize overC (cmpS 9 ps a b c p q) (verS va vb vc vp vq) = up at *
    clear mb
    unfold cvV at *
    go_enter Tryd.func32, Tryd.ntmps32
    go_wp2_with fail
    have hL := loc_new (loc_new (loc_start w) w.heap.size [.int .i64 9, .int .i64 ps, .int .i64 a, .int .i64 b, .int .i64 c, .string p, .string q] 26) (w.heap.size + 1) [.int .i64 va, .int .i64 vb, .int .i64 vc, .string vp, .string vq] 24
    refine (m1 _).mono ?_
    rintro e w1 ⟨rfl, hb1⟩
    have hL := loc_call hL hb1
    clear hb1
    obtain ⟨d0, d1, d2, d3, d4, d5, d6⟩ := cells7L (loc_own hL 0 rfl).1
    obtain ⟨e0, e1, e2, e3, e4⟩ := cells5L (loc_own hL 1 rfl).1
    go_wp2_with fail
    refine (mo _).mono ?_
    rintro e w2 ⟨rfl, hb1⟩
    have hL := loc_call hL hb1
    clear hb1 d0 d1 d2 d3 d4 d5 d6 e0 e1 e2 e3 e4
    obtain ⟨d0, d1, d2, d3, d4, d5, d6⟩ := cells7L (loc_own hL 0 rfl).1
    obtain ⟨e0, e1, e2, e3, e4⟩ := cells5L (loc_own hL 1 rfl).1
    go_wp2_with fail
    go_ret
    exact ⟨ret_bool HM.out.symm, hL.1⟩
end Go.Proofs.YthaagngoefieaaaDoor
