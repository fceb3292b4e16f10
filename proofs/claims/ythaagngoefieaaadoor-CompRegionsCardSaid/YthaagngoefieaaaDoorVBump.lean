/-
  The walks of chapter 2's Bump, the program's and the reference's. Conditions: Pre and Build have at most 1048576 bytes.
-/
import Derived.Test.YthaagngoefieaaaDoorG3
import Derived.Test.YthaagngoefieaaaDoorG1
namespace Go.Proofs.YthaagngoefieaaaDoor
open Go.ChangeShapes Go.WideShapes Go.ChangeAt Go.RowKit
set_option linter.unusedVariables false

/-- What Bump and Next return: the version and true, or none and false. -/
def bumpVal (o : Option Ver) : Value :=
  match o with
  | some v => .tuple #[.agg #[.int .i64 v.maj, .int .i64 v.min, .int .i64 v.pat, .string ⟨v.pre.toArray⟩, .string ⟨v.build.toArray⟩], .bool true]
  | none => .tuple #[.agg #[.int .i64 0, .int .i64 0, .int .i64 0, .string ⟨#[]⟩, .string ⟨#[]⟩], .bool false]
theorem bump_no {v : Ver} (h : mayV v = false) (k : Int) : bumpV v k = none := by unfold bumpV; rw [if_neg (by rw [h]; decide)]
theorem bump_other {v : Ver} {k : Int} (h0 : k ≠ 0) (h1 : k ≠ 1) (h2 : k ≠ 2) : bumpV v k = none := by
  unfold bumpV; rw [if_neg h0, if_neg h1, if_neg h2]; split <;> rfl
theorem bumpv_0 {v : Ver} (h : mayV v = true) : bumpV v 0 = ifMay (relV (v.maj + 1) 0 0) := by unfold bumpV; rw [if_pos h, if_pos rfl]
theorem bumpv_1 {v : Ver} (h : mayV v = true) : bumpV v 1 = ifMay (relV v.maj (v.min + 1) 0) := by unfold bumpV; rw [if_pos h, if_neg (by decide), if_pos rfl]
theorem bumpv_2 {v : Ver} (h : mayV v = true) : bumpV v 2 = ifMay (relV v.maj v.min (v.pat + 1)) := by unfold bumpV; rw [if_pos h, if_neg (by decide), if_neg (by decide), if_pos rfl]
theorem rel_ver (a b c : Int) : relV a b c = verS a b c ⟨#[]⟩ ⟨#[]⟩ := rfl

theorem bump_res (W : World) (tmps : Array Value) (b : Nat) {x0 x1 x2 x3 x4 : Value} (h2 : tmps[4]?.getD undef = .pointer (some ⟨b, 0, none⟩)) (h : Five W b x0 x1 x2 x3 x4) :
    (results Tryd.f83 tmps).run Tryd.prog W = .ok (.tuple #[.agg #[x0, x1, x2, x3, x4], tmps[5]?.getD undef]) W := by
  obtain ⟨k0, k1, k2, k3, k4⟩ := h
  simp [results, Tryd.results83, h2, go_sem, k0, k1, k2, k3, k4]
theorem rbump_res (W : World) (tmps : Array Value) (b : Nat) {x0 x1 x2 x3 x4 : Value} (h2 : tmps[4]?.getD undef = .pointer (some ⟨b, 0, none⟩)) (h : Five W b x0 x1 x2 x3 x4) :
    (results Tryd.f104 tmps).run Tryd.prog W = .ok (.tuple #[.agg #[x0, x1, x2, x3, x4], tmps[5]?.getD undef]) W := by
  obtain ⟨k0, k1, k2, k3, k4⟩ := h
  simp [results, Tryd.results104, h2, go_sem, k0, k1, k2, k3, k4]

set_option maxHeartbeats 2000000 in
theorem bump_n (a b c : Int) (p q : ByteArray) (k : Int) (w : World) (hp : p.size ≤ 1048576) (hq : q.size ≤ 1048576) (hx : mayV (verS a b c p q) = false) :
    Calls Tryd.prog 83 #[.agg #[.int .i64 a, .int .i64 b, .int .i64 c, .string p, .string q], .int .i64 k] w fun e w' => e = .returned (bumpVal (bumpV (verS a b c p q) k)) ∧ Below w.heap.size w w' := by
    have m1 := fun W => may_any a b c p q W hp hq
    rw [bump_no hx]
    rw [hx] at m1
    clear hx
    go_enter Tryd.func83, Tryd.ntmps83
    go_wp2_with fail
    refine (m1 _).mono ?_
    rintro e w1 ⟨rfl, hb1⟩
    have hbB := (two_below w _ _).trans (hb1.mono (by simp; omega))
    have h55 := (two_five w _ _ _ _ _ _ _ _ _ _ _ _ hb1).1
    have hR := room_below (room_new (w.alloc _) _ _ _ _ _ _) (by simp) hb1
    simp only [World.size_alloc] at hR
    have hz : w.heap.size + 2 ≤ w1.heap.size := by have := hb1.size; simp at this; omega
    have hz0 : w.heap.size < w1.heap.size := by omega
    have hz1 : w.heap.size + 1 < w1.heap.size := by omega
    clear hb1
    obtain ⟨k0, k1, k2, k3, k4⟩ := id h55
    obtain ⟨⟨l0, l1, l2, l3, l4⟩, lf⟩ := id hR
    have f0 := lf 0
    have f1 := lf 1
    have f2 := lf 2
    have f3 := lf 3
    have f4 := lf 4
    go_wp2
    have hput := room_put hR (.int .i64 0) (.int .i64 0) (.int .i64 0) (.string ⟨#[]⟩) (.string ⟨#[]⟩)
    refine bodyPost_ret (bump_res _ _ (w.heap.size + 1) rfl hput.1) rfl ?_
    refine ⟨rfl, ?_⟩
    go_grown

set_option maxHeartbeats 2000000 in
theorem bump_o (a b c : Int) (p q : ByteArray) (k : Int) (w : World) (hp : p.size ≤ 1048576) (hq : q.size ≤ 1048576) (hx : mayV (verS a b c p q) = true) (h0 : k ≠ 0) (h1 : k ≠ 1) (h2 : k ≠ 2) :
    Calls Tryd.prog 83 #[.agg #[.int .i64 a, .int .i64 b, .int .i64 c, .string p, .string q], .int .i64 k] w fun e w' => e = .returned (bumpVal (bumpV (verS a b c p q) k)) ∧ Below w.heap.size w w' := by
    have m1 := fun W => may_any a b c p q W hp hq
    rw [bump_other h0 h1 h2]
    rw [hx] at m1
    clear hx
    have e0 : (k == 0) = false := by simpa using h0
    have e1 : (k == 1) = false := by simpa using h1
    have e2 : (k == 2) = false := by simpa using h2
    go_enter Tryd.func83, Tryd.ntmps83
    go_wp2_with fail
    refine (m1 _).mono ?_
    rintro e w1 ⟨rfl, hb1⟩
    have hbB := (two_below w _ _).trans (hb1.mono (by simp; omega))
    have h55 := (two_five w _ _ _ _ _ _ _ _ _ _ _ _ hb1).1
    have hR := room_below (room_new (w.alloc _) _ _ _ _ _ _) (by simp) hb1
    simp only [World.size_alloc] at hR
    have hz : w.heap.size + 2 ≤ w1.heap.size := by have := hb1.size; simp at this; omega
    have hz0 : w.heap.size < w1.heap.size := by omega
    have hz1 : w.heap.size + 1 < w1.heap.size := by omega
    clear hb1
    obtain ⟨k0, k1, k2, k3, k4⟩ := id h55
    obtain ⟨⟨l0, l1, l2, l3, l4⟩, lf⟩ := id hR
    have f0 := lf 0
    have f1 := lf 1
    have f2 := lf 2
    have f3 := lf 3
    have f4 := lf 4
    go_wp2
    have hput := room_put hR (.int .i64 0) (.int .i64 0) (.int .i64 0) (.string ⟨#[]⟩) (.string ⟨#[]⟩)
    refine bodyPost_ret (bump_res _ _ (w.heap.size + 1) rfl (five_alloc hput.1 (by simpa [World.put5] using (show w.heap.size + 1 < w1.heap.size by omega)) _)) rfl ?_
    refine ⟨rfl, ?_⟩
    go_grown

set_option maxHeartbeats 2000000 in
theorem bump_0 (a b c : Int) (p q : ByteArray) (w : World) (hp : p.size ≤ 1048576) (hq : q.size ≤ 1048576) (hx : mayV (verS a b c p q) = true) :
    Calls Tryd.prog 83 #[.agg #[.int .i64 a, .int .i64 b, .int .i64 c, .string p, .string q], .int .i64 0] w fun e w' => e = .returned (bumpVal (bumpV (verS a b c p q) 0)) ∧ Below w.heap.size w w' := by
  have m1 := fun W => may_any a b c p q W hp hq
  have m2 := fun W => may_any (a + 1) (0) (0) ⟨#[]⟩ ⟨#[]⟩ W (by decide) (by decide)
  have HR := Lib.hid (bumpv_0 hx)
  obtain ⟨⟨ha0, ha1⟩, ⟨hb0, hb1⟩, ⟨hc0, hc1⟩⟩ := may_parts hx
  simp only [verS] at ha0 ha1 hb0 hb1 hc0 hc1
  rw [hx] at m1
  clear hx
  generalize bumpV (verS a b c p q) 0 = R at *
  cases hm : mayV (verS (a + 1) (0) (0) ⟨#[]⟩ ⟨#[]⟩)
  · have HF : Hid (R = none) := HR.out.trans (by show ifMay (verS (a + 1) (0) (0) ⟨#[]⟩ ⟨#[]⟩) = none; unfold ifMay; rw [hm]; rfl)
    rw [hm] at m2
    clear hm HR
    go_enter Tryd.func83, Tryd.ntmps83
    go_wp2_with fail
    refine (m1 _).mono ?_
    rintro e w1 ⟨rfl, hb1⟩
    have hbB := (two_below w _ _).trans (hb1.mono (by simp; omega))
    have h55 := (two_five w _ _ _ _ _ _ _ _ _ _ _ _ hb1).1
    have hR := room_below (room_new (w.alloc _) _ _ _ _ _ _) (by simp) hb1
    simp only [World.size_alloc] at hR
    have hz : w.heap.size + 2 ≤ w1.heap.size := by have := hb1.size; simp at this; omega
    have hz0 : w.heap.size < w1.heap.size := by omega
    have hz1 : w.heap.size + 1 < w1.heap.size := by omega
    clear hb1
    obtain ⟨k0, k1, k2, k3, k4⟩ := id h55
    obtain ⟨⟨l0, l1, l2, l3, l4⟩, lf⟩ := id hR
    have f0 := lf 0
    have f1 := lf 1
    have f2 := lf 2
    have f3 := lf 3
    have f4 := lf 4
    go_wp2_with fail
    refine (m2 _).mono ?_
    rintro e w2 ⟨rfl, hb2⟩
    have hBa : Below w.heap.size w (w1.alloc (.cells #[.int .i64 (a + 1), .int .i64 (0), .int .i64 (0), .string ⟨#[]⟩, .string ⟨#[]⟩] 24)) := hbB.trans ((box_below w1 _).mono hbB.size)
    have hR2 := room_below (room_below hR (by omega) (box_below w1 (.cells #[.int .i64 (a + 1), .int .i64 (0), .int .i64 (0), .string ⟨#[]⟩, .string ⟨#[]⟩] 24))) (by simp; omega) hb2
    obtain ⟨g0, g1, g2, g3, g4⟩ := cells5 w1 _ _ _ _ _ _ (by simpa using hb2)
    have hB2 := hBa.trans (hb2.mono hBa.size)
    have hz2 : w.heap.size + 2 ≤ w2.heap.size := by have := hb2.size; simp at this; omega
    clear hb2 l0 l1 l2 l3 l4 lf f0 f1 f2 f3 f4 k0 k1 k2 k3 k4 h55 hBa
    obtain ⟨⟨l0, l1, l2, l3, l4⟩, lf⟩ := id hR2
    have f0 := lf 0
    have f1 := lf 1
    have f2 := lf 2
    have f3 := lf 3
    have f4 := lf 4
    go_wp2_with fail
    have hput := room_put hR2 (.int .i64 0) (.int .i64 0) (.int .i64 0) (.string ⟨#[]⟩) (.string ⟨#[]⟩)
    refine bodyPost_ret (bump_res _ _ (w.heap.size + 1) rfl hput.1) rfl ?_
    rw [HF.out]
    refine ⟨rfl, ?_⟩
    go_grown
  · have HF : Hid (bumpVal R = .tuple #[.agg #[.int .i64 (a + 1), .int .i64 (0), .int .i64 (0), .string ⟨#[]⟩, .string ⟨#[]⟩], .bool true]) := by
      have h : R = some (verS (a + 1) (0) (0) ⟨#[]⟩ ⟨#[]⟩) := HR.out.trans (by show ifMay (verS (a + 1) (0) (0) ⟨#[]⟩ ⟨#[]⟩) = _; unfold ifMay; rw [hm]; rfl)
      rw [h]; rfl
    rw [hm] at m2
    clear hm HR
    go_enter Tryd.func83, Tryd.ntmps83
    go_wp2_with fail
    refine (m1 _).mono ?_
    rintro e w1 ⟨rfl, hb1⟩
    have hbB := (two_below w _ _).trans (hb1.mono (by simp; omega))
    have h55 := (two_five w _ _ _ _ _ _ _ _ _ _ _ _ hb1).1
    have hR := room_below (room_new (w.alloc _) _ _ _ _ _ _) (by simp) hb1
    simp only [World.size_alloc] at hR
    have hz : w.heap.size + 2 ≤ w1.heap.size := by have := hb1.size; simp at this; omega
    have hz0 : w.heap.size < w1.heap.size := by omega
    have hz1 : w.heap.size + 1 < w1.heap.size := by omega
    clear hb1
    obtain ⟨k0, k1, k2, k3, k4⟩ := id h55
    obtain ⟨⟨l0, l1, l2, l3, l4⟩, lf⟩ := id hR
    have f0 := lf 0
    have f1 := lf 1
    have f2 := lf 2
    have f3 := lf 3
    have f4 := lf 4
    go_wp2_with fail
    refine (m2 _).mono ?_
    rintro e w2 ⟨rfl, hb2⟩
    have hBa : Below w.heap.size w (w1.alloc (.cells #[.int .i64 (a + 1), .int .i64 (0), .int .i64 (0), .string ⟨#[]⟩, .string ⟨#[]⟩] 24)) := hbB.trans ((box_below w1 _).mono hbB.size)
    have hR2 := room_below (room_below hR (by omega) (box_below w1 (.cells #[.int .i64 (a + 1), .int .i64 (0), .int .i64 (0), .string ⟨#[]⟩, .string ⟨#[]⟩] 24))) (by simp; omega) hb2
    obtain ⟨g0, g1, g2, g3, g4⟩ := cells5 w1 _ _ _ _ _ _ (by simpa using hb2)
    have hB2 := hBa.trans (hb2.mono hBa.size)
    have hz2 : w.heap.size + 2 ≤ w2.heap.size := by have := hb2.size; simp at this; omega
    clear hb2 l0 l1 l2 l3 l4 lf f0 f1 f2 f3 f4 k0 k1 k2 k3 k4 h55 hBa
    obtain ⟨⟨l0, l1, l2, l3, l4⟩, lf⟩ := id hR2
    have f0 := lf 0
    have f1 := lf 1
    have f2 := lf 2
    have f3 := lf 3
    have f4 := lf 4
    go_wp2_with fail
    have hput := room_put hR2 (.int .i64 (a + 1)) (.int .i64 (0)) (.int .i64 (0)) (.string ⟨#[]⟩) (.string ⟨#[]⟩)
    refine bodyPost_ret (bump_res _ _ (w.heap.size + 1) rfl hput.1) rfl ?_
    rw [HF.out]
    refine ⟨rfl, ?_⟩
    go_grown

set_option maxHeartbeats 2000000 in
theorem bump_1 (a b c : Int) (p q : ByteArray) (w : World) (hp : p.size ≤ 1048576) (hq : q.size ≤ 1048576) (hx : mayV (verS a b c p q) = true) :
    Calls Tryd.prog 83 #[.agg #[.int .i64 a, .int .i64 b, .int .i64 c, .string p, .string q], .int .i64 1] w fun e w' => e = .returned (bumpVal (bumpV (verS a b c p q) 1)) ∧ Below w.heap.size w w' := by
  have m1 := fun W => may_any a b c p q W hp hq
  have m2 := fun W => may_any (a) (b + 1) (0) ⟨#[]⟩ ⟨#[]⟩ W (by decide) (by decide)
  have HR := Lib.hid (bumpv_1 hx)
  obtain ⟨⟨ha0, ha1⟩, ⟨hb0, hb1⟩, ⟨hc0, hc1⟩⟩ := may_parts hx
  simp only [verS] at ha0 ha1 hb0 hb1 hc0 hc1
  rw [hx] at m1
  clear hx
  generalize bumpV (verS a b c p q) 1 = R at *
  cases hm : mayV (verS (a) (b + 1) (0) ⟨#[]⟩ ⟨#[]⟩)
  · have HF : Hid (R = none) := HR.out.trans (by show ifMay (verS (a) (b + 1) (0) ⟨#[]⟩ ⟨#[]⟩) = none; unfold ifMay; rw [hm]; rfl)
    rw [hm] at m2
    clear hm HR
    go_enter Tryd.func83, Tryd.ntmps83
    go_wp2_with fail
    refine (m1 _).mono ?_
    rintro e w1 ⟨rfl, hb1⟩
    have hbB := (two_below w _ _).trans (hb1.mono (by simp; omega))
    have h55 := (two_five w _ _ _ _ _ _ _ _ _ _ _ _ hb1).1
    have hR := room_below (room_new (w.alloc _) _ _ _ _ _ _) (by simp) hb1
    simp only [World.size_alloc] at hR
    have hz : w.heap.size + 2 ≤ w1.heap.size := by have := hb1.size; simp at this; omega
    have hz0 : w.heap.size < w1.heap.size := by omega
    have hz1 : w.heap.size + 1 < w1.heap.size := by omega
    clear hb1
    obtain ⟨k0, k1, k2, k3, k4⟩ := id h55
    obtain ⟨⟨l0, l1, l2, l3, l4⟩, lf⟩ := id hR
    have f0 := lf 0
    have f1 := lf 1
    have f2 := lf 2
    have f3 := lf 3
    have f4 := lf 4
    go_wp2_with fail
    refine (m2 _).mono ?_
    rintro e w2 ⟨rfl, hb2⟩
    have hBa : Below w.heap.size w (w1.alloc (.cells #[.int .i64 (a), .int .i64 (b + 1), .int .i64 (0), .string ⟨#[]⟩, .string ⟨#[]⟩] 24)) := hbB.trans ((box_below w1 _).mono hbB.size)
    have hR2 := room_below (room_below hR (by omega) (box_below w1 (.cells #[.int .i64 (a), .int .i64 (b + 1), .int .i64 (0), .string ⟨#[]⟩, .string ⟨#[]⟩] 24))) (by simp; omega) hb2
    obtain ⟨g0, g1, g2, g3, g4⟩ := cells5 w1 _ _ _ _ _ _ (by simpa using hb2)
    have hB2 := hBa.trans (hb2.mono hBa.size)
    have hz2 : w.heap.size + 2 ≤ w2.heap.size := by have := hb2.size; simp at this; omega
    clear hb2 l0 l1 l2 l3 l4 lf f0 f1 f2 f3 f4 k0 k1 k2 k3 k4 h55 hBa
    obtain ⟨⟨l0, l1, l2, l3, l4⟩, lf⟩ := id hR2
    have f0 := lf 0
    have f1 := lf 1
    have f2 := lf 2
    have f3 := lf 3
    have f4 := lf 4
    go_wp2_with fail
    have hput := room_put hR2 (.int .i64 0) (.int .i64 0) (.int .i64 0) (.string ⟨#[]⟩) (.string ⟨#[]⟩)
    refine bodyPost_ret (bump_res _ _ (w.heap.size + 1) rfl hput.1) rfl ?_
    rw [HF.out]
    refine ⟨rfl, ?_⟩
    go_grown
  · have HF : Hid (bumpVal R = .tuple #[.agg #[.int .i64 (a), .int .i64 (b + 1), .int .i64 (0), .string ⟨#[]⟩, .string ⟨#[]⟩], .bool true]) := by
      have h : R = some (verS (a) (b + 1) (0) ⟨#[]⟩ ⟨#[]⟩) := HR.out.trans (by show ifMay (verS (a) (b + 1) (0) ⟨#[]⟩ ⟨#[]⟩) = _; unfold ifMay; rw [hm]; rfl)
      rw [h]; rfl
    rw [hm] at m2
    clear hm HR
    go_enter Tryd.func83, Tryd.ntmps83
    go_wp2_with fail
    refine (m1 _).mono ?_
    rintro e w1 ⟨rfl, hb1⟩
    have hbB := (two_below w _ _).trans (hb1.mono (by simp; omega))
    have h55 := (two_five w _ _ _ _ _ _ _ _ _ _ _ _ hb1).1
    have hR := room_below (room_new (w.alloc _) _ _ _ _ _ _) (by simp) hb1
    simp only [World.size_alloc] at hR
    have hz : w.heap.size + 2 ≤ w1.heap.size := by have := hb1.size; simp at this; omega
    have hz0 : w.heap.size < w1.heap.size := by omega
    have hz1 : w.heap.size + 1 < w1.heap.size := by omega
    clear hb1
    obtain ⟨k0, k1, k2, k3, k4⟩ := id h55
    obtain ⟨⟨l0, l1, l2, l3, l4⟩, lf⟩ := id hR
    have f0 := lf 0
    have f1 := lf 1
    have f2 := lf 2
    have f3 := lf 3
    have f4 := lf 4
    go_wp2_with fail
    refine (m2 _).mono ?_
    rintro e w2 ⟨rfl, hb2⟩
    have hBa : Below w.heap.size w (w1.alloc (.cells #[.int .i64 (a), .int .i64 (b + 1), .int .i64 (0), .string ⟨#[]⟩, .string ⟨#[]⟩] 24)) := hbB.trans ((box_below w1 _).mono hbB.size)
    have hR2 := room_below (room_below hR (by omega) (box_below w1 (.cells #[.int .i64 (a), .int .i64 (b + 1), .int .i64 (0), .string ⟨#[]⟩, .string ⟨#[]⟩] 24))) (by simp; omega) hb2
    obtain ⟨g0, g1, g2, g3, g4⟩ := cells5 w1 _ _ _ _ _ _ (by simpa using hb2)
    have hB2 := hBa.trans (hb2.mono hBa.size)
    have hz2 : w.heap.size + 2 ≤ w2.heap.size := by have := hb2.size; simp at this; omega
    clear hb2 l0 l1 l2 l3 l4 lf f0 f1 f2 f3 f4 k0 k1 k2 k3 k4 h55 hBa
    obtain ⟨⟨l0, l1, l2, l3, l4⟩, lf⟩ := id hR2
    have f0 := lf 0
    have f1 := lf 1
    have f2 := lf 2
    have f3 := lf 3
    have f4 := lf 4
    go_wp2_with fail
    have hput := room_put hR2 (.int .i64 (a)) (.int .i64 (b + 1)) (.int .i64 (0)) (.string ⟨#[]⟩) (.string ⟨#[]⟩)
    refine bodyPost_ret (bump_res _ _ (w.heap.size + 1) rfl hput.1) rfl ?_
    rw [HF.out]
    refine ⟨rfl, ?_⟩
    go_grown

set_option maxHeartbeats 2000000 in
theorem bump_2 (a b c : Int) (p q : ByteArray) (w : World) (hp : p.size ≤ 1048576) (hq : q.size ≤ 1048576) (hx : mayV (verS a b c p q) = true) :
    Calls Tryd.prog 83 #[.agg #[.int .i64 a, .int .i64 b, .int .i64 c, .string p, .string q], .int .i64 2] w fun e w' => e = .returned (bumpVal (bumpV (verS a b c p q) 2)) ∧ Below w.heap.size w w' := by
  have m1 := fun W => may_any a b c p q W hp hq
  have m2 := fun W => may_any (a) (b) (c + 1) ⟨#[]⟩ ⟨#[]⟩ W (by decide) (by decide)
  have HR := Lib.hid (bumpv_2 hx)
  obtain ⟨⟨ha0, ha1⟩, ⟨hb0, hb1⟩, ⟨hc0, hc1⟩⟩ := may_parts hx
  simp only [verS] at ha0 ha1 hb0 hb1 hc0 hc1
  rw [hx] at m1
  clear hx
  generalize bumpV (verS a b c p q) 2 = R at *
  cases hm : mayV (verS (a) (b) (c + 1) ⟨#[]⟩ ⟨#[]⟩)
  · have HF : Hid (R = none) := HR.out.trans (by show ifMay (verS (a) (b) (c + 1) ⟨#[]⟩ ⟨#[]⟩) = none; unfold ifMay; rw [hm]; rfl)
    rw [hm] at m2
    clear hm HR
    go_enter Tryd.func83, Tryd.ntmps83
    go_wp2_with fail
    refine (m1 _).mono ?_
    rintro e w1 ⟨rfl, hb1⟩
    have hbB := (two_below w _ _).trans (hb1.mono (by simp; omega))
    have h55 := (two_five w _ _ _ _ _ _ _ _ _ _ _ _ hb1).1
    have hR := room_below (room_new (w.alloc _) _ _ _ _ _ _) (by simp) hb1
    simp only [World.size_alloc] at hR
    have hz : w.heap.size + 2 ≤ w1.heap.size := by have := hb1.size; simp at this; omega
    have hz0 : w.heap.size < w1.heap.size := by omega
    have hz1 : w.heap.size + 1 < w1.heap.size := by omega
    clear hb1
    obtain ⟨k0, k1, k2, k3, k4⟩ := id h55
    obtain ⟨⟨l0, l1, l2, l3, l4⟩, lf⟩ := id hR
    have f0 := lf 0
    have f1 := lf 1
    have f2 := lf 2
    have f3 := lf 3
    have f4 := lf 4
    go_wp2_with fail
    refine (m2 _).mono ?_
    rintro e w2 ⟨rfl, hb2⟩
    have hBa : Below w.heap.size w (w1.alloc (.cells #[.int .i64 (a), .int .i64 (b), .int .i64 (c + 1), .string ⟨#[]⟩, .string ⟨#[]⟩] 24)) := hbB.trans ((box_below w1 _).mono hbB.size)
    have hR2 := room_below (room_below hR (by omega) (box_below w1 (.cells #[.int .i64 (a), .int .i64 (b), .int .i64 (c + 1), .string ⟨#[]⟩, .string ⟨#[]⟩] 24))) (by simp; omega) hb2
    obtain ⟨g0, g1, g2, g3, g4⟩ := cells5 w1 _ _ _ _ _ _ (by simpa using hb2)
    have hB2 := hBa.trans (hb2.mono hBa.size)
    have hz2 : w.heap.size + 2 ≤ w2.heap.size := by have := hb2.size; simp at this; omega
    clear hb2 l0 l1 l2 l3 l4 lf f0 f1 f2 f3 f4 k0 k1 k2 k3 k4 h55 hBa
    obtain ⟨⟨l0, l1, l2, l3, l4⟩, lf⟩ := id hR2
    have f0 := lf 0
    have f1 := lf 1
    have f2 := lf 2
    have f3 := lf 3
    have f4 := lf 4
    go_wp2_with fail
    have hput := room_put hR2 (.int .i64 0) (.int .i64 0) (.int .i64 0) (.string ⟨#[]⟩) (.string ⟨#[]⟩)
    refine bodyPost_ret (bump_res _ _ (w.heap.size + 1) rfl hput.1) rfl ?_
    rw [HF.out]
    refine ⟨rfl, ?_⟩
    go_grown
  · have HF : Hid (bumpVal R = .tuple #[.agg #[.int .i64 (a), .int .i64 (b), .int .i64 (c + 1), .string ⟨#[]⟩, .string ⟨#[]⟩], .bool true]) := by
      have h : R = some (verS (a) (b) (c + 1) ⟨#[]⟩ ⟨#[]⟩) := HR.out.trans (by show ifMay (verS (a) (b) (c + 1) ⟨#[]⟩ ⟨#[]⟩) = _; unfold ifMay; rw [hm]; rfl)
      rw [h]; rfl
    rw [hm] at m2
    clear hm HR
    go_enter Tryd.func83, Tryd.ntmps83
    go_wp2_with fail
    refine (m1 _).mono ?_
    rintro e w1 ⟨rfl, hb1⟩
    have hbB := (two_below w _ _).trans (hb1.mono (by simp; omega))
    have h55 := (two_five w _ _ _ _ _ _ _ _ _ _ _ _ hb1).1
    have hR := room_below (room_new (w.alloc _) _ _ _ _ _ _) (by simp) hb1
    simp only [World.size_alloc] at hR
    have hz : w.heap.size + 2 ≤ w1.heap.size := by have := hb1.size; simp at this; omega
    have hz0 : w.heap.size < w1.heap.size := by omega
    have hz1 : w.heap.size + 1 < w1.heap.size := by omega
    clear hb1
    obtain ⟨k0, k1, k2, k3, k4⟩ := id h55
    obtain ⟨⟨l0, l1, l2, l3, l4⟩, lf⟩ := id hR
    have f0 := lf 0
    have f1 := lf 1
    have f2 := lf 2
    have f3 := lf 3
    have f4 := lf 4
    go_wp2_with fail
    refine (m2 _).mono ?_
    rintro e w2 ⟨rfl, hb2⟩
    have hBa : Below w.heap.size w (w1.alloc (.cells #[.int .i64 (a), .int .i64 (b), .int .i64 (c + 1), .string ⟨#[]⟩, .string ⟨#[]⟩] 24)) := hbB.trans ((box_below w1 _).mono hbB.size)
    have hR2 := room_below (room_below hR (by omega) (box_below w1 (.cells #[.int .i64 (a), .int .i64 (b), .int .i64 (c + 1), .string ⟨#[]⟩, .string ⟨#[]⟩] 24))) (by simp; omega) hb2
    obtain ⟨g0, g1, g2, g3, g4⟩ := cells5 w1 _ _ _ _ _ _ (by simpa using hb2)
    have hB2 := hBa.trans (hb2.mono hBa.size)
    have hz2 : w.heap.size + 2 ≤ w2.heap.size := by have := hb2.size; simp at this; omega
    clear hb2 l0 l1 l2 l3 l4 lf f0 f1 f2 f3 f4 k0 k1 k2 k3 k4 h55 hBa
    obtain ⟨⟨l0, l1, l2, l3, l4⟩, lf⟩ := id hR2
    have f0 := lf 0
    have f1 := lf 1
    have f2 := lf 2
    have f3 := lf 3
    have f4 := lf 4
    go_wp2_with fail
    have hput := room_put hR2 (.int .i64 (a)) (.int .i64 (b)) (.int .i64 (c + 1)) (.string ⟨#[]⟩) (.string ⟨#[]⟩)
    refine bodyPost_ret (bump_res _ _ (w.heap.size + 1) rfl hput.1) rfl ?_
    rw [HF.out]
    refine ⟨rfl, ?_⟩
    go_grown

theorem bump_any (a b c : Int) (p q : ByteArray) (k : Int) (w : World) (hp : p.size ≤ 1048576) (hq : q.size ≤ 1048576) :
    Calls Tryd.prog 83 #[.agg #[.int .i64 a, .int .i64 b, .int .i64 c, .string p, .string q], .int .i64 k] w fun e w' => e = .returned (bumpVal (bumpV (verS a b c p q) k)) ∧ Below w.heap.size w w' := by
  cases hx : mayV (verS a b c p q)
  · exact bump_n a b c p q k w hp hq hx
  by_cases h0 : k = 0
  · subst h0; exact bump_0 a b c p q w hp hq hx
  by_cases h1 : k = 1
  · subst h1; exact bump_1 a b c p q w hp hq hx
  by_cases h2 : k = 2
  · subst h2; exact bump_2 a b c p q w hp hq hx
  exact bump_o a b c p q k w hp hq hx h0 h1 h2

set_option maxHeartbeats 2000000 in
theorem rbump_n (a b c : Int) (p q : ByteArray) (k : Int) (w : World) (hp : p.size ≤ 1048576) (hq : q.size ≤ 1048576) (hx : mayV (verS a b c p q) = false) :
    Calls Tryd.prog 104 #[.agg #[.int .i64 a, .int .i64 b, .int .i64 c, .string p, .string q], .int .i64 k] w fun e w' => e = .returned (bumpVal (bumpV (verS a b c p q) k)) ∧ Below w.heap.size w w' := by
    have m1 := fun W => rmay_any a b c p q W hp hq
    rw [bump_no hx]
    rw [hx] at m1
    clear hx
    go_enter Tryd.func104, Tryd.ntmps104
    go_wp2_with fail
    refine (m1 _).mono ?_
    rintro e w1 ⟨rfl, hb1⟩
    have hbB := (two_below w _ _).trans (hb1.mono (by simp; omega))
    have h55 := (two_five w _ _ _ _ _ _ _ _ _ _ _ _ hb1).1
    have hR := room_below (room_new (w.alloc _) _ _ _ _ _ _) (by simp) hb1
    simp only [World.size_alloc] at hR
    have hz : w.heap.size + 2 ≤ w1.heap.size := by have := hb1.size; simp at this; omega
    have hz0 : w.heap.size < w1.heap.size := by omega
    have hz1 : w.heap.size + 1 < w1.heap.size := by omega
    clear hb1
    obtain ⟨k0, k1, k2, k3, k4⟩ := id h55
    obtain ⟨⟨l0, l1, l2, l3, l4⟩, lf⟩ := id hR
    have f0 := lf 0
    have f1 := lf 1
    have f2 := lf 2
    have f3 := lf 3
    have f4 := lf 4
    go_wp2
    have hput := room_put hR (.int .i64 0) (.int .i64 0) (.int .i64 0) (.string ⟨#[]⟩) (.string ⟨#[]⟩)
    refine bodyPost_ret (rbump_res _ _ (w.heap.size + 1) rfl hput.1) rfl ?_
    refine ⟨rfl, ?_⟩
    go_grown

set_option maxHeartbeats 2000000 in
theorem rbump_o (a b c : Int) (p q : ByteArray) (k : Int) (w : World) (hp : p.size ≤ 1048576) (hq : q.size ≤ 1048576) (hx : mayV (verS a b c p q) = true) (h0 : k < 0 ∨ 2 < k) :
    Calls Tryd.prog 104 #[.agg #[.int .i64 a, .int .i64 b, .int .i64 c, .string p, .string q], .int .i64 k] w fun e w' => e = .returned (bumpVal (bumpV (verS a b c p q) k)) ∧ Below w.heap.size w w' := by
    have m1 := fun W => rmay_any a b c p q W hp hq
    rw [bump_other (by omega) (by omega) (by omega)]
    rw [hx] at m1
    clear hx
    rcases h0 with h0 | h0
    · go_enter Tryd.func104, Tryd.ntmps104
      go_wp2_with fail
      refine (m1 _).mono ?_
      rintro e w1 ⟨rfl, hb1⟩
      have hbB := (two_below w _ _).trans (hb1.mono (by simp; omega))
      have h55 := (two_five w _ _ _ _ _ _ _ _ _ _ _ _ hb1).1
      have hR := room_below (room_new (w.alloc _) _ _ _ _ _ _) (by simp) hb1
      simp only [World.size_alloc] at hR
      have hz : w.heap.size + 2 ≤ w1.heap.size := by have := hb1.size; simp at this; omega
      have hz0 : w.heap.size < w1.heap.size := by omega
      have hz1 : w.heap.size + 1 < w1.heap.size := by omega
      clear hb1
      obtain ⟨k0, k1, k2, k3, k4⟩ := id h55
      obtain ⟨⟨l0, l1, l2, l3, l4⟩, lf⟩ := id hR
      have f0 := lf 0
      have f1 := lf 1
      have f2 := lf 2
      have f3 := lf 3
      have f4 := lf 4
      go_wp2
      have hput := room_put hR (.int .i64 0) (.int .i64 0) (.int .i64 0) (.string ⟨#[]⟩) (.string ⟨#[]⟩)
      refine bodyPost_ret (rbump_res _ _ (w.heap.size + 1) rfl hput.1) rfl ?_
      refine ⟨rfl, ?_⟩
      go_grown
    · have h1 : ¬ k < 0 := by omega
      go_enter Tryd.func104, Tryd.ntmps104
      go_wp2_with fail
      refine (m1 _).mono ?_
      rintro e w1 ⟨rfl, hb1⟩
      have hbB := (two_below w _ _).trans (hb1.mono (by simp; omega))
      have h55 := (two_five w _ _ _ _ _ _ _ _ _ _ _ _ hb1).1
      have hR := room_below (room_new (w.alloc _) _ _ _ _ _ _) (by simp) hb1
      simp only [World.size_alloc] at hR
      have hz : w.heap.size + 2 ≤ w1.heap.size := by have := hb1.size; simp at this; omega
      have hz0 : w.heap.size < w1.heap.size := by omega
      have hz1 : w.heap.size + 1 < w1.heap.size := by omega
      clear hb1
      obtain ⟨k0, k1, k2, k3, k4⟩ := id h55
      obtain ⟨⟨l0, l1, l2, l3, l4⟩, lf⟩ := id hR
      have f0 := lf 0
      have f1 := lf 1
      have f2 := lf 2
      have f3 := lf 3
      have f4 := lf 4
      go_wp2
      have hput := room_put hR (.int .i64 0) (.int .i64 0) (.int .i64 0) (.string ⟨#[]⟩) (.string ⟨#[]⟩)
      refine bodyPost_ret (rbump_res _ _ (w.heap.size + 1) rfl hput.1) rfl ?_
      refine ⟨rfl, ?_⟩
      go_grown

set_option maxHeartbeats 2000000 in
theorem rbump_0 (a b c : Int) (p q : ByteArray) (w : World) (hp : p.size ≤ 1048576) (hq : q.size ≤ 1048576) (hx : mayV (verS a b c p q) = true) :
    Calls Tryd.prog 104 #[.agg #[.int .i64 a, .int .i64 b, .int .i64 c, .string p, .string q], .int .i64 0] w fun e w' => e = .returned (bumpVal (bumpV (verS a b c p q) 0)) ∧ Below w.heap.size w w' := by
  have m1 := fun W => rmay_any a b c p q W hp hq
  have m2 := fun W => rmay_any (a + 1) (0) (0) ⟨#[]⟩ ⟨#[]⟩ W (by decide) (by decide)
  have HR := Lib.hid (bumpv_0 hx)
  obtain ⟨⟨ha0, ha1⟩, ⟨hb0, hb1⟩, ⟨hc0, hc1⟩⟩ := may_parts hx
  simp only [verS] at ha0 ha1 hb0 hb1 hc0 hc1
  rw [hx] at m1
  clear hx
  generalize bumpV (verS a b c p q) 0 = R at *
  cases hm : mayV (verS (a + 1) (0) (0) ⟨#[]⟩ ⟨#[]⟩)
  · have HF : Hid (R = none) := HR.out.trans (by show ifMay (verS (a + 1) (0) (0) ⟨#[]⟩ ⟨#[]⟩) = none; unfold ifMay; rw [hm]; rfl)
    rw [hm] at m2
    clear hm HR
    go_enter Tryd.func104, Tryd.ntmps104
    go_wp2_with fail
    refine (m1 _).mono ?_
    rintro e w1 ⟨rfl, hb1⟩
    have hbB := (two_below w _ _).trans (hb1.mono (by simp; omega))
    have h55 := (two_five w _ _ _ _ _ _ _ _ _ _ _ _ hb1).1
    have hR := room_below (room_new (w.alloc _) _ _ _ _ _ _) (by simp) hb1
    simp only [World.size_alloc] at hR
    have hz : w.heap.size + 2 ≤ w1.heap.size := by have := hb1.size; simp at this; omega
    have hz0 : w.heap.size < w1.heap.size := by omega
    have hz1 : w.heap.size + 1 < w1.heap.size := by omega
    clear hb1
    obtain ⟨k0, k1, k2, k3, k4⟩ := id h55
    obtain ⟨⟨l0, l1, l2, l3, l4⟩, lf⟩ := id hR
    have f0 := lf 0
    have f1 := lf 1
    have f2 := lf 2
    have f3 := lf 3
    have f4 := lf 4
    go_wp2_with fail
    refine (m2 _).mono ?_
    rintro e w2 ⟨rfl, hb2⟩
    have hBa : Below w.heap.size w (w1.alloc (.cells #[.int .i64 (a + 1), .int .i64 (0), .int .i64 (0), .string ⟨#[]⟩, .string ⟨#[]⟩] 24)) := hbB.trans ((box_below w1 _).mono hbB.size)
    have hR2 := room_below (room_below hR (by omega) (box_below w1 (.cells #[.int .i64 (a + 1), .int .i64 (0), .int .i64 (0), .string ⟨#[]⟩, .string ⟨#[]⟩] 24))) (by simp; omega) hb2
    obtain ⟨g0, g1, g2, g3, g4⟩ := cells5 w1 _ _ _ _ _ _ (by simpa using hb2)
    have hB2 := hBa.trans (hb2.mono hBa.size)
    have hz2 : w.heap.size + 2 ≤ w2.heap.size := by have := hb2.size; simp at this; omega
    clear hb2 l0 l1 l2 l3 l4 lf f0 f1 f2 f3 f4 k0 k1 k2 k3 k4 h55 hBa
    obtain ⟨⟨l0, l1, l2, l3, l4⟩, lf⟩ := id hR2
    have f0 := lf 0
    have f1 := lf 1
    have f2 := lf 2
    have f3 := lf 3
    have f4 := lf 4
    go_wp2_with fail
    have hput := room_put hR2 (.int .i64 0) (.int .i64 0) (.int .i64 0) (.string ⟨#[]⟩) (.string ⟨#[]⟩)
    refine bodyPost_ret (rbump_res _ _ (w.heap.size + 1) rfl hput.1) rfl ?_
    rw [HF.out]
    refine ⟨rfl, ?_⟩
    go_grown
  · have HF : Hid (bumpVal R = .tuple #[.agg #[.int .i64 (a + 1), .int .i64 (0), .int .i64 (0), .string ⟨#[]⟩, .string ⟨#[]⟩], .bool true]) := by
      have h : R = some (verS (a + 1) (0) (0) ⟨#[]⟩ ⟨#[]⟩) := HR.out.trans (by show ifMay (verS (a + 1) (0) (0) ⟨#[]⟩ ⟨#[]⟩) = _; unfold ifMay; rw [hm]; rfl)
      rw [h]; rfl
    rw [hm] at m2
    clear hm HR
    go_enter Tryd.func104, Tryd.ntmps104
    go_wp2_with fail
    refine (m1 _).mono ?_
    rintro e w1 ⟨rfl, hb1⟩
    have hbB := (two_below w _ _).trans (hb1.mono (by simp; omega))
    have h55 := (two_five w _ _ _ _ _ _ _ _ _ _ _ _ hb1).1
    have hR := room_below (room_new (w.alloc _) _ _ _ _ _ _) (by simp) hb1
    simp only [World.size_alloc] at hR
    have hz : w.heap.size + 2 ≤ w1.heap.size := by have := hb1.size; simp at this; omega
    have hz0 : w.heap.size < w1.heap.size := by omega
    have hz1 : w.heap.size + 1 < w1.heap.size := by omega
    clear hb1
    obtain ⟨k0, k1, k2, k3, k4⟩ := id h55
    obtain ⟨⟨l0, l1, l2, l3, l4⟩, lf⟩ := id hR
    have f0 := lf 0
    have f1 := lf 1
    have f2 := lf 2
    have f3 := lf 3
    have f4 := lf 4
    go_wp2_with fail
    refine (m2 _).mono ?_
    rintro e w2 ⟨rfl, hb2⟩
    have hBa : Below w.heap.size w (w1.alloc (.cells #[.int .i64 (a + 1), .int .i64 (0), .int .i64 (0), .string ⟨#[]⟩, .string ⟨#[]⟩] 24)) := hbB.trans ((box_below w1 _).mono hbB.size)
    have hR2 := room_below (room_below hR (by omega) (box_below w1 (.cells #[.int .i64 (a + 1), .int .i64 (0), .int .i64 (0), .string ⟨#[]⟩, .string ⟨#[]⟩] 24))) (by simp; omega) hb2
    obtain ⟨g0, g1, g2, g3, g4⟩ := cells5 w1 _ _ _ _ _ _ (by simpa using hb2)
    have hB2 := hBa.trans (hb2.mono hBa.size)
    have hz2 : w.heap.size + 2 ≤ w2.heap.size := by have := hb2.size; simp at this; omega
    clear hb2 l0 l1 l2 l3 l4 lf f0 f1 f2 f3 f4 k0 k1 k2 k3 k4 h55 hBa
    obtain ⟨⟨l0, l1, l2, l3, l4⟩, lf⟩ := id hR2
    have f0 := lf 0
    have f1 := lf 1
    have f2 := lf 2
    have f3 := lf 3
    have f4 := lf 4
    go_wp2_with fail
    have hput := room_put hR2 (.int .i64 (a + 1)) (.int .i64 (0)) (.int .i64 (0)) (.string ⟨#[]⟩) (.string ⟨#[]⟩)
    refine bodyPost_ret (rbump_res _ _ (w.heap.size + 1) rfl hput.1) rfl ?_
    rw [HF.out]
    refine ⟨rfl, ?_⟩
    go_grown

set_option maxHeartbeats 2000000 in
theorem rbump_1 (a b c : Int) (p q : ByteArray) (w : World) (hp : p.size ≤ 1048576) (hq : q.size ≤ 1048576) (hx : mayV (verS a b c p q) = true) :
    Calls Tryd.prog 104 #[.agg #[.int .i64 a, .int .i64 b, .int .i64 c, .string p, .string q], .int .i64 1] w fun e w' => e = .returned (bumpVal (bumpV (verS a b c p q) 1)) ∧ Below w.heap.size w w' := by
  have m1 := fun W => rmay_any a b c p q W hp hq
  have m2 := fun W => rmay_any (a) (b + 1) (0) ⟨#[]⟩ ⟨#[]⟩ W (by decide) (by decide)
  have HR := Lib.hid (bumpv_1 hx)
  obtain ⟨⟨ha0, ha1⟩, ⟨hb0, hb1⟩, ⟨hc0, hc1⟩⟩ := may_parts hx
  simp only [verS] at ha0 ha1 hb0 hb1 hc0 hc1
  rw [hx] at m1
  clear hx
  generalize bumpV (verS a b c p q) 1 = R at *
  cases hm : mayV (verS (a) (b + 1) (0) ⟨#[]⟩ ⟨#[]⟩)
  · have HF : Hid (R = none) := HR.out.trans (by show ifMay (verS (a) (b + 1) (0) ⟨#[]⟩ ⟨#[]⟩) = none; unfold ifMay; rw [hm]; rfl)
    rw [hm] at m2
    clear hm HR
    go_enter Tryd.func104, Tryd.ntmps104
    go_wp2_with fail
    refine (m1 _).mono ?_
    rintro e w1 ⟨rfl, hb1⟩
    have hbB := (two_below w _ _).trans (hb1.mono (by simp; omega))
    have h55 := (two_five w _ _ _ _ _ _ _ _ _ _ _ _ hb1).1
    have hR := room_below (room_new (w.alloc _) _ _ _ _ _ _) (by simp) hb1
    simp only [World.size_alloc] at hR
    have hz : w.heap.size + 2 ≤ w1.heap.size := by have := hb1.size; simp at this; omega
    have hz0 : w.heap.size < w1.heap.size := by omega
    have hz1 : w.heap.size + 1 < w1.heap.size := by omega
    clear hb1
    obtain ⟨k0, k1, k2, k3, k4⟩ := id h55
    obtain ⟨⟨l0, l1, l2, l3, l4⟩, lf⟩ := id hR
    have f0 := lf 0
    have f1 := lf 1
    have f2 := lf 2
    have f3 := lf 3
    have f4 := lf 4
    go_wp2_with fail
    refine (m2 _).mono ?_
    rintro e w2 ⟨rfl, hb2⟩
    have hBa : Below w.heap.size w (w1.alloc (.cells #[.int .i64 (a), .int .i64 (b + 1), .int .i64 (0), .string ⟨#[]⟩, .string ⟨#[]⟩] 24)) := hbB.trans ((box_below w1 _).mono hbB.size)
    have hR2 := room_below (room_below hR (by omega) (box_below w1 (.cells #[.int .i64 (a), .int .i64 (b + 1), .int .i64 (0), .string ⟨#[]⟩, .string ⟨#[]⟩] 24))) (by simp; omega) hb2
    obtain ⟨g0, g1, g2, g3, g4⟩ := cells5 w1 _ _ _ _ _ _ (by simpa using hb2)
    have hB2 := hBa.trans (hb2.mono hBa.size)
    have hz2 : w.heap.size + 2 ≤ w2.heap.size := by have := hb2.size; simp at this; omega
    clear hb2 l0 l1 l2 l3 l4 lf f0 f1 f2 f3 f4 k0 k1 k2 k3 k4 h55 hBa
    obtain ⟨⟨l0, l1, l2, l3, l4⟩, lf⟩ := id hR2
    have f0 := lf 0
    have f1 := lf 1
    have f2 := lf 2
    have f3 := lf 3
    have f4 := lf 4
    go_wp2_with fail
    have hput := room_put hR2 (.int .i64 0) (.int .i64 0) (.int .i64 0) (.string ⟨#[]⟩) (.string ⟨#[]⟩)
    refine bodyPost_ret (rbump_res _ _ (w.heap.size + 1) rfl hput.1) rfl ?_
    rw [HF.out]
    refine ⟨rfl, ?_⟩
    go_grown
  · have HF : Hid (bumpVal R = .tuple #[.agg #[.int .i64 (a), .int .i64 (b + 1), .int .i64 (0), .string ⟨#[]⟩, .string ⟨#[]⟩], .bool true]) := by
      have h : R = some (verS (a) (b + 1) (0) ⟨#[]⟩ ⟨#[]⟩) := HR.out.trans (by show ifMay (verS (a) (b + 1) (0) ⟨#[]⟩ ⟨#[]⟩) = _; unfold ifMay; rw [hm]; rfl)
      rw [h]; rfl
    rw [hm] at m2
    clear hm HR
    go_enter Tryd.func104, Tryd.ntmps104
    go_wp2_with fail
    refine (m1 _).mono ?_
    rintro e w1 ⟨rfl, hb1⟩
    have hbB := (two_below w _ _).trans (hb1.mono (by simp; omega))
    have h55 := (two_five w _ _ _ _ _ _ _ _ _ _ _ _ hb1).1
    have hR := room_below (room_new (w.alloc _) _ _ _ _ _ _) (by simp) hb1
    simp only [World.size_alloc] at hR
    have hz : w.heap.size + 2 ≤ w1.heap.size := by have := hb1.size; simp at this; omega
    have hz0 : w.heap.size < w1.heap.size := by omega
    have hz1 : w.heap.size + 1 < w1.heap.size := by omega
    clear hb1
    obtain ⟨k0, k1, k2, k3, k4⟩ := id h55
    obtain ⟨⟨l0, l1, l2, l3, l4⟩, lf⟩ := id hR
    have f0 := lf 0
    have f1 := lf 1
    have f2 := lf 2
    have f3 := lf 3
    have f4 := lf 4
    go_wp2_with fail
    refine (m2 _).mono ?_
    rintro e w2 ⟨rfl, hb2⟩
    have hBa : Below w.heap.size w (w1.alloc (.cells #[.int .i64 (a), .int .i64 (b + 1), .int .i64 (0), .string ⟨#[]⟩, .string ⟨#[]⟩] 24)) := hbB.trans ((box_below w1 _).mono hbB.size)
    have hR2 := room_below (room_below hR (by omega) (box_below w1 (.cells #[.int .i64 (a), .int .i64 (b + 1), .int .i64 (0), .string ⟨#[]⟩, .string ⟨#[]⟩] 24))) (by simp; omega) hb2
    obtain ⟨g0, g1, g2, g3, g4⟩ := cells5 w1 _ _ _ _ _ _ (by simpa using hb2)
    have hB2 := hBa.trans (hb2.mono hBa.size)
    have hz2 : w.heap.size + 2 ≤ w2.heap.size := by have := hb2.size; simp at this; omega
    clear hb2 l0 l1 l2 l3 l4 lf f0 f1 f2 f3 f4 k0 k1 k2 k3 k4 h55 hBa
    obtain ⟨⟨l0, l1, l2, l3, l4⟩, lf⟩ := id hR2
    have f0 := lf 0
    have f1 := lf 1
    have f2 := lf 2
    have f3 := lf 3
    have f4 := lf 4
    go_wp2_with fail
    have hput := room_put hR2 (.int .i64 (a)) (.int .i64 (b + 1)) (.int .i64 (0)) (.string ⟨#[]⟩) (.string ⟨#[]⟩)
    refine bodyPost_ret (rbump_res _ _ (w.heap.size + 1) rfl hput.1) rfl ?_
    rw [HF.out]
    refine ⟨rfl, ?_⟩
    go_grown

set_option maxHeartbeats 2000000 in
theorem rbump_2 (a b c : Int) (p q : ByteArray) (w : World) (hp : p.size ≤ 1048576) (hq : q.size ≤ 1048576) (hx : mayV (verS a b c p q) = true) :
    Calls Tryd.prog 104 #[.agg #[.int .i64 a, .int .i64 b, .int .i64 c, .string p, .string q], .int .i64 2] w fun e w' => e = .returned (bumpVal (bumpV (verS a b c p q) 2)) ∧ Below w.heap.size w w' := by
  have m1 := fun W => rmay_any a b c p q W hp hq
  have m2 := fun W => rmay_any (a) (b) (c + 1) ⟨#[]⟩ ⟨#[]⟩ W (by decide) (by decide)
  have HR := Lib.hid (bumpv_2 hx)
  obtain ⟨⟨ha0, ha1⟩, ⟨hb0, hb1⟩, ⟨hc0, hc1⟩⟩ := may_parts hx
  simp only [verS] at ha0 ha1 hb0 hb1 hc0 hc1
  rw [hx] at m1
  clear hx
  generalize bumpV (verS a b c p q) 2 = R at *
  cases hm : mayV (verS (a) (b) (c + 1) ⟨#[]⟩ ⟨#[]⟩)
  · have HF : Hid (R = none) := HR.out.trans (by show ifMay (verS (a) (b) (c + 1) ⟨#[]⟩ ⟨#[]⟩) = none; unfold ifMay; rw [hm]; rfl)
    rw [hm] at m2
    clear hm HR
    go_enter Tryd.func104, Tryd.ntmps104
    go_wp2_with fail
    refine (m1 _).mono ?_
    rintro e w1 ⟨rfl, hb1⟩
    have hbB := (two_below w _ _).trans (hb1.mono (by simp; omega))
    have h55 := (two_five w _ _ _ _ _ _ _ _ _ _ _ _ hb1).1
    have hR := room_below (room_new (w.alloc _) _ _ _ _ _ _) (by simp) hb1
    simp only [World.size_alloc] at hR
    have hz : w.heap.size + 2 ≤ w1.heap.size := by have := hb1.size; simp at this; omega
    have hz0 : w.heap.size < w1.heap.size := by omega
    have hz1 : w.heap.size + 1 < w1.heap.size := by omega
    clear hb1
    obtain ⟨k0, k1, k2, k3, k4⟩ := id h55
    obtain ⟨⟨l0, l1, l2, l3, l4⟩, lf⟩ := id hR
    have f0 := lf 0
    have f1 := lf 1
    have f2 := lf 2
    have f3 := lf 3
    have f4 := lf 4
    go_wp2_with fail
    refine (m2 _).mono ?_
    rintro e w2 ⟨rfl, hb2⟩
    have hBa : Below w.heap.size w (w1.alloc (.cells #[.int .i64 (a), .int .i64 (b), .int .i64 (c + 1), .string ⟨#[]⟩, .string ⟨#[]⟩] 24)) := hbB.trans ((box_below w1 _).mono hbB.size)
    have hR2 := room_below (room_below hR (by omega) (box_below w1 (.cells #[.int .i64 (a), .int .i64 (b), .int .i64 (c + 1), .string ⟨#[]⟩, .string ⟨#[]⟩] 24))) (by simp; omega) hb2
    obtain ⟨g0, g1, g2, g3, g4⟩ := cells5 w1 _ _ _ _ _ _ (by simpa using hb2)
    have hB2 := hBa.trans (hb2.mono hBa.size)
    have hz2 : w.heap.size + 2 ≤ w2.heap.size := by have := hb2.size; simp at this; omega
    clear hb2 l0 l1 l2 l3 l4 lf f0 f1 f2 f3 f4 k0 k1 k2 k3 k4 h55 hBa
    obtain ⟨⟨l0, l1, l2, l3, l4⟩, lf⟩ := id hR2
    have f0 := lf 0
    have f1 := lf 1
    have f2 := lf 2
    have f3 := lf 3
    have f4 := lf 4
    go_wp2_with fail
    have hput := room_put hR2 (.int .i64 0) (.int .i64 0) (.int .i64 0) (.string ⟨#[]⟩) (.string ⟨#[]⟩)
    refine bodyPost_ret (rbump_res _ _ (w.heap.size + 1) rfl hput.1) rfl ?_
    rw [HF.out]
    refine ⟨rfl, ?_⟩
    go_grown
  · have HF : Hid (bumpVal R = .tuple #[.agg #[.int .i64 (a), .int .i64 (b), .int .i64 (c + 1), .string ⟨#[]⟩, .string ⟨#[]⟩], .bool true]) := by
      have h : R = some (verS (a) (b) (c + 1) ⟨#[]⟩ ⟨#[]⟩) := HR.out.trans (by show ifMay (verS (a) (b) (c + 1) ⟨#[]⟩ ⟨#[]⟩) = _; unfold ifMay; rw [hm]; rfl)
      rw [h]; rfl
    rw [hm] at m2
    clear hm HR
    go_enter Tryd.func104, Tryd.ntmps104
    go_wp2_with fail
    refine (m1 _).mono ?_
    rintro e w1 ⟨rfl, hb1⟩
    have hbB := (two_below w _ _).trans (hb1.mono (by simp; omega))
    have h55 := (two_five w _ _ _ _ _ _ _ _ _ _ _ _ hb1).1
    have hR := room_below (room_new (w.alloc _) _ _ _ _ _ _) (by simp) hb1
    simp only [World.size_alloc] at hR
    have hz : w.heap.size + 2 ≤ w1.heap.size := by have := hb1.size; simp at this; omega
    have hz0 : w.heap.size < w1.heap.size := by omega
    have hz1 : w.heap.size + 1 < w1.heap.size := by omega
    clear hb1
    obtain ⟨k0, k1, k2, k3, k4⟩ := id h55
    obtain ⟨⟨l0, l1, l2, l3, l4⟩, lf⟩ := id hR
    have f0 := lf 0
    have f1 := lf 1
    have f2 := lf 2
    have f3 := lf 3
    have f4 := lf 4
    go_wp2_with fail
    refine (m2 _).mono ?_
    rintro e w2 ⟨rfl, hb2⟩
    have hBa : Below w.heap.size w (w1.alloc (.cells #[.int .i64 (a), .int .i64 (b), .int .i64 (c + 1), .string ⟨#[]⟩, .string ⟨#[]⟩] 24)) := hbB.trans ((box_below w1 _).mono hbB.size)
    have hR2 := room_below (room_below hR (by omega) (box_below w1 (.cells #[.int .i64 (a), .int .i64 (b), .int .i64 (c + 1), .string ⟨#[]⟩, .string ⟨#[]⟩] 24))) (by simp; omega) hb2
    obtain ⟨g0, g1, g2, g3, g4⟩ := cells5 w1 _ _ _ _ _ _ (by simpa using hb2)
    have hB2 := hBa.trans (hb2.mono hBa.size)
    have hz2 : w.heap.size + 2 ≤ w2.heap.size := by have := hb2.size; simp at this; omega
    clear hb2 l0 l1 l2 l3 l4 lf f0 f1 f2 f3 f4 k0 k1 k2 k3 k4 h55 hBa
    obtain ⟨⟨l0, l1, l2, l3, l4⟩, lf⟩ := id hR2
    have f0 := lf 0
    have f1 := lf 1
    have f2 := lf 2
    have f3 := lf 3
    have f4 := lf 4
    go_wp2_with fail
    have hput := room_put hR2 (.int .i64 (a)) (.int .i64 (b)) (.int .i64 (c + 1)) (.string ⟨#[]⟩) (.string ⟨#[]⟩)
    refine bodyPost_ret (rbump_res _ _ (w.heap.size + 1) rfl hput.1) rfl ?_
    rw [HF.out]
    refine ⟨rfl, ?_⟩
    go_grown

theorem rbump_any (a b c : Int) (p q : ByteArray) (k : Int) (w : World) (hp : p.size ≤ 1048576) (hq : q.size ≤ 1048576) :
    Calls Tryd.prog 104 #[.agg #[.int .i64 a, .int .i64 b, .int .i64 c, .string p, .string q], .int .i64 k] w fun e w' => e = .returned (bumpVal (bumpV (verS a b c p q) k)) ∧ Below w.heap.size w w' := by
  cases hx : mayV (verS a b c p q)
  · exact rbump_n a b c p q k w hp hq hx
  by_cases h0 : k = 0
  · subst h0; exact rbump_0 a b c p q w hp hq hx
  by_cases h1 : k = 1
  · subst h1; exact rbump_1 a b c p q w hp hq hx
  by_cases h2 : k = 2
  · subst h2; exact rbump_2 a b c p q w hp hq hx
  exact rbump_o a b c p q k w hp hq hx (by omega)
end Go.Proofs.YthaagngoefieaaaDoor
