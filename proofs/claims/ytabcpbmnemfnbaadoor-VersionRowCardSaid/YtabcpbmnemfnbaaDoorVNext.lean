/-
  The walks of chapter 2's Next, the program's and the reference's. Conditions: Pre and Build have at most 1048576 bytes.
-/
import Derived.Test.YtabcpbmnemfnbaaDoorVBump
namespace Go.Proofs.YtabcpbmnemfnbaaDoor
open Go.ChangeShapes Go.WideShapes Go.ChangeAt Go.RowKit
set_option linter.unusedVariables false

theorem next_no {v : Ver} (h : mayV v = false) : nextV v = none := by unfold nextV; rw [if_neg (by rw [h]; decide)]
theorem next_pre {a b c : Int} {p q : ByteArray} (h : mayV (verS a b c p q) = true) (h0 : p.data.toList ≠ []) : nextV (verS a b c p q) = some (relV a b c) := by unfold nextV; rw [if_pos h, if_pos (show (verS a b c p q).pre ≠ [] from h0)]; rfl
/-- The parts that a round has behind it. -/
def NextQ (B : Int → Option Ver) (j : Nat) : Prop := (0 < j → B 2 = none) ∧ (1 < j → B 1 = none) ∧ (2 < j → B 0 = none)
theorem nextq_0 (B : Int → Option Ver) : NextQ B 0 := ⟨by omega, by omega, by omega⟩
theorem next_rel {v : Ver} (h : mayV v = true) (h0 : v.pre = []) : nextV v = match bumpV v 2 with | some r => some r | none => match bumpV v 1 with | some r => some r | none => bumpV v 0 := by unfold nextV; rw [if_pos h, if_neg (fun k => k h0)]; rfl

theorem next_res (W : World) (tmps : Array Value) (b : Nat) {x0 x1 x2 x3 x4 : Value} (h2 : tmps[2]?.getD undef = .pointer (some ⟨b, 0, none⟩)) (h : Five W b x0 x1 x2 x3 x4) :
    (results Tryd.f27 tmps).run Tryd.prog W = .ok (.tuple #[.agg #[x0, x1, x2, x3, x4], tmps[3]?.getD undef]) W := by
  obtain ⟨k0, k1, k2, k3, k4⟩ := h
  simp [results, Tryd.results27, h2, go_sem, k0, k1, k2, k3, k4]

set_option maxHeartbeats 2000000 in
theorem next_n (a b c : Int) (p q : ByteArray) (w : World) (hp : p.size ≤ 1048576) (hq : q.size ≤ 1048576) (hx : mayV (verS a b c p q) = false) :
    Calls Tryd.prog 27 #[.agg #[.int .i64 a, .int .i64 b, .int .i64 c, .string p, .string q]] w fun e w' => e = .returned (bumpVal (nextV (verS a b c p q))) ∧ Below w.heap.size w w' := by
  have m1 := fun W => may_any a b c p q W hp hq
  rw [next_no hx]
  rw [hx] at m1
  clear hx
  go_enter Tryd.func27, Tryd.ntmps27
  go_wp2_with fail
  refine (m1 _).mono ?_
  rintro e w1 ⟨rfl, hb1⟩
  have hbB := (two_below w _ _).trans (hb1.mono (by simp; omega))
  have h55 := (two_five w _ _ _ _ _ _ _ _ _ _ _ _ hb1).1
  have hR := room_below (room_new (w.alloc _) _ _ _ _ _ _) (by simp) hb1
  simp only [World.size_alloc] at hR
  have hz : w.heap.size + 2 ≤ w1.heap.size := by have := hb1.size; simp at this; omega
  clear hb1
  obtain ⟨k0, k1, k2, k3, k4⟩ := id h55
  obtain ⟨⟨l0, l1, l2, l3, l4⟩, lf⟩ := id hR
  have f0 := lf 0
  have f1 := lf 1
  have f2 := lf 2
  have f3 := lf 3
  have f4 := lf 4
  go_wp2
  have hput := room_put hR (.int .i64 0) (.int .i64 0) (.int .i64 0) (.string ⟨#[]⟩) (.string ⟨#[]⟩)
  refine bodyPost_ret (next_res _ _ (w.heap.size + 1) rfl hput.1) rfl ?_
  refine ⟨rfl, ?_⟩
  go_grown

set_option maxHeartbeats 2000000 in
theorem next_p (a b c : Int) (p q : ByteArray) (w : World) (hp : p.size ≤ 1048576) (hq : q.size ≤ 1048576) (hx : mayV (verS a b c p q) = true) (h0 : p.size ≠ 0) :
    Calls Tryd.prog 27 #[.agg #[.int .i64 a, .int .i64 b, .int .i64 c, .string p, .string q]] w fun e w' => e = .returned (bumpVal (nextV (verS a b c p q))) ∧ Below w.heap.size w w' := by
  have m1 := fun W => may_any a b c p q W hp hq
  rw [next_pre hx (fun e => h0 (nil_size e))]
  have e2 := (empty_no (s := p) (by omega)).1
  rw [hx] at m1
  clear hx
  go_enter Tryd.func27, Tryd.ntmps27
  go_wp2_with fail
  refine (m1 _).mono ?_
  rintro e w1 ⟨rfl, hb1⟩
  have hbB := (two_below w _ _).trans (hb1.mono (by simp; omega))
  have h55 := (two_five w _ _ _ _ _ _ _ _ _ _ _ _ hb1).1
  have hR := room_below (room_new (w.alloc _) _ _ _ _ _ _) (by simp) hb1
  simp only [World.size_alloc] at hR
  have hz : w.heap.size + 2 ≤ w1.heap.size := by have := hb1.size; simp at this; omega
  clear hb1
  obtain ⟨k0, k1, k2, k3, k4⟩ := id h55
  obtain ⟨⟨l0, l1, l2, l3, l4⟩, lf⟩ := id hR
  have f0 := lf 0
  have f1 := lf 1
  have f2 := lf 2
  have f3 := lf 3
  have f4 := lf 4
  go_wp2
  have hput := room_put hR (.int .i64 a) (.int .i64 b) (.int .i64 c) (.string ⟨#[]⟩) (.string ⟨#[]⟩)
  refine bodyPost_ret (next_res _ _ (w.heap.size + 1) rfl hput.1) rfl ?_
  refine ⟨rfl, ?_⟩
  go_grown

set_option maxHeartbeats 4000000 in
theorem next_l (a b c : Int) (p q : ByteArray) (w : World) (hp : p.size ≤ 1048576) (hq : q.size ≤ 1048576) (hx : mayV (verS a b c p q) = true) (h0 : p.size = 0) :
    Calls Tryd.prog 27 #[.agg #[.int .i64 a, .int .i64 b, .int .i64 c, .string p, .string q]] w fun e w' => e = .returned (bumpVal (nextV (verS a b c p q))) ∧ Below w.heap.size w w' := by
  have m1 := fun W => may_any a b c p q W hp hq
  have bp := fun k W => bump_any a b c p q k W hp hq
  have HX := Lib.hid (next_rel hx (show (verS a b c p q).pre = [] from size_nil h0))
  have e2 := empty_str p h0
  rw [hx] at m1
  clear hx
  generalize nextV (verS a b c p q) = R at *
  generalize bumpV (verS a b c p q) = B at *
  go_enter Tryd.func27, Tryd.ntmps27
  go_wp2_with fail
  refine (m1 _).mono ?_
  rintro e w1 ⟨rfl, hb1⟩
  have hbB := (two_below w _ _).trans (hb1.mono (by simp; omega))
  have h55 := (two_five w _ _ _ _ _ _ _ _ _ _ _ _ hb1).1
  have hR := room_below (room_new (w.alloc _) _ _ _ _ _ _) (by simp) hb1
  simp only [World.size_alloc] at hR
  have hz : w.heap.size + 2 ≤ w1.heap.size := by have := hb1.size; simp at this; omega
  clear hb1
  obtain ⟨k0, k1, k2, k3, k4⟩ := id h55
  go_wp2_with fail
  go_loopw [4, 5, 6] (fun i _ _ wr => ∃ j : Nat, j ≤ 3 ∧ i = .int .i64 (2 - (j : Int)) ∧ NextQ B j ∧ Below w1.heap.size w1 wr) (fun i _ _ _ => (intOf i + 1).toNat)
  case atStart => exact ⟨0, by omega, rfl, nextq_0 B, Below.refl _ _⟩
  case round =>
    obtain ⟨j, hj, rfl, hq, hbel⟩ := hrel
    obtain ⟨q0, q1, q2⟩ := hq
    clear k0 k1 k2 k3 k4
    obtain ⟨k0, k1, k2, k3, k4⟩ := five_below h55 (by omega) hbel
    have hRr := room_below hR (by omega) hbel
    have hbW := hbB.trans (hbel.mono hbB.size)
    have hzr := Nat.le_trans hz hbel.size
    have HQ0 := Lib.hid q0
    have HQ1 := Lib.hid q1
    have HQ2 := Lib.hid q2
    clear q0 q1 q2
    have hj4 : j = 0 ∨ j = 1 ∨ j = 2 ∨ j = 3 := by omega
    rcases hj4 with rfl | rfl | rfl | rfl
    · simp only [show (2 - ((0 : Nat) : Int)) = 2 from rfl] at *
      have HP : Hid (B 2 = none → 0 < 3) := fun h => by omega
      have HS : Hid (∀ r, B 2 = some r → R = some r) := fun r h => HX.out.trans (by rw [h])
      cases hB : B 2 with
      | none =>
        have hbk := bp 2
        rw [hB] at hbk
        dsimp only [bumpVal] at hbk
        have HB := Lib.hid hB
        clear hB bp
        go_wp2_with fail
        refine (hbk _).mono ?_
        rintro e w4 ⟨rfl, hb4⟩
        go_wp2_with fail
        go_roundw
        case rel => exact ⟨1, by omega, rfl, ⟨fun _ => HB.out, by omega, by omega⟩, (hbel.trans (hb4.mono hbel.size)).trans ((box_below w4 _).mono (Nat.le_trans hbel.size hb4.size))⟩
        case measure => simp [intOf]
      | some r =>
        obtain ⟨r0, r1, r2, r3, r4⟩ := r
        have hbk := bp 2
        rw [hB] at hbk
        dsimp only [bumpVal] at hbk
        have HF : Hid (bumpVal R = .tuple #[.agg #[.int .i64 r0, .int .i64 r1, .int .i64 r2, .string ⟨r3.toArray⟩, .string ⟨r4.toArray⟩], .bool true]) := congrArg bumpVal (HS.out _ hB)
        generalize (⟨r3.toArray⟩ : ByteArray) = y3 at *
        generalize (⟨r4.toArray⟩ : ByteArray) = y4 at *
        clear hB bp HS HP
        go_wp2_with fail
        refine (hbk _).mono ?_
        rintro e w4 ⟨rfl, hb4⟩
        have hR4 := room_below hRr (by omega) hb4
        have hB4 := hbW.trans (hb4.mono hbW.size)
        have hz4 := Nat.le_trans hzr hb4.size
        have hz0 : w.heap.size < w4.heap.size := by omega
        have hz1 : w.heap.size + 1 < w4.heap.size := by omega
        obtain ⟨⟨l0, l1, l2, l3, l4⟩, lf⟩ := id hR4
        have f0 := lf 0
        have f1 := lf 1
        have f2 := lf 2
        have f3 := lf 3
        have f4 := lf 4
        go_wp2_with fail
        have hput := room_put hR4 (.int .i64 r0) (.int .i64 r1) (.int .i64 r2) (.string y3) (.string y4)
        refine bodyPost_ret (next_res _ _ (w.heap.size + 1) rfl (five_alloc hput.1 (by simpa [World.put5] using hz1) _)) rfl ?_
        rw [HF.out]
        refine ⟨rfl, ?_⟩
        go_grown
    · simp only [show (2 - ((1 : Nat) : Int)) = 1 from rfl] at *
      have HP : Hid (B 1 = none → 1 < 3) := fun h => by omega
      have HS : Hid (∀ r, B 1 = some r → R = some r) := fun r h => HX.out.trans (by rw [HQ0.out (by omega), h])
      cases hB : B 1 with
      | none =>
        have hbk := bp 1
        rw [hB] at hbk
        dsimp only [bumpVal] at hbk
        have HB := Lib.hid hB
        clear hB bp
        go_wp2_with fail
        refine (hbk _).mono ?_
        rintro e w4 ⟨rfl, hb4⟩
        go_wp2_with fail
        go_roundw
        case rel => exact ⟨2, by omega, rfl, ⟨fun _ => HQ0.out (by omega), fun _ => HB.out, by omega⟩, (hbel.trans (hb4.mono hbel.size)).trans ((box_below w4 _).mono (Nat.le_trans hbel.size hb4.size))⟩
        case measure => simp [intOf]
      | some r =>
        obtain ⟨r0, r1, r2, r3, r4⟩ := r
        have hbk := bp 1
        rw [hB] at hbk
        dsimp only [bumpVal] at hbk
        have HF : Hid (bumpVal R = .tuple #[.agg #[.int .i64 r0, .int .i64 r1, .int .i64 r2, .string ⟨r3.toArray⟩, .string ⟨r4.toArray⟩], .bool true]) := congrArg bumpVal (HS.out _ hB)
        generalize (⟨r3.toArray⟩ : ByteArray) = y3 at *
        generalize (⟨r4.toArray⟩ : ByteArray) = y4 at *
        clear hB bp HS HP
        go_wp2_with fail
        refine (hbk _).mono ?_
        rintro e w4 ⟨rfl, hb4⟩
        have hR4 := room_below hRr (by omega) hb4
        have hB4 := hbW.trans (hb4.mono hbW.size)
        have hz4 := Nat.le_trans hzr hb4.size
        have hz0 : w.heap.size < w4.heap.size := by omega
        have hz1 : w.heap.size + 1 < w4.heap.size := by omega
        obtain ⟨⟨l0, l1, l2, l3, l4⟩, lf⟩ := id hR4
        have f0 := lf 0
        have f1 := lf 1
        have f2 := lf 2
        have f3 := lf 3
        have f4 := lf 4
        go_wp2_with fail
        have hput := room_put hR4 (.int .i64 r0) (.int .i64 r1) (.int .i64 r2) (.string y3) (.string y4)
        refine bodyPost_ret (next_res _ _ (w.heap.size + 1) rfl (five_alloc hput.1 (by simpa [World.put5] using hz1) _)) rfl ?_
        rw [HF.out]
        refine ⟨rfl, ?_⟩
        go_grown
    · simp only [show (2 - ((2 : Nat) : Int)) = 0 from rfl] at *
      have HP : Hid (B 0 = none → R = none) := fun h => HX.out.trans (by rw [HQ0.out (by omega), HQ1.out (by omega), h])
      have HS : Hid (∀ r, B 0 = some r → R = some r) := fun r h => HX.out.trans (by rw [HQ0.out (by omega), HQ1.out (by omega), h])
      cases hB : B 0 with
      | none =>
        have hbk := bp 0
        rw [hB] at hbk
        dsimp only [bumpVal] at hbk
        have HB := Lib.hid hB
        clear hB bp
        go_wp2_with fail
        refine (hbk _).mono ?_
        rintro e w4 ⟨rfl, hb4⟩
        go_wp2_with fail
        go_roundw
        case rel => exact ⟨3, by omega, rfl, ⟨fun _ => HQ0.out (by omega), fun _ => HQ1.out (by omega), fun _ => HB.out⟩, (hbel.trans (hb4.mono hbel.size)).trans ((box_below w4 _).mono (Nat.le_trans hbel.size hb4.size))⟩
        case measure => simp [intOf]
      | some r =>
        obtain ⟨r0, r1, r2, r3, r4⟩ := r
        have hbk := bp 0
        rw [hB] at hbk
        dsimp only [bumpVal] at hbk
        have HF : Hid (bumpVal R = .tuple #[.agg #[.int .i64 r0, .int .i64 r1, .int .i64 r2, .string ⟨r3.toArray⟩, .string ⟨r4.toArray⟩], .bool true]) := congrArg bumpVal (HS.out _ hB)
        generalize (⟨r3.toArray⟩ : ByteArray) = y3 at *
        generalize (⟨r4.toArray⟩ : ByteArray) = y4 at *
        clear hB bp HS HP
        go_wp2_with fail
        refine (hbk _).mono ?_
        rintro e w4 ⟨rfl, hb4⟩
        have hR4 := room_below hRr (by omega) hb4
        have hB4 := hbW.trans (hb4.mono hbW.size)
        have hz4 := Nat.le_trans hzr hb4.size
        have hz0 : w.heap.size < w4.heap.size := by omega
        have hz1 : w.heap.size + 1 < w4.heap.size := by omega
        obtain ⟨⟨l0, l1, l2, l3, l4⟩, lf⟩ := id hR4
        have f0 := lf 0
        have f1 := lf 1
        have f2 := lf 2
        have f3 := lf 3
        have f4 := lf 4
        go_wp2_with fail
        have hput := room_put hR4 (.int .i64 r0) (.int .i64 r1) (.int .i64 r2) (.string y3) (.string y4)
        refine bodyPost_ret (next_res _ _ (w.heap.size + 1) rfl (five_alloc hput.1 (by simpa [World.put5] using hz1) _)) rfl ?_
        rw [HF.out]
        refine ⟨rfl, ?_⟩
        go_grown
    · simp only [show (2 - ((3 : Nat) : Int)) = -1 from rfl] at *
      have HF : Hid (R = none) := HX.out.trans (by rw [HQ0.out (by omega), HQ1.out (by omega), HQ2.out (by omega)])
      obtain ⟨⟨l0, l1, l2, l3, l4⟩, lf⟩ := id hRr
      have f0 := lf 0
      have f1 := lf 1
      have f2 := lf 2
      have f3 := lf 3
      have f4 := lf 4
      clear bp
      go_wp2_with fail
      have hput := room_put hRr (.int .i64 0) (.int .i64 0) (.int .i64 0) (.string ⟨#[]⟩) (.string ⟨#[]⟩)
      refine bodyPost_ret (next_res _ _ (w.heap.size + 1) rfl hput.1) rfl ?_
      rw [HF.out]
      refine ⟨rfl, ?_⟩
      go_grown
theorem next_any (a b c : Int) (p q : ByteArray) (w : World) (hp : p.size ≤ 1048576) (hq : q.size ≤ 1048576) :
    Calls Tryd.prog 27 #[.agg #[.int .i64 a, .int .i64 b, .int .i64 c, .string p, .string q]] w fun e w' => e = .returned (bumpVal (nextV (verS a b c p q))) ∧ Below w.heap.size w w' := by
  cases hx : mayV (verS a b c p q)
  · exact next_n a b c p q w hp hq hx
  by_cases h0 : p.size = 0
  · exact next_l a b c p q w hp hq hx h0
  · exact next_p a b c p q w hp hq hx h0

theorem rnext_res (W : World) (tmps : Array Value) (b : Nat) {x0 x1 x2 x3 x4 : Value} (h2 : tmps[2]?.getD undef = .pointer (some ⟨b, 0, none⟩)) (h : Five W b x0 x1 x2 x3 x4) :
    (results Tryd.f28 tmps).run Tryd.prog W = .ok (.tuple #[.agg #[x0, x1, x2, x3, x4], tmps[3]?.getD undef]) W := by
  obtain ⟨k0, k1, k2, k3, k4⟩ := h
  simp [results, Tryd.results28, h2, go_sem, k0, k1, k2, k3, k4]

set_option maxHeartbeats 2000000 in
theorem rnext_n (a b c : Int) (p q : ByteArray) (w : World) (hp : p.size ≤ 1048576) (hq : q.size ≤ 1048576) (hx : mayV (verS a b c p q) = false) :
    Calls Tryd.prog 28 #[.agg #[.int .i64 a, .int .i64 b, .int .i64 c, .string p, .string q]] w fun e w' => e = .returned (bumpVal (nextV (verS a b c p q))) ∧ Below w.heap.size w w' := by
  have m1 := fun W => rmay_any a b c p q W hp hq
  rw [next_no hx]
  rw [hx] at m1
  clear hx
  go_enter Tryd.func28, Tryd.ntmps28
  go_wp2_with fail
  refine (m1 _).mono ?_
  rintro e w1 ⟨rfl, hb1⟩
  have hbB := (two_below w _ _).trans (hb1.mono (by simp; omega))
  have h55 := (two_five w _ _ _ _ _ _ _ _ _ _ _ _ hb1).1
  have hR := room_below (room_new (w.alloc _) _ _ _ _ _ _) (by simp) hb1
  simp only [World.size_alloc] at hR
  have hz : w.heap.size + 2 ≤ w1.heap.size := by have := hb1.size; simp at this; omega
  clear hb1
  obtain ⟨k0, k1, k2, k3, k4⟩ := id h55
  obtain ⟨⟨l0, l1, l2, l3, l4⟩, lf⟩ := id hR
  have f0 := lf 0
  have f1 := lf 1
  have f2 := lf 2
  have f3 := lf 3
  have f4 := lf 4
  go_wp2
  have hput := room_put hR (.int .i64 0) (.int .i64 0) (.int .i64 0) (.string ⟨#[]⟩) (.string ⟨#[]⟩)
  refine bodyPost_ret (rnext_res _ _ (w.heap.size + 1) rfl hput.1) rfl ?_
  refine ⟨rfl, ?_⟩
  go_grown

set_option maxHeartbeats 2000000 in
theorem rnext_p (a b c : Int) (p q : ByteArray) (w : World) (hp : p.size ≤ 1048576) (hq : q.size ≤ 1048576) (hx : mayV (verS a b c p q) = true) (h0 : p.size ≠ 0) :
    Calls Tryd.prog 28 #[.agg #[.int .i64 a, .int .i64 b, .int .i64 c, .string p, .string q]] w fun e w' => e = .returned (bumpVal (nextV (verS a b c p q))) ∧ Below w.heap.size w w' := by
  have m1 := fun W => rmay_any a b c p q W hp hq
  rw [next_pre hx (fun e => h0 (nil_size e))]
  have e2 := (empty_no (s := p) (by omega)).1
  rw [hx] at m1
  clear hx
  go_enter Tryd.func28, Tryd.ntmps28
  go_wp2_with fail
  refine (m1 _).mono ?_
  rintro e w1 ⟨rfl, hb1⟩
  have hbB := (two_below w _ _).trans (hb1.mono (by simp; omega))
  have h55 := (two_five w _ _ _ _ _ _ _ _ _ _ _ _ hb1).1
  have hR := room_below (room_new (w.alloc _) _ _ _ _ _ _) (by simp) hb1
  simp only [World.size_alloc] at hR
  have hz : w.heap.size + 2 ≤ w1.heap.size := by have := hb1.size; simp at this; omega
  clear hb1
  obtain ⟨k0, k1, k2, k3, k4⟩ := id h55
  obtain ⟨⟨l0, l1, l2, l3, l4⟩, lf⟩ := id hR
  have f0 := lf 0
  have f1 := lf 1
  have f2 := lf 2
  have f3 := lf 3
  have f4 := lf 4
  go_wp2
  have hput := room_put hR (.int .i64 a) (.int .i64 b) (.int .i64 c) (.string ⟨#[]⟩) (.string ⟨#[]⟩)
  refine bodyPost_ret (rnext_res _ _ (w.heap.size + 1) rfl hput.1) rfl ?_
  refine ⟨rfl, ?_⟩
  go_grown

set_option maxHeartbeats 4000000 in
theorem rnext_l (a b c : Int) (p q : ByteArray) (w : World) (hp : p.size ≤ 1048576) (hq : q.size ≤ 1048576) (hx : mayV (verS a b c p q) = true) (h0 : p.size = 0) :
    Calls Tryd.prog 28 #[.agg #[.int .i64 a, .int .i64 b, .int .i64 c, .string p, .string q]] w fun e w' => e = .returned (bumpVal (nextV (verS a b c p q))) ∧ Below w.heap.size w w' := by
  have m1 := fun W => rmay_any a b c p q W hp hq
  have bp := fun k W => rbump_any a b c p q k W hp hq
  have HX := Lib.hid (next_rel hx (show (verS a b c p q).pre = [] from size_nil h0))
  have e2 := empty_str p h0
  rw [hx] at m1
  clear hx
  generalize nextV (verS a b c p q) = R at *
  generalize bumpV (verS a b c p q) = B at *
  go_enter Tryd.func28, Tryd.ntmps28
  go_wp2_with fail
  refine (m1 _).mono ?_
  rintro e w1 ⟨rfl, hb1⟩
  have hbB := (two_below w _ _).trans (hb1.mono (by simp; omega))
  have h55 := (two_five w _ _ _ _ _ _ _ _ _ _ _ _ hb1).1
  have hR := room_below (room_new (w.alloc _) _ _ _ _ _ _) (by simp) hb1
  simp only [World.size_alloc] at hR
  have hz : w.heap.size + 2 ≤ w1.heap.size := by have := hb1.size; simp at this; omega
  clear hb1
  obtain ⟨k0, k1, k2, k3, k4⟩ := id h55
  go_wp2_with fail
  go_loopw [4, 5, 6] (fun i _ _ wr => ∃ j : Nat, j ≤ 3 ∧ i = .int .i64 (2 - (j : Int)) ∧ NextQ B j ∧ Below w1.heap.size w1 wr) (fun i _ _ _ => (intOf i + 1).toNat)
  case atStart => exact ⟨0, by omega, rfl, nextq_0 B, Below.refl _ _⟩
  case round =>
    obtain ⟨j, hj, rfl, hq, hbel⟩ := hrel
    obtain ⟨q0, q1, q2⟩ := hq
    clear k0 k1 k2 k3 k4
    obtain ⟨k0, k1, k2, k3, k4⟩ := five_below h55 (by omega) hbel
    have hRr := room_below hR (by omega) hbel
    have hbW := hbB.trans (hbel.mono hbB.size)
    have hzr := Nat.le_trans hz hbel.size
    have HQ0 := Lib.hid q0
    have HQ1 := Lib.hid q1
    have HQ2 := Lib.hid q2
    clear q0 q1 q2
    have hj4 : j = 0 ∨ j = 1 ∨ j = 2 ∨ j = 3 := by omega
    rcases hj4 with rfl | rfl | rfl | rfl
    · simp only [show (2 - ((0 : Nat) : Int)) = 2 from rfl] at *
      have HP : Hid (B 2 = none → 0 < 3) := fun h => by omega
      have HS : Hid (∀ r, B 2 = some r → R = some r) := fun r h => HX.out.trans (by rw [h])
      cases hB : B 2 with
      | none =>
        have hbk := bp 2
        rw [hB] at hbk
        dsimp only [bumpVal] at hbk
        have HB := Lib.hid hB
        clear hB bp
        go_wp2_with fail
        refine (hbk _).mono ?_
        rintro e w4 ⟨rfl, hb4⟩
        go_wp2_with fail
        go_roundw
        case rel => exact ⟨1, by omega, rfl, ⟨fun _ => HB.out, by omega, by omega⟩, (hbel.trans (hb4.mono hbel.size)).trans ((box_below w4 _).mono (Nat.le_trans hbel.size hb4.size))⟩
        case measure => simp [intOf]
      | some r =>
        obtain ⟨r0, r1, r2, r3, r4⟩ := r
        have hbk := bp 2
        rw [hB] at hbk
        dsimp only [bumpVal] at hbk
        have HF : Hid (bumpVal R = .tuple #[.agg #[.int .i64 r0, .int .i64 r1, .int .i64 r2, .string ⟨r3.toArray⟩, .string ⟨r4.toArray⟩], .bool true]) := congrArg bumpVal (HS.out _ hB)
        generalize (⟨r3.toArray⟩ : ByteArray) = y3 at *
        generalize (⟨r4.toArray⟩ : ByteArray) = y4 at *
        clear hB bp HS HP
        go_wp2_with fail
        refine (hbk _).mono ?_
        rintro e w4 ⟨rfl, hb4⟩
        have hR4 := room_below hRr (by omega) hb4
        have hB4 := hbW.trans (hb4.mono hbW.size)
        have hz4 := Nat.le_trans hzr hb4.size
        have hz0 : w.heap.size < w4.heap.size := by omega
        have hz1 : w.heap.size + 1 < w4.heap.size := by omega
        obtain ⟨⟨l0, l1, l2, l3, l4⟩, lf⟩ := id hR4
        have f0 := lf 0
        have f1 := lf 1
        have f2 := lf 2
        have f3 := lf 3
        have f4 := lf 4
        go_wp2_with fail
        have hput := room_put hR4 (.int .i64 r0) (.int .i64 r1) (.int .i64 r2) (.string y3) (.string y4)
        refine bodyPost_ret (rnext_res _ _ (w.heap.size + 1) rfl (five_alloc hput.1 (by simpa [World.put5] using hz1) _)) rfl ?_
        rw [HF.out]
        refine ⟨rfl, ?_⟩
        go_grown
    · simp only [show (2 - ((1 : Nat) : Int)) = 1 from rfl] at *
      have HP : Hid (B 1 = none → 1 < 3) := fun h => by omega
      have HS : Hid (∀ r, B 1 = some r → R = some r) := fun r h => HX.out.trans (by rw [HQ0.out (by omega), h])
      cases hB : B 1 with
      | none =>
        have hbk := bp 1
        rw [hB] at hbk
        dsimp only [bumpVal] at hbk
        have HB := Lib.hid hB
        clear hB bp
        go_wp2_with fail
        refine (hbk _).mono ?_
        rintro e w4 ⟨rfl, hb4⟩
        go_wp2_with fail
        go_roundw
        case rel => exact ⟨2, by omega, rfl, ⟨fun _ => HQ0.out (by omega), fun _ => HB.out, by omega⟩, (hbel.trans (hb4.mono hbel.size)).trans ((box_below w4 _).mono (Nat.le_trans hbel.size hb4.size))⟩
        case measure => simp [intOf]
      | some r =>
        obtain ⟨r0, r1, r2, r3, r4⟩ := r
        have hbk := bp 1
        rw [hB] at hbk
        dsimp only [bumpVal] at hbk
        have HF : Hid (bumpVal R = .tuple #[.agg #[.int .i64 r0, .int .i64 r1, .int .i64 r2, .string ⟨r3.toArray⟩, .string ⟨r4.toArray⟩], .bool true]) := congrArg bumpVal (HS.out _ hB)
        generalize (⟨r3.toArray⟩ : ByteArray) = y3 at *
        generalize (⟨r4.toArray⟩ : ByteArray) = y4 at *
        clear hB bp HS HP
        go_wp2_with fail
        refine (hbk _).mono ?_
        rintro e w4 ⟨rfl, hb4⟩
        have hR4 := room_below hRr (by omega) hb4
        have hB4 := hbW.trans (hb4.mono hbW.size)
        have hz4 := Nat.le_trans hzr hb4.size
        have hz0 : w.heap.size < w4.heap.size := by omega
        have hz1 : w.heap.size + 1 < w4.heap.size := by omega
        obtain ⟨⟨l0, l1, l2, l3, l4⟩, lf⟩ := id hR4
        have f0 := lf 0
        have f1 := lf 1
        have f2 := lf 2
        have f3 := lf 3
        have f4 := lf 4
        go_wp2_with fail
        have hput := room_put hR4 (.int .i64 r0) (.int .i64 r1) (.int .i64 r2) (.string y3) (.string y4)
        refine bodyPost_ret (rnext_res _ _ (w.heap.size + 1) rfl (five_alloc hput.1 (by simpa [World.put5] using hz1) _)) rfl ?_
        rw [HF.out]
        refine ⟨rfl, ?_⟩
        go_grown
    · simp only [show (2 - ((2 : Nat) : Int)) = 0 from rfl] at *
      have HP : Hid (B 0 = none → R = none) := fun h => HX.out.trans (by rw [HQ0.out (by omega), HQ1.out (by omega), h])
      have HS : Hid (∀ r, B 0 = some r → R = some r) := fun r h => HX.out.trans (by rw [HQ0.out (by omega), HQ1.out (by omega), h])
      cases hB : B 0 with
      | none =>
        have hbk := bp 0
        rw [hB] at hbk
        dsimp only [bumpVal] at hbk
        have HB := Lib.hid hB
        clear hB bp
        go_wp2_with fail
        refine (hbk _).mono ?_
        rintro e w4 ⟨rfl, hb4⟩
        go_wp2_with fail
        go_roundw
        case rel => exact ⟨3, by omega, rfl, ⟨fun _ => HQ0.out (by omega), fun _ => HQ1.out (by omega), fun _ => HB.out⟩, (hbel.trans (hb4.mono hbel.size)).trans ((box_below w4 _).mono (Nat.le_trans hbel.size hb4.size))⟩
        case measure => simp [intOf]
      | some r =>
        obtain ⟨r0, r1, r2, r3, r4⟩ := r
        have hbk := bp 0
        rw [hB] at hbk
        dsimp only [bumpVal] at hbk
        have HF : Hid (bumpVal R = .tuple #[.agg #[.int .i64 r0, .int .i64 r1, .int .i64 r2, .string ⟨r3.toArray⟩, .string ⟨r4.toArray⟩], .bool true]) := congrArg bumpVal (HS.out _ hB)
        generalize (⟨r3.toArray⟩ : ByteArray) = y3 at *
        generalize (⟨r4.toArray⟩ : ByteArray) = y4 at *
        clear hB bp HS HP
        go_wp2_with fail
        refine (hbk _).mono ?_
        rintro e w4 ⟨rfl, hb4⟩
        have hR4 := room_below hRr (by omega) hb4
        have hB4 := hbW.trans (hb4.mono hbW.size)
        have hz4 := Nat.le_trans hzr hb4.size
        have hz0 : w.heap.size < w4.heap.size := by omega
        have hz1 : w.heap.size + 1 < w4.heap.size := by omega
        obtain ⟨⟨l0, l1, l2, l3, l4⟩, lf⟩ := id hR4
        have f0 := lf 0
        have f1 := lf 1
        have f2 := lf 2
        have f3 := lf 3
        have f4 := lf 4
        go_wp2_with fail
        have hput := room_put hR4 (.int .i64 r0) (.int .i64 r1) (.int .i64 r2) (.string y3) (.string y4)
        refine bodyPost_ret (rnext_res _ _ (w.heap.size + 1) rfl (five_alloc hput.1 (by simpa [World.put5] using hz1) _)) rfl ?_
        rw [HF.out]
        refine ⟨rfl, ?_⟩
        go_grown
    · simp only [show (2 - ((3 : Nat) : Int)) = -1 from rfl] at *
      have HF : Hid (R = none) := HX.out.trans (by rw [HQ0.out (by omega), HQ1.out (by omega), HQ2.out (by omega)])
      obtain ⟨⟨l0, l1, l2, l3, l4⟩, lf⟩ := id hRr
      have f0 := lf 0
      have f1 := lf 1
      have f2 := lf 2
      have f3 := lf 3
      have f4 := lf 4
      clear bp
      go_wp2_with fail
      have hput := room_put hRr (.int .i64 0) (.int .i64 0) (.int .i64 0) (.string ⟨#[]⟩) (.string ⟨#[]⟩)
      refine bodyPost_ret (rnext_res _ _ (w.heap.size + 1) rfl hput.1) rfl ?_
      rw [HF.out]
      refine ⟨rfl, ?_⟩
      go_grown
theorem rnext_any (a b c : Int) (p q : ByteArray) (w : World) (hp : p.size ≤ 1048576) (hq : q.size ≤ 1048576) :
    Calls Tryd.prog 28 #[.agg #[.int .i64 a, .int .i64 b, .int .i64 c, .string p, .string q]] w fun e w' => e = .returned (bumpVal (nextV (verS a b c p q))) ∧ Below w.heap.size w w' := by
  cases hx : mayV (verS a b c p q)
  · exact rnext_n a b c p q w hp hq hx
  by_cases h0 : p.size = 0
  · exact rnext_l a b c p q w hp hq hx h0
  · exact rnext_p a b c p q w hp hq hx h0
end Go.Proofs.YtabcpbmnemfnbaaDoor
