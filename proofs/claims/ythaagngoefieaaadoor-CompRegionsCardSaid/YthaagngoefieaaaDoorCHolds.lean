/-
  The walks of chapter 3's reference Ahead and Holds. Conditions: Pre and Build have at most 1048576 bytes.
-/
import Derived.Test.YthaagngoefieaaaDoorG5
namespace Go.Proofs.YthaagngoefieaaaDoor
open Go.ChangeShapes Go.WideShapes Go.ChangeAt Go.RowKit
set_option linter.unusedVariables false
set_option linter.unusedSimpArgs false

theorem ahead_no {c : CutC} {v : Ver} (h : mayCut c = false ∨ mayV v = false) : aheadC c v = false := by
  unfold aheadC
  rw [if_neg]
  rintro ⟨h1, h2⟩
  rcases h with h | h
  · rw [h] at h1; cases h1
  · rw [h] at h2; cases h2
theorem ahead_end {e a b c : Int} {p q : ByteArray} {f : Bool} {v : Ver} (h1 : mayCut (cutS e a b c p q f) = true) (h2 : mayV v = true) (h : e ≠ 0) : aheadC (cutS e a b c p q f) v = decide (e < 0) := by
  unfold aheadC
  rw [if_pos ⟨h1, h2⟩, if_pos (show (cutS e a b c p q f).e ≠ 0 from h)]
  rfl
theorem ahead_v {a b c : Int} {p q : ByteArray} {f : Bool} {v : Ver} (h1 : mayCut (cutS 0 a b c p q f) = true) (h2 : mayV v = true) : aheadC (cutS 0 a b c p q f) v = (decide (compV (verS a b c p q) v < 0) || (decide (compV (verS a b c p q) v = 0) && !f)) := by
  unfold aheadC
  rw [if_pos ⟨h1, h2⟩, if_neg (show ¬ (cutS 0 a b c p q f).e ≠ 0 from fun h => h rfl)]
  rfl
set_option maxRecDepth 8192 in
set_option maxHeartbeats 4000000 in
theorem rahead_any (e a b c : Int) (p q : ByteArray) (f : Bool) (va vb vc : Int) (vp vq : ByteArray) (w : World) (hp : p.size ≤ 1048576) (hq : q.size ≤ 1048576) (hvp : vp.size ≤ 1048576) (hvq : vq.size ≤ 1048576) :
    Calls Tryd.prog 82 #[cutW e a b c p q f, .agg #[.int .i64 va, .int .i64 vb, .int .i64 vc, .string vp, .string vq]] w fun r w' => r = .returned (.bool (aheadC (cutS e a b c p q f) (verS va vb vc vp vq))) ∧ Below w.heap.size w w' := by
  have m1 := fun W => rcutmay_any e a b c p q f W hp hq
  have m2 := fun W => rmay_any va vb vc vp vq W hvp hvq
  unfold cutW at *
  cases hx : mayCut (cutS e a b c p q f)
  · rw [ahead_no (.inl hx)]
    rw [hx] at m1
    clear hx
    go_enter Tryd.func82, Tryd.ntmps82
    go_wp2_with fail
    refine (m1 _).mono ?_
    rintro r w1 ⟨rfl, hb1⟩
    go_wp2
    go_ret
    exact ⟨rfl, (two_below w _ _).trans (hb1.mono (by simp; omega))⟩
  cases hy : mayV (verS va vb vc vp vq)
  · rw [ahead_no (.inr hy)]
    rw [hx] at m1
    rw [hy] at m2
    clear hx hy
    go_enter Tryd.func82, Tryd.ntmps82
    go_wp2_with fail
    refine (m1 _).mono ?_
    rintro r w1 ⟨rfl, hb1⟩
    have hL := loc_call (loc_new (loc_new (loc_start w) w.heap.size [.int .i64 e, .int .i64 a, .int .i64 b, .int .i64 c, .string p, .string q, .bool f] 48) (w.heap.size + 1) [.int .i64 va, .int .i64 vb, .int .i64 vc, .string vp, .string vq] 24) hb1
    clear hb1
    obtain ⟨c0, c1, c2, c3, c4, c5, c6⟩ := cells7L (loc_own hL 0 rfl).1
    obtain ⟨d0, d1, d2, d3, d4⟩ := cells5L (loc_own hL 1 rfl).1
    go_wp2_with fail
    refine (m2 _).mono ?_
    rintro r w2 ⟨rfl, hb2⟩
    have hL := loc_call hL hb2
    clear hb2 c0 c1 c2 c3 c4 c5 c6 d0 d1 d2 d3 d4
    obtain ⟨c0, c1, c2, c3, c4, c5, c6⟩ := cells7L (loc_own hL 0 rfl).1
    obtain ⟨d0, d1, d2, d3, d4⟩ := cells5L (loc_own hL 1 rfl).1
    go_wp2_with fail
    go_ret
    exact ⟨rfl, hL.1⟩
  by_cases h0 : e = 0
  · subst h0
    rw [ahead_v hx hy]
    rw [hx] at m1
    rw [hy] at m2
    clear hx hy
    have cc := fun W => rcompare_any a b c p q va vb vc vp vq W hp hq hvp hvq
    generalize compV (verS a b c p q) (verS va vb vc vp vq) = k at *
    have h3 : k < 0 ∨ k = 0 ∨ 0 < k := by omega
    rcases h3 with h3 | h3 | h3
    · have g1 : decide (k < 0) = true := decide_eq_true h3
      rw [g1]
      go_enter Tryd.func82, Tryd.ntmps82
      go_wp2_with fail
      refine (m1 _).mono ?_
      rintro r w1 ⟨rfl, hb1⟩
      have hL := loc_call (loc_new (loc_new (loc_start w) w.heap.size [.int .i64 0, .int .i64 a, .int .i64 b, .int .i64 c, .string p, .string q, .bool f] 48) (w.heap.size + 1) [.int .i64 va, .int .i64 vb, .int .i64 vc, .string vp, .string vq] 24) hb1
      clear hb1
      obtain ⟨c0, c1, c2, c3, c4, c5, c6⟩ := cells7L (loc_own hL 0 rfl).1
      obtain ⟨d0, d1, d2, d3, d4⟩ := cells5L (loc_own hL 1 rfl).1
      go_wp2_with fail
      refine (m2 _).mono ?_
      rintro r w2 ⟨rfl, hb2⟩
      have hL := loc_call hL hb2
      clear hb2 c0 c1 c2 c3 c4 c5 c6 d0 d1 d2 d3 d4
      obtain ⟨c0, c1, c2, c3, c4, c5, c6⟩ := cells7L (loc_own hL 0 rfl).1
      obtain ⟨d0, d1, d2, d3, d4⟩ := cells5L (loc_own hL 1 rfl).1
      go_wp2_with fail
      refine (cc _).mono ?_
      rintro r w3 ⟨rfl, hb3⟩
      have hL := loc_call hL hb3
      clear hb3 c0 c1 c2 c3 c4 c5 c6 d0 d1 d2 d3 d4
      obtain ⟨c0, c1, c2, c3, c4, c5, c6⟩ := cells7L (loc_own hL 0 rfl).1
      go_wp2_with fail
      go_ret
      exact ⟨ret_bool rfl, hL.1⟩
    · subst h3
      go_enter Tryd.func82, Tryd.ntmps82
      go_wp2_with fail
      refine (m1 _).mono ?_
      rintro r w1 ⟨rfl, hb1⟩
      have hL := loc_call (loc_new (loc_new (loc_start w) w.heap.size [.int .i64 0, .int .i64 a, .int .i64 b, .int .i64 c, .string p, .string q, .bool f] 48) (w.heap.size + 1) [.int .i64 va, .int .i64 vb, .int .i64 vc, .string vp, .string vq] 24) hb1
      clear hb1
      obtain ⟨c0, c1, c2, c3, c4, c5, c6⟩ := cells7L (loc_own hL 0 rfl).1
      obtain ⟨d0, d1, d2, d3, d4⟩ := cells5L (loc_own hL 1 rfl).1
      go_wp2_with fail
      refine (m2 _).mono ?_
      rintro r w2 ⟨rfl, hb2⟩
      have hL := loc_call hL hb2
      clear hb2 c0 c1 c2 c3 c4 c5 c6 d0 d1 d2 d3 d4
      obtain ⟨c0, c1, c2, c3, c4, c5, c6⟩ := cells7L (loc_own hL 0 rfl).1
      obtain ⟨d0, d1, d2, d3, d4⟩ := cells5L (loc_own hL 1 rfl).1
      go_wp2_with fail
      refine (cc _).mono ?_
      rintro r w3 ⟨rfl, hb3⟩
      have hL := loc_call hL hb3
      clear hb3 c0 c1 c2 c3 c4 c5 c6 d0 d1 d2 d3 d4
      obtain ⟨c0, c1, c2, c3, c4, c5, c6⟩ := cells7L (loc_own hL 0 rfl).1
      go_wp2_with fail
      go_ret
      exact ⟨ret_bool (by simp), hL.1⟩
    · have g1 : decide (k < 0) = false := decide_eq_false (by omega)
      have g2 : decide (k = 0) = false := decide_eq_false (by omega)
      have g3 : (k == 0) = false := by simp; omega
      rw [g1, g2]
      clear g2
      go_enter Tryd.func82, Tryd.ntmps82
      go_wp2_with fail
      refine (m1 _).mono ?_
      rintro r w1 ⟨rfl, hb1⟩
      have hL := loc_call (loc_new (loc_new (loc_start w) w.heap.size [.int .i64 0, .int .i64 a, .int .i64 b, .int .i64 c, .string p, .string q, .bool f] 48) (w.heap.size + 1) [.int .i64 va, .int .i64 vb, .int .i64 vc, .string vp, .string vq] 24) hb1
      clear hb1
      obtain ⟨c0, c1, c2, c3, c4, c5, c6⟩ := cells7L (loc_own hL 0 rfl).1
      obtain ⟨d0, d1, d2, d3, d4⟩ := cells5L (loc_own hL 1 rfl).1
      go_wp2_with fail
      refine (m2 _).mono ?_
      rintro r w2 ⟨rfl, hb2⟩
      have hL := loc_call hL hb2
      clear hb2 c0 c1 c2 c3 c4 c5 c6 d0 d1 d2 d3 d4
      obtain ⟨c0, c1, c2, c3, c4, c5, c6⟩ := cells7L (loc_own hL 0 rfl).1
      obtain ⟨d0, d1, d2, d3, d4⟩ := cells5L (loc_own hL 1 rfl).1
      go_wp2_with fail
      refine (cc _).mono ?_
      rintro r w3 ⟨rfl, hb3⟩
      have hL := loc_call hL hb3
      clear hb3 c0 c1 c2 c3 c4 c5 c6 d0 d1 d2 d3 d4
      obtain ⟨c0, c1, c2, c3, c4, c5, c6⟩ := cells7L (loc_own hL 0 rfl).1
      go_wp2_with fail
      go_ret
      exact ⟨ret_bool rfl, hL.1⟩
  · rw [ahead_end hx hy h0]
    rw [hx] at m1
    rw [hy] at m2
    have g1 : (e == 0) = false := by simpa using h0
    have g2 : (e != 0) = true := by simpa using h0
    clear hx hy h0
    go_enter Tryd.func82, Tryd.ntmps82
    go_wp2_with fail
    refine (m1 _).mono ?_
    rintro r w1 ⟨rfl, hb1⟩
    have hL := loc_call (loc_new (loc_new (loc_start w) w.heap.size [.int .i64 e, .int .i64 a, .int .i64 b, .int .i64 c, .string p, .string q, .bool f] 48) (w.heap.size + 1) [.int .i64 va, .int .i64 vb, .int .i64 vc, .string vp, .string vq] 24) hb1
    clear hb1
    obtain ⟨c0, c1, c2, c3, c4, c5, c6⟩ := cells7L (loc_own hL 0 rfl).1
    obtain ⟨d0, d1, d2, d3, d4⟩ := cells5L (loc_own hL 1 rfl).1
    go_wp2_with fail
    refine (m2 _).mono ?_
    rintro r w2 ⟨rfl, hb2⟩
    have hL := loc_call hL hb2
    clear hb2 c0 c1 c2 c3 c4 c5 c6 d0 d1 d2 d3 d4
    obtain ⟨c0, c1, c2, c3, c4, c5, c6⟩ := cells7L (loc_own hL 0 rfl).1
    obtain ⟨d0, d1, d2, d3, d4⟩ := cells5L (loc_own hL 1 rfl).1
    go_wp2_with fail
    go_ret
    exact ⟨ret_bool rfl, hL.1⟩
set_option maxRecDepth 8192 in
set_option maxHeartbeats 4000000 in
theorem rholds_any (e a b c : Int) (p q : ByteArray) (f : Bool) (e' a' b' c' : Int) (p' q' : ByteArray) (f' : Bool) (va vb vc : Int) (vp vq : ByteArray) (w : World) (hp : p.size ≤ 1048576) (hq : q.size ≤ 1048576) (hp' : p'.size ≤ 1048576) (hq' : q'.size ≤ 1048576) (hvp : vp.size ≤ 1048576) (hvq : vq.size ≤ 1048576) :
    Calls Tryd.prog 53 #[.agg #[.int .i64 e, .int .i64 a, .int .i64 b, .int .i64 c, .string p, .string q, .bool f, .int .i64 e', .int .i64 a', .int .i64 b', .int .i64 c', .string p', .string q', .bool f'], .agg #[.int .i64 va, .int .i64 vb, .int .i64 vc, .string vp, .string vq]] w fun r w' => r = .returned (.bool (holdsC ⟨cutS e a b c p q f, cutS e' a' b' c' p' q' f'⟩ (verS va vb vc vp vq))) ∧ Below w.heap.size w w' := by
  rw [show holdsC ⟨cutS e a b c p q f, cutS e' a' b' c' p' q' f'⟩ (verS va vb vc vp vq) = (mayS ⟨cutS e a b c p q f, cutS e' a' b' c' p' q' f'⟩ && mayV (verS va vb vc vp vq) && aheadC (cutS e a b c p q f) (verS va vb vc vp vq) && !aheadC (cutS e' a' b' c' p' q' f') (verS va vb vc vp vq)) from rfl]
  have m1 := fun W => rspanmay_any e a b c p q f e' a' b' c' p' q' f' W hp hq hp' hq'
  have m2 := fun W => rmay_any va vb vc vp vq W hvp hvq
  have m3 := fun W => rahead_any e a b c p q f va vb vc vp vq W hp hq hvp hvq
  have m4 := fun W => rahead_any e' a' b' c' p' q' f' va vb vc vp vq W hp' hq' hvp hvq
  unfold cutW at *
  generalize mayS ⟨cutS e a b c p q f, cutS e' a' b' c' p' q' f'⟩ = r1 at *
  generalize mayV (verS va vb vc vp vq) = r2 at *
  generalize aheadC (cutS e a b c p q f) (verS va vb vc vp vq) = r3 at *
  generalize aheadC (cutS e' a' b' c' p' q' f') (verS va vb vc vp vq) = r4 at *
  cases r1
  · go_enter Tryd.func53, Tryd.ntmps53
    go_wp2_with fail
    refine (m1 _).mono ?_
    rintro r w1 ⟨rfl, hb1⟩
    have hL := loc_call (loc_new (loc_new (loc_start w) w.heap.size [.int .i64 e, .int .i64 a, .int .i64 b, .int .i64 c, .string p, .string q, .bool f, .int .i64 e', .int .i64 a', .int .i64 b', .int .i64 c', .string p', .string q', .bool f'] 50) (w.heap.size + 1) [.int .i64 va, .int .i64 vb, .int .i64 vc, .string vp, .string vq] 24) hb1
    clear hb1
    obtain ⟨c0, c1, c2, c3, c4, c5, c6, c7, c8, c9, c10, c11, c12, c13⟩ := cells14L (loc_own hL 0 rfl).1
    obtain ⟨d0, d1, d2, d3, d4⟩ := cells5L (loc_own hL 1 rfl).1
    go_wp2
    go_ret
    exact ⟨rfl, hL.1⟩
  cases r2
  · go_enter Tryd.func53, Tryd.ntmps53
    go_wp2_with fail
    refine (m1 _).mono ?_
    rintro r w1 ⟨rfl, hb1⟩
    have hL := loc_call (loc_new (loc_new (loc_start w) w.heap.size [.int .i64 e, .int .i64 a, .int .i64 b, .int .i64 c, .string p, .string q, .bool f, .int .i64 e', .int .i64 a', .int .i64 b', .int .i64 c', .string p', .string q', .bool f'] 50) (w.heap.size + 1) [.int .i64 va, .int .i64 vb, .int .i64 vc, .string vp, .string vq] 24) hb1
    clear hb1
    obtain ⟨c0, c1, c2, c3, c4, c5, c6, c7, c8, c9, c10, c11, c12, c13⟩ := cells14L (loc_own hL 0 rfl).1
    obtain ⟨d0, d1, d2, d3, d4⟩ := cells5L (loc_own hL 1 rfl).1
    go_wp2_with fail
    refine (m2 _).mono ?_
    rintro r w2 ⟨rfl, hb2⟩
    have hL := loc_call hL hb2
    clear c0 c1 c2 c3 c4 c5 c6 c7 c8 c9 c10 c11 c12 c13 d0 d1 d2 d3 d4
    clear hb2
    obtain ⟨c0, c1, c2, c3, c4, c5, c6, c7, c8, c9, c10, c11, c12, c13⟩ := cells14L (loc_own hL 0 rfl).1
    obtain ⟨d0, d1, d2, d3, d4⟩ := cells5L (loc_own hL 1 rfl).1
    go_wp2
    go_ret
    exact ⟨rfl, hL.1⟩
  cases r3
  · go_enter Tryd.func53, Tryd.ntmps53
    go_wp2_with fail
    refine (m1 _).mono ?_
    rintro r w1 ⟨rfl, hb1⟩
    have hL := loc_call (loc_new (loc_new (loc_start w) w.heap.size [.int .i64 e, .int .i64 a, .int .i64 b, .int .i64 c, .string p, .string q, .bool f, .int .i64 e', .int .i64 a', .int .i64 b', .int .i64 c', .string p', .string q', .bool f'] 50) (w.heap.size + 1) [.int .i64 va, .int .i64 vb, .int .i64 vc, .string vp, .string vq] 24) hb1
    clear hb1
    obtain ⟨c0, c1, c2, c3, c4, c5, c6, c7, c8, c9, c10, c11, c12, c13⟩ := cells14L (loc_own hL 0 rfl).1
    obtain ⟨d0, d1, d2, d3, d4⟩ := cells5L (loc_own hL 1 rfl).1
    go_wp2_with fail
    refine (m2 _).mono ?_
    rintro r w2 ⟨rfl, hb2⟩
    have hL := loc_call hL hb2
    clear c0 c1 c2 c3 c4 c5 c6 c7 c8 c9 c10 c11 c12 c13 d0 d1 d2 d3 d4
    clear hb2
    obtain ⟨c0, c1, c2, c3, c4, c5, c6, c7, c8, c9, c10, c11, c12, c13⟩ := cells14L (loc_own hL 0 rfl).1
    obtain ⟨d0, d1, d2, d3, d4⟩ := cells5L (loc_own hL 1 rfl).1
    go_wp2_with fail
    refine (m3 _).mono ?_
    rintro r w3 ⟨rfl, hb3⟩
    have hL := loc_call hL hb3
    clear c0 c1 c2 c3 c4 c5 c6 c7 c8 c9 c10 c11 c12 c13 d0 d1 d2 d3 d4
    clear hb3
    obtain ⟨c0, c1, c2, c3, c4, c5, c6, c7, c8, c9, c10, c11, c12, c13⟩ := cells14L (loc_own hL 0 rfl).1
    obtain ⟨d0, d1, d2, d3, d4⟩ := cells5L (loc_own hL 1 rfl).1
    go_wp2
    go_ret
    exact ⟨rfl, hL.1⟩
  go_enter Tryd.func53, Tryd.ntmps53
  go_wp2_with fail
  refine (m1 _).mono ?_
  rintro r w1 ⟨rfl, hb1⟩
  have hL := loc_call (loc_new (loc_new (loc_start w) w.heap.size [.int .i64 e, .int .i64 a, .int .i64 b, .int .i64 c, .string p, .string q, .bool f, .int .i64 e', .int .i64 a', .int .i64 b', .int .i64 c', .string p', .string q', .bool f'] 50) (w.heap.size + 1) [.int .i64 va, .int .i64 vb, .int .i64 vc, .string vp, .string vq] 24) hb1
  clear hb1
  obtain ⟨c0, c1, c2, c3, c4, c5, c6, c7, c8, c9, c10, c11, c12, c13⟩ := cells14L (loc_own hL 0 rfl).1
  obtain ⟨d0, d1, d2, d3, d4⟩ := cells5L (loc_own hL 1 rfl).1
  go_wp2_with fail
  refine (m2 _).mono ?_
  rintro r w2 ⟨rfl, hb2⟩
  have hL := loc_call hL hb2
  clear c0 c1 c2 c3 c4 c5 c6 c7 c8 c9 c10 c11 c12 c13 d0 d1 d2 d3 d4
  clear hb2
  obtain ⟨c0, c1, c2, c3, c4, c5, c6, c7, c8, c9, c10, c11, c12, c13⟩ := cells14L (loc_own hL 0 rfl).1
  obtain ⟨d0, d1, d2, d3, d4⟩ := cells5L (loc_own hL 1 rfl).1
  go_wp2_with fail
  refine (m3 _).mono ?_
  rintro r w3 ⟨rfl, hb3⟩
  have hL := loc_call hL hb3
  clear c0 c1 c2 c3 c4 c5 c6 c7 c8 c9 c10 c11 c12 c13 d0 d1 d2 d3 d4
  clear hb3
  obtain ⟨c0, c1, c2, c3, c4, c5, c6, c7, c8, c9, c10, c11, c12, c13⟩ := cells14L (loc_own hL 0 rfl).1
  obtain ⟨d0, d1, d2, d3, d4⟩ := cells5L (loc_own hL 1 rfl).1
  go_wp2_with fail
  refine (m4 _).mono ?_
  rintro r w4 ⟨rfl, hb4⟩
  have hL := loc_call hL hb4
  clear c0 c1 c2 c3 c4 c5 c6 c7 c8 c9 c10 c11 c12 c13 d0 d1 d2 d3 d4
  clear hb4
  obtain ⟨c0, c1, c2, c3, c4, c5, c6, c7, c8, c9, c10, c11, c12, c13⟩ := cells14L (loc_own hL 0 rfl).1
  obtain ⟨d0, d1, d2, d3, d4⟩ := cells5L (loc_own hL 1 rfl).1
  go_wp2
  go_ret
  exact ⟨rfl, hL.1⟩
end Go.Proofs.YthaagngoefieaaaDoor
