/-
  The walks of chapter 3's Compare of cuts, the program's and the reference's. Conditions: Pre and Build have at most 1048576 bytes.
-/
import Derived.Test.YthaagngoefieaaaDoorCCutA
import Derived.Test.YthaagngoefieaaaDoorVComp
namespace Go.Proofs.YthaagngoefieaaaDoor
open Go.ChangeShapes Go.WideShapes Go.ChangeAt Go.RowKit
set_option linter.unusedVariables false
set_option linter.unusedSimpArgs false

set_option maxRecDepth 8192 in
set_option maxHeartbeats 4000000 in
theorem cutcomp_any (e a b c : Int) (p q : ByteArray) (f : Bool) (e' a' b' c' : Int) (p' q' : ByteArray) (f' : Bool) (w : World) (hp : p.size ≤ 1048576) (hq : q.size ≤ 1048576) (hp' : p'.size ≤ 1048576) (hq' : q'.size ≤ 1048576) :
    Calls Tryd.prog 85 #[cutW e a b c p q f, cutW e' a' b' c' p' q' f'] w fun r w' => r = .returned (.int .i64 (compCut (cutS e a b c p q f) (cutS e' a' b' c' p' q' f'))) ∧ Below w.heap.size w w' := by
  have m1 := fun W => cutmay_any e a b c p q f W hp hq
  have m2 := fun W => cutmay_any e' a' b' c' p' q' f' W hp' hq'
  unfold cutW at *
  cases hx : mayCut (cutS e a b c p q f)
  · rw [compCut_a hx]
    rw [hx] at m1
    clear hx
    go_enter Tryd.func85, Tryd.ntmps85
    go_wp2_with fail
    refine (m1 _).mono ?_
    rintro r w1 ⟨rfl, hb1⟩
    go_wp2
    go_ret
    exact ⟨rfl, (two_below w _ _).trans (hb1.mono (by simp; omega))⟩
  cases hy : mayCut (cutS e' a' b' c' p' q' f')
  · rw [compCut_b hy]
    rw [hx] at m1
    rw [hy] at m2
    clear hx hy
    go_enter Tryd.func85, Tryd.ntmps85
    go_wp2_with fail
    refine (m1 _).mono ?_
    rintro r w1 ⟨rfl, hb1⟩
    have hL := loc_call (loc_new (loc_new (loc_start w) w.heap.size [.int .i64 e, .int .i64 a, .int .i64 b, .int .i64 c, .string p, .string q, .bool f] 48) (w.heap.size + 1) [.int .i64 e', .int .i64 a', .int .i64 b', .int .i64 c', .string p', .string q', .bool f'] 48) hb1
    clear hb1
    obtain ⟨c0, c1, c2, c3, c4, c5, c6⟩ := cells7L (loc_own hL 0 rfl).1
    obtain ⟨d0, d1, d2, d3, d4, d5, d6⟩ := cells7L (loc_own hL 1 rfl).1
    go_wp2_with fail
    refine (m2 _).mono ?_
    rintro r w2 ⟨rfl, hb2⟩
    have hL := loc_call hL hb2
    clear hb2 c0 c1 c2 c3 c4 c5 c6 d0 d1 d2 d3 d4 d5 d6
    obtain ⟨c0, c1, c2, c3, c4, c5, c6⟩ := cells7L (loc_own hL 0 rfl).1
    obtain ⟨d0, d1, d2, d3, d4, d5, d6⟩ := cells7L (loc_own hL 1 rfl).1
    go_wp2
    go_ret
    exact ⟨rfl, hL.1⟩
  by_cases h0 : e = 0 ∧ e' = 0
  · obtain ⟨rfl, rfl⟩ := h0
    have HC := Lib.hid (compCut_v hx hy)
    rw [hx] at m1
    rw [hy] at m2
    have cc := fun W => compare_any a b c p q a' b' c' p' q' W hp hq hp' hq'
    generalize compCut (cutS 0 a b c p q f) (cutS 0 a' b' c' p' q' f') = R at *
    generalize compV (verS a b c p q) (verS a' b' c' p' q') = k at *
    clear hx hy
    by_cases hk : k = 0
    · subst hk
      have HF : Hid (R = aftI f f') := HC.out.trans (or_00 _)
      clear HC
      cases f <;> cases f'
      all_goals
        go_enter Tryd.func85, Tryd.ntmps85
        go_wp2_with fail
        refine (m1 _).mono ?_
        rintro r w1 ⟨rfl, hb1⟩
        have hL := loc_call (loc_new (loc_new (loc_start w) w.heap.size [.int .i64 0, .int .i64 a, .int .i64 b, .int .i64 c, .string p, .string q, .bool _] 48) (w.heap.size + 1) [.int .i64 0, .int .i64 a', .int .i64 b', .int .i64 c', .string p', .string q', .bool _] 48) hb1
        clear hb1
        obtain ⟨c0, c1, c2, c3, c4, c5, c6⟩ := cells7L (loc_own hL 0 rfl).1
        obtain ⟨d0, d1, d2, d3, d4, d5, d6⟩ := cells7L (loc_own hL 1 rfl).1
        go_wp2_with fail
        refine (m2 _).mono ?_
        rintro r w2 ⟨rfl, hb2⟩
        have hL := loc_call hL hb2
        clear hb2 c0 c1 c2 c3 c4 c5 c6 d0 d1 d2 d3 d4 d5 d6
        obtain ⟨c0, c1, c2, c3, c4, c5, c6⟩ := cells7L (loc_own hL 0 rfl).1
        obtain ⟨d0, d1, d2, d3, d4, d5, d6⟩ := cells7L (loc_own hL 1 rfl).1
        go_wp2_with fail
        refine (cc _).mono ?_
        rintro r w3 ⟨rfl, hb3⟩
        have hL := loc_call hL hb3
        clear hb3 c0 c1 c2 c3 c4 c5 c6 d0 d1 d2 d3 d4 d5 d6
        obtain ⟨c0, c1, c2, c3, c4, c5, c6⟩ := cells7L (loc_own hL 0 rfl).1
        obtain ⟨d0, d1, d2, d3, d4, d5, d6⟩ := cells7L (loc_own hL 1 rfl).1
        go_wp2
        go_ret
        exact ⟨by rw [HF.out]; rfl, hL.1⟩
    · have HF : Hid (R = k) := HC.out.trans (or_11 hk _)
      have gk : (k == 0) = false := by simpa using hk
      have gk2 : (k != 0) = true := by simpa using hk
      clear HC hk
      go_enter Tryd.func85, Tryd.ntmps85
      go_wp2_with fail
      refine (m1 _).mono ?_
      rintro r w1 ⟨rfl, hb1⟩
      have hL := loc_call (loc_new (loc_new (loc_start w) w.heap.size [.int .i64 0, .int .i64 a, .int .i64 b, .int .i64 c, .string p, .string q, .bool f] 48) (w.heap.size + 1) [.int .i64 0, .int .i64 a', .int .i64 b', .int .i64 c', .string p', .string q', .bool f'] 48) hb1
      clear hb1
      obtain ⟨c0, c1, c2, c3, c4, c5, c6⟩ := cells7L (loc_own hL 0 rfl).1
      obtain ⟨d0, d1, d2, d3, d4, d5, d6⟩ := cells7L (loc_own hL 1 rfl).1
      go_wp2_with fail
      refine (m2 _).mono ?_
      rintro r w2 ⟨rfl, hb2⟩
      have hL := loc_call hL hb2
      clear hb2 c0 c1 c2 c3 c4 c5 c6 d0 d1 d2 d3 d4 d5 d6
      obtain ⟨c0, c1, c2, c3, c4, c5, c6⟩ := cells7L (loc_own hL 0 rfl).1
      obtain ⟨d0, d1, d2, d3, d4, d5, d6⟩ := cells7L (loc_own hL 1 rfl).1
      go_wp2_with fail
      refine (cc _).mono ?_
      rintro r w3 ⟨rfl, hb3⟩
      have hL := loc_call hL hb3
      clear hb3 c0 c1 c2 c3 c4 c5 c6 d0 d1 d2 d3 d4 d5 d6
      obtain ⟨c0, c1, c2, c3, c4, c5, c6⟩ := cells7L (loc_own hL 0 rfl).1
      obtain ⟨d0, d1, d2, d3, d4, d5, d6⟩ := cells7L (loc_own hL 1 rfl).1
      go_wp2
      go_ret
      exact ⟨by rw [HF.out]; rfl, hL.1⟩
  · have h1 : e ≠ 0 ∨ e' ≠ 0 := by omega
    rw [compCut_e hx hy h1]
    rw [hx] at m1
    rw [hy] at m2
    have cc := fun W => cmp_any e e' W
    clear hx hy h0
    by_cases h2 : e = 0
    · subst h2
      have h3 : e' ≠ 0 := by omega
      have g1 : (e' == 0) = false := by simpa using h3
      have g2 : (e' != 0) = true := by simpa using h3
      clear h1 h3
      go_enter Tryd.func85, Tryd.ntmps85
      go_wp2_with fail
      refine (m1 _).mono ?_
      rintro r w1 ⟨rfl, hb1⟩
      have hL := loc_call (loc_new (loc_new (loc_start w) w.heap.size [.int .i64 0, .int .i64 a, .int .i64 b, .int .i64 c, .string p, .string q, .bool f] 48) (w.heap.size + 1) [.int .i64 e', .int .i64 a', .int .i64 b', .int .i64 c', .string p', .string q', .bool f'] 48) hb1
      clear hb1
      obtain ⟨c0, c1, c2, c3, c4, c5, c6⟩ := cells7L (loc_own hL 0 rfl).1
      obtain ⟨d0, d1, d2, d3, d4, d5, d6⟩ := cells7L (loc_own hL 1 rfl).1
      go_wp2_with fail
      refine (m2 _).mono ?_
      rintro r w2 ⟨rfl, hb2⟩
      have hL := loc_call hL hb2
      clear hb2 c0 c1 c2 c3 c4 c5 c6 d0 d1 d2 d3 d4 d5 d6
      obtain ⟨c0, c1, c2, c3, c4, c5, c6⟩ := cells7L (loc_own hL 0 rfl).1
      obtain ⟨d0, d1, d2, d3, d4, d5, d6⟩ := cells7L (loc_own hL 1 rfl).1
      go_wp2_with (go_at_call 49; refine (cc _).mono ?_; rintro r w3 ⟨rfl, rfl⟩)
      go_ret
      exact ⟨rfl, hL.1⟩
    · have g1 : (e == 0) = false := by simpa using h2
      have g2 : (e != 0) = true := by simpa using h2
      clear h1 h2
      go_enter Tryd.func85, Tryd.ntmps85
      go_wp2_with fail
      refine (m1 _).mono ?_
      rintro r w1 ⟨rfl, hb1⟩
      have hL := loc_call (loc_new (loc_new (loc_start w) w.heap.size [.int .i64 e, .int .i64 a, .int .i64 b, .int .i64 c, .string p, .string q, .bool f] 48) (w.heap.size + 1) [.int .i64 e', .int .i64 a', .int .i64 b', .int .i64 c', .string p', .string q', .bool f'] 48) hb1
      clear hb1
      obtain ⟨c0, c1, c2, c3, c4, c5, c6⟩ := cells7L (loc_own hL 0 rfl).1
      obtain ⟨d0, d1, d2, d3, d4, d5, d6⟩ := cells7L (loc_own hL 1 rfl).1
      go_wp2_with fail
      refine (m2 _).mono ?_
      rintro r w2 ⟨rfl, hb2⟩
      have hL := loc_call hL hb2
      clear hb2 c0 c1 c2 c3 c4 c5 c6 d0 d1 d2 d3 d4 d5 d6
      obtain ⟨c0, c1, c2, c3, c4, c5, c6⟩ := cells7L (loc_own hL 0 rfl).1
      obtain ⟨d0, d1, d2, d3, d4, d5, d6⟩ := cells7L (loc_own hL 1 rfl).1
      go_wp2_with (go_at_call 49; refine (cc _).mono ?_; rintro r w3 ⟨rfl, rfl⟩)
      go_ret
      exact ⟨rfl, hL.1⟩
set_option maxRecDepth 8192 in
set_option maxHeartbeats 4000000 in
theorem rcutcomp_any (e a b c : Int) (p q : ByteArray) (f : Bool) (e' a' b' c' : Int) (p' q' : ByteArray) (f' : Bool) (w : World) (hp : p.size ≤ 1048576) (hq : q.size ≤ 1048576) (hp' : p'.size ≤ 1048576) (hq' : q'.size ≤ 1048576) :
    Calls Tryd.prog 62 #[cutW e a b c p q f, cutW e' a' b' c' p' q' f'] w fun r w' => r = .returned (.int .i64 (compCut (cutS e a b c p q f) (cutS e' a' b' c' p' q' f'))) ∧ Below w.heap.size w w' := by
  have m1 := fun W => rcutmay_any e a b c p q f W hp hq
  have m2 := fun W => rcutmay_any e' a' b' c' p' q' f' W hp' hq'
  unfold cutW at *
  cases hx : mayCut (cutS e a b c p q f)
  · rw [compCut_a hx]
    rw [hx] at m1
    clear hx
    go_enter Tryd.func62, Tryd.ntmps62
    go_wp2_with fail
    refine (m1 _).mono ?_
    rintro r w1 ⟨rfl, hb1⟩
    go_wp2
    go_ret
    exact ⟨rfl, (two_below w _ _).trans (hb1.mono (by simp; omega))⟩
  cases hy : mayCut (cutS e' a' b' c' p' q' f')
  · rw [compCut_b hy]
    rw [hx] at m1
    rw [hy] at m2
    clear hx hy
    go_enter Tryd.func62, Tryd.ntmps62
    go_wp2_with fail
    refine (m1 _).mono ?_
    rintro r w1 ⟨rfl, hb1⟩
    have hL := loc_call (loc_new (loc_new (loc_start w) w.heap.size [.int .i64 e, .int .i64 a, .int .i64 b, .int .i64 c, .string p, .string q, .bool f] 48) (w.heap.size + 1) [.int .i64 e', .int .i64 a', .int .i64 b', .int .i64 c', .string p', .string q', .bool f'] 48) hb1
    clear hb1
    obtain ⟨c0, c1, c2, c3, c4, c5, c6⟩ := cells7L (loc_own hL 0 rfl).1
    obtain ⟨d0, d1, d2, d3, d4, d5, d6⟩ := cells7L (loc_own hL 1 rfl).1
    go_wp2_with fail
    refine (m2 _).mono ?_
    rintro r w2 ⟨rfl, hb2⟩
    have hL := loc_call hL hb2
    clear hb2 c0 c1 c2 c3 c4 c5 c6 d0 d1 d2 d3 d4 d5 d6
    obtain ⟨c0, c1, c2, c3, c4, c5, c6⟩ := cells7L (loc_own hL 0 rfl).1
    obtain ⟨d0, d1, d2, d3, d4, d5, d6⟩ := cells7L (loc_own hL 1 rfl).1
    go_wp2
    go_ret
    exact ⟨rfl, hL.1⟩
  by_cases h0 : e = 0 ∧ e' = 0
  · obtain ⟨rfl, rfl⟩ := h0
    have HC := Lib.hid (compCut_v hx hy)
    rw [hx] at m1
    rw [hy] at m2
    have cc := fun W => rcompare_any a b c p q a' b' c' p' q' W hp hq hp' hq'
    generalize compCut (cutS 0 a b c p q f) (cutS 0 a' b' c' p' q' f') = R at *
    generalize compV (verS a b c p q) (verS a' b' c' p' q') = k at *
    clear hx hy
    by_cases hk : k = 0
    · subst hk
      have HF : Hid (R = aftI f f') := HC.out.trans (or_00 _)
      clear HC
      cases f <;> cases f'
      all_goals
        go_enter Tryd.func62, Tryd.ntmps62
        go_wp2_with fail
        refine (m1 _).mono ?_
        rintro r w1 ⟨rfl, hb1⟩
        have hL := loc_call (loc_new (loc_new (loc_start w) w.heap.size [.int .i64 0, .int .i64 a, .int .i64 b, .int .i64 c, .string p, .string q, .bool _] 48) (w.heap.size + 1) [.int .i64 0, .int .i64 a', .int .i64 b', .int .i64 c', .string p', .string q', .bool _] 48) hb1
        clear hb1
        obtain ⟨c0, c1, c2, c3, c4, c5, c6⟩ := cells7L (loc_own hL 0 rfl).1
        obtain ⟨d0, d1, d2, d3, d4, d5, d6⟩ := cells7L (loc_own hL 1 rfl).1
        go_wp2_with fail
        refine (m2 _).mono ?_
        rintro r w2 ⟨rfl, hb2⟩
        have hL := loc_call hL hb2
        clear hb2 c0 c1 c2 c3 c4 c5 c6 d0 d1 d2 d3 d4 d5 d6
        obtain ⟨c0, c1, c2, c3, c4, c5, c6⟩ := cells7L (loc_own hL 0 rfl).1
        obtain ⟨d0, d1, d2, d3, d4, d5, d6⟩ := cells7L (loc_own hL 1 rfl).1
        go_wp2_with fail
        refine (cc _).mono ?_
        rintro r w3 ⟨rfl, hb3⟩
        have hL := loc_call hL hb3
        clear hb3 c0 c1 c2 c3 c4 c5 c6 d0 d1 d2 d3 d4 d5 d6
        obtain ⟨c0, c1, c2, c3, c4, c5, c6⟩ := cells7L (loc_own hL 0 rfl).1
        obtain ⟨d0, d1, d2, d3, d4, d5, d6⟩ := cells7L (loc_own hL 1 rfl).1
        go_wp2
        go_ret
        exact ⟨by rw [HF.out]; rfl, hL.1⟩
    · have HF : Hid (R = k) := HC.out.trans (or_11 hk _)
      have gk : (k == 0) = false := by simpa using hk
      have gk2 : (k != 0) = true := by simpa using hk
      clear HC hk
      go_enter Tryd.func62, Tryd.ntmps62
      go_wp2_with fail
      refine (m1 _).mono ?_
      rintro r w1 ⟨rfl, hb1⟩
      have hL := loc_call (loc_new (loc_new (loc_start w) w.heap.size [.int .i64 0, .int .i64 a, .int .i64 b, .int .i64 c, .string p, .string q, .bool f] 48) (w.heap.size + 1) [.int .i64 0, .int .i64 a', .int .i64 b', .int .i64 c', .string p', .string q', .bool f'] 48) hb1
      clear hb1
      obtain ⟨c0, c1, c2, c3, c4, c5, c6⟩ := cells7L (loc_own hL 0 rfl).1
      obtain ⟨d0, d1, d2, d3, d4, d5, d6⟩ := cells7L (loc_own hL 1 rfl).1
      go_wp2_with fail
      refine (m2 _).mono ?_
      rintro r w2 ⟨rfl, hb2⟩
      have hL := loc_call hL hb2
      clear hb2 c0 c1 c2 c3 c4 c5 c6 d0 d1 d2 d3 d4 d5 d6
      obtain ⟨c0, c1, c2, c3, c4, c5, c6⟩ := cells7L (loc_own hL 0 rfl).1
      obtain ⟨d0, d1, d2, d3, d4, d5, d6⟩ := cells7L (loc_own hL 1 rfl).1
      go_wp2_with fail
      refine (cc _).mono ?_
      rintro r w3 ⟨rfl, hb3⟩
      have hL := loc_call hL hb3
      clear hb3 c0 c1 c2 c3 c4 c5 c6 d0 d1 d2 d3 d4 d5 d6
      obtain ⟨c0, c1, c2, c3, c4, c5, c6⟩ := cells7L (loc_own hL 0 rfl).1
      obtain ⟨d0, d1, d2, d3, d4, d5, d6⟩ := cells7L (loc_own hL 1 rfl).1
      go_wp2
      go_ret
      exact ⟨by rw [HF.out]; rfl, hL.1⟩
  · have h1 : e ≠ 0 ∨ e' ≠ 0 := by omega
    rw [compCut_e hx hy h1]
    rw [hx] at m1
    rw [hy] at m2
    have cc := fun W => ints_any e e' W
    clear hx hy h0
    by_cases h2 : e = e'
    · subst h2
      have h3 : e ≠ 0 := by omega
      have g1 : (e == 0) = false := by simpa using h3
      have g2 : (e != 0) = true := by simpa using h3
      clear h1 h3
      go_enter Tryd.func62, Tryd.ntmps62
      go_wp2_with fail
      refine (m1 _).mono ?_
      rintro r w1 ⟨rfl, hb1⟩
      have hL := loc_call (loc_new (loc_new (loc_start w) w.heap.size [.int .i64 e, .int .i64 a, .int .i64 b, .int .i64 c, .string p, .string q, .bool f] 48) (w.heap.size + 1) [.int .i64 e, .int .i64 a', .int .i64 b', .int .i64 c', .string p', .string q', .bool f'] 48) hb1
      clear hb1
      obtain ⟨c0, c1, c2, c3, c4, c5, c6⟩ := cells7L (loc_own hL 0 rfl).1
      obtain ⟨d0, d1, d2, d3, d4, d5, d6⟩ := cells7L (loc_own hL 1 rfl).1
      go_wp2_with fail
      refine (m2 _).mono ?_
      rintro r w2 ⟨rfl, hb2⟩
      have hL := loc_call hL hb2
      clear hb2 c0 c1 c2 c3 c4 c5 c6 d0 d1 d2 d3 d4 d5 d6
      obtain ⟨c0, c1, c2, c3, c4, c5, c6⟩ := cells7L (loc_own hL 0 rfl).1
      obtain ⟨d0, d1, d2, d3, d4, d5, d6⟩ := cells7L (loc_own hL 1 rfl).1
      go_wp2_with (go_at_call 93; refine (cc _).mono ?_; rintro r w3 ⟨rfl, rfl⟩)
      go_ret
      exact ⟨rfl, hL.1⟩
    · have g1 : (e == e') = false := by simpa using h2
      have g2 : (e != e') = true := by simpa using h2
      clear h1 h2
      go_enter Tryd.func62, Tryd.ntmps62
      go_wp2_with fail
      refine (m1 _).mono ?_
      rintro r w1 ⟨rfl, hb1⟩
      have hL := loc_call (loc_new (loc_new (loc_start w) w.heap.size [.int .i64 e, .int .i64 a, .int .i64 b, .int .i64 c, .string p, .string q, .bool f] 48) (w.heap.size + 1) [.int .i64 e', .int .i64 a', .int .i64 b', .int .i64 c', .string p', .string q', .bool f'] 48) hb1
      clear hb1
      obtain ⟨c0, c1, c2, c3, c4, c5, c6⟩ := cells7L (loc_own hL 0 rfl).1
      obtain ⟨d0, d1, d2, d3, d4, d5, d6⟩ := cells7L (loc_own hL 1 rfl).1
      go_wp2_with fail
      refine (m2 _).mono ?_
      rintro r w2 ⟨rfl, hb2⟩
      have hL := loc_call hL hb2
      clear hb2 c0 c1 c2 c3 c4 c5 c6 d0 d1 d2 d3 d4 d5 d6
      obtain ⟨c0, c1, c2, c3, c4, c5, c6⟩ := cells7L (loc_own hL 0 rfl).1
      obtain ⟨d0, d1, d2, d3, d4, d5, d6⟩ := cells7L (loc_own hL 1 rfl).1
      go_wp2_with (go_at_call 93; refine (cc _).mono ?_; rintro r w3 ⟨rfl, rfl⟩)
      go_ret
      exact ⟨rfl, hL.1⟩
end Go.Proofs.YthaagngoefieaaaDoor
