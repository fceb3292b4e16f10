/-
  The walk of chapter 6's Region, the program's, of every Op but Ne. Conditions: the comparator may be; Pre and Build have at most 1048576 bytes.
-/
import Derived.Test.YthaagngoefieaaaDoorCHigh
import Derived.Test.YthaagngoefieaaaDoorG5
import Derived.Test.YthaagngoefieaaaDoorG4
import Derived.Deep.DeepCutAuto
import Derived.Deep.RegionWith
import Derived.IntWalk
namespace Go.Proofs.YthaagngoefieaaaDoor
open Go.ChangeShapes Go.WideShapes Go.ChangeAt Go.RowKit
set_option linter.unusedVariables false
set_option linter.unusedSimpArgs false

/-- What Region hands back: a slice that reads as a row. -/
def Row4 (l : List SpanC) (w : World) (r : Ending) (w' : World) : Prop :=
  ∃ A n cap, r = .returned (.slice A n cap) ∧ n = l.length ∧ n ≤ cap ∧ RdS w' w'.heap.size A l ∧ Below w.heap.size w w'
theorem spans_S (S : SpanC) (w : World) (h : okS S) : Calls Tryd.prog 56 #[spanV S] w (Row4 (spansC S) w) := by
  obtain ⟨F, G⟩ := S
  obtain ⟨e, a, b, c, p, q, f, hF, _, hFc, hp, hq⟩ := cut_of F
  obtain ⟨e', a', b', c', p', q', f', hG, _, hGc, hp', hq'⟩ := cut_of G
  have hv : spanV ⟨F, G⟩ = .agg #[.int .i64 e, .int .i64 a, .int .i64 b, .int .i64 c, .string p, .string q, .bool f, .int .i64 e', .int .i64 a', .int .i64 b', .int .i64 c', .string p', .string q', .bool f'] := by
    unfold spanV spanCells
    dsimp only
    rw [hFc, hGc]
    rfl
  have := spans_any e a b c p q f e' a' b' c' p' q' f' w (by rw [hp]; exact h.1.1) (by rw [hq]; exact h.1.2) (by rw [hp']; exact h.2.1) (by rw [hq']; exact h.2.2)
  rw [hv, hF, hG]
  refine this.mono ?_
  rintro r w' ⟨⟨A, n, cap, h1, h2, h3, h4⟩, hb⟩
  exact ⟨A, n, cap, h1, h2, h3, h4, hb⟩
theorem row4_more {l : List SpanC} {w W W' : World} {r : Ending} (h : Row4 l W r W') (hb : Below w.heap.size w W) : Row4 l w r W' := by
  obtain ⟨A, n, cap, h1, h2, h3, h4, h5⟩ := h
  exact ⟨A, n, cap, h1, h2, h3, h4, hb.trans (h5.mono hb.size)⟩
theorem okC_high (v : Ver) : ∀ n, okC (highC v n)
  | 0 => ⟨Nat.zero_le _, Nat.zero_le _⟩
  | n + 1 => by
    rw [highC]
    split
    · rename_i r h
      obtain ⟨x, y, z, rfl⟩ := bump_is h
      exact ⟨Nat.zero_le _, Nat.zero_le _⟩
    · exact okC_high v n
theorem okC_first : okC firstC := ⟨Nat.zero_le _, Nat.zero_le _⟩
theorem okC_last : okC lastC := ⟨Nat.zero_le _, Nat.zero_le _⟩
theorem okC_low {op ps a b c : Int} {p q : ByteArray} (hp : p.size ≤ 1048576) (hq : q.size ≤ 1048576) : okC (lowC (cmpS op ps a b c p q)) :=
  ⟨by show p.data.toList.length ≤ _; rw [len_size]; exact hp, by show q.data.toList.length ≤ _; rw [len_size]; exact hq⟩
theorem okC_behind {op ps a b c : Int} {p q : ByteArray} (hp : p.size ≤ 1048576) (hq : q.size ≤ 1048576) : okC (behindC (cmpS op ps a b c p q)) := by
  unfold behindC
  split
  · exact okC_high _ _
  · exact ⟨by show p.data.toList.length ≤ _; rw [len_size]; exact hp, by show q.data.toList.length ≤ _; rw [len_size]; exact hq⟩
theorem loc_ne {w W : World} {L : List (Nat × List Value)} (h : Loc w W L) (i j : Nat) {b b' : Nat} {xs xs' : List Value} (hi : L[i]? = some (b, xs)) (hj : L[j]? = some (b', xs')) (hij : i < j) : b ≠ b' := by
  obtain ⟨h1, e1⟩ := List.getElem?_eq_some_iff.1 hi
  obtain ⟨h2, e2⟩ := List.getElem?_eq_some_iff.1 hj
  have := List.pairwise_iff_getElem.1 h.2.1 i j h1 h2 hij
  rw [e1, e2] at this
  exact this
theorem spanP_1 {c : Cmp} (h : c.op = 1) : spanP c = ⟨lowC c, behindC c⟩ := by unfold spanP; rw [h]; rfl
theorem spanP_3 {c : Cmp} (h : c.op = 3) : spanP c = ⟨firstC, lowC c⟩ := by unfold spanP; rw [h]; rfl
theorem spanP_4 {c : Cmp} (h : c.op = 4) : spanP c = ⟨firstC, behindC c⟩ := by unfold spanP; rw [h]; rfl
theorem spanP_5 {c : Cmp} (h : c.op = 5) : spanP c = ⟨behindC c, lastC⟩ := by unfold spanP; rw [h]; rfl
theorem spanP_6 {c : Cmp} (h : c.op = 6) : spanP c = ⟨lowC c, lastC⟩ := by unfold spanP; rw [h]; rfl
theorem spanP_7 {c : Cmp} (h : c.op = 7) : spanP c = ⟨lowC c, highC c.v (caretP c + 1).toNat⟩ := by unfold spanP; rw [h]; rfl
theorem spanP_8 {c : Cmp} (h : c.op = 8) : spanP c = ⟨lowC c, highC c.v (min (c.parts - 1) 1 + 1).toNat⟩ := by unfold spanP; rw [h]; rfl
theorem spanP_9 {c : Cmp} (h : c.op = 9) : spanP c = if 0 < c.parts then ⟨lowC c, highC c.v c.parts.toNat⟩ else ⟨firstC, lastC⟩ := by unfold spanP; rw [h]; rfl
theorem caret_bd {c : Cmp} (h0 : 0 ≤ c.parts) (h3 : c.parts ≤ 3) : -1 ≤ caretP c ∧ caretP c ≤ 2 := by
  unfold caretP
  split
  · omega
  · split
    · omega
    · split <;> omega
/-- The blocks behind the switch's head. -/
def RegAt (w : World) (b3 : Nat) (op ps a b c : Int) (p q : ByteArray) (Bh : CutC) (W : World) : Prop :=
  Loc w W [(w.heap.size, [.int .i64 op, .int .i64 ps, .int .i64 a, .int .i64 b, .int .i64 c, .string p, .string q]), (b3, [.int .i64 0, .int .i64 a, .int .i64 b, .int .i64 c, .string p, .string q, .bool false]), (b3 + 1, [.int .i64 Bh.e, .int .i64 Bh.v.maj, .int .i64 Bh.v.min, .int .i64 Bh.v.pat, .string ⟨Bh.v.pre.toArray⟩, .string ⟨Bh.v.build.toArray⟩, .bool Bh.aft]), (b3 + 1 + 1, [.int .i64 0, .int .i64 a, .int .i64 b, .int .i64 c, .string p, .string q, .bool false, .int .i64 Bh.e, .int .i64 Bh.v.maj, .int .i64 Bh.v.min, .int .i64 Bh.v.pat, .string ⟨Bh.v.pre.toArray⟩, .string ⟨Bh.v.build.toArray⟩, .bool Bh.aft])]

set_option maxRecDepth 8192 in
set_option maxHeartbeats 8000000 in
theorem region_7 (op ps a b c : Int) (p q : ByteArray) (w : World) (hp : p.size ≤ 1048576) (hq : q.size ≤ 1048576) (hm : mayC (cmpS op ps a b c p q) = true) (hops : op = 7) :
    Calls Tryd.prog 22 #[cvV op ps a b c p q] w (Row4 (regionP (cmpS op ps a b c p q)) w) := by
  have cm := fun W => cmay_any op ps a b c p q W hp hq
  rw [hm] at cm
  have hbd := may_c hm
  have hps := parts_c hm
  have hR : regionP (cmpS op ps a b c p q) = spansC (spanP (cmpS op ps a b c p q)) := by
    unfold regionP
    rw [if_pos hm, if_neg (show ¬ (cmpS op ps a b c p q).op = 2 from (by show ¬ op = 2; omega))]
  rw [hR]
  clear hR
  have hlow := hbd.2.2.2.1
  have HBD := Lib.hid hbd
  have HM := Lib.hid hm
  have HOPS := Lib.hid hops
  clear hbd hm hops
  have okB := okC_behind (op := op) (ps := ps) (a := a) (b := b) (c := c) hp hq
  have okL := okC_low (op := op) (ps := ps) (a := a) (b := b) (c := c) hp hq
  have HBH : Hid (behindC (cmpS op ps a b c p q) = if ps < 3 ∧ op ≠ 9 then highC (verS a b c p q) ps.toNat else ⟨0, verS a b c p q, true⟩) := rfl
  have HSP : Hid (spanP (cmpS op ps a b c p q) = spanP (cmpS op ps a b c p q)) := rfl
  unfold cvV at *
  go_enter Tryd.func22, Tryd.ntmps22
  go_wp2_with fail
  refine (cm _).mono ?_
  rintro r w1 ⟨rfl, hb1⟩
  have hL := loc_call (loc_new (loc_start w) w.heap.size [.int .i64 op, .int .i64 ps, .int .i64 a, .int .i64 b, .int .i64 c, .string p, .string q] 26) hb1
  clear hb1 cm
  obtain ⟨c0, c1, c2, c3, c4, c5, c6⟩ := cells7L (loc_own hL 0 rfl).1
  have hz := loc_lt hL 0 rfl
  go_wp2_with fail
  go_cut [3, 4] (fun v3 v4 wx => ∃ b3 b4 : Nat, v3 = .pointer (some ⟨b3, 0, none⟩) ∧ v4 = .pointer (some ⟨b4, 0, none⟩) ∧ Loc w wx [(w.heap.size, [.int .i64 op, .int .i64 ps, .int .i64 a, .int .i64 b, .int .i64 c, .string p, .string q]), (b3, [.int .i64 0, .int .i64 a, .int .i64 b, .int .i64 c, .string p, .string q, .bool false]), (b4, [.int .i64 0, .int .i64 a, .int .i64 b, .int .i64 c, .string p, .string q, .bool true])])
  case first =>
    go_region
    all_goals
      go_wp2_with fail
      go_meet
      first | exact ⟨_, _, rfl, rfl, loc_drew (loc_new (loc_new hL w1.heap.size [.int .i64 0, .int .i64 a, .int .i64 b, .int .i64 c, .string p, .string q, .bool false] _) (w1.heap.size + 1) [.int .i64 0, .int .i64 a, .int .i64 b, .int .i64 c, .string p, .string q, .bool true] _)⟩ | exact ⟨_, _, rfl, rfl, loc_drew (loc_perm (loc_new (loc_new hL w1.heap.size [.int .i64 0, .int .i64 a, .int .i64 b, .int .i64 c, .string p, .string q, .bool true] _) (w1.heap.size + 1) [.int .i64 0, .int .i64 a, .int .i64 b, .int .i64 c, .string p, .string q, .bool false] _) (List.Perm.cons _ (List.Perm.swap _ _ _)))⟩
  case rest =>
    obtain ⟨b3, b4, rfl, rfl, hL⟩ := hcut
    clear c0 c1 c2 c3 c4 c5 c6 hz
    obtain ⟨c0, c1, c2, c3, c4, c5, c6⟩ := cells7L (loc_own hL 0 rfl).1
    obtain ⟨d0, d1, d2, d3, d4, d5, d6⟩ := cells7L (loc_own hL 1 rfl).1
    obtain ⟨k0, k1, k2, k3, k4, k5, k6⟩ := cells7L (loc_own hL 2 rfl).1
    have hz0 := loc_lt hL 0 rfl
    have hz3 := loc_lt hL 1 rfl
    have hz4 := loc_lt hL 2 rfl
    generalize hBh : behindC (cmpS op ps a b c p q) = Bh at *
    have HB := Lib.hid hBh
    clear hBh
    have hL := loc_new hL wc.heap.size [.int .i64 0, .int .i64 a, .int .i64 b, .int .i64 c, .string p, .string q, .bool false, .int .i64 0, .int .i64 a, .int .i64 b, .int .i64 c, .string p, .string q, .bool true] 50
    go_upto_region 5 with fail
    generalize hb5 : wc.heap.size = b5 at *
    clear hb5
    obtain ⟨bA, hbA⟩ : ∃ bA : Bool, (decide (ps < 3) && decide (op ≠ 9)) = bA := ⟨_, rfl⟩
    have HA := Lib.hid hbA
    clear hbA
    go_cut [25] (fun v wx => v = .bool bA ∧ Loc w wx [(w.heap.size, [.int .i64 op, .int .i64 ps, .int .i64 a, .int .i64 b, .int .i64 c, .string p, .string q]), (b3, [.int .i64 0, .int .i64 a, .int .i64 b, .int .i64 c, .string p, .string q, .bool false]), (b4, [.int .i64 0, .int .i64 a, .int .i64 b, .int .i64 c, .string p, .string q, .bool true]), (b5, [.int .i64 0, .int .i64 a, .int .i64 b, .int .i64 c, .string p, .string q, .bool false, .int .i64 0, .int .i64 a, .int .i64 b, .int .i64 c, .string p, .string q, .bool true])])
    case first =>
      clear d0 d1 d2 d3 d4 d5 d6 k0 k1 k2 k3 k4 k5 k6 hz0 hz3 hz4
      obtain ⟨g0, g1, g2, g3, g4, g5, g6⟩ := cells7L (loc_own hL 0 rfl).1
      clear c0 c1 c2 c3 c4 c5 c6
      by_cases h3 : ps < 3
      · by_cases h9 : op = 9
        · subst h9
          have e : bA = false := by rw [← HA.out]; simp
          subst e
          go_wp2_with fail
          go_meet
          exact ⟨rfl, hL⟩
        · have e : bA = true := by rw [← HA.out]; simp [h3, h9]
          have g9 : (op != 9) = true := by simpa using h9
          have g8 : (op == 9) = false := by simpa using h9
          subst e
          go_wp2_with fail
          go_meet
          exact ⟨rfl, hL⟩
      · have e : bA = false := by rw [← HA.out]; simp [h3]
        subst e
        go_wp2_with fail
        go_meet
        exact ⟨rfl, hL⟩
    case rest =>
    obtain ⟨rfl, hL⟩ := hcut
    go_upto_if 25 with fail
    go_cut [] (fun wx => Loc w wx [(w.heap.size, [.int .i64 op, .int .i64 ps, .int .i64 a, .int .i64 b, .int .i64 c, .string p, .string q]), (b3, [.int .i64 0, .int .i64 a, .int .i64 b, .int .i64 c, .string p, .string q, .bool false]), (b4, [.int .i64 Bh.e, .int .i64 Bh.v.maj, .int .i64 Bh.v.min, .int .i64 Bh.v.pat, .string ⟨Bh.v.pre.toArray⟩, .string ⟨Bh.v.build.toArray⟩, .bool Bh.aft]), (b5, [.int .i64 0, .int .i64 a, .int .i64 b, .int .i64 c, .string p, .string q, .bool false, .int .i64 Bh.e, .int .i64 Bh.v.maj, .int .i64 Bh.v.min, .int .i64 Bh.v.pat, .string ⟨Bh.v.pre.toArray⟩, .string ⟨Bh.v.build.toArray⟩, .bool Bh.aft])])
    case first =>
      clear c0 c1 c2 c3 c4 c5 c6 d0 d1 d2 d3 d4 d5 d6 k0 k1 k2 k3 k4 k5 k6 hz0 hz3 hz4
      have hAe : bA = true ↔ ps < 3 ∧ op ≠ 9 := by rw [← HA.out]; simp
      obtain ⟨c0, c1, c2, c3, c4, c5, c6⟩ := cells7L (loc_own hL 0 rfl).1
      obtain ⟨k0, k1, k2, k3, k4, k5, k6⟩ := cells7L (loc_own hL 2 rfl).1
      obtain ⟨e0, e1, e2, e3, e4, e5, e6, e7, e8, e9, e10, e11, e12, e13⟩ := cells14L (loc_own hL 3 rfl).1
      cases bA
      rotate_left
      · have hA : ps < 3 ∧ op ≠ 9 := hAe.1 rfl
        have hBe : Bh = highC (verS a b c p q) ps.toNat := HBH.out.trans (if_pos hA)
        have ch := fun W => high_any a b c p q ps.toNat W (by omega) hp hq
        rw [show plI ps.toNat = ps - 1 from by unfold plI; omega, ← hBe] at ch
        unfold cutV cutCells at ch
        have g9 : (op == 9) = false := by simpa using hA.2
        have g9n : (op != 9) = true := by simpa using hA.2
        have i3 := hA.1
        have i0 : 0 ≤ ps := by omega
        clear hA hBe hAe
        go_wp2_with fail
        refine (ch _).mono ?_
        rintro r w2 ⟨rfl, hb2⟩
        have hL := loc_call hL hb2
        clear hb2 c0 c1 c2 c3 c4 c5 c6 k0 k1 k2 k3 k4 k5 k6 e0 e1 e2 e3 e4 e5 e6 e7 e8 e9 e10 e11 e12 e13
        obtain ⟨k0, k1, k2, k3, k4, k5, k6⟩ := cells7L (loc_own hL 2 rfl).1
        have f4 := (loc_own hL 2 rfl).2
        obtain ⟨e0, e1, e2, e3, e4, e5, e6, e7, e8, e9, e10, e11, e12, e13⟩ := cells14L (loc_own hL 3 rfl).1
        have f5 := (loc_own hL 3 rfl).2
        have n45 := loc_ne hL 2 3 rfl rfl (by decide)
        have n54 := Ne.symm n45
        go_wp2_with fail
        go_meet
        exact loc_put (loc_put hL 2 0 [.int .i64 Bh.e, .int .i64 Bh.v.maj, .int .i64 Bh.v.min, .int .i64 Bh.v.pat, .string ⟨Bh.v.pre.toArray⟩, .string ⟨Bh.v.build.toArray⟩, .bool Bh.aft] rfl (by simp)) 3 7 [.int .i64 Bh.e, .int .i64 Bh.v.maj, .int .i64 Bh.v.min, .int .i64 Bh.v.pat, .string ⟨Bh.v.pre.toArray⟩, .string ⟨Bh.v.build.toArray⟩, .bool Bh.aft] rfl (by simp)
      · have hA : ¬ (ps < 3 ∧ op ≠ 9) := fun h => by have := hAe.2 h; cases this
        have hBe : Bh = ⟨0, verS a b c p q, true⟩ := HBH.out.trans (if_neg hA)
        subst hBe
        clear hA hAe
        go_wp2_with fail
        go_meet
        exact hL
    case rest =>
    have hL := hcut
    clear hcut
    clear c0 c1 c2 c3 c4 c5 c6 d0 d1 d2 d3 d4 d5 d6 k0 k1 k2 k3 k4 k5 k6 hz0 hz3 hz4
    have hge := hL.1.size
    obtain ⟨c0, c1, c2, c3, c4, c5, c6⟩ := cells7L (loc_own hL 0 rfl).1
    obtain ⟨d0, d1, d2, d3, d4, d5, d6⟩ := cells7L (loc_own hL 1 rfl).1
    obtain ⟨k0, k1, k2, k3, k4, k5, k6⟩ := cells7L (loc_own hL 2 rfl).1
    obtain ⟨e0, e1, e2, e3, e4, e5, e6, e7, e8, e9, e10, e11, e12, e13⟩ := cells14L (loc_own hL 3 rfl).1
    have f5 := (loc_own hL 3 rfl).2
    have fin : ∀ (S : SpanC) (W : World) (B : World), okS S → Below w.heap.size w B → Calls Tryd.prog 56 #[spanV S] B (Row4 (spansC S) w) := fun S W B h hb => (spans_S S B h).mono fun r w' hr => row4_more hr hb
    have hops := HOPS.out
    subst hops
    · have HS : Hid (spanP (cmpS 7 ps a b c p q) = ⟨lowC (cmpS 7 ps a b c p q), highC (verS a b c p q) (caretP (cmpS 7 ps a b c p q) + 1).toNat⟩) := by show spanP _ = _; rw [spanP_7 rfl]; try rfl
      have hk := caret_bd (c := (cmpS 7 ps a b c p q)) (by show 0 ≤ ps; omega) (by show ps ≤ 3; omega)
      have cc := fun W => caret_any 7 ps a b c p q W (by omega) (by omega)
      unfold cvV at cc
      generalize caretP (cmpS 7 ps a b c p q) = k at *
      have ch := fun W => high_any a b c p q (k + 1).toNat W (by omega) hp hq
      rw [show plI (k + 1).toNat = k from by unfold plI; omega] at ch
      have okH := okC_high (verS a b c p q) (k + 1).toNat
      unfold cutV cutCells at ch
      generalize highC (verS a b c p q) (k + 1).toNat = H at *
      clear d0 d1 d2 d3 d4 d5 d6 k0 k1 k2 k3 k4 k5 k6 e0 e1 e2 e3 e4 e5 e6 e7 e8 e9 e10 e11 e12 e13 f5
      go_wp2_with fail
      have hLx := loc_drew hL
      go_region_with (first | (go_at_call 57; (with_reducible refine (cc _).mono ?_); rintro r w2 ⟨rfl, hb2⟩; have hL2 := loc_call hLx hb2; obtain ⟨c0, c1, c2, c3, c4, c5, c6⟩ := cells7L (loc_own hL2 0 rfl).1) | (go_at_call 54; (with_reducible refine (ch _).mono ?_); rintro r w3 ⟨rfl, hb3⟩; have hL3 := loc_call hL2 hb3; obtain ⟨e0, e1, e2, e3, e4, e5, e6, e7, e8, e9, e10, e11, e12, e13⟩ := cells14L (loc_own hL3 3 rfl).1; have f5 := (loc_own hL3 3 rfl).2))
      all_goals
        go_wp2_with fail
        refine (show Calls Tryd.prog 56 #[.agg #[.int .i64 0, .int .i64 a, .int .i64 b, .int .i64 c, .string p, .string q, .bool false, .int .i64 H.e, .int .i64 H.v.maj, .int .i64 H.v.min, .int .i64 H.v.pat, .string ⟨H.v.pre.toArray⟩, .string ⟨H.v.build.toArray⟩, .bool H.aft]] _ (Row4 (spansC ⟨lowC (cmpS 7 ps a b c p q), H⟩) w) from fin ⟨lowC (cmpS 7 ps a b c p q), H⟩ wc _ ⟨okL, okH⟩ (loc_put hL3 3 7 [.int .i64 H.e, .int .i64 H.v.maj, .int .i64 H.v.min, .int .i64 H.v.pat, .string ⟨H.v.pre.toArray⟩, .string ⟨H.v.build.toArray⟩, .bool H.aft] rfl (by simp)).1).mono ?_
        rintro r w9 ⟨A, n, cap, rfl, h2, h3, h4, h5⟩
        have H2 := Lib.hid h2
        clear h2
        go_wp2_with fail
        go_ret
        rw [HS.out]
        exact ⟨A, n, cap, rfl, H2.out, h3, h4, h5⟩
end Go.Proofs.YthaagngoefieaaaDoor
