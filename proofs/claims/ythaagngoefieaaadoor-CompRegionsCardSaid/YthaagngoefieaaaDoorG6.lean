/-
  Merged parts, one behind another; each says ahead what it proves: CRegA CReg9 CReg2 CRegL CZone.
-/
import Derived.Test.YthaagngoefieaaaDoorCReg7
import Derived.Test.YthaagngoefieaaaDoorG5
import Derived.Test.YthaagngoefieaaaDoorG4
import Derived.Deep.DeepCutAuto
import Derived.Deep.RegionWith
import Derived.IntWalk
import Derived.Test.YthaagngoefieaaaDoorCNot

/-
  The walk of chapter 6's Region, the program's, of every Op but Ne. Conditions: the comparator may be; Pre and Build have at most 1048576 bytes.
-/
section
namespace Go.Proofs.YthaagngoefieaaaDoor
open Go.ChangeShapes Go.WideShapes Go.ChangeAt Go.RowKit
set_option linter.unusedVariables false
set_option linter.unusedSimpArgs false

set_option maxRecDepth 8192 in
set_option maxHeartbeats 8000000 in
theorem region_a (op ps a b c : Int) (p q : ByteArray) (w : World) (hp : p.size ≤ 1048576) (hq : q.size ≤ 1048576) (hm : mayC (cmpS op ps a b c p q) = true) (hops : op = 1 ∨ op = 3 ∨ op = 4 ∨ op = 5 ∨ op = 6 ∨ op = 8) :
    Calls Tryd.prog 22 #[cvV op ps a b c p q] w (Row4 (regionP (cmpS op ps a b c p q)) w) := by
  have cm := fun W => cmay_any op ps a b c p q W hp hq
  rw [hm] at cm
  have hbd := may_c hm
  have hps := parts_c hm
  have hR : regionP (cmpS op ps a b c p q) = spansC (spanP (cmpS op ps a b c p q)) := by
    unfold regionP
    rw [if_pos hm, if_neg (show ¬ (cmpS op ps a b c p q).op = 2 from (by show ¬ op = 2; omega))]
  rw [hR]
  clear hR
  have hlow := hbd.2.2.2.1
  have HBD := Lib.hid hbd
  have HM := Lib.hid hm
  have HOPS := Lib.hid hops
  clear hbd hm hops
  have okB := okC_behind (op := op) (ps := ps) (a := a) (b := b) (c := c) hp hq
  have okL := okC_low (op := op) (ps := ps) (a := a) (b := b) (c := c) hp hq
  have HBH : Hid (behindC (cmpS op ps a b c p q) = if ps < 3 ∧ op ≠ 9 then highC (verS a b c p q) ps.toNat else ⟨0, verS a b c p q, true⟩) := rfl
  have HSP : Hid (spanP (cmpS op ps a b c p q) = spanP (cmpS op ps a b c p q)) := rfl
  unfold cvV at *
  go_enter Tryd.func22, Tryd.ntmps22
  go_wp2_with fail
  refine (cm _).mono ?_
  rintro r w1 ⟨rfl, hb1⟩
  have hL := loc_call (loc_new (loc_start w) w.heap.size [.int .i64 op, .int .i64 ps, .int .i64 a, .int .i64 b, .int .i64 c, .string p, .string q] 26) hb1
  clear hb1 cm
  obtain ⟨c0, c1, c2, c3, c4, c5, c6⟩ := cells7L (loc_own hL 0 rfl).1
  have hz := loc_lt hL 0 rfl
  go_wp2_with fail
  go_cut [3, 4] (fun v3 v4 wx => ∃ b3 b4 : Nat, v3 = .pointer (some ⟨b3, 0, none⟩) ∧ v4 = .pointer (some ⟨b4, 0, none⟩) ∧ Loc w wx [(w.heap.size, [.int .i64 op, .int .i64 ps, .int .i64 a, .int .i64 b, .int .i64 c, .string p, .string q]), (b3, [.int .i64 0, .int .i64 a, .int .i64 b, .int .i64 c, .string p, .string q, .bool false]), (b4, [.int .i64 0, .int .i64 a, .int .i64 b, .int .i64 c, .string p, .string q, .bool true])])
  case first =>
    go_region
    all_goals
      go_wp2_with fail
      go_meet
      first | exact ⟨_, _, rfl, rfl, loc_drew (loc_new (loc_new hL w1.heap.size [.int .i64 0, .int .i64 a, .int .i64 b, .int .i64 c, .string p, .string q, .bool false] _) (w1.heap.size + 1) [.int .i64 0, .int .i64 a, .int .i64 b, .int .i64 c, .string p, .string q, .bool true] _)⟩ | exact ⟨_, _, rfl, rfl, loc_drew (loc_perm (loc_new (loc_new hL w1.heap.size [.int .i64 0, .int .i64 a, .int .i64 b, .int .i64 c, .string p, .string q, .bool true] _) (w1.heap.size + 1) [.int .i64 0, .int .i64 a, .int .i64 b, .int .i64 c, .string p, .string q, .bool false] _) (List.Perm.cons _ (List.Perm.swap _ _ _)))⟩
  case rest =>
    obtain ⟨b3, b4, rfl, rfl, hL⟩ := hcut
    clear c0 c1 c2 c3 c4 c5 c6 hz
    obtain ⟨c0, c1, c2, c3, c4, c5, c6⟩ := cells7L (loc_own hL 0 rfl).1
    obtain ⟨d0, d1, d2, d3, d4, d5, d6⟩ := cells7L (loc_own hL 1 rfl).1
    obtain ⟨k0, k1, k2, k3, k4, k5, k6⟩ := cells7L (loc_own hL 2 rfl).1
    have hz0 := loc_lt hL 0 rfl
    have hz3 := loc_lt hL 1 rfl
    have hz4 := loc_lt hL 2 rfl
    generalize hBh : behindC (cmpS op ps a b c p q) = Bh at *
    have HB := Lib.hid hBh
    clear hBh
    have hL := loc_new hL wc.heap.size [.int .i64 0, .int .i64 a, .int .i64 b, .int .i64 c, .string p, .string q, .bool false, .int .i64 0, .int .i64 a, .int .i64 b, .int .i64 c, .string p, .string q, .bool true] 50
    go_upto_region 5 with fail
    generalize hb5 : wc.heap.size = b5 at *
    clear hb5
    obtain ⟨bA, hbA⟩ : ∃ bA : Bool, (decide (ps < 3) && decide (op ≠ 9)) = bA := ⟨_, rfl⟩
    have HA := Lib.hid hbA
    clear hbA
    go_cut [25] (fun v wx => v = .bool bA ∧ Loc w wx [(w.heap.size, [.int .i64 op, .int .i64 ps, .int .i64 a, .int .i64 b, .int .i64 c, .string p, .string q]), (b3, [.int .i64 0, .int .i64 a, .int .i64 b, .int .i64 c, .string p, .string q, .bool false]), (b4, [.int .i64 0, .int .i64 a, .int .i64 b, .int .i64 c, .string p, .string q, .bool true]), (b5, [.int .i64 0, .int .i64 a, .int .i64 b, .int .i64 c, .string p, .string q, .bool false, .int .i64 0, .int .i64 a, .int .i64 b, .int .i64 c, .string p, .string q, .bool true])])
    case first =>
      clear d0 d1 d2 d3 d4 d5 d6 k0 k1 k2 k3 k4 k5 k6 hz0 hz3 hz4
      obtain ⟨g0, g1, g2, g3, g4, g5, g6⟩ := cells7L (loc_own hL 0 rfl).1
      clear c0 c1 c2 c3 c4 c5 c6
      by_cases h3 : ps < 3
      · by_cases h9 : op = 9
        · subst h9
          have e : bA = false := by rw [← HA.out]; simp
          subst e
          go_wp2_with fail
          go_meet
          exact ⟨rfl, hL⟩
        · have e : bA = true := by rw [← HA.out]; simp [h3, h9]
          have g9 : (op != 9) = true := by simpa using h9
          have g8 : (op == 9) = false := by simpa using h9
          subst e
          go_wp2_with fail
          go_meet
          exact ⟨rfl, hL⟩
      · have e : bA = false := by rw [← HA.out]; simp [h3]
        subst e
        go_wp2_with fail
        go_meet
        exact ⟨rfl, hL⟩
    case rest =>
    obtain ⟨rfl, hL⟩ := hcut
    go_upto_if 25 with fail
    go_cut [] (fun wx => Loc w wx [(w.heap.size, [.int .i64 op, .int .i64 ps, .int .i64 a, .int .i64 b, .int .i64 c, .string p, .string q]), (b3, [.int .i64 0, .int .i64 a, .int .i64 b, .int .i64 c, .string p, .string q, .bool false]), (b4, [.int .i64 Bh.e, .int .i64 Bh.v.maj, .int .i64 Bh.v.min, .int .i64 Bh.v.pat, .string ⟨Bh.v.pre.toArray⟩, .string ⟨Bh.v.build.toArray⟩, .bool Bh.aft]), (b5, [.int .i64 0, .int .i64 a, .int .i64 b, .int .i64 c, .string p, .string q, .bool false, .int .i64 Bh.e, .int .i64 Bh.v.maj, .int .i64 Bh.v.min, .int .i64 Bh.v.pat, .string ⟨Bh.v.pre.toArray⟩, .string ⟨Bh.v.build.toArray⟩, .bool Bh.aft])])
    case first =>
      clear c0 c1 c2 c3 c4 c5 c6 d0 d1 d2 d3 d4 d5 d6 k0 k1 k2 k3 k4 k5 k6 hz0 hz3 hz4
      have hAe : bA = true ↔ ps < 3 ∧ op ≠ 9 := by rw [← HA.out]; simp
      obtain ⟨c0, c1, c2, c3, c4, c5, c6⟩ := cells7L (loc_own hL 0 rfl).1
      obtain ⟨k0, k1, k2, k3, k4, k5, k6⟩ := cells7L (loc_own hL 2 rfl).1
      obtain ⟨e0, e1, e2, e3, e4, e5, e6, e7, e8, e9, e10, e11, e12, e13⟩ := cells14L (loc_own hL 3 rfl).1
      cases bA
      rotate_left
      · have hA : ps < 3 ∧ op ≠ 9 := hAe.1 rfl
        have hBe : Bh = highC (verS a b c p q) ps.toNat := HBH.out.trans (if_pos hA)
        have ch := fun W => high_any a b c p q ps.toNat W (by omega) hp hq
        rw [show plI ps.toNat = ps - 1 from by unfold plI; omega, ← hBe] at ch
        unfold cutV cutCells at ch
        have g9 : (op == 9) = false := by simpa using hA.2
        have g9n : (op != 9) = true := by simpa using hA.2
        have i3 := hA.1
        have i0 : 0 ≤ ps := by omega
        clear hA hBe hAe
        go_wp2_with fail
        refine (ch _).mono ?_
        rintro r w2 ⟨rfl, hb2⟩
        have hL := loc_call hL hb2
        clear hb2 c0 c1 c2 c3 c4 c5 c6 k0 k1 k2 k3 k4 k5 k6 e0 e1 e2 e3 e4 e5 e6 e7 e8 e9 e10 e11 e12 e13
        obtain ⟨k0, k1, k2, k3, k4, k5, k6⟩ := cells7L (loc_own hL 2 rfl).1
        have f4 := (loc_own hL 2 rfl).2
        obtain ⟨e0, e1, e2, e3, e4, e5, e6, e7, e8, e9, e10, e11, e12, e13⟩ := cells14L (loc_own hL 3 rfl).1
        have f5 := (loc_own hL 3 rfl).2
        have n45 := loc_ne hL 2 3 rfl rfl (by decide)
        have n54 := Ne.symm n45
        go_wp2_with fail
        go_meet
        exact loc_put (loc_put hL 2 0 [.int .i64 Bh.e, .int .i64 Bh.v.maj, .int .i64 Bh.v.min, .int .i64 Bh.v.pat, .string ⟨Bh.v.pre.toArray⟩, .string ⟨Bh.v.build.toArray⟩, .bool Bh.aft] rfl (by simp)) 3 7 [.int .i64 Bh.e, .int .i64 Bh.v.maj, .int .i64 Bh.v.min, .int .i64 Bh.v.pat, .string ⟨Bh.v.pre.toArray⟩, .string ⟨Bh.v.build.toArray⟩, .bool Bh.aft] rfl (by simp)
      · have hA : ¬ (ps < 3 ∧ op ≠ 9) := fun h => by have := hAe.2 h; cases this
        have hBe : Bh = ⟨0, verS a b c p q, true⟩ := HBH.out.trans (if_neg hA)
        subst hBe
        clear hA hAe
        go_wp2_with fail
        go_meet
        exact hL
    case rest =>
    have hL := hcut
    clear hcut
    clear c0 c1 c2 c3 c4 c5 c6 d0 d1 d2 d3 d4 d5 d6 k0 k1 k2 k3 k4 k5 k6 hz0 hz3 hz4
    have hge := hL.1.size
    obtain ⟨c0, c1, c2, c3, c4, c5, c6⟩ := cells7L (loc_own hL 0 rfl).1
    obtain ⟨d0, d1, d2, d3, d4, d5, d6⟩ := cells7L (loc_own hL 1 rfl).1
    obtain ⟨k0, k1, k2, k3, k4, k5, k6⟩ := cells7L (loc_own hL 2 rfl).1
    obtain ⟨e0, e1, e2, e3, e4, e5, e6, e7, e8, e9, e10, e11, e12, e13⟩ := cells14L (loc_own hL 3 rfl).1
    have f5 := (loc_own hL 3 rfl).2
    have fin : ∀ (S : SpanC) (W : World) (B : World), okS S → Below w.heap.size w B → Calls Tryd.prog 56 #[spanV S] B (Row4 (spansC S) w) := fun S W B h hb => (spans_S S B h).mono fun r w' hr => row4_more hr hb
    have hops := HOPS.out
    rcases hops with rfl | rfl | rfl | rfl | rfl | rfl
    · have HS : Hid (spanP (cmpS 1 ps a b c p q) = ⟨lowC (cmpS 1 ps a b c p q), Bh⟩) := by show spanP _ = _; rw [spanP_1 rfl]; rw [HB.out]; try rfl
      go_wp2_with fail
      refine (show Calls Tryd.prog 56 #[.agg #[.int .i64 0, .int .i64 a, .int .i64 b, .int .i64 c, .string p, .string q, .bool false, .int .i64 Bh.e, .int .i64 Bh.v.maj, .int .i64 Bh.v.min, .int .i64 Bh.v.pat, .string ⟨Bh.v.pre.toArray⟩, .string ⟨Bh.v.build.toArray⟩, .bool Bh.aft]] _ (Row4 (spansC ⟨lowC (cmpS 1 ps a b c p q), Bh⟩) w) from fin ⟨lowC (cmpS 1 ps a b c p q), Bh⟩ wc _ ⟨okL, okB⟩ (hL).1).mono ?_
      rintro r w9 ⟨A, n, cap, rfl, h2, h3, h4, h5⟩
      have H2 := Lib.hid h2
      clear h2
      go_wp2_with fail
      go_ret
      rw [HS.out]
      exact ⟨A, n, cap, rfl, H2.out, h3, h4, h5⟩
    · have HS : Hid (spanP (cmpS 3 ps a b c p q) = ⟨firstC, lowC (cmpS 3 ps a b c p q)⟩) := by show spanP _ = _; rw [spanP_3 rfl]; try rfl
      go_wp2_with fail
      refine (show Calls Tryd.prog 56 #[.agg #[.int .i64 (-1), .int .i64 0, .int .i64 0, .int .i64 0, .string ⟨#[]⟩, .string ⟨#[]⟩, .bool false, .int .i64 0, .int .i64 a, .int .i64 b, .int .i64 c, .string p, .string q, .bool false]] _ (Row4 (spansC ⟨firstC, lowC (cmpS 3 ps a b c p q)⟩) w) from fin ⟨firstC, lowC (cmpS 3 ps a b c p q)⟩ wc _ ⟨okC_first, okL⟩ (loc_put hL 3 0 [.int .i64 (-1), .int .i64 0, .int .i64 0, .int .i64 0, .string ⟨#[]⟩, .string ⟨#[]⟩, .bool false, .int .i64 0, .int .i64 a, .int .i64 b, .int .i64 c, .string p, .string q, .bool false] rfl (by simp)).1).mono ?_
      rintro r w9 ⟨A, n, cap, rfl, h2, h3, h4, h5⟩
      have H2 := Lib.hid h2
      clear h2
      go_wp2_with fail
      go_ret
      rw [HS.out]
      exact ⟨A, n, cap, rfl, H2.out, h3, h4, h5⟩
    · have HS : Hid (spanP (cmpS 4 ps a b c p q) = ⟨firstC, Bh⟩) := by show spanP _ = _; rw [spanP_4 rfl]; rw [HB.out]; try rfl
      go_wp2_with fail
      refine (show Calls Tryd.prog 56 #[.agg #[.int .i64 (-1), .int .i64 0, .int .i64 0, .int .i64 0, .string ⟨#[]⟩, .string ⟨#[]⟩, .bool false, .int .i64 Bh.e, .int .i64 Bh.v.maj, .int .i64 Bh.v.min, .int .i64 Bh.v.pat, .string ⟨Bh.v.pre.toArray⟩, .string ⟨Bh.v.build.toArray⟩, .bool Bh.aft]] _ (Row4 (spansC ⟨firstC, Bh⟩) w) from fin ⟨firstC, Bh⟩ wc _ ⟨okC_first, okB⟩ (loc_put hL 3 0 [.int .i64 (-1), .int .i64 0, .int .i64 0, .int .i64 0, .string ⟨#[]⟩, .string ⟨#[]⟩, .bool false] rfl (by simp)).1).mono ?_
      rintro r w9 ⟨A, n, cap, rfl, h2, h3, h4, h5⟩
      have H2 := Lib.hid h2
      clear h2
      go_wp2_with fail
      go_ret
      rw [HS.out]
      exact ⟨A, n, cap, rfl, H2.out, h3, h4, h5⟩
    · have HS : Hid (spanP (cmpS 5 ps a b c p q) = ⟨Bh, lastC⟩) := by show spanP _ = _; rw [spanP_5 rfl]; rw [HB.out]; try rfl
      go_wp2_with fail
      refine (show Calls Tryd.prog 56 #[.agg #[.int .i64 Bh.e, .int .i64 Bh.v.maj, .int .i64 Bh.v.min, .int .i64 Bh.v.pat, .string ⟨Bh.v.pre.toArray⟩, .string ⟨Bh.v.build.toArray⟩, .bool Bh.aft, .int .i64 1, .int .i64 0, .int .i64 0, .int .i64 0, .string ⟨#[]⟩, .string ⟨#[]⟩, .bool false]] _ (Row4 (spansC ⟨Bh, lastC⟩) w) from fin ⟨Bh, lastC⟩ wc _ ⟨okB, okC_last⟩ (loc_put (loc_put hL 3 0 [.int .i64 Bh.e, .int .i64 Bh.v.maj, .int .i64 Bh.v.min, .int .i64 Bh.v.pat, .string ⟨Bh.v.pre.toArray⟩, .string ⟨Bh.v.build.toArray⟩, .bool Bh.aft] rfl (by simp)) 3 7 [.int .i64 1, .int .i64 0, .int .i64 0, .int .i64 0, .string ⟨#[]⟩, .string ⟨#[]⟩, .bool false] rfl (Nat.le_refl _)).1).mono ?_
      rintro r w9 ⟨A, n, cap, rfl, h2, h3, h4, h5⟩
      have H2 := Lib.hid h2
      clear h2
      go_wp2_with fail
      go_ret
      rw [HS.out]
      exact ⟨A, n, cap, rfl, H2.out, h3, h4, h5⟩
    · have HS : Hid (spanP (cmpS 6 ps a b c p q) = ⟨lowC (cmpS 6 ps a b c p q), lastC⟩) := by show spanP _ = _; rw [spanP_6 rfl]; try rfl
      go_wp2_with fail
      refine (show Calls Tryd.prog 56 #[.agg #[.int .i64 0, .int .i64 a, .int .i64 b, .int .i64 c, .string p, .string q, .bool false, .int .i64 1, .int .i64 0, .int .i64 0, .int .i64 0, .string ⟨#[]⟩, .string ⟨#[]⟩, .bool false]] _ (Row4 (spansC ⟨lowC (cmpS 6 ps a b c p q), lastC⟩) w) from fin ⟨lowC (cmpS 6 ps a b c p q), lastC⟩ wc _ ⟨okL, okC_last⟩ (loc_put hL 3 7 [.int .i64 1, .int .i64 0, .int .i64 0, .int .i64 0, .string ⟨#[]⟩, .string ⟨#[]⟩, .bool false] rfl (by simp)).1).mono ?_
      rintro r w9 ⟨A, n, cap, rfl, h2, h3, h4, h5⟩
      have H2 := Lib.hid h2
      clear h2
      go_wp2_with fail
      go_ret
      rw [HS.out]
      exact ⟨A, n, cap, rfl, H2.out, h3, h4, h5⟩
    · have HS : Hid (spanP (cmpS 8 ps a b c p q) = ⟨lowC (cmpS 8 ps a b c p q), highC (verS a b c p q) (min (ps - 1) 1 + 1).toNat⟩) := by show spanP _ = _; rw [spanP_8 rfl]; try rfl
      have ch := fun W => high_any a b c p q (min (ps - 1) 1 + 1).toNat W (by omega) hp hq
      rw [show plI (min (ps - 1) 1 + 1).toNat = min (ps - 1) 1 from by unfold plI; omega] at ch
      have okH := okC_high (verS a b c p q) (min (ps - 1) 1 + 1).toNat
      unfold cutV cutCells at ch
      generalize highC (verS a b c p q) (min (ps - 1) 1 + 1).toNat = H at *
      go_wp2_with fail
      refine (ch _).mono ?_
      rintro r w2 ⟨rfl, hb2⟩
      have hL := loc_call hL hb2
      clear hb2 c0 c1 c2 c3 c4 c5 c6 d0 d1 d2 d3 d4 d5 d6 k0 k1 k2 k3 k4 k5 k6 e0 e1 e2 e3 e4 e5 e6 e7 e8 e9 e10 e11 e12 e13 f5
      obtain ⟨e0, e1, e2, e3, e4, e5, e6, e7, e8, e9, e10, e11, e12, e13⟩ := cells14L (loc_own hL 3 rfl).1
      have f5 := (loc_own hL 3 rfl).2
      go_wp2_with fail
      refine (show Calls Tryd.prog 56 #[.agg #[.int .i64 0, .int .i64 a, .int .i64 b, .int .i64 c, .string p, .string q, .bool false, .int .i64 H.e, .int .i64 H.v.maj, .int .i64 H.v.min, .int .i64 H.v.pat, .string ⟨H.v.pre.toArray⟩, .string ⟨H.v.build.toArray⟩, .bool H.aft]] _ (Row4 (spansC ⟨lowC (cmpS 8 ps a b c p q), H⟩) w) from fin ⟨lowC (cmpS 8 ps a b c p q), H⟩ wc _ ⟨okL, okH⟩ (loc_put hL 3 7 [.int .i64 H.e, .int .i64 H.v.maj, .int .i64 H.v.min, .int .i64 H.v.pat, .string ⟨H.v.pre.toArray⟩, .string ⟨H.v.build.toArray⟩, .bool H.aft] rfl (by simp)).1).mono ?_
      rintro r w9 ⟨A, n, cap, rfl, h2, h3, h4, h5⟩
      have H2 := Lib.hid h2
      clear h2
      go_wp2_with fail
      go_ret
      rw [HS.out]
      exact ⟨A, n, cap, rfl, H2.out, h3, h4, h5⟩
end Go.Proofs.YthaagngoefieaaaDoor
end

/-
  The walk of chapter 6's Region, the program's, of every Op but Ne. Conditions: the comparator may be; Pre and Build have at most 1048576 bytes.
-/
section
namespace Go.Proofs.YthaagngoefieaaaDoor
open Go.ChangeShapes Go.WideShapes Go.ChangeAt Go.RowKit
set_option linter.unusedVariables false
set_option linter.unusedSimpArgs false

set_option maxRecDepth 8192 in
set_option maxHeartbeats 8000000 in
theorem region_9 (op ps a b c : Int) (p q : ByteArray) (w : World) (hp : p.size ≤ 1048576) (hq : q.size ≤ 1048576) (hm : mayC (cmpS op ps a b c p q) = true) (hops : op = 9) :
    Calls Tryd.prog 22 #[cvV op ps a b c p q] w (Row4 (regionP (cmpS op ps a b c p q)) w) := by
  have cm := fun W => cmay_any op ps a b c p q W hp hq
  rw [hm] at cm
  have hbd := may_c hm
  have hps := parts_c hm
  have hR : regionP (cmpS op ps a b c p q) = spansC (spanP (cmpS op ps a b c p q)) := by
    unfold regionP
    rw [if_pos hm, if_neg (show ¬ (cmpS op ps a b c p q).op = 2 from (by show ¬ op = 2; omega))]
  rw [hR]
  clear hR
  have hlow := hbd.2.2.2.1
  have HBD := Lib.hid hbd
  have HM := Lib.hid hm
  have HOPS := Lib.hid hops
  clear hbd hm hops
  have okB := okC_behind (op := op) (ps := ps) (a := a) (b := b) (c := c) hp hq
  have okL := okC_low (op := op) (ps := ps) (a := a) (b := b) (c := c) hp hq
  have HBH : Hid (behindC (cmpS op ps a b c p q) = if ps < 3 ∧ op ≠ 9 then highC (verS a b c p q) ps.toNat else ⟨0, verS a b c p q, true⟩) := rfl
  have HSP : Hid (spanP (cmpS op ps a b c p q) = spanP (cmpS op ps a b c p q)) := rfl
  unfold cvV at *
  go_enter Tryd.func22, Tryd.ntmps22
  go_wp2_with fail
  refine (cm _).mono ?_
  rintro r w1 ⟨rfl, hb1⟩
  have hL := loc_call (loc_new (loc_start w) w.heap.size [.int .i64 op, .int .i64 ps, .int .i64 a, .int .i64 b, .int .i64 c, .string p, .string q] 26) hb1
  clear hb1 cm
  obtain ⟨c0, c1, c2, c3, c4, c5, c6⟩ := cells7L (loc_own hL 0 rfl).1
  have hz := loc_lt hL 0 rfl
  go_wp2_with fail
  go_cut [3, 4] (fun v3 v4 wx => ∃ b3 b4 : Nat, v3 = .pointer (some ⟨b3, 0, none⟩) ∧ v4 = .pointer (some ⟨b4, 0, none⟩) ∧ Loc w wx [(w.heap.size, [.int .i64 op, .int .i64 ps, .int .i64 a, .int .i64 b, .int .i64 c, .string p, .string q]), (b3, [.int .i64 0, .int .i64 a, .int .i64 b, .int .i64 c, .string p, .string q, .bool false]), (b4, [.int .i64 0, .int .i64 a, .int .i64 b, .int .i64 c, .string p, .string q, .bool true])])
  case first =>
    go_region
    all_goals
      go_wp2_with fail
      go_meet
      first | exact ⟨_, _, rfl, rfl, loc_drew (loc_new (loc_new hL w1.heap.size [.int .i64 0, .int .i64 a, .int .i64 b, .int .i64 c, .string p, .string q, .bool false] _) (w1.heap.size + 1) [.int .i64 0, .int .i64 a, .int .i64 b, .int .i64 c, .string p, .string q, .bool true] _)⟩ | exact ⟨_, _, rfl, rfl, loc_drew (loc_perm (loc_new (loc_new hL w1.heap.size [.int .i64 0, .int .i64 a, .int .i64 b, .int .i64 c, .string p, .string q, .bool true] _) (w1.heap.size + 1) [.int .i64 0, .int .i64 a, .int .i64 b, .int .i64 c, .string p, .string q, .bool false] _) (List.Perm.cons _ (List.Perm.swap _ _ _)))⟩
  case rest =>
    obtain ⟨b3, b4, rfl, rfl, hL⟩ := hcut
    clear c0 c1 c2 c3 c4 c5 c6 hz
    obtain ⟨c0, c1, c2, c3, c4, c5, c6⟩ := cells7L (loc_own hL 0 rfl).1
    obtain ⟨d0, d1, d2, d3, d4, d5, d6⟩ := cells7L (loc_own hL 1 rfl).1
    obtain ⟨k0, k1, k2, k3, k4, k5, k6⟩ := cells7L (loc_own hL 2 rfl).1
    have hz0 := loc_lt hL 0 rfl
    have hz3 := loc_lt hL 1 rfl
    have hz4 := loc_lt hL 2 rfl
    generalize hBh : behindC (cmpS op ps a b c p q) = Bh at *
    have HB := Lib.hid hBh
    clear hBh
    have hL := loc_new hL wc.heap.size [.int .i64 0, .int .i64 a, .int .i64 b, .int .i64 c, .string p, .string q, .bool false, .int .i64 0, .int .i64 a, .int .i64 b, .int .i64 c, .string p, .string q, .bool true] 50
    go_upto_region 5 with fail
    generalize hb5 : wc.heap.size = b5 at *
    clear hb5
    obtain ⟨bA, hbA⟩ : ∃ bA : Bool, (decide (ps < 3) && decide (op ≠ 9)) = bA := ⟨_, rfl⟩
    have HA := Lib.hid hbA
    clear hbA
    go_cut [25] (fun v wx => v = .bool bA ∧ Loc w wx [(w.heap.size, [.int .i64 op, .int .i64 ps, .int .i64 a, .int .i64 b, .int .i64 c, .string p, .string q]), (b3, [.int .i64 0, .int .i64 a, .int .i64 b, .int .i64 c, .string p, .string q, .bool false]), (b4, [.int .i64 0, .int .i64 a, .int .i64 b, .int .i64 c, .string p, .string q, .bool true]), (b5, [.int .i64 0, .int .i64 a, .int .i64 b, .int .i64 c, .string p, .string q, .bool false, .int .i64 0, .int .i64 a, .int .i64 b, .int .i64 c, .string p, .string q, .bool true])])
    case first =>
      clear d0 d1 d2 d3 d4 d5 d6 k0 k1 k2 k3 k4 k5 k6 hz0 hz3 hz4
      obtain ⟨g0, g1, g2, g3, g4, g5, g6⟩ := cells7L (loc_own hL 0 rfl).1
      clear c0 c1 c2 c3 c4 c5 c6
      by_cases h3 : ps < 3
      · by_cases h9 : op = 9
        · subst h9
          have e : bA = false := by rw [← HA.out]; simp
          subst e
          go_wp2_with fail
          go_meet
          exact ⟨rfl, hL⟩
        · have e : bA = true := by rw [← HA.out]; simp [h3, h9]
          have g9 : (op != 9) = true := by simpa using h9
          have g8 : (op == 9) = false := by simpa using h9
          subst e
          go_wp2_with fail
          go_meet
          exact ⟨rfl, hL⟩
      · have e : bA = false := by rw [← HA.out]; simp [h3]
        subst e
        go_wp2_with fail
        go_meet
        exact ⟨rfl, hL⟩
    case rest =>
    obtain ⟨rfl, hL⟩ := hcut
    go_upto_if 25 with fail
    go_cut [] (fun wx => Loc w wx [(w.heap.size, [.int .i64 op, .int .i64 ps, .int .i64 a, .int .i64 b, .int .i64 c, .string p, .string q]), (b3, [.int .i64 0, .int .i64 a, .int .i64 b, .int .i64 c, .string p, .string q, .bool false]), (b4, [.int .i64 Bh.e, .int .i64 Bh.v.maj, .int .i64 Bh.v.min, .int .i64 Bh.v.pat, .string ⟨Bh.v.pre.toArray⟩, .string ⟨Bh.v.build.toArray⟩, .bool Bh.aft]), (b5, [.int .i64 0, .int .i64 a, .int .i64 b, .int .i64 c, .string p, .string q, .bool false, .int .i64 Bh.e, .int .i64 Bh.v.maj, .int .i64 Bh.v.min, .int .i64 Bh.v.pat, .string ⟨Bh.v.pre.toArray⟩, .string ⟨Bh.v.build.toArray⟩, .bool Bh.aft])])
    case first =>
      clear c0 c1 c2 c3 c4 c5 c6 d0 d1 d2 d3 d4 d5 d6 k0 k1 k2 k3 k4 k5 k6 hz0 hz3 hz4
      have hAe : bA = true ↔ ps < 3 ∧ op ≠ 9 := by rw [← HA.out]; simp
      obtain ⟨c0, c1, c2, c3, c4, c5, c6⟩ := cells7L (loc_own hL 0 rfl).1
      obtain ⟨k0, k1, k2, k3, k4, k5, k6⟩ := cells7L (loc_own hL 2 rfl).1
      obtain ⟨e0, e1, e2, e3, e4, e5, e6, e7, e8, e9, e10, e11, e12, e13⟩ := cells14L (loc_own hL 3 rfl).1
      cases bA
      rotate_left
      · have hA : ps < 3 ∧ op ≠ 9 := hAe.1 rfl
        have hBe : Bh = highC (verS a b c p q) ps.toNat := HBH.out.trans (if_pos hA)
        have ch := fun W => high_any a b c p q ps.toNat W (by omega) hp hq
        rw [show plI ps.toNat = ps - 1 from by unfold plI; omega, ← hBe] at ch
        unfold cutV cutCells at ch
        have g9 : (op == 9) = false := by simpa using hA.2
        have g9n : (op != 9) = true := by simpa using hA.2
        have i3 := hA.1
        have i0 : 0 ≤ ps := by omega
        clear hA hBe hAe
        go_wp2_with fail
        refine (ch _).mono ?_
        rintro r w2 ⟨rfl, hb2⟩
        have hL := loc_call hL hb2
        clear hb2 c0 c1 c2 c3 c4 c5 c6 k0 k1 k2 k3 k4 k5 k6 e0 e1 e2 e3 e4 e5 e6 e7 e8 e9 e10 e11 e12 e13
        obtain ⟨k0, k1, k2, k3, k4, k5, k6⟩ := cells7L (loc_own hL 2 rfl).1
        have f4 := (loc_own hL 2 rfl).2
        obtain ⟨e0, e1, e2, e3, e4, e5, e6, e7, e8, e9, e10, e11, e12, e13⟩ := cells14L (loc_own hL 3 rfl).1
        have f5 := (loc_own hL 3 rfl).2
        have n45 := loc_ne hL 2 3 rfl rfl (by decide)
        have n54 := Ne.symm n45
        go_wp2_with fail
        go_meet
        exact loc_put (loc_put hL 2 0 [.int .i64 Bh.e, .int .i64 Bh.v.maj, .int .i64 Bh.v.min, .int .i64 Bh.v.pat, .string ⟨Bh.v.pre.toArray⟩, .string ⟨Bh.v.build.toArray⟩, .bool Bh.aft] rfl (by simp)) 3 7 [.int .i64 Bh.e, .int .i64 Bh.v.maj, .int .i64 Bh.v.min, .int .i64 Bh.v.pat, .string ⟨Bh.v.pre.toArray⟩, .string ⟨Bh.v.build.toArray⟩, .bool Bh.aft] rfl (by simp)
      · have hA : ¬ (ps < 3 ∧ op ≠ 9) := fun h => by have := hAe.2 h; cases this
        have hBe : Bh = ⟨0, verS a b c p q, true⟩ := HBH.out.trans (if_neg hA)
        subst hBe
        clear hA hAe
        go_wp2_with fail
        go_meet
        exact hL
    case rest =>
    have hL := hcut
    clear hcut
    clear c0 c1 c2 c3 c4 c5 c6 d0 d1 d2 d3 d4 d5 d6 k0 k1 k2 k3 k4 k5 k6 hz0 hz3 hz4
    have hge := hL.1.size
    obtain ⟨c0, c1, c2, c3, c4, c5, c6⟩ := cells7L (loc_own hL 0 rfl).1
    obtain ⟨d0, d1, d2, d3, d4, d5, d6⟩ := cells7L (loc_own hL 1 rfl).1
    obtain ⟨k0, k1, k2, k3, k4, k5, k6⟩ := cells7L (loc_own hL 2 rfl).1
    obtain ⟨e0, e1, e2, e3, e4, e5, e6, e7, e8, e9, e10, e11, e12, e13⟩ := cells14L (loc_own hL 3 rfl).1
    have f5 := (loc_own hL 3 rfl).2
    have fin : ∀ (S : SpanC) (W : World) (B : World), okS S → Below w.heap.size w B → Calls Tryd.prog 56 #[spanV S] B (Row4 (spansC S) w) := fun S W B h hb => (spans_S S B h).mono fun r w' hr => row4_more hr hb
    have hops := HOPS.out
    subst hops
    · by_cases hp0 : 0 < ps
      · have HS : Hid (spanP (cmpS 9 ps a b c p q) = ⟨lowC (cmpS 9 ps a b c p q), highC (verS a b c p q) ps.toNat⟩) := by show spanP _ = _; rw [spanP_9 rfl, if_pos (show 0 < (cmpS 9 ps a b c p q).parts from hp0)]; rfl
        have ch := fun W => high_any a b c p q ps.toNat W (by omega) hp hq
        rw [show plI ps.toNat = ps - 1 from by unfold plI; omega] at ch
        have okH := okC_high (verS a b c p q) ps.toNat
        unfold cutV cutCells at ch
        generalize highC (verS a b c p q) ps.toNat = H at *
        clear k0 k1 k2 k3 k4 k5 k6
        have n05 := loc_ne hL 0 3 rfl rfl (by decide)
        have n50 := Ne.symm n05
        have n35 := loc_ne hL 1 3 rfl rfl (by decide)
        have n53 := Ne.symm n35
        go_wp2_with fail
        generalize hW : World.setCell (World.setCell _ _ _) ⟨b5, 13, none⟩ _ = Ws
        have hLs : Loc w Ws [(w.heap.size, [.int .i64 9, .int .i64 ps, .int .i64 a, .int .i64 b, .int .i64 c, .string p, .string q]), (b3, [.int .i64 0, .int .i64 a, .int .i64 b, .int .i64 c, .string p, .string q, .bool false]), (b4, [.int .i64 Bh.e, .int .i64 Bh.v.maj, .int .i64 Bh.v.min, .int .i64 Bh.v.pat, .string ⟨Bh.v.pre.toArray⟩, .string ⟨Bh.v.build.toArray⟩, .bool Bh.aft]), (b5, [.int .i64 (-1), .int .i64 0, .int .i64 0, .int .i64 0, .string ⟨#[]⟩, .string ⟨#[]⟩, .bool false, .int .i64 1, .int .i64 0, .int .i64 0, .int .i64 0, .string ⟨#[]⟩, .string ⟨#[]⟩, .bool false])] := by rw [← hW]; exact loc_put hL 3 0 [.int .i64 (-1), .int .i64 0, .int .i64 0, .int .i64 0, .string ⟨#[]⟩, .string ⟨#[]⟩, .bool false, .int .i64 1, .int .i64 0, .int .i64 0, .int .i64 0, .string ⟨#[]⟩, .string ⟨#[]⟩, .bool false] rfl (by simp)
        clear hW
        have iw : IntKind.i64.wrap (ps - 1) = ps - 1 := IntWalk.i64_in _ (by omega)
        clear c0 c1 c2 c3 c4 c5 c6 d0 d1 d2 d3 d4 d5 d6 e0 e1 e2 e3 e4 e5 e6 e7 e8 e9 e10 e11 e12 e13 f5
        have hLx := loc_drew hLs
        refine wp_region_held_drew (S := fun W => (W.cell? ⟨w.heap.size, 0, none⟩ = some (.int .i64 9) ∧ W.cell? ⟨w.heap.size, 1, none⟩ = some (.int .i64 ps) ∧ W.cell? ⟨w.heap.size, 2, none⟩ = some (.int .i64 a) ∧ W.cell? ⟨w.heap.size, 3, none⟩ = some (.int .i64 b) ∧ W.cell? ⟨w.heap.size, 4, none⟩ = some (.int .i64 c) ∧ W.cell? ⟨w.heap.size, 5, none⟩ = some (.string p) ∧ W.cell? ⟨w.heap.size, 6, none⟩ = some (.string q)) ∧ (W.cell? ⟨b3, 0, none⟩ = some (.int .i64 0) ∧ W.cell? ⟨b3, 1, none⟩ = some (.int .i64 a) ∧ W.cell? ⟨b3, 2, none⟩ = some (.int .i64 b) ∧ W.cell? ⟨b3, 3, none⟩ = some (.int .i64 c) ∧ W.cell? ⟨b3, 4, none⟩ = some (.string p) ∧ W.cell? ⟨b3, 5, none⟩ = some (.string q) ∧ W.cell? ⟨b3, 6, none⟩ = some (.bool false))) (by kernel_rfl) ⟨cells7L (loc_own hLs 0 rfl).1, cells7L (loc_own hLs 1 rfl).1⟩ (fun hHeld => ?_)
        refine takeD (i := 0) (d := some 86) (v := ?_) rfl rfl (by kernel_rfl) (by kernel_rfl) (by kernel_rfl) (fun _ _ _ h => h) (Or.inl ⟨by rfl, ?_⟩) (by assumption) ?_
        rotate_left
        · intro wS hSw; (try dsimp only at hSw); go_simp; (try with_reducible rfl)
        try simp only [Act.put, List.setIfInBounds_toArray, List.set_cons_zero, List.set_cons_succ]
        refine takeD (i := 1) (d := some 87) (v := ?_) rfl rfl (by kernel_rfl) (by kernel_rfl) (by kernel_rfl) (fun _ _ _ h => h) (Or.inl ⟨by rfl, ?_⟩) (by assumption) ?_
        rotate_left
        · intro wS hSw; (try dsimp only at hSw); go_simp; (try with_reducible rfl)
        try simp only [Act.put, List.setIfInBounds_toArray, List.set_cons_zero, List.set_cons_succ]
        refine takeD (i := 2) (d := some 88) (v := ?_) rfl rfl (by kernel_rfl) (by kernel_rfl) (by kernel_rfl) (fun _ _ _ h => h) (Or.inl ⟨by rfl, ?_⟩) (by assumption) ?_
        rotate_left
        · intro wS hSw; (try dsimp only at hSw); go_simp; (try with_reducible rfl)
        try simp only [Act.put, List.setIfInBounds_toArray, List.set_cons_zero, List.set_cons_succ]
        refine takeD (i := 3) (d := some 89) (v := ?_) rfl rfl (by kernel_rfl) (by kernel_rfl) (by kernel_rfl) (fun _ _ _ h => h) (Or.inl ⟨by rfl, ?_⟩) (by assumption) ?_
        rotate_left
        · intro wS hSw; (try dsimp only at hSw); go_simp; (try with_reducible rfl)
        try simp only [Act.put, List.setIfInBounds_toArray, List.set_cons_zero, List.set_cons_succ]
        refine takeD (i := 4) (d := some 90) (v := ?_) rfl rfl (by kernel_rfl) (by kernel_rfl) (by kernel_rfl) (fun _ _ _ h => h) (Or.inl ⟨by rfl, ?_⟩) (by assumption) ?_
        rotate_left
        · intro wS hSw; (try dsimp only at hSw); go_simp; (try with_reducible rfl)
        try simp only [Act.put, List.setIfInBounds_toArray, List.set_cons_zero, List.set_cons_succ]
        refine takeD (i := 5) (d := some 91) (v := ?_) rfl rfl (by kernel_rfl) (by kernel_rfl) (by kernel_rfl) (fun _ _ _ h => h) (Or.inl ⟨by rfl, ?_⟩) (by assumption) ?_
        rotate_left
        · intro wS hSw; (try dsimp only at hSw); go_simp; (try with_reducible rfl)
        try simp only [Act.put, List.setIfInBounds_toArray, List.set_cons_zero, List.set_cons_succ]
        refine wpAnyH_ready (rs := [6]) (by kernel_rfl) (by simp) ?_
        refine consD (d := some 92) rfl rfl (fun K hK => ?_) AllReadyH.nil
        go_simp
        (go_at_call 54; (with_reducible refine (ch _).mono ?_); rintro r w3 ⟨rfl, hb3⟩)
        have hL3 := loc_call hLx hb3
        refine hK.out _ _ ⟨cells7L (loc_own hL3 0 rfl).1, cells7L (loc_own hL3 1 rfl).1⟩ (fun hHeld => ?_)
        clear hK K
        try simp only [Act.put, List.setIfInBounds_toArray, List.set_cons_zero, List.set_cons_succ]
        refine takeD (i := 7) (d := some 93) (v := ?_) rfl rfl (by kernel_rfl) (by kernel_rfl) (by kernel_rfl) (fun _ _ _ h => h) (Or.inl ⟨by rfl, ?_⟩) (by assumption) ?_
        rotate_left
        · intro wS hSw; (try dsimp only at hSw); go_simp; (try with_reducible rfl)
        try simp only [Act.put, List.setIfInBounds_toArray, List.set_cons_zero, List.set_cons_succ]
        obtain ⟨x0, x1, x2, x3, x4, x5, x6, x7, x8, x9, x10, x11, x12, x13⟩ := cells14L (loc_own hL3 3 rfl).1
        have f6 := (loc_own hL3 3 rfl).2
        refine wpAnyH_ready (rs := [8]) (by kernel_rfl) (by simp) ?_
        refine consD (d := none) rfl rfl (fun K hK => ?_) AllReadyH.nil
        go_simp
        have hL4 := loc_put hL3 3 0 [.int .i64 0, .int .i64 a, .int .i64 b, .int .i64 c, .string p, .string q, .bool false, .int .i64 H.e, .int .i64 H.v.maj, .int .i64 H.v.min, .int .i64 H.v.pat, .string ⟨H.v.pre.toArray⟩, .string ⟨H.v.build.toArray⟩, .bool H.aft] rfl (by simp)
        refine hK.out _ _ ⟨cells7L (loc_own hL4 0 rfl).1, cells7L (loc_own hL4 1 rfl).1⟩ (fun hHeld => ?_)
        clear hK K
        try simp only [Act.put, List.setIfInBounds_toArray, List.set_cons_zero, List.set_cons_succ]
        refine wpAnyH_done (by kernel_rfl) ?_ _
        clear iw hHeld
        go_wp2_with fail
        refine (show Calls Tryd.prog 56 #[.agg #[.int .i64 0, .int .i64 a, .int .i64 b, .int .i64 c, .string p, .string q, .bool false, .int .i64 H.e, .int .i64 H.v.maj, .int .i64 H.v.min, .int .i64 H.v.pat, .string ⟨H.v.pre.toArray⟩, .string ⟨H.v.build.toArray⟩, .bool H.aft]] _ (Row4 (spansC ⟨lowC (cmpS 9 ps a b c p q), H⟩) w) from fin ⟨lowC (cmpS 9 ps a b c p q), H⟩ wc _ ⟨okL, okH⟩ (hL4).1).mono ?_
        rintro r w9 ⟨A, n, cap, rfl, h2, h3, h4, h5⟩
        have H2 := Lib.hid h2
        clear h2
        go_wp2_with fail
        go_ret
        rw [HS.out]
        exact ⟨A, n, cap, rfl, H2.out, h3, h4, h5⟩
      · have n05 := loc_ne hL 0 3 rfl rfl (by decide)
        have n50 := Ne.symm n05
        have HS : Hid (spanP (cmpS 9 ps a b c p q) = ⟨firstC, lastC⟩) := by show spanP _ = _; rw [spanP_9 rfl, if_neg (show ¬ 0 < (cmpS 9 ps a b c p q).parts from hp0)]
        go_wp2_with fail
        refine (show Calls Tryd.prog 56 #[.agg #[.int .i64 (-1), .int .i64 0, .int .i64 0, .int .i64 0, .string ⟨#[]⟩, .string ⟨#[]⟩, .bool false, .int .i64 1, .int .i64 0, .int .i64 0, .int .i64 0, .string ⟨#[]⟩, .string ⟨#[]⟩, .bool false]] _ (Row4 (spansC ⟨firstC, lastC⟩) w) from fin ⟨firstC, lastC⟩ wc _ ⟨okC_first, okC_last⟩ (loc_put hL 3 0 [.int .i64 (-1), .int .i64 0, .int .i64 0, .int .i64 0, .string ⟨#[]⟩, .string ⟨#[]⟩, .bool false, .int .i64 1, .int .i64 0, .int .i64 0, .int .i64 0, .string ⟨#[]⟩, .string ⟨#[]⟩, .bool false] rfl (by simp)).1).mono ?_
        rintro r w9 ⟨A, n, cap, rfl, h2, h3, h4, h5⟩
        have H2 := Lib.hid h2
        clear h2
        go_wp2_with fail
        go_ret
        rw [HS.out]
        exact ⟨A, n, cap, rfl, H2.out, h3, h4, h5⟩

end Go.Proofs.YthaagngoefieaaaDoor
end

/-
  The walk of chapter 6's Region, the program's, of every Op but Ne. Conditions: the comparator may be; Pre and Build have at most 1048576 bytes.
-/
section
namespace Go.Proofs.YthaagngoefieaaaDoor
open Go.ChangeShapes Go.WideShapes Go.ChangeAt Go.RowKit
set_option linter.unusedVariables false
set_option linter.unusedSimpArgs false

theorem spanP_2 {c : Cmp} (h : c.op = 2) : spanP c = ⟨lowC c, behindC c⟩ := by unfold spanP; rw [h]; rfl
theorem may_high {v : Ver} : ∀ n, mayCut (highC v n) = true
  | 0 => may_last
  | n + 1 => by
    rw [highC]
    split
    · rename_i r h
      obtain ⟨x, y, z, rfl⟩ := bump_is h
      have hv : mayV (relV x y z) = true := by
        have hi : ∀ u : Ver, ifMay u = some (relV x y z) → mayV (relV x y z) = true := by
          intro u hu
          unfold ifMay at hu
          split at hu
          · rename_i hm; rw [← Option.some.inj hu]; exact hm
          · cases hu
        unfold bumpV at h
        split at h
        · split at h
          · exact hi _ h
          · split at h
            · exact hi _ h
            · split at h
              · exact hi _ h
              · cases h
        · cases h
      unfold mayCut
      rw [if_pos rfl]
      show (mayV (relV x y z) && (relV x y z).build.isEmpty) = true
      rw [hv]; rfl
    · exact may_high n
theorem may_low {c : Cmp} (h : mayC c = true) : mayCut (lowC c) = true := by
  obtain ⟨_, h2, h3, _⟩ := may_c h
  unfold mayCut
  rw [if_pos (show (lowC c).e = 0 from rfl)]
  show (mayV c.v && c.v.build.isEmpty) = true
  rw [h2, h3]; rfl
theorem may_behind {c : Cmp} (h : mayC c = true) : mayCut (behindC c) = true := by
  unfold behindC
  split
  · exact may_high _
  · exact may_low h
theorem may_spans {F G : CutC} (hF : mayCut F = true) (hG : mayCut G = true) : mayRow (spansC ⟨F, G⟩) = true := by
  rw [spans_eq]
  split
  · rename_i h
    show mayS ⟨F, G⟩ = true
    rw [mayS_eq, hF, hG]
    simpa using h
  · rfl
theorem spans_le (s : SpanC) : (spansC s).length ≤ 1 := by unfold spansC; split <;> simp
theorem spans_ok {s t : SpanC} (h : okS s) (ht : t ∈ spansC s) : okS t := by
  unfold spansC at ht
  split at ht
  · rw [List.mem_singleton] at ht; subst ht; exact h
  · cases ht
set_option maxRecDepth 8192 in
set_option maxHeartbeats 8000000 in
theorem region_2 (op ps a b c : Int) (p q : ByteArray) (w : World) (hp : p.size ≤ 1048576) (hq : q.size ≤ 1048576) (hm : mayC (cmpS op ps a b c p q) = true) (hops : op = 2) :
    Calls Tryd.prog 22 #[cvV op ps a b c p q] w (Row4 (regionP (cmpS op ps a b c p q)) w) := by
  have cm := fun W => cmay_any op ps a b c p q W hp hq
  rw [hm] at cm
  have hbd := may_c hm
  have hps := parts_c hm
  have hR : regionP (cmpS op ps a b c p q) = notP (spansC (spanP (cmpS op ps a b c p q))) := by
    unfold regionP
    rw [if_pos hm, if_pos (show (cmpS op ps a b c p q).op = 2 from hops)]
  rw [hR]
  clear hR
  have hlow := hbd.2.2.2.1
  have HBD := Lib.hid hbd
  have HM := Lib.hid hm
  have HOPS := Lib.hid hops
  clear hbd hm hops
  have okB := okC_behind (op := op) (ps := ps) (a := a) (b := b) (c := c) hp hq
  have okL := okC_low (op := op) (ps := ps) (a := a) (b := b) (c := c) hp hq
  have HBH : Hid (behindC (cmpS op ps a b c p q) = if ps < 3 ∧ op ≠ 9 then highC (verS a b c p q) ps.toNat else ⟨0, verS a b c p q, true⟩) := rfl
  have HSP : Hid (spanP (cmpS op ps a b c p q) = spanP (cmpS op ps a b c p q)) := rfl
  unfold cvV at *
  go_enter Tryd.func22, Tryd.ntmps22
  go_wp2_with fail
  refine (cm _).mono ?_
  rintro r w1 ⟨rfl, hb1⟩
  have hL := loc_call (loc_new (loc_start w) w.heap.size [.int .i64 op, .int .i64 ps, .int .i64 a, .int .i64 b, .int .i64 c, .string p, .string q] 26) hb1
  clear hb1 cm
  obtain ⟨c0, c1, c2, c3, c4, c5, c6⟩ := cells7L (loc_own hL 0 rfl).1
  have hz := loc_lt hL 0 rfl
  go_wp2_with fail
  go_cut [3, 4] (fun v3 v4 wx => ∃ b3 b4 : Nat, v3 = .pointer (some ⟨b3, 0, none⟩) ∧ v4 = .pointer (some ⟨b4, 0, none⟩) ∧ Loc w wx [(w.heap.size, [.int .i64 op, .int .i64 ps, .int .i64 a, .int .i64 b, .int .i64 c, .string p, .string q]), (b3, [.int .i64 0, .int .i64 a, .int .i64 b, .int .i64 c, .string p, .string q, .bool false]), (b4, [.int .i64 0, .int .i64 a, .int .i64 b, .int .i64 c, .string p, .string q, .bool true])])
  case first =>
    go_region
    all_goals
      go_wp2_with fail
      go_meet
      first | exact ⟨_, _, rfl, rfl, loc_drew (loc_new (loc_new hL w1.heap.size [.int .i64 0, .int .i64 a, .int .i64 b, .int .i64 c, .string p, .string q, .bool false] _) (w1.heap.size + 1) [.int .i64 0, .int .i64 a, .int .i64 b, .int .i64 c, .string p, .string q, .bool true] _)⟩ | exact ⟨_, _, rfl, rfl, loc_drew (loc_perm (loc_new (loc_new hL w1.heap.size [.int .i64 0, .int .i64 a, .int .i64 b, .int .i64 c, .string p, .string q, .bool true] _) (w1.heap.size + 1) [.int .i64 0, .int .i64 a, .int .i64 b, .int .i64 c, .string p, .string q, .bool false] _) (List.Perm.cons _ (List.Perm.swap _ _ _)))⟩
  case rest =>
    obtain ⟨b3, b4, rfl, rfl, hL⟩ := hcut
    clear c0 c1 c2 c3 c4 c5 c6 hz
    obtain ⟨c0, c1, c2, c3, c4, c5, c6⟩ := cells7L (loc_own hL 0 rfl).1
    obtain ⟨d0, d1, d2, d3, d4, d5, d6⟩ := cells7L (loc_own hL 1 rfl).1
    obtain ⟨k0, k1, k2, k3, k4, k5, k6⟩ := cells7L (loc_own hL 2 rfl).1
    have hz0 := loc_lt hL 0 rfl
    have hz3 := loc_lt hL 1 rfl
    have hz4 := loc_lt hL 2 rfl
    generalize hBh : behindC (cmpS op ps a b c p q) = Bh at *
    have HB := Lib.hid hBh
    clear hBh
    have hL := loc_new hL wc.heap.size [.int .i64 0, .int .i64 a, .int .i64 b, .int .i64 c, .string p, .string q, .bool false, .int .i64 0, .int .i64 a, .int .i64 b, .int .i64 c, .string p, .string q, .bool true] 50
    go_upto_region 5 with fail
    generalize hb5 : wc.heap.size = b5 at *
    clear hb5
    obtain ⟨bA, hbA⟩ : ∃ bA : Bool, (decide (ps < 3) && decide (op ≠ 9)) = bA := ⟨_, rfl⟩
    have HA := Lib.hid hbA
    clear hbA
    go_cut [25] (fun v wx => v = .bool bA ∧ Loc w wx [(w.heap.size, [.int .i64 op, .int .i64 ps, .int .i64 a, .int .i64 b, .int .i64 c, .string p, .string q]), (b3, [.int .i64 0, .int .i64 a, .int .i64 b, .int .i64 c, .string p, .string q, .bool false]), (b4, [.int .i64 0, .int .i64 a, .int .i64 b, .int .i64 c, .string p, .string q, .bool true]), (b5, [.int .i64 0, .int .i64 a, .int .i64 b, .int .i64 c, .string p, .string q, .bool false, .int .i64 0, .int .i64 a, .int .i64 b, .int .i64 c, .string p, .string q, .bool true])])
    case first =>
      clear d0 d1 d2 d3 d4 d5 d6 k0 k1 k2 k3 k4 k5 k6 hz0 hz3 hz4
      obtain ⟨g0, g1, g2, g3, g4, g5, g6⟩ := cells7L (loc_own hL 0 rfl).1
      clear c0 c1 c2 c3 c4 c5 c6
      by_cases h3 : ps < 3
      · by_cases h9 : op = 9
        · subst h9
          have e : bA = false := by rw [← HA.out]; simp
          subst e
          go_wp2_with fail
          go_meet
          exact ⟨rfl, hL⟩
        · have e : bA = true := by rw [← HA.out]; simp [h3, h9]
          have g9 : (op != 9) = true := by simpa using h9
          have g8 : (op == 9) = false := by simpa using h9
          subst e
          go_wp2_with fail
          go_meet
          exact ⟨rfl, hL⟩
      · have e : bA = false := by rw [← HA.out]; simp [h3]
        subst e
        go_wp2_with fail
        go_meet
        exact ⟨rfl, hL⟩
    case rest =>
    obtain ⟨rfl, hL⟩ := hcut
    go_upto_if 25 with fail
    go_cut [] (fun wx => Loc w wx [(w.heap.size, [.int .i64 op, .int .i64 ps, .int .i64 a, .int .i64 b, .int .i64 c, .string p, .string q]), (b3, [.int .i64 0, .int .i64 a, .int .i64 b, .int .i64 c, .string p, .string q, .bool false]), (b4, [.int .i64 Bh.e, .int .i64 Bh.v.maj, .int .i64 Bh.v.min, .int .i64 Bh.v.pat, .string ⟨Bh.v.pre.toArray⟩, .string ⟨Bh.v.build.toArray⟩, .bool Bh.aft]), (b5, [.int .i64 0, .int .i64 a, .int .i64 b, .int .i64 c, .string p, .string q, .bool false, .int .i64 Bh.e, .int .i64 Bh.v.maj, .int .i64 Bh.v.min, .int .i64 Bh.v.pat, .string ⟨Bh.v.pre.toArray⟩, .string ⟨Bh.v.build.toArray⟩, .bool Bh.aft])])
    case first =>
      clear c0 c1 c2 c3 c4 c5 c6 d0 d1 d2 d3 d4 d5 d6 k0 k1 k2 k3 k4 k5 k6 hz0 hz3 hz4
      have hAe : bA = true ↔ ps < 3 ∧ op ≠ 9 := by rw [← HA.out]; simp
      obtain ⟨c0, c1, c2, c3, c4, c5, c6⟩ := cells7L (loc_own hL 0 rfl).1
      obtain ⟨k0, k1, k2, k3, k4, k5, k6⟩ := cells7L (loc_own hL 2 rfl).1
      obtain ⟨e0, e1, e2, e3, e4, e5, e6, e7, e8, e9, e10, e11, e12, e13⟩ := cells14L (loc_own hL 3 rfl).1
      cases bA
      rotate_left
      · have hA : ps < 3 ∧ op ≠ 9 := hAe.1 rfl
        have hBe : Bh = highC (verS a b c p q) ps.toNat := HBH.out.trans (if_pos hA)
        have ch := fun W => high_any a b c p q ps.toNat W (by omega) hp hq
        rw [show plI ps.toNat = ps - 1 from by unfold plI; omega, ← hBe] at ch
        unfold cutV cutCells at ch
        have g9 : (op == 9) = false := by simpa using hA.2
        have g9n : (op != 9) = true := by simpa using hA.2
        have i3 := hA.1
        have i0 : 0 ≤ ps := by omega
        clear hA hBe hAe
        go_wp2_with fail
        refine (ch _).mono ?_
        rintro r w2 ⟨rfl, hb2⟩
        have hL := loc_call hL hb2
        clear hb2 c0 c1 c2 c3 c4 c5 c6 k0 k1 k2 k3 k4 k5 k6 e0 e1 e2 e3 e4 e5 e6 e7 e8 e9 e10 e11 e12 e13
        obtain ⟨k0, k1, k2, k3, k4, k5, k6⟩ := cells7L (loc_own hL 2 rfl).1
        have f4 := (loc_own hL 2 rfl).2
        obtain ⟨e0, e1, e2, e3, e4, e5, e6, e7, e8, e9, e10, e11, e12, e13⟩ := cells14L (loc_own hL 3 rfl).1
        have f5 := (loc_own hL 3 rfl).2
        have n45 := loc_ne hL 2 3 rfl rfl (by decide)
        have n54 := Ne.symm n45
        go_wp2_with fail
        go_meet
        exact loc_put (loc_put hL 2 0 [.int .i64 Bh.e, .int .i64 Bh.v.maj, .int .i64 Bh.v.min, .int .i64 Bh.v.pat, .string ⟨Bh.v.pre.toArray⟩, .string ⟨Bh.v.build.toArray⟩, .bool Bh.aft] rfl (by simp)) 3 7 [.int .i64 Bh.e, .int .i64 Bh.v.maj, .int .i64 Bh.v.min, .int .i64 Bh.v.pat, .string ⟨Bh.v.pre.toArray⟩, .string ⟨Bh.v.build.toArray⟩, .bool Bh.aft] rfl (by simp)
      · have hA : ¬ (ps < 3 ∧ op ≠ 9) := fun h => by have := hAe.2 h; cases this
        have hBe : Bh = ⟨0, verS a b c p q, true⟩ := HBH.out.trans (if_neg hA)
        subst hBe
        clear hA hAe
        go_wp2_with fail
        go_meet
        exact hL
    case rest =>
    have hL := hcut
    clear hcut
    clear c0 c1 c2 c3 c4 c5 c6 d0 d1 d2 d3 d4 d5 d6 k0 k1 k2 k3 k4 k5 k6 hz0 hz3 hz4
    have hge := hL.1.size
    obtain ⟨c0, c1, c2, c3, c4, c5, c6⟩ := cells7L (loc_own hL 0 rfl).1
    obtain ⟨d0, d1, d2, d3, d4, d5, d6⟩ := cells7L (loc_own hL 1 rfl).1
    obtain ⟨k0, k1, k2, k3, k4, k5, k6⟩ := cells7L (loc_own hL 2 rfl).1
    obtain ⟨e0, e1, e2, e3, e4, e5, e6, e7, e8, e9, e10, e11, e12, e13⟩ := cells14L (loc_own hL 3 rfl).1
    have f5 := (loc_own hL 3 rfl).2
    have fin : ∀ (S : SpanC) (W : World) (B : World), okS S → Below w.heap.size w B → Calls Tryd.prog 56 #[spanV S] B (Row4 (spansC S) w) := fun S W B h hb => (spans_S S B h).mono fun r w' hr => row4_more hr hb
    have hops := HOPS.out
    subst hops
    · have HS : Hid (spanP (cmpS 2 ps a b c p q) = ⟨lowC (cmpS 2 ps a b c p q), Bh⟩) := by show spanP _ = _; rw [spanP_2 rfl]; rw [HB.out]; try rfl
      have hbl : (⟨lowC (cmpS 2 ps a b c p q), Bh⟩ : SpanC).f = lowC (cmpS 2 ps a b c p q) := rfl
      go_wp2_with fail
      refine (show Calls Tryd.prog 56 #[.agg #[.int .i64 0, .int .i64 a, .int .i64 b, .int .i64 c, .string p, .string q, .bool false, .int .i64 Bh.e, .int .i64 Bh.v.maj, .int .i64 Bh.v.min, .int .i64 Bh.v.pat, .string ⟨Bh.v.pre.toArray⟩, .string ⟨Bh.v.build.toArray⟩, .bool Bh.aft]] _ (Row4 (spansC ⟨lowC (cmpS 2 ps a b c p q), Bh⟩) w) from fin ⟨lowC (cmpS 2 ps a b c p q), Bh⟩ wc _ ⟨okL, okB⟩ hL.1).mono ?_
      rintro r w9 ⟨A, n, cap, rfl, h2, h3, h4, h5⟩
      have hmb : mayCut Bh = true := by rw [← HB.out]; exact may_behind HM.out
      have hrow : mayRow (spansC ⟨lowC (cmpS 2 ps a b c p q), Bh⟩) = true := may_spans (may_low HM.out) hmb
      have cn := not_small (spansC ⟨lowC (cmpS 2 ps a b c p q), Bh⟩) A n cap w9 h4 (spans_le _) h2 (fun s hs => spans_ok ⟨okL, okB⟩ hs) hrow
      have H2 := Lib.hid h2
      clear h2
      go_wp2_with fail
      refine cn.mono ?_
      rintro r w10 ⟨A2, n2, cap2, rfl, g2, g3, g4, g5⟩
      have G2 := Lib.hid g2
      clear g2
      go_wp2_with fail
      go_ret
      rw [HS.out]
      exact ⟨A2, n2, cap2, rfl, G2.out, g3, g4, h5.trans (g5.mono h5.size)⟩
end Go.Proofs.YthaagngoefieaaaDoor
end

/-
  Plain law of chapter 6: the program's region is the reference's; the contract of the program's Region of any comparator. Conditions: Pre and Build have at most 1048576 bytes.
-/
section
namespace Go.Proofs.YthaagngoefieaaaDoor
open Go.ChangeShapes Go.WideShapes Go.ChangeAt Go.RowKit

theorem core_same {v : Ver} (h : v.build = []) : coreV v = v := by
  obtain ⟨a, b, c, p, q⟩ := v
  dsimp only at h
  subst h
  rfl
theorem caret_turns {c : Cmp} (h : mayC c = true) (ho : c.op = 7) : caretP c = turnsR c := by
  obtain ⟨_, hm, _, ⟨p1, p2⟩, _, q0, q1, q2⟩ := may_c h
  obtain ⟨⟨a0, _⟩, ⟨b0, _⟩, ⟨c0, _⟩⟩ := may_parts hm
  unfold leastC at p1
  unfold mostC at p2
  rw [if_neg (by omega)] at p1 p2
  unfold caretP turnsR
  by_cases h1 : c.v.maj = 0
  · rw [if_neg (by omega)]
    by_cases h2 : c.v.min = 0
    · rw [if_neg (by omega)]
      by_cases h3 : c.v.pat = 0
      · rw [if_neg (by omega)]
        split
        · omega
        · split <;> omega
      · rw [if_pos h3, if_neg (by omega), if_neg (by omega)]
    · rw [if_pos h2, if_neg (by omega), if_pos (by omega)]
  · rw [if_pos h1, if_pos (by omega)]
theorem behind_same {c : Cmp} (h : mayC c = true) (ho : c.op ≠ 9) : behindC c = behindR c := by
  obtain ⟨_, _, hb, ⟨p1, _⟩, _⟩ := may_c h
  unfold leastC at p1
  rw [if_neg ho] at p1
  unfold behindC behindR
  rw [core_same hb]
  by_cases h3 : c.parts < 3
  · rw [if_pos ⟨h3, ho⟩, if_pos ⟨h3, by omega⟩]
  · rw [if_neg (fun g => h3 g.1), if_neg (fun g => h3 g.1)]
theorem low_same {c : Cmp} (h : mayC c = true) : lowC c = beforeR c.v := by
  obtain ⟨_, _, hb, _⟩ := may_c h
  unfold lowC beforeR
  rw [core_same hb]
theorem span_same {c : Cmp} (h : mayC c = true) : spanP c = spanR c := by
  have hl := low_same h
  obtain ⟨⟨o1, o2⟩, _, _, ⟨p1, p2⟩, _⟩ := may_c h
  by_cases h9 : c.op = 9
  · unfold leastC at p1
    rw [if_pos h9] at p1
    unfold spanP spanR
    rw [h9]
    simp only [show ¬ ((9 : Int) = 1 ∨ (9 : Int) = 2) by decide, show ¬ (9 : Int) = 3 by decide, show ¬ (9 : Int) = 4 by decide, show ¬ (9 : Int) = 5 by decide, show ¬ (9 : Int) = 6 by decide, show ¬ (9 : Int) = 7 by decide, show ¬ (9 : Int) = 8 by decide, if_false]
    by_cases hp : 0 < c.parts
    · rw [if_pos hp, if_neg (by omega), hl]
    · rw [if_neg hp, if_pos (by omega)]
  · have hb := behind_same h h9
    unfold spanP spanR
    rw [hb, hl]
    by_cases h7 : c.op = 7
    · rw [caret_turns h h7]
      simp only [h7, show ¬ ((7 : Int) = 1 ∨ (7 : Int) = 2) by decide, show ¬ (7 : Int) = 3 by decide, show ¬ (7 : Int) = 4 by decide, show ¬ (7 : Int) = 5 by decide, show ¬ (7 : Int) = 6 by decide, if_false, if_true]
    · rw [if_neg h7, if_neg h7]
      by_cases h8 : c.op = 8
      · rw [if_pos h8, if_pos h8]
      · have : c.op = 1 ∨ c.op = 2 ∨ c.op = 3 ∨ c.op = 4 ∨ c.op = 5 ∨ c.op = 6 := by omega
        rcases this with e | e | e | e | e | e <;> simp [e]
theorem not_same {s : SpanC} (hf : mayCut s.f = true) (ht : mayCut s.t = true) : notP (spansC s) = notR (spansC s) := by
  unfold spansC
  split
  · rename_i h
    have hm : mayS s = true := by unfold mayS; rw [hf, ht]; simpa using h
    rw [notP_one hm, notR_one hm]
  · rw [notP_nil, notR_nil]
/-- The program's region is the reference's. -/
theorem region_same (c : Cmp) : regionP c = regionR c := by
  unfold regionP regionR
  split
  · rename_i h
    rw [← span_same h]
    split
    · rename_i h2
      have hs := spanP_2 h2
      rw [hs]
      exact not_same (may_low h) (may_behind h)
    · rfl
  · rfl

set_option maxHeartbeats 1000000 in
theorem region_any (op ps a b c : Int) (p q : ByteArray) (w : World) (hp : p.size ≤ 1048576) (hq : q.size ≤ 1048576) :
    Calls Tryd.prog 22 #[cvV op ps a b c p q] w (Row4 (regionP (cmpS op ps a b c p q)) w) := by
  cases hm : mayC (cmpS op ps a b c p q)
  · have hR : regionP (cmpS op ps a b c p q) = [] := by unfold regionP; rw [hm]; rfl
    rw [hR]
    have cm := fun W => cmay_any op ps a b c p q W hp hq
    rw [hm] at cm
    clear hm hR
    unfold cvV at *
    go_enter Tryd.func22, Tryd.ntmps22
    go_wp2_with fail
    refine (cm _).mono ?_
    rintro r w1 ⟨rfl, hb1⟩
    go_wp2_with fail
    go_ret
    exact ⟨none, 0, 0, rfl, rfl, Nat.le_refl _, rds_none, (box_below w _).trans (hb1.mono (by simp))⟩
  · have ho := (may_c hm).1
    dsimp only [cmpS] at ho
    have h9 : op = 2 ∨ op = 7 ∨ op = 9 ∨ (op = 1 ∨ op = 3 ∨ op = 4 ∨ op = 5 ∨ op = 6 ∨ op = 8) := by omega
    rcases h9 with h | h | h | h
    · exact region_2 op ps a b c p q w hp hq hm h
    · exact region_7 op ps a b c p q w hp hq hm h
    · exact region_9 op ps a b c p q w hp hq hm h
    · exact region_a op ps a b c p q w hp hq hm h
end Go.Proofs.YthaagngoefieaaaDoor
end

/-
  The walks of chapter 6's Zone, the program's and the reference's. Conditions: Pre and Build have at most 1048576 bytes.
-/
section
namespace Go.Proofs.YthaagngoefieaaaDoor
open Go.ChangeShapes Go.WideShapes Go.ChangeAt Go.RowKit
set_option linter.unusedVariables false
set_option linter.unusedSimpArgs false

def zoneS (a b c : Int) : SpanC := ⟨⟨0, ⟨a, b, c, [48], []⟩, false⟩, ⟨0, relV a b c, false⟩⟩
theorem zone_cells (a b c : Int) : spanCells (zoneS a b c) = [.int .i64 0, .int .i64 a, .int .i64 b, .int .i64 c, .string ⟨#[48]⟩, .string ⟨#[]⟩, .bool false, .int .i64 0, .int .i64 a, .int .i64 b, .int .i64 c, .string ⟨#[]⟩, .string ⟨#[]⟩, .bool false] := rfl
theorem zone_yes {op ps a b c : Int} {p q : ByteArray} (h : mayC (cmpS op ps a b c p q) = true) (hp : p.size ≠ 0) : zoneC (cmpS op ps a b c p q) = [zoneS a b c] := by
  unfold zoneC
  rw [if_pos ⟨h, fun e => hp (nil_size e)⟩]
  rfl
theorem zone_no {op ps a b c : Int} {p q : ByteArray} (h : mayC (cmpS op ps a b c p q) = false ∨ p.size = 0) : zoneC (cmpS op ps a b c p q) = [] := by
  unfold zoneC
  rw [if_neg]
  rintro ⟨h1, h2⟩
  rcases h with h | h
  · rw [h] at h1; cases h1
  · exact h2 (size_nil h)
theorem zone_rds (w : World) (a b c : Int) (t : TypeId) : RdS (w.alloc (.cells #[.int .i64 0, .int .i64 a, .int .i64 b, .int .i64 c, .string ⟨#[48]⟩, .string ⟨#[]⟩, .bool false, .int .i64 0, .int .i64 a, .int .i64 b, .int .i64 c, .string ⟨#[]⟩, .string ⟨#[]⟩, .bool false] t)) (w.alloc (.cells #[.int .i64 0, .int .i64 a, .int .i64 b, .int .i64 c, .string ⟨#[48]⟩, .string ⟨#[]⟩, .bool false, .int .i64 0, .int .i64 a, .int .i64 b, .int .i64 c, .string ⟨#[]⟩, .string ⟨#[]⟩, .bool false] t)).heap.size (some ⟨w.heap.size, 0, none⟩) [zoneS a b c] := by
  have h := rds_one (w := w) (s := zoneS a b c) t
  rw [zone_cells] at h
  simpa using h
set_option maxRecDepth 8192 in
set_option maxHeartbeats 4000000 in
theorem zone_any (op ps a b c : Int) (p q : ByteArray) (w : World) (hp : p.size ≤ 1048576) (hq : q.size ≤ 1048576) :
    Calls Tryd.prog 29 #[cvV op ps a b c p q] w (Row4 (zoneC (cmpS op ps a b c p q)) w) := by
  have cm := fun W => cmay_any op ps a b c p q W hp hq
  cases hm : mayC (cmpS op ps a b c p q)
  · rw [zone_no (.inl hm)]
    rw [hm] at cm
    clear hm
    unfold cvV at *
    go_enter Tryd.func29, Tryd.ntmps29
    go_wp2_with fail
    refine (cm _).mono ?_
    rintro r w1 ⟨rfl, hb1⟩
    go_wp2_with fail
    go_ret
    exact ⟨none, 0, 0, rfl, rfl, Nat.le_refl _, rds_none, (box_below w _).trans (hb1.mono (by simp))⟩
  · have hq0 : q = ⟨#[]⟩ := by
      have := (may_c hm).2.2.1
      rw [← back q, show q.data.toList = [] from this]
    subst hq0
    by_cases hp0 : p.size = 0
    · rw [zone_no (.inr hp0)]
      have e1 := empty_str p hp0
      rw [hm] at cm
      clear hm hp0
      unfold cvV at *
      go_enter Tryd.func29, Tryd.ntmps29
      go_wp2_with fail
      refine (cm _).mono ?_
      rintro r w1 ⟨rfl, hb1⟩
      have hL := loc_call (loc_new (loc_start w) w.heap.size [.int .i64 op, .int .i64 ps, .int .i64 a, .int .i64 b, .int .i64 c, .string p, .string ⟨#[]⟩] 26) hb1
      obtain ⟨c0, c1, c2, c3, c4, c5, c6⟩ := cells7L (loc_own hL 0 rfl).1
      go_wp2_with fail
      go_ret
      exact ⟨none, 0, 0, rfl, rfl, Nat.le_refl _, rds_none, hL.1⟩
    · rw [zone_yes hm hp0]
      have e1 := (empty_no (s := p) (by omega)).1
      have e2 := (empty_no (s := p) (by omega)).2
      rw [hm] at cm
      clear hm hp0
      unfold cvV at *
      go_enter Tryd.func29, Tryd.ntmps29
      go_wp2_with fail
      refine (cm _).mono ?_
      rintro r w1 ⟨rfl, hb1⟩
      have hL := loc_call (loc_new (loc_start w) w.heap.size [.int .i64 op, .int .i64 ps, .int .i64 a, .int .i64 b, .int .i64 c, .string p, .string ⟨#[]⟩] 26) hb1
      have hz := loc_lt hL 0 rfl
      obtain ⟨c0, c1, c2, c3, c4, c5, c6⟩ := cells7L (loc_own hL 0 rfl).1
      go_wp2_with fail
      go_ret
      refine ⟨_, 1, 1, rfl, rfl, Nat.le_refl _, ?_, (loc_box (loc_box (loc_box hL _) _) _).1⟩
      have h := zone_rds ((w1.alloc (.cells #[.int .i64 a, .int .i64 b, .int .i64 c, .string ⟨#[]⟩, .string ⟨#[]⟩] 24)).alloc (.cells #[.int .i64 a, .int .i64 b, .int .i64 c, .string ⟨#[48]⟩, .string ⟨#[]⟩] 24)) a b c 50
      simpa using h
set_option maxRecDepth 8192 in
set_option maxHeartbeats 4000000 in
theorem rzone_any (op ps a b c : Int) (p q : ByteArray) (w : World) (hp : p.size ≤ 1048576) (hq : q.size ≤ 1048576) :
    Calls Tryd.prog 30 #[cvV op ps a b c p q] w (Row4 (zoneC (cmpS op ps a b c p q)) w) := by
  have cm := fun W => rcmay_any op ps a b c p q W hp hq
  cases hm : mayC (cmpS op ps a b c p q)
  · rw [zone_no (.inl hm)]
    rw [hm] at cm
    clear hm
    unfold cvV at *
    go_enter Tryd.func30, Tryd.ntmps30
    go_wp2_with fail
    refine (cm _).mono ?_
    rintro r w1 ⟨rfl, hb1⟩
    go_wp2_with fail
    go_ret
    exact ⟨none, 0, 0, rfl, rfl, Nat.le_refl _, rds_none, (box_below w _).trans (hb1.mono (by simp))⟩
  · have hq0 : q = ⟨#[]⟩ := by
      have := (may_c hm).2.2.1
      rw [← back q, show q.data.toList = [] from this]
    subst hq0
    by_cases hp0 : p.size = 0
    · rw [zone_no (.inr hp0)]
      have e1 := empty_str p hp0
      rw [hm] at cm
      clear hm hp0
      unfold cvV at *
      go_enter Tryd.func30, Tryd.ntmps30
      go_wp2_with fail
      refine (cm _).mono ?_
      rintro r w1 ⟨rfl, hb1⟩
      have hL := loc_call (loc_new (loc_start w) w.heap.size [.int .i64 op, .int .i64 ps, .int .i64 a, .int .i64 b, .int .i64 c, .string p, .string ⟨#[]⟩] 26) hb1
      obtain ⟨c0, c1, c2, c3, c4, c5, c6⟩ := cells7L (loc_own hL 0 rfl).1
      go_wp2_with fail
      go_ret
      exact ⟨none, 0, 0, rfl, rfl, Nat.le_refl _, rds_none, hL.1⟩
    · rw [zone_yes hm hp0]
      have e1 := (empty_no (s := p) (by omega)).1
      have e2 := (empty_no (s := p) (by omega)).2
      rw [hm] at cm
      clear hm hp0
      unfold cvV at *
      go_enter Tryd.func30, Tryd.ntmps30
      go_wp2_with fail
      refine (cm _).mono ?_
      rintro r w1 ⟨rfl, hb1⟩
      have hL := loc_call (loc_new (loc_start w) w.heap.size [.int .i64 op, .int .i64 ps, .int .i64 a, .int .i64 b, .int .i64 c, .string p, .string ⟨#[]⟩] 26) hb1
      have hz := loc_lt hL 0 rfl
      obtain ⟨c0, c1, c2, c3, c4, c5, c6⟩ := cells7L (loc_own hL 0 rfl).1
      go_wp2_with fail
      generalize hW : World.alloc (World.alloc _ _) _ = W2
      have hM : Loc w W2 [(w.heap.size, [.int .i64 op, .int .i64 ps, .int .i64 a, .int .i64 b, .int .i64 c, .string p, .string ⟨#[]⟩]), (w1.heap.size, [.int .i64 a, .int .i64 b, .int .i64 c, .string ⟨#[]⟩, .string ⟨#[]⟩]), (w1.heap.size + 1, [.int .i64 a, .int .i64 b, .int .i64 c, .string ⟨#[48]⟩, .string ⟨#[]⟩])] := by rw [← hW]; exact loc_new (loc_new hL w1.heap.size [.int .i64 a, .int .i64 b, .int .i64 c, .string ⟨#[]⟩, .string ⟨#[]⟩] _) (w1.heap.size + 1) [.int .i64 a, .int .i64 b, .int .i64 c, .string ⟨#[48]⟩, .string ⟨#[]⟩] _
      clear hW c0 c1 c2 c3 c4 c5 c6 hz
      have hMd := loc_drew hM
      generalize w1.heap.size = b1 at *
      generalize b1 + 1 = b2 at *
      refine wp_region_held_drew (S := fun W => (W.cell? ⟨b1, 0, none⟩ = some (.int .i64 a) ∧ W.cell? ⟨b1, 1, none⟩ = some (.int .i64 b) ∧ W.cell? ⟨b1, 2, none⟩ = some (.int .i64 c) ∧ W.cell? ⟨b1, 3, none⟩ = some (.string ⟨#[]⟩) ∧ W.cell? ⟨b1, 4, none⟩ = some (.string ⟨#[]⟩)) ∧ (W.cell? ⟨b2, 0, none⟩ = some (.int .i64 a) ∧ W.cell? ⟨b2, 1, none⟩ = some (.int .i64 b) ∧ W.cell? ⟨b2, 2, none⟩ = some (.int .i64 c) ∧ W.cell? ⟨b2, 3, none⟩ = some (.string ⟨#[48]⟩) ∧ W.cell? ⟨b2, 4, none⟩ = some (.string ⟨#[]⟩))) (by kernel_rfl) ⟨cells5L (loc_own hMd 1 rfl).1, cells5L (loc_own hMd 2 rfl).1⟩ (fun hHeld => ?_)
      refine takeD (i := 0) (d := some 19) (v := ?_) rfl rfl (by kernel_rfl) (by kernel_rfl) (by kernel_rfl) (fun _ _ _ h => h) (Or.inl ⟨by rfl, ?_⟩) (by assumption) ?_
      rotate_left
      · intro wS hSw; (try dsimp only at hSw); go_simp; (try with_reducible rfl)
      try simp only [Act.put, List.setIfInBounds_toArray, List.set_cons_zero, List.set_cons_succ]
      refine takeD (i := 2) (d := some 21) (v := ?_) rfl rfl (by kernel_rfl) (by kernel_rfl) (by kernel_rfl) (fun _ _ _ h => h) (Or.inl ⟨by rfl, ?_⟩) (by assumption) ?_
      rotate_left
      · intro wS hSw; (try dsimp only at hSw); go_simp; (try with_reducible rfl)
      try simp only [Act.put, List.setIfInBounds_toArray, List.set_cons_zero, List.set_cons_succ]
      refine wpAnyH_ready (rs := [1]) (by kernel_rfl) (by simp) ?_
      refine consD (d := some 20) rfl rfl (fun K hK => ?_) AllReadyH.nil
      go_simp
      (go_at_call 63; (with_reducible refine (before_any a b c ⟨#[48]⟩ ⟨#[]⟩ _).mono ?_); rintro r w4 ⟨rfl, hb4⟩)
      have hM4 := loc_call hMd hb4
      unfold cutW
      refine hK.out _ _ ⟨cells5L (loc_own hM4 1 rfl).1, cells5L (loc_own hM4 2 rfl).1⟩ (fun hHeld => ?_)
      clear hK K
      try simp only [Act.put, List.setIfInBounds_toArray, List.set_cons_zero, List.set_cons_succ]
      refine wpAnyH_ready (rs := [3]) (by kernel_rfl) (by simp) ?_
      refine consD (d := some 22) rfl rfl (fun K hK => ?_) AllReadyH.nil
      go_simp
      (go_at_call 63; (with_reducible refine (before_any a b c ⟨#[]⟩ ⟨#[]⟩ _).mono ?_); rintro r w5 ⟨rfl, hb5⟩)
      have hM5 := loc_call hM4 hb5
      unfold cutW
      refine hK.out _ _ ⟨cells5L (loc_own hM5 1 rfl).1, cells5L (loc_own hM5 2 rfl).1⟩ (fun hHeld => ?_)
      clear hK K
      try simp only [Act.put, List.setIfInBounds_toArray, List.set_cons_zero, List.set_cons_succ]
      refine takeD (i := 4) (d := some 23) (v := ?_) rfl rfl (by kernel_rfl) (by kernel_rfl) (by kernel_rfl) (fun _ _ _ h => h) (Or.inl ⟨by rfl, ?_⟩) (by assumption) ?_
      rotate_left
      · intro wS hSw; (try dsimp only at hSw); go_simp; (try with_reducible rfl)
      try simp only [Act.put, List.setIfInBounds_toArray, List.set_cons_zero, List.set_cons_succ]
      refine wpAnyH_ready (rs := [5]) (by kernel_rfl) (by simp) ?_
      refine consD (d := some 24) rfl rfl (fun K hK => ?_) AllReadyH.nil
      go_simp
      refine hK.out _ _ ⟨cells5L (loc_own (loc_box hM5 _) 1 rfl).1, cells5L (loc_own (loc_box hM5 _) 2 rfl).1⟩ (fun hHeld => ?_)
      clear hK K
      try simp only [Act.put, List.setIfInBounds_toArray, List.set_cons_zero, List.set_cons_succ]
      refine takeD (i := 6) (d := some 2) (v := ?_) rfl rfl (by kernel_rfl) (by kernel_rfl) (by kernel_rfl) (fun _ _ _ h => h) (Or.inl ⟨by rfl, ?_⟩) (by assumption) ?_
      rotate_left
      · intro wS hSw; (try dsimp only at hSw); go_simp; (try with_reducible rfl)
      try simp only [Act.put, List.setIfInBounds_toArray, List.set_cons_zero, List.set_cons_succ]
      refine wpAnyH_done (by kernel_rfl) ?_ _
      go_wp2_with fail
      go_ret
      refine ⟨_, 1, 1, rfl, rfl, Nat.le_refl _, ?_, (loc_box hM5 _).1⟩
      exact zone_rds w5 a b c _
end Go.Proofs.YthaagngoefieaaaDoor
end
