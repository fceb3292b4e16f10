/-
  Plain law of chapter 6: regions that are each other's contrary, the one within the other. Conditions: the comparator's version is of the statements' family.
-/
import Derived.Test.YthaagngoefieaaaDoorCMeans
import Derived.Test.YthaagngoefieaaaDoorCWith
namespace Go.Proofs.YthaagngoefieaaaDoor
set_option linter.unusedSimpArgs false

def setOp (c : Cmp) (k : Int) : Cmp := ⟨k, c.parts, c.v⟩
theorem may_set {c : Cmp} (h : mayC c = true) (h9 : c.op ≠ 9 ∨ 1 ≤ c.parts) {k : Int} (k1 : 1 ≤ k) (k8 : k ≤ 8) : mayC (setOp c k) = true := by
  obtain ⟨⟨o1, o2⟩, hv, hb, ⟨p1, p2⟩, hp, q0, q1, q2⟩ := may_c h
  unfold mayC
  simp only [Bool.and_eq_true, Bool.or_eq_true, decide_eq_true_eq, List.isEmpty_iff]
  refine ⟨⟨⟨⟨⟨⟨⟨⟨⟨k1, by show k ≤ 9; omega⟩, hv⟩, hb⟩, ?_⟩, ?_⟩, hp⟩, q0⟩, q1⟩, q2⟩
  · show leastC k ≤ c.parts
    unfold leastC at p1 ⊢
    rw [if_neg (by omega)]
    split at p1 <;> omega
  · show c.parts ≤ mostC k
    unfold mostC at p2 ⊢
    rw [if_neg (by omega)]
    split at p2 <;> omega
theorem behind_set {c : Cmp} {k : Int} (k8 : k ≠ 9) : behindC (setOp c k) = if c.parts < 3 then highC c.v c.parts.toNat else ⟨0, c.v, true⟩ := by
  unfold behindC setOp
  dsimp only
  by_cases h : c.parts < 3
  · rw [if_pos ⟨h, k8⟩, if_pos h]
  · rw [if_neg (fun e => h e.1), if_neg h]
theorem parts_bd {c : Cmp} (h : mayC c = true) (h9 : c.op ≠ 9 ∨ 1 ≤ c.parts) : 1 ≤ c.parts ∧ c.parts ≤ 3 := by
  obtain ⟨_, _, _, ⟨p1, p2⟩, _⟩ := may_c h
  unfold leastC at p1
  unfold mostC at p2
  split at p1 <;> split at p2 <;> omega
/-- The number of a high cut is above the version's. -/
theorem high_gt {v : Ver} {r : Int} (hf : Fam v r) {n : Nat} (h1 : 1 ≤ n) (h2 : n ≤ 2) : 2 * keyV v r + 1 < highK v n ∧ highK v n ≤ highK v 1 := by
  obtain ⟨⟨a0, a1⟩, ⟨b0, b1⟩, ⟨c0, c1⟩, r0, r1⟩ := fam_bd hf
  have e1 : 2 * keyV v r + 1 < high1 v := by
    unfold high1 keyV
    split <;> omega
  have e2 : 2 * keyV v r + 1 < high2 v ∧ high2 v ≤ high1 v := by
    unfold high2
    split
    · refine ⟨by unfold keyV; omega, ?_⟩
      unfold high1
      split <;> omega
    · exact ⟨e1, Int.le_refl _⟩
  have : n = 1 ∨ n = 2 := by omega
  rcases this with rfl | rfl
  · exact ⟨e1, Int.le_refl _⟩
  · exact e2
theorem high_gt0 {v : Ver} {r : Int} (hf : Fam v r) {n : Nat} (h2 : n ≤ 3) : 2 * keyV v r < highK v n := by
  obtain ⟨⟨a0, a1⟩, ⟨b0, b1⟩, ⟨c0, c1⟩, r0, r1⟩ := fam_bd hf
  have hk := key_bd hf
  have : n = 0 ∨ n = 1 ∨ n = 2 ∨ n = 3 := by omega
  rcases this with rfl | rfl | rfl | rfl
  · show _ < (32000000000000 : Int)
    omega
  · have := (high_gt hf (n := 1) (by omega) (by omega)).1; omega
  · have := (high_gt hf (n := 2) (by omega) (by omega)).1; omega
  · show _ < high3 v
    unfold high3
    split
    · unfold keyV numK; omega
    · have := (high_gt hf (n := 2) (by omega) (by omega)).1
      show _ < highK v 2
      omega
theorem row_1 {F G : CutC} {k l : Int} (hF : CutAt F k) (hG : CutAt G l) (h : k < l) : spansC ⟨F, G⟩ = [⟨F, G⟩] ∧ mayS ⟨F, G⟩ = true := by
  refine ⟨?_, by rw [mayS_at hF hG]; simpa using h⟩
  rw [spans_eq, comp_at hF hG, ints_lt h]
  rfl
theorem cut_last {G : CutC} {l : Int} (hG : CutAt G l) (h : l = 32000000000000) : G = lastC := by
  obtain ⟨_, _, _, h3⟩ := cutat_bd hG
  exact (end_is hG.1).2 (h3.2 h)

/-- Both ways: from a cut on, and up to a cut. -/
theorem and_cross {x y : CutC} {k l : Int} (hx : CutAt x k) (hy : CutAt y l) (h0 : -1 < k) (h1 : k < l) : andR [⟨x, lastC⟩] [⟨firstC, y⟩] = [⟨x, y⟩] := by
  obtain ⟨_, yb, _, y3⟩ := cutat_bd hy
  have s1 := (row_1 hx at_last (by omega)).2
  have s2 := (row_1 at_first hy (by omega)).2
  have c1 := comp_at hx hx
  have c2 := comp_at hx at_last
  have c3 := comp_at hx at_first
  have c4 := comp_at at_first hx
  have c5 := comp_at at_last hx
  have c6 := comp_at hx hy
  have c7 := comp_at hy hx
  have c8 := comp_at hy at_first
  have c9 := comp_at at_first hy
  have ca := comp_at hy at_last
  have cb := comp_at at_last hy
  have cc := comp_at hy hy
  have hfl : compCut firstC lastC = -1 := by decide
  have hlf : compCut lastC firstC = 1 := by decide
  have hff : compCut firstC firstC = 0 := by decide
  have hll : compCut lastC lastC = 0 := by decide
  rw [ints_same] at c1 cc
  rw [ints_lt (by omega)] at c2 c4 c6 c9
  rw [ints_gt (by omega)] at c3 c5 c7 c8
  by_cases hl : l = 32000000000000
  · obtain rfl := cut_last hy hl
    simp [andR, mayRow, s1, s2, cutsC, putC, stretch, inC, growC, c1, c2, c3, c4, c5, hfl, hlf, hff, hll]
  · rw [ints_lt (by omega)] at ca
    rw [ints_gt (by omega)] at cb
    simp [andR, mayRow, s1, s2, cutsC, putC, stretch, inC, growC, c1, c2, c3, c4, c5, c6, c7, c8, c9, ca, cb, cc, hfl, hlf, hff, hll]
/-- From the same cut on, the one further than the other. -/
theorem and_low {x y z : CutC} {k l m : Int} (hx : CutAt x k) (hy : CutAt y l) (hz : CutAt z m) (h0 : -1 < k) (h1 : k < l) (h2 : l ≤ m) : andR [⟨x, y⟩] [⟨x, z⟩] = [⟨x, y⟩] := by
  obtain ⟨_, yb, _, y3⟩ := cutat_bd hy
  obtain ⟨_, zb, _, z3⟩ := cutat_bd hz
  have s1 := (row_1 hx hy (by omega)).2
  have s2 := (row_1 hx hz (by omega)).2
  have c1 := comp_at hx hx
  have c2 := comp_at hx at_last
  have c3 := comp_at hx at_first
  have c4 := comp_at at_first hx
  have c5 := comp_at at_last hx
  have c6 := comp_at hx hy
  have c7 := comp_at hy hx
  have c8 := comp_at hy at_first
  have c9 := comp_at at_first hy
  have ca := comp_at hy at_last
  have cb := comp_at at_last hy
  have cc := comp_at hy hy
  have d6 := comp_at hx hz
  have d7 := comp_at hz hx
  have d8 := comp_at hz at_first
  have d9 := comp_at at_first hz
  have da := comp_at hz at_last
  have db := comp_at at_last hz
  have dc := comp_at hz hz
  have dd := comp_at hy hz
  have de := comp_at hz hy
  have hfl : compCut firstC lastC = -1 := by decide
  have hlf : compCut lastC firstC = 1 := by decide
  have hff : compCut firstC firstC = 0 := by decide
  have hll : compCut lastC lastC = 0 := by decide
  rw [ints_same] at c1 cc dc
  rw [ints_lt (by omega)] at c2 c4 c6 c9 d6 d9
  rw [ints_gt (by omega)] at c3 c5 c7 c8 d7 d8
  by_cases hl : l = 32000000000000
  · obtain rfl := cut_last hy hl
    obtain rfl := cut_last hz (by omega)
    simp [andR, mayRow, s1, s2, cutsC, putC, stretch, inC, growC, c1, c2, c3, c4, c5, hfl, hlf, hff, hll]
  · rw [ints_lt (by omega)] at ca
    rw [ints_gt (by omega)] at cb
    by_cases hm : m = 32000000000000
    · obtain rfl := cut_last hz hm
      simp [andR, mayRow, s1, s2, cutsC, putC, stretch, inC, growC, c1, c2, c3, c4, c5, c6, c7, c8, c9, ca, cb, cc, hfl, hlf, hff, hll]
    · rw [ints_lt (by omega)] at da
      rw [ints_gt (by omega)] at db
      by_cases hlm : l = m
      · rw [ints_eq hlm] at dd
        rw [ints_eq hlm.symm] at de
        simp [andR, mayRow, s1, s2, cutsC, putC, stretch, inC, growC, c1, c2, c3, c4, c5, c6, c7, c8, c9, ca, cb, cc, d6, d7, d8, d9, da, db, dc, dd, de, hfl, hlf, hff, hll]
      · rw [ints_lt (by omega)] at dd
        rw [ints_gt (by omega)] at de
        simp [andR, mayRow, s1, s2, cutsC, putC, stretch, inC, growC, c1, c2, c3, c4, c5, c6, c7, c8, c9, ca, cb, cc, d6, d7, d8, d9, da, db, dc, dd, de, hfl, hlf, hff, hll]

/-! The statement's pairs. -/
theorem pair_1 {c : Cmp} {r : Int} (h : mayC c = true) (hf : Fam c.v r) (h9 : c.op ≠ 9) : regionP (setOp c 3) = notR (regionP (setOp c 6)) := by
  have m3 := may_set h (.inl h9) (k := 3) (by omega) (by omega)
  have m6 := may_set h (.inl h9) (k := 6) (by omega) (by omega)
  have hl : CutAt (lowC (setOp c 3)) (2 * keyV c.v r) := at_low m3 hf
  have hk := key_bd hf
  obtain ⟨e1, _⟩ := row_1 at_first hl (by omega)
  obtain ⟨e2, e3⟩ := row_1 hl at_last (by omega)
  rw [region_1 m3 (by show (3 : Int) ≠ 2; omega), region_1 m6 (by show (6 : Int) ≠ 2; omega), spanP_3 rfl, spanP_6 rfl, e1, show lowC (setOp c 6) = lowC (setOp c 3) from rfl, e2, notR_one e3]
  rfl
theorem pair_2 {c : Cmp} {r : Int} (h : mayC c = true) (hf : Fam c.v r) (h9 : c.op ≠ 9) : regionP (setOp c 5) = notR (regionP (setOp c 4)) := by
  have m5 := may_set h (.inl h9) (k := 5) (by omega) (by omega)
  have m4 := may_set h (.inl h9) (k := 4) (by omega) (by omega)
  have hb : CutAt (behindC (setOp c 5)) (behindK (setOp c 5) r) := at_behind m5 hf
  rw [region_1 m5 (by show (5 : Int) ≠ 2; omega), region_1 m4 (by show (4 : Int) ≠ 2; omega), spanP_5 rfl, spanP_4 rfl, show behindC (setOp c 4) = behindC (setOp c 5) by rw [behind_set (by omega), behind_set (by omega)]]
  generalize behindC (setOp c 5) = x at *
  generalize behindK (setOp c 5) r = k at *
  have hx := hb
  obtain ⟨k0, k1, k2, k3⟩ := cutat_bd hb
  by_cases he : k = -1
  · obtain rfl := (end_is hx.1).1 (k2.2 he)
    decide
  · obtain ⟨e1, e2⟩ := row_1 at_first hx (by omega)
    rw [e1, notR_one e2]
    by_cases hl : k = 32000000000000
    · obtain rfl := cut_last hx hl
      decide
    · obtain ⟨e3, _⟩ := row_1 hx at_last (by omega)
      rw [e3]
      unfold not1
      dsimp only
      rw [if_pos (show firstC.e = -1 from rfl), if_neg (fun e => hl (k3.1 e))]
      rfl
theorem pair_3 {c : Cmp} (h : mayC c = true) (h9 : c.op ≠ 9) : regionP (setOp c 2) = notR (regionP (setOp c 1)) := by
  have m2 := may_set h (.inl h9) (k := 2) (by omega) (by omega)
  have m1 := may_set h (.inl h9) (k := 1) (by omega) (by omega)
  rw [region_n m2 rfl, region_1 m1 (by show (1 : Int) ≠ 2; omega), spanP_2 rfl, spanP_1 rfl, show lowC (setOp c 1) = lowC (setOp c 2) from rfl, show behindC (setOp c 1) = behindC (setOp c 2) by rw [behind_set (by omega), behind_set (by omega)]]
  exact not_same (may_low m2) (may_behind m2)
theorem behk_at {c : Cmp} {r : Int} (h : mayC c = true) (hf : Fam c.v r) (h9 : c.op ≠ 9 ∨ 1 ≤ c.parts) {k : Int} (k1 : 1 ≤ k) (k8 : k ≤ 8) : ∃ l, CutAt (behindC (setOp c k)) l ∧ 2 * keyV c.v r < l ∧ (c.parts < 3 → l = highK c.v c.parts.toNat) ∧ (c.parts = 3 → l = 2 * keyV c.v r + 1) := by
  have hb : CutAt (behindC (setOp c k)) (behindK (setOp c k) r) := at_behind (may_set h h9 k1 k8) hf
  have hp := parts_bd h h9
  refine ⟨_, hb, ?_⟩
  unfold behindK setOp
  dsimp only
  by_cases h3 : c.parts < 3
  · rw [if_pos ⟨h3, by omega⟩]
    exact ⟨high_gt0 hf (by omega), fun _ => rfl, fun e => by omega⟩
  · rw [if_neg (fun e => h3 e.1)]
    exact ⟨by omega, fun e => absurd e h3, fun _ => rfl⟩
theorem pair_4 {c : Cmp} {r : Int} (h : mayC c = true) (hf : Fam c.v r) (h9 : c.op ≠ 9) : regionP (setOp c 1) = andR (regionP (setOp c 6)) (regionP (setOp c 4)) := by
  have m1 := may_set h (.inl h9) (k := 1) (by omega) (by omega)
  have m6 := may_set h (.inl h9) (k := 6) (by omega) (by omega)
  have m4 := may_set h (.inl h9) (k := 4) (by omega) (by omega)
  have hl : CutAt (lowC (setOp c 1)) (2 * keyV c.v r) := at_low m1 hf
  obtain ⟨l, hb, hlt, _⟩ := behk_at h hf (.inl h9) (k := 1) (by omega) (by omega)
  have hk := key_bd hf
  rw [region_1 m1 (by show (1 : Int) ≠ 2; omega), region_1 m6 (by show (6 : Int) ≠ 2; omega), region_1 m4 (by show (4 : Int) ≠ 2; omega), spanP_1 rfl, spanP_6 rfl, spanP_4 rfl, show lowC (setOp c 6) = lowC (setOp c 1) from rfl, show behindC (setOp c 4) = behindC (setOp c 1) by rw [behind_set (by omega), behind_set (by omega)]]
  rw [(row_1 hl hb hlt).1, (row_1 hl at_last (by omega)).1, (row_1 at_first hb (by omega)).1, and_cross hl hb (by omega) hlt]

/-! The one within the other. -/
theorem star_same {c : Cmp} (h : mayC c = true) (h9 : c.op = 9) : regionP c = if c.parts = 0 then notR [] else regionP (setOp c 1) := by
  obtain ⟨_, _, _, ⟨p1, p2⟩, _⟩ := may_c h
  unfold leastC at p1
  unfold mostC at p2
  rw [if_pos h9] at p1 p2
  rw [region_1 h (by omega), spanP_9 h9]
  by_cases h0 : c.parts = 0
  · rw [if_neg (by omega), if_pos h0, notR_nil]
    decide
  · have m1 := may_set h (.inr (by omega)) (k := 1) (by omega) (by omega)
    rw [if_pos (by omega), if_neg h0, region_1 m1 (by show (1 : Int) ≠ 2; omega), spanP_1 rfl, behind_set (by omega), if_pos (by omega)]
    rfl
/-- What CompNested asks of a comparator that is no Star. -/
theorem nest_rows {c : Cmp} {r : Int} (h : mayC c = true) (hf : Fam c.v r) (h9 : c.op ≠ 9) : ∃ x y t u : CutC,
    regionP (setOp c 1) = [⟨x, y⟩] ∧ regionP (setOp c 8) = [⟨x, t⟩] ∧ regionP (setOp c 7) = [⟨x, u⟩] ∧ regionP (setOp c 6) = [⟨x, lastC⟩] ∧
    (mayS ⟨x, y⟩ = true ∧ mayS ⟨x, t⟩ = true ∧ mayS ⟨x, u⟩ = true ∧ mayS ⟨x, lastC⟩ = true) ∧
    andR [⟨x, y⟩] [⟨x, t⟩] = [⟨x, y⟩] ∧ andR [⟨x, u⟩] [⟨x, lastC⟩] = [⟨x, u⟩] ∧ andR [⟨x, t⟩] [⟨x, lastC⟩] = [⟨x, t⟩] ∧ (c.v.maj ≠ 0 → andR [⟨x, t⟩] [⟨x, u⟩] = [⟨x, t⟩]) := by
  have m1 := may_set h (.inl h9) (k := 1) (by omega) (by omega)
  have m8 := may_set h (.inl h9) (k := 8) (by omega) (by omega)
  have m7 := may_set h (.inl h9) (k := 7) (by omega) (by omega)
  have m6 := may_set h (.inl h9) (k := 6) (by omega) (by omega)
  have hp := parts_bd h (.inl h9)
  have hk := key_bd hf
  have hl : CutAt (lowC (setOp c 1)) (2 * keyV c.v r) := at_low m1 hf
  obtain ⟨l, hb, hlt, b1, b2⟩ := behk_at h hf (.inl h9) (k := 1) (by omega) (by omega)
  have ht : CutAt (highC c.v (min (c.parts - 1) 1 + 1).toNat) (highK c.v (min (c.parts - 1) 1 + 1).toNat) := at_high hf.1 (by omega)
  have hcb := caret_bd (c := setOp c 7) (by show 0 ≤ c.parts; omega) (by show c.parts ≤ 3; omega)
  have hu : CutAt (highC c.v (caretP (setOp c 7) + 1).toNat) (highK c.v (caretP (setOp c 7) + 1).toNat) := at_high hf.1 (by omega)
  have gt := high_gt hf (n := (min (c.parts - 1) 1 + 1).toNat) (by omega) (by omega)
  have gu := high_gt0 hf (n := (caretP (setOp c 7) + 1).toNat) (by omega)
  have gm : c.v.maj ≠ 0 → highK c.v (min (c.parts - 1) 1 + 1).toNat ≤ highK c.v (caretP (setOp c 7) + 1).toNat := by
    intro hm
    have : caretP (setOp c 7) = 0 := by unfold caretP; rw [if_pos (show (setOp c 7).v.maj ≠ 0 from hm)]
    rw [this]
    exact gt.2
  have gl : l ≤ highK c.v (min (c.parts - 1) 1 + 1).toNat := by
    by_cases h3 : c.parts < 3
    · rw [b1 h3, show (min (c.parts - 1) 1 + 1).toNat = c.parts.toNat by omega]
      exact Int.le_refl _
    · rw [b2 (by omega)]
      omega
  refine ⟨lowC (setOp c 1), behindC (setOp c 1), highC c.v (min (c.parts - 1) 1 + 1).toNat, highC c.v (caretP (setOp c 7) + 1).toNat, ?_, ?_, ?_, ?_, ⟨?_, ?_, ?_, ?_⟩, ?_, ?_, ?_, ?_⟩
  · rw [region_1 m1 (by show (1 : Int) ≠ 2; omega), spanP_1 rfl, (row_1 hl hb hlt).1]
  · rw [region_1 m8 (by show (8 : Int) ≠ 2; omega), spanP_8 rfl]
    exact (row_1 hl ht (by omega)).1
  · rw [region_1 m7 (by show (7 : Int) ≠ 2; omega), spanP_7 rfl]
    exact (row_1 hl hu gu).1
  · rw [region_1 m6 (by show (6 : Int) ≠ 2; omega), spanP_6 rfl]
    exact (row_1 hl at_last (by omega)).1
  · exact (row_1 hl hb hlt).2
  · exact (row_1 hl ht (by omega)).2
  · exact (row_1 hl hu gu).2
  · exact (row_1 hl at_last (by omega)).2
  · exact and_low hl hb ht (by omega) hlt gl
  · exact and_low hl hu at_last (by omega) gu (by have := (cutat_bd hu).2.1; omega)
  · exact and_low hl ht at_last (by omega) (by omega) (by have := (cutat_bd ht).2.1; omega)
  · exact fun hm => and_low hl ht hu (by omega) (by omega) (gm hm)
open Go.ChangeShapes Go.WideShapes Go.ChangeAt Go.RowKit
theorem rsame_true (A A' : Option Addr) (n n' cap cap' B B' : Nat) (l l' : List SpanC) (w : World) (h : RdS w B A l) (h' : RdS w B' A' l') (hl : l.length = n) (hl' : l'.length = n') (hok : ∀ s ∈ l, okS s) (hok' : ∀ s ∈ l', okS s) (hB : B ≤ w.heap.size) (hB' : B' ≤ w.heap.size) (hn : n ≤ 1000) (hn' : n' ≤ 1000) (he : l = l') :
    Calls Tryd.prog 23 #[.slice A n cap, .slice A' n' cap'] w fun e w' => e = .returned (.bool true) ∧ Below w.heap.size w w' := by
  have := rsame_any A A' n n' cap cap' B B' l l' w h h' hl hl' hok hok' hB hB' (by omega) (by omega)
  rwa [decide_eq_true he] at this
theorem rwithin_true (A A' : Option Addr) (n n' cap cap' B : Nat) (la lb : List SpanC) (w : World) (h : RdS w B A la) (h' : RdS w B A' lb) (hl : la.length = n) (hl' : lb.length = n') (hok : ∀ s ∈ la, okS s) (hok' : ∀ s ∈ lb, okS s) (hB : B ≤ w.heap.size) (hn : n + n' ≤ 1000)
    (hma : mayRow la = true) (hmb : mayRow lb = true) (he : andR la lb = la) :
    Calls Tryd.prog 27 #[.slice A n cap, .slice A' n' cap'] w fun e w' => e = .returned (.bool true) ∧ Below w.heap.size w w' := by
  have := rwithin_any A A' n n' cap cap' B la lb w h h' hl hl' hok hok' hB hn hma hmb
  rwa [decide_eq_true he] at this
end Go.Proofs.YthaagngoefieaaaDoor
