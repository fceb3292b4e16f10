/-
  Plain law of chapter 6: what the regions and the zones of comparators hold, by the keys of the statements' family of versions. Conditions: none.
-/
import Derived.Test.YthaagngoefieaaaDoorVKeys
import Derived.Test.YthaagngoefieaaaDoorG6
namespace Go.Proofs.YthaagngoefieaaaDoor
set_option linter.unusedSimpArgs false

theorem key_bd {v : Ver} {r : Int} (h : Fam v r) : 0 ≤ keyV v r ∧ keyV v r < 16000000000000 := by
  obtain ⟨⟨a0, a1⟩, ⟨b0, b1⟩, ⟨c0, c1⟩, r0, r1⟩ := fam_bd h
  unfold keyV
  omega

/-! Cuts among doubled keys. -/
def aftK (f : Bool) : Int := if f = true then 1 else 0
theorem aftk_bd (f : Bool) : 0 ≤ aftK f ∧ aftK f ≤ 1 := by cases f <;> decide
def CutAt (c : CutC) (k : Int) : Prop :=
  mayCut c = true ∧ (c.e = -1 ∧ k = -1 ∨ c.e = 1 ∧ k = 32000000000000 ∨ c.e = 0 ∧ ∃ r, Fam c.v r ∧ k = 2 * keyV c.v r + aftK c.aft)
theorem cutat_bd {c : CutC} {k : Int} (h : CutAt c k) : -1 ≤ k ∧ k ≤ 32000000000000 ∧ (c.e = -1 ↔ k = -1) ∧ (c.e = 1 ↔ k = 32000000000000) := by
  obtain ⟨_, ⟨h1, h2⟩ | ⟨h1, h2⟩ | ⟨h1, r, h2, h3⟩⟩ := h
  · omega
  · omega
  · have := key_bd h2
    have := aftk_bd c.aft
    omega
theorem at_first : CutAt firstC (-1) := ⟨may_first, .inl ⟨rfl, rfl⟩⟩
theorem at_last : CutAt lastC 32000000000000 := ⟨may_last, .inr (.inl ⟨rfl, rfl⟩)⟩
theorem or_aft (K L : Int) (f g : Bool) : orI (intsI K L) (aftI f g) = intsI (2 * K + aftK f) (2 * L + aftK g) := by
  have h1 := aftk_bd f
  have h2 := aftk_bd g
  rcases Int.lt_trichotomy K L with h | h | h
  · rw [ints_lt h, ints_lt (show 2 * K + aftK f < 2 * L + aftK g by omega)]; rfl
  · subst h
    rw [ints_same, or_0]
    unfold aftI
    cases f <;> cases g
    · simp [aftK, ints_same]
    · rw [ints_lt (show 2 * K + aftK false < 2 * K + aftK true by simp [aftK]; omega)]; rfl
    · rw [ints_gt (show 2 * K + aftK false < 2 * K + aftK true by simp [aftK]; omega)]; rfl
    · simp [aftK, ints_same]
  · rw [ints_gt h, ints_gt (show 2 * L + aftK g < 2 * K + aftK f by omega)]; rfl
theorem comp_at {a b : CutC} {k l : Int} (ha : CutAt a k) (hb : CutAt b l) : compCut a b = intsI k l := by
  obtain ⟨k0, k1, k2, k3⟩ := cutat_bd ha
  obtain ⟨l0, l1, l2, l3⟩ := cutat_bd hb
  obtain ⟨ma, da⟩ := ha
  obtain ⟨mb, db⟩ := hb
  by_cases h : a.e ≠ 0 ∨ b.e ≠ 0
  · rw [comp_ends ma mb h]
    have ea := may_e ma
    have eb := may_e mb
    rcases ints_cases a.e b.e with ⟨x, y⟩ | ⟨x, y⟩ | ⟨x, y⟩
    · rw [x, ints_lt (by omega)]
    · rw [x, ints_eq (by omega)]
    · rw [x, ints_gt (by omega)]
  · rw [comp_of ma mb, if_neg h]
    obtain ⟨h1, _⟩ | ⟨h1, _⟩ | ⟨_, r, fa, rfl⟩ := da
    · omega
    · omega
    · obtain ⟨h1, _⟩ | ⟨h1, _⟩ | ⟨_, s, fb, rfl⟩ := db
      · omega
      · omega
      · rw [comp_key fa fb]
        exact or_aft _ _ _ _
theorem ahead_at {c : CutC} {k : Int} {v : Ver} {s : Int} (hc : CutAt c k) (hv : Fam v s) : aheadC c v = decide (k ≤ 2 * keyV v s) := by
  obtain ⟨b0, b1⟩ := key_bd hv
  obtain ⟨m, d⟩ := hc
  unfold aheadC
  rw [if_pos ⟨m, hv.1⟩]
  obtain ⟨h1, rfl⟩ | ⟨h1, rfl⟩ | ⟨h1, r, fa, rfl⟩ := d
  · rw [h1, if_pos (by decide), decide_eq_decide]; omega
  · rw [h1, if_pos (by decide), decide_eq_decide]; omega
  · rw [if_neg (by omega), comp_key fa hv]
    rcases ints_cases (keyV c.v r) (keyV v s) with ⟨x, y⟩ | ⟨x, y⟩ | ⟨x, y⟩
    · have := aftk_bd c.aft
      rw [x]; simp; omega
    · rw [x]
      cases c.aft <;> simp [aftK] <;> omega
    · have := aftk_bd c.aft
      rw [x]; simp; omega
theorem mayS_at {F G : CutC} {k l : Int} (hF : CutAt F k) (hG : CutAt G l) : mayS ⟨F, G⟩ = decide (k < l) := by
  unfold mayS
  dsimp only
  rw [hF.1, hG.1, comp_at hF hG]
  rcases ints_cases k l with ⟨x, y⟩ | ⟨x, y⟩ | ⟨x, y⟩ <;> rw [x] <;> simp <;> omega
theorem holds_at {F G : CutC} {k l : Int} {v : Ver} {s : Int} (hF : CutAt F k) (hG : CutAt G l) (hv : Fam v s) : holdsC ⟨F, G⟩ v = decide (k ≤ 2 * keyV v s ∧ 2 * keyV v s < l) := by
  unfold holdsC
  rw [mayS_at hF hG, hv.1, ahead_at hF hv, ahead_at hG hv, Bool.eq_iff_iff]
  simp
  omega
theorem has_1 {F G : CutC} {k l : Int} {v : Ver} {s : Int} (hF : CutAt F k) (hG : CutAt G l) (hv : Fam v s) : hasR [⟨F, G⟩] v = decide (k ≤ 2 * keyV v s ∧ 2 * keyV v s < l) := by
  unfold hasR
  rw [show mayRow [⟨F, G⟩] = mayS ⟨F, G⟩ from rfl, mayS_at hF hG]
  simp only [List.any_cons, List.any_nil, Bool.or_false]
  rw [holds_at hF hG hv, Bool.eq_iff_iff]
  simp
  omega
theorem has_2 {F G H I : CutC} {k l m n : Int} {v : Ver} {s : Int} (hF : CutAt F k) (hG : CutAt G l) (hH : CutAt H m) (hI : CutAt I n) (hv : Fam v s) (h1 : k < l) (h2 : l < m) (h3 : m < n) :
    hasR [⟨F, G⟩, ⟨H, I⟩] v = decide ((k ≤ 2 * keyV v s ∧ 2 * keyV v s < l) ∨ (m ≤ 2 * keyV v s ∧ 2 * keyV v s < n)) := by
  unfold hasR
  rw [show mayRow [⟨F, G⟩, ⟨H, I⟩] = (mayS ⟨F, G⟩ && decide (compCut G H < 0) && mayS ⟨H, I⟩) from rfl, mayS_at hF hG, mayS_at hH hI, comp_at hG hH, ints_lt h2]
  simp only [List.any_cons, List.any_nil, Bool.or_false]
  rw [holds_at hF hG hv, holds_at hH hI hv, Bool.eq_iff_iff]
  simp
  omega
theorem has_spans {F G : CutC} {k l : Int} {v : Ver} {s : Int} (hF : CutAt F k) (hG : CutAt G l) (hv : Fam v s) : hasR (spansC ⟨F, G⟩) v = decide (k ≤ 2 * keyV v s ∧ 2 * keyV v s < l) := by
  rw [spans_eq, comp_at hF hG]
  by_cases h : k < l
  · rw [ints_lt h, if_pos (by decide), has_1 hF hG hv]
  · rw [if_neg (by rcases ints_cases k l with ⟨x, y⟩ | ⟨x, y⟩ | ⟨x, y⟩ <;> omega), decide_eq_false (by omega)]
    rfl
theorem has_not {F G : CutC} {k l : Int} {v : Ver} {s : Int} (hF : CutAt F k) (hG : CutAt G l) (hv : Fam v s) : hasR (notP (spansC ⟨F, G⟩)) v = !decide (k ≤ 2 * keyV v s ∧ 2 * keyV v s < l) := by
  obtain ⟨k0, k1, k2, k3⟩ := cutat_bd hF
  obtain ⟨l0, l1, l2, l3⟩ := cutat_bd hG
  obtain ⟨b0, b1⟩ := key_bd hv
  rw [spans_eq, comp_at hF hG]
  by_cases h : k < l
  · rw [ints_lt h, if_pos (by decide), notP_one (by rw [mayS_at hF hG]; simpa using h)]
    unfold not1
    dsimp only
    by_cases h1 : F.e = -1
    · rw [if_pos h1]
      by_cases h2 : G.e = 1
      · rw [if_pos h2]
        have : (k ≤ 2 * keyV v s ∧ 2 * keyV v s < l) := by omega
        rw [decide_eq_true this]
        rfl
      · rw [if_neg h2, List.nil_append, has_1 hG at_last hv, Bool.eq_iff_iff]
        simp
        omega
    · rw [if_neg h1]
      by_cases h2 : G.e = 1
      · rw [if_pos h2, List.append_nil, has_1 at_first hF hv, Bool.eq_iff_iff]
        simp
        omega
      · rw [if_neg h2]
        show hasR [⟨firstC, F⟩, ⟨G, lastC⟩] v = _
        rw [has_2 at_first hF hG at_last hv (by omega) h (by omega), Bool.eq_iff_iff]
        simp
        omega
  · rw [if_neg (by rcases ints_cases k l with ⟨x, y⟩ | ⟨x, y⟩ | ⟨x, y⟩ <;> omega), notP_nil, has_1 at_first at_last hv, Bool.eq_iff_iff]
    simp
    omega

/-! Comparators of the family. -/
theorem at_low {c : Cmp} {r : Int} (h : mayC c = true) (hf : Fam c.v r) : CutAt (lowC c) (2 * keyV c.v r) := ⟨may_low h, .inr (.inr ⟨rfl, r, hf, by simp [lowC, aftK]⟩)⟩
theorem at_aft {c : Cmp} {r : Int} (h : mayC c = true) (hf : Fam c.v r) : CutAt ⟨0, c.v, true⟩ (2 * keyV c.v r + 1) := ⟨may_low h, .inr (.inr ⟨rfl, r, hf, by simp [aftK]⟩)⟩
def high1 (v : Ver) : Int := if v.maj < 9999 then 2 * ((v.maj + 1) * 100000000 * 16 + 10) else 32000000000000
def high2 (v : Ver) : Int := if v.min < 9999 then 2 * ((v.maj * 10000 + v.min + 1) * 10000 * 16 + 10) else high1 v
def high3 (v : Ver) : Int := if v.pat < 9999 then 2 * ((numK v + 1) * 16 + 10) else high2 v
def highK (v : Ver) (n : Nat) : Int := match n with | 0 => 32000000000000 | 1 => high1 v | 2 => high2 v | _ => high3 v
theorem at_rel {a b c : Int} (h : mayV (relV a b c) = true) : CutAt ⟨0, relV a b c, false⟩ (2 * (((a * 10000 + b) * 10000 + c) * 16 + 10)) :=
  ⟨by unfold mayCut; rw [if_pos rfl]; dsimp only; rw [h]; rfl, .inr (.inr ⟨rfl, 10, rel_fam h, by simp [aftK, keyV, relV]⟩)⟩
theorem at_high {v : Ver} (hm : mayV v = true) {n : Nat} (hn : n ≤ 3) : CutAt (highC v n) (highK v n) := by
  obtain ⟨⟨a0, a1⟩, ⟨b0, b1⟩, ⟨c0, c1⟩⟩ := may_parts hm
  have h1 : CutAt (highC v 1) (highK v 1) := by
    rw [highC]
    unfold bumpV
    rw [if_pos hm, if_pos (show ((0 : Nat) : Int) = 0 from rfl)]
    unfold ifMay
    by_cases h : v.maj < 9999
    · have hh : mayV (relV (v.maj + 1) 0 0) = true := rel_may.2 ⟨⟨by omega, by omega⟩, ⟨by omega, by omega⟩, by omega, by omega⟩
      rw [if_pos hh]
      have := at_rel hh
      rw [show 2 * ((((v.maj + 1) * 10000 + 0) * 10000 + 0) * 16 + 10) = highK v 1 by show _ = high1 v; unfold high1; rw [if_pos h]; omega] at this
      exact this
    · have hh : ¬ mayV (relV (v.maj + 1) 0 0) = true := fun e => by have := rel_may.1 e; omega
      rw [if_neg hh]
      have e : highK v 1 = 32000000000000 := by show high1 v = _; unfold high1; rw [if_neg h]
      rw [e]
      exact at_last
  have h2 : CutAt (highC v 2) (highK v 2) := by
    rw [highC]
    unfold bumpV
    rw [if_pos hm, if_neg (show ¬ ((1 : Nat) : Int) = 0 by decide), if_pos (show ((1 : Nat) : Int) = 1 from rfl)]
    unfold ifMay
    by_cases h : v.min < 9999
    · have hh : mayV (relV v.maj (v.min + 1) 0) = true := rel_may.2 ⟨⟨by omega, by omega⟩, ⟨by omega, by omega⟩, by omega, by omega⟩
      rw [if_pos hh]
      have := at_rel hh
      rw [show 2 * (((v.maj * 10000 + (v.min + 1)) * 10000 + 0) * 16 + 10) = highK v 2 by show _ = high2 v; unfold high2; rw [if_pos h]; omega] at this
      exact this
    · have hh : ¬ mayV (relV v.maj (v.min + 1) 0) = true := fun e => by have := rel_may.1 e; omega
      rw [if_neg hh]
      have e : highK v 2 = highK v 1 := by show high2 v = high1 v; unfold high2; rw [if_neg h]
      rw [e]
      exact h1
  have h3 : CutAt (highC v 3) (highK v 3) := by
    rw [highC]
    unfold bumpV
    rw [if_pos hm, if_neg (show ¬ ((2 : Nat) : Int) = 0 by decide), if_neg (show ¬ ((2 : Nat) : Int) = 1 by decide), if_pos (show ((2 : Nat) : Int) = 2 from rfl)]
    unfold ifMay
    by_cases h : v.pat < 9999
    · have hh : mayV (relV v.maj v.min (v.pat + 1)) = true := rel_may.2 ⟨⟨by omega, by omega⟩, ⟨by omega, by omega⟩, by omega, by omega⟩
      rw [if_pos hh]
      have := at_rel hh
      rw [show 2 * (((v.maj * 10000 + v.min) * 10000 + (v.pat + 1)) * 16 + 10) = highK v 3 by show _ = high3 v; unfold high3 numK; rw [if_pos h]; omega] at this
      exact this
    · have hh : ¬ mayV (relV v.maj v.min (v.pat + 1)) = true := fun e => by have := rel_may.1 e; omega
      rw [if_neg hh]
      have e : highK v 3 = highK v 2 := by show high3 v = high2 v; unfold high3; rw [if_neg h]
      rw [e]
      exact h2
  have : n = 0 ∨ n = 1 ∨ n = 2 ∨ n = 3 := by omega
  rcases this with rfl | rfl | rfl | rfl
  · exact at_last
  · exact h1
  · exact h2
  · exact h3
def behindK (c : Cmp) (r : Int) : Int := if c.parts < 3 ∧ c.op ≠ 9 then highK c.v c.parts.toNat else 2 * keyV c.v r + 1
theorem at_behind {c : Cmp} {r : Int} (h : mayC c = true) (hf : Fam c.v r) : CutAt (behindC c) (behindK c r) := by
  unfold behindC behindK
  split
  · rename_i hp
    exact at_high hf.1 (by omega)
  · exact at_aft h hf
/-- The order alone tells of comparators with three numbers. -/
def wantC (op n : Int) : Bool :=
  if op = 1 then decide (n = 0) else if op = 2 then !decide (n = 0) else if op = 3 then decide (n < 0) else if op = 4 then decide (n ≤ 0) else if op = 5 then decide (0 < n) else decide (0 ≤ n)
theorem region_1 {c : Cmp} (h : mayC c = true) (h2 : c.op ≠ 2) : regionP c = spansC (spanP c) := by unfold regionP; rw [if_pos h, if_neg h2]
theorem region_n {c : Cmp} (h : mayC c = true) (h2 : c.op = 2) : regionP c = notP (spansC (spanP c)) := by unfold regionP; rw [if_pos h, if_pos h2]
theorem order_has {c : Cmp} {r : Int} {v : Ver} {s : Int} (h : mayC c = true) (hf : Fam c.v r) (hv : Fam v s) (hp : c.parts = 3) (o1 : 1 ≤ c.op) (o2 : c.op ≤ 6) :
    hasR (regionP c) v = wantC c.op (intsI (keyV v s) (keyV c.v r)) := by
  have hl := at_low h hf
  have hb := at_behind h hf
  have hK : behindK c r = 2 * keyV c.v r + 1 := by unfold behindK; rw [if_neg (by omega)]
  rw [hK] at hb
  obtain ⟨b0, b1⟩ := key_bd hv
  obtain ⟨d0, d1⟩ := key_bd hf
  have hi := ints_cases (keyV v s) (keyV c.v r)
  have ho : c.op = 1 ∨ c.op = 2 ∨ c.op = 3 ∨ c.op = 4 ∨ c.op = 5 ∨ c.op = 6 := by omega
  rcases ho with e | e | e | e | e | e
  · rw [region_1 h (by omega), spanP_1 e, has_spans hl hb hv, e, Bool.eq_iff_iff]; simp [wantC]; omega
  · rw [region_n h e, spanP_2 e, has_not hl hb hv, e, Bool.eq_iff_iff]; simp [wantC]; omega
  · rw [region_1 h (by omega), spanP_3 e, has_spans at_first hl hv, e, Bool.eq_iff_iff]; simp [wantC]; omega
  · rw [region_1 h (by omega), spanP_4 e, has_spans at_first hb hv, e, Bool.eq_iff_iff]; simp [wantC]; omega
  · rw [region_1 h (by omega), spanP_5 e, has_spans hb at_last hv, e, Bool.eq_iff_iff]; simp [wantC]; omega
  · rw [region_1 h (by omega), spanP_6 e, has_spans hl at_last hv, e, Bool.eq_iff_iff]; simp [wantC]; omega

/-! The statement's own begins, over, says. -/
def beginsC (c : Cmp) (v : Ver) (n : Int) : Bool := (decide (n < 1) || decide (v.maj = c.v.maj)) && (decide (n < 2) || decide (v.min = c.v.min)) && (decide (n < 3) || decide (v.pat = c.v.pat))
def overC (c : Cmp) (v : Ver) : Bool :=
  if v.maj ≠ c.v.maj ∨ c.parts = 1 then decide (c.v.maj < v.maj) else if v.min ≠ c.v.min ∨ c.parts = 2 then decide (c.v.min < v.min) else decide (c.v.pat < v.pat)
def saysN (c : Cmp) : Int := if 0 < c.v.maj ∨ c.parts = 1 then 1 else if 0 < c.v.min ∨ c.parts = 2 then 2 else 3
def saysC (c : Cmp) (v : Ver) : Bool :=
  if c.op = 1 ∨ c.op = 9 then beginsC c v c.parts
  else if c.op = 2 then !beginsC c v c.parts
  else if c.op = 3 then !beginsC c v c.parts && !overC c v
  else if c.op = 4 then beginsC c v c.parts || !overC c v
  else if c.op = 5 then overC c v
  else if c.op = 6 then beginsC c v c.parts || overC c v
  else if c.op = 8 then beginsC c v (min c.parts 2) && (beginsC c v c.parts || overC c v)
  else beginsC c v (saysN c) && (beginsC c v c.parts || overC c v)
/-- What a region of a comparator without a Pre holds of releases: a stretch of their numbers. -/
theorem zone_has {c : Cmp} {r : Int} {v : Ver} {s : Int} (h : mayC c = true) (hf : Fam c.v r) (hv : Fam v s) :
    hasR (zoneC c) v = (!decide (c.v.pre = []) && !decide (v.pre = []) && beginsC c v 3) := by
  obtain ⟨⟨a0, a1⟩, ⟨b0, b1⟩, ⟨c0, c1⟩, r0, r1⟩ := fam_bd hf
  obtain ⟨⟨x0, x1⟩, ⟨y0, y1⟩, ⟨z0, z1⟩, s0, s1⟩ := fam_bd hv
  have hs : s = 10 ↔ v.pre = [] := by
    obtain ⟨_, i, hp, rfl⟩ := hv
    rw [hp]
    exact rank_top i
  unfold zoneC
  by_cases hp : c.v.pre = []
  · rw [if_neg (fun e => e.2 hp), decide_eq_true hp]
    rfl
  · rw [if_pos ⟨h, hp⟩]
    have hm0 : mayV ⟨c.v.maj, c.v.min, c.v.pat, [48], []⟩ = true := by
      unfold mayV
      dsimp only
      rw [(fits_iff _).2 ⟨a0, a1⟩, (fits_iff _).2 ⟨b0, b1⟩, (fits_iff _).2 ⟨c0, c1⟩]
      decide
    have hA : CutAt ⟨0, ⟨c.v.maj, c.v.min, c.v.pat, [48], []⟩, false⟩ (2 * (numK c.v * 16)) :=
      ⟨by unfold mayCut; rw [if_pos rfl]; dsimp only; rw [hm0]; rfl, .inr (.inr ⟨rfl, 0, ⟨hm0, ⟨4, by omega⟩, rfl, rfl⟩, by simp [aftK, keyV, numK]⟩)⟩
    have hB := at_rel (rel_may.2 ⟨⟨a0, a1⟩, ⟨b0, b1⟩, c0, c1⟩)
    rw [has_1 hA hB hv, Bool.eq_iff_iff]
    unfold beginsC
    simp only [decide_eq_false hp, Bool.not_false, Bool.true_and, Bool.and_eq_true, Bool.not_eq_true', decide_eq_false_iff_not, decide_eq_true_eq, Bool.or_eq_true, ← hs]
    unfold keyV numK
    omega
end Go.Proofs.YthaagngoefieaaaDoor
