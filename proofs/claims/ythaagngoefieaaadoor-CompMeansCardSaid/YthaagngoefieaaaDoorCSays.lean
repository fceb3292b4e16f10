/-
  Plain law of chapter 6: of a release and a comparator without a Pre, the numbers alone tell whether the region holds it. Conditions: none.
-/
import Derived.Test.YthaagngoefieaaaDoorCMeans
namespace Go.Proofs.YthaagngoefieaaaDoor
set_option linter.unusedSimpArgs false

theorem high_lt {u v : Ver} (hu : Fam u 10) (hv : Fam v 10) (n : Nat) (h1 : 1 ≤ n) (h3 : n ≤ 3) :
    (2 * keyV v 10 < highK u n) ↔ ((n = 1 → v.maj ≤ u.maj) ∧ (n = 2 → v.maj * 10000 + v.min ≤ u.maj * 10000 + u.min) ∧ (n = 3 → numK v ≤ numK u)) := by
  obtain ⟨⟨a0, a1⟩, ⟨b0, b1⟩, ⟨c0, c1⟩, _⟩ := fam_bd hu
  obtain ⟨⟨x0, x1⟩, ⟨y0, y1⟩, ⟨z0, z1⟩, _⟩ := fam_bd hv
  have e1 : (2 * keyV v 10 < highK u 1) ↔ v.maj ≤ u.maj := by
    show _ < high1 u ↔ _
    unfold high1 keyV
    split <;> omega
  have e2 : (2 * keyV v 10 < highK u 2) ↔ v.maj * 10000 + v.min ≤ u.maj * 10000 + u.min := by
    by_cases h : u.min < 9999
    · show _ < high2 u ↔ _
      unfold high2
      rw [if_pos h]
      unfold keyV
      omega
    · rw [show highK u 2 = highK u 1 by show high2 u = high1 u; unfold high2; rw [if_neg h], e1]
      omega
  have e3 : (2 * keyV v 10 < highK u 3) ↔ numK v ≤ numK u := by
    by_cases h : u.pat < 9999
    · show _ < high3 u ↔ _
      unfold high3
      rw [if_pos h, key_num]
      omega
    · rw [show highK u 3 = highK u 2 by show high3 u = high2 u; unfold high3; rw [if_neg h], e2]
      unfold numK
      omega
  have : n = 1 ∨ n = 2 ∨ n = 3 := by omega
  rcases this with rfl | rfl | rfl
  · rw [e1]; simp
  · rw [e2]; simp
  · rw [e3]; simp
set_option maxHeartbeats 4000000 in
theorem means_has {c : Cmp} {v : Ver} (h : mayC c = true) (hf : Fam c.v 10) (hv : Fam v 10) : hasR (regionP c) v = saysC c v := by
  obtain ⟨⟨a0, a1⟩, ⟨b0, b1⟩, ⟨c0, c1⟩, _⟩ := fam_bd hf
  obtain ⟨⟨x0, x1⟩, ⟨y0, y1⟩, ⟨z0, z1⟩, _⟩ := fam_bd hv
  obtain ⟨⟨o1, o2⟩, _, _, ⟨p1, p2⟩, _, q0, q1, q2⟩ := may_c h
  have hl := at_low h hf
  have hb := at_behind h hf
  have hh := fun n hn => at_high (n := n) hf.1 hn
  have ht := fun n g1 g3 => high_lt hf hv n g1 g3
  have hlow : (2 * keyV c.v 10 ≤ 2 * keyV v 10) ↔ numK c.v ≤ numK v := by rw [key_num, key_num]; omega
  have k0 : -1 ≤ 2 * keyV v 10 := by have := key_bd hv; omega
  have k1 : 2 * keyV v 10 < 32000000000000 := by have := key_bd hv; omega
  have ho : c.op = 1 ∨ c.op = 2 ∨ c.op = 3 ∨ c.op = 4 ∨ c.op = 5 ∨ c.op = 6 ∨ c.op = 7 ∨ c.op = 8 ∨ c.op = 9 := by omega
  have hps : c.parts = 0 ∨ c.parts = 1 ∨ c.parts = 2 ∨ c.parts = 3 := by
    unfold leastC at p1
    unfold mostC at p2
    split at p1 <;> split at p2 <;> omega
  have hbeh : c.op ≠ 9 → 1 ≤ c.parts ∧ ((2 * keyV v 10 < behindK c 10) ↔ ((c.parts = 1 → v.maj ≤ c.v.maj) ∧ (c.parts = 2 → v.maj * 10000 + v.min ≤ c.v.maj * 10000 + c.v.min) ∧ (c.parts = 3 → numK v ≤ numK c.v))) := by
    intro h9
    unfold leastC at p1
    rw [if_neg h9] at p1
    refine ⟨p1, ?_⟩
    unfold behindK
    by_cases h3 : c.parts < 3
    · rw [if_pos ⟨h3, h9⟩, ht c.parts.toNat (by omega) (by omega)]
      omega
    · rw [if_neg (fun e => h3 e.1), key_num, key_num]
      omega
  clear p1 p2
  have hn : numK c.v = (c.v.maj * 10000 + c.v.min) * 10000 + c.v.pat := rfl
  have hm : numK v = (v.maj * 10000 + v.min) * 10000 + v.pat := rfl
  unfold saysC beginsC overC
  rcases ho with e | e | e | e | e | e | e | e | e
  · obtain ⟨g1, g2⟩ := hbeh (by omega)
    rw [region_1 h (by omega), spanP_1 e, has_spans hl hb hv, e]
    clear hbeh ht hh hb hl h
    rcases hps with g | g | g | g <;> rw [Bool.eq_iff_iff] <;> by_cases i1 : v.maj = c.v.maj <;> by_cases i2 : v.min = c.v.min <;> simp [g, i1, i2] <;> omega
  · obtain ⟨g1, g2⟩ := hbeh (by omega)
    rw [region_n h e, spanP_2 e, has_not hl hb hv, e]
    clear hbeh ht hh hb hl h
    rcases hps with g | g | g | g <;> rw [Bool.eq_iff_iff] <;> by_cases i1 : v.maj = c.v.maj <;> by_cases i2 : v.min = c.v.min <;> simp [g, i1, i2] <;> omega
  · rw [region_1 h (by omega), spanP_3 e, has_spans at_first hl hv, e]
    obtain ⟨g1, g2⟩ := hbeh (by omega)
    clear hbeh ht hh hb hl h
    rcases hps with g | g | g | g <;> rw [Bool.eq_iff_iff] <;> by_cases i1 : v.maj = c.v.maj <;> by_cases i2 : v.min = c.v.min <;> simp [g, i1, i2] <;> omega
  · obtain ⟨g1, g2⟩ := hbeh (by omega)
    rw [region_1 h (by omega), spanP_4 e, has_spans at_first hb hv, e]
    clear hbeh ht hh hb hl h
    rcases hps with g | g | g | g <;> rw [Bool.eq_iff_iff] <;> by_cases i1 : v.maj = c.v.maj <;> by_cases i2 : v.min = c.v.min <;> simp [g, i1, i2] <;> omega
  · obtain ⟨g1, g2⟩ := hbeh (by omega)
    rw [region_1 h (by omega), spanP_5 e, has_spans hb at_last hv, e]
    clear hbeh ht hh hb hl h
    rcases hps with g | g | g | g <;> rw [Bool.eq_iff_iff] <;> by_cases i1 : v.maj = c.v.maj <;> by_cases i2 : v.min = c.v.min <;> simp [g, i1, i2] <;> omega
  · obtain ⟨g1, g2⟩ := hbeh (by omega)
    rw [region_1 h (by omega), spanP_6 e, has_spans hl at_last hv, e]
    clear hbeh ht hh hb hl h
    rcases hps with g | g | g | g <;> rw [Bool.eq_iff_iff] <;> by_cases i1 : v.maj = c.v.maj <;> by_cases i2 : v.min = c.v.min <;> simp [g, i1, i2] <;> omega
  · obtain ⟨g1, g2⟩ := hbeh (by omega)
    have hN : caretP c + 1 = saysN c := by
      rw [caret_turns h e]
      unfold turnsR saysN
      split
      · rfl
      · split <;> rfl
    have hN2 : (saysN c = 1 ∧ (0 < c.v.maj ∨ c.parts = 1)) ∨ (saysN c = 2 ∧ c.v.maj = 0 ∧ c.parts ≠ 1) ∨ (saysN c = 3 ∧ c.v.maj = 0 ∧ c.v.min = 0 ∧ c.parts = 3) := by unfold saysN; split <;> (try split) <;> omega
    rw [region_1 h (by omega), spanP_7 e, has_spans hl (hh _ (by rw [hN]; omega)) hv, e, hN]
    have g3 := ht (saysN c).toNat (by omega) (by omega)
    clear hbeh ht hh hb hl h hN
    generalize saysN c = N at *
    generalize highK c.v N.toNat = HV at *
    rcases hN2 with ⟨rfl, hN2⟩ | ⟨rfl, hN2⟩ | ⟨rfl, hN2⟩ <;> rcases hps with g | g | g | g <;> rw [Bool.eq_iff_iff] <;> by_cases i1 : v.maj = c.v.maj <;> by_cases i2 : v.min = c.v.min <;> simp [g, i1, i2] <;> omega
  · obtain ⟨g1, g2⟩ := hbeh (by omega)
    rw [region_1 h (by omega), spanP_8 e, has_spans hl (hh _ (by omega)) hv, e]
    have g3 := ht (min (c.parts - 1) 1 + 1).toNat (by omega) (by omega)
    generalize highK c.v (min (c.parts - 1) 1 + 1).toNat = HV at *
    clear hbeh ht hh hb hl h
    rcases hps with g | g | g | g <;> rw [Bool.eq_iff_iff] <;> by_cases i1 : v.maj = c.v.maj <;> by_cases i2 : v.min = c.v.min <;> simp [g, i1, i2] <;> omega
  · rw [region_1 h (by omega), spanP_9 e, e]
    by_cases hp : 0 < c.parts
    · rw [if_pos hp, has_spans hl (hh _ (by omega)) hv]
      have g3 := ht c.parts.toNat (by omega) (by omega)
      generalize highK c.v c.parts.toNat = HV at *
      clear hbeh ht hh hb hl h
      rcases hps with g | g | g | g <;> rw [Bool.eq_iff_iff] <;> by_cases i1 : v.maj = c.v.maj <;> by_cases i2 : v.min = c.v.min <;> simp [g, i1, i2] <;> omega
    · rw [if_neg hp, has_spans at_first at_last hv]
      clear hbeh ht hh hb hl h
      rcases hps with g | g | g | g <;> rw [Bool.eq_iff_iff] <;> by_cases i1 : v.maj = c.v.maj <;> by_cases i2 : v.min = c.v.min <;> simp [g, i1, i2] <;> omega
end Go.Proofs.YthaagngoefieaaaDoor
