/-
  Plain facts for chapter 2's laws: texts that part versions; the next release, the bumped one, by their numbers. Conditions: none.
-/
import Derived.Test.YtabcpbmnemfnbaaDoorVState
namespace Go.Proofs.YtabcpbmnemfnbaaDoor
open Go.RowKit

theorem print_unlike {v u : Ver} (hv : mayV v = true) (hu : mayV u = true) : decide (printV v = printV u) = decide (v = u) := by
  rw [decide_eq_decide]
  constructor
  · intro h
    have h1 := print_parse hv
    rw [h, print_parse hu] at h1
    exact (Option.some.inj h1).symm
  · intro h; rw [h]
theorem itoa_pos {n : Int} (h : 0 ≤ n) : 1 ≤ (Lib.itoa n).length := by
  unfold Lib.itoa
  rw [if_neg (by omega)]
  exact (dec_all _ _ (Nat.le_refl _)).2.2.1
theorem print_long {v : Ver} (h : mayV v = true) : 4 < (printV v).length := by
  obtain ⟨⟨a0, a1⟩, ⟨b0, b1⟩, ⟨c0, c1⟩⟩ := may_parts h
  have la := itoa_pos a0
  have lb := itoa_pos b0
  have lc := itoa_pos c0
  rw [print_yes v h]
  unfold numsV
  simp only [List.length_append, List.length_cons]
  omega

/-- A release's number: what its three numbers make. -/
def numK (v : Ver) : Int := (v.maj * 10000 + v.min) * 10000 + v.pat
theorem key_num (v : Ver) (r : Int) : keyV v r = numK v * 16 + r := rfl
theorem rel_may {a b c : Int} : mayV (relV a b c) = true ↔ (0 ≤ a ∧ a ≤ 9999) ∧ (0 ≤ b ∧ b ≤ 9999) ∧ (0 ≤ c ∧ c ≤ 9999) := by
  unfold mayV relV
  simp only [Bool.and_eq_true, fits_iff]
  constructor
  · rintro ⟨⟨⟨⟨h1, h2⟩, h3⟩, _⟩, _⟩
    exact ⟨h1, h2, h3⟩
  · rintro ⟨h1, h2, h3⟩
    exact ⟨⟨⟨⟨h1, h2⟩, h3⟩, rfl⟩, rfl⟩
theorem rel_fam {a b c : Int} (h : mayV (relV a b c) = true) : Fam (relV a b c) 10 := ⟨h, ⟨0, by omega⟩, rfl, rfl⟩
theorem if_may {v u : Ver} : ifMay v = some u ↔ mayV v = true ∧ v = u := by
  unfold ifMay
  split
  · rename_i h; simp [h]
  · rename_i h; simp [h]
theorem if_may_none {v : Ver} : ifMay v = none ↔ mayV v = false := by
  unfold ifMay
  split
  · rename_i h; simp [h]
  · rename_i h; simpa using h

/-- The bumped release. -/
theorem bump_some {v u : Ver} {k : Int} (h : bumpV v k = some u) : mayV v = true ∧ u.pre = [] ∧ u.build = [] ∧ Fam u 10 ∧ (k = 0 ∨ k = 1 ∨ k = 2) ∧ (k = 0 → numK u = (v.maj + 1) * 100000000) ∧ (k = 1 → numK u = (v.maj * 10000 + v.min + 1) * 10000) ∧ (k = 2 → numK u = numK v + 1) := by
  unfold bumpV at h
  split at h
  · rename_i hm
    split at h
    · rename_i hk; subst hk
      obtain ⟨h1, rfl⟩ := if_may.1 h
      refine ⟨hm, rfl, rfl, rel_fam h1, by omega, fun _ => ?_, fun e => by omega, fun e => by omega⟩
      unfold numK relV; dsimp only; omega
    · split at h
      · rename_i hk; subst hk
        obtain ⟨h1, rfl⟩ := if_may.1 h
        refine ⟨hm, rfl, rfl, rel_fam h1, by omega, fun e => by omega, fun _ => ?_, fun e => by omega⟩
        unfold numK relV; dsimp only; omega
      · split at h
        · rename_i hk; subst hk
          obtain ⟨h1, rfl⟩ := if_may.1 h
          refine ⟨hm, rfl, rfl, rel_fam h1, by omega, fun e => by omega, fun e => by omega, fun _ => ?_⟩
          unfold numK relV; dsimp only; omega
        · cases h
  · cases h
/-- The next release's number. -/
theorem next_some {v u : Ver} {r : Int} (hv : Fam v r) (h : nextV v = some u) : u.pre = [] ∧ u.build = [] ∧ Fam u 10 ∧ (r = 10 → numK u = numK v + 1) ∧ (r ≠ 10 → numK u = numK v) := by
  obtain ⟨⟨a0, a1⟩, ⟨b0, b1⟩, ⟨c0, c1⟩, r0, r1⟩ := fam_bd hv
  obtain ⟨hm, i, hp, rfl⟩ := hv
  have ht := rank_top i
  rw [← hp] at ht
  unfold nextV at h
  rw [if_pos hm] at h
  split at h
  · rename_i hpre
    cases h
    refine ⟨rfl, rfl, rel_fam (rel_may.2 ⟨⟨a0, a1⟩, ⟨b0, b1⟩, ⟨c0, c1⟩⟩), fun e => absurd (ht.1 e) hpre, fun _ => rfl⟩
  · rename_i hpre
    have hpre : v.pre = [] := by simpa using hpre
    have hr := ht.2 hpre
    cases h2 : bumpV v 2 with
    | some x =>
      rw [h2] at h
      cases h
      obtain ⟨_, e1, e2, e3, _, _, _, e4⟩ := bump_some h2
      exact ⟨e1, e2, e3, fun _ => e4 rfl, fun e => absurd hr e⟩
    | none =>
      rw [h2] at h
      rw [bumpv_2 hm, if_may_none] at h2
      have hc : v.pat = 9999 := by
        by_cases hc : v.pat = 9999
        · exact hc
        · rw [rel_may.2 ⟨⟨a0, a1⟩, ⟨b0, b1⟩, by omega, by omega⟩] at h2; cases h2
      cases h1 : bumpV v 1 with
      | some x =>
        rw [h1] at h
        cases h
        obtain ⟨_, e1, e2, e3, _, _, e4, _⟩ := bump_some h1
        refine ⟨e1, e2, e3, fun _ => ?_, fun e => absurd hr e⟩
        rw [e4 rfl]; unfold numK; omega
      | none =>
        rw [h1] at h
        rw [bumpv_1 hm, if_may_none] at h1
        have hb : v.min = 9999 := by
          by_cases hb : v.min = 9999
          · exact hb
          · rw [rel_may.2 ⟨⟨a0, a1⟩, ⟨by omega, by omega⟩, by omega, by omega⟩] at h1; cases h1
        obtain ⟨_, e1, e2, e3, _, e4, _, _⟩ := bump_some h
        refine ⟨e1, e2, e3, fun _ => ?_, fun e => absurd hr e⟩
        rw [e4 rfl]; unfold numK; omega
theorem next_none {v : Ver} {r : Int} (hv : Fam v r) (h : nextV v = none) : r = 10 ∧ numK v = 999999999999 := by
  obtain ⟨⟨a0, a1⟩, ⟨b0, b1⟩, ⟨c0, c1⟩, r0, r1⟩ := fam_bd hv
  obtain ⟨hm, i, hp, rfl⟩ := hv
  have ht := rank_top i
  rw [← hp] at ht
  unfold nextV at h
  rw [if_pos hm] at h
  split at h
  · cases h
  · rename_i hpre
    have hpre : v.pre = [] := by simpa using hpre
    refine ⟨ht.2 hpre, ?_⟩
    cases h2 : bumpV v 2 with
    | some x => rw [h2] at h; cases h
    | none =>
      rw [h2] at h
      rw [bumpv_2 hm, if_may_none] at h2
      have hc : v.pat = 9999 := by
        by_cases hc : v.pat = 9999
        · exact hc
        · rw [rel_may.2 ⟨⟨a0, a1⟩, ⟨b0, b1⟩, by omega, by omega⟩] at h2; cases h2
      cases h1 : bumpV v 1 with
      | some x => rw [h1] at h; cases h
      | none =>
        rw [h1] at h
        rw [bumpv_1 hm, if_may_none] at h1
        have hb : v.min = 9999 := by
          by_cases hb : v.min = 9999
          · exact hb
          · rw [rel_may.2 ⟨⟨a0, a1⟩, ⟨by omega, by omega⟩, by omega, by omega⟩] at h1; cases h1
        dsimp only at h
        rw [bumpv_0 hm, if_may_none] at h
        have ha : v.maj = 9999 := by
          by_cases ha : v.maj = 9999
          · exact ha
          · rw [rel_may.2 ⟨⟨by omega, by omega⟩, ⟨by omega, by omega⟩, by omega, by omega⟩] at h; cases h
        unfold numK; omega
end Go.Proofs.YtabcpbmnemfnbaaDoor
