/-
  Plain law of chapter 2: the order of versions of the statements' family, by a number. Conditions: none.
-/
import Derived.Test.YthaagngoefieaaaDoorG7
import Derived.Test.YthaagngoefieaaaDoorVBump
import Derived.Test.YthaagngoefieaaaDoorG3
import Derived.Test.YthaagngoefieaaaDoorG1
namespace Go.Proofs.YthaagngoefieaaaDoor

/-- A Pre's rank among the family's; none: above all. -/
def rankT (k : Nat) : Int := [(10 : Int), 10, 10, 10, 0, 2, 3, 4, 5, 6, 7, 8, 1, 9].getD k 0
theorem pres_rank : ∀ i : Fin 14, ∀ j : Fin 14, presI (preT i).data.toList (preT j).data.toList = intsI (rankT i) (rankT j) := by decide +kernel
theorem rank_bd : ∀ i : Fin 14, 0 ≤ rankT i ∧ rankT i ≤ 10 := by decide +kernel
theorem rank_inj : ∀ i : Fin 14, ∀ j : Fin 14, rankT i = rankT j → (preT i).data.toList = (preT j).data.toList := by decide +kernel
theorem rank_top : ∀ i : Fin 14, rankT i = 10 ↔ (preT i).data.toList = [] := by decide +kernel
theorem pre_may : ∀ i : Fin 14, ((preT i).data.toList.isEmpty || preB (preT i).data.toList) = true := by decide +kernel
theorem build_may : ∀ i : Fin 6, ((buildT i).data.toList.isEmpty || tagsB (buildT i).data.toList) = true := by decide +kernel
theorem num_bd : ∀ i : Fin 8, fitsB (numT i) = true := by decide +kernel

/-- A version of the family, and its Pre's rank. -/
def Fam (v : Ver) (r : Int) : Prop := mayV v = true ∧ ∃ i : Fin 14, v.pre = (preT i).data.toList ∧ rankT i = r
def keyV (v : Ver) (r : Int) : Int := ((v.maj * 10000 + v.min) * 10000 + v.pat) * 16 + r
theorem fam_bd {v : Ver} {r : Int} (h : Fam v r) : (0 ≤ v.maj ∧ v.maj ≤ 9999) ∧ (0 ≤ v.min ∧ v.min ≤ 9999) ∧ (0 ≤ v.pat ∧ v.pat ≤ 9999) ∧ 0 ≤ r ∧ r ≤ 10 := by
  obtain ⟨hm, i, _, rfl⟩ := h
  obtain ⟨h1, h2, h3⟩ := may_parts hm
  exact ⟨h1, h2, h3, rank_bd i⟩
theorem ints_lt {a b : Int} (h : a < b) : intsI a b = -1 := by unfold intsI; rw [if_pos h]
theorem ints_gt {a b : Int} (h : b < a) : intsI a b = 1 := by unfold intsI; rw [if_neg (by omega), if_pos h]
theorem ints_eq {a b : Int} (h : a = b) : intsI a b = 0 := by subst h; exact ints_same a
theorem lex4 {a b c r a' b' c' r' : Int} (b0 : 0 ≤ b) (b1 : b ≤ 9999) (c0 : 0 ≤ c) (c1 : c ≤ 9999) (r0 : 0 ≤ r) (r1 : r ≤ 10) (b0' : 0 ≤ b') (b1' : b' ≤ 9999) (c0' : 0 ≤ c') (c1' : c' ≤ 9999) (r0' : 0 ≤ r') (r1' : r' ≤ 10) :
    orI (intsI a a') (orI (intsI b b') (orI (intsI c c') (intsI r r'))) = intsI (((a * 10000 + b) * 10000 + c) * 16 + r) (((a' * 10000 + b') * 10000 + c') * 16 + r') := by
  rcases Int.lt_trichotomy a a' with h | h | h
  · rw [ints_lt h]; exact (ints_lt (by omega)).symm
  · rw [ints_eq h, or_0]
    rcases Int.lt_trichotomy b b' with g | g | g
    · rw [ints_lt g]; exact (ints_lt (by omega)).symm
    · rw [ints_eq g, or_0]
      rcases Int.lt_trichotomy c c' with k | k | k
      · rw [ints_lt k]; exact (ints_lt (by omega)).symm
      · rw [ints_eq k, or_0]
        rcases Int.lt_trichotomy r r' with m | m | m
        · rw [ints_lt m]; exact (ints_lt (by omega)).symm
        · rw [ints_eq m]; exact (ints_eq (by omega)).symm
        · rw [ints_gt m]; exact (ints_gt (by omega)).symm
      · rw [ints_gt k]; exact (ints_gt (by omega)).symm
    · rw [ints_gt g]; exact (ints_gt (by omega)).symm
  · rw [ints_gt h]; exact (ints_gt (by omega)).symm
/-- The order, by the number. -/
theorem comp_key {x y : Ver} {r s : Int} (hx : Fam x r) (hy : Fam y s) : compV x y = intsI (keyV x r) (keyV y s) := by
  obtain ⟨_, ⟨b0, b1⟩, ⟨c0, c1⟩, r0, r1⟩ := fam_bd hx
  obtain ⟨_, ⟨b0', b1'⟩, ⟨c0', c1'⟩, r0', r1'⟩ := fam_bd hy
  obtain ⟨hm, i, hp, rfl⟩ := hx
  obtain ⟨hm', j, hp', rfl⟩ := hy
  rw [comp_yes hm hm', hp, hp', pres_rank, lex4 b0 b1 c0 c1 r0 r1 b0' b1' c0' c1' r0' r1']
  rfl
/-- The family's version at five numbers. -/
theorem fam_made {n0 n1 n2 n3 n4 : Nat} (h0 : n0 < 8) (h1 : n1 < 8) (h2 : n2 < 8) (h3 : n3 < 14) (h4 : n4 < 6) : Fam (verS (numT n0) (numT n1) (numT n2) (preT n3) (buildT n4)) (rankT n3) := by
  refine ⟨?_, ⟨n3, h3⟩, rfl, rfl⟩
  unfold mayV verS
  have e0 := num_bd ⟨n0, h0⟩
  have e1 := num_bd ⟨n1, h1⟩
  have e2 := num_bd ⟨n2, h2⟩
  have e3 := pre_may ⟨n3, h3⟩
  have e4 := build_may ⟨n4, h4⟩
  dsimp only at e0 e1 e2 e3 e4 ⊢
  rw [e0, e1, e2, e3, e4]
  rfl
theorem fam_rel {a b c : Int} (h0 : 0 ≤ a ∧ a ≤ 9999) (h1 : 0 ≤ b ∧ b ≤ 9999) (h2 : 0 ≤ c ∧ c ≤ 9999) (q : List UInt8) (hq : (q.isEmpty || tagsB q) = true) : Fam ⟨a, b, c, [], q⟩ 10 := by
  refine ⟨?_, ⟨0, by omega⟩, rfl, rfl⟩
  unfold mayV
  dsimp only
  rw [(fits_iff a).2 h0, (fits_iff b).2 h1, (fits_iff c).2 h2, hq]
  rfl
/-! Numbers. -/
theorem ints_cases (a b : Int) : intsI a b = -1 ∧ a < b ∨ intsI a b = 0 ∧ a = b ∨ intsI a b = 1 ∧ b < a := by
  rcases Int.lt_trichotomy a b with h | h | h
  · exact .inl ⟨ints_lt h, h⟩
  · exact .inr (.inl ⟨ints_eq h, h⟩)
  · exact .inr (.inr ⟨ints_gt h, h⟩)
def numK (v : Ver) : Int := (v.maj * 10000 + v.min) * 10000 + v.pat
theorem key_num (v : Ver) (r : Int) : keyV v r = numK v * 16 + r := rfl
theorem rel_may {a b c : Int} : mayV (relV a b c) = true ↔ (0 ≤ a ∧ a ≤ 9999) ∧ (0 ≤ b ∧ b ≤ 9999) ∧ (0 ≤ c ∧ c ≤ 9999) := by
  unfold mayV relV
  simp only [Bool.and_eq_true, fits_iff]
  constructor
  · rintro ⟨⟨⟨⟨h1, h2⟩, h3⟩, _⟩, _⟩
    exact ⟨h1, h2, h3⟩
  · rintro ⟨h1, h2, h3⟩
    exact ⟨⟨⟨⟨h1, h2⟩, h3⟩, rfl⟩, rfl⟩
theorem rel_fam {a b c : Int} (h : mayV (relV a b c) = true) : Fam (relV a b c) 10 := ⟨h, ⟨0, by omega⟩, rfl, rfl⟩
end Go.Proofs.YthaagngoefieaaaDoor
