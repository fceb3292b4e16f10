/-
  The statements' own versions, as the laws take them: five fields of the family, with a rank. Conditions: the list's length is bounded.
-/
import Derived.Test.YtabcpbmnemfnbaaDoorVKeys
import Derived.Test.YtabcpbmnemfnbaaDoorVLawA
namespace Go.Proofs.YtabcpbmnemfnbaaDoor
open Go.ChangeShapes Go.WideShapes Go.ChangeAt Go.RowKit
set_option linter.unusedVariables false

theorem pre_size {k : Nat} (h : k < 14) : (preT k).size ≤ 8 := by
  have hk : k = 0 ∨ k = 1 ∨ k = 2 ∨ k = 3 ∨ k = 4 ∨ k = 5 ∨ k = 6 ∨ k = 7 ∨ k = 8 ∨ k = 9 ∨ k = 10 ∨ k = 11 ∨ k = 12 ∨ k = 13 := by omega
  rcases hk with rfl | rfl | rfl | rfl | rfl | rfl | rfl | rfl | rfl | rfl | rfl | rfl | rfl | rfl <;> decide
theorem build_size {k : Nat} (h : k < 6) : (buildT k).size ≤ 8 := by
  have hk : k = 0 ∨ k = 1 ∨ k = 2 ∨ k = 3 ∨ k = 4 ∨ k = 5 := by omega
  rcases hk with rfl | rfl | rfl | rfl | rfl | rfl <;> decide
/-- A version of the statements: its fields. -/
theorem ver_fam (A : Option Addr) (c B : Nat) (l : List Int) (i : Int) (hl : l.length ≤ maxLen) (hw : ∀ z ∈ l, (Lit.int .i64 z).wf = true) (i0 : 0 ≤ i) (i1 : i ≤ 1000) :
    ∃ (x0 x1 x2 : Int) (x3 x4 : ByteArray) (r : Int), Fam (verS x0 x1 x2 x3 x4) r ∧ x3.size ≤ 8 ∧ x4.size ≤ 8 ∧ ∀ W : World, Rd W B A l.length (l.map (Value.int .i64)) → B ≤ W.heap.size →
      Calls Tryd.prog 24 #[.slice A l.length c, .int .i64 i] W fun e w' => e = .returned (.agg #[.int .i64 x0, .int .i64 x1, .int .i64 x2, .string x3, .string x4]) ∧ Below W.heap.size W w' :=
  ⟨_, _, _, _, _, _, fam_made (place_lt _ (by omega)) (place_lt _ (by omega)) (place_lt _ (by omega)) (place_lt _ (by omega)) (place_lt _ (by omega)), pre_size (place_lt _ (by omega)), build_size (place_lt _ (by omega)), fun W h hB => version_any A c B l i W h hB hl hw i0 i1⟩
/-- Compare of two of the family. -/
theorem fam_comp {a0 a1 a2 : Int} {a3 a4 : ByteArray} {b0 b1 b2 : Int} {b3 b4 : ByteArray} {r s : Int} (ha : Fam (verS a0 a1 a2 a3 a4) r) (hb : Fam (verS b0 b1 b2 b3 b4) s) (s3 : a3.size ≤ 8) (s4 : a4.size ≤ 8) (t3 : b3.size ≤ 8) (t4 : b4.size ≤ 8) (W : World) :
    Calls Tryd.prog 20 #[.agg #[.int .i64 a0, .int .i64 a1, .int .i64 a2, .string a3, .string a4], .agg #[.int .i64 b0, .int .i64 b1, .int .i64 b2, .string b3, .string b4]] W fun e w' => e = .returned (.int .i64 (intsI (keyV (verS a0 a1 a2 a3 a4) r) (keyV (verS b0 b1 b2 b3 b4) s))) ∧ Below W.heap.size W w' := by
  have h := compare_any a0 a1 a2 a3 a4 b0 b1 b2 b3 b4 W (by omega) (by omega) (by omega) (by omega)
  rw [comp_key ha hb] at h
  exact h
theorem fam_core {a0 a1 a2 : Int} {a3 a4 : ByteArray} {r : Int} (h : Fam (verS a0 a1 a2 a3 a4) r) : Fam (verS a0 a1 a2 a3 ⟨#[]⟩) r := by
  obtain ⟨hm, i, hp, hr⟩ := h
  refine ⟨?_, i, hp, hr⟩
  unfold mayV verS at hm ⊢
  simp only [Bool.and_eq_true] at hm ⊢
  exact ⟨hm.1, by simp⟩
theorem ints_cases (a b : Int) : intsI a b = -1 ∧ a < b ∨ intsI a b = 0 ∧ a = b ∨ intsI a b = 1 ∧ b < a := by
  rcases Int.lt_trichotomy a b with h | h | h
  · exact .inl ⟨ints_lt h, h⟩
  · exact .inr (.inl ⟨ints_eq h, h⟩)
  · exact .inr (.inr ⟨ints_gt h, h⟩)
theorem ints_neg (a b : Int) : intsI b a = -intsI a b := by
  rcases ints_cases a b with ⟨h, k⟩ | ⟨h, k⟩ | ⟨h, k⟩
  · rw [h, ints_gt k]; rfl
  · rw [h, ints_eq k.symm]; rfl
  · rw [h, ints_lt k]
/-- Keys are the same just if the cores are. -/
theorem key_core {a0 a1 a2 : Int} {a3 a4 : ByteArray} {b0 b1 b2 : Int} {b3 b4 : ByteArray} {r s : Int} (ha : Fam (verS a0 a1 a2 a3 a4) r) (hb : Fam (verS b0 b1 b2 b3 b4) s) :
    eqV a0 a1 a2 a3 ⟨#[]⟩ b0 b1 b2 b3 ⟨#[]⟩ = (intsI (keyV (verS a0 a1 a2 a3 a4) r) (keyV (verS b0 b1 b2 b3 b4) s) == 0) := by
  obtain ⟨⟨x0, x1⟩, ⟨y0, y1⟩, ⟨z0, z1⟩, r0, r1⟩ := fam_bd ha
  obtain ⟨⟨x0', x1'⟩, ⟨y0', y1'⟩, ⟨z0', z1'⟩, r0', r1'⟩ := fam_bd hb
  rw [eqV_ver, Bool.eq_iff_iff]
  simp only [decide_eq_true_eq, beq_iff_eq]
  obtain ⟨_, i, hp, rfl⟩ := ha
  obtain ⟨_, j, hp', rfl⟩ := hb
  simp only [verS] at *
  constructor
  · intro h
    simp only [Ver.mk.injEq] at h
    obtain ⟨rfl, rfl, rfl, h3, _⟩ := h
    have hr : rankT i = rankT j := by
      have := pres_rank i j
      rw [← hp, ← hp', h3, pres_same rfl] at this
      exact ints_zero this.symm
    unfold keyV
    rw [hr, ints_same]
  · intro h
    have h := ints_zero h
    unfold keyV at h
    dsimp only at h
    have h0 : a0 = b0 := by omega
    have h1 : a1 = b1 := by omega
    have h2 : a2 = b2 := by omega
    have hr : rankT i = rankT j := by omega
    rw [h0, h1, h2, hp, hp', rank_inj i j hr]
end Go.Proofs.YtabcpbmnemfnbaaDoor
