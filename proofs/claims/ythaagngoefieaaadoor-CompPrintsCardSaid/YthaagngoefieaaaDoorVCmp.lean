/-
  The walks of chapter 2's small comparisons: cmp.Compare of numbers and texts, the reference's Ints and Texts, Core. Conditions: none.
-/
import Derived.Test.YthaagngoefieaaaDoorVRoom2
namespace Go.Proofs.YthaagngoefieaaaDoor
open Go.ChangeShapes Go.WideShapes Go.ChangeAt Go.RowKit
set_option linter.unusedVariables false

theorem less_bytes : ∀ (x y : List UInt8), Op.bytesLess x y = lessL x y
  | [], [] => rfl
  | _ :: _, [] => rfl
  | [], _ :: _ => rfl
  | a :: x, b :: y => by
    rw [Op.bytesLess, lessL, less_bytes x y]
    rfl
theorem less_self : ∀ x : List UInt8, lessL x x = false
  | [] => rfl
  | a :: x => by rw [lessL, less_self x]; simp
theorem less_not : ∀ {x y : List UInt8}, lessL x y = true → lessL y x = false
  | [], [], h => by simp [lessL] at h
  | _ :: _, [], h => by simp [lessL] at h
  | [], _ :: _, _ => rfl
  | a :: x, b :: y, h => by
    simp only [lessL, Bool.or_eq_true, Bool.and_eq_true, decide_eq_true_eq, beq_iff_eq] at h
    rw [lessL]
    rcases h with h | ⟨rfl, h⟩
    · rw [Bool.or_eq_false_iff]
      refine ⟨by simp; omega, ?_⟩
      have : (b == a) = false := by simp; intro e; subst e; omega
      rw [this]; rfl
    · rw [less_not h]; simp
theorem less_or : ∀ {x y : List UInt8}, lessL x y = false → x ≠ y → lessL y x = true
  | [], [], _, hn => absurd rfl hn
  | _ :: _, [], _, _ => rfl
  | [], _ :: _, h, _ => by simp [lessL] at h
  | a :: x, b :: y, h, hn => by
    simp only [lessL, Bool.or_eq_false_iff, decide_eq_false_iff_not] at h
    rw [lessL]
    by_cases hab : a = b
    · subst hab
      have h2 : lessL x y = false := by simpa using h.2
      rw [less_or h2 (fun e => hn (by rw [e]))]; simp
    · have : b.toNat < a.toNat := by
        have : a.toNat ≠ b.toNat := fun e => hab (UInt8.toNat_inj.1 e)
        omega
      simp [this]

theorem isnan_any (a : Int) (w : World) : Calls Tryd.prog 78 #[.int .i64 a] w fun e w' => e = .returned (.bool false) ∧ w = w' := by
  go_enter Tryd.func78, Tryd.ntmps78
  go_wp2
  go_ret
  exact ⟨by simp, rfl⟩
theorem isnans_any (a : ByteArray) (w : World) : Calls Tryd.prog 101 #[.string a] w fun e w' => e = .returned (.bool false) ∧ w = w' := by
  go_enter Tryd.func101, Tryd.ntmps101
  go_wp2
  go_ret
  exact ⟨by simp, rfl⟩
theorem cmp_any (a b : Int) (w : World) : Calls Tryd.prog 49 #[.int .i64 a, .int .i64 b] w fun e w' => e = .returned (.int .i64 (intsI a b)) ∧ w = w' := by
  by_cases h1 : a < b
  · have e : intsI a b = -1 := by unfold intsI; rw [if_pos h1]
    rw [e]; clear e
    go_enter Tryd.func49, Tryd.ntmps49
    go_wp2_with (go_at_call 78; refine (isnan_any _ _).mono ?_; rintro e w3 ⟨rfl, rfl⟩)
    go_ret
    exact ⟨rfl, rfl⟩
  · by_cases h2 : b < a
    · have e : intsI a b = 1 := by unfold intsI; rw [if_neg h1, if_pos h2]
      rw [e]; clear e
      go_enter Tryd.func49, Tryd.ntmps49
      go_wp2_with (go_at_call 78; refine (isnan_any _ _).mono ?_; rintro e w3 ⟨rfl, rfl⟩)
      go_ret
      exact ⟨rfl, rfl⟩
    · have e : intsI a b = 0 := by unfold intsI; rw [if_neg h1, if_neg h2]
      rw [e]; clear e
      go_enter Tryd.func49, Tryd.ntmps49
      go_wp2_with (go_at_call 78; refine (isnan_any _ _).mono ?_; rintro e w3 ⟨rfl, rfl⟩)
      go_ret
      exact ⟨rfl, rfl⟩
theorem ints_any (a b : Int) (w : World) : Calls Tryd.prog 93 #[.int .i64 a, .int .i64 b] w fun e w' => e = .returned (.int .i64 (intsI a b)) ∧ w = w' := by
  by_cases h1 : a < b
  · have e : intsI a b = -1 := by unfold intsI; rw [if_pos h1]
    rw [e]; clear e
    go_enter Tryd.func93, Tryd.ntmps93
    go_wp2
    go_ret
    exact ⟨rfl, rfl⟩
  · by_cases h2 : b < a
    · have e : intsI a b = 1 := by unfold intsI; rw [if_neg h1, if_pos h2]
      rw [e]; clear e
      go_enter Tryd.func93, Tryd.ntmps93
      go_wp2
      go_ret
      exact ⟨rfl, rfl⟩
    · have e : intsI a b = 0 := by unfold intsI; rw [if_neg h1, if_neg h2]
      rw [e]; clear e
      go_enter Tryd.func93, Tryd.ntmps93
      go_wp2
      go_ret
      exact ⟨rfl, rfl⟩

/-- The facts of two texts in the walk's words. -/
theorem tx_less {a b : ByteArray} (h : lessL a.data.toList b.data.toList = true) : Op.bytesLess a.toList b.toList = true ∧ (a.toList == b.toList) = false ∧ textsI a.data.toList b.data.toList = -1 := by
  rw [Lib.toList_data, Lib.toList_data, less_bytes]
  refine ⟨h, ?_, by unfold textsI; rw [if_pos h]⟩
  have : a.data.toList ≠ b.data.toList := fun e => by rw [e, less_self] at h; cases h
  simpa using this
theorem tx_more {a b : ByteArray} (h : lessL b.data.toList a.data.toList = true) : Op.bytesLess a.toList b.toList = false ∧ (a.toList == b.toList) = false ∧ textsI a.data.toList b.data.toList = 1 := by
  rw [Lib.toList_data, Lib.toList_data, less_bytes]
  have hn := less_not h
  refine ⟨hn, ?_, by unfold textsI; rw [if_neg (by rw [hn]; decide), if_pos h]⟩
  have : a.data.toList ≠ b.data.toList := fun e => by rw [e, less_self] at h; cases h
  simpa using this
theorem tx_same {a b : ByteArray} (h : a.data.toList = b.data.toList) : Op.bytesLess a.toList b.toList = false ∧ (a.toList == b.toList) = true ∧ textsI a.data.toList b.data.toList = 0 := by
  rw [Lib.toList_data, Lib.toList_data, less_bytes, h]
  have hn := less_self b.data.toList
  exact ⟨hn, by simp, by unfold textsI; rw [if_neg (by rw [hn]; decide), if_neg (by rw [hn]; decide)]⟩
theorem tx_way (a b : ByteArray) : lessL a.data.toList b.data.toList = true ∨ lessL b.data.toList a.data.toList = true ∨ a.data.toList = b.data.toList := by
  cases h : lessL a.data.toList b.data.toList
  · by_cases e : a.data.toList = b.data.toList
    · exact .inr (.inr e)
    · exact .inr (.inl (less_or h e))
  · exact .inl rfl
theorem cmps_any (a b : ByteArray) (w : World) : Calls Tryd.prog 80 #[.string a, .string b] w fun e w' => e = .returned (.int .i64 (textsI a.data.toList b.data.toList)) ∧ w = w' := by
  rcases tx_way a b with h | h | h
  · obtain ⟨h1, h2, h3⟩ := tx_less h
    rw [h3]; clear h h3
    go_enter Tryd.func80, Tryd.ntmps80
    go_wp2_with (go_at_call 101; refine (isnans_any _ _).mono ?_; rintro e w3 ⟨rfl, rfl⟩)
    go_ret
    exact ⟨rfl, rfl⟩
  · obtain ⟨h1, h2, h3⟩ := tx_more h
    rw [h3]; clear h h3
    go_enter Tryd.func80, Tryd.ntmps80
    go_wp2_with (go_at_call 101; refine (isnans_any _ _).mono ?_; rintro e w3 ⟨rfl, rfl⟩)
    go_ret
    exact ⟨rfl, rfl⟩
  · obtain ⟨h1, h2, h3⟩ := tx_same h
    rw [h3]; clear h h3
    go_enter Tryd.func80, Tryd.ntmps80
    go_wp2_with (go_at_call 101; refine (isnans_any _ _).mono ?_; rintro e w3 ⟨rfl, rfl⟩)
    go_ret
    exact ⟨rfl, rfl⟩
theorem texts_any (a b : ByteArray) (w : World) : Calls Tryd.prog 112 #[.string a, .string b] w fun e w' => e = .returned (.int .i64 (textsI a.data.toList b.data.toList)) ∧ w = w' := by
  rcases tx_way a b with h | h | h
  · obtain ⟨h1, h2, h3⟩ := tx_less h
    rw [h3]; clear h h3
    go_enter Tryd.func112, Tryd.ntmps112
    go_wp2
    go_ret
    exact ⟨rfl, rfl⟩
  · obtain ⟨h1, h2, h3⟩ := tx_more h
    rw [h3]; clear h h3
    go_enter Tryd.func112, Tryd.ntmps112
    go_wp2
    go_ret
    exact ⟨rfl, rfl⟩
  · obtain ⟨h1, h2, h3⟩ := tx_same h
    rw [h3]; clear h h3
    go_enter Tryd.func112, Tryd.ntmps112
    go_wp2
    go_ret
    exact ⟨rfl, rfl⟩

theorem core_any (a b c : Int) (p q : ByteArray) (w : World) : Calls Tryd.prog 47 #[.agg #[.int .i64 a, .int .i64 b, .int .i64 c, .string p, .string q]] w fun e w' => e = .returned (.agg #[.int .i64 a, .int .i64 b, .int .i64 c, .string p, .string ⟨#[]⟩]) ∧ Below w.heap.size w w' := by
  go_enter Tryd.func47, Tryd.ntmps47
  go_wp2
  go_returns
  exact ⟨rfl, two_below _ _ _⟩
theorem rcore_any (a b c : Int) (p q : ByteArray) (w : World) : Calls Tryd.prog 95 #[.agg #[.int .i64 a, .int .i64 b, .int .i64 c, .string p, .string q]] w fun e w' => e = .returned (.agg #[.int .i64 a, .int .i64 b, .int .i64 c, .string p, .string ⟨#[]⟩]) ∧ Below w.heap.size w w' := by
  go_enter Tryd.func95, Tryd.ntmps95
  go_wp2
  go_returns
  exact ⟨rfl, two_below _ _ _⟩
end Go.Proofs.YthaagngoefieaaaDoor
