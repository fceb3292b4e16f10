/-
  Facts on bytes and names for the walks of chapter 1. Conditions: none.
-/
import Derived.Test.YthaagngoefieaaaDoorRows
import Derived.Test.YthaagngoefieaaaDoorMem
import Derived.Test.YthaagngoefieaaaDoorIdPlain
import Derived.WalkKit
import Derived.ProofKit
import Derived.Below
import Derived.WalkSpells
import Derived.WalkLawsBesides
import Derived.Outline
import Derived.Laws.RangeAny
import Derived.Lib.Strings
namespace Go.Proofs.YthaagngoefieaaaDoor
open Go.ChangeShapes Go.WideShapes Go.ChangeAt Go.RowKit
set_option linter.unusedVariables false

theorem at_get (s : ByteArray) (k : Nat) (h : k < s.size) : s.data.toList.getD k 0 = s[k] := by
  have : s.data.toList[k]? = some s[k] := by rw [List.getElem?_eq_getElem (by simpa using h)]; rfl
  rw [List.getD, this]; rfl
theorem len_size (s : ByteArray) : s.data.toList.length = s.size := by simp
theorem iter_below (w : World) (s : ByteArray) (k : Nat) : Below w.heap.size w (w.iter s k) := (Below.refl _ _).alloc (Nat.le_refl _) _
theorem empty_no {s : ByteArray} (h : 0 < s.size) : s.toList.isEmpty = false ∧ (!s.toList.isEmpty) = true := by
  rw [Lib.toList_data]
  have hl := len_size s
  cases hd : s.data.toList with
  | nil => rw [hd] at hl; simp at hl; omega
  | cons a l => exact ⟨rfl, rfl⟩
theorem empty_is {s : ByteArray} (h : s.size = 0) : s = ⟨#[]⟩ := by
  apply ByteArray.ext
  apply Array.toList_inj.1
  exact List.eq_nil_of_length_eq_zero (by rw [len_size]; exact h)

theorem getD_nat (s : ByteArray) (k : Nat) (h : k < s.size) : (s.data.toList.getD k 0).toNat = s[k].toNat := by rw [at_get s k h]

/-- What the loop has shown after k bytes. -/
def NameP (l : List UInt8) (k : Nat) : Prop := nameTo l k = true ∧ (0 < k → lowB (l.getD 0 0) = true) ∧ (k = l.length → 0 < k → l.getD (k - 1) 0 ≠ 45)
theorem nameP_end {l : List UInt8} (h : NameP l l.length) (h1 : 1 ≤ l.length) (h2 : l.length ≤ 16) : nameB l = true := by
  obtain ⟨a, b, c⟩ := h
  have c := c rfl (by omega)
  unfold nameB
  rw [a, b (by omega), beq_eq_false_iff_ne.2 c]
  simp [h1, h2]
theorem nameP_low {l : List UInt8} {k : Nat} (h : NameP l k) (hk : k < l.length) (hc : lowB (l.getD k 0) = true) : NameP l (k + 1) := by
  obtain ⟨a, b, _⟩ := h
  refine ⟨nameTo_step a (Or.inr ?_), fun _ => ?_, fun _ _ => ?_⟩
  · unfold nameOk
    rw [hc]
    unfold lowB at hc
    simp at hc
    have : (l.getD k 0 == 45) = false := by
      rw [beq_eq_false_iff_ne]
      intro e
      have h45 : (45 : UInt8).toNat = 45 := rfl
      have := congrArg UInt8.toNat e
      simp [List.getD] at this hc
      omega
    rw [this]
    rfl
  · by_cases e : k = 0
    · subst e; exact hc
    · exact b (by omega)
  · intro e
    unfold lowB at hc
    simp at hc e
    rw [e] at hc
    exact absurd hc.1 (by decide)
theorem low_iff (c : UInt8) : lowB c = true ↔ 97 ≤ c.toNat ∧ c.toNat ≤ 122 := by unfold lowB; simp
theorem dig_iff (c : UInt8) : digB c = true ↔ 48 ≤ c.toNat ∧ c.toNat ≤ 57 := by unfold digB; simp
theorem dash_iff (c : UInt8) : c = 45 ↔ c.toNat = 45 := ⟨fun h => by rw [h]; rfl, fun h => UInt8.toNat_inj.1 h⟩
theorem low_not {c : UInt8} (h : ¬ (97 ≤ c.toNat ∧ c.toNat ≤ 122)) : lowB c = false := by
  rw [Bool.eq_false_iff]; exact fun e => h ((low_iff c).1 e)
theorem dig_not {c : UInt8} (h : ¬ (48 ≤ c.toNat ∧ c.toNat ≤ 57)) : digB c = false := by
  rw [Bool.eq_false_iff]; exact fun e => h ((dig_iff c).1 e)
theorem nameP_dig {l : List UInt8} {k : Nat} (h : NameP l k) (hk0 : 0 < k) (h1 : 48 ≤ (l.getD k 0).toNat) (h2 : (l.getD k 0).toNat ≤ 57) : NameP l (k + 1) := by
  obtain ⟨a, b, _⟩ := h
  refine ⟨nameTo_step a (Or.inr ?_), fun _ => b hk0, fun _ _ => ?_⟩
  · unfold nameOk
    rw [(dig_iff _).2 ⟨h1, h2⟩, beq_eq_false_iff_ne.2 (fun e => by have := (dash_iff _).1 e; omega)]
    simp
  · rw [Nat.add_sub_cancel]
    exact fun e => by have := (dash_iff _).1 e; omega
theorem nameP_dash {l : List UInt8} {k : Nat} (h : NameP l k) (hk0 : 0 < k) (hk1 : k + 1 < l.length) (h1 : (l.getD k 0).toNat = 45) (h2 : (l.getD (k - 1) 0).toNat ≠ 45) : NameP l (k + 1) := by
  obtain ⟨a, b, _⟩ := h
  refine ⟨nameTo_step a (Or.inr ?_), fun _ => b hk0, fun e _ => absurd e (by omega)⟩
  unfold nameOk
  rw [(dash_iff _).2 h1, beq_eq_false_iff_ne.2 (fun e => h2 ((dash_iff _).1 e))]
  rfl
theorem name_first {l : List UInt8} (h : ¬ (97 ≤ (l.getD 0 0).toNat ∧ (l.getD 0 0).toNat ≤ 122)) : nameB l = false := by
  unfold nameB
  rw [low_not h]
  simp
theorem name_last {l : List UInt8} {k : Nat} (hk : k + 1 = l.length) (h : (l.getD k 0).toNat = 45) : nameB l = false := by
  unfold nameB
  rw [show l.length - 1 = k from by omega, (dash_iff _).2 h]
  simp
theorem name_stop {l : List UInt8} {k : Nat} (hk : k < l.length) (hk0 : 0 < k) (h : nameOk (l.getD (k - 1) 0) (l.getD k 0) = false) : nameB l = false := by
  unfold nameB
  rw [nameTo_stop hk0 hk h, Bool.and_false]
theorem name_other {l : List UInt8} {k : Nat} (hk : k < l.length) (h1 : ¬ (97 ≤ (l.getD k 0).toNat ∧ (l.getD k 0).toNat ≤ 122)) (h2 : ¬ (48 ≤ (l.getD k 0).toNat ∧ (l.getD k 0).toNat ≤ 57)) (h3 : (l.getD k 0).toNat ≠ 45) : nameB l = false := by
  by_cases hk0 : k = 0
  · subst hk0; exact name_first h1
  · refine name_stop hk (by omega) ?_
    unfold nameOk
    rw [low_not h1, dig_not h2, beq_eq_false_iff_ne.2 (fun e => h3 ((dash_iff _).1 e))]
    rfl
theorem name_prev {l : List UInt8} {k : Nat} (hk : k < l.length) (hk0 : 0 < k) (h1 : (l.getD k 0).toNat = 45) (h2 : (l.getD (k - 1) 0).toNat = 45) : nameB l = false := by
  refine name_stop hk hk0 ?_
  unfold nameOk
  rw [(dash_iff _).2 h1, (dash_iff _).2 h2]
  rfl
theorem name_len {l : List UInt8} (h : l.length = 0 ∨ 16 < l.length) : nameB l = false := by
  unfold nameB
  rcases h with h | h
  · simp [h]
  · have : decide (l.length ≤ 16) = false := by simp; omega
    rw [this]; simp

theorem ret_bool {a b : Bool} (h : a = b) : Ending.returned (.bool a) = .returned (.bool b) := by rw [h]

theorem byte_some (s : ByteArray) (k : Nat) (h : k < s.size) : s.data.toList[k]? = some s[k] := by
  rw [List.getElem?_eq_getElem (by simpa using h)]; rfl

end Go.Proofs.YthaagngoefieaaaDoor
