/-
  The walks of chapter 2's comparison of two tags, the program's tag and the reference's one. Conditions: the texts' sizes are within the bound of a slice.
-/
import Derived.Test.YthaagngoefieaaaDoorVCmp
namespace Go.Proofs.YthaagngoefieaaaDoor
open Go.ChangeShapes Go.WideShapes Go.ChangeAt Go.RowKit
set_option linter.unusedVariables false

theorem one_nn {a b : List UInt8} (h : numericB a = true) (k : numericB b = true) : oneI a b = intsI (numB a).1 (numB b).1 := by unfold oneI; rw [if_pos h, if_pos k]
theorem one_nt {a b : List UInt8} (h : numericB a = true) (k : numericB b = false) : oneI a b = -1 := by unfold oneI; rw [if_pos h, if_neg (by rw [k]; decide)]
theorem one_tn {a b : List UInt8} (h : numericB a = false) (k : numericB b = true) : oneI a b = 1 := by unfold oneI; rw [if_neg (by rw [h]; decide), if_pos k]
theorem one_tt {a b : List UInt8} (h : numericB a = false) (k : numericB b = false) : oneI a b = textsI a b := by unfold oneI; rw [if_neg (by rw [h]; decide), if_neg (by rw [k]; decide)]

set_option maxHeartbeats 1000000 in
theorem onetag_any (a b : ByteArray) (w : World) (ha : a.size ≤ maxLen) (hb : b.size ≤ maxLen) :
    Calls Tryd.prog 51 #[.string a, .string b] w fun e w' => e = .returned (.int .i64 (oneI a.data.toList b.data.toList)) ∧ Below w.heap.size w w' := by
  have na := fun W => numeric_any a W ha
  have nb := fun W => numeric_any b W hb
  have ma := fun W => number_any a W ha
  have mb := fun W => number_any b W hb
  have ct := fun W => cmps_any a b W
  cases hp : numericB a.data.toList <;> cases hq : numericB b.data.toList
  · rw [one_tt hp hq]
    rw [hp] at na
    rw [hq] at nb
    clear hp hq ma mb
    generalize textsI a.data.toList b.data.toList = r at *
    go_enter Tryd.func51, Tryd.ntmps51
    go_wp2_with fail
    refine (na _).mono ?_
    rintro e w1 ⟨rfl, rfl⟩
    go_wp2_with fail
    refine (nb _).mono ?_
    rintro e w1 ⟨rfl, rfl⟩
    go_wp2_with (go_at_call 80; refine (ct _).mono ?_; rintro e w3 ⟨rfl, rfl⟩)
    go_ret
    exact ⟨rfl, Below.refl _ _⟩
  · rw [one_tn hp hq]
    rw [hp] at na
    rw [hq] at nb
    clear hp hq ma mb ct
    go_enter Tryd.func51, Tryd.ntmps51
    go_wp2_with fail
    refine (na _).mono ?_
    rintro e w1 ⟨rfl, rfl⟩
    go_wp2_with fail
    refine (nb _).mono ?_
    rintro e w1 ⟨rfl, rfl⟩
    go_wp2
    go_ret
    exact ⟨rfl, Below.refl _ _⟩
  · rw [one_nt hp hq]
    rw [hp] at na
    rw [hq] at nb
    clear hp hq ma mb ct
    go_enter Tryd.func51, Tryd.ntmps51
    go_wp2_with fail
    refine (na _).mono ?_
    rintro e w1 ⟨rfl, rfl⟩
    go_wp2_with fail
    refine (nb _).mono ?_
    rintro e w1 ⟨rfl, rfl⟩
    go_wp2
    go_ret
    exact ⟨rfl, Below.refl _ _⟩
  · rw [one_nn hp hq]
    rw [hp] at na
    rw [hq] at nb
    clear hp hq ct
    generalize numB a.data.toList = m at *
    generalize numB b.data.toList = n at *
    obtain ⟨x, i⟩ := m
    obtain ⟨y, j⟩ := n
    go_enter Tryd.func51, Tryd.ntmps51
    go_wp2_with fail
    refine (na _).mono ?_
    rintro e w1 ⟨rfl, rfl⟩
    go_wp2_with fail
    refine (nb _).mono ?_
    rintro e w1 ⟨rfl, rfl⟩
    go_wp2_with fail
    refine (ma _).mono ?_
    rintro e w1 ⟨rfl, hb1⟩
    go_wp2_with fail
    refine (mb _).mono ?_
    rintro e w2 ⟨rfl, hb2⟩
    go_wp2_with (go_at_call 49; refine (cmp_any _ _ _).mono ?_; rintro e w3 ⟨rfl, rfl⟩)
    go_ret
    exact ⟨rfl, hb1.trans (hb2.mono hb1.size)⟩

set_option maxHeartbeats 1000000 in
theorem rone_any (a b : ByteArray) (w : World) (ha : a.size ≤ maxLen) (hb : b.size ≤ maxLen) :
    Calls Tryd.prog 107 #[.string a, .string b] w fun e w' => e = .returned (.int .i64 (oneI a.data.toList b.data.toList)) ∧ w = w' := by
  have na := fun W => rnumeric_any a W ha
  have nb := fun W => rnumeric_any b W hb
  have ma := fun W => rnumber_any a W ha
  have mb := fun W => rnumber_any b W hb
  have ct := fun W => texts_any a b W
  cases hp : numericB a.data.toList <;> cases hq : numericB b.data.toList
  · rw [one_tt hp hq]
    rw [hp] at na
    rw [hq] at nb
    clear hp hq ma mb
    generalize textsI a.data.toList b.data.toList = r at *
    go_enter Tryd.func107, Tryd.ntmps107
    go_wp2_with fail
    refine (na _).mono ?_
    rintro e w1 ⟨rfl, rfl⟩
    go_wp2_with fail
    refine (nb _).mono ?_
    rintro e w1 ⟨rfl, rfl⟩
    go_wp2_with (go_at_call 112; refine (ct _).mono ?_; rintro e w3 ⟨rfl, rfl⟩)
    go_ret
    exact ⟨rfl, rfl⟩
  · rw [one_tn hp hq]
    rw [hp] at na
    rw [hq] at nb
    clear hp hq ma mb ct
    go_enter Tryd.func107, Tryd.ntmps107
    go_wp2_with fail
    refine (na _).mono ?_
    rintro e w1 ⟨rfl, rfl⟩
    go_wp2_with fail
    refine (nb _).mono ?_
    rintro e w1 ⟨rfl, rfl⟩
    go_wp2
    go_ret
    exact ⟨rfl, rfl⟩
  · rw [one_nt hp hq]
    rw [hp] at na
    rw [hq] at nb
    clear hp hq ma mb ct
    go_enter Tryd.func107, Tryd.ntmps107
    go_wp2_with fail
    refine (na _).mono ?_
    rintro e w1 ⟨rfl, rfl⟩
    go_wp2_with fail
    refine (nb _).mono ?_
    rintro e w1 ⟨rfl, rfl⟩
    go_wp2
    go_ret
    exact ⟨rfl, rfl⟩
  · rw [one_nn hp hq]
    rw [hp] at na
    rw [hq] at nb
    clear hp hq ct
    generalize numB a.data.toList = m at *
    generalize numB b.data.toList = n at *
    obtain ⟨x, i⟩ := m
    obtain ⟨y, j⟩ := n
    go_enter Tryd.func107, Tryd.ntmps107
    go_wp2_with fail
    refine (na _).mono ?_
    rintro e w1 ⟨rfl, rfl⟩
    go_wp2_with fail
    refine (nb _).mono ?_
    rintro e w1 ⟨rfl, rfl⟩
    go_wp2_with fail
    refine (ma _).mono ?_
    rintro e w1 ⟨rfl, rfl⟩
    go_wp2_with fail
    refine (mb _).mono ?_
    rintro e w2 ⟨rfl, rfl⟩
    go_wp2_with (go_at_call 93; refine (ints_any _ _ _).mono ?_; rintro e w3 ⟨rfl, rfl⟩)
    go_ret
    exact ⟨rfl, rfl⟩
end Go.Proofs.YthaagngoefieaaaDoor
