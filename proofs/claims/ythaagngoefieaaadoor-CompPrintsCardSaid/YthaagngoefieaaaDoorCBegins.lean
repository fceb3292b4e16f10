/-
  The walks of chapter 6's begins, the program's and the reference's. Conditions: none.
-/
import Derived.Test.YthaagngoefieaaaDoorCSign
import Derived.Test.YthaagngoefieaaaDoorCRoom
namespace Go.Proofs.YthaagngoefieaaaDoor
open Go.ChangeShapes Go.WideShapes Go.ChangeAt Go.RowKit
set_option linter.unusedVariables false
set_option linter.unusedSimpArgs false

theorem begins_no {s t : ByteArray} (h : s.size < t.size) : t.data.toList.isPrefixOf s.data.toList = false := by
  rw [Bool.eq_false_iff, ne_eq, List.isPrefixOf_iff_prefix]
  intro hp
  have := hp.length_le
  rw [len_size, len_size] at this
  omega
theorem begins_is {s t : ByteArray} (h : t.size ≤ s.size) : ((s.extract 0 t.size).toList == t.toList) = t.data.toList.isPrefixOf s.data.toList := by
  rw [Bool.eq_iff_iff, List.isPrefixOf_iff_prefix, beq_iff_eq, List.prefix_iff_eq_take, len_size, Lib.toList_data, Lib.toList_data, ext_list, List.drop_zero]
  exact ⟨Eq.symm, Eq.symm⟩
theorem begins_any (s t : ByteArray) (w : World) (hs : s.size ≤ 1048577) (ht : t.size ≤ 1048577) :
    Calls Tryd.prog 65 #[.string s, .string t] w fun e w' => e = .returned (.bool (t.data.toList.isPrefixOf s.data.toList)) ∧ w = w' := by
  by_cases h : t.size ≤ s.size
  · have hb := Lib.hid (begins_is h)
    have h' : (t.size : Int) ≤ (s.size : Int) := by omega
    go_enter Tryd.func65, Tryd.ntmps65
    go_wp2
    go_ret
    exact ⟨ret_bool hb.out, rfl⟩
  · rw [begins_no (by omega)]
    have h' : ¬ (t.size : Int) ≤ (s.size : Int) := by omega
    go_enter Tryd.func65, Tryd.ntmps65
    go_wp2
    go_ret
    exact ⟨rfl, rfl⟩
theorem rbegins_any (s t : ByteArray) (w : World) (hs : s.size ≤ 1048577) (ht : t.size ≤ 1048577) :
    Calls Tryd.prog 67 #[.string s, .string t] w fun e w' => e = .returned (.bool (t.data.toList.isPrefixOf s.data.toList)) ∧ w = w' := by
  by_cases h : t.size ≤ s.size
  · have hb := Lib.hid (begins_is h)
    have h' : (t.size : Int) ≤ (s.size : Int) := by omega
    go_enter Tryd.func67, Tryd.ntmps67
    go_wp2
    go_ret
    exact ⟨ret_bool hb.out, rfl⟩
  · rw [begins_no (by omega)]
    have h' : ¬ (t.size : Int) ≤ (s.size : Int) := by omega
    go_enter Tryd.func67, Tryd.ntmps67
    go_wp2
    go_ret
    exact ⟨rfl, rfl⟩
end Go.Proofs.YthaagngoefieaaaDoor
