/-
  The walks of chapter 40's numbers in bytes and of the form of a head. Conditions: none but the strings' sizes.
-/
import Derived.Test.YtlhdomckljhfoaaDigSum
import Derived.Test.YtlhdomckljhfoaaDkPut
import Derived.StillTailTactics
import Derived.Laws.BytesArg
import Derived.Lib.Strings
namespace Go.Proofs.Ytlhdomckljhfoaa
open Go.ChangeShapes Go.WideShapes Go.ChangeAt Go.RowKit
set_option linter.unusedVariables false

theorem byte_at (s : ByteArray) (k : Nat) (h : k < s.size) : s.data.toList[k]? = some s[k] := by
  rw [List.getElem?_eq_getElem (by simpa using h)]; rfl
theorem len_size (s : ByteArray) : s.data.toList.length = s.size := by simp
theorem num_byte (s : ByteArray) (k : Nat) (h : k < s.size) : num (s.data.toList.take (k + 1)) = num (s.data.toList.take k) * 256 + s[k].toUInt64 := by
  have hl : k < s.data.toList.length := by rw [len_size]; exact h
  rw [num_take _ _ hl]; rfl

set_option maxHeartbeats 400000 in
theorem take_any (s : ByteArray) (w : World) (hs : s.size ≤ maxLen) :
    Calls Try.prog 34 #[.string s] w fun e w' => e = .returned (.int .u64 (ui (num s.data.toList))) ∧ w = w' := by
  unfold maxLen at hs
  go_enter Try.func34, Try.ntmps34
  go_wp2
  go_loop [3, 7] (fun n i => ∃ k : Nat, k ≤ s.size ∧ i = .int .i64 k ∧ n = .int .u64 (ui (num (s.data.toList.take k)))) (fun _ i => s.size - (intOf i).toNat)
  case atStart => exact ⟨0, Nat.zero_le _, rfl, rfl⟩
  case round =>
    obtain ⟨k, hk, rfl, rfl⟩ := hrel
    by_cases hlt : k < s.size
    · have HS := Lib.hid (num_byte s k hlt)
      have ho := num_or (num (s.data.toList.take k)) s[k]
      unfold bi at ho
      obtain ⟨hc0, hc1⟩ := bi_bd s[k]
      unfold bi at hc0 hc1
      generalize num (s.data.toList.take k) = h at *
      go_wp2
      go_round
      case rel => exact ⟨k + 1, by omega, by go_num, by rw [HS.out]⟩
      case measure => simp [intOf]; omega
    · have HT : Hid (s.data.toList.take k = s.data.toList) := List.take_of_length_le (by rw [len_size]; omega)
      go_wp2
      go_ret
      exact ⟨ret_int (by rw [HT.out]), rfl⟩

set_option maxHeartbeats 400000 in
theorem number_any (s : ByteArray) (w : World) (hs : s.size ≤ maxLen) :
    Calls Try.prog 36 #[.string s] w fun e w' => e = .returned (.int .u64 (ui (num s.data.toList))) ∧ w = w' := by
  unfold maxLen at hs
  go_enter Try.func36, Try.ntmps36
  go_wp2
  go_loop [3, 4] (fun n i => ∃ k : Nat, k ≤ s.size ∧ i = .int .i64 k ∧ n = .int .u64 (ui (num (s.data.toList.take k)))) (fun _ i => s.size - (intOf i).toNat)
  case atStart => exact ⟨0, Nat.zero_le _, rfl, rfl⟩
  case round =>
    obtain ⟨k, hk, rfl, rfl⟩ := hrel
    by_cases hlt : k < s.size
    · have HS := Lib.hid (num_byte s k hlt)
      have ho := num_mul (num (s.data.toList.take k)) s[k]
      unfold bi at ho
      obtain ⟨hc0, hc1⟩ := bi_bd s[k]
      unfold bi at hc0 hc1
      generalize num (s.data.toList.take k) = h at *
      go_wp2
      go_round
      case rel => exact ⟨k + 1, by omega, by go_num, by rw [HS.out]⟩
      case measure => simp [intOf]; omega
    · have HT : Hid (s.data.toList.take k = s.data.toList) := List.take_of_length_le (by rw [len_size]; omega)
      go_wp2
      go_ret
      exact ⟨ret_int (by rw [HT.out]), rfl⟩
end Go.Proofs.Ytlhdomckljhfoaa
