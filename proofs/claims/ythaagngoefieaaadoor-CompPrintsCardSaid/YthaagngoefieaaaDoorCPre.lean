/-
  A text parted at its first sign of a Pre: facts (some stand in XVParts beside walks that this seat's program has not), and the walk of chapter 6's reference pre. Conditions: the text's size.
-/
import Derived.Test.YthaagngoefieaaaDoorCRoom
import Derived.Test.YthaagngoefieaaaDoorCBase
namespace Go.Proofs.YthaagngoefieaaaDoor
open Go.ChangeShapes Go.WideShapes Go.ChangeAt Go.RowKit
set_option linter.unusedVariables false

theorem cut_at {l : List UInt8} {c : UInt8} {k : Nat} (h : l[k]? = some c) (h0 : (l.take k).all (· != c) = true) : aheadL l c = l.take k ∧ fromL l c = l.drop k := by
  induction l generalizing k with
  | nil => simp at h
  | cons x l ih =>
    cases k with
    | zero =>
      simp at h
      subst h
      simp [aheadL, fromL]
    | succ k =>
      rw [List.take_succ_cons, List.all_cons, Bool.and_eq_true] at h0
      obtain ⟨a, b⟩ := ih (by simpa using h) h0.2
      unfold aheadL fromL at *
      rw [List.takeWhile_cons, List.dropWhile_cons, h0.1]
      simp [a, b]
theorem ahead_le (l : List UInt8) (c : UInt8) : (aheadL l c).length ≤ l.length := by
  unfold aheadL
  exact List.Sublist.length_le (List.takeWhile_sublist _)
theorem ahead_from (l : List UInt8) (c : UInt8) : aheadL l c ++ fromL l c = l := List.takeWhile_append_dropWhile

/-- What stands ahead of the first c, and what behind it. -/
def Behind (s : ByteArray) (c : UInt8) (x y : ByteArray) : Prop := x.data.toList = (fromL s.data.toList c).tail ∧ y.data.toList = aheadL s.data.toList c

theorem behind_at {s : ByteArray} {c : UInt8} {k : Nat} (h : k < s.size) (hc : s[k] = c) (h0 : (s.data.toList.take k).all (· != c) = true) : Behind s c (s.extract (k + 1) s.size) (s.extract 0 k) := by
  have hb := byte_some s k h
  rw [hc] at hb
  obtain ⟨a, b⟩ := cut_at hb h0
  unfold Behind
  rw [a, b, ext_list, ext_list, List.drop_zero, List.take_of_length_le (by rw [len_size]; exact Nat.le_refl _), List.tail_drop]
  exact ⟨rfl, rfl⟩
theorem behind_none {s : ByteArray} {c : UInt8} (h0 : (s.data.toList.take s.size).all (· != c) = true) : Behind s c ⟨#[]⟩ s := by
  rw [List.take_of_length_le (by rw [len_size]; exact Nat.le_refl _)] at h0
  obtain ⟨a, b⟩ := cut_none h0
  unfold Behind
  rw [a, b]
  exact ⟨rfl, rfl⟩
theorem ne_step {s : ByteArray} {c : UInt8} {k : Nat} (h : k < s.size) (h0 : (s.data.toList.take k).all (· != c) = true) (hc : s[k] ≠ c) : (s.data.toList.take (k + 1)).all (· != c) = true :=
  all_take_succ (byte_some s k h) h0 (by simp [hc])

set_option maxHeartbeats 1000000 in
theorem rpre_any (s : ByteArray) (w : World) (hs : s.size ≤ maxLen) :
    Calls Tryd.prog 36 #[.string s] w fun e w' => (∃ x y, e = .returned (.tuple #[.string y, .string x]) ∧ Behind s 45 x y) ∧ Below w.heap.size w w' := by
  unfold maxLen at hs
  go_enter Tryd.func36, Tryd.ntmps36
  go_wp2
  go_loop [4] (fun i => ∃ k : Nat, k ≤ s.size ∧ i = .int .i64 k ∧ (s.data.toList.take k).all (· != 45) = true) (fun i => s.size - (intOf i).toNat)
  case atStart => exact ⟨0, by omega, rfl, rfl⟩
  case round =>
    obtain ⟨k, hk, rfl, hp⟩ := hrel
    have HQ := Lib.hid hp
    clear hp
    by_cases hlt : k < s.size
    · by_cases hc : s[k] = 45
      · have HF := Lib.hid (behind_at hlt hc HQ.out)
        have hbb : ((s[k].toNat : Int) == 45) = true := by simp [hc]
        clear hc
        go_wp2
        go_quiet (fail)
        go_wp2
        go_ret2
        exact ⟨⟨_, _, rfl, HF.out⟩, below_drewN (Below.refl _ _) _⟩
      · have HP := Lib.hid (ne_step hlt HQ.out hc)
        have hbb : ((s[k].toNat : Int) == 45) = false := by
          rw [beq_eq_false_iff_ne]
          exact fun e => hc (UInt8.toNat_inj.1 (by show _ = 45; omega))
        clear hc
        go_wp2
        go_round
        case rel => exact ⟨k + 1, by omega, by go_num, HP.out⟩
        case measure => simp [intOf]; omega
    · obtain rfl : k = s.size := by omega
      have HE := Lib.hid (behind_none HQ.out)
      go_wp2
      go_ret2
      exact ⟨⟨_, _, rfl, HE.out⟩, Below.refl _ _⟩
end Go.Proofs.YthaagngoefieaaaDoor
