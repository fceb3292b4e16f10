/-
  The walks of chapter 2's behind and of the reference's place. Conditions: the string is no longer than a string can be.
-/
import Derived.Test.YtabcpbmnemfnbaaDoorVRPrint
import Derived.BigQuiet
import Derived.Deep.QuietTactic
namespace Go.Proofs.YtabcpbmnemfnbaaDoor
open Go.ChangeShapes Go.WideShapes Go.ChangeAt Go.RowKit
set_option linter.unusedVariables false

theorem cut_at {l : List UInt8} {c : UInt8} {k : Nat} (h : l[k]? = some c) (h0 : (l.take k).all (· != c) = true) : aheadL l c = l.take k ∧ fromL l c = l.drop k := by
  induction l generalizing k with
  | nil => simp at h
  | cons x l ih =>
    cases k with
    | zero =>
      simp at h
      subst h
      simp [aheadL, fromL]
    | succ k =>
      rw [List.take_succ_cons, List.all_cons, Bool.and_eq_true] at h0
      obtain ⟨a, b⟩ := ih (by simpa using h) h0.2
      unfold aheadL fromL at *
      rw [List.takeWhile_cons, List.dropWhile_cons, h0.1]
      simp [a, b]
theorem cut_none {l : List UInt8} {c : UInt8} (h0 : l.all (· != c) = true) : aheadL l c = l ∧ fromL l c = [] := by
  induction l with
  | nil => simp [aheadL, fromL]
  | cons x l ih =>
    rw [List.all_cons, Bool.and_eq_true] at h0
    obtain ⟨a, b⟩ := ih h0.2
    unfold aheadL fromL at *
    rw [List.takeWhile_cons, List.dropWhile_cons, h0.1]
    simp [a, b]
theorem ahead_le (l : List UInt8) (c : UInt8) : (aheadL l c).length ≤ l.length := by
  unfold aheadL
  exact List.Sublist.length_le (List.takeWhile_sublist _)
theorem ahead_from (l : List UInt8) (c : UInt8) : aheadL l c ++ fromL l c = l := List.takeWhile_append_dropWhile

/-- What stands ahead of the first c, and what behind it. -/
def Behind (s : ByteArray) (c : UInt8) (x y : ByteArray) : Prop := x.data.toList = (fromL s.data.toList c).tail ∧ y.data.toList = aheadL s.data.toList c

theorem behind_at {s : ByteArray} {c : UInt8} {k : Nat} (h : k < s.size) (hc : s[k] = c) (h0 : (s.data.toList.take k).all (· != c) = true) : Behind s c (s.extract (k + 1) s.size) (s.extract 0 k) := by
  have hb := byte_some s k h
  rw [hc] at hb
  obtain ⟨a, b⟩ := cut_at hb h0
  unfold Behind
  rw [a, b, ext_list, ext_list, List.drop_zero, List.take_of_length_le (by rw [len_size]; exact Nat.le_refl _), List.tail_drop]
  exact ⟨rfl, rfl⟩
theorem behind_none {s : ByteArray} {c : UInt8} (h0 : (s.data.toList.take s.size).all (· != c) = true) : Behind s c ⟨#[]⟩ s := by
  rw [List.take_of_length_le (by rw [len_size]; exact Nat.le_refl _)] at h0
  obtain ⟨a, b⟩ := cut_none h0
  unfold Behind
  rw [a, b]
  exact ⟨rfl, rfl⟩
theorem ne_step {s : ByteArray} {c : UInt8} {k : Nat} (h : k < s.size) (h0 : (s.data.toList.take k).all (· != c) = true) (hc : s[k] ≠ c) : (s.data.toList.take (k + 1)).all (· != c) = true :=
  all_take_succ (byte_some s k h) h0 (by simp [hc])

set_option maxHeartbeats 1000000 in
theorem behind_any (s : ByteArray) (c : UInt8) (w : World) (hs : s.size ≤ maxLen) :
    Calls Tryd.prog 32 #[.string s, .int .u8 (c.toNat : Int)] w fun e w' => (∃ x y, e = .returned (.tuple #[.string x, .string y]) ∧ Behind s c x y) ∧ Below w.heap.size w w' := by
  unfold maxLen at hs
  go_enter Tryd.func32, Tryd.ntmps32
  go_wp2
  go_loop [6, 9] (fun _ i => ∃ k : Nat, k ≤ s.size ∧ i = .int .i64 k ∧ (s.data.toList.take k).all (· != c) = true) (fun _ i => s.size - (intOf i).toNat)
  case atStart => exact ⟨0, by omega, rfl, rfl⟩
  case round =>
    obtain ⟨k, hk, rfl, hp⟩ := hrel
    have HQ := Lib.hid hp
    clear hp
    by_cases hlt : k < s.size
    · by_cases hc : s[k] = c
      · have HF := Lib.hid (behind_at hlt hc HQ.out)
        have hbb : ((s[k].toNat : Int) == (c.toNat : Int)) = true := by simp [hc]
        clear hc
        go_wp2
        go_quiet (fail)
        go_wp2
        go_ret2
        exact ⟨⟨_, _, rfl, HF.out⟩, below_drewN (Below.refl _ _) _⟩
      · have HP := Lib.hid (ne_step hlt HQ.out hc)
        have hbb : ((s[k].toNat : Int) == (c.toNat : Int)) = false := by
          rw [beq_eq_false_iff_ne]
          exact fun e => hc (UInt8.toNat_inj.1 (by omega))
        clear hc
        go_wp2
        go_round
        case rel => exact ⟨k + 1, by omega, by go_num, HP.out⟩
        case measure => simp [intOf]; omega
    · obtain rfl : k = s.size := by omega
      have HE := Lib.hid (behind_none HQ.out)
      go_wp2
      go_ret2
      exact ⟨⟨_, _, rfl, HE.out⟩, Below.refl _ _⟩

/-- The place of the first c; the text's length: none. -/
def plc (s : ByteArray) (c : UInt8) : Nat := (aheadL s.data.toList c).length
theorem plc_at {s : ByteArray} {c : UInt8} {k : Nat} (h : k < s.size) (hc : s[k] = c) (h0 : (s.data.toList.take k).all (· != c) = true) : plc s c = k := by
  have hb := byte_some s k h
  rw [hc] at hb
  obtain ⟨a, b⟩ := cut_at hb h0
  unfold plc
  rw [a, List.length_take, len_size]
  omega
theorem plc_none {s : ByteArray} {c : UInt8} (h0 : (s.data.toList.take s.size).all (· != c) = true) : plc s c = s.size := by
  rw [List.take_of_length_le (by rw [len_size]; exact Nat.le_refl _)] at h0
  obtain ⟨a, b⟩ := cut_none h0
  unfold plc
  rw [a, len_size]

set_option maxHeartbeats 1000000 in
theorem place_any (s : ByteArray) (c : UInt8) (w : World) (hs : s.size ≤ maxLen) :
    Calls Tryd.prog 35 #[.string s, .int .u8 (c.toNat : Int)] w fun e w' => e = .returned (.int .i64 (plc s c : Int)) ∧ w = w' := by
  unfold maxLen at hs
  generalize hR : plc s c = R
  have HR := Lib.hid hR
  clear hR
  go_enter Tryd.func35, Tryd.ntmps35
  go_wp2
  go_loop [5] (fun i => ∃ k : Nat, k ≤ s.size ∧ i = .int .i64 k ∧ (s.data.toList.take k).all (· != c) = true) (fun i => s.size - (intOf i).toNat)
  case atStart => exact ⟨0, by omega, rfl, rfl⟩
  case round =>
    obtain ⟨k, hk, rfl, hp⟩ := hrel
    have HQ := Lib.hid hp
    clear hp
    by_cases hlt : k < s.size
    · by_cases hc : s[k] = c
      · have HF := Lib.hid (plc_at hlt hc HQ.out)
        have hbb : ((s[k].toNat : Int) == (c.toNat : Int)) = true := by simp [hc]
        clear hc
        go_wp2
        go_ret
        exact ⟨by rw [← HR.out, HF.out]; rfl, rfl⟩
      · have HP := Lib.hid (ne_step hlt HQ.out hc)
        have hbb : ((s[k].toNat : Int) == (c.toNat : Int)) = false := by
          rw [beq_eq_false_iff_ne]
          exact fun e => hc (UInt8.toNat_inj.1 (by omega))
        clear hc
        go_wp2
        go_round
        case rel => exact ⟨k + 1, by omega, by go_num, HP.out⟩
        case measure => simp [intOf]; omega
    · obtain rfl : k = s.size := by omega
      have HE := Lib.hid (plc_none HQ.out)
      go_wp2
      go_ret
      exact ⟨by rw [← HR.out, HE.out]; rfl, rfl⟩
end Go.Proofs.YtabcpbmnemfnbaaDoor
