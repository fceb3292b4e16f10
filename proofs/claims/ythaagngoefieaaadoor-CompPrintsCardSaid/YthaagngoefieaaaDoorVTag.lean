/-
  The walks of chapter 2's numeric, fits, and the reference's Numeric, num and tag. Conditions: the string is no longer than a string can be.
-/
import Derived.Test.YthaagngoefieaaaDoorVPlain
import Derived.Test.YthaagngoefieaaaDoorIdNumFacts
namespace Go.Proofs.YthaagngoefieaaaDoor
open Go.ChangeShapes Go.WideShapes Go.ChangeAt Go.RowKit
set_option linter.unusedVariables false

theorem numeric_stop {s : ByteArray} {k : Nat} (h : k < s.size) (hc : ¬ (48 ≤ s[k].toNat ∧ s[k].toNat ≤ 57)) : numericB s.data.toList = false := by
  unfold numericB
  rw [all_stop (byte_some s k h) (dig_not hc), Bool.and_false]
theorem numeric_end {s : ByteArray} (h : (s.data.toList.take s.size).all digB = true) : numericB s.data.toList = decide (0 < s.size) := by
  rw [List.take_of_length_le (by rw [len_size]; exact Nat.le_refl _)] at h
  unfold numericB
  rw [h, Bool.and_true, len_size]
  rfl
theorem numeric_step {s : ByteArray} {k : Nat} (h : k < s.size) (hp : (s.data.toList.take k).all digB = true) (h1 : 48 ≤ s[k].toNat) (h2 : s[k].toNat ≤ 57) : (s.data.toList.take (k + 1)).all digB = true :=
  all_take_succ (byte_some s k h) hp ((dig_iff _).2 ⟨h1, h2⟩)
theorem empty_str (s : ByteArray) (h : s.size = 0) : s.toList.isEmpty = true := by
  obtain rfl := empty_is h
  rw [Lib.toList_data]
  rfl

set_option maxHeartbeats 1000000 in
theorem numeric_any (s : ByteArray) (w : World) (hs : s.size ≤ maxLen) :
    Calls Tryd.prog 79 #[.string s] w fun e w' => e = .returned (.bool (numericB s.data.toList)) ∧ w = w' := by
  unfold maxLen at hs
  generalize hR : numericB s.data.toList = R
  have HR := Lib.hid hR
  clear hR
  go_enter Tryd.func79, Tryd.ntmps79
  go_wp2
  go_loop [3, 6] (fun _ i => ∃ k : Nat, k ≤ s.size ∧ i = .int .i64 k ∧ (s.data.toList.take k).all digB = true) (fun _ i => s.size - (intOf i).toNat)
  case atStart => exact ⟨0, by omega, rfl, rfl⟩
  case round =>
    obtain ⟨k, hk, rfl, hp⟩ := hrel
    have HQ := Lib.hid hp
    clear hp
    by_cases hlt : k < s.size
    · by_cases c1 : 48 ≤ s[k].toNat ∧ s[k].toNat ≤ 57
      · obtain ⟨d1, d2⟩ := c1
        have HP := Lib.hid (numeric_step hlt HQ.out d1 d2)
        have e2 : (48 : Int) ≤ (s[k].toNat : Int) := by omega
        have e3 : (s[k].toNat : Int) ≤ 57 := by omega
        go_wp2
        go_round
        case rel => exact ⟨k + 1, by omega, by go_num, HP.out⟩
        case measure => simp [intOf]; omega
      · have HF := Lib.hid (numeric_stop hlt c1)
        have e2 : (s[k].toNat : Int) < 48 ∨ 57 < (s[k].toNat : Int) := by omega
        clear c1
        go_wp2
        all_goals first | (exfalso; omega) | (go_ret; exact ⟨ret_bool (HF.out.symm.trans HR.out), rfl⟩)
    · obtain rfl : k = s.size := by omega
      have HE := Lib.hid (numeric_end HQ.out)
      by_cases h0 : s.size = 0
      · have hem := empty_str s h0
        have h00 : decide (0 < s.size) = false := decide_eq_false (by omega)
        rw [h00] at HE
        go_wp2
        go_ret
        exact ⟨ret_bool (HE.out.symm.trans HR.out), rfl⟩
      · obtain ⟨he1, he2⟩ := empty_no (s := s) (by omega)
        have h00 : decide (0 < s.size) = true := decide_eq_true (by omega)
        rw [h00] at HE
        go_wp2
        go_ret
        exact ⟨ret_bool (HE.out.symm.trans HR.out), rfl⟩

set_option maxHeartbeats 1000000 in
theorem rnumeric_any (s : ByteArray) (w : World) (hs : s.size ≤ maxLen) :
    Calls Tryd.prog 99 #[.string s] w fun e w' => e = .returned (.bool (numericB s.data.toList)) ∧ w = w' := by
  unfold maxLen at hs
  generalize hR : numericB s.data.toList = R
  have HR := Lib.hid hR
  clear hR
  go_enter Tryd.func99, Tryd.ntmps99
  go_wp2
  go_loop [3] (fun i => ∃ k : Nat, k ≤ s.size ∧ i = .int .i64 k ∧ (s.data.toList.take k).all digB = true) (fun i => s.size - (intOf i).toNat)
  case atStart => exact ⟨0, by omega, rfl, rfl⟩
  case round =>
    obtain ⟨k, hk, rfl, hp⟩ := hrel
    have HQ := Lib.hid hp
    clear hp
    by_cases hlt : k < s.size
    · by_cases c1 : 48 ≤ s[k].toNat ∧ s[k].toNat ≤ 57
      · obtain ⟨d1, d2⟩ := c1
        have HP := Lib.hid (numeric_step hlt HQ.out d1 d2)
        have e2 : (48 : Int) ≤ (s[k].toNat : Int) := by omega
        have e3 : (s[k].toNat : Int) ≤ 57 := by omega
        go_wp2
        go_round
        case rel => exact ⟨k + 1, by omega, by go_num, HP.out⟩
        case measure => simp [intOf]; omega
      · have HF := Lib.hid (numeric_stop hlt c1)
        have e2 : (s[k].toNat : Int) < 48 ∨ 57 < (s[k].toNat : Int) := by omega
        clear c1
        go_wp2
        all_goals first | (exfalso; omega) | (go_ret; exact ⟨ret_bool (HF.out.symm.trans HR.out), rfl⟩)
    · obtain rfl : k = s.size := by omega
      have HE := Lib.hid (numeric_end HQ.out)
      by_cases h0 : s.size = 0
      · have h00 : decide (0 < s.size) = false := decide_eq_false (by omega)
        rw [h00] at HE
        have h01 : ¬ ((0 : Int) < (s.size : Int)) := by omega
        go_wp2
        go_ret
        exact ⟨by rw [← HR.out, HE.out]; simp <;> omega, rfl⟩
      · have h00 : decide (0 < s.size) = true := decide_eq_true (by omega)
        rw [h00] at HE
        have h01 : ((0 : Int) < (s.size : Int)) := by omega
        go_wp2
        go_ret
        exact ⟨by rw [← HR.out, HE.out]; simp <;> omega, rfl⟩

theorem fits_any (n : Int) (w : World) : Calls Tryd.prog 70 #[.int .i64 n] w fun e w' => e = .returned (.bool (fitsB n)) ∧ w = w' := by
  by_cases h : n < 0
  · have hf := fits_not (n := n) (Or.inl h)
    rw [hf]
    have h2 : decide (0 ≤ n) = false := by simp; omega
    go_enter Tryd.func70, Tryd.ntmps70
    go_wp2
    go_ret
    exact ⟨rfl, rfl⟩
  · have hf : fitsB n = decide (n ≤ 9999) := by unfold fitsB; simp; omega
    rw [hf]
    have h2 : 0 ≤ n := by omega
    go_enter Tryd.func70, Tryd.ntmps70
    go_wp2
    go_ret
    exact ⟨rfl, rfl⟩
theorem num_any (n : Int) (w : World) : Calls Tryd.prog 73 #[.int .i64 n] w fun e w' => e = .returned (.bool (fitsB n)) ∧ w = w' := by
  by_cases h : n < 0
  · have hf := fits_not (n := n) (Or.inl h)
    rw [hf]
    have h2 : decide (0 ≤ n) = false := by simp; omega
    go_enter Tryd.func73, Tryd.ntmps73
    go_wp2
    go_ret
    exact ⟨rfl, rfl⟩
  · have hf : fitsB n = decide (n ≤ 9999) := by unfold fitsB; simp; omega
    rw [hf]
    have h2 : 0 ≤ n := by omega
    go_enter Tryd.func73, Tryd.ntmps73
    go_wp2
    go_ret
    exact ⟨rfl, rfl⟩

theorem tagok_no {c : UInt8} (h : ¬ (97 ≤ c.toNat ∧ c.toNat ≤ 122) ∧ ¬ (48 ≤ c.toNat ∧ c.toNat ≤ 57) ∧ c.toNat ≠ 45) : tagOk c = false := by
  rw [Bool.eq_false_iff]; intro e; have := (tag_iff c).1 e; omega
theorem tag_step {s : ByteArray} {k : Nat} (h : k < s.size) (hp : (s.data.toList.take k).all tagOk = true) (h1 : (97 ≤ s[k].toNat ∧ s[k].toNat ≤ 122) ∨ (48 ≤ s[k].toNat ∧ s[k].toNat ≤ 57) ∨ s[k].toNat = 45) : (s.data.toList.take (k + 1)).all tagOk = true :=
  all_take_succ (byte_some s k h) hp ((tag_iff _).2 h1)
theorem tag_stop {s : ByteArray} {k : Nat} (h : k < s.size) (hc : ¬ ((97 ≤ s[k].toNat ∧ s[k].toNat ≤ 122) ∨ (48 ≤ s[k].toNat ∧ s[k].toNat ≤ 57) ∨ s[k].toNat = 45)) : tagB s.data.toList = false :=
  tagb_stop (all_stop (byte_some s k h) (tagok_no (by omega)))
theorem tag_end {s : ByteArray} (h : (s.data.toList.take s.size).all tagOk = true) (h1 : 1 ≤ s.size) (h2 : s.size ≤ 8) : tagB s.data.toList = true := by
  rw [List.take_of_length_le (by rw [len_size]; exact Nat.le_refl _)] at h
  exact tagb_yes (by rw [len_size]; exact h1) (by rw [len_size]; exact h2) h

set_option maxHeartbeats 1000000 in
theorem rtag_any (s : ByteArray) (w : World) (hs : s.size ≤ maxLen) :
    Calls Tryd.prog 98 #[.string s] w fun e w' => e = .returned (.bool (tagB s.data.toList)) ∧ w = w' := by
  unfold maxLen at hs
  have hl := len_size s
  by_cases h0 : s.size < 1
  · have HF := Lib.hid (tagb_no (t := s.data.toList) (by omega))
    generalize tagB s.data.toList = R at *
    clear hl
    go_enter Tryd.func98, Tryd.ntmps98
    go_wp2
    go_ret
    exact ⟨ret_bool HF.out.symm, rfl⟩
  · have h00 : ((s.size : Int) < 1) = False := by simp; omega
    by_cases h8 : 8 < s.size
    · have HF := Lib.hid (tagb_no (t := s.data.toList) (by omega))
      generalize tagB s.data.toList = R at *
      clear hl
      go_enter Tryd.func98, Tryd.ntmps98
      go_wp2
      go_ret
      exact ⟨ret_bool HF.out.symm, rfl⟩
    · have h80 : ((8 : Int) < (s.size : Int)) = False := by simp; omega
      generalize hR : tagB s.data.toList = R
      have HR := Lib.hid hR
      clear hR hl
      go_enter Tryd.func98, Tryd.ntmps98
      go_wp2
      go_loop [3, 4] (fun i _ => ∃ k : Nat, k ≤ s.size ∧ i = .int .i64 k ∧ (s.data.toList.take k).all tagOk = true) (fun i _ => s.size - (intOf i).toNat)
      case atStart => exact ⟨0, by omega, rfl, rfl⟩
      case round =>
        obtain ⟨k, hk, rfl, hp⟩ := hrel
        have HQ := Lib.hid hp
        clear hp
        by_cases hlt : k < s.size
        · by_cases c1 : (97 ≤ s[k].toNat ∧ s[k].toNat ≤ 122) ∨ (48 ≤ s[k].toNat ∧ s[k].toNat ≤ 57) ∨ s[k].toNat = 45
          · have HP := Lib.hid (tag_step hlt HQ.out c1)
            rcases c1 with ⟨d1, d2⟩ | ⟨d1, d2⟩ | d1
            · have e1 : (97 : Int) ≤ (s[k].toNat : Int) := by omega
              have e2 : (s[k].toNat : Int) ≤ 122 := by omega
              go_wp2
              go_round
              case rel => exact ⟨k + 1, by omega, by go_num, HP.out⟩
              case measure => simp [intOf]; omega
            · have e1 : (48 : Int) ≤ (s[k].toNat : Int) := by omega
              have e2 : (s[k].toNat : Int) ≤ 57 := by omega
              have e3 : (s[k].toNat : Int) < 97 := by omega
              go_wp2
              go_round
              case rel => exact ⟨k + 1, by omega, by go_num, HP.out⟩
              case measure => simp [intOf]; omega
            · have e1 : (s[k].toNat : Int) < 48 := by omega
              have e2 : ((s[k].toNat : Int) == 45) = true := by simp; omega
              have e4 : ((s[k].toNat : Int) != 45) = false := by simp; omega
              have e3 : (s[k].toNat : Int) < 97 := by omega
              go_wp2
              go_round
              case rel => exact ⟨k + 1, by omega, by go_num, HP.out⟩
              case measure => simp [intOf]; omega
          · have HF := Lib.hid (tag_stop hlt c1)
            have e1 : (s[k].toNat : Int) < 97 ∨ 122 < (s[k].toNat : Int) := by omega
            have e2 : (s[k].toNat : Int) < 48 ∨ 57 < (s[k].toNat : Int) := by omega
            have e3 : ((s[k].toNat : Int) == 45) = false := by simp; omega
            have e4 : ((s[k].toNat : Int) != 45) = true := by simp; omega
            clear c1
            go_wp2
            all_goals first | (exfalso; omega) | (go_ret; exact ⟨ret_bool (HF.out.symm.trans HR.out), rfl⟩)
        · obtain rfl : k = s.size := by omega
          have HE := Lib.hid (tag_end HQ.out (by omega) (by omega))
          go_wp2
          go_ret
          exact ⟨ret_bool (HE.out.symm.trans HR.out), rfl⟩
end Go.Proofs.YthaagngoefieaaaDoor
