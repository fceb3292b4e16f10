/-
  The walks of chapter 1's reference functions digit and Number. Conditions: the string is no longer than a string can be.
-/
import Derived.Test.YthaagngoefieaaaDoorIdNumFacts
namespace Go.Proofs.YthaagngoefieaaaDoor
open Go.ChangeShapes Go.WideShapes Go.ChangeAt Go.RowKit
set_option linter.unusedVariables false

theorem rdigit_yes (c : Int) (h1 : 48 ≤ c) (h2 : c ≤ 57) (w : World) : Calls Tryd.prog 96 #[.int .u8 c] w fun e w' => e = .returned (.bool true) ∧ w = w' := by
  go_enter Tryd.func96, Tryd.ntmps96
  go_wp2
  go_ret
  exact ⟨by simp, rfl⟩
theorem rdigit_no (c : Int) (h : c < 48 ∨ 57 < c) (w : World) : Calls Tryd.prog 96 #[.int .u8 c] w fun e w' => e = .returned (.bool false) ∧ w = w' := by
  rcases h with h | h
  · go_enter Tryd.func96, Tryd.ntmps96
    go_wp2
    go_ret
    exact ⟨rfl, rfl⟩
  · have h2 : decide (c ≤ 57) = false := by simp; omega
    have h3 : 48 ≤ c := by omega
    go_enter Tryd.func96, Tryd.ntmps96
    go_wp2
    go_ret
    exact ⟨rfl, rfl⟩

theorem num_big {l : List UInt8} (h : 4 < l.length) (hd : l.all digB = true) (h0 : (l.getD 0 0).toNat ≠ 48) : 9999 < valL l := by
  have := valL_ge l hd (fun e => h0 (by rw [e]; rfl)) (l.length - 1) (by omega)
  rw [show l.length - 1 + 1 = l.length from by omega, List.take_length] at this
  have h4 : 10 ^ 4 ≤ 10 ^ (l.length - 1) := Nat.pow_le_pow_right (by omega) (by omega)
  omega

set_option maxHeartbeats 2000000 in
theorem rnumber_any (s : ByteArray) (w : World) (hs : s.size ≤ maxLen) :
    Calls Tryd.prog 68 #[.string s] w fun e w' => e = .returned (.tuple #[.int .i64 ((numB s.data.toList).1 : Int), .bool (numB s.data.toList).2]) ∧ w = w' := by
  unfold maxLen at hs
  have hl := len_size s
  by_cases h0 : s.size < 1
  · have hN := Lib.hid (num_no (l := s.data.toList) (Or.inl (by omega)))
    generalize numB s.data.toList = R at *
    clear hl
    go_enter Tryd.func68, Tryd.ntmps68
    go_wp2
    go_ret2
    exact ⟨by rw [hN.out]; rfl, rfl⟩
  · have hp0 : 0 < s.size := by omega
    have hg := getD_nat s 0 hp0
    by_cases h16 : 9 < s.size
    · have hN := Lib.hid (num_no (l := s.data.toList) (Or.inr (Or.inl (by omega))))
      generalize numB s.data.toList = R at *
      clear hl hg
      go_enter Tryd.func68, Tryd.ntmps68
      go_wp2
      go_ret2
      exact ⟨by rw [hN.out]; rfl, rfl⟩
    · have h00 : ((s.size : Int) < 1) = False := by simp; omega
      have h16' : ((9 : Int) < (s.size : Int)) = False := by simp; omega
      by_cases hz : 1 < s.size ∧ (s[0]'hp0).toNat = 48
      · obtain ⟨hz1, hz2⟩ := hz
        have hN := Lib.hid (num_no (l := s.data.toList) (Or.inr (Or.inr (Or.inl ⟨by omega, by omega⟩))))
        have hzb : (((s[0]'hp0).toNat : Int) == 48) = true := by simp; omega
        generalize numB s.data.toList = R at *
        clear hl hg hz2
        go_enter Tryd.func68, Tryd.ntmps68
        go_wp2
        go_ret2
        exact ⟨by rw [hN.out]; rfl, rfl⟩
      · have hz3 : s.data.toList.length = 1 ∨ (s.data.toList.getD 0 0).toNat ≠ 48 := by omega
        have HZ := Lib.hid hz3
        have HL := Lib.hid hl
        generalize hR : numB s.data.toList = R
        have HR := Lib.hid hR
        clear hz3 hl hR hg
        by_cases hs1 : s.size = 1
        all_goals
          first
          | (have hs2 : decide ((1 : Int) < (s.size : Int)) = false := by simp; omega
             have HS := Lib.hid hs1
             clear hs1)
          | (have hs2 : (1 : Int) < (s.size : Int) := by omega
             have hzb : (((s[0]'hp0).toNat : Int) == 48) = false := by simp; omega)
          clear hz
          go_enter Tryd.func68, Tryd.ntmps68
          go_wp2
          go_loop [4, 5] (fun n i => ∃ k : Nat, k ≤ s.size ∧ i = .int .i64 k ∧ n = .int .i64 (valL (s.data.toList.take k) : Int) ∧ (s.data.toList.take k).all digB = true) (fun _ i => s.size - (intOf i).toNat)
          case atStart => exact ⟨0, by omega, rfl, rfl, rfl⟩
          case round =>
            obtain ⟨k, hk, rfl, rfl, hp⟩ := hrel
            have HQ := Lib.hid hp
            have hbd := val_bd (l := s.data.toList) (by rw [HL.out]; exact hk) hp
            have hpow : 10 ^ k ≤ 10 ^ 9 := Nat.pow_le_pow_right (by omega) (by omega)
            have hv4 : valL (s.data.toList.take k) < 1000000000 := by omega
            clear hp hbd hpow
            by_cases hlt : k < s.size
            · by_cases c1 : 48 ≤ s[k].toNat ∧ s[k].toNat ≤ 57
              · obtain ⟨d1, d2⟩ := c1
                have hst := num_step hlt HQ.out d1 d2
                have HP := Lib.hid hst
                clear hst
                generalize valL (s.data.toList.take k) = v at *
                have e2 : (48 : Int) ≤ (s[k].toNat : Int) := by omega
                have e3 : (s[k].toNat : Int) ≤ 57 := by omega
                go_wp2_with (go_at_call 96; refine (rdigit_yes _ e2 e3 _).mono ?_; rintro e w' ⟨rfl, rfl⟩)
                go_round
                case rel => exact ⟨k + 1, by omega, by go_num, by rw [← HP.out.2]; go_num, HP.out.1⟩
                case measure => simp [intOf]; omega
              · have HF := Lib.hid (num_stop hlt c1)
                generalize valL (s.data.toList.take k) = v at *
                have e2 : (s[k].toNat : Int) < 48 ∨ 57 < (s[k].toNat : Int) := by omega
                clear c1
                go_wp2_with (go_at_call 96; refine (rdigit_no _ e2 _).mono ?_; rintro e w' ⟨rfl, rfl⟩)
                go_ret2
                exact ⟨by rw [← HR.out, HF.out]; rfl, rfl⟩
            · obtain rfl : k = s.size := by omega
              have ht : s.data.toList.take s.size = s.data.toList := List.take_of_length_le (by rw [HL.out]; omega)
              have hq := HQ.out
              by_cases h4 : 4 < s.size
              · have HE := Lib.hid (num_no (l := s.data.toList) (Or.inr (Or.inl (by rw [HL.out]; exact h4))))
                have hbig : 9999 < valL (s.data.toList.take s.size) := by
                  rw [ht] at hq ⊢
                  exact num_big (by rw [HL.out]; exact h4) hq (by have := HZ.out; rw [HL.out] at this; omega)
                clear ht hq
                generalize valL (s.data.toList.take s.size) = v at *
                have hv5 : (9999 : Int) < (v : Int) := by omega
                go_wp2
                go_ret2
                exact ⟨by rw [← HR.out, HE.out]; rfl, rfl⟩
              · have HE : Hid (numB s.data.toList = (valL (s.data.toList.take s.size), true)) := by
                  rw [ht] at hq ⊢
                  exact num_yes (by rw [HL.out]; omega) (by rw [HL.out]; omega) HZ.out hq
                have hbd := val_bd (l := s.data.toList) (k := s.size) (by rw [HL.out]; exact Nat.le_refl _) hq
                have hpow : 10 ^ s.size ≤ 10 ^ 4 := Nat.pow_le_pow_right (by omega) (by omega)
                clear ht hq
                generalize valL (s.data.toList.take s.size) = v at *
                have hv5 : (v : Int) ≤ 9999 := by omega
                clear hbd hpow
                go_wp2
                go_ret2
                exact ⟨by rw [← HR.out, HE.out]; rfl, rfl⟩
end Go.Proofs.YthaagngoefieaaaDoor
