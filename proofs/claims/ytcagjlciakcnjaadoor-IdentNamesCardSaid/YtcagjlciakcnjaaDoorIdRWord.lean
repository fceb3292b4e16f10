/-
  The walk of chapter 1's reference function Word. Conditions: the string is no longer than a string can be.
-/
import Derived.Test.YtcagjlciakcnjaaDoorIdRNumber
import Derived.Test.YtcagjlciakcnjaaDoorIdWord
namespace Go.Proofs.YtcagjlciakcnjaaDoor
open Go.ChangeShapes Go.WideShapes Go.ChangeAt Go.RowKit
set_option linter.unusedVariables false

set_option maxHeartbeats 4000000 in
theorem rword_any (s : ByteArray) (w : World) (hs : s.size ≤ maxLen) :
    Calls Tryd.prog 13 #[.string s] w fun e w' => e = .returned (.bool (wordB s.data.toList)) ∧ w = w' := by
  unfold maxLen at hs
  have hl := len_size s
  by_cases h0 : s.size < 1
  · have hN := Lib.hid (word_len (l := s.data.toList) (by omega))
    generalize wordB s.data.toList = R at *
    clear hl
    go_enter Tryd.func13, Tryd.ntmps13
    go_wp2
    go_ret
    exact ⟨ret_bool hN.out.symm, rfl⟩
  · by_cases h16 : 12 < s.size
    · have hN := Lib.hid (word_len (l := s.data.toList) (by omega))
      generalize wordB s.data.toList = R at *
      clear hl
      go_enter Tryd.func13, Tryd.ntmps13
      go_wp2
      go_ret
      exact ⟨ret_bool hN.out.symm, rfl⟩
    · have h00 : ((s.size : Int) < 1) = False := by simp; omega
      have h16' : ((12 : Int) < (s.size : Int)) = False := by simp; omega
      have HL := Lib.hid hl
      generalize hR : wordB s.data.toList = R at *
      have HR := Lib.hid hR
      clear hl hR
      go_enter Tryd.func13, Tryd.ntmps13
      go_wp2
      go_loop [3] (fun i => ∃ k : Nat, k ≤ s.size ∧ i = .int .i64 k ∧ (s.data.toList.take k).all wordOk = true) (fun i => s.size - (intOf i).toNat)
      case atStart => exact ⟨0, by omega, rfl, rfl⟩
      case round =>
        obtain ⟨k, hk, rfl, hp⟩ := hrel
        have HQ := Lib.hid hp
        clear hp
        by_cases hlt : k < s.size
        · by_cases c1 : 97 ≤ s[k].toNat ∧ s[k].toNat ≤ 122
          · have HP := Lib.hid (all_take_succ (byte_some s k hlt) HQ.out (word_ok (by omega)))
            have e1 : (97 : Int) ≤ (s[k].toNat : Int) := by omega
            have e2 : (s[k].toNat : Int) ≤ 122 := by omega
            clear c1
            go_wp2_with (go_at_call 23; refine (rlow_yes _ e1 e2 _).mono ?_; rintro e w' ⟨rfl, rfl⟩)
            go_round
            case rel => exact ⟨k + 1, by omega, by go_num, HP.out⟩
            case measure => simp [intOf]; omega
          · have n1 : (s[k].toNat : Int) < 97 ∨ 122 < (s[k].toNat : Int) := by omega
            by_cases c2 : 48 ≤ s[k].toNat ∧ s[k].toNat ≤ 57
            · have HP := Lib.hid (all_take_succ (byte_some s k hlt) HQ.out (word_ok (by omega)))
              have e1 : (48 : Int) ≤ (s[k].toNat : Int) := by omega
              have e2 : (s[k].toNat : Int) ≤ 57 := by omega
              clear c1 c2
              go_wp2_with (first | (go_at_call 23; refine (rlow_no _ n1 _).mono ?_; rintro e w' ⟨rfl, rfl⟩) | (go_at_call 24; refine (rdigit_yes _ e1 e2 _).mono ?_; rintro e w' ⟨rfl, rfl⟩))
              go_round
              case rel => exact ⟨k + 1, by omega, by go_num, HP.out⟩
              case measure => simp [intOf]; omega
            · have n2 : (s[k].toNat : Int) < 48 ∨ 57 < (s[k].toNat : Int) := by omega
              by_cases c3 : s[k].toNat = 95
              · have HP := Lib.hid (all_take_succ (byte_some s k hlt) HQ.out (word_ok (by omega)))
                have e3 : ((s[k].toNat : Int) == 95) = true := by simp; omega
                have e4 : ((s[k].toNat : Int) != 95) = false := by simp; omega
                clear c1 c2 c3
                go_wp2_with (first | (go_at_call 23; refine (rlow_no _ n1 _).mono ?_; rintro e w' ⟨rfl, rfl⟩) | (go_at_call 24; refine (rdigit_no _ n2 _).mono ?_; rintro e w' ⟨rfl, rfl⟩))
                go_round
                case rel => exact ⟨k + 1, by omega, by go_num, HP.out⟩
                case measure => simp [intOf]; omega
              · have HF := Lib.hid (word_stop hlt (word_no c1 c2 c3))
                have e3 : ((s[k].toNat : Int) == 95) = false := by simp; omega
                have e4 : ((s[k].toNat : Int) != 95) = true := by simp; omega
                clear c1 c2 c3
                go_wp2_with (first | (go_at_call 23; refine (rlow_no _ n1 _).mono ?_; rintro e w' ⟨rfl, rfl⟩) | (go_at_call 24; refine (rdigit_no _ n2 _).mono ?_; rintro e w' ⟨rfl, rfl⟩))
                go_ret
                exact ⟨ret_bool (HF.out.symm.trans HR.out), rfl⟩
        · obtain rfl : k = s.size := by omega
          have HE := Lib.hid (word_end (l := s.data.toList) (by rw [HL.out]; exact HQ.out) (by rw [HL.out]; omega) (by rw [HL.out]; omega))
          go_wp2
          go_ret
          exact ⟨ret_bool (HE.out.symm.trans HR.out), rfl⟩
end Go.Proofs.YtcagjlciakcnjaaDoor
