/-
  The walks of chapter 1's reference functions Name and Word. Conditions: the string is no longer than a string can be.
-/
import Derived.Test.YtcagjlciakcnjaaDoorIdRNumber
namespace Go.Proofs.YtcagjlciakcnjaaDoor
open Go.ChangeShapes Go.WideShapes Go.ChangeAt Go.RowKit
set_option linter.unusedVariables false

theorem rname_end {l : List UInt8} (h : nameTo l l.length = true) (h1 : 1 ≤ l.length) (h2 : l.length ≤ 16) (h3 : 97 ≤ (l.getD 0 0).toNat ∧ (l.getD 0 0).toNat ≤ 122) (h4 : (l.getD (l.length - 1) 0).toNat ≠ 45) : nameB l = true := by
  unfold nameB
  rw [h, (low_iff _).2 h3, beq_eq_false_iff_ne.2 (fun e => h4 ((dash_iff _).1 e))]
  simp [h1, h2]
theorem rname_step {l : List UInt8} {k : Nat} (h : nameTo l k = true) (hc : (97 ≤ (l.getD k 0).toNat ∧ (l.getD k 0).toNat ≤ 122) ∨ (48 ≤ (l.getD k 0).toNat ∧ (l.getD k 0).toNat ≤ 57) ∨ ((l.getD k 0).toNat = 45 ∧ (l.getD (k - 1) 0).toNat ≠ 45)) : nameTo l (k + 1) = true := by
  refine nameTo_step h (Or.inr ?_)
  unfold nameOk
  rcases hc with hc | hc | ⟨h1, h2⟩
  · rw [(low_iff _).2 hc, beq_eq_false_iff_ne.2 (fun e => by have := (dash_iff _).1 e; omega)]
    rfl
  · rw [(dig_iff _).2 hc, beq_eq_false_iff_ne.2 (fun e => by have := (dash_iff _).1 e; omega)]
    simp
  · rw [beq_eq_false_iff_ne.2 (fun e => h2 ((dash_iff _).1 e)), (dash_iff _).2 h1]
    rfl

set_option maxHeartbeats 4000000 in
theorem rname_any (s : ByteArray) (w : World) (hs : s.size ≤ maxLen) :
    Calls Tryd.prog 11 #[.string s] w fun e w' => e = .returned (.bool (nameB s.data.toList)) ∧ w = w' := by
  unfold maxLen at hs
  have hl := len_size s
  by_cases h0 : s.size < 1
  · have hN := Lib.hid (name_len (l := s.data.toList) (by omega))
    generalize nameB s.data.toList = R at *
    clear hl
    go_enter Tryd.func11, Tryd.ntmps11
    go_wp2
    go_ret
    exact ⟨ret_bool hN.out.symm, rfl⟩
  · have hp0 : 0 < s.size := by omega
    have hg := getD_nat s 0 hp0
    by_cases h16 : 16 < s.size
    · have hN := Lib.hid (name_len (l := s.data.toList) (by omega))
      generalize nameB s.data.toList = R at *
      clear hl hg
      go_enter Tryd.func11, Tryd.ntmps11
      go_wp2
      go_ret
      exact ⟨ret_bool hN.out.symm, rfl⟩
    · have h00 : ((s.size : Int) < 1) = False := by simp; omega
      have h16' : ((16 : Int) < (s.size : Int)) = False := by simp; omega
      by_cases hf : 97 ≤ (s[0]'hp0).toNat ∧ (s[0]'hp0).toNat ≤ 122
      · obtain ⟨hf1, hf2⟩ := hf
        have f1 : (97 : Int) ≤ ((s[0]'hp0).toNat : Int) := by omega
        have f2 : ((s[0]'hp0).toNat : Int) ≤ 122 := by omega
        have hpl : s.size - 1 < s.size := by omega
        have hgl := getD_nat s (s.size - 1) hpl
        by_cases hla : (s[s.size - 1]'hpl).toNat = 45
        · have hN := Lib.hid (name_last (l := s.data.toList) (k := s.size - 1) (by omega) (by omega))
          have lb : (((s[s.size - 1]'hpl).toNat : Int) == 45) = true := by simp; omega
          generalize nameB s.data.toList = R at *
          clear hl hg hgl hla
          go_enter Tryd.func11, Tryd.ntmps11
          go_wp2_with (go_at_call 23; refine (rlow_yes _ f1 f2 _).mono ?_; rintro e w' ⟨rfl, rfl⟩)
          go_ret
          exact ⟨ret_bool hN.out.symm, rfl⟩
        · have lb : (((s[s.size - 1]'hpl).toNat : Int) == 45) = false := by simp; omega
          have HX : Hid (nameTo s.data.toList s.size = true → nameB s.data.toList = true) := fun h => rname_end (by rw [hl]; exact h) (by omega) (by omega) (by omega) (by rw [hl]; omega)
          have HL := Lib.hid hl
          generalize hR : nameB s.data.toList = R at *
          have HR := Lib.hid hR
          clear hl hg hgl hla hR
          go_enter Tryd.func11, Tryd.ntmps11
          go_wp2_with (go_at_call 23; refine (rlow_yes _ f1 f2 _).mono ?_; rintro e w' ⟨rfl, rfl⟩)
          go_loop [3] (fun i => ∃ k : Nat, 1 ≤ k ∧ k ≤ s.size ∧ i = .int .i64 k ∧ nameTo s.data.toList k = true) (fun i => s.size - (intOf i).toNat)
          case atStart => exact ⟨1, by omega, by omega, rfl, rfl⟩
          case round =>
            obtain ⟨k, hk1, hk, rfl, hp⟩ := hrel
            have HQ := Lib.hid hp
            clear hp lb
            by_cases hlt : k < s.size
            · have hgk := getD_nat s k hlt
              by_cases c1 : 97 ≤ s[k].toNat ∧ s[k].toNat ≤ 122
              · have HP := Lib.hid (rname_step (k := k) HQ.out (by omega))
                have e1 : (97 : Int) ≤ (s[k].toNat : Int) := by omega
                have e2 : (s[k].toNat : Int) ≤ 122 := by omega
                have e3 : ((s[k].toNat : Int) == 45) = false := by simp; omega
                have e4 : ((s[k].toNat : Int) != 45) = true := by simp; omega
                clear c1 hgk
                go_wp2_with (go_at_call 23; refine (rlow_yes _ e1 e2 _).mono ?_; rintro e w' ⟨rfl, rfl⟩)
                go_round
                case rel => exact ⟨k + 1, by omega, by omega, by go_num, HP.out⟩
                case measure => simp [intOf]; omega
              · have n1 : (s[k].toNat : Int) < 97 ∨ 122 < (s[k].toNat : Int) := by omega
                by_cases c2 : 48 ≤ s[k].toNat ∧ s[k].toNat ≤ 57
                · have HP := Lib.hid (rname_step (k := k) HQ.out (by omega))
                  have e1 : (48 : Int) ≤ (s[k].toNat : Int) := by omega
                  have e2 : (s[k].toNat : Int) ≤ 57 := by omega
                  have e3 : ((s[k].toNat : Int) == 45) = false := by simp; omega
                  have e4 : ((s[k].toNat : Int) != 45) = true := by simp; omega
                  clear c1 c2 hgk
                  go_wp2_with (first | (go_at_call 23; refine (rlow_no _ n1 _).mono ?_; rintro e w' ⟨rfl, rfl⟩) | (go_at_call 24; refine (rdigit_yes _ e1 e2 _).mono ?_; rintro e w' ⟨rfl, rfl⟩))
                  go_round
                  case rel => exact ⟨k + 1, by omega, by omega, by go_num, HP.out⟩
                  case measure => simp [intOf]; omega
                · have n2 : (s[k].toNat : Int) < 48 ∨ 57 < (s[k].toNat : Int) := by omega
                  by_cases c3 : s[k].toNat = 45
                  · have hpk : k - 1 < s.size := by omega
                    have hgp := getD_nat s (k - 1) hpk
                    have e3 : ((s[k].toNat : Int) == 45) = true := by simp; omega
                    have e4 : ((s[k].toNat : Int) != 45) = false := by simp; omega
                    by_cases c4 : (s[k - 1]'hpk).toNat = 45
                    · have HF := Lib.hid (name_prev (l := s.data.toList) (k := k) (by rw [HL.out]; exact hlt) (by omega) (by omega) (by omega))
                      have e5 : (((s[k - 1]'hpk).toNat : Int) == 45) = true := by simp; omega
                      clear c1 c2 c3 c4 hgk hgp
                      go_wp2_with (first | (go_at_call 23; refine (rlow_no _ n1 _).mono ?_; rintro e w' ⟨rfl, rfl⟩) | (go_at_call 24; refine (rdigit_no _ n2 _).mono ?_; rintro e w' ⟨rfl, rfl⟩))
                      go_ret
                      exact ⟨ret_bool (HF.out.symm.trans HR.out), rfl⟩
                    · have HP := Lib.hid (rname_step (k := k) HQ.out (by omega))
                      have e5 : (((s[k - 1]'hpk).toNat : Int) == 45) = false := by simp; omega
                      clear c1 c2 c3 c4 hgk hgp
                      go_wp2_with (first | (go_at_call 23; refine (rlow_no _ n1 _).mono ?_; rintro e w' ⟨rfl, rfl⟩) | (go_at_call 24; refine (rdigit_no _ n2 _).mono ?_; rintro e w' ⟨rfl, rfl⟩))
                      go_round
                      case rel => exact ⟨k + 1, by omega, by omega, by go_num, HP.out⟩
                      case measure => simp [intOf]; omega
                  · have HF := Lib.hid (name_other (l := s.data.toList) (k := k) (by rw [HL.out]; exact hlt) (by omega) (by omega) (by omega))
                    have e3 : ((s[k].toNat : Int) == 45) = false := by simp; omega
                    have e4 : ((s[k].toNat : Int) != 45) = true := by simp; omega
                    clear c1 c2 c3 hgk
                    go_wp2_with (first | (go_at_call 23; refine (rlow_no _ n1 _).mono ?_; rintro e w' ⟨rfl, rfl⟩) | (go_at_call 24; refine (rdigit_no _ n2 _).mono ?_; rintro e w' ⟨rfl, rfl⟩))
                    go_ret
                    exact ⟨ret_bool (HF.out.symm.trans HR.out), rfl⟩
            · obtain rfl : k = s.size := by omega
              have HE := Lib.hid (HX.out HQ.out)
              go_wp2
              go_ret
              exact ⟨ret_bool HE.out.symm, rfl⟩
      · have hN := Lib.hid (name_first (l := s.data.toList) (by omega))
        have n1 : ((s[0]'hp0).toNat : Int) < 97 ∨ 122 < ((s[0]'hp0).toNat : Int) := by omega
        generalize nameB s.data.toList = R at *
        clear hl hg hf
        go_enter Tryd.func11, Tryd.ntmps11
        go_wp2_with (go_at_call 23; refine (rlow_no _ n1 _).mono ?_; rintro e w' ⟨rfl, rfl⟩)
        go_ret
        exact ⟨ret_bool hN.out.symm, rfl⟩
end Go.Proofs.YtcagjlciakcnjaaDoor
