/-
  The walk of chapter 1's Name, the program's: it tells whether the string is a name. Conditions: the string is no longer than a string can be.
-/
import Derived.Test.YtcagjlciakcnjaaDoorIdBase
namespace Go.Proofs.YtcagjlciakcnjaaDoor
open Go.ChangeShapes Go.WideShapes Go.ChangeAt Go.RowKit
set_option linter.unusedVariables false

set_option maxHeartbeats 2000000 in
theorem name_any (s : ByteArray) (w : World) (hs : s.size ≤ maxLen) :
    Calls Tryd.prog 10 #[.string s] w fun e w' => e = .returned (.bool (nameB s.data.toList)) ∧ Below w.heap.size w w' := by
  unfold maxLen at hs
  have hl := len_size s
  by_cases h0 : s.size = 0
  · have hN := Lib.hid (name_len (l := s.data.toList) (by omega))
    generalize nameB s.data.toList = R at *
    obtain rfl := empty_is h0
    clear h0 hl hs
    go_enter Tryd.func10, Tryd.ntmps10
    go_wp2
    go_ret
    exact ⟨ret_bool hN.out.symm, Below.refl _ _⟩
  · obtain ⟨he1, he2⟩ := empty_no (s := s) (by omega)
    by_cases h16 : 16 < s.size
    · have hN := Lib.hid (name_len (l := s.data.toList) (by omega))
      generalize nameB s.data.toList = R at *
      clear hl
      go_enter Tryd.func10, Tryd.ntmps10
      go_wp2
      go_ret
      exact ⟨ret_bool hN.out.symm, Below.refl _ _⟩
    · have h16' : ((16 : Int) < (s.size : Int)) = False := by simp; omega
      have HL := Lib.hid hl
      generalize hR : nameB s.data.toList = R
      have HR := Lib.hid hR
      clear hl hR
      go_enter Tryd.func10, Tryd.ntmps10
      go_wp2
      go_loopw [3, 4] (fun _ _ wr => ∃ k : Nat, k ≤ s.size ∧ wr = w.iter s k ∧ NameP s.data.toList k) (fun _ _ wr => s.size - wr.iterPos w.heap.size)
      case atStart => exact ⟨0, by omega, rfl, rfl, fun h => absurd h (by omega), fun _ h => absurd h (by omega)⟩
      case round =>
        obtain ⟨k, hk, rfl, hp⟩ := hrel
        by_cases hlt : k < s.size
        · have hg := getD_nat s k hlt
          by_cases ha : s[k].toNat < 128
          · have hnx := fun ty => run_next_ascii (P := Tryd.prog) w s k ty hlt ha
            by_cases c1 : 97 ≤ s[k].toNat ∧ s[k].toNat ≤ 122
            · obtain ⟨d1, d2⟩ := c1
              have HP := Lib.hid (nameP_low hp (by rw [HL.out]; exact hlt) ((low_iff _).2 (by omega)))
              clear hp hg
              have e1 : (97 : Int) ≤ (s[k].toNat : Int) := by omega
              have e2 : (s[k].toNat : Int) ≤ 122 := by omega
              go_wp2
              go_roundw
              case rel => exact ⟨k + 1, by omega, rfl, HP.out⟩
              case measure => simp; omega
            · by_cases c2 : 48 ≤ s[k].toNat ∧ s[k].toNat ≤ 57
              · clear c1
                obtain ⟨d1, d2⟩ := c2
                have e1 : (s[k].toNat : Int) < 97 := by omega
                have e2 : (48 : Int) ≤ (s[k].toNat : Int) := by omega
                have e3 : (s[k].toNat : Int) ≤ 57 := by omega
                by_cases hk0 : k = 0
                · subst hk0
                  have HF := Lib.hid (name_first (l := s.data.toList) (by omega))
                  clear hp hg
                  go_wp2
                  go_ret
                  exact ⟨ret_bool (HF.out.symm.trans HR.out), iter_below _ _ _⟩
                · have HP := Lib.hid (nameP_dig hp (by omega) (by omega) (by omega))
                  clear hp hg
                  have hkb : ((k : Int) == 0) = false := by simp; omega
                  go_wp2
                  go_roundw
                  case rel => exact ⟨k + 1, by omega, rfl, HP.out⟩
                  case measure => simp; omega
              · by_cases c3 : s[k].toNat = 45
                · clear c1 c2
                  have e1 : (s[k].toNat : Int) < 48 := by omega
                  have e2 : ((s[k].toNat : Int) == 45) = true := by simp; omega
                  by_cases hk0 : k = 0
                  · subst hk0
                    have HF := Lib.hid (name_first (l := s.data.toList) (by omega))
                    clear hp hg c3
                    go_wp2
                    go_ret
                    exact ⟨ret_bool (HF.out.symm.trans HR.out), iter_below _ _ _⟩
                  · have hkb : ((k : Int) == 0) = false := by simp; omega
                    by_cases hk1 : k + 1 = s.size
                    · have HF := Lib.hid (name_last (l := s.data.toList) (k := k) (by rw [HL.out]; exact hk1) (by omega))
                      have hkc : ((k : Int) == (s.size : Int) - 1) = true := by simp; omega
                      clear hp hg c3 hk1
                      go_wp2
                      go_ret
                      exact ⟨ret_bool (HF.out.symm.trans HR.out), iter_below _ _ _⟩
                    · have hkc : ((k : Int) == (s.size : Int) - 1) = false := by simp; omega
                      have hg1 := getD_nat s (k - 1) (by omega)
                      by_cases hpr : s[k - 1].toNat = 45
                      · have HF := Lib.hid (name_prev (l := s.data.toList) (k := k) (by rw [HL.out]; exact hlt) (by omega) (by omega) (by omega))
                        have hpb : ((s[k - 1].toNat : Int) == 45) = true := by simp; omega
                        clear hp hg hg1 c3 hpr
                        go_wp2
                        go_ret
                        exact ⟨ret_bool (HF.out.symm.trans HR.out), iter_below _ _ _⟩
                      · have HP := Lib.hid (nameP_dash hp (by omega) (by rw [HL.out]; omega) (by omega) (by omega))
                        have hpb : ((s[k - 1].toNat : Int) == 45) = false := by simp; omega
                        clear hp hg hg1 c3 hpr
                        go_wp2
                        go_roundw
                        case rel => exact ⟨k + 1, by omega, rfl, HP.out⟩
                        case measure => simp; omega
                · have HF := Lib.hid (name_other (l := s.data.toList) (k := k) (by rw [HL.out]; exact hlt) (by omega) (by omega) (by omega))
                  have e1 : (s[k].toNat : Int) < 97 ∨ 122 < (s[k].toNat : Int) := by omega
                  have e2 : (s[k].toNat : Int) < 48 ∨ 57 < (s[k].toNat : Int) := by omega
                  have e3 : ((s[k].toNat : Int) == 45) = false := by simp; omega
                  clear hp hg c1 c2 c3
                  go_wp2
                  all_goals first | (exfalso; omega) | (go_ret; exact ⟨ret_bool (HF.out.symm.trans HR.out), iter_below _ _ _⟩)
          · have hnx := fun ty => run_next_any (P := Tryd.prog) w s k ty hlt
            have hd := (decode_high s k hlt (by omega)).1
            have HF := Lib.hid (name_other (l := s.data.toList) (k := k) (by rw [HL.out]; exact hlt) (by omega) (by omega) (by omega))
            clear hp hg ha
            generalize (Utf8.decode s k).1 = r at *
            generalize k + (Utf8.decode s k).2 = k2 at *
            have e1 : (128 : Int) ≤ (r : Int) := by omega
            have e3 : ((r : Int) == 45) = false := by simp; omega
            go_wp2
            go_ret
            exact ⟨ret_bool (HF.out.symm.trans HR.out), iter_below _ _ _⟩
        · obtain rfl : k = s.size := by omega
          have HE := Lib.hid (nameP_end (l := s.data.toList) (by rw [HL.out]; exact hp) (by rw [HL.out]; omega) (by rw [HL.out]; omega))
          have hnx := fun ty => run_next_end (P := Tryd.prog) w s s.size ty hlt
          clear hp
          go_wp2
          go_ret
          exact ⟨ret_bool (HE.out.symm.trans HR.out), iter_below _ _ _⟩
end Go.Proofs.YtcagjlciakcnjaaDoor
