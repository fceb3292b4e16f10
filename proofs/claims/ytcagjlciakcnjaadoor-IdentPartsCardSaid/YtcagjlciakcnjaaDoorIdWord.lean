/-
  The walk of chapter 1's Word, the program's: it tells whether the string is a word. Conditions: the string is no longer than a string can be.
-/
import Derived.Test.YtcagjlciakcnjaaDoorIdBase
namespace Go.Proofs.YtcagjlciakcnjaaDoor
open Go.ChangeShapes Go.WideShapes Go.ChangeAt Go.RowKit
set_option linter.unusedVariables false

theorem word_end {l : List UInt8} (h : (l.take l.length).all wordOk = true) (h1 : 1 ≤ l.length) (h2 : l.length ≤ 12) : wordB l = true := by
  rw [List.take_length] at h
  unfold wordB
  rw [h]
  simp [h1, h2]
theorem word_len {l : List UInt8} (h : l.length = 0 ∨ 12 < l.length) : wordB l = false := by
  unfold wordB
  rcases h with h | h
  · simp [h]
  · have : decide (l.length ≤ 12) = false := by simp; omega
    rw [this]; simp
theorem word_ok {c : UInt8} (h : (97 ≤ c.toNat ∧ c.toNat ≤ 122) ∨ (48 ≤ c.toNat ∧ c.toNat ≤ 57) ∨ c.toNat = 95) : wordOk c = true := by
  unfold wordOk
  rcases h with h | h | h
  · rw [(low_iff c).2 h]; rfl
  · rw [(dig_iff c).2 h, Bool.or_true]; rfl
  · have : c = 95 := UInt8.toNat_inj.1 h
    subst this; rfl
theorem word_no {c : UInt8} (h1 : ¬ (97 ≤ c.toNat ∧ c.toNat ≤ 122)) (h2 : ¬ (48 ≤ c.toNat ∧ c.toNat ≤ 57)) (h3 : c.toNat ≠ 95) : wordOk c = false := by
  unfold wordOk
  rw [low_not h1, dig_not h2, beq_eq_false_iff_ne.2 (fun e => h3 (by rw [e]; rfl))]
  rfl
theorem word_stop {s : ByteArray} {k : Nat} (h : k < s.size) (hc : wordOk s[k] = false) : wordB s.data.toList = false := by
  unfold wordB
  rw [all_stop (byte_some s k h) hc, Bool.and_false]

set_option maxHeartbeats 2000000 in
theorem word_any (s : ByteArray) (w : World) (hs : s.size ≤ maxLen) :
    Calls Tryd.prog 12 #[.string s] w fun e w' => e = .returned (.bool (wordB s.data.toList)) ∧ Below w.heap.size w w' := by
  unfold maxLen at hs
  have hl := len_size s
  by_cases h0 : s.size = 0
  · have hN := Lib.hid (word_len (l := s.data.toList) (by omega))
    generalize wordB s.data.toList = R at *
    obtain rfl := empty_is h0
    clear h0 hl hs
    go_enter Tryd.func12, Tryd.ntmps12
    go_wp2
    go_ret
    exact ⟨ret_bool hN.out.symm, Below.refl _ _⟩
  · obtain ⟨he1, he2⟩ := empty_no (s := s) (by omega)
    by_cases h16 : 12 < s.size
    · have hN := Lib.hid (word_len (l := s.data.toList) (by omega))
      generalize wordB s.data.toList = R at *
      clear hl
      go_enter Tryd.func12, Tryd.ntmps12
      go_wp2
      go_ret
      exact ⟨ret_bool hN.out.symm, Below.refl _ _⟩
    · have h16' : ((12 : Int) < (s.size : Int)) = False := by simp; omega
      have HL := Lib.hid hl
      generalize hR : wordB s.data.toList = R
      have HR := Lib.hid hR
      clear hl hR
      go_enter Tryd.func12, Tryd.ntmps12
      go_wp2
      go_loopw [4, 17] (fun _ _ wr => ∃ k : Nat, k ≤ s.size ∧ wr = w.iter s k ∧ (s.data.toList.take k).all wordOk = true) (fun _ _ wr => s.size - wr.iterPos w.heap.size)
      case atStart => exact ⟨0, by omega, rfl, rfl⟩
      case round =>
        obtain ⟨k, hk, rfl, hp⟩ := hrel
        have HQ := Lib.hid hp
        clear hp
        by_cases hlt : k < s.size
        · by_cases ha : s[k].toNat < 128
          · have hnx := fun ty => run_next_ascii (P := Tryd.prog) w s k ty hlt ha
            by_cases c1 : 97 ≤ s[k].toNat ∧ s[k].toNat ≤ 122
            · obtain ⟨d1, d2⟩ := c1
              have HP := Lib.hid (all_take_succ (byte_some s k hlt) HQ.out (word_ok (by omega)))
              have e1 : (97 : Int) ≤ (s[k].toNat : Int) := by omega
              have e2 : (s[k].toNat : Int) ≤ 122 := by omega
              go_wp2
              go_roundw
              case rel => exact ⟨k + 1, by omega, rfl, HP.out⟩
              case measure => simp; omega
            · by_cases c2 : 48 ≤ s[k].toNat ∧ s[k].toNat ≤ 57
              · clear c1
                obtain ⟨d1, d2⟩ := c2
                have HP := Lib.hid (all_take_succ (byte_some s k hlt) HQ.out (word_ok (by omega)))
                have e1 : (s[k].toNat : Int) < 97 := by omega
                have e2 : (48 : Int) ≤ (s[k].toNat : Int) := by omega
                have e3 : (s[k].toNat : Int) ≤ 57 := by omega
                go_wp2
                go_roundw
                case rel => exact ⟨k + 1, by omega, rfl, HP.out⟩
                case measure => simp; omega
              · by_cases c3 : s[k].toNat = 95
                · have HP := Lib.hid (all_take_succ (byte_some s k hlt) HQ.out (word_ok (by omega)))
                  have e1 : (s[k].toNat : Int) < 97 := by omega
                  have e2 : (57 : Int) < (s[k].toNat : Int) := by omega
                  have e3 : ((s[k].toNat : Int) == 95) = true := by simp; omega
                  clear c1 c2 c3
                  go_wp2
                  go_roundw
                  case rel => exact ⟨k + 1, by omega, rfl, HP.out⟩
                  case measure => simp; omega
                · have HF := Lib.hid (word_stop hlt (word_no c1 c2 c3))
                  have e1 : (s[k].toNat : Int) < 97 ∨ 122 < (s[k].toNat : Int) := by omega
                  have e2 : (s[k].toNat : Int) < 48 ∨ 57 < (s[k].toNat : Int) := by omega
                  have e3 : ((s[k].toNat : Int) == 95) = false := by simp; omega
                  clear c1 c2 c3
                  go_wp2
                  all_goals first | (exfalso; omega) | (go_ret; exact ⟨ret_bool (HF.out.symm.trans HR.out), iter_below _ _ _⟩)
          · have hnx := fun ty => run_next_any (P := Tryd.prog) w s k ty hlt
            have hd := (decode_high s k hlt (by omega)).1
            have HF := Lib.hid (word_stop hlt (word_no (by omega) (by omega) (by omega)))
            clear ha
            generalize (Utf8.decode s k).1 = r at *
            generalize k + (Utf8.decode s k).2 = k2 at *
            have e1 : (128 : Int) ≤ (r : Int) := by omega
            have e3 : ((r : Int) == 95) = false := by simp; omega
            go_wp2
            go_ret
            exact ⟨ret_bool (HF.out.symm.trans HR.out), iter_below _ _ _⟩
        · obtain rfl : k = s.size := by omega
          have HE := Lib.hid (word_end (l := s.data.toList) (by rw [HL.out]; exact HQ.out) (by rw [HL.out]; omega) (by rw [HL.out]; omega))
          have hnx := fun ty => run_next_end (P := Tryd.prog) w s s.size ty hlt
          go_wp2
          go_ret
          exact ⟨ret_bool (HE.out.symm.trans HR.out), iter_below _ _ _⟩
end Go.Proofs.YtcagjlciakcnjaaDoor
