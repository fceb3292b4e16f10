/-
  The walk of chapter 1's Number, the program's: it returns the number that the string denotes. Conditions: the string is no longer than a string can be.
-/
import Derived.Test.YthaagngoefieaaaDoorIdNumFacts
namespace Go.Proofs.YthaagngoefieaaaDoor
open Go.ChangeShapes Go.WideShapes Go.ChangeAt Go.RowKit
set_option linter.unusedVariables false

set_option maxHeartbeats 2000000 in
theorem number_any (s : ByteArray) (w : World) (hs : s.size ≤ maxLen) :
    Calls Tryd.prog 66 #[.string s] w fun e w' => e = .returned (.tuple #[.int .i64 ((numB s.data.toList).1 : Int), .bool (numB s.data.toList).2]) ∧ Below w.heap.size w w' := by
  unfold maxLen at hs
  have hl := len_size s
  by_cases h0 : s.size = 0
  · have hN := Lib.hid (num_no (l := s.data.toList) (Or.inl (by omega)))
    generalize numB s.data.toList = R at *
    obtain rfl := empty_is h0
    clear h0 hl hs
    go_enter Tryd.func66, Tryd.ntmps66
    go_wp2
    go_ret2
    exact ⟨by rw [hN.out]; rfl, Below.refl _ _⟩
  · obtain ⟨he1, he2⟩ := empty_no (s := s) (by omega)
    have hp0 : 0 < s.size := by omega
    have hg := getD_nat s 0 hp0
    by_cases h16 : 4 < s.size
    · have hN := Lib.hid (num_no (l := s.data.toList) (Or.inr (Or.inl (by omega))))
      generalize numB s.data.toList = R at *
      clear hl hg
      go_enter Tryd.func66, Tryd.ntmps66
      go_wp2
      go_ret2
      exact ⟨by rw [hN.out]; rfl, Below.refl _ _⟩
    · have h16' : ((4 : Int) < (s.size : Int)) = False := by simp; omega
      by_cases hz : 1 < s.size ∧ (s[0]'hp0).toNat = 48
      · obtain ⟨hz1, hz2⟩ := hz
        have hN := Lib.hid (num_no (l := s.data.toList) (Or.inr (Or.inr (Or.inl ⟨by omega, by omega⟩))))
        have hzb : (((s[0]'hp0).toNat : Int) == 48) = true := by simp; omega
        generalize numB s.data.toList = R at *
        clear hl hg hz2
        go_enter Tryd.func66, Tryd.ntmps66
        go_wp2
        go_ret2
        exact ⟨by rw [hN.out]; rfl, Below.refl _ _⟩
      · have hz3 : s.data.toList.length = 1 ∨ (s.data.toList.getD 0 0).toNat ≠ 48 := by omega
        have HZ := Lib.hid hz3
        have HL := Lib.hid hl
        generalize hR : numB s.data.toList = R
        have HR := Lib.hid hR
        clear hz3 hl hR hg
        by_cases hz2 : (s[0]'hp0).toNat = 48
        all_goals
          first
          | (have hzb : (((s[0]'hp0).toNat : Int) == 48) = true := by simp; omega
             have hs1 : s.size = 1 := by omega
             have hs2 : decide ((1 : Int) < (s.size : Int)) = false := by simp; omega
             have HS := Lib.hid hs1
             clear hs1)
          | have hzb : (((s[0]'hp0).toNat : Int) == 48) = false := by simp; omega
          clear hz2 hz
          go_enter Tryd.func66, Tryd.ntmps66
          go_wp2
          go_loopw [4, 6] (fun n _ wr => ∃ k : Nat, k ≤ s.size ∧ wr = w.iter s k ∧ n = .int .i64 (valL (s.data.toList.take k) : Int) ∧ (s.data.toList.take k).all digB = true) (fun _ _ wr => s.size - wr.iterPos w.heap.size)
          case atStart => exact ⟨0, by omega, rfl, rfl, rfl⟩
          case round =>
            obtain ⟨k, hk, rfl, rfl, hp⟩ := hrel
            have HQ := Lib.hid hp
            have hbd := val_bd (l := s.data.toList) (by rw [HL.out]; exact hk) hp
            have hpow : 10 ^ k ≤ 10 ^ 4 := Nat.pow_le_pow_right (by omega) (by omega)
            have hv4 : valL (s.data.toList.take k) < 10000 := by omega
            clear hp hbd hpow
            by_cases hlt : k < s.size
            · by_cases c1 : 48 ≤ s[k].toNat ∧ s[k].toNat ≤ 57
              · obtain ⟨d1, d2⟩ := c1
                have hnx := fun ty => run_next_ascii (P := Tryd.prog) w s k ty hlt (by omega)
                have hst := num_step hlt HQ.out d1 d2
                have HP := Lib.hid hst
                clear hst
                generalize valL (s.data.toList.take k) = v at *
                have e2 : (48 : Int) ≤ (s[k].toNat : Int) := by omega
                have e3 : (s[k].toNat : Int) ≤ 57 := by omega
                go_wp2
                go_roundw
                case rel => exact ⟨k + 1, by omega, rfl, by rw [← HP.out.2], HP.out.1⟩
                case measure => simp; omega
              · have HF := Lib.hid (num_stop hlt c1)
                generalize valL (s.data.toList.take k) = v at *
                by_cases ha : s[k].toNat < 128
                · have hnx := fun ty => run_next_ascii (P := Tryd.prog) w s k ty hlt ha
                  have e2 : (s[k].toNat : Int) < 48 ∨ 57 < (s[k].toNat : Int) := by omega
                  clear c1
                  go_wp2
                  all_goals first | (exfalso; omega) | (go_ret2; exact ⟨by rw [← HR.out, HF.out]; rfl, iter_below _ _ _⟩)
                · have hnx := fun ty => run_next_any (P := Tryd.prog) w s k ty hlt
                  have hd := (decode_high s k hlt (by omega)).1
                  clear ha c1
                  generalize (Utf8.decode s k).1 = r at *
                  generalize k + (Utf8.decode s k).2 = k2 at *
                  have e1 : (128 : Int) ≤ (r : Int) := by omega
                  go_wp2
                  go_ret2
                  exact ⟨by rw [← HR.out, HF.out]; rfl, iter_below _ _ _⟩
            · obtain rfl : k = s.size := by omega
              have HE : Hid (numB s.data.toList = (valL (s.data.toList.take s.size), true)) := by
                have ht : s.data.toList.take s.size = s.data.toList := List.take_of_length_le (by rw [HL.out]; omega)
                have hq := HQ.out
                rw [ht] at hq ⊢
                exact num_yes (by rw [HL.out]; omega) (by rw [HL.out]; omega) HZ.out hq
              have hnx := fun ty => run_next_end (P := Tryd.prog) w s s.size ty hlt
              generalize valL (s.data.toList.take s.size) = v at *
              have hv5 : decide ((v : Int) ≤ 9999) = true := by simp; omega
              go_wp2
              go_ret2
              exact ⟨by rw [← HR.out, HE.out]; rfl, iter_below _ _ _⟩
end Go.Proofs.YthaagngoefieaaaDoor
