/-
  The walk of the reference's look at a head's form. Conditions: the string has 64 bytes.
-/
import Derived.Test.YtlhdomckljhfoaaDkTake
import Derived.Deep.QuietTactic
import Derived.BigQuiet
import Derived.IntWalk
namespace Go.Proofs.Ytlhdomckljhfoaa
open Go.ChangeShapes Go.WideShapes Go.ChangeAt Go.RowKit
set_option linter.unusedVariables false

theorem ret_bool {a b : Bool} (h : a = b) : Ending.returned (.bool a) = .returned (.bool b) := by rw [h]
theorem getD_at (s : ByteArray) (k : Nat) (h : k < s.size) : s.data.toList.getD k 0 = s[k] := by
  rw [List.getD, byte_at s k h]; rfl
def FormTo (l : List UInt8) (k : Nat) : Prop := ∀ i, i < k → formAt l i = true
theorem form_zero (l : List UInt8) : FormTo l 0 := fun i h => absurd h (by omega)
theorem form_step {l : List UInt8} {k : Nat} (h : FormTo l k) (hk : formAt l k = true) : FormTo l (k + 1) := fun i hi => by
  by_cases e : i = k
  · subst e; exact hk
  · exact h i (by omega)
theorem form_end {l : List UInt8} (h : FormTo l 64) : formB l = true := by
  unfold formB; rw [List.all_eq_true]; intro i hi; exact h i (by simpa using hi)
theorem form_no {l : List UInt8} {k : Nat} (hk : k < 64) (h : formAt l k = false) : formB l = false := by
  unfold formB
  rw [Bool.eq_false_iff]
  intro e
  rw [List.all_eq_true] at e
  rw [e k (by simpa using hk)] at h
  cases h
theorem formAt_lo {l : List UInt8} {k : Nat} (h : k < 20) : formAt l k = true := by
  unfold formAt; simp; constructor <;> intros <;> omega
theorem formAt_mid (s : ByteArray) {k : Nat} (h1 : 20 ≤ k) (h2 : k < 40) (hs : s.size = 64) (h3 : k - 20 < s.size) (h4 : k < s.size) : formAt s.data.toList k = decide (s[k].toNat + s[k - 20].toNat = 255) := by
  unfold formAt
  rw [getD_at s k h4, getD_at s (k - 20) h3]
  rw [decide_eq_true h1, decide_eq_true h2, decide_eq_false (show ¬ 40 ≤ k by omega)]
  simp
theorem formAt_hi (s : ByteArray) {k : Nat} (h1 : 40 ≤ k) (h4 : k < s.size) : formAt s.data.toList k = decide (s[k].toNat = 0) := by
  unfold formAt
  rw [getD_at s k h4]
  rw [decide_eq_true h1, decide_eq_false (show ¬ k < 40 by omega)]
  simp

theorem sum_eq {a b : Nat} (h : a + b = 255) : (((a : Int) + (b : Int)) != 255) = false := by simp; omega
theorem sum_ne {a b : Nat} (h : ¬ a + b = 255) : (((a : Int) + (b : Int)) != 255) = true := by simp; omega
theorem zero_eq {a : Nat} (h : a = 0) : ((a : Int) != 0) = false := by simp; omega
theorem zero_ne {a : Nat} (h : ¬ a = 0) : ((a : Int) != 0) = true := by simp; omega

set_option maxHeartbeats 1000000 in
theorem rheaded_any (s : ByteArray) (w : World) (hs : s.size = 64) :
    Calls Try.prog 35 #[.string s] w fun e w' => e = .returned (.bool (formB s.data.toList)) ∧ ∃ n, w' = w.drewN n := by
  have HS := Lib.hid hs
  have hs1 : 64 ≤ s.size := by omega
  have hs2 : s.size ≤ 64 := by omega
  clear hs
  go_enter Try.func35, Try.ntmps35
  go_wp2
  go_loopw [2, 3] (fun r i wr => ∃ k : Nat, k ≤ 64 ∧ i = .int .i64 k ∧ FormTo s.data.toList k ∧ ∃ n, wr = w.drewN n) (fun _ i _ => 64 - (intOf i).toNat)
  case atStart => exact ⟨0, by omega, rfl, form_zero _, 0, rfl⟩
  case round =>
    obtain ⟨k, hk, rfl, hform, n, rfl⟩ := hrel
    have HFO := Lib.hid hform
    clear hform
    by_cases hlt : k < 64
    · have hks : k < s.size := by omega
      by_cases h20 : k < 20
      · have HF := Lib.hid (formAt_lo (l := s.data.toList) h20)
        have b1 : decide ((20 : Int) ≤ (k : Int)) = false := by simp; omega
        have b2 : decide ((40 : Int) ≤ (k : Int)) = false := by simp; omega
        go_wp2_with fail
        go_quiet (fail)
        go_wp2
        go_roundw
        case rel => exact ⟨k + 1, by omega, by go_num, form_step HFO.out HF.out, _, by first | rfl | exact World.drewN_drewN _ _ _⟩
        case measure => simp [intOf]; omega
      · have i1 : (20 : Int) ≤ (k : Int) := by omega
        have b1 : decide ((20 : Int) ≤ (k : Int)) = true := by simp; omega
        by_cases h40 : k < 40
        · have HF := Lib.hid (formAt_mid s (by omega) h40 HS.out (by omega) (by omega))
          have i2 : (k : Int) < 40 := by omega
          have b2 : decide ((k : Int) < 40) = true := by simp; omega
          have b3 : decide ((40 : Int) ≤ (k : Int)) = false := by simp; omega
          obtain ⟨hc0, hc1⟩ := bi_bd s[k]
          obtain ⟨hc2, hc3⟩ := bi_bd s[k - 20]
          unfold bi at hc0 hc1 hc2 hc3
          have hks2 : k - 20 < s.size := by omega
          have hks3 : (k : Int) - 20 < (s.size : Int) := by omega
          have w1 : IntKind.i64.wrap ((k : Int) - 20) = (k : Int) - 20 := IntWalk.i64_in _ (by omega)
          have w2 : ((k : Int) - 20).toNat = k - 20 := by omega
          have w3 : IntKind.i64.wrap (s[k].toNat : Int) = (s[k].toNat : Int) := IntWalk.i64_in _ (by omega)
          have w4 : IntKind.i64.wrap (s[k - 20].toNat : Int) = (s[k - 20].toNat : Int) := IntWalk.i64_in _ (by omega)
          have w5 : IntKind.i64.wrap ((s[k].toNat : Int) + (s[k - 20].toNat : Int)) = (s[k].toNat : Int) + (s[k - 20].toNat : Int) := IntWalk.i64_in _ (by omega)
          clear i2
          by_cases hsum : s[k].toNat + s[k - 20].toNat = 255
          · have b4 : (((s[k].toNat : Int) + (s[k - 20].toNat : Int)) != 255) = false := sum_eq hsum
            have HF1 : Hid (formAt s.data.toList k = true) := (HF.out).trans (by simpa using hsum)
            have HSUM := Lib.hid hsum
            clear hsum
            go_wp2_with fail
            go_quiet (fail)
            go_wp2
            go_roundw
            case rel => exact ⟨k + 1, by omega, by go_num, form_step HFO.out HF1.out, _, by first | rfl | exact World.drewN_drewN _ _ _⟩
            case measure => simp [intOf]; omega
          · have b4 : (((s[k].toNat : Int) + (s[k - 20].toNat : Int)) != 255) = true := sum_ne hsum
            have HF1 : Hid (formB s.data.toList = false) := form_no hlt ((HF.out).trans (by simpa using hsum))
            have HSUM := Lib.hid hsum
            clear hsum
            go_wp2_with fail
            go_quiet (fail)
            go_wp2
            go_ret
            exact ⟨ret_bool HF1.out.symm, _, by first | rfl | exact World.drewN_drewN _ _ _⟩
        · have HF := Lib.hid (formAt_hi s (k := k) (by omega) (by omega))
          have i2 : (40 : Int) ≤ (k : Int) := by omega
          have b2 : decide ((k : Int) < 40) = false := by simp; omega
          have b3 : decide ((40 : Int) ≤ (k : Int)) = true := by simp; omega
          obtain ⟨hc0, hc1⟩ := bi_bd s[k]
          unfold bi at hc0 hc1
          by_cases hz : s[k].toNat = 0
          · have b4 : ((s[k].toNat : Int) != 0) = false := zero_eq hz
            have HF1 : Hid (formAt s.data.toList k = true) := (HF.out).trans (by simpa using hz)
            have HSUM := Lib.hid hz
            clear hz
            go_wp2_with fail
            go_quiet (fail)
            go_wp2
            go_roundw
            case rel => exact ⟨k + 1, by omega, by go_num, form_step HFO.out HF1.out, _, by first | rfl | exact World.drewN_drewN _ _ _⟩
            case measure => simp [intOf]; omega
          · have b4 : ((s[k].toNat : Int) != 0) = true := zero_ne hz
            have HF1 : Hid (formB s.data.toList = false) := form_no hlt ((HF.out).trans (by simpa using hz))
            have HSUM := Lib.hid hz
            clear hz
            go_wp2_with fail
            go_quiet (fail)
            go_wp2
            go_ret
            exact ⟨ret_bool HF1.out.symm, _, by first | rfl | exact World.drewN_drewN _ _ _⟩
    · obtain rfl : k = 64 := by omega
      have HE := Lib.hid (form_end HFO.out)
      go_wp2
      go_ret
      exact ⟨ret_bool HE.out.symm, n, rfl⟩
end Go.Proofs.Ytlhdomckljhfoaa
