/-
  The walks of chapter 9's Read, the program's and the reference's. Conditions: the string is no longer than a string can be.
-/
import Derived.Test.YtjjdlmdijmlagaaDigText
namespace Go.Proofs.Ytjjdlmdijmlagaa
open Go.ChangeShapes Go.WideShapes Go.ChangeAt Go.RowKit
set_option linter.unusedVariables false

theorem byte_at (s : ByteArray) (k : Nat) (h : k < s.size) : s.data.toList[k]? = some s[k] := by
  rw [List.getElem?_eq_getElem (by simpa using h)]; rfl

theorem read_go {s : ByteArray} {k : Nat} {x : UInt64} {d : UInt8} {z : Int} (h : k < s.size) (hx : readL (s.data.toList.take k) = some x) (hd : hexV s[k] = some d.toUInt64 ∧ bi d = z) :
    ∃ y, bits .or .u64 (IntKind.u64.wrap (ui x * 16)) z = ui y ∧ readL (s.data.toList.take (k + 1)) = some y := by
  refine ⟨x <<< 4 ||| d.toUInt64, by rw [← hd.2]; exact or_digit x d, ?_⟩
  rw [readL_snoc _ k s[k] x (byte_at s k h) hx, readStep, hd.1]
  rfl
theorem read_stop {s : ByteArray} {k : Nat} {x : UInt64} {R : UInt64 × Bool} (h : k < s.size) (hx : readL (s.data.toList.take k) = some x) (hd : hexV s[k] = none)
    (hR : R = (match readL s.data.toList with | some n => (n, true) | none => (0, false))) : R = (0, false) := by
  rw [readL_none _ k s[k] x (byte_at s k h) hx hd] at hR
  exact hR
theorem ui0 : ui 0 = 0 := rfl

set_option maxHeartbeats 800000 in
theorem read_any (s : ByteArray) (w : World) (hs : s.size ≤ maxLen) :
    Calls Try.prog 20 #[.string s] w fun e w' => e = .returned (.tuple #[.int .u64 (ui (readB s.data.toList).1), .bool (readB s.data.toList).2]) ∧ w = w' := by
  unfold maxLen at hs
  have hlen : s.data.toList.length = s.size := by simp
  by_cases h : s.size = 16
  · have HB : Hid (readB s.data.toList = (match readL s.data.toList with | some n => (n, true) | none => (0, false))) := by unfold readB; rw [if_pos (by omega)]; rfl
    generalize readB s.data.toList = R at *
    have HL := Lib.hid hlen
    clear hlen
    go_enter Try.func20, Try.ntmps20
    go_wp2
    go_loop [4, 5, 6, 12] (fun n _ _ i => ∃ k : Nat, ∃ x : UInt64, k ≤ 16 ∧ i = .int .i64 k ∧ n = .int .u64 (ui x) ∧ readL (s.data.toList.take k) = some x) (fun _ _ _ i => 16 - (intOf i).toNat)
    case atStart => exact ⟨0, 0, by omega, rfl, rfl, rfl⟩
    case round =>
      obtain ⟨k, x, hk, rfl, rfl, hx⟩ := hrel
      by_cases hlt : k < 16
      · have HX := Lib.hid hx
        clear hx
        go_wp2
        · have h1 : 48 ≤ (s[k].toNat : Int) := by assumption
          have h2 : (s[k].toNat : Int) ≤ 57 := by assumption
          obtain ⟨y, g1, g2⟩ := read_go (show k < s.size by omega) HX.out (dig_lo (c := s[k]) (by omega) (by omega))
          go_round
          case rel => exact ⟨k + 1, y, by omega, by go_num, by rw [g1], g2⟩
          case measure => simp [intOf]; omega
        · have h1 : 97 ≤ (s[k].toNat : Int) := by assumption
          have h2 : (s[k].toNat : Int) ≤ 102 := by assumption
          obtain ⟨y, g1, g2⟩ := read_go (show k < s.size by omega) HX.out (dig_hi (c := s[k]) (by omega) (by omega))
          go_round
          case rel => exact ⟨k + 1, y, by omega, by go_num, by rw [g1], g2⟩
          case measure => simp [intOf]; omega
        · have h1 : 57 < (s[k].toNat : Int) := by assumption
          have h2 : 102 < (s[k].toNat : Int) := by assumption
          have g := read_stop (show k < s.size by omega) HX.out (dig_no (c := s[k]) (by omega) (by omega)) HB.out
          go_ret2
          exact ⟨by rw [g]; rfl, rfl⟩
        · have h1 : 57 < (s[k].toNat : Int) := by assumption
          have h2 : (s[k].toNat : Int) < 97 := by assumption
          have g := read_stop (show k < s.size by omega) HX.out (dig_no (c := s[k]) (by omega) (by omega)) HB.out
          go_ret2
          exact ⟨by rw [g]; rfl, rfl⟩
        · have h1 : (s[k].toNat : Int) < 48 := by assumption
          have g := read_stop (show k < s.size by omega) HX.out (dig_no (c := s[k]) (by omega) (by omega)) HB.out
          go_ret2
          exact ⟨by rw [g]; rfl, rfl⟩
      · obtain rfl : k = 16 := by omega
        have HX : Hid (R = (x, true)) := by
          rw [HB.out, show s.data.toList = s.data.toList.take 16 from (List.take_of_length_le (by rw [HL.out]; omega)).symm, hx]; rfl
        clear hx
        go_wp2
        go_ret2
        exact ⟨by rw [HX.out]; rfl, rfl⟩
  · have HB : Hid (readB s.data.toList = (0, false)) := by unfold readB; rw [if_neg (by omega)]; rfl
    generalize readB s.data.toList = R at *
    clear hlen
    go_enter Try.func20, Try.ntmps20
    go_wp2
    go_ret2
    exact ⟨by rw [HB.out]; rfl, rfl⟩

/-- The reference's digit: its value, or -1. -/
theorem rdigit_lo (c : Int) (h1 : 48 ≤ c) (h2 : c ≤ 57) (w : World) :
    Calls Try.prog 31 #[.int .u8 c] w fun e w' => e = .returned (.int .i64 (c - 48)) ∧ w = w' := by
  go_enter Try.func31, Try.ntmps31
  go_wp2
  go_ret
  exact ⟨rfl, rfl⟩
theorem rdigit_hi (c : Int) (h1 : 97 ≤ c) (h2 : c ≤ 102) (w : World) :
    Calls Try.prog 31 #[.int .u8 c] w fun e w' => e = .returned (.int .i64 (c - 97 + 10)) ∧ w = w' := by
  go_enter Try.func31, Try.ntmps31
  go_wp2
  go_ret
  exact ⟨rfl, rfl⟩
theorem rdigit_no (c : Int) (h : c < 48 ∨ 57 < c) (h' : c < 97 ∨ 102 < c) (w : World) :
    Calls Try.prog 31 #[.int .u8 c] w fun e w' => e = .returned (.int .i64 (-1)) ∧ w = w' := by
  go_enter Try.func31, Try.ntmps31
  go_wp2
  all_goals first | (go_ret; exact ⟨rfl, rfl⟩) | (exfalso; omega)

set_option maxHeartbeats 800000 in
theorem rread_any (s : ByteArray) (w : World) (hs : s.size ≤ maxLen) :
    Calls Try.prog 21 #[.string s] w fun e w' => e = .returned (.tuple #[.int .u64 (ui (readB s.data.toList).1), .bool (readB s.data.toList).2]) ∧ w = w' := by
  unfold maxLen at hs
  have hlen : s.data.toList.length = s.size := by simp
  by_cases h : s.size = 16
  · have HB : Hid (readB s.data.toList = (match readL s.data.toList with | some n => (n, true) | none => (0, false))) := by unfold readB; rw [if_pos (by omega)]; rfl
    generalize readB s.data.toList = R at *
    have HL := Lib.hid hlen
    clear hlen
    go_enter Try.func21, Try.ntmps21
    go_wp2
    go_loop [4, 5, 6] (fun n i _ => ∃ k : Nat, ∃ x : UInt64, k ≤ 16 ∧ i = .int .i64 k ∧ n = .int .u64 (ui x) ∧ readL (s.data.toList.take k) = some x) (fun _ i _ => 16 - (intOf i).toNat)
    case atStart => exact ⟨0, 0, by omega, rfl, rfl, rfl⟩
    case round =>
      obtain ⟨k, x, hk, rfl, rfl, hx⟩ := hrel
      by_cases hlt : k < 16
      · have HX := Lib.hid hx
        clear hx
        by_cases h1 : 48 ≤ s[k].toNat ∧ s[k].toNat ≤ 57
        · obtain ⟨h1, h2⟩ := h1
          obtain ⟨y, g1, g2⟩ := read_go (show k < s.size by omega) HX.out (dig_lo (c := s[k]) h1 h2)
          have H2 := Lib.hid g2
          clear g2
          go_wp2_with (go_at_call 31; refine (rdigit_lo _ (by omega) (by omega) _).mono ?_; rintro e w' ⟨rfl, rfl⟩)
          go_round
          case rel => exact ⟨k + 1, y, by omega, by go_num, rfl, H2.out⟩
          case measure => simp [intOf]; omega
        · by_cases h2 : 97 ≤ s[k].toNat ∧ s[k].toNat ≤ 102
          · clear h1
            obtain ⟨h1, h2⟩ := h2
            obtain ⟨y, g1, g2⟩ := read_go (show k < s.size by omega) HX.out (dig_hi (c := s[k]) h1 h2)
            have H2 := Lib.hid g2
            clear g2
            go_wp2_with (go_at_call 31; refine (rdigit_hi _ (by omega) (by omega) _).mono ?_; rintro e w' ⟨rfl, rfl⟩)
            go_round
            case rel => exact ⟨k + 1, y, by omega, by go_num, rfl, H2.out⟩
            case measure => simp [intOf]; omega
          · have g := read_stop (show k < s.size by omega) HX.out (dig_no (c := s[k]) h1 h2) HB.out
            have HG := Lib.hid g
            clear g
            have h1' : (s[k].toNat : Int) < 48 ∨ 57 < (s[k].toNat : Int) := by omega
            have h2' : (s[k].toNat : Int) < 97 ∨ 102 < (s[k].toNat : Int) := by omega
            clear h1 h2
            go_wp2_with (go_at_call 31; refine (rdigit_no _ h1' h2' _).mono ?_; rintro e w' ⟨rfl, rfl⟩)
            go_ret2
            exact ⟨by rw [HG.out]; rfl, rfl⟩
      · obtain rfl : k = 16 := by omega
        have HX : Hid (R = (x, true)) := by
          rw [HB.out, show s.data.toList = s.data.toList.take 16 from (List.take_of_length_le (by rw [HL.out]; omega)).symm, hx]; rfl
        clear hx
        go_wp2
        go_ret2
        exact ⟨by rw [HX.out]; rfl, rfl⟩
  · have HB : Hid (readB s.data.toList = (0, false)) := by unfold readB; rw [if_neg (by omega)]; rfl
    generalize readB s.data.toList = R at *
    clear hlen
    go_enter Try.func21, Try.ntmps21
    go_wp2
    go_ret2
    exact ⟨by rw [HB.out]; rfl, rfl⟩
end Go.Proofs.Ytjjdlmdijmlagaa
