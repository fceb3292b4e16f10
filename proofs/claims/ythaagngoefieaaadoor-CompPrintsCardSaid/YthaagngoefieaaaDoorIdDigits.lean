/-
  The walks of chapter 1's Digits, the program's and the reference's: a number's decimal digits. Conditions: strconv's table reads as it is laid.
-/
import Derived.Test.YthaagngoefieaaaDoorIdBase
import Derived.Test.YthaagngoefieaaaDoorShelf
import Derived.Lib.AppendIntMem
import Derived.Lib.ItoaLen
namespace Go.Proofs.YthaagngoefieaaaDoor
open Go.ChangeShapes Go.WideShapes Go.ChangeAt Go.RowKit
set_option linter.unusedVariables false

/-- strconv's table reads as it is laid. -/
def Tab (w : World) : Prop := Lib.TabIs Tryd.prog w "internal/strconv.uint64pow10" .u64 Lib.pow10Tab
theorem tab_below {w w' : World} (h : Tab w) (hb : Below w.heap.size w w') : Tab w' := (Lib.tabBelow_of_tabIs h) w' hb

set_option maxHeartbeats 1000000 in
theorem digits_any (n : Int) (w : World) (h0 : -9223372036854775808 ≤ n) (h1 : n ≤ 9223372036854775807) (htab : Tab w) :
    Calls Tryd.prog 40 #[.int .i64 n] w fun e w' => e = .returned (.string ⟨(Lib.itoa n).toArray⟩) ∧ Below w.heap.size w w' := by
  have HT := Lib.hid htab
  clear htab
  go_enter Tryd.func40, Tryd.ntmps40
  go_wp2_with (go_at_call 69; refine (Tryd.strconv_Itoa _ h0 h1 _ HT.out).mono ?_)
  rintro e w1 ⟨rfl, k, os, hw⟩
  have hb := Lib.below_grow w.heap.size w (Nat.le_refl _) k os
  rw [← hw] at hb
  clear hw
  go_wp2
  go_ret
  exact ⟨rfl, hb⟩

theorem conv_one (w : World) (c : Int) : (convert 92 9 (.slice (some ⟨w.heap.size, 0, none⟩) 1 1)).run Tryd.prog (w.alloc (.cells #[.int .u8 c] 5)) = .ok (.string (strOfNums [c])) (w.alloc (.cells #[.int .u8 c] 5)) := by
  refine run_convert_bytes_arg (P := Tryd.prog) _ 92 5 Tryd.underlying92 Tryd.underlying5 w.heap.size 0 1 1 [c] rfl (fun i hi => ?_) 9 Tryd.underlying9
  obtain rfl : i = 0 := by omega
  have := cell_one_new w (.int .u8 c) 5 0 _ rfl
  rw [add_plain] at this
  exact this

/-- What stands ahead of the last digit. -/
def ahead (m : Nat) : List UInt8 := if m < 10 then [] else Lib.decDigits (m / 10)
theorem dec_ahead (m : Nat) : Lib.decDigits m = ahead m ++ [UInt8.ofNat (48 + m % 10)] := by
  rw [Lib.decDigits]
  unfold ahead
  by_cases h : m < 10
  · rw [dif_pos h, if_pos h, Nat.mod_eq_of_lt h]; rfl
  · rw [dif_neg h, if_neg h]

theorem one_digit (m : Nat) (z : Int) (hz : (m : Int) = z) : ([48 + z % 10].map fun n => UInt8.ofNat n.toNat) = [UInt8.ofNat (48 + m % 10)] := by
  subst hz
  simp only [List.map_cons, List.map_nil]
  congr 2
theorem dec_len (n : Nat) (hn : n < 18446744073709551616) : (Lib.decDigits n).length ≤ 20 := by
  rw [Lib.decDigits_length]
  exact Lib.nDigits_le20 n hn

set_option maxHeartbeats 1000000 in
theorem whole_any (n : Nat) (w : World) (hn : n < 18446744073709551616) :
    Calls Tryd.prog 100 #[.int .u64 (n : Int)] w fun e w' => e = .returned (.string ⟨(Lib.decDigits n).toArray⟩) ∧ Below w.heap.size w w' := by
  have hcv := conv_one
  go_enter Tryd.func100, Tryd.ntmps100
  go_wp2
  go_loopw [0, 3] (fun m s wr => ∃ (k : Nat) (t : ByteArray), m = .int .u64 (k : Int) ∧ k ≤ n ∧ s = .string t ∧ Lib.decDigits n = ahead k ++ t.data.toList ∧ Below w.heap.size w wr) (fun m _ _ => (intOf m).toNat)
  case atStart =>
    refine ⟨n, _, rfl, Nat.le_refl _, rfl, ?_, (Below.refl _ _).alloc (Nat.le_refl _) _⟩
    rw [dec_ahead, strOfNums_data, one_digit n n rfl]
  case round =>
    obtain ⟨k, t, rfl, hk, rfl, ht, hbel⟩ := hrel
    have HT := Lib.hid ht
    have hts : t.size ≤ 30 := by
      have h1 := congrArg List.length ht
      rw [List.length_append, len_size] at h1
      have h2 := dec_len n (by omega)
      omega
    clear ht
    by_cases hlt : 9 < k
    · have e1 : (strOfNums [48 + (k : Int) / 10 % 10]).size = 1 := by rw [strOfNums_size]; rfl
      go_wp2
      go_roundw
      case rel =>
        refine ⟨k / 10, _, by go_num, by omega, rfl, ?_, hbel.alloc hbel.size _⟩
        rw [HT.out, ahead, if_neg (by omega), dec_ahead, ByteArray.data_append, Array.toList_append, strOfNums_data, one_digit (k / 10) _ (by omega), List.append_assoc]
      case measure => simp [intOf]; omega
    · have HE : Hid (t = ⟨(Lib.decDigits n).toArray⟩) := by
        apply ByteArray.ext
        apply Array.toList_inj.1
        have := HT.out
        rw [ahead, if_pos (by omega), List.nil_append] at this
        rw [this]
      go_wp2
      go_ret
      exact ⟨by rw [← HE.out]; rfl, hbel⟩

set_option maxHeartbeats 1000000 in
theorem rdigits_any (n : Int) (w : World) (h0 : -9223372036854775808 ≤ n) (h1 : n ≤ 9223372036854775807) :
    Calls Tryd.prog 75 #[.int .i64 n] w fun e w' => e = .returned (.string ⟨(Lib.itoa n).toArray⟩) ∧ Below w.heap.size w w' := by
  by_cases hn : n < 0
  · have HI : Hid (Lib.itoa n = 45 :: Lib.decDigits (-n).toNat) := by
      unfold Lib.itoa
      rw [if_pos hn]
      congr 2
      omega
    have hl := dec_len (-n).toNat (by omega)
    have hsz : (⟨(Lib.decDigits (-n).toNat).toArray⟩ : ByteArray).size ≤ 20 := by simpa [ByteArray.size] using hl
    clear hl
    go_enter Tryd.func75, Tryd.ntmps75
    go_wp2_with fail
    rw [show -(n + 1) + 1 = ((-n).toNat : Int) from by omega]
    refine (whole_any (-n).toNat _ (by omega)).mono ?_
    rintro e w1 ⟨rfl, hb1⟩
    have HD : Hid ((⟨#[45]⟩ : ByteArray) ++ ⟨(Lib.decDigits (-n).toNat).toArray⟩ = ⟨(Lib.itoa n).toArray⟩) := by
      rw [HI.out]
      apply ByteArray.ext
      rw [ByteArray.data_append]
      apply Array.toList_inj.1
      rw [Array.toList_append]
      rfl
    generalize (⟨(Lib.decDigits (-n).toNat).toArray⟩ : ByteArray) = t at *
    go_wp2
    go_ret
    exact ⟨by rw [← HD.out]; rfl, hb1⟩
  · have HI : Hid (Lib.itoa n = Lib.decDigits n.toNat) := by
      unfold Lib.itoa
      rw [if_neg hn]
      rfl
    obtain ⟨m, rfl⟩ := Int.eq_ofNat_of_zero_le (show 0 ≤ n by omega)
    rw [Int.toNat_natCast] at HI
    go_enter Tryd.func75, Tryd.ntmps75
    go_wp2_with (go_at_call 100; refine (whole_any m _ (by omega)).mono ?_; rintro e w1 ⟨rfl, hb1⟩)
    go_ret
    exact ⟨by rw [HI.out]; rfl, hb1⟩
end Go.Proofs.YthaagngoefieaaaDoor
