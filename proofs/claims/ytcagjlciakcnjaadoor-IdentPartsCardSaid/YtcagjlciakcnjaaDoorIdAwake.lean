/-
  The walk of chapter 1's awake. Conditions: strconv's table reads as it is laid.
-/
import Derived.Test.YtcagjlciakcnjaaDoorIdName
import Derived.Test.YtcagjlciakcnjaaDoorIdWord
import Derived.Test.YtcagjlciakcnjaaDoorIdNumber
import Derived.Test.YtcagjlciakcnjaaDoorIdDigits
import Derived.Test.YtcagjlciakcnjaaDoorIdJoin
namespace Go.Proofs.YtcagjlciakcnjaaDoor
open Go.RowKit
set_option linter.unusedVariables false

theorem tab_below {w w' : World} (h : Tab w) (hb : Below w.heap.size w w') : Tab w' := (Lib.tabBelow_of_tabIs h) w' hb
theorem a_num : numB (⟨#[49, 50, 48]⟩ : ByteArray).data.toList = (120, true) := by decide +kernel
theorem a_name : nameB (⟨#[97, 45, 49]⟩ : ByteArray).data.toList = true := by decide +kernel
theorem a_name2 : nameB (⟨#[49, 97]⟩ : ByteArray).data.toList = false := by decide +kernel
theorem a_word : wordB (⟨#[120, 95, 49]⟩ : ByteArray).data.toList = true := by decide +kernel
theorem a_word2 : wordB (⟨#[]⟩ : ByteArray).data.toList = false := by decide +kernel
theorem a_split : splitL (⟨#[97, 46, 98]⟩ : ByteArray).data.toList 46 = [[97], [98]] := by decide +kernel
theorem a_join : joinL [[97], [98]] 45 = [97, 45, 98] := by decide +kernel
theorem a_digits : Lib.itoa (-5) = [45, 53] := by
  unfold Lib.itoa
  rw [if_pos (by decide), Lib.decDigits, dif_pos (by decide)]
  rfl

set_option maxHeartbeats 2000000 in
theorem awake_any (w : World) (hT : Tab w) :
    Calls Tryd.prog 9 #[] w fun e w' => e = .returned (.bool true) ∧ Below w.heap.size w w' := by
  have HT := Lib.hid hT
  clear hT
  go_enter Tryd.func9, Tryd.ntmps9
  go_wp2_with fail
  refine (number_any _ _ (by decide)).mono ?_
  rw [a_num]
  rintro e w1 ⟨rfl, hb1⟩
  go_wp2_with fail
  refine (name_any _ _ (by decide)).mono ?_
  rw [a_name]
  rintro e w2 ⟨rfl, hb2⟩
  have hb2 := hb1.trans (hb2.mono hb1.size)
  clear hb1
  go_wp2_with fail
  refine (name_any _ _ (by decide)).mono ?_
  rw [a_name2]
  rintro e w3 ⟨rfl, hb3⟩
  have hb3 := hb2.trans (hb3.mono hb2.size)
  clear hb2
  go_wp2_with fail
  refine (word_any _ _ (by decide)).mono ?_
  rw [a_word]
  rintro e w4 ⟨rfl, hb4⟩
  have hb4 := hb3.trans (hb4.mono hb3.size)
  clear hb3
  go_wp2_with fail
  refine (word_any _ _ (by decide)).mono ?_
  rw [a_word2]
  rintro e w5 ⟨rfl, hb5⟩
  have hb5 := hb4.trans (hb5.mono hb4.size)
  clear hb4
  go_wp2_with fail
  refine (digits_any _ _ (by decide) (by decide) (tab_below HT.out hb5)).mono ?_
  rw [a_digits]
  rintro e w6 ⟨rfl, hb6⟩
  have hb6 := hb5.trans (hb6.mono hb5.size)
  clear hb5
  go_wp2_with fail
  have hsp := fun W => split_any ⟨#[97, 46, 98]⟩ 46 W (by decide)
  rw [a_split] at hsp
  refine (hsp _).mono ?_
  rintro e w7 ⟨⟨v, rfl, hown⟩, hb7⟩
  obtain ⟨A, c, rfl, hrd⟩ := rd_own hown
  have hb7 := hb6.trans (hb7.mono hb6.size)
  clear hb6 hsp hown
  go_wp2_with fail
  have hjo := fun W h hB => join_any A 2 c w7.heap.size [[97], [98]] 45 W h hB (by decide) (by decide)
  rw [a_join] at hjo
  refine (hjo _ hrd (Nat.le_refl _)).mono ?_
  rintro e w8 ⟨rfl, hb8⟩
  have hb8 := hb7.trans (hb8.mono hb7.size)
  clear hb7 hjo hrd
  go_wp2_with fail
  go_ret
  exact ⟨rfl, hb8⟩
end Go.Proofs.YtcagjlciakcnjaaDoor
