/-
  Chapter 36: the walk of linchpinmade's SameInts. Conditions: bounds on the lengths.
-/
import Derived.Test.YtmfdpdnokiidlaaDoorHNext
namespace Go.Proofs.YtmfdpdnokiidlaaDoor
open Go.ChangeShapes Go.WideShapes Go.ChangeAt Go.RowKit
set_option linter.unusedVariables false
set_option linter.unusedSimpArgs false

theorem take_eq_succ {l l' : List Int} {k : Nat} (h : l.take k = l'.take k) (hk : k < l.length) (hk' : k < l'.length) (he : l.getD k 0 = l'.getD k 0) : l.take (k + 1) = l'.take (k + 1) := by
  rw [List.take_succ_eq_append_getElem hk, List.take_succ_eq_append_getElem hk', h]
  simp only [List.getD_eq_getElem?_getD, List.getElem?_eq_getElem hk, List.getElem?_eq_getElem hk', Option.getD_some] at he
  rw [he]
theorem ret_boolH {a b : Bool} (h : a = b) : Ending.returned (.bool a) = .returned (.bool b) := by rw [h]
set_option maxRecDepth 8192 in
set_option maxHeartbeats 4000000 in
theorem same_any (A A' : Option Addr) (c c' B : Nat) (l l' : List Int) (w : World) (h : RdI w B A l) (h' : RdI w B A' l') (hB : B ≤ w.heap.size) (hl : l.length ≤ 1048576) :
    Calls Tryd.prog 14 #[.slice A l.length c, .slice A' l'.length c'] w fun e w' => e = .returned (.bool (decide (l = l'))) ∧ Below w.heap.size w w' := by
  by_cases hnn : l.length = l'.length
  · have H := Lib.hid h
    have H' := Lib.hid h'
    clear h h'
    have HLn := Lib.hid hnn
    rw [← hnn]
    clear hnn
    have HL := Lib.hid (show l.length = l.length from rfl)
    generalize hn : l.length = n at *
    have HN := Lib.hid hn
    clear hn HL
    have hnb : (n : Int) ≤ 1048576 := by omega
    go_enter Tryd.func14, Tryd.ntmps14
    go_wp2
    go_loopw [5] (fun i wr => ∃ k : Nat, k ≤ n ∧ i = .int .i64 k ∧ Hid (l.take k = l'.take k) ∧ Below w.heap.size w wr) (fun i _ => n - (intOf i).toNat)
    case atStart => exact ⟨0, by omega, rfl, Lib.hid rfl, Below.refl _ _⟩
    case round =>
      obtain ⟨k, hk, rfl, HS, hbel⟩ := hrel
      by_cases hlt : k < n
      · obtain ⟨b, off, rfl, hb, k0⟩ := rdI_at (rdI_below H.out (hbel.mono hB)) (k := k) (by rw [HN.out]; exact hlt)
        obtain ⟨b', off', rfl, hb', k1⟩ := rdI_at (rdI_below H'.out (hbel.mono hB)) (k := k) (by rw [← HLn.out]; exact hlt)
        have HT := Lib.hid (fun he => take_eq_succ HS.out (by rw [HN.out]; exact hlt) (by rw [← HLn.out]; exact hlt) he)
        have HF := Lib.hid (fun (hne : ¬ l.getD k 0 = l'.getD k 0) => (show ¬ l = l' from fun e => hne (by rw [e])))
        have i1 : (k : Int) < (n : Int) := by omega
        generalize l.getD k 0 = x at *
        generalize l'.getD k 0 = y at *
        by_cases he : x = y
        · have HN2 := Lib.hid (HT.out he)
          have g : (x != y) = false := by simpa using he
          clear HT HF he
          go_wp2_with fail
          go_region
          all_goals
            go_wp2_with fail
            go_roundw
            case rel => exact ⟨k + 1, by omega, by go_num, HN2, hbel.drew⟩
            case measure => simp [intOf]; omega
        · have HE := Lib.hid (HF.out he)
          have g : (x != y) = true := by simpa using he
          clear HT HF he
          go_wp2_with fail
          go_region
          all_goals
            go_wp2_with fail
            go_ret
            exact ⟨ret_boolH (decide_eq_false HE.out).symm, hbel.drew⟩
      · obtain rfl : k = n := by omega
        have HE : Hid (l = l') := by
          have := HS.out
          rwa [List.take_of_length_le (by rw [HN.out]; exact Nat.le_refl _), List.take_of_length_le (by rw [← HLn.out]; exact Nat.le_refl _)] at this
        go_wp2_with fail
        go_ret
        exact ⟨ret_boolH (decide_eq_true HE.out).symm, hbel⟩
  · have hne : ¬ l = l' := fun e => hnn (by rw [e])
    have hd := Lib.hid (decide_eq_false hne)
    have g : ((l.length : Int) != (l'.length : Int)) = true := by simp; omega
    have g2 : ¬ (l.length : Int) = (l'.length : Int) := by omega
    clear hne h h'
    generalize l.length = n at *
    generalize l'.length = n' at *
    go_enter Tryd.func14, Tryd.ntmps14
    go_wp2
    go_ret
    exact ⟨ret_boolH hd.out.symm, Below.refl _ _⟩
end Go.Proofs.YtmfdpdnokiidlaaDoor
