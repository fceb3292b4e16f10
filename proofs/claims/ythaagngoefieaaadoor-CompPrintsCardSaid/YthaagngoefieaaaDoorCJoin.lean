/-
  The walk of the reference's Join of chapter 1 (the same text stands in XIdJoin beside a walk that this seat's program has not). Conditions: the list reads as texts; their lengths are bounded.
-/
import Derived.Test.YthaagngoefieaaaDoorRd
import Derived.Test.YthaagngoefieaaaDoorIdDigits
import Derived.BigQuiet
import Derived.Deep.QuietTactic
namespace Go.Proofs.YthaagngoefieaaaDoor
open Go.ChangeShapes Go.WideShapes Go.ChangeAt Go.RowKit
set_option linter.unusedVariables false

/-- What k texts are, joined. -/
def joinTo (ps : List (List UInt8)) (b : UInt8) (k : Nat) : List UInt8 := joinL (ps.take k) b
theorem joinTo_first (ps : List (List UInt8)) (b : UInt8) (p : List UInt8) (hp : ps[0]? = some p) : joinTo ps b 1 = p := by
  obtain ⟨hlt, rfl⟩ := List.getElem?_eq_some_iff.1 hp
  unfold joinTo
  rw [List.take_succ_eq_append_getElem hlt, joinL_snoc, if_pos (by simp)]
theorem joinTo_next (ps : List (List UInt8)) (b : UInt8) (k : Nat) (p : List UInt8) (hk : 0 < k) (hp : ps[k]? = some p) : joinTo ps b (k + 1) = joinTo ps b k ++ b :: p := by
  obtain ⟨hlt, rfl⟩ := List.getElem?_eq_some_iff.1 hp
  unfold joinTo
  rw [List.take_succ_eq_append_getElem hlt, joinL_snoc, if_neg]
  intro e
  have := congrArg List.length e
  rw [List.length_take, List.length_nil] at this
  omega
theorem joinTo_le (ps : List (List UInt8)) (b : UInt8) (k : Nat) (hk : k ≤ ps.length) : (joinTo ps b k).length ≤ (joinL ps b).length := by
  have h : ∀ j, k + j ≤ ps.length → (joinTo ps b k).length ≤ (joinTo ps b (k + j)).length := by
    intro j
    induction j with
    | zero => intro _; exact Nat.le_refl _
    | succ j ih =>
      intro hj
      have h1 := ih (by omega)
      have hp : ps[k + j]? = some (ps[k + j]'(by omega)) := List.getElem?_eq_getElem (by omega)
      by_cases h0 : k + j = 0
      · have : k = 0 := by omega
        subst this
        simp [joinTo, joinL]
      · have := joinTo_next ps b (k + j) _ (by omega) hp
        rw [← Nat.add_assoc, this, List.length_append]
        omega
  have := h (ps.length - k) (by omega)
  rw [show k + (ps.length - k) = ps.length from by omega] at this
  unfold joinTo at this ⊢
  rwa [List.take_length] at this
theorem conv_by (w : World) (c : Int) : (convert 92 9 (.slice (some ⟨w.heap.size, 0, none⟩) 1 1)).run Tryd.prog (w.alloc (.cells #[.int .u8 c] 5)) = .ok (.string (strOfNums [c])) (w.alloc (.cells #[.int .u8 c] 5)) := by
  refine run_convert_bytes_arg (P := Tryd.prog) _ 92 5 Tryd.underlying92 Tryd.underlying5 w.heap.size 0 1 1 [c] rfl (fun i hi => ?_) 9 Tryd.underlying9
  obtain rfl : i = 0 := by omega
  have := cell_one_new w (.int .u8 c) 5 0 _ rfl
  rw [add_plain] at this
  exact this
theorem mk_append (a b : List UInt8) : (⟨a.toArray⟩ : ByteArray) ++ ⟨b.toArray⟩ = ⟨(a ++ b).toArray⟩ := by
  apply ByteArray.ext
  rw [ByteArray.data_append]
  simp
theorem one_byte (b : UInt8) : strOfNums [(b.toNat : Int)] = ⟨[b].toArray⟩ := by
  apply ByteArray.ext
  apply Array.toList_inj.1
  rw [strOfNums_data]
  simp

set_option maxHeartbeats 2000000 in
theorem rjoin_any (A : Option Addr) (n c B : Nat) (ps : List (List UInt8)) (b : UInt8) (w : World) (h : Rd w B A n (BS ps)) (hB : B ≤ w.heap.size) (hn : n ≤ 1073741824) (hl : (joinL ps b).length ≤ 1073741824) :
    Calls Tryd.prog 44 #[.slice A n c, .int .u8 (b.toNat : Int)] w fun e w' => e = .returned (.string ⟨(joinL ps b).toArray⟩) ∧ Below w.heap.size w w' := by
  have hpl : ps.length = n := by have := h.1; rwa [bs_len] at this
  have HP := Lib.hid hpl
  have HL : Hid (∀ k, k ≤ n → (joinTo ps b k).length ≤ 1073741824) := fun k hk => Nat.le_trans (joinTo_le ps b k (by omega)) hl
  have H := Lib.hid h
  clear h hpl hl
  have hcv := conv_by
  go_enter Tryd.func44, Tryd.ntmps44
  go_wp2
  go_loopw [5, 6] (fun s i wr => ∃ k : Nat, k ≤ n ∧ i = .int .i64 k ∧ s = .string ⟨(joinTo ps b k).toArray⟩ ∧ Below w.heap.size w wr) (fun _ i _ => n - (intOf i).toNat)
  case atStart => exact ⟨0, by omega, rfl, rfl, Below.refl _ _⟩
  case round =>
    obtain ⟨k, hk, rfl, rfl, hbel⟩ := hrel
    have hln := HL.out k hk
    have hsz := hbel.size
    by_cases hlt : k < n
    · obtain ⟨bb, off, p, rfl, hbb, hp, hc⟩ := rds_cell (rd_below H.out (hbel.mono hB)) hlt
      have hln1 := HL.out (k + 1) (by omega)
      have hps := str_size p
      by_cases h0 : k = 0
      · subst h0
        have HJ := Lib.hid (joinTo_first ps b p hp)
        rw [HJ.out] at hln1
        have hc0 : wr.cell? ⟨bb, off, none⟩ = some (.string ⟨p.toArray⟩) := hc
        clear hc
        have HM := Lib.hid (mk_append (joinTo ps b 0) p)
        have hs0 := str_size (joinTo ps b 0)
        have hsa : (⟨(joinTo ps b 0).toArray⟩ : ByteArray).size ≤ 1073741824 := by omega
        have hsb : (⟨p.toArray⟩ : ByteArray).size ≤ 1073741824 := by omega
        clear hp hps hs0
        generalize (⟨p.toArray⟩ : ByteArray) = tp at *
        generalize (⟨(joinTo ps b 0).toArray⟩ : ByteArray) = tj at *
        go_wp2
        go_roundw
        case rel =>
          refine ⟨1, by omega, rfl, ?_, hbel⟩
          rw [HM.out, HJ.out]
          rfl
        case measure => simp [intOf]; omega
      · have HJ := Lib.hid (joinTo_next ps b k p (by omega) hp)
        rw [HJ.out, List.length_append, List.length_cons] at hln1
        have HM := Lib.hid (mk_append (joinTo ps b k) [b])
        have HM2 := Lib.hid (mk_append (joinTo ps b k ++ [b]) p)
        have hs0 := str_size (joinTo ps b k)
        have hsa : (⟨(joinTo ps b k).toArray⟩ : ByteArray).size ≤ 1073741824 := by omega
        have hsb : (⟨p.toArray⟩ : ByteArray).size ≤ 1073741824 := by omega
        have hs1 : (strOfNums [(b.toNat : Int)]).size = 1 := by rw [strOfNums_size]; rfl
        have HO := Lib.hid (one_byte b)
        have hkp : (0 : Int) < (k : Int) := by omega
        have hc1 : ∀ o : Obj, (wr.alloc o).cell? ⟨bb, off + k, none⟩ = some (.string ⟨p.toArray⟩) := fun o => (World.cell?_alloc_lt wr o _ (show bb < wr.heap.size by omega)).trans hc
        have hs2 : ((⟨(joinTo ps b k).toArray⟩ : ByteArray) ++ strOfNums [(b.toNat : Int)]).size ≤ 1073741825 := by
          rw [ByteArray.size_append, hs1]; omega
        clear hp hps hs0
        generalize (⟨p.toArray⟩ : ByteArray) = tp at *
        generalize (⟨(joinTo ps b k).toArray⟩ : ByteArray) = tj at *
        go_wp2
        go_roundw
        case rel =>
          refine ⟨k + 1, by omega, by go_num, ?_, hbel.alloc hsz _⟩
          rw [HO.out, HM.out, HM2.out, HJ.out, List.append_assoc]
          rfl
        case measure => simp [intOf]; omega
    · obtain rfl : k = n := by omega
      have HE : Hid (joinTo ps b k = joinL ps b) := by
        unfold joinTo
        rw [List.take_of_length_le (by rw [HP.out]; exact Nat.le_refl _)]
        rfl
      go_wp2
      go_ret
      exact ⟨by rw [← HE.out]; rfl, hbel⟩
end Go.Proofs.YthaagngoefieaaaDoor
