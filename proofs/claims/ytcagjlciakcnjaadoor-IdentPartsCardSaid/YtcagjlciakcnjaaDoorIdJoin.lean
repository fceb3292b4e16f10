/-
  The walks of chapter 1's SameTexts, and of Join, the program's and the reference's. Conditions: the list reads as texts; their lengths are bounded.
-/
import Derived.Test.YtcagjlciakcnjaaDoorIdSplit
import Derived.Test.YtcagjlciakcnjaaDoorBuilder
import Derived.Test.YtcagjlciakcnjaaDoorShelf
import Derived.BigQuiet
import Derived.Deep.QuietTactic
namespace Go.Proofs.YtcagjlciakcnjaaDoor
open Go.ChangeShapes Go.WideShapes Go.ChangeAt Go.RowKit
set_option linter.unusedVariables false

/-- A slice value with address A and n elements of one cell reads as xs: nil let in; it lies below block B. -/
def Rd (w : World) (B : Nat) (A : Option Addr) (n : Nat) (xs : List Value) : Prop :=
  xs.length = n ∧ (0 < n → ∃ b off, A = some ⟨b, off, none⟩ ∧ b < B ∧ ∀ j u, xs[j]? = some u → w.cell? ⟨b, off + j, none⟩ = some u)
theorem rd_own {w : World} {base n : Nat} {e : TypeId} {v : Value} {xs : List Value} (h : w.ownsRow base e 1 v n xs) : ∃ A cap, v = .slice A n cap ∧ Rd w w.heap.size A n xs := by
  have hl : xs.length = n := by simpa using h.1
  rcases h.2 with ⟨rfl, rfl⟩ | ⟨g, cap, cur, rfl, _, hh, _⟩
  · exact ⟨none, 0, rfl, hl, fun h0 => absurd h0 (by omega)⟩
  · refine ⟨_, cap, rfl, hl, fun _ => ⟨g, 0, rfl, (Array.getElem?_eq_some_iff.1 hh).1, fun j u hu => ?_⟩⟩
    have hc := h.cells (g := g) rfl j u hu
    rwa [add_plain] at hc
theorem rd_below {w w' : World} {B n : Nat} {A : Option Addr} {xs : List Value} (h : Rd w B A n xs) (hb : Below B w w') : Rd w' B A n xs := by
  refine ⟨h.1, fun hn => ?_⟩
  obtain ⟨b, off, e, hlt, hc⟩ := h.2 hn
  exact ⟨b, off, e, hlt, fun j u hu => (hb.cell (p := ⟨b, off + j, none⟩) hlt).trans (hc j u hu)⟩
theorem bs_len (ps : List (List UInt8)) : (BS ps).length = ps.length := by simp [BS]
theorem rds_cell {w : World} {B n : Nat} {A : Option Addr} {ps : List (List UInt8)} (h : Rd w B A n (BS ps)) {k : Nat} (hk : k < n) :
    ∃ b off p, A = some ⟨b, off, none⟩ ∧ b < B ∧ ps[k]? = some p ∧ w.cell? ⟨b, off + k, none⟩ = some (.string ⟨p.toArray⟩) := by
  obtain ⟨b, off, e, hb, hc⟩ := h.2 (by omega)
  have hl : k < ps.length := by have := h.1; rw [bs_len] at this; omega
  exact ⟨b, off, ps[k], e, hb, List.getElem?_eq_getElem hl, hc k _ (by simp [BS, List.getElem?_eq_getElem hl])⟩

set_option maxHeartbeats 2000000 in
/-- Two lists that read alike. -/
theorem same_any (A A' : Option Addr) (n c c' B B' : Nat) (ps : List (List UInt8)) (w : World) (hn : n ≤ 1073741824) (h : Rd w B A n (BS ps)) (h' : Rd w B' A' n (BS ps)) :
    Calls Tryd.prog 18 #[.slice A n c, .slice A' n c'] w fun e w' => e = .returned (.bool true) ∧ Below w.heap.size w w' := by
  have H := Lib.hid h
  have H' := Lib.hid h'
  clear h h'
  go_enter Tryd.func18, Tryd.ntmps18
  go_wp2
  go_loopw [5] (fun i wr => ∃ k : Nat, k ≤ n ∧ i = .int .i64 k ∧ ∃ q, wr = w.drewN q) (fun i _ => n - (intOf i).toNat)
  case atStart => exact ⟨0, by omega, rfl, 0, rfl⟩
  case round =>
    obtain ⟨k, hk, rfl, q, rfl⟩ := hrel
    by_cases hlt : k < n
    · obtain ⟨b, off, p, rfl, hb, hp, hc⟩ := rds_cell H.out hlt
      obtain ⟨b', off', p', rfl, hb', hp', hc'⟩ := rds_cell H'.out hlt
      obtain rfl : p = p' := by rw [hp] at hp'; exact Option.some.inj hp'
      clear hp hp'
      have i1 : (k : Int) < (n : Int) := by omega
      generalize (⟨p.toArray⟩ : ByteArray) = t at *
      go_wp2
      go_quiet (fail)
      go_wp2
      go_roundw
      case rel => exact ⟨k + 1, by omega, by go_num, _, rfl⟩
      case measure => simp [intOf]; omega
    · go_wp2
      go_ret
      exact ⟨rfl, below_drewN (Below.refl _ _) _⟩

/-- What k texts are, joined. -/
def joinTo (ps : List (List UInt8)) (b : UInt8) (k : Nat) : List UInt8 := joinL (ps.take k) b
theorem joinTo_first (ps : List (List UInt8)) (b : UInt8) (p : List UInt8) (hp : ps[0]? = some p) : joinTo ps b 1 = p := by
  obtain ⟨hlt, rfl⟩ := List.getElem?_eq_some_iff.1 hp
  unfold joinTo
  rw [List.take_succ_eq_append_getElem hlt, joinL_snoc, if_pos (by simp)]
theorem joinTo_next (ps : List (List UInt8)) (b : UInt8) (k : Nat) (p : List UInt8) (hk : 0 < k) (hp : ps[k]? = some p) : joinTo ps b (k + 1) = joinTo ps b k ++ b :: p := by
  obtain ⟨hlt, rfl⟩ := List.getElem?_eq_some_iff.1 hp
  unfold joinTo
  rw [List.take_succ_eq_append_getElem hlt, joinL_snoc, if_neg]
  intro e
  have := congrArg List.length e
  rw [List.length_take, List.length_nil] at this
  omega
theorem joinTo_le (ps : List (List UInt8)) (b : UInt8) (k : Nat) (hk : k ≤ ps.length) : (joinTo ps b k).length ≤ (joinL ps b).length := by
  have h : ∀ j, k + j ≤ ps.length → (joinTo ps b k).length ≤ (joinTo ps b (k + j)).length := by
    intro j
    induction j with
    | zero => intro _; exact Nat.le_refl _
    | succ j ih =>
      intro hj
      have h1 := ih (by omega)
      have hp : ps[k + j]? = some (ps[k + j]'(by omega)) := List.getElem?_eq_getElem (by omega)
      by_cases h0 : k + j = 0
      · have : k = 0 := by omega
        subst this
        simp [joinTo, joinL]
      · have := joinTo_next ps b (k + j) _ (by omega) hp
        rw [← Nat.add_assoc, this, List.length_append]
        omega
  have := h (ps.length - k) (by omega)
  rw [show k + (ps.length - k) = ps.length from by omega] at this
  unfold joinTo at this ⊢
  rwa [List.take_length] at this
theorem bytes_snoc (l : List UInt8) (c : UInt8) : Lib.byteCells l ++ [.int .u8 (c.toNat : Int)] = Lib.byteCells (l ++ [c]) := by
  unfold Lib.byteCells
  rw [List.map_append]
  rfl
theorem bytes_str (l p : List UInt8) : Lib.byteCells l ++ Lib.strCells ⟨p.toArray⟩ = Lib.byteCells (l ++ p) := by
  unfold Lib.byteCells Lib.strCells
  rw [List.map_append]
theorem bytes_len (l : List UInt8) : (Lib.byteCells l).length = l.length := by simp [Lib.byteCells]
theorem str_size (p : List UInt8) : (⟨p.toArray⟩ : ByteArray).size = p.length := by simp [ByteArray.size]

set_option maxHeartbeats 2000000 in
theorem join_any (A : Option Addr) (n c B : Nat) (ps : List (List UInt8)) (b : UInt8) (w : World) (h : Rd w B A n (BS ps)) (hB : B ≤ w.heap.size) (hn : n ≤ 1073741824) (hl : (joinL ps b).length ≤ 1073741824) :
    Calls Tryd.prog 21 #[.slice A n c, .int .u8 (b.toNat : Int)] w fun e w' => e = .returned (.string ⟨(joinL ps b).toArray⟩) ∧ Below w.heap.size w w' := by
  have hpl : ps.length = n := by have := h.1; rwa [bs_len] at this
  have HP := Lib.hid hpl
  have HL : Hid (∀ k, k ≤ n → (joinTo ps b k).length ≤ 1073741824) := fun k hk => Nat.le_trans (joinTo_le ps b k (by omega)) hl
  have H := Lib.hid h
  clear h hpl hl
  go_enter Tryd.func21, Tryd.ntmps21
  go_wp2
  go_loopw [6, 7, 10] (fun _ _ i wr => ∃ k : Nat, k ≤ n ∧ i = .int .i64 k ∧ Lib.IsBuilder 42 5 w.heap.size w.heap.size (Lib.byteCells (joinTo ps b k)) wr ∧ Below w.heap.size w wr) (fun _ _ i _ => n - (intOf i).toNat)
  case atStart =>
    exact ⟨0, by omega, rfl, Lib.fresh_isBuilder _ _ w, (Below.refl _ _).alloc (Nat.le_refl _) _⟩
  case round =>
    obtain ⟨k, hk, rfl, hbu, hbel⟩ := hrel
    have hln := HL.out k hk
    have hsz := hbel.size
    by_cases hlt : k < n
    · obtain ⟨bb, off, p, rfl, hbb, hp, hc⟩ := rds_cell (rd_below H.out (hbel.mono hB)) hlt
      have hln1 := HL.out (k + 1) (by omega)
      have hps := str_size p
      by_cases h0 : k = 0
      · subst h0
        have HJ := Lib.hid (joinTo_first ps b p hp)
        rw [HJ.out] at hln1
        have hc0 : wr.cell? ⟨bb, off, none⟩ = some (.string ⟨p.toArray⟩) := hc
        clear hp hc
        go_wp2_with (go_at_call 28; refine (Builder_WriteString w.heap.size w.heap.size (Lib.byteCells (joinTo ps b 0)) ⟨p.toArray⟩ _ hbu (by rw [hps, bytes_len]; omega) hsz).mono ?_)
        rintro e w1 ⟨rfl, hbu1, hb1⟩
        go_wp2
        go_roundw
        case rel =>
          refine ⟨1, by omega, rfl, ?_, hbel.trans hb1⟩
          rw [HJ.out]
          exact Or.inr (bytes_str [] p ▸ hbu1)
        case measure => simp [intOf]; omega
      · have HJ := Lib.hid (joinTo_next ps b k p (by omega) hp)
        rw [HJ.out, List.length_append, List.length_cons] at hln1
        clear hp
        have hkp : (0 : Int) < (k : Int) := by omega
        go_wp2_with (go_at_call 27; refine (Builder_WriteByte w.heap.size w.heap.size (Lib.byteCells (joinTo ps b k)) _ _ hbu (by rw [bytes_len]; omega) hsz).mono ?_)
        rintro e w1 ⟨rfl, hbu1, hb1⟩
        rw [bytes_snoc] at hbu1
        have hsz1 := Nat.le_trans hsz hb1.size
        have hc1 := (hb1.cell (p := ⟨bb, off + k, none⟩) (show bb < w.heap.size by omega)).trans hc
        clear hc hbu
        go_wp2_with (go_at_call 28; refine (Builder_WriteString w.heap.size w.heap.size (Lib.byteCells (joinTo ps b k ++ [b])) ⟨p.toArray⟩ _ (Or.inr hbu1) (by rw [hps, bytes_len, List.length_append, List.length_singleton]; omega) hsz1).mono ?_)
        rintro e w2 ⟨rfl, hbu2, hb2⟩
        rw [bytes_str] at hbu2
        go_wp2
        go_roundw
        case rel =>
          refine ⟨k + 1, by omega, by go_num, ?_, (hbel.trans hb1).trans hb2⟩
          rw [HJ.out]
          rw [List.append_assoc] at hbu2
          exact Or.inr hbu2
        case measure => simp [intOf]; omega
    · obtain rfl : k = n := by omega
      have HE : Hid (joinTo ps b k = joinL ps b) := by
        unfold joinTo
        rw [List.take_of_length_le (by rw [HP.out]; exact Nat.le_refl _)]
        rfl
      rw [HE.out] at hbu
      go_wp2_with (go_at_call 29; refine (Tryd.Builder_String_any w.heap.size w.heap.size (joinL ps b) _ hbu hsz).mono ?_)
      rintro e w1 ⟨rfl, hb1⟩
      go_wp2
      go_ret
      exact ⟨rfl, hbel.trans hb1⟩

theorem conv_by (w : World) (c : Int) : (convert 40 9 (.slice (some ⟨w.heap.size, 0, none⟩) 1 1)).run Tryd.prog (w.alloc (.cells #[.int .u8 c] 5)) = .ok (.string (strOfNums [c])) (w.alloc (.cells #[.int .u8 c] 5)) := by
  refine run_convert_bytes_arg (P := Tryd.prog) _ 40 5 Tryd.underlying40 Tryd.underlying5 w.heap.size 0 1 1 [c] rfl (fun i hi => ?_) 9 Tryd.underlying9
  obtain rfl : i = 0 := by omega
  have := cell_one_new w (.int .u8 c) 5 0 _ rfl
  rw [add_plain] at this
  exact this
theorem mk_append (a b : List UInt8) : (⟨a.toArray⟩ : ByteArray) ++ ⟨b.toArray⟩ = ⟨(a ++ b).toArray⟩ := by
  apply ByteArray.ext
  rw [ByteArray.data_append]
  simp
theorem one_byte (b : UInt8) : strOfNums [(b.toNat : Int)] = ⟨[b].toArray⟩ := by
  apply ByteArray.ext
  apply Array.toList_inj.1
  rw [strOfNums_data]
  simp

set_option maxHeartbeats 2000000 in
theorem rjoin_any (A : Option Addr) (n c B : Nat) (ps : List (List UInt8)) (b : UInt8) (w : World) (h : Rd w B A n (BS ps)) (hB : B ≤ w.heap.size) (hn : n ≤ 1073741824) (hl : (joinL ps b).length ≤ 1073741824) :
    Calls Tryd.prog 22 #[.slice A n c, .int .u8 (b.toNat : Int)] w fun e w' => e = .returned (.string ⟨(joinL ps b).toArray⟩) ∧ Below w.heap.size w w' := by
  have hpl : ps.length = n := by have := h.1; rwa [bs_len] at this
  have HP := Lib.hid hpl
  have HL : Hid (∀ k, k ≤ n → (joinTo ps b k).length ≤ 1073741824) := fun k hk => Nat.le_trans (joinTo_le ps b k (by omega)) hl
  have H := Lib.hid h
  clear h hpl hl
  have hcv := conv_by
  go_enter Tryd.func22, Tryd.ntmps22
  go_wp2
  go_loopw [5, 6] (fun s i wr => ∃ k : Nat, k ≤ n ∧ i = .int .i64 k ∧ s = .string ⟨(joinTo ps b k).toArray⟩ ∧ Below w.heap.size w wr) (fun _ i _ => n - (intOf i).toNat)
  case atStart => exact ⟨0, by omega, rfl, rfl, Below.refl _ _⟩
  case round =>
    obtain ⟨k, hk, rfl, rfl, hbel⟩ := hrel
    have hln := HL.out k hk
    have hsz := hbel.size
    by_cases hlt : k < n
    · obtain ⟨bb, off, p, rfl, hbb, hp, hc⟩ := rds_cell (rd_below H.out (hbel.mono hB)) hlt
      have hln1 := HL.out (k + 1) (by omega)
      have hps := str_size p
      by_cases h0 : k = 0
      · subst h0
        have HJ := Lib.hid (joinTo_first ps b p hp)
        rw [HJ.out] at hln1
        have hc0 : wr.cell? ⟨bb, off, none⟩ = some (.string ⟨p.toArray⟩) := hc
        clear hc
        have HM := Lib.hid (mk_append (joinTo ps b 0) p)
        have hs0 := str_size (joinTo ps b 0)
        have hsa : (⟨(joinTo ps b 0).toArray⟩ : ByteArray).size ≤ 1073741824 := by omega
        have hsb : (⟨p.toArray⟩ : ByteArray).size ≤ 1073741824 := by omega
        clear hp hps hs0
        generalize (⟨p.toArray⟩ : ByteArray) = tp at *
        generalize (⟨(joinTo ps b 0).toArray⟩ : ByteArray) = tj at *
        go_wp2
        go_roundw
        case rel =>
          refine ⟨1, by omega, rfl, ?_, hbel⟩
          rw [HM.out, HJ.out]
          rfl
        case measure => simp [intOf]; omega
      · have HJ := Lib.hid (joinTo_next ps b k p (by omega) hp)
        rw [HJ.out, List.length_append, List.length_cons] at hln1
        have HM := Lib.hid (mk_append (joinTo ps b k) [b])
        have HM2 := Lib.hid (mk_append (joinTo ps b k ++ [b]) p)
        have hs0 := str_size (joinTo ps b k)
        have hsa : (⟨(joinTo ps b k).toArray⟩ : ByteArray).size ≤ 1073741824 := by omega
        have hsb : (⟨p.toArray⟩ : ByteArray).size ≤ 1073741824 := by omega
        have hs1 : (strOfNums [(b.toNat : Int)]).size = 1 := by rw [strOfNums_size]; rfl
        have HO := Lib.hid (one_byte b)
        have hkp : (0 : Int) < (k : Int) := by omega
        have hc1 : ∀ o : Obj, (wr.alloc o).cell? ⟨bb, off + k, none⟩ = some (.string ⟨p.toArray⟩) := fun o => (World.cell?_alloc_lt wr o _ (show bb < wr.heap.size by omega)).trans hc
        have hs2 : ((⟨(joinTo ps b k).toArray⟩ : ByteArray) ++ strOfNums [(b.toNat : Int)]).size ≤ 1073741825 := by
          rw [ByteArray.size_append, hs1]; omega
        clear hp hps hs0
        generalize (⟨p.toArray⟩ : ByteArray) = tp at *
        generalize (⟨(joinTo ps b k).toArray⟩ : ByteArray) = tj at *
        go_wp2
        go_roundw
        case rel =>
          refine ⟨k + 1, by omega, by go_num, ?_, hbel.alloc hsz _⟩
          rw [HO.out, HM.out, HM2.out, HJ.out, List.append_assoc]
          rfl
        case measure => simp [intOf]; omega
    · obtain rfl : k = n := by omega
      have HE : Hid (joinTo ps b k = joinL ps b) := by
        unfold joinTo
        rw [List.take_of_length_le (by rw [HP.out]; exact Nat.le_refl _)]
        rfl
      go_wp2
      go_ret
      exact ⟨by rw [← HE.out]; rfl, hbel⟩
end Go.Proofs.YtcagjlciakcnjaaDoor
