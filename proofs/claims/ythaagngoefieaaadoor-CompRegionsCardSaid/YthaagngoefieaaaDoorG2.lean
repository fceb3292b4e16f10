/-
  Merged parts, one behind another; each says ahead what it proves: IdSplit Rd IdNumber IdRNumber IdDigits VTag VTags VPre VMay Cells.
-/
import Derived.Test.YthaagngoefieaaaDoorG1
import Derived.Lib.Strings
import Derived.BigQuiet
import Derived.Deep.QuietTactic
import Derived.Test.YthaagngoefieaaaDoorShelf
import Derived.Lib.AppendIntMem
import Derived.Lib.ItoaLen
import Derived.Deep.LoopGhost

/-
  The walks of chapter 1's Split, the program's and the reference's. Conditions: the string is no longer than a string can be.
-/
section
namespace Go.Proofs.YthaagngoefieaaaDoor
open Go.ChangeShapes Go.WideShapes Go.ChangeAt Go.RowKit
set_option linter.unusedVariables false

/-- A list of texts as cells. -/
def BS (ps : List (List UInt8)) : List Value := ps.map fun p => .string ⟨p.toArray⟩
theorem bs_snoc (ps : List (List UInt8)) (p : List UInt8) (t : ByteArray) (ht : t.data.toList = p) : BS ps ++ [.string t] = BS (ps ++ [p]) := by
  unfold BS
  rw [List.map_append]
  congr 2
  subst ht
  rfl
theorem info_str : (Tryd.prog.info? 9).map (fun i => (i.zero, i.size, i.bytes)) = some (some (.string ByteArray.empty), 1, 16) := by kernel_rfl
theorem ext_list (s : ByteArray) (a b : Nat) : (s.extract a b).data.toList = (s.data.toList.take b).drop a := by
  rw [Lib.extract_data, List.drop_take]

theorem split_yes {s : ByteArray} {b : UInt8} {k : Nat} (h : k < s.size) (hb : s[k] = b) :
    splitF s.data.toList b (k + 1) = ((splitF s.data.toList b k).1 ++ [(s.data.toList.take k).drop (splitF s.data.toList b k).2], k + 1) := by
  rw [splitF, if_pos (by rw [at_get s k h]; exact hb)]
theorem split_no {s : ByteArray} {b : UInt8} {k : Nat} (h : k < s.size) (hb : s[k] ≠ b) : splitF s.data.toList b (k + 1) = splitF s.data.toList b k := by
  rw [splitF, if_neg (by rw [at_get s k h]; exact hb)]
theorem splitF_len (l : List UInt8) (b : UInt8) (k : Nat) : (splitF l b k).1.length ≤ k := by
  induction k with
  | zero => exact Nat.le_refl _
  | succ k ih =>
    unfold splitF
    split
    · simp; omega
    · omega

set_option maxHeartbeats 2000000 in
theorem split_any (s : ByteArray) (b : UInt8) (w : World) (hs : s.size ≤ 1048576) :
    Calls Tryd.prog 50 #[.string s, .int .u8 (b.toNat : Int)] w fun e w' => (∃ v, e = .returned v ∧ w'.ownsRow w.heap.size 9 1 v (splitL s.data.toList b).length (BS (splitL s.data.toList b))) ∧ Below w.heap.size w w' := by
  obtain ⟨i0, hi0, hz0, hz1, hz2⟩ := info_parts info_str
  go_enter Tryd.func50, Tryd.ntmps50
  go_wp2
  go_loopw [5, 6, 7, 10] (fun v f _ i wr => ∃ k : Nat, k ≤ s.size ∧ i = .int .i64 k ∧ f = .int .i64 ((splitF s.data.toList b k).2 : Int) ∧ wr.ownsRow w.heap.size 9 1 v (splitF s.data.toList b k).1.length (BS (splitF s.data.toList b k).1) ∧ Below w.heap.size w wr) (fun _ _ _ i _ => s.size - (intOf i).toNat)
  case atStart => exact ⟨0, by omega, rfl, rfl, World.ownsRow_nil _ _ _ _, Below.refl _ _⟩
  case round =>
    obtain ⟨k, hk, rfl, rfl, hown, hbel⟩ := hrel
    have hlen := splitF_len s.data.toList b k
    have hfr := splitF_from s.data.toList b k
    have hsz := hbel.size
    by_cases hlt : k < s.size
    · by_cases hb : s[k] = b
      · have HS := Lib.hid (split_yes hlt hb)
        have HX := Lib.hid (ext_list s (splitF s.data.toList b k).2 k)
        have hbb : ((s[k].toNat : Int) == (b.toNat : Int)) = true := by simp [hb]
        clear hb
        generalize splitF s.data.toList b k = F at *
        obtain ⟨ps, fr⟩ := F
        simp only at hown hlen hfr HS HX ⊢
        go_wp2_with (at_builtin; refine wpList_append_one wr rfl (.tmp 18) (.tmp 23) 57 rfl w.heap.size 9 i0 (.string ByteArray.empty) 16 Tryd.underlying57 hi0 hz0 hz1 hz2 rfl _ _ _ (.string (s.extract fr k)) hown rfl rfl rfl (by omega) (by omega) hsz ?_; intro v' w1 hown' hb1)
        go_roundw
        case rel =>
          refine ⟨k + 1, by omega, by go_num, by rw [HS.out]; go_num, ?_, hbel.trans hb1⟩
          rw [HS.out]
          simp only [List.length_append, List.length_cons, List.length_nil]
          rw [← bs_snoc ps _ _ HX.out]
          exact hown'
        case measure => simp [intOf]; omega
      · have HS := Lib.hid (split_no hlt hb)
        have hbb : ((s[k].toNat : Int) == (b.toNat : Int)) = false := by
          rw [beq_eq_false_iff_ne]
          exact fun e => hb (UInt8.toNat_inj.1 (by omega))
        clear hb
        generalize splitF s.data.toList b k = F at *
        obtain ⟨ps, fr⟩ := F
        simp only at hown hlen hfr HS ⊢
        go_wp2
        go_roundw
        case rel =>
          refine ⟨k + 1, by omega, by go_num, by rw [HS.out], ?_, hbel⟩
          rw [HS.out]
          exact hown
        case measure => simp [intOf]; omega
    · obtain rfl : k = s.size := by omega
      have HL : Hid (splitL s.data.toList b = (splitF s.data.toList b s.size).1 ++ [s.data.toList.drop (splitF s.data.toList b s.size).2]) := by
        unfold splitL
        rw [len_size]
        rfl
      have HX := Lib.hid (ext_list s (splitF s.data.toList b s.size).2 s.size)
      generalize splitF s.data.toList b s.size = F at *
      obtain ⟨ps, fr⟩ := F
      simp only at hown hlen hfr HL HX ⊢
      go_wp2_with (at_builtin; refine wpList_append_one wr rfl (.tmp 28) (.tmp 32) 57 rfl w.heap.size 9 i0 (.string ByteArray.empty) 16 Tryd.underlying57 hi0 hz0 hz1 hz2 rfl _ _ _ (.string (s.extract fr s.size)) hown rfl rfl rfl (by omega) (by omega) hsz ?_; intro v' w1 hown' hb1)
      go_ret
      refine ⟨⟨v', rfl, ?_⟩, hbel.trans hb1⟩
      rw [HL.out]
      simp only [List.length_append, List.length_cons, List.length_nil]
      rw [← bs_snoc ps _ _ (by rw [HX.out, List.take_of_length_le (by rw [len_size]; exact Nat.le_refl _)])]
      exact hown'

set_option maxHeartbeats 2000000 in
theorem rsplit_any (s : ByteArray) (b : UInt8) (w : World) (hs : s.size ≤ 1048576) :
    Calls Tryd.prog 37 #[.string s, .int .u8 (b.toNat : Int)] w fun e w' => (∃ v, e = .returned v ∧ w'.ownsRow w.heap.size 9 1 v (splitL s.data.toList b).length (BS (splitL s.data.toList b))) ∧ Below w.heap.size w w' := by
  obtain ⟨i0, hi0, hz0, hz1, hz2⟩ := info_parts info_str
  go_enter Tryd.func37, Tryd.ntmps37
  go_wp2
  go_loopw [5, 6, 7] (fun v f i wr => ∃ k : Nat, k ≤ s.size ∧ i = .int .i64 k ∧ f = .int .i64 ((splitF s.data.toList b k).2 : Int) ∧ wr.ownsRow w.heap.size 9 1 v (splitF s.data.toList b k).1.length (BS (splitF s.data.toList b k).1) ∧ Below w.heap.size w wr) (fun _ _ i _ => s.size - (intOf i).toNat)
  case atStart => exact ⟨0, by omega, rfl, rfl, World.ownsRow_nil _ _ _ _, Below.refl _ _⟩
  case round =>
    obtain ⟨k, hk, rfl, rfl, hown, hbel⟩ := hrel
    have hlen := splitF_len s.data.toList b k
    have hfr := splitF_from s.data.toList b k
    have hsz := hbel.size
    by_cases hlt : k < s.size
    · by_cases hb : s[k] = b
      · have HS := Lib.hid (split_yes hlt hb)
        have HX := Lib.hid (ext_list s (splitF s.data.toList b k).2 k)
        have hbb : ((s[k].toNat : Int) == (b.toNat : Int)) = true := by simp [hb]
        clear hb
        generalize splitF s.data.toList b k = F at *
        obtain ⟨ps, fr⟩ := F
        simp only at hown hlen hfr HS HX ⊢
        go_wp2_with (at_builtin; refine wpList_append_one wr rfl (.tmp 19) (.tmp 24) 57 rfl w.heap.size 9 i0 (.string ByteArray.empty) 16 Tryd.underlying57 hi0 hz0 hz1 hz2 rfl _ _ _ (.string (s.extract fr k)) hown rfl rfl rfl (by omega) (by omega) hsz ?_; intro v' w1 hown' hb1)
        go_roundw
        case rel =>
          refine ⟨k + 1, by omega, by go_num, by rw [HS.out]; go_num, ?_, hbel.trans hb1⟩
          rw [HS.out]
          simp only [List.length_append, List.length_cons, List.length_nil]
          rw [← bs_snoc ps _ _ HX.out]
          exact hown'
        case measure => simp [intOf]; omega
      · have HS := Lib.hid (split_no hlt hb)
        have hbb : ((s[k].toNat : Int) == (b.toNat : Int)) = false := by
          rw [beq_eq_false_iff_ne]
          exact fun e => hb (UInt8.toNat_inj.1 (by omega))
        clear hb
        generalize splitF s.data.toList b k = F at *
        obtain ⟨ps, fr⟩ := F
        simp only at hown hlen hfr HS ⊢
        go_wp2
        go_roundw
        case rel =>
          refine ⟨k + 1, by omega, by go_num, by rw [HS.out], ?_, hbel⟩
          rw [HS.out]
          exact hown
        case measure => simp [intOf]; omega
    · obtain rfl : k = s.size := by omega
      have HL : Hid (splitL s.data.toList b = (splitF s.data.toList b s.size).1 ++ [s.data.toList.drop (splitF s.data.toList b s.size).2]) := by
        unfold splitL
        rw [len_size]
        rfl
      have HX := Lib.hid (ext_list s (splitF s.data.toList b s.size).2 s.size)
      generalize splitF s.data.toList b s.size = F at *
      obtain ⟨ps, fr⟩ := F
      simp only at hown hlen hfr HL HX ⊢
      go_wp2_with (at_builtin; refine wpList_append_one wr rfl (.tmp 28) (.tmp 32) 57 rfl w.heap.size 9 i0 (.string ByteArray.empty) 16 Tryd.underlying57 hi0 hz0 hz1 hz2 rfl _ _ _ (.string (s.extract fr s.size)) hown rfl rfl rfl (by omega) (by omega) hsz ?_; intro v' w1 hown' hb1)
      go_ret
      refine ⟨⟨v', rfl, ?_⟩, hbel.trans hb1⟩
      rw [HL.out]
      simp only [List.length_append, List.length_cons, List.length_nil]
      rw [← bs_snoc ps _ _ (by rw [HX.out, List.take_of_length_le (by rw [len_size]; exact Nat.le_refl _)])]
      exact hown'

end Go.Proofs.YthaagngoefieaaaDoor
end

/-
  Rows of strings in memory, read. Conditions: none.
-/
section
namespace Go.Proofs.YthaagngoefieaaaDoor
open Go.ChangeShapes Go.WideShapes Go.ChangeAt Go.RowKit
set_option linter.unusedVariables false

/-- A slice value with address A and n elements of one cell reads as xs: nil let in; it lies below block B. -/
def Rd (w : World) (B : Nat) (A : Option Addr) (n : Nat) (xs : List Value) : Prop :=
  xs.length = n ∧ (0 < n → ∃ b off, A = some ⟨b, off, none⟩ ∧ b < B ∧ ∀ j u, xs[j]? = some u → w.cell? ⟨b, off + j, none⟩ = some u)
theorem rd_own {w : World} {base n : Nat} {e : TypeId} {v : Value} {xs : List Value} (h : w.ownsRow base e 1 v n xs) : ∃ A cap, v = .slice A n cap ∧ Rd w w.heap.size A n xs := by
  have hl : xs.length = n := by simpa using h.1
  rcases h.2 with ⟨rfl, rfl⟩ | ⟨g, cap, cur, rfl, _, hh, _⟩
  · exact ⟨none, 0, rfl, hl, fun h0 => absurd h0 (by omega)⟩
  · refine ⟨_, cap, rfl, hl, fun _ => ⟨g, 0, rfl, (Array.getElem?_eq_some_iff.1 hh).1, fun j u hu => ?_⟩⟩
    have hc := h.cells (g := g) rfl j u hu
    rwa [add_plain] at hc
theorem rd_below {w w' : World} {B n : Nat} {A : Option Addr} {xs : List Value} (h : Rd w B A n xs) (hb : Below B w w') : Rd w' B A n xs := by
  refine ⟨h.1, fun hn => ?_⟩
  obtain ⟨b, off, e, hlt, hc⟩ := h.2 hn
  exact ⟨b, off, e, hlt, fun j u hu => (hb.cell (p := ⟨b, off + j, none⟩) hlt).trans (hc j u hu)⟩
theorem bs_len (ps : List (List UInt8)) : (BS ps).length = ps.length := by simp [BS]
theorem rds_cell {w : World} {B n : Nat} {A : Option Addr} {ps : List (List UInt8)} (h : Rd w B A n (BS ps)) {k : Nat} (hk : k < n) :
    ∃ b off p, A = some ⟨b, off, none⟩ ∧ b < B ∧ ps[k]? = some p ∧ w.cell? ⟨b, off + k, none⟩ = some (.string ⟨p.toArray⟩) := by
  obtain ⟨b, off, e, hb, hc⟩ := h.2 (by omega)
  have hl : k < ps.length := by have := h.1; rw [bs_len] at this; omega
  exact ⟨b, off, ps[k], e, hb, List.getElem?_eq_getElem hl, hc k _ (by simp [BS, List.getElem?_eq_getElem hl])⟩

theorem str_size (p : List UInt8) : (⟨p.toArray⟩ : ByteArray).size = p.length := by simp [ByteArray.size]
theorem back (s : ByteArray) : (⟨s.data.toList.toArray⟩ : ByteArray) = s := by
  obtain ⟨a⟩ := s
  simp
end Go.Proofs.YthaagngoefieaaaDoor
end

/-
  The walk of chapter 1's Number, the program's: it returns the number that the string denotes. Conditions: the string is no longer than a string can be.
-/
section
namespace Go.Proofs.YthaagngoefieaaaDoor
open Go.ChangeShapes Go.WideShapes Go.ChangeAt Go.RowKit
set_option linter.unusedVariables false

set_option maxHeartbeats 2000000 in
theorem number_any (s : ByteArray) (w : World) (hs : s.size ≤ maxLen) :
    Calls Tryd.prog 66 #[.string s] w fun e w' => e = .returned (.tuple #[.int .i64 ((numB s.data.toList).1 : Int), .bool (numB s.data.toList).2]) ∧ Below w.heap.size w w' := by
  unfold maxLen at hs
  have hl := len_size s
  by_cases h0 : s.size = 0
  · have hN := Lib.hid (num_no (l := s.data.toList) (Or.inl (by omega)))
    generalize numB s.data.toList = R at *
    obtain rfl := empty_is h0
    clear h0 hl hs
    go_enter Tryd.func66, Tryd.ntmps66
    go_wp2
    go_ret2
    exact ⟨by rw [hN.out]; rfl, Below.refl _ _⟩
  · obtain ⟨he1, he2⟩ := empty_no (s := s) (by omega)
    have hp0 : 0 < s.size := by omega
    have hg := getD_nat s 0 hp0
    by_cases h16 : 4 < s.size
    · have hN := Lib.hid (num_no (l := s.data.toList) (Or.inr (Or.inl (by omega))))
      generalize numB s.data.toList = R at *
      clear hl hg
      go_enter Tryd.func66, Tryd.ntmps66
      go_wp2
      go_ret2
      exact ⟨by rw [hN.out]; rfl, Below.refl _ _⟩
    · have h16' : ((4 : Int) < (s.size : Int)) = False := by simp; omega
      by_cases hz : 1 < s.size ∧ (s[0]'hp0).toNat = 48
      · obtain ⟨hz1, hz2⟩ := hz
        have hN := Lib.hid (num_no (l := s.data.toList) (Or.inr (Or.inr (Or.inl ⟨by omega, by omega⟩))))
        have hzb : (((s[0]'hp0).toNat : Int) == 48) = true := by simp; omega
        generalize numB s.data.toList = R at *
        clear hl hg hz2
        go_enter Tryd.func66, Tryd.ntmps66
        go_wp2
        go_ret2
        exact ⟨by rw [hN.out]; rfl, Below.refl _ _⟩
      · have hz3 : s.data.toList.length = 1 ∨ (s.data.toList.getD 0 0).toNat ≠ 48 := by omega
        have HZ := Lib.hid hz3
        have HL := Lib.hid hl
        generalize hR : numB s.data.toList = R
        have HR := Lib.hid hR
        clear hz3 hl hR hg
        by_cases hz2 : (s[0]'hp0).toNat = 48
        all_goals
          first
          | (have hzb : (((s[0]'hp0).toNat : Int) == 48) = true := by simp; omega
             have hs1 : s.size = 1 := by omega
             have hs2 : decide ((1 : Int) < (s.size : Int)) = false := by simp; omega
             have HS := Lib.hid hs1
             clear hs1)
          | have hzb : (((s[0]'hp0).toNat : Int) == 48) = false := by simp; omega
          clear hz2 hz
          go_enter Tryd.func66, Tryd.ntmps66
          go_wp2
          go_loopw [4, 6] (fun n _ wr => ∃ k : Nat, k ≤ s.size ∧ wr = w.iter s k ∧ n = .int .i64 (valL (s.data.toList.take k) : Int) ∧ (s.data.toList.take k).all digB = true) (fun _ _ wr => s.size - wr.iterPos w.heap.size)
          case atStart => exact ⟨0, by omega, rfl, rfl, rfl⟩
          case round =>
            obtain ⟨k, hk, rfl, rfl, hp⟩ := hrel
            have HQ := Lib.hid hp
            have hbd := val_bd (l := s.data.toList) (by rw [HL.out]; exact hk) hp
            have hpow : 10 ^ k ≤ 10 ^ 4 := Nat.pow_le_pow_right (by omega) (by omega)
            have hv4 : valL (s.data.toList.take k) < 10000 := by omega
            clear hp hbd hpow
            by_cases hlt : k < s.size
            · by_cases c1 : 48 ≤ s[k].toNat ∧ s[k].toNat ≤ 57
              · obtain ⟨d1, d2⟩ := c1
                have hnx := fun ty => run_next_ascii (P := Tryd.prog) w s k ty hlt (by omega)
                have hst := num_step hlt HQ.out d1 d2
                have HP := Lib.hid hst
                clear hst
                generalize valL (s.data.toList.take k) = v at *
                have e2 : (48 : Int) ≤ (s[k].toNat : Int) := by omega
                have e3 : (s[k].toNat : Int) ≤ 57 := by omega
                go_wp2
                go_roundw
                case rel => exact ⟨k + 1, by omega, rfl, by rw [← HP.out.2], HP.out.1⟩
                case measure => simp; omega
              · have HF := Lib.hid (num_stop hlt c1)
                generalize valL (s.data.toList.take k) = v at *
                by_cases ha : s[k].toNat < 128
                · have hnx := fun ty => run_next_ascii (P := Tryd.prog) w s k ty hlt ha
                  have e2 : (s[k].toNat : Int) < 48 ∨ 57 < (s[k].toNat : Int) := by omega
                  clear c1
                  go_wp2
                  all_goals first | (exfalso; omega) | (go_ret2; exact ⟨by rw [← HR.out, HF.out]; rfl, iter_below _ _ _⟩)
                · have hnx := fun ty => run_next_any (P := Tryd.prog) w s k ty hlt
                  have hd := (decode_high s k hlt (by omega)).1
                  clear ha c1
                  generalize (Utf8.decode s k).1 = r at *
                  generalize k + (Utf8.decode s k).2 = k2 at *
                  have e1 : (128 : Int) ≤ (r : Int) := by omega
                  go_wp2
                  go_ret2
                  exact ⟨by rw [← HR.out, HF.out]; rfl, iter_below _ _ _⟩
            · obtain rfl : k = s.size := by omega
              have HE : Hid (numB s.data.toList = (valL (s.data.toList.take s.size), true)) := by
                have ht : s.data.toList.take s.size = s.data.toList := List.take_of_length_le (by rw [HL.out]; omega)
                have hq := HQ.out
                rw [ht] at hq ⊢
                exact num_yes (by rw [HL.out]; omega) (by rw [HL.out]; omega) HZ.out hq
              have hnx := fun ty => run_next_end (P := Tryd.prog) w s s.size ty hlt
              generalize valL (s.data.toList.take s.size) = v at *
              have hv5 : decide ((v : Int) ≤ 9999) = true := by simp; omega
              go_wp2
              go_ret2
              exact ⟨by rw [← HR.out, HE.out]; rfl, iter_below _ _ _⟩
end Go.Proofs.YthaagngoefieaaaDoor
end

/-
  The walks of chapter 1's reference functions digit and Number. Conditions: the string is no longer than a string can be.
-/
section
namespace Go.Proofs.YthaagngoefieaaaDoor
open Go.ChangeShapes Go.WideShapes Go.ChangeAt Go.RowKit
set_option linter.unusedVariables false

theorem rdigit_yes (c : Int) (h1 : 48 ≤ c) (h2 : c ≤ 57) (w : World) : Calls Tryd.prog 96 #[.int .u8 c] w fun e w' => e = .returned (.bool true) ∧ w = w' := by
  go_enter Tryd.func96, Tryd.ntmps96
  go_wp2
  go_ret
  exact ⟨by simp, rfl⟩
theorem rdigit_no (c : Int) (h : c < 48 ∨ 57 < c) (w : World) : Calls Tryd.prog 96 #[.int .u8 c] w fun e w' => e = .returned (.bool false) ∧ w = w' := by
  rcases h with h | h
  · go_enter Tryd.func96, Tryd.ntmps96
    go_wp2
    go_ret
    exact ⟨rfl, rfl⟩
  · have h2 : decide (c ≤ 57) = false := by simp; omega
    have h3 : 48 ≤ c := by omega
    go_enter Tryd.func96, Tryd.ntmps96
    go_wp2
    go_ret
    exact ⟨rfl, rfl⟩

theorem num_big {l : List UInt8} (h : 4 < l.length) (hd : l.all digB = true) (h0 : (l.getD 0 0).toNat ≠ 48) : 9999 < valL l := by
  have := valL_ge l hd (fun e => h0 (by rw [e]; rfl)) (l.length - 1) (by omega)
  rw [show l.length - 1 + 1 = l.length from by omega, List.take_length] at this
  have h4 : 10 ^ 4 ≤ 10 ^ (l.length - 1) := Nat.pow_le_pow_right (by omega) (by omega)
  omega

set_option maxHeartbeats 2000000 in
theorem rnumber_any (s : ByteArray) (w : World) (hs : s.size ≤ maxLen) :
    Calls Tryd.prog 68 #[.string s] w fun e w' => e = .returned (.tuple #[.int .i64 ((numB s.data.toList).1 : Int), .bool (numB s.data.toList).2]) ∧ w = w' := by
  unfold maxLen at hs
  have hl := len_size s
  by_cases h0 : s.size < 1
  · have hN := Lib.hid (num_no (l := s.data.toList) (Or.inl (by omega)))
    generalize numB s.data.toList = R at *
    clear hl
    go_enter Tryd.func68, Tryd.ntmps68
    go_wp2
    go_ret2
    exact ⟨by rw [hN.out]; rfl, rfl⟩
  · have hp0 : 0 < s.size := by omega
    have hg := getD_nat s 0 hp0
    by_cases h16 : 9 < s.size
    · have hN := Lib.hid (num_no (l := s.data.toList) (Or.inr (Or.inl (by omega))))
      generalize numB s.data.toList = R at *
      clear hl hg
      go_enter Tryd.func68, Tryd.ntmps68
      go_wp2
      go_ret2
      exact ⟨by rw [hN.out]; rfl, rfl⟩
    · have h00 : ((s.size : Int) < 1) = False := by simp; omega
      have h16' : ((9 : Int) < (s.size : Int)) = False := by simp; omega
      by_cases hz : 1 < s.size ∧ (s[0]'hp0).toNat = 48
      · obtain ⟨hz1, hz2⟩ := hz
        have hN := Lib.hid (num_no (l := s.data.toList) (Or.inr (Or.inr (Or.inl ⟨by omega, by omega⟩))))
        have hzb : (((s[0]'hp0).toNat : Int) == 48) = true := by simp; omega
        generalize numB s.data.toList = R at *
        clear hl hg hz2
        go_enter Tryd.func68, Tryd.ntmps68
        go_wp2
        go_ret2
        exact ⟨by rw [hN.out]; rfl, rfl⟩
      · have hz3 : s.data.toList.length = 1 ∨ (s.data.toList.getD 0 0).toNat ≠ 48 := by omega
        have HZ := Lib.hid hz3
        have HL := Lib.hid hl
        generalize hR : numB s.data.toList = R
        have HR := Lib.hid hR
        clear hz3 hl hR hg
        by_cases hs1 : s.size = 1
        all_goals
          first
          | (have hs2 : decide ((1 : Int) < (s.size : Int)) = false := by simp; omega
             have HS := Lib.hid hs1
             clear hs1)
          | (have hs2 : (1 : Int) < (s.size : Int) := by omega
             have hzb : (((s[0]'hp0).toNat : Int) == 48) = false := by simp; omega)
          clear hz
          go_enter Tryd.func68, Tryd.ntmps68
          go_wp2
          go_loop [4, 5] (fun n i => ∃ k : Nat, k ≤ s.size ∧ i = .int .i64 k ∧ n = .int .i64 (valL (s.data.toList.take k) : Int) ∧ (s.data.toList.take k).all digB = true) (fun _ i => s.size - (intOf i).toNat)
          case atStart => exact ⟨0, by omega, rfl, rfl, rfl⟩
          case round =>
            obtain ⟨k, hk, rfl, rfl, hp⟩ := hrel
            have HQ := Lib.hid hp
            have hbd := val_bd (l := s.data.toList) (by rw [HL.out]; exact hk) hp
            have hpow : 10 ^ k ≤ 10 ^ 9 := Nat.pow_le_pow_right (by omega) (by omega)
            have hv4 : valL (s.data.toList.take k) < 1000000000 := by omega
            clear hp hbd hpow
            by_cases hlt : k < s.size
            · by_cases c1 : 48 ≤ s[k].toNat ∧ s[k].toNat ≤ 57
              · obtain ⟨d1, d2⟩ := c1
                have hst := num_step hlt HQ.out d1 d2
                have HP := Lib.hid hst
                clear hst
                generalize valL (s.data.toList.take k) = v at *
                have e2 : (48 : Int) ≤ (s[k].toNat : Int) := by omega
                have e3 : (s[k].toNat : Int) ≤ 57 := by omega
                go_wp2_with (go_at_call 96; refine (rdigit_yes _ e2 e3 _).mono ?_; rintro e w' ⟨rfl, rfl⟩)
                go_round
                case rel => exact ⟨k + 1, by omega, by go_num, by rw [← HP.out.2]; go_num, HP.out.1⟩
                case measure => simp [intOf]; omega
              · have HF := Lib.hid (num_stop hlt c1)
                generalize valL (s.data.toList.take k) = v at *
                have e2 : (s[k].toNat : Int) < 48 ∨ 57 < (s[k].toNat : Int) := by omega
                clear c1
                go_wp2_with (go_at_call 96; refine (rdigit_no _ e2 _).mono ?_; rintro e w' ⟨rfl, rfl⟩)
                go_ret2
                exact ⟨by rw [← HR.out, HF.out]; rfl, rfl⟩
            · obtain rfl : k = s.size := by omega
              have ht : s.data.toList.take s.size = s.data.toList := List.take_of_length_le (by rw [HL.out]; omega)
              have hq := HQ.out
              by_cases h4 : 4 < s.size
              · have HE := Lib.hid (num_no (l := s.data.toList) (Or.inr (Or.inl (by rw [HL.out]; exact h4))))
                have hbig : 9999 < valL (s.data.toList.take s.size) := by
                  rw [ht] at hq ⊢
                  exact num_big (by rw [HL.out]; exact h4) hq (by have := HZ.out; rw [HL.out] at this; omega)
                clear ht hq
                generalize valL (s.data.toList.take s.size) = v at *
                have hv5 : (9999 : Int) < (v : Int) := by omega
                go_wp2
                go_ret2
                exact ⟨by rw [← HR.out, HE.out]; rfl, rfl⟩
              · have HE : Hid (numB s.data.toList = (valL (s.data.toList.take s.size), true)) := by
                  rw [ht] at hq ⊢
                  exact num_yes (by rw [HL.out]; omega) (by rw [HL.out]; omega) HZ.out hq
                have hbd := val_bd (l := s.data.toList) (k := s.size) (by rw [HL.out]; exact Nat.le_refl _) hq
                have hpow : 10 ^ s.size ≤ 10 ^ 4 := Nat.pow_le_pow_right (by omega) (by omega)
                clear ht hq
                generalize valL (s.data.toList.take s.size) = v at *
                have hv5 : (v : Int) ≤ 9999 := by omega
                clear hbd hpow
                go_wp2
                go_ret2
                exact ⟨by rw [← HR.out, HE.out]; rfl, rfl⟩
end Go.Proofs.YthaagngoefieaaaDoor
end

/-
  The walks of chapter 1's Digits, the program's and the reference's: a number's decimal digits. Conditions: strconv's table reads as it is laid.
-/
section
namespace Go.Proofs.YthaagngoefieaaaDoor
open Go.ChangeShapes Go.WideShapes Go.ChangeAt Go.RowKit
set_option linter.unusedVariables false

/-- strconv's table reads as it is laid. -/
def Tab (w : World) : Prop := Lib.TabIs Tryd.prog w "internal/strconv.uint64pow10" .u64 Lib.pow10Tab
theorem tab_below {w w' : World} (h : Tab w) (hb : Below w.heap.size w w') : Tab w' := (Lib.tabBelow_of_tabIs h) w' hb

set_option maxHeartbeats 1000000 in
theorem digits_any (n : Int) (w : World) (h0 : -9223372036854775808 ≤ n) (h1 : n ≤ 9223372036854775807) (htab : Tab w) :
    Calls Tryd.prog 40 #[.int .i64 n] w fun e w' => e = .returned (.string ⟨(Lib.itoa n).toArray⟩) ∧ Below w.heap.size w w' := by
  have HT := Lib.hid htab
  clear htab
  go_enter Tryd.func40, Tryd.ntmps40
  go_wp2_with (go_at_call 69; refine (Tryd.strconv_Itoa _ h0 h1 _ HT.out).mono ?_)
  rintro e w1 ⟨rfl, k, os, hw⟩
  have hb := Lib.below_grow w.heap.size w (Nat.le_refl _) k os
  rw [← hw] at hb
  clear hw
  go_wp2
  go_ret
  exact ⟨rfl, hb⟩

theorem conv_one (w : World) (c : Int) : (convert 92 9 (.slice (some ⟨w.heap.size, 0, none⟩) 1 1)).run Tryd.prog (w.alloc (.cells #[.int .u8 c] 5)) = .ok (.string (strOfNums [c])) (w.alloc (.cells #[.int .u8 c] 5)) := by
  refine run_convert_bytes_arg (P := Tryd.prog) _ 92 5 Tryd.underlying92 Tryd.underlying5 w.heap.size 0 1 1 [c] rfl (fun i hi => ?_) 9 Tryd.underlying9
  obtain rfl : i = 0 := by omega
  have := cell_one_new w (.int .u8 c) 5 0 _ rfl
  rw [add_plain] at this
  exact this

/-- What stands ahead of the last digit. -/
def ahead (m : Nat) : List UInt8 := if m < 10 then [] else Lib.decDigits (m / 10)
theorem dec_ahead (m : Nat) : Lib.decDigits m = ahead m ++ [UInt8.ofNat (48 + m % 10)] := by
  rw [Lib.decDigits]
  unfold ahead
  by_cases h : m < 10
  · rw [dif_pos h, if_pos h, Nat.mod_eq_of_lt h]; rfl
  · rw [dif_neg h, if_neg h]

theorem one_digit (m : Nat) (z : Int) (hz : (m : Int) = z) : ([48 + z % 10].map fun n => UInt8.ofNat n.toNat) = [UInt8.ofNat (48 + m % 10)] := by
  subst hz
  simp only [List.map_cons, List.map_nil]
  congr 2
theorem dec_len (n : Nat) (hn : n < 18446744073709551616) : (Lib.decDigits n).length ≤ 20 := by
  rw [Lib.decDigits_length]
  exact Lib.nDigits_le20 n hn

set_option maxHeartbeats 1000000 in
theorem whole_any (n : Nat) (w : World) (hn : n < 18446744073709551616) :
    Calls Tryd.prog 100 #[.int .u64 (n : Int)] w fun e w' => e = .returned (.string ⟨(Lib.decDigits n).toArray⟩) ∧ Below w.heap.size w w' := by
  have hcv := conv_one
  go_enter Tryd.func100, Tryd.ntmps100
  go_wp2
  go_loopw [0, 3] (fun m s wr => ∃ (k : Nat) (t : ByteArray), m = .int .u64 (k : Int) ∧ k ≤ n ∧ s = .string t ∧ Lib.decDigits n = ahead k ++ t.data.toList ∧ Below w.heap.size w wr) (fun m _ _ => (intOf m).toNat)
  case atStart =>
    refine ⟨n, _, rfl, Nat.le_refl _, rfl, ?_, (Below.refl _ _).alloc (Nat.le_refl _) _⟩
    rw [dec_ahead, strOfNums_data, one_digit n n rfl]
  case round =>
    obtain ⟨k, t, rfl, hk, rfl, ht, hbel⟩ := hrel
    have HT := Lib.hid ht
    have hts : t.size ≤ 30 := by
      have h1 := congrArg List.length ht
      rw [List.length_append, len_size] at h1
      have h2 := dec_len n (by omega)
      omega
    clear ht
    by_cases hlt : 9 < k
    · have e1 : (strOfNums [48 + (k : Int) / 10 % 10]).size = 1 := by rw [strOfNums_size]; rfl
      go_wp2
      go_roundw
      case rel =>
        refine ⟨k / 10, _, by go_num, by omega, rfl, ?_, hbel.alloc hbel.size _⟩
        rw [HT.out, ahead, if_neg (by omega), dec_ahead, ByteArray.data_append, Array.toList_append, strOfNums_data, one_digit (k / 10) _ (by omega), List.append_assoc]
      case measure => simp [intOf]; omega
    · have HE : Hid (t = ⟨(Lib.decDigits n).toArray⟩) := by
        apply ByteArray.ext
        apply Array.toList_inj.1
        have := HT.out
        rw [ahead, if_pos (by omega), List.nil_append] at this
        rw [this]
      go_wp2
      go_ret
      exact ⟨by rw [← HE.out]; rfl, hbel⟩

set_option maxHeartbeats 1000000 in
theorem rdigits_any (n : Int) (w : World) (h0 : -9223372036854775808 ≤ n) (h1 : n ≤ 9223372036854775807) :
    Calls Tryd.prog 75 #[.int .i64 n] w fun e w' => e = .returned (.string ⟨(Lib.itoa n).toArray⟩) ∧ Below w.heap.size w w' := by
  by_cases hn : n < 0
  · have HI : Hid (Lib.itoa n = 45 :: Lib.decDigits (-n).toNat) := by
      unfold Lib.itoa
      rw [if_pos hn]
      congr 2
      omega
    have hl := dec_len (-n).toNat (by omega)
    have hsz : (⟨(Lib.decDigits (-n).toNat).toArray⟩ : ByteArray).size ≤ 20 := by simpa [ByteArray.size] using hl
    clear hl
    go_enter Tryd.func75, Tryd.ntmps75
    go_wp2_with fail
    rw [show -(n + 1) + 1 = ((-n).toNat : Int) from by omega]
    refine (whole_any (-n).toNat _ (by omega)).mono ?_
    rintro e w1 ⟨rfl, hb1⟩
    have HD : Hid ((⟨#[45]⟩ : ByteArray) ++ ⟨(Lib.decDigits (-n).toNat).toArray⟩ = ⟨(Lib.itoa n).toArray⟩) := by
      rw [HI.out]
      apply ByteArray.ext
      rw [ByteArray.data_append]
      apply Array.toList_inj.1
      rw [Array.toList_append]
      rfl
    generalize (⟨(Lib.decDigits (-n).toNat).toArray⟩ : ByteArray) = t at *
    go_wp2
    go_ret
    exact ⟨by rw [← HD.out]; rfl, hb1⟩
  · have HI : Hid (Lib.itoa n = Lib.decDigits n.toNat) := by
      unfold Lib.itoa
      rw [if_neg hn]
      rfl
    obtain ⟨m, rfl⟩ := Int.eq_ofNat_of_zero_le (show 0 ≤ n by omega)
    rw [Int.toNat_natCast] at HI
    go_enter Tryd.func75, Tryd.ntmps75
    go_wp2_with (go_at_call 100; refine (whole_any m _ (by omega)).mono ?_; rintro e w1 ⟨rfl, hb1⟩)
    go_ret
    exact ⟨by rw [HI.out]; rfl, hb1⟩
end Go.Proofs.YthaagngoefieaaaDoor
end

/-
  The walks of chapter 2's numeric, fits, and the reference's Numeric, num and tag. Conditions: the string is no longer than a string can be.
-/
section
namespace Go.Proofs.YthaagngoefieaaaDoor
open Go.ChangeShapes Go.WideShapes Go.ChangeAt Go.RowKit
set_option linter.unusedVariables false

theorem numeric_stop {s : ByteArray} {k : Nat} (h : k < s.size) (hc : ¬ (48 ≤ s[k].toNat ∧ s[k].toNat ≤ 57)) : numericB s.data.toList = false := by
  unfold numericB
  rw [all_stop (byte_some s k h) (dig_not hc), Bool.and_false]
theorem numeric_end {s : ByteArray} (h : (s.data.toList.take s.size).all digB = true) : numericB s.data.toList = decide (0 < s.size) := by
  rw [List.take_of_length_le (by rw [len_size]; exact Nat.le_refl _)] at h
  unfold numericB
  rw [h, Bool.and_true, len_size]
  rfl
theorem numeric_step {s : ByteArray} {k : Nat} (h : k < s.size) (hp : (s.data.toList.take k).all digB = true) (h1 : 48 ≤ s[k].toNat) (h2 : s[k].toNat ≤ 57) : (s.data.toList.take (k + 1)).all digB = true :=
  all_take_succ (byte_some s k h) hp ((dig_iff _).2 ⟨h1, h2⟩)
theorem empty_str (s : ByteArray) (h : s.size = 0) : s.toList.isEmpty = true := by
  obtain rfl := empty_is h
  rw [Lib.toList_data]
  rfl

set_option maxHeartbeats 1000000 in
theorem numeric_any (s : ByteArray) (w : World) (hs : s.size ≤ maxLen) :
    Calls Tryd.prog 79 #[.string s] w fun e w' => e = .returned (.bool (numericB s.data.toList)) ∧ w = w' := by
  unfold maxLen at hs
  generalize hR : numericB s.data.toList = R
  have HR := Lib.hid hR
  clear hR
  go_enter Tryd.func79, Tryd.ntmps79
  go_wp2
  go_loop [3, 6] (fun _ i => ∃ k : Nat, k ≤ s.size ∧ i = .int .i64 k ∧ (s.data.toList.take k).all digB = true) (fun _ i => s.size - (intOf i).toNat)
  case atStart => exact ⟨0, by omega, rfl, rfl⟩
  case round =>
    obtain ⟨k, hk, rfl, hp⟩ := hrel
    have HQ := Lib.hid hp
    clear hp
    by_cases hlt : k < s.size
    · by_cases c1 : 48 ≤ s[k].toNat ∧ s[k].toNat ≤ 57
      · obtain ⟨d1, d2⟩ := c1
        have HP := Lib.hid (numeric_step hlt HQ.out d1 d2)
        have e2 : (48 : Int) ≤ (s[k].toNat : Int) := by omega
        have e3 : (s[k].toNat : Int) ≤ 57 := by omega
        go_wp2
        go_round
        case rel => exact ⟨k + 1, by omega, by go_num, HP.out⟩
        case measure => simp [intOf]; omega
      · have HF := Lib.hid (numeric_stop hlt c1)
        have e2 : (s[k].toNat : Int) < 48 ∨ 57 < (s[k].toNat : Int) := by omega
        clear c1
        go_wp2
        all_goals first | (exfalso; omega) | (go_ret; exact ⟨ret_bool (HF.out.symm.trans HR.out), rfl⟩)
    · obtain rfl : k = s.size := by omega
      have HE := Lib.hid (numeric_end HQ.out)
      by_cases h0 : s.size = 0
      · have hem := empty_str s h0
        have h00 : decide (0 < s.size) = false := decide_eq_false (by omega)
        rw [h00] at HE
        go_wp2
        go_ret
        exact ⟨ret_bool (HE.out.symm.trans HR.out), rfl⟩
      · obtain ⟨he1, he2⟩ := empty_no (s := s) (by omega)
        have h00 : decide (0 < s.size) = true := decide_eq_true (by omega)
        rw [h00] at HE
        go_wp2
        go_ret
        exact ⟨ret_bool (HE.out.symm.trans HR.out), rfl⟩

set_option maxHeartbeats 1000000 in
theorem rnumeric_any (s : ByteArray) (w : World) (hs : s.size ≤ maxLen) :
    Calls Tryd.prog 99 #[.string s] w fun e w' => e = .returned (.bool (numericB s.data.toList)) ∧ w = w' := by
  unfold maxLen at hs
  generalize hR : numericB s.data.toList = R
  have HR := Lib.hid hR
  clear hR
  go_enter Tryd.func99, Tryd.ntmps99
  go_wp2
  go_loop [3] (fun i => ∃ k : Nat, k ≤ s.size ∧ i = .int .i64 k ∧ (s.data.toList.take k).all digB = true) (fun i => s.size - (intOf i).toNat)
  case atStart => exact ⟨0, by omega, rfl, rfl⟩
  case round =>
    obtain ⟨k, hk, rfl, hp⟩ := hrel
    have HQ := Lib.hid hp
    clear hp
    by_cases hlt : k < s.size
    · by_cases c1 : 48 ≤ s[k].toNat ∧ s[k].toNat ≤ 57
      · obtain ⟨d1, d2⟩ := c1
        have HP := Lib.hid (numeric_step hlt HQ.out d1 d2)
        have e2 : (48 : Int) ≤ (s[k].toNat : Int) := by omega
        have e3 : (s[k].toNat : Int) ≤ 57 := by omega
        go_wp2
        go_round
        case rel => exact ⟨k + 1, by omega, by go_num, HP.out⟩
        case measure => simp [intOf]; omega
      · have HF := Lib.hid (numeric_stop hlt c1)
        have e2 : (s[k].toNat : Int) < 48 ∨ 57 < (s[k].toNat : Int) := by omega
        clear c1
        go_wp2
        all_goals first | (exfalso; omega) | (go_ret; exact ⟨ret_bool (HF.out.symm.trans HR.out), rfl⟩)
    · obtain rfl : k = s.size := by omega
      have HE := Lib.hid (numeric_end HQ.out)
      by_cases h0 : s.size = 0
      · have h00 : decide (0 < s.size) = false := decide_eq_false (by omega)
        rw [h00] at HE
        have h01 : ¬ ((0 : Int) < (s.size : Int)) := by omega
        go_wp2
        go_ret
        exact ⟨by rw [← HR.out, HE.out]; simp <;> omega, rfl⟩
      · have h00 : decide (0 < s.size) = true := decide_eq_true (by omega)
        rw [h00] at HE
        have h01 : ((0 : Int) < (s.size : Int)) := by omega
        go_wp2
        go_ret
        exact ⟨by rw [← HR.out, HE.out]; simp <;> omega, rfl⟩

theorem fits_any (n : Int) (w : World) : Calls Tryd.prog 70 #[.int .i64 n] w fun e w' => e = .returned (.bool (fitsB n)) ∧ w = w' := by
  by_cases h : n < 0
  · have hf := fits_not (n := n) (Or.inl h)
    rw [hf]
    have h2 : decide (0 ≤ n) = false := by simp; omega
    go_enter Tryd.func70, Tryd.ntmps70
    go_wp2
    go_ret
    exact ⟨rfl, rfl⟩
  · have hf : fitsB n = decide (n ≤ 9999) := by unfold fitsB; simp; omega
    rw [hf]
    have h2 : 0 ≤ n := by omega
    go_enter Tryd.func70, Tryd.ntmps70
    go_wp2
    go_ret
    exact ⟨rfl, rfl⟩
theorem num_any (n : Int) (w : World) : Calls Tryd.prog 73 #[.int .i64 n] w fun e w' => e = .returned (.bool (fitsB n)) ∧ w = w' := by
  by_cases h : n < 0
  · have hf := fits_not (n := n) (Or.inl h)
    rw [hf]
    have h2 : decide (0 ≤ n) = false := by simp; omega
    go_enter Tryd.func73, Tryd.ntmps73
    go_wp2
    go_ret
    exact ⟨rfl, rfl⟩
  · have hf : fitsB n = decide (n ≤ 9999) := by unfold fitsB; simp; omega
    rw [hf]
    have h2 : 0 ≤ n := by omega
    go_enter Tryd.func73, Tryd.ntmps73
    go_wp2
    go_ret
    exact ⟨rfl, rfl⟩

theorem tagok_no {c : UInt8} (h : ¬ (97 ≤ c.toNat ∧ c.toNat ≤ 122) ∧ ¬ (48 ≤ c.toNat ∧ c.toNat ≤ 57) ∧ c.toNat ≠ 45) : tagOk c = false := by
  rw [Bool.eq_false_iff]; intro e; have := (tag_iff c).1 e; omega
theorem tag_step {s : ByteArray} {k : Nat} (h : k < s.size) (hp : (s.data.toList.take k).all tagOk = true) (h1 : (97 ≤ s[k].toNat ∧ s[k].toNat ≤ 122) ∨ (48 ≤ s[k].toNat ∧ s[k].toNat ≤ 57) ∨ s[k].toNat = 45) : (s.data.toList.take (k + 1)).all tagOk = true :=
  all_take_succ (byte_some s k h) hp ((tag_iff _).2 h1)
theorem tag_stop {s : ByteArray} {k : Nat} (h : k < s.size) (hc : ¬ ((97 ≤ s[k].toNat ∧ s[k].toNat ≤ 122) ∨ (48 ≤ s[k].toNat ∧ s[k].toNat ≤ 57) ∨ s[k].toNat = 45)) : tagB s.data.toList = false :=
  tagb_stop (all_stop (byte_some s k h) (tagok_no (by omega)))
theorem tag_end {s : ByteArray} (h : (s.data.toList.take s.size).all tagOk = true) (h1 : 1 ≤ s.size) (h2 : s.size ≤ 8) : tagB s.data.toList = true := by
  rw [List.take_of_length_le (by rw [len_size]; exact Nat.le_refl _)] at h
  exact tagb_yes (by rw [len_size]; exact h1) (by rw [len_size]; exact h2) h

set_option maxHeartbeats 1000000 in
theorem rtag_any (s : ByteArray) (w : World) (hs : s.size ≤ maxLen) :
    Calls Tryd.prog 98 #[.string s] w fun e w' => e = .returned (.bool (tagB s.data.toList)) ∧ w = w' := by
  unfold maxLen at hs
  have hl := len_size s
  by_cases h0 : s.size < 1
  · have HF := Lib.hid (tagb_no (t := s.data.toList) (by omega))
    generalize tagB s.data.toList = R at *
    clear hl
    go_enter Tryd.func98, Tryd.ntmps98
    go_wp2
    go_ret
    exact ⟨ret_bool HF.out.symm, rfl⟩
  · have h00 : ((s.size : Int) < 1) = False := by simp; omega
    by_cases h8 : 8 < s.size
    · have HF := Lib.hid (tagb_no (t := s.data.toList) (by omega))
      generalize tagB s.data.toList = R at *
      clear hl
      go_enter Tryd.func98, Tryd.ntmps98
      go_wp2
      go_ret
      exact ⟨ret_bool HF.out.symm, rfl⟩
    · have h80 : ((8 : Int) < (s.size : Int)) = False := by simp; omega
      generalize hR : tagB s.data.toList = R
      have HR := Lib.hid hR
      clear hR hl
      go_enter Tryd.func98, Tryd.ntmps98
      go_wp2
      go_loop [3, 4] (fun i _ => ∃ k : Nat, k ≤ s.size ∧ i = .int .i64 k ∧ (s.data.toList.take k).all tagOk = true) (fun i _ => s.size - (intOf i).toNat)
      case atStart => exact ⟨0, by omega, rfl, rfl⟩
      case round =>
        obtain ⟨k, hk, rfl, hp⟩ := hrel
        have HQ := Lib.hid hp
        clear hp
        by_cases hlt : k < s.size
        · by_cases c1 : (97 ≤ s[k].toNat ∧ s[k].toNat ≤ 122) ∨ (48 ≤ s[k].toNat ∧ s[k].toNat ≤ 57) ∨ s[k].toNat = 45
          · have HP := Lib.hid (tag_step hlt HQ.out c1)
            rcases c1 with ⟨d1, d2⟩ | ⟨d1, d2⟩ | d1
            · have e1 : (97 : Int) ≤ (s[k].toNat : Int) := by omega
              have e2 : (s[k].toNat : Int) ≤ 122 := by omega
              go_wp2
              go_round
              case rel => exact ⟨k + 1, by omega, by go_num, HP.out⟩
              case measure => simp [intOf]; omega
            · have e1 : (48 : Int) ≤ (s[k].toNat : Int) := by omega
              have e2 : (s[k].toNat : Int) ≤ 57 := by omega
              have e3 : (s[k].toNat : Int) < 97 := by omega
              go_wp2
              go_round
              case rel => exact ⟨k + 1, by omega, by go_num, HP.out⟩
              case measure => simp [intOf]; omega
            · have e1 : (s[k].toNat : Int) < 48 := by omega
              have e2 : ((s[k].toNat : Int) == 45) = true := by simp; omega
              have e4 : ((s[k].toNat : Int) != 45) = false := by simp; omega
              have e3 : (s[k].toNat : Int) < 97 := by omega
              go_wp2
              go_round
              case rel => exact ⟨k + 1, by omega, by go_num, HP.out⟩
              case measure => simp [intOf]; omega
          · have HF := Lib.hid (tag_stop hlt c1)
            have e1 : (s[k].toNat : Int) < 97 ∨ 122 < (s[k].toNat : Int) := by omega
            have e2 : (s[k].toNat : Int) < 48 ∨ 57 < (s[k].toNat : Int) := by omega
            have e3 : ((s[k].toNat : Int) == 45) = false := by simp; omega
            have e4 : ((s[k].toNat : Int) != 45) = true := by simp; omega
            clear c1
            go_wp2
            all_goals first | (exfalso; omega) | (go_ret; exact ⟨ret_bool (HF.out.symm.trans HR.out), rfl⟩)
        · obtain rfl : k = s.size := by omega
          have HE := Lib.hid (tag_end HQ.out (by omega) (by omega))
          go_wp2
          go_ret
          exact ⟨ret_bool (HE.out.symm.trans HR.out), rfl⟩
end Go.Proofs.YthaagngoefieaaaDoor
end

/-
  The walks of chapter 2's tags. Conditions: the string has at most 1048576 bytes.
-/
section
namespace Go.Proofs.YthaagngoefieaaaDoor
open Go.ChangeShapes Go.WideShapes Go.ChangeAt Go.RowKit
set_option linter.unusedVariables false

theorem piece_le {l p : List UInt8} {b : UInt8} (h : p ∈ splitL l b) : p.length ≤ l.length := by
  have hj := split_join l b
  obtain ⟨i, hi, rfl⟩ := List.getElem_of_mem h
  obtain ⟨x, y, e⟩ := List.append_of_mem (List.getElem_mem hi)
  generalize (splitL l b)[i] = p at *
  have : ∀ (x y : List (List UInt8)), p.length ≤ (joinL (x ++ p :: y) b).length := by
    intro x y
    cases x with
    | nil => simp [joinL]
    | cons q r => simp [joinL]; omega
  have h2 := this x y
  rw [← e, hj] at h2
  exact h2
theorem split_len_le (l : List UInt8) (b : UInt8) : (splitL l b).length ≤ l.length + 1 := by
  rw [split_count]
  have := List.count_le_length (a := b) (l := l)
  omega
theorem all_next {p : List UInt8 → Bool} {ps : List (List UInt8)} {k : Nat} {q : List UInt8} (h : ps[k]? = some q) (h0 : (ps.take k).all p = true) (hq : p q = true) : (ps.take (k + 1)).all p = true := by
  obtain ⟨hlt, rfl⟩ := List.getElem?_eq_some_iff.1 h
  rw [List.take_succ_eq_append_getElem hlt, List.all_append, h0]
  simp [hq]
theorem all_off {p : List UInt8 → Bool} {ps : List (List UInt8)} {k : Nat} {q : List UInt8} (h : ps[k]? = some q) (hq : p q = false) : ps.all p = false := by
  obtain ⟨hlt, rfl⟩ := List.getElem?_eq_some_iff.1 h
  rw [Bool.eq_false_iff]
  intro ha
  rw [List.all_eq_true.1 ha _ (List.getElem_mem hlt)] at hq
  cases hq
theorem all_done {p : List UInt8 → Bool} {ps : List (List UInt8)} (h : (ps.take ps.length).all p = true) : ps.all p = true := by
  rwa [List.take_length] at h
/-- A piece as a string. -/
theorem piece_of {ps : List (List UInt8)} {n k : Nat} {p : List UInt8} (hp : ps[k]? = some p) (hle : ∀ q ∈ ps, q.length ≤ n) : ∃ t : ByteArray, t = ⟨p.toArray⟩ ∧ t.data.toList = p ∧ t.size ≤ n :=
  ⟨_, rfl, by simp, by rw [str_size]; exact hle p (List.mem_of_getElem? hp)⟩

theorem tagsB_off {s : List UInt8} (h : (splitL s 46).all tagB = false) : tagsB s = false := by
  unfold tagsB; rw [h, Bool.and_false]
theorem tagsB_on {s : List UInt8} (h : (splitL s 46).all tagB = true) : tagsB s = decide (((splitL s 46).length : Int) ≤ 4) := by
  unfold tagsB; rw [h, Bool.and_true]; apply decide_eq_decide.2; omega

set_option maxHeartbeats 4000000 in
theorem tags_any (s : ByteArray) (w : World) (hs : s.size ≤ 1048576) :
    Calls Tryd.prog 72 #[.string s] w fun e w' => e = .returned (.bool (tagsB s.data.toList)) ∧ Below w.heap.size w w' := by
  have HLE : Hid (∀ q ∈ splitL s.data.toList 46, q.length ≤ 1048576) := fun q hq => by have := piece_le hq; rw [len_size] at this; omega
  have hn := split_len_le s.data.toList 46
  rw [len_size] at hn
  have HOFF := Lib.hid (@tagsB_off s.data.toList)
  have HON := Lib.hid (@tagsB_on s.data.toList)
  generalize tagsB s.data.toList = R at *
  go_enter Tryd.func72, Tryd.ntmps72
  go_wp2
  go_step3
  go_wp2_with (go_at_call 50; refine (split_any s 46 _ hs).mono ?_; rintro e w1 ⟨⟨v, rfl, hown⟩, hb1⟩; obtain ⟨A, c, rfl, hrd⟩ := rd_own hown)
  have HRD := Lib.hid hrd
  clear hown hrd
  generalize splitL s.data.toList 46 = ps at *
  generalize hN : ps.length = n at *
  go_step3
  go_wp2
  go_loopg [4, 6, 8, 16] n (fun k g t ch i wr => ∃ j : Nat, j + k = n ∧ i = .int .i64 j ∧ g = .bool (decide ((n : Int) ≤ 4)) ∧ (ps.take j).all tagB = true ∧ Below w1.heap.size w1 wr)
  case atStart => exact ⟨0, by omega, rfl, rfl, rfl, Below.refl _ _⟩
  case round =>
    obtain ⟨j, hj, rfl, rfl, hp, hbel⟩ := hrel
    have HP := Lib.hid hp
    have hsz := hbel.size
    clear hp
    by_cases hlt : j < n
    · obtain ⟨b, off, p, rfl, hb, hpj, hc0⟩ := rds_cell (rd_below HRD.out hbel) hlt
      obtain ⟨t, ht, hpt, hts⟩ := piece_of hpj HLE.out
      rw [← ht] at hc0
      subst hpt
      have HJ := Lib.hid hpj
      clear hpj ht
      have hl := len_size t
      by_cases h0 : t.size = 0
      · have hem := empty_str t h0
        have HF := Lib.hid (HOFF.out (all_off HJ.out (tagb_no (by omega))))
        clear hl
        go_wp2
        try rw [Exit.noGoto_ret]
        go_ret
        exact ⟨ret_bool HF.out.symm, hb1.trans (hbel.mono hb1.size)⟩
      · obtain ⟨he1, he2⟩ := empty_no (s := t) (by omega)
        by_cases h8 : 8 < t.size
        · have HF := Lib.hid (HOFF.out (all_off HJ.out (tagb_no (by omega))))
          clear hl
          go_wp2
          try rw [Exit.noGoto_ret]
          go_ret
          exact ⟨ret_bool HF.out.symm, hb1.trans (hbel.mono hb1.size)⟩
        · have h80 : ((8 : Int) < (t.size : Int)) = False := by simp; omega
          clear hl
          go_wp2
          go_loopg [4, 8] t.size (fun k2 g ch wr2 => ∃ m : Nat, m + k2 = t.size ∧ wr2 = wr.iter t m ∧ g = .bool (decide ((n : Int) ≤ 4)) ∧ (t.data.toList.take m).all tagOk = true)
          case atStart => exact ⟨0, by omega, rfl, rfl, rfl⟩
          case round =>
            obtain ⟨m, hm, rfl, rfl, hq⟩ := hrel
            have HQ := Lib.hid hq
            clear hq
            by_cases hlt2 : m < t.size
            · by_cases c1 : (97 ≤ t[m].toNat ∧ t[m].toNat ≤ 122) ∨ (48 ≤ t[m].toNat ∧ t[m].toNat ≤ 57) ∨ t[m].toNat = 45
              · have HP2 := Lib.hid (tag_step hlt2 HQ.out c1)
                have hnx := fun ty => run_next_ascii (P := Tryd.prog) wr t m ty hlt2 (by omega)
                rcases c1 with ⟨d1, d2⟩ | ⟨d1, d2⟩ | d1
                · have e1 : (97 : Int) ≤ (t[m].toNat : Int) := by omega
                  have e2 : (t[m].toNat : Int) ≤ 122 := by omega
                  go_wp2
                  go_roundg (t.size - (m + 1))
                  case rel => exact ⟨m + 1, by omega, rfl, rfl, HP2.out⟩
                  case measure => omega
                · have e1 : (48 : Int) ≤ (t[m].toNat : Int) := by omega
                  have e2 : (t[m].toNat : Int) ≤ 57 := by omega
                  have e3 : (t[m].toNat : Int) < 97 := by omega
                  go_wp2
                  go_roundg (t.size - (m + 1))
                  case rel => exact ⟨m + 1, by omega, rfl, rfl, HP2.out⟩
                  case measure => omega
                · have e1 : (t[m].toNat : Int) < 48 := by omega
                  have e2 : ((t[m].toNat : Int) == 45) = true := by simp; omega
                  have e4 : ((t[m].toNat : Int) != 45) = false := by simp; omega
                  have e3 : (t[m].toNat : Int) < 97 := by omega
                  go_wp2
                  go_roundg (t.size - (m + 1))
                  case rel => exact ⟨m + 1, by omega, rfl, rfl, HP2.out⟩
                  case measure => omega
              · have HF := Lib.hid (HOFF.out (all_off HJ.out (tag_stop hlt2 c1)))
                by_cases ha : t[m].toNat < 128
                · have hnx := fun ty => run_next_ascii (P := Tryd.prog) wr t m ty hlt2 ha
                  have e1 : (t[m].toNat : Int) < 97 ∨ 122 < (t[m].toNat : Int) := by omega
                  have e2 : (t[m].toNat : Int) < 48 ∨ 57 < (t[m].toNat : Int) := by omega
                  have e3 : ((t[m].toNat : Int) == 45) = false := by simp; omega
                  have e4 : ((t[m].toNat : Int) != 45) = true := by simp; omega
                  clear c1
                  go_wp2
                  all_goals first | (exfalso; omega) | ((try rw [Exit.noGoto_ret]); go_ret; exact ⟨ret_bool HF.out.symm, hb1.trans ((hbel.mono hb1.size).trans ((iter_below _ _ _).mono (Nat.le_trans hb1.size hsz)))⟩)
                · have hnx := fun ty => run_next_any (P := Tryd.prog) wr t m ty hlt2
                  have hd := (decode_high t m hlt2 (by omega)).1
                  clear ha c1
                  generalize (Utf8.decode t m).1 = r at *
                  generalize m + (Utf8.decode t m).2 = k2 at *
                  have e1 : (128 : Int) ≤ (r : Int) := by omega
                  have e3 : ((r : Int) == 45) = false := by simp; omega
                  have e4 : ((r : Int) != 45) = true := by simp; omega
                  go_wp2
                  try rw [Exit.noGoto_ret]
                  go_ret
                  exact ⟨ret_bool HF.out.symm, hb1.trans ((hbel.mono hb1.size).trans ((iter_below _ _ _).mono (Nat.le_trans hb1.size hsz)))⟩
            · obtain rfl : m = t.size := by omega
              have HT := Lib.hid (all_next HJ.out HP.out (tag_end HQ.out (by omega) (by omega)))
              have hnx := fun ty => run_next_end (P := Tryd.prog) wr t t.size ty hlt2
              go_wp2
              go_roundg (n - (j + 1))
              case rel => exact ⟨j + 1, by omega, by go_num, rfl, HT.out, hbel.trans ((iter_below _ _ _).mono hsz)⟩
              case measure => omega
    · obtain rfl : j = n := by omega
      have HE := Lib.hid (HON.out (all_done (by rw [hN]; exact HP.out)))
      go_wp2
      try rw [Exit.noGoto_ret]
      go_ret
      exact ⟨ret_bool HE.out.symm, hb1.trans (hbel.mono hb1.size)⟩
end Go.Proofs.YthaagngoefieaaaDoor
end

/-
  The walks of chapter 2's pre and of the reference's tags. Conditions: the string has at most 1048576 bytes.
-/
section
namespace Go.Proofs.YthaagngoefieaaaDoor
open Go.ChangeShapes Go.WideShapes Go.ChangeAt Go.RowKit
set_option linter.unusedVariables false

theorem pre_off {s : List UInt8} (h : (splitL s 46).all ntagB = false) : preB s = false := by
  unfold preB; rw [h, Bool.and_false]
theorem pre_on {s : List UInt8} (h0 : tagsB s = true) (h : (splitL s 46).all ntagB = true) : preB s = true := by
  unfold preB; rw [h, h0]; rfl
theorem pre_tags {s : List UInt8} (h : tagsB s = false) : preB s = false := by
  unfold preB; rw [h, Bool.false_and]
theorem ntag_of (p : List UInt8) : ntagB p = !(numericB p && !(numB p).2) := rfl

set_option maxHeartbeats 2000000 in
theorem pre_any (s : ByteArray) (w : World) (hs : s.size ≤ 1048576) :
    Calls Tryd.prog 71 #[.string s] w fun e w' => e = .returned (.bool (preB s.data.toList)) ∧ Below w.heap.size w w' := by
  have HLE : Hid (∀ q ∈ splitL s.data.toList 46, q.length ≤ 1048576) := fun q hq => by have := piece_le hq; rw [len_size] at this; omega
  have hn := split_len_le s.data.toList 46
  rw [len_size] at hn
  have HOFF := Lib.hid (@pre_off s.data.toList)
  have HON := Lib.hid (@pre_on s.data.toList)
  have HT0 := Lib.hid (@pre_tags s.data.toList)
  generalize preB s.data.toList = R at *
  have htg := fun W => tags_any s W hs
  generalize htb : tagsB s.data.toList = tb at *
  cases tb
  · have HF := Lib.hid (HT0.out rfl)
    go_enter Tryd.func71, Tryd.ntmps71
    go_wp2_with (go_at_call 72; refine (htg _).mono ?_; rintro e w1 ⟨rfl, hb1⟩)
    go_ret
    exact ⟨ret_bool HF.out.symm, hb1⟩
  · go_enter Tryd.func71, Tryd.ntmps71
    go_wp2_with (first
      | (go_at_call 72; refine (htg _).mono ?_; rintro e w0 ⟨rfl, hb0⟩)
      | (go_at_call 50; refine (split_any s 46 _ hs).mono ?_; rintro e w1 ⟨⟨v, rfl, hown⟩, hb1⟩; obtain ⟨A, c, rfl, hrd⟩ := rd_own hown))
    have HRD := Lib.hid hrd
    have hb := hb0.trans (hb1.mono hb0.size)
    clear hown hrd hb0 hb1 htg
    generalize splitL s.data.toList 46 = ps at *
    generalize hN : ps.length = n at *
    go_loopw [4, 5, 6, 13] (fun t _ _ i wr => ∃ j : Nat, j ≤ n ∧ i = .int .i64 j ∧ (ps.take j).all ntagB = true ∧ Below w1.heap.size w1 wr) (fun _ _ _ i _ => n - (intOf i).toNat)
    case atStart => exact ⟨0, by omega, rfl, rfl, Below.refl _ _⟩
    case round =>
      obtain ⟨j, hj, rfl, hp, hbel⟩ := hrel
      have HP := Lib.hid hp
      have hsz := hbel.size
      clear hp
      by_cases hlt : j < n
      · obtain ⟨b, off, p, rfl, hb0, hpj, hc0⟩ := rds_cell (rd_below HRD.out hbel) hlt
        obtain ⟨t, ht, hpt, hts⟩ := piece_of hpj HLE.out
        rw [← ht] at hc0
        have hJF := all_off (p := ntagB) hpj
        have hJT := all_next (p := ntagB) hpj HP.out
        rw [ntag_of] at hJF hJT
        have hnb := fun W => number_any t W (by unfold maxLen; omega)
        have hnm := fun W => numeric_any t W (by unfold maxLen; omega)
        rw [hpt] at hnb hnm
        generalize numB p = nb at *
        generalize numericB p = nm at *
        obtain ⟨nv, is⟩ := nb
        have HJF := Lib.hid hJF
        have HJT := Lib.hid hJT
        clear hJF hJT hpj ht hpt
        have hcase : (nm = true ∧ is = false) ∨ (!(nm && !is)) = true := by cases nm <;> cases is <;> simp
        rcases hcase with ⟨rfl, rfl⟩ | hgood
        · have HF := Lib.hid (HOFF.out (HJF.out rfl))
          go_wp2_with (first
            | (go_at_call 66; refine (hnb _).mono ?_; rintro e w2 ⟨rfl, hb2⟩)
            | (go_at_call 79; refine (hnm _).mono ?_; rintro e w3 ⟨rfl, rfl⟩))
          go_ret
          exact ⟨ret_bool HF.out.symm, hb.trans ((hbel.trans (hb2.mono hsz)).mono hb.size)⟩
        · have HT := Lib.hid (HJT.out hgood)
          cases nm <;> cases is
          all_goals first | exact absurd hgood (by decide) | clear hgood
          all_goals
            go_wp2_with (first
              | (go_at_call 66; refine (hnb _).mono ?_; rintro e w2 ⟨rfl, hb2⟩)
              | (go_at_call 79; refine (hnm _).mono ?_; rintro e w3 ⟨rfl, rfl⟩))
            go_roundw
            case rel => exact ⟨j + 1, by omega, by go_num, HT.out, hbel.trans (hb2.mono hsz)⟩
            case measure => simp [intOf]; omega
      · obtain rfl : j = n := by omega
        have HE := Lib.hid (HON.out (by first | rfl | trivial | exact htb) (all_done (by rw [hN]; exact HP.out)))
        go_wp2
        go_ret
        exact ⟨ret_bool HE.out.symm, hb.trans (hbel.mono hb.size)⟩

/-- None, or a row of tags; with pr each numeric one a number. -/
def optB (pr : Bool) (s : List UInt8) : Bool := s.isEmpty || (if pr = true then preB s else tagsB s)
theorem opt_empty (pr : Bool) (s : ByteArray) (h : s.size = 0) : optB pr s.data.toList = true := by
  obtain rfl := empty_is h
  rfl
theorem list_nonempty {s : ByteArray} (h : 0 < s.size) : s.data.toList.isEmpty = false := by
  have := (empty_no h).1
  rwa [Lib.toList_data] at this
theorem opt_tags {pr : Bool} {s : ByteArray} (h0 : 0 < s.size) (h : tagsB s.data.toList = false) : optB pr s.data.toList = false := by
  unfold optB
  rw [list_nonempty h0, h, pre_tags h]
  simp
theorem opt_off1 {pr : Bool} {s : ByteArray} (h0 : 0 < s.size) (h : (splitL s.data.toList 46).all tagB = false) : optB pr s.data.toList = false := opt_tags h0 (tagsB_off h)
theorem opt_off2 {s : ByteArray} (h0 : 0 < s.size) (h : (splitL s.data.toList 46).all ntagB = false) : optB true s.data.toList = false := by
  unfold optB
  rw [list_nonempty h0, pre_off h]
  rfl
theorem opt_on {pr : Bool} {s : ByteArray} (hl : (splitL s.data.toList 46).length ≤ 4) (h : (splitL s.data.toList 46).all tagB = true) (h2 : pr = true → (splitL s.data.toList 46).all ntagB = true) : optB pr s.data.toList = true := by
  have ht : tagsB s.data.toList = true := by rw [tagsB_on h]; apply decide_eq_true; omega
  unfold optB
  rw [ht]
  cases pr
  · simp
  · rw [pre_on ht (h2 rfl)]; simp

set_option maxHeartbeats 4000000 in
theorem rtags_any (s : ByteArray) (pr : Bool) (w : World) (hs : s.size ≤ 1048576) :
    Calls Tryd.prog 74 #[.string s, .bool pr] w fun e w' => e = .returned (.bool (optB pr s.data.toList)) ∧ Below w.heap.size w w' := by
  by_cases h0 : s.size = 0
  · have HE := Lib.hid (opt_empty pr s h0)
    generalize optB pr s.data.toList = R at *
    obtain rfl := empty_is h0
    clear h0 hs
    go_enter Tryd.func74, Tryd.ntmps74
    go_wp2
    go_ret
    exact ⟨ret_bool HE.out.symm, Below.refl _ _⟩
  have hpos : 0 < s.size := by omega
  obtain ⟨he1, he2⟩ := empty_no hpos
  have HLE : Hid (∀ q ∈ splitL s.data.toList 46, q.length ≤ 1048576) := fun q hq => by have := piece_le hq; rw [len_size] at this; omega
  have hn := split_len_le s.data.toList 46
  rw [len_size] at hn
  have HLONG : Hid (4 < (splitL s.data.toList 46).length → optB pr s.data.toList = false) := fun h => opt_tags hpos (tags_len h)
  have HOFF1 := Lib.hid (opt_off1 (pr := pr) hpos)
  have HOFF2 : Hid (pr = true → (splitL s.data.toList 46).all ntagB = false → optB pr s.data.toList = false) := fun h1 h2 => by subst h1; exact opt_off2 hpos h2
  have HON := Lib.hid (@opt_on pr s)
  generalize optB pr s.data.toList = R at *
  by_cases h4 : 4 < (splitL s.data.toList 46).length
  · have HF := Lib.hid (HLONG.out h4)
    have h4i : (4 : Int) < ((splitL s.data.toList 46).length : Int) := by omega
    go_enter Tryd.func74, Tryd.ntmps74
    go_wp2_with (go_at_call 37; refine (rsplit_any s 46 _ hs).mono ?_; rintro e w1 ⟨⟨v, rfl, hown⟩, hb1⟩; obtain ⟨A, c, rfl, hrd⟩ := rd_own hown)
    go_ret
    exact ⟨ret_bool HF.out.symm, hb1⟩
  · have h4i : ((4 : Int) < ((splitL s.data.toList 46).length : Int)) = False := by simp; omega
    go_enter Tryd.func74, Tryd.ntmps74
    go_wp2_with (go_at_call 37; refine (rsplit_any s 46 _ hs).mono ?_; rintro e w1 ⟨⟨v, rfl, hown⟩, hb1⟩; obtain ⟨A, c, rfl, hrd⟩ := rd_own hown)
    have HRD := Lib.hid hrd
    clear hown hrd
    generalize splitL s.data.toList 46 = ps at *
    generalize hN : ps.length = n at *
    go_loopw [6, 7, 8] (fun i _ _ wr => ∃ j : Nat, j ≤ n ∧ i = .int .i64 j ∧ (ps.take j).all tagB = true ∧ (pr = true → (ps.take j).all ntagB = true) ∧ ∃ q, wr = w1.drewN q) (fun i _ _ _ => n - (intOf i).toNat)
    case atStart => exact ⟨0, by omega, rfl, rfl, fun _ => rfl, 0, rfl⟩
    case round =>
      obtain ⟨j, hj, rfl, hp, hp2, q, rfl⟩ := hrel
      have HP := Lib.hid hp
      have HP2 := Lib.hid hp2
      clear hp hp2
      by_cases hlt : j < n
      · obtain ⟨b, off, p, rfl, hb0, hpj, hc0⟩ := rds_cell HRD.out hlt
        obtain ⟨t, ht, hpt, hts⟩ := piece_of hpj HLE.out
        rw [← ht] at hc0
        have hJF := all_off (p := ntagB) hpj
        have hJT := fun h => all_next (p := ntagB) hpj (HP2.out h)
        have hKF := all_off (p := tagB) hpj
        have hKT := all_next (p := tagB) hpj HP.out
        rw [ntag_of] at hJF hJT
        have hnb := fun W => rnumber_any t W (by unfold maxLen; omega)
        have hnm := fun W => rnumeric_any t W (by unfold maxLen; omega)
        have htg := fun W => rtag_any t W (by unfold maxLen; omega)
        rw [hpt] at hnb hnm htg
        generalize numB p = nb at *
        generalize numericB p = nm at *
        generalize tagB p = tb at *
        obtain ⟨nv, is⟩ := nb
        have HJF := Lib.hid hJF
        have HJT := Lib.hid hJT
        have HKF := Lib.hid hKF
        have HKT := Lib.hid hKT
        clear hJF hJT hKF hKT hpj ht hpt
        have i1 : (j : Int) < (n : Int) := by omega
        cases tb
        · have HF := Lib.hid (HOFF1.out (HKF.out rfl))
          go_wp2_with (go_at_call 98; refine (htg _).mono ?_; rintro e w3 ⟨rfl, rfl⟩)
          go_ret
          exact ⟨ret_bool HF.out.symm, below_drewN hb1 _⟩
        · have HK := Lib.hid (HKT.out rfl)
          have hcase : (pr = true ∧ nm = true ∧ is = false) ∨ (pr = true → (!(nm && !is)) = true) := by cases pr <;> cases nm <;> cases is <;> simp
          rcases hcase with ⟨rfl, rfl, rfl⟩ | hgood
          · have HF := Lib.hid (HOFF2.out rfl (HJF.out rfl))
            go_wp2_with (first
              | (go_at_call 98; refine (htg _).mono ?_; rintro e w3 ⟨rfl, rfl⟩)
              | (go_at_call 68; refine (hnb _).mono ?_; rintro e w3 ⟨rfl, rfl⟩)
              | (go_at_call 99; refine (hnm _).mono ?_; rintro e w3 ⟨rfl, rfl⟩))
            go_ret
            exact ⟨ret_bool HF.out.symm, below_drewN hb1 _⟩
          · have HT : Hid (pr = true → (ps.take (j + 1)).all ntagB = true) := fun h => HJT.out h (hgood h)
            cases pr <;> cases nm <;> cases is
            all_goals first | exact absurd (hgood rfl) (by decide) | clear hgood
            all_goals
              go_wp2_with (first
                | (go_at_call 98; refine (htg _).mono ?_; rintro e w3 ⟨rfl, rfl⟩)
                | (go_at_call 68; refine (hnb _).mono ?_; rintro e w3 ⟨rfl, rfl⟩)
                | (go_at_call 99; refine (hnm _).mono ?_; rintro e w3 ⟨rfl, rfl⟩))
              go_roundw
              case rel => exact ⟨j + 1, by omega, by go_num, HK.out, HT.out, _, rfl⟩
              case measure => simp [intOf]; omega
      · obtain rfl : j = n := by omega
        have HE := Lib.hid (HON.out (by omega) (all_done (by rw [hN]; exact HP.out)) (fun h => all_done (by rw [hN]; exact HP2.out h)))
        go_wp2
        go_ret
        exact ⟨ret_bool HE.out.symm, below_drewN hb1 _⟩
end Go.Proofs.YthaagngoefieaaaDoor
end

/-
  The walks of chapter 2's May, the program's and the reference's. Conditions: Pre and Build have at most 1048576 bytes.
-/
section
namespace Go.Proofs.YthaagngoefieaaaDoor
open Go.ChangeShapes Go.WideShapes Go.ChangeAt Go.RowKit
set_option linter.unusedVariables false

/-- A version as the program holds it. -/
def verS (a b c : Int) (p q : ByteArray) : Ver := ⟨a, b, c, p.data.toList, q.data.toList⟩
theorem may_eq (a b c : Int) (p q : ByteArray) : mayV (verS a b c p q) = (fitsB a && fitsB b && fitsB c && optB true p.data.toList && optB false q.data.toList) := by
  unfold mayV verS optB; simp
theorem opt_pre {p : ByteArray} (h : 0 < p.size) : optB true p.data.toList = preB p.data.toList := by
  unfold optB; rw [list_nonempty h]; simp
theorem opt_tag {p : ByteArray} (h : 0 < p.size) : optB false p.data.toList = tagsB p.data.toList := by
  unfold optB; rw [list_nonempty h]; simp
theorem cells5 (w : World) (x0 x1 x2 x3 x4 : Value) (t : TypeId) {w' : World} (hb : Below (w.heap.size + 1) (w.alloc (.cells #[x0, x1, x2, x3, x4] t)) w') :
    w'.cell? ⟨w.heap.size, 0, none⟩ = some x0 ∧ w'.cell? ⟨w.heap.size, 1, none⟩ = some x1 ∧ w'.cell? ⟨w.heap.size, 2, none⟩ = some x2 ∧ w'.cell? ⟨w.heap.size, 3, none⟩ = some x3 ∧ w'.cell? ⟨w.heap.size, 4, none⟩ = some x4 := by
  refine ⟨?_, ?_, ?_, ?_, ?_⟩
  all_goals
    rw [hb.cell (by simp)]
    simp [go_sem]


/-- The facts that the walk of May takes: what the callees answer, each by its Bool. -/
theorem box_below (w : World) (o : Obj) : Below w.heap.size w (w.alloc o) := (Below.refl _ _).alloc (Nat.le_refl _) _

set_option maxHeartbeats 1000000 in
theorem may_n0 (a b c : Int) (p q : ByteArray) (w : World) (e1 : fitsB a = false) :
    Calls Tryd.prog 41 #[.agg #[.int .i64 a, .int .i64 b, .int .i64 c, .string p, .string q]] w fun e w' => e = .returned (.bool false) ∧ Below w.heap.size w w' := by
  go_enter Tryd.func41, Tryd.ntmps41
  go_wp2_with (go_at_call 70; refine (fits_any _ _).mono ?_; rintro e w3 ⟨rfl, rfl⟩)
  go_ret
  exact ⟨rfl, box_below _ _⟩
set_option maxHeartbeats 1000000 in
theorem may_n1 (a b c : Int) (p q : ByteArray) (w : World) (e1 : fitsB a = true) (e2 : fitsB b = false) :
    Calls Tryd.prog 41 #[.agg #[.int .i64 a, .int .i64 b, .int .i64 c, .string p, .string q]] w fun e w' => e = .returned (.bool false) ∧ Below w.heap.size w w' := by
  go_enter Tryd.func41, Tryd.ntmps41
  go_wp2_with (go_at_call 70; refine (fits_any _ _).mono ?_; rintro e w3 ⟨rfl, rfl⟩)
  go_ret
  exact ⟨rfl, box_below _ _⟩
set_option maxHeartbeats 1000000 in
theorem may_n2 (a b c : Int) (p q : ByteArray) (w : World) (e1 : fitsB a = true) (e2 : fitsB b = true) (e3 : fitsB c = false) :
    Calls Tryd.prog 41 #[.agg #[.int .i64 a, .int .i64 b, .int .i64 c, .string p, .string q]] w fun e w' => e = .returned (.bool false) ∧ Below w.heap.size w w' := by
  go_enter Tryd.func41, Tryd.ntmps41
  go_wp2_with (go_at_call 70; refine (fits_any _ _).mono ?_; rintro e w3 ⟨rfl, rfl⟩)
  go_ret
  exact ⟨rfl, box_below _ _⟩
set_option maxHeartbeats 1000000 in
theorem may_ee (a b c : Int) (p q : ByteArray) (w : World) (e1 : fitsB a = true) (e2 : fitsB b = true) (e3 : fitsB c = true) (he1 : p.toList.isEmpty = true) (he2 : q.toList.isEmpty = true) :
    Calls Tryd.prog 41 #[.agg #[.int .i64 a, .int .i64 b, .int .i64 c, .string p, .string q]] w fun e w' => e = .returned (.bool true) ∧ Below w.heap.size w w' := by
  go_enter Tryd.func41, Tryd.ntmps41
  go_wp2_with (go_at_call 70; refine (fits_any _ _).mono ?_; rintro e w3 ⟨rfl, rfl⟩)
  go_ret
  exact ⟨rfl, box_below _ _⟩
set_option maxHeartbeats 1000000 in
theorem may_et (a b c : Int) (p q : ByteArray) (w : World) (e1 : fitsB a = true) (e2 : fitsB b = true) (e3 : fitsB c = true) (he1 : p.toList.isEmpty = true) (he2 : q.toList.isEmpty = false) (qb : Bool) (htag : ∀ W : World, Calls Tryd.prog 72 #[.string q] W fun e w' => e = .returned (.bool qb) ∧ Below W.heap.size W w') :
    Calls Tryd.prog 41 #[.agg #[.int .i64 a, .int .i64 b, .int .i64 c, .string p, .string q]] w fun e w' => e = .returned (.bool qb) ∧ Below w.heap.size w w' := by
  go_enter Tryd.func41, Tryd.ntmps41
  go_wp2_with (first | (go_at_call 70; refine (fits_any _ _).mono ?_; rintro e w3 ⟨rfl, rfl⟩) | (go_at_call 72; refine (htag _).mono ?_; rintro e w4 ⟨rfl, hb4⟩))
  go_ret
  exact ⟨rfl, (box_below w _).trans (hb4.mono (by simp))⟩
set_option maxHeartbeats 1000000 in
theorem may_pe (a b c : Int) (p q : ByteArray) (w : World) (e1 : fitsB a = true) (e2 : fitsB b = true) (e3 : fitsB c = true) (he1 : p.toList.isEmpty = false) (he2 : q.toList.isEmpty = true) (pb : Bool) (hpre : ∀ W : World, Calls Tryd.prog 71 #[.string p] W fun e w' => e = .returned (.bool pb) ∧ Below W.heap.size W w') :
    Calls Tryd.prog 41 #[.agg #[.int .i64 a, .int .i64 b, .int .i64 c, .string p, .string q]] w fun e w' => e = .returned (.bool pb) ∧ Below w.heap.size w w' := by
  cases pb
  all_goals
    go_enter Tryd.func41, Tryd.ntmps41
    go_wp2_with (first | (go_at_call 70; refine (fits_any _ _).mono ?_; rintro e w3 ⟨rfl, rfl⟩) | (go_at_call 71; refine (hpre _).mono ?_; rintro e w2 ⟨rfl, hb2⟩; have hb3 := (box_below w _).trans (hb2.mono (by simp)); obtain ⟨k0, k1, k2, k3, k4⟩ := cells5 w _ _ _ _ _ _ (by simpa using hb2)))
    go_ret
    exact ⟨rfl, hb3⟩
set_option maxHeartbeats 1000000 in
theorem may_pt (a b c : Int) (p q : ByteArray) (w : World) (e1 : fitsB a = true) (e2 : fitsB b = true) (e3 : fitsB c = true) (he1 : p.toList.isEmpty = false) (he2 : q.toList.isEmpty = false) (pb : Bool) (hpre : ∀ W : World, Calls Tryd.prog 71 #[.string p] W fun e w' => e = .returned (.bool pb) ∧ Below W.heap.size W w') (qb : Bool) (htag : ∀ W : World, Calls Tryd.prog 72 #[.string q] W fun e w' => e = .returned (.bool qb) ∧ Below W.heap.size W w') :
    Calls Tryd.prog 41 #[.agg #[.int .i64 a, .int .i64 b, .int .i64 c, .string p, .string q]] w fun e w' => e = .returned (.bool (pb && qb)) ∧ Below w.heap.size w w' := by
  cases pb
  · go_enter Tryd.func41, Tryd.ntmps41
    go_wp2_with (first | (go_at_call 70; refine (fits_any _ _).mono ?_; rintro e w3 ⟨rfl, rfl⟩) | (go_at_call 71; refine (hpre _).mono ?_; rintro e w2 ⟨rfl, hb2⟩; have hb3 := (box_below w _).trans (hb2.mono (by simp)); obtain ⟨k0, k1, k2, k3, k4⟩ := cells5 w _ _ _ _ _ _ (by simpa using hb2)))
    go_ret
    exact ⟨rfl, hb3⟩
  · go_enter Tryd.func41, Tryd.ntmps41
    go_wp2_with (first | (go_at_call 70; refine (fits_any _ _).mono ?_; rintro e w3 ⟨rfl, rfl⟩) | (go_at_call 71; refine (hpre _).mono ?_; rintro e w2 ⟨rfl, hb2⟩; have hb3 := (box_below w _).trans (hb2.mono (by simp)); obtain ⟨k0, k1, k2, k3, k4⟩ := cells5 w _ _ _ _ _ _ (by simpa using hb2)) | (go_at_call 72; refine (htag _).mono ?_; rintro e w4 ⟨rfl, hb4⟩))
    go_ret
    exact ⟨rfl, hb3.trans (hb4.mono hb3.size)⟩

theorem may_any (a b c : Int) (p q : ByteArray) (w : World) (hp : p.size ≤ 1048576) (hq : q.size ≤ 1048576) :
    Calls Tryd.prog 41 #[.agg #[.int .i64 a, .int .i64 b, .int .i64 c, .string p, .string q]] w fun e w' => e = .returned (.bool (mayV (verS a b c p q))) ∧ Below w.heap.size w w' := by
  rw [may_eq]
  cases e1 : fitsB a
  · exact may_n0 a b c p q w e1
  cases e2 : fitsB b
  · exact may_n1 a b c p q w e1 e2
  cases e3 : fitsB c
  · exact may_n2 a b c p q w e1 e2 e3
  by_cases hp0 : p.size = 0
  · rw [opt_empty _ _ hp0]
    by_cases hq0 : q.size = 0
    · rw [opt_empty _ _ hq0]
      exact may_ee a b c p q w e1 e2 e3 (empty_str p hp0) (empty_str q hq0)
    · rw [opt_tag (by omega)]
      exact may_et a b c p q w e1 e2 e3 (empty_str p hp0) (empty_no (by omega)).1 _ (fun W => tags_any q W hq)
  · rw [opt_pre (by omega)]
    by_cases hq0 : q.size = 0
    · rw [opt_empty _ _ hq0]
      simp only [Bool.true_and, Bool.and_true]
      exact may_pe a b c p q w e1 e2 e3 (empty_no (by omega)).1 (empty_str q hq0) _ (fun W => pre_any p W hp)
    · rw [opt_tag (by omega)]
      exact may_pt a b c p q w e1 e2 e3 (empty_no (by omega)).1 (empty_no (by omega)).1 _ (fun W => pre_any p W hp) _ (fun W => tags_any q W hq)
set_option maxHeartbeats 1000000 in
theorem rmay_n0 (a b c : Int) (p q : ByteArray) (w : World) (e1 : fitsB a = false) :
    Calls Tryd.prog 42 #[.agg #[.int .i64 a, .int .i64 b, .int .i64 c, .string p, .string q]] w fun e w' => e = .returned (.bool false) ∧ Below w.heap.size w w' := by
  go_enter Tryd.func42, Tryd.ntmps42
  go_wp2_with (go_at_call 73; refine (num_any _ _).mono ?_; rintro e w3 ⟨rfl, rfl⟩)
  go_ret
  exact ⟨rfl, box_below _ _⟩
set_option maxHeartbeats 1000000 in
theorem rmay_n1 (a b c : Int) (p q : ByteArray) (w : World) (e1 : fitsB a = true) (e2 : fitsB b = false) :
    Calls Tryd.prog 42 #[.agg #[.int .i64 a, .int .i64 b, .int .i64 c, .string p, .string q]] w fun e w' => e = .returned (.bool false) ∧ Below w.heap.size w w' := by
  go_enter Tryd.func42, Tryd.ntmps42
  go_wp2_with (go_at_call 73; refine (num_any _ _).mono ?_; rintro e w3 ⟨rfl, rfl⟩)
  go_ret
  exact ⟨rfl, box_below _ _⟩
set_option maxHeartbeats 1000000 in
theorem rmay_n2 (a b c : Int) (p q : ByteArray) (w : World) (e1 : fitsB a = true) (e2 : fitsB b = true) (e3 : fitsB c = false) :
    Calls Tryd.prog 42 #[.agg #[.int .i64 a, .int .i64 b, .int .i64 c, .string p, .string q]] w fun e w' => e = .returned (.bool false) ∧ Below w.heap.size w w' := by
  go_enter Tryd.func42, Tryd.ntmps42
  go_wp2_with (go_at_call 73; refine (num_any _ _).mono ?_; rintro e w3 ⟨rfl, rfl⟩)
  go_ret
  exact ⟨rfl, box_below _ _⟩
set_option maxHeartbeats 1000000 in
theorem rmay_pt (a b c : Int) (p q : ByteArray) (w : World) (e1 : fitsB a = true) (e2 : fitsB b = true) (e3 : fitsB c = true) (pb : Bool) (hpre : ∀ W : World, Calls Tryd.prog 74 #[.string p, .bool true] W fun e w' => e = .returned (.bool pb) ∧ Below W.heap.size W w') (qb : Bool) (htag : ∀ W : World, Calls Tryd.prog 74 #[.string q, .bool false] W fun e w' => e = .returned (.bool qb) ∧ Below W.heap.size W w') :
    Calls Tryd.prog 42 #[.agg #[.int .i64 a, .int .i64 b, .int .i64 c, .string p, .string q]] w fun e w' => e = .returned (.bool (pb && qb)) ∧ Below w.heap.size w w' := by
  cases pb
  · go_enter Tryd.func42, Tryd.ntmps42
    go_wp2_with (first | (go_at_call 73; refine (num_any _ _).mono ?_; rintro e w3 ⟨rfl, rfl⟩) | (refine (hpre _).mono ?_; rintro e w2 ⟨rfl, hb2⟩; have hb3 := (box_below w _).trans (hb2.mono (by simp)); obtain ⟨k0, k1, k2, k3, k4⟩ := cells5 w _ _ _ _ _ _ (by simpa using hb2)))
    go_ret
    exact ⟨rfl, hb3⟩
  · go_enter Tryd.func42, Tryd.ntmps42
    go_wp2_with (go_at_call 73; refine (num_any _ _).mono ?_; rintro e w3 ⟨rfl, rfl⟩)
    refine (hpre _).mono ?_; rintro e w2 ⟨rfl, hb2⟩; have hb3 := (box_below w _).trans (hb2.mono (by simp)); obtain ⟨k0, k1, k2, k3, k4⟩ := cells5 w _ _ _ _ _ _ (by simpa using hb2)
    go_wp2_with fail
    refine (htag _).mono ?_
    rintro e w4 ⟨rfl, hb4⟩
    go_wp2
    go_ret
    exact ⟨rfl, hb3.trans (hb4.mono hb3.size)⟩

theorem rmay_any (a b c : Int) (p q : ByteArray) (w : World) (hp : p.size ≤ 1048576) (hq : q.size ≤ 1048576) :
    Calls Tryd.prog 42 #[.agg #[.int .i64 a, .int .i64 b, .int .i64 c, .string p, .string q]] w fun e w' => e = .returned (.bool (mayV (verS a b c p q))) ∧ Below w.heap.size w w' := by
  rw [may_eq]
  cases e1 : fitsB a
  · exact rmay_n0 a b c p q w e1
  cases e2 : fitsB b
  · exact rmay_n1 a b c p q w e1 e2
  cases e3 : fitsB c
  · exact rmay_n2 a b c p q w e1 e2 e3
  exact rmay_pt a b c p q w e1 e2 e3 _ (fun W => rtags_any p true W hp) _ (fun W => rtags_any q false W hq)
end Go.Proofs.YthaagngoefieaaaDoor
end

/-
  Blocks whose cells are known, of any number: read, kept, written. Conditions: none.
-/
section
namespace Go.Proofs.YthaagngoefieaaaDoor
open Go.ChangeShapes Go.WideShapes Go.ChangeAt Go.RowKit
set_option linter.unusedVariables false

/-- The cells of a block from its head on. -/
def Cells (W : World) (b : Nat) (xs : List Value) : Prop := ∀ i u, xs[i]? = some u → W.cell? ⟨b, i, none⟩ = some u
theorem cells_below {W W' : World} {b B : Nat} {xs : List Value} (h : Cells W b xs) (hb : b < B) (hw : Below B W W') : Cells W' b xs :=
  fun i u hu => (hw.cell (p := ⟨b, i, none⟩) hb).trans (h i u hu)
theorem cells_drew {W : World} {b : Nat} {xs : List Value} (h : Cells W b xs) : Cells W.drew b xs := h
theorem cells_new (w : World) (xs : List Value) (t : TypeId) : Cells (w.alloc (.cells xs.toArray t)) w.heap.size xs := by
  intro i u hu
  rw [(Blk.new w t xs.toArray).cell i]
  simpa using hu
/-- A block of the call's own: its cells, and that it may be written. -/
def Own (W : World) (b : Nat) (xs : List Value) : Prop := Cells W b xs ∧ ∀ o, W.frozen? ⟨b, o, none⟩ = false
theorem own_new (w : World) (xs : List Value) (t : TypeId) : Own (w.alloc (.cells xs.toArray t)) w.heap.size xs :=
  ⟨cells_new w xs t, fun o => (Blk.new w t xs.toArray).frozen o⟩
theorem own_below {W W' : World} {b B : Nat} {xs : List Value} (h : Own W b xs) (hb : b < B) (hw : Below B W W') : Own W' b xs :=
  ⟨cells_below h.1 hb hw, fun o => (hw.frozen (p := ⟨b, o, none⟩) hb).trans (h.2 o)⟩
theorem own_drew {W : World} {b : Nat} {xs : List Value} (h : Own W b xs) : Own W.drew b xs := h
/-- Cells written one behind the other. -/
def putL (W : World) (b : Nat) : Nat → List Value → World
  | _, [] => W
  | i, y :: ys => putL (W.setCell ⟨b, i, none⟩ y) b (i + 1) ys
theorem putL_size (b : Nat) : ∀ (ys : List Value) (i : Nat) (W : World), (putL W b i ys).heap.size = W.heap.size
  | [], _, _ => rfl
  | y :: ys, i, W => by rw [putL, putL_size b ys]; simp
theorem putL_other {b c : Nat} (h : c ≠ b) : ∀ (ys : List Value) (i : Nat) (W : World) (o : Nat), (putL W b i ys).cell? ⟨c, o, none⟩ = W.cell? ⟨c, o, none⟩
  | [], _, _, _ => rfl
  | y :: ys, i, W, o => by
    rw [putL, putL_other h ys]
    exact World.cell?_setCell_other W ⟨b, i, none⟩ ⟨c, o, none⟩ y (fun e => h (by injection e with e; exact e.symm))
end Go.Proofs.YthaagngoefieaaaDoor
end
