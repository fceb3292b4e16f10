/-
  The walks of chapter 1's Split, the program's and the reference's. Conditions: the string is no longer than a string can be.
-/
import Derived.Test.YthaagngoefieaaaDoorIdBase
import Derived.Lib.Strings
namespace Go.Proofs.YthaagngoefieaaaDoor
open Go.ChangeShapes Go.WideShapes Go.ChangeAt Go.RowKit
set_option linter.unusedVariables false

/-- A list of texts as cells. -/
def BS (ps : List (List UInt8)) : List Value := ps.map fun p => .string ⟨p.toArray⟩
theorem bs_snoc (ps : List (List UInt8)) (p : List UInt8) (t : ByteArray) (ht : t.data.toList = p) : BS ps ++ [.string t] = BS (ps ++ [p]) := by
  unfold BS
  rw [List.map_append]
  congr 2
  subst ht
  rfl
theorem info_str : (Tryd.prog.info? 9).map (fun i => (i.zero, i.size, i.bytes)) = some (some (.string ByteArray.empty), 1, 16) := by kernel_rfl
theorem ext_list (s : ByteArray) (a b : Nat) : (s.extract a b).data.toList = (s.data.toList.take b).drop a := by
  rw [Lib.extract_data, List.drop_take]

theorem split_yes {s : ByteArray} {b : UInt8} {k : Nat} (h : k < s.size) (hb : s[k] = b) :
    splitF s.data.toList b (k + 1) = ((splitF s.data.toList b k).1 ++ [(s.data.toList.take k).drop (splitF s.data.toList b k).2], k + 1) := by
  rw [splitF, if_pos (by rw [at_get s k h]; exact hb)]
theorem split_no {s : ByteArray} {b : UInt8} {k : Nat} (h : k < s.size) (hb : s[k] ≠ b) : splitF s.data.toList b (k + 1) = splitF s.data.toList b k := by
  rw [splitF, if_neg (by rw [at_get s k h]; exact hb)]
theorem splitF_len (l : List UInt8) (b : UInt8) (k : Nat) : (splitF l b k).1.length ≤ k := by
  induction k with
  | zero => exact Nat.le_refl _
  | succ k ih =>
    unfold splitF
    split
    · simp; omega
    · omega

set_option maxHeartbeats 2000000 in
theorem split_any (s : ByteArray) (b : UInt8) (w : World) (hs : s.size ≤ 1048576) :
    Calls Tryd.prog 50 #[.string s, .int .u8 (b.toNat : Int)] w fun e w' => (∃ v, e = .returned v ∧ w'.ownsRow w.heap.size 9 1 v (splitL s.data.toList b).length (BS (splitL s.data.toList b))) ∧ Below w.heap.size w w' := by
  obtain ⟨i0, hi0, hz0, hz1, hz2⟩ := info_parts info_str
  go_enter Tryd.func50, Tryd.ntmps50
  go_wp2
  go_loopw [5, 6, 7, 10] (fun v f _ i wr => ∃ k : Nat, k ≤ s.size ∧ i = .int .i64 k ∧ f = .int .i64 ((splitF s.data.toList b k).2 : Int) ∧ wr.ownsRow w.heap.size 9 1 v (splitF s.data.toList b k).1.length (BS (splitF s.data.toList b k).1) ∧ Below w.heap.size w wr) (fun _ _ _ i _ => s.size - (intOf i).toNat)
  case atStart => exact ⟨0, by omega, rfl, rfl, World.ownsRow_nil _ _ _ _, Below.refl _ _⟩
  case round =>
    obtain ⟨k, hk, rfl, rfl, hown, hbel⟩ := hrel
    have hlen := splitF_len s.data.toList b k
    have hfr := splitF_from s.data.toList b k
    have hsz := hbel.size
    by_cases hlt : k < s.size
    · by_cases hb : s[k] = b
      · have HS := Lib.hid (split_yes hlt hb)
        have HX := Lib.hid (ext_list s (splitF s.data.toList b k).2 k)
        have hbb : ((s[k].toNat : Int) == (b.toNat : Int)) = true := by simp [hb]
        clear hb
        generalize splitF s.data.toList b k = F at *
        obtain ⟨ps, fr⟩ := F
        simp only at hown hlen hfr HS HX ⊢
        go_wp2_with (at_builtin; refine wpList_append_one wr rfl (.tmp 18) (.tmp 23) 57 rfl w.heap.size 9 i0 (.string ByteArray.empty) 16 Tryd.underlying57 hi0 hz0 hz1 hz2 rfl _ _ _ (.string (s.extract fr k)) hown rfl rfl rfl (by omega) (by omega) hsz ?_; intro v' w1 hown' hb1)
        go_roundw
        case rel =>
          refine ⟨k + 1, by omega, by go_num, by rw [HS.out]; go_num, ?_, hbel.trans hb1⟩
          rw [HS.out]
          simp only [List.length_append, List.length_cons, List.length_nil]
          rw [← bs_snoc ps _ _ HX.out]
          exact hown'
        case measure => simp [intOf]; omega
      · have HS := Lib.hid (split_no hlt hb)
        have hbb : ((s[k].toNat : Int) == (b.toNat : Int)) = false := by
          rw [beq_eq_false_iff_ne]
          exact fun e => hb (UInt8.toNat_inj.1 (by omega))
        clear hb
        generalize splitF s.data.toList b k = F at *
        obtain ⟨ps, fr⟩ := F
        simp only at hown hlen hfr HS ⊢
        go_wp2
        go_roundw
        case rel =>
          refine ⟨k + 1, by omega, by go_num, by rw [HS.out], ?_, hbel⟩
          rw [HS.out]
          exact hown
        case measure => simp [intOf]; omega
    · obtain rfl : k = s.size := by omega
      have HL : Hid (splitL s.data.toList b = (splitF s.data.toList b s.size).1 ++ [s.data.toList.drop (splitF s.data.toList b s.size).2]) := by
        unfold splitL
        rw [len_size]
        rfl
      have HX := Lib.hid (ext_list s (splitF s.data.toList b s.size).2 s.size)
      generalize splitF s.data.toList b s.size = F at *
      obtain ⟨ps, fr⟩ := F
      simp only at hown hlen hfr HL HX ⊢
      go_wp2_with (at_builtin; refine wpList_append_one wr rfl (.tmp 28) (.tmp 32) 57 rfl w.heap.size 9 i0 (.string ByteArray.empty) 16 Tryd.underlying57 hi0 hz0 hz1 hz2 rfl _ _ _ (.string (s.extract fr s.size)) hown rfl rfl rfl (by omega) (by omega) hsz ?_; intro v' w1 hown' hb1)
      go_ret
      refine ⟨⟨v', rfl, ?_⟩, hbel.trans hb1⟩
      rw [HL.out]
      simp only [List.length_append, List.length_cons, List.length_nil]
      rw [← bs_snoc ps _ _ (by rw [HX.out, List.take_of_length_le (by rw [len_size]; exact Nat.le_refl _)])]
      exact hown'

set_option maxHeartbeats 2000000 in
theorem rsplit_any (s : ByteArray) (b : UInt8) (w : World) (hs : s.size ≤ 1048576) :
    Calls Tryd.prog 37 #[.string s, .int .u8 (b.toNat : Int)] w fun e w' => (∃ v, e = .returned v ∧ w'.ownsRow w.heap.size 9 1 v (splitL s.data.toList b).length (BS (splitL s.data.toList b))) ∧ Below w.heap.size w w' := by
  obtain ⟨i0, hi0, hz0, hz1, hz2⟩ := info_parts info_str
  go_enter Tryd.func37, Tryd.ntmps37
  go_wp2
  go_loopw [5, 6, 7] (fun v f i wr => ∃ k : Nat, k ≤ s.size ∧ i = .int .i64 k ∧ f = .int .i64 ((splitF s.data.toList b k).2 : Int) ∧ wr.ownsRow w.heap.size 9 1 v (splitF s.data.toList b k).1.length (BS (splitF s.data.toList b k).1) ∧ Below w.heap.size w wr) (fun _ _ i _ => s.size - (intOf i).toNat)
  case atStart => exact ⟨0, by omega, rfl, rfl, World.ownsRow_nil _ _ _ _, Below.refl _ _⟩
  case round =>
    obtain ⟨k, hk, rfl, rfl, hown, hbel⟩ := hrel
    have hlen := splitF_len s.data.toList b k
    have hfr := splitF_from s.data.toList b k
    have hsz := hbel.size
    by_cases hlt : k < s.size
    · by_cases hb : s[k] = b
      · have HS := Lib.hid (split_yes hlt hb)
        have HX := Lib.hid (ext_list s (splitF s.data.toList b k).2 k)
        have hbb : ((s[k].toNat : Int) == (b.toNat : Int)) = true := by simp [hb]
        clear hb
        generalize splitF s.data.toList b k = F at *
        obtain ⟨ps, fr⟩ := F
        simp only at hown hlen hfr HS HX ⊢
        go_wp2_with (at_builtin; refine wpList_append_one wr rfl (.tmp 19) (.tmp 24) 57 rfl w.heap.size 9 i0 (.string ByteArray.empty) 16 Tryd.underlying57 hi0 hz0 hz1 hz2 rfl _ _ _ (.string (s.extract fr k)) hown rfl rfl rfl (by omega) (by omega) hsz ?_; intro v' w1 hown' hb1)
        go_roundw
        case rel =>
          refine ⟨k + 1, by omega, by go_num, by rw [HS.out]; go_num, ?_, hbel.trans hb1⟩
          rw [HS.out]
          simp only [List.length_append, List.length_cons, List.length_nil]
          rw [← bs_snoc ps _ _ HX.out]
          exact hown'
        case measure => simp [intOf]; omega
      · have HS := Lib.hid (split_no hlt hb)
        have hbb : ((s[k].toNat : Int) == (b.toNat : Int)) = false := by
          rw [beq_eq_false_iff_ne]
          exact fun e => hb (UInt8.toNat_inj.1 (by omega))
        clear hb
        generalize splitF s.data.toList b k = F at *
        obtain ⟨ps, fr⟩ := F
        simp only at hown hlen hfr HS ⊢
        go_wp2
        go_roundw
        case rel =>
          refine ⟨k + 1, by omega, by go_num, by rw [HS.out], ?_, hbel⟩
          rw [HS.out]
          exact hown
        case measure => simp [intOf]; omega
    · obtain rfl : k = s.size := by omega
      have HL : Hid (splitL s.data.toList b = (splitF s.data.toList b s.size).1 ++ [s.data.toList.drop (splitF s.data.toList b s.size).2]) := by
        unfold splitL
        rw [len_size]
        rfl
      have HX := Lib.hid (ext_list s (splitF s.data.toList b s.size).2 s.size)
      generalize splitF s.data.toList b s.size = F at *
      obtain ⟨ps, fr⟩ := F
      simp only at hown hlen hfr HL HX ⊢
      go_wp2_with (at_builtin; refine wpList_append_one wr rfl (.tmp 28) (.tmp 32) 57 rfl w.heap.size 9 i0 (.string ByteArray.empty) 16 Tryd.underlying57 hi0 hz0 hz1 hz2 rfl _ _ _ (.string (s.extract fr s.size)) hown rfl rfl rfl (by omega) (by omega) hsz ?_; intro v' w1 hown' hb1)
      go_ret
      refine ⟨⟨v', rfl, ?_⟩, hbel.trans hb1⟩
      rw [HL.out]
      simp only [List.length_append, List.length_cons, List.length_nil]
      rw [← bs_snoc ps _ _ (by rw [HX.out, List.take_of_length_le (by rw [len_size]; exact Nat.le_refl _)])]
      exact hown'

end Go.Proofs.YthaagngoefieaaaDoor
