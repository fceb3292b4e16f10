/-
  The walks of chapter 2's pre and of the reference's tags. Conditions: the string has at most 1048576 bytes.
-/
import Derived.Test.YthaagngoefieaaaDoorVTags
namespace Go.Proofs.YthaagngoefieaaaDoor
open Go.ChangeShapes Go.WideShapes Go.ChangeAt Go.RowKit
set_option linter.unusedVariables false

theorem pre_off {s : List UInt8} (h : (splitL s 46).all ntagB = false) : preB s = false := by
  unfold preB; rw [h, Bool.and_false]
theorem pre_on {s : List UInt8} (h0 : tagsB s = true) (h : (splitL s 46).all ntagB = true) : preB s = true := by
  unfold preB; rw [h, h0]; rfl
theorem pre_tags {s : List UInt8} (h : tagsB s = false) : preB s = false := by
  unfold preB; rw [h, Bool.false_and]
theorem ntag_of (p : List UInt8) : ntagB p = !(numericB p && !(numB p).2) := rfl

set_option maxHeartbeats 2000000 in
theorem pre_any (s : ByteArray) (w : World) (hs : s.size ≤ 1048576) :
    Calls Tryd.prog 71 #[.string s] w fun e w' => e = .returned (.bool (preB s.data.toList)) ∧ Below w.heap.size w w' := by
  have HLE : Hid (∀ q ∈ splitL s.data.toList 46, q.length ≤ 1048576) := fun q hq => by have := piece_le hq; rw [len_size] at this; omega
  have hn := split_len_le s.data.toList 46
  rw [len_size] at hn
  have HOFF := Lib.hid (@pre_off s.data.toList)
  have HON := Lib.hid (@pre_on s.data.toList)
  have HT0 := Lib.hid (@pre_tags s.data.toList)
  generalize preB s.data.toList = R at *
  have htg := fun W => tags_any s W hs
  generalize htb : tagsB s.data.toList = tb at *
  cases tb
  · have HF := Lib.hid (HT0.out rfl)
    go_enter Tryd.func71, Tryd.ntmps71
    go_wp2_with (go_at_call 72; refine (htg _).mono ?_; rintro e w1 ⟨rfl, hb1⟩)
    go_ret
    exact ⟨ret_bool HF.out.symm, hb1⟩
  · go_enter Tryd.func71, Tryd.ntmps71
    go_wp2_with (first
      | (go_at_call 72; refine (htg _).mono ?_; rintro e w0 ⟨rfl, hb0⟩)
      | (go_at_call 50; refine (split_any s 46 _ hs).mono ?_; rintro e w1 ⟨⟨v, rfl, hown⟩, hb1⟩; obtain ⟨A, c, rfl, hrd⟩ := rd_own hown))
    have HRD := Lib.hid hrd
    have hb := hb0.trans (hb1.mono hb0.size)
    clear hown hrd hb0 hb1 htg
    generalize splitL s.data.toList 46 = ps at *
    generalize hN : ps.length = n at *
    go_loopw [4, 5, 6, 13] (fun t _ _ i wr => ∃ j : Nat, j ≤ n ∧ i = .int .i64 j ∧ (ps.take j).all ntagB = true ∧ Below w1.heap.size w1 wr) (fun _ _ _ i _ => n - (intOf i).toNat)
    case atStart => exact ⟨0, by omega, rfl, rfl, Below.refl _ _⟩
    case round =>
      obtain ⟨j, hj, rfl, hp, hbel⟩ := hrel
      have HP := Lib.hid hp
      have hsz := hbel.size
      clear hp
      by_cases hlt : j < n
      · obtain ⟨b, off, p, rfl, hb0, hpj, hc0⟩ := rds_cell (rd_below HRD.out hbel) hlt
        obtain ⟨t, ht, hpt, hts⟩ := piece_of hpj HLE.out
        rw [← ht] at hc0
        have hJF := all_off (p := ntagB) hpj
        have hJT := all_next (p := ntagB) hpj HP.out
        rw [ntag_of] at hJF hJT
        have hnb := fun W => number_any t W (by unfold maxLen; omega)
        have hnm := fun W => numeric_any t W (by unfold maxLen; omega)
        rw [hpt] at hnb hnm
        generalize numB p = nb at *
        generalize numericB p = nm at *
        obtain ⟨nv, is⟩ := nb
        have HJF := Lib.hid hJF
        have HJT := Lib.hid hJT
        clear hJF hJT hpj ht hpt
        have hcase : (nm = true ∧ is = false) ∨ (!(nm && !is)) = true := by cases nm <;> cases is <;> simp
        rcases hcase with ⟨rfl, rfl⟩ | hgood
        · have HF := Lib.hid (HOFF.out (HJF.out rfl))
          go_wp2_with (first
            | (go_at_call 66; refine (hnb _).mono ?_; rintro e w2 ⟨rfl, hb2⟩)
            | (go_at_call 79; refine (hnm _).mono ?_; rintro e w3 ⟨rfl, rfl⟩))
          go_ret
          exact ⟨ret_bool HF.out.symm, hb.trans ((hbel.trans (hb2.mono hsz)).mono hb.size)⟩
        · have HT := Lib.hid (HJT.out hgood)
          cases nm <;> cases is
          all_goals first | exact absurd hgood (by decide) | clear hgood
          all_goals
            go_wp2_with (first
              | (go_at_call 66; refine (hnb _).mono ?_; rintro e w2 ⟨rfl, hb2⟩)
              | (go_at_call 79; refine (hnm _).mono ?_; rintro e w3 ⟨rfl, rfl⟩))
            go_roundw
            case rel => exact ⟨j + 1, by omega, by go_num, HT.out, hbel.trans (hb2.mono hsz)⟩
            case measure => simp [intOf]; omega
      · obtain rfl : j = n := by omega
        have HE := Lib.hid (HON.out (by first | rfl | trivial | exact htb) (all_done (by rw [hN]; exact HP.out)))
        go_wp2
        go_ret
        exact ⟨ret_bool HE.out.symm, hb.trans (hbel.mono hb.size)⟩

/-- None, or a row of tags; with pr each numeric one a number. -/
def optB (pr : Bool) (s : List UInt8) : Bool := s.isEmpty || (if pr = true then preB s else tagsB s)
theorem opt_empty (pr : Bool) (s : ByteArray) (h : s.size = 0) : optB pr s.data.toList = true := by
  obtain rfl := empty_is h
  rfl
theorem list_nonempty {s : ByteArray} (h : 0 < s.size) : s.data.toList.isEmpty = false := by
  have := (empty_no h).1
  rwa [Lib.toList_data] at this
theorem opt_tags {pr : Bool} {s : ByteArray} (h0 : 0 < s.size) (h : tagsB s.data.toList = false) : optB pr s.data.toList = false := by
  unfold optB
  rw [list_nonempty h0, h, pre_tags h]
  simp
theorem opt_off1 {pr : Bool} {s : ByteArray} (h0 : 0 < s.size) (h : (splitL s.data.toList 46).all tagB = false) : optB pr s.data.toList = false := opt_tags h0 (tagsB_off h)
theorem opt_off2 {s : ByteArray} (h0 : 0 < s.size) (h : (splitL s.data.toList 46).all ntagB = false) : optB true s.data.toList = false := by
  unfold optB
  rw [list_nonempty h0, pre_off h]
  rfl
theorem opt_on {pr : Bool} {s : ByteArray} (hl : (splitL s.data.toList 46).length ≤ 4) (h : (splitL s.data.toList 46).all tagB = true) (h2 : pr = true → (splitL s.data.toList 46).all ntagB = true) : optB pr s.data.toList = true := by
  have ht : tagsB s.data.toList = true := by rw [tagsB_on h]; apply decide_eq_true; omega
  unfold optB
  rw [ht]
  cases pr
  · simp
  · rw [pre_on ht (h2 rfl)]; simp

set_option maxHeartbeats 4000000 in
theorem rtags_any (s : ByteArray) (pr : Bool) (w : World) (hs : s.size ≤ 1048576) :
    Calls Tryd.prog 74 #[.string s, .bool pr] w fun e w' => e = .returned (.bool (optB pr s.data.toList)) ∧ Below w.heap.size w w' := by
  by_cases h0 : s.size = 0
  · have HE := Lib.hid (opt_empty pr s h0)
    generalize optB pr s.data.toList = R at *
    obtain rfl := empty_is h0
    clear h0 hs
    go_enter Tryd.func74, Tryd.ntmps74
    go_wp2
    go_ret
    exact ⟨ret_bool HE.out.symm, Below.refl _ _⟩
  have hpos : 0 < s.size := by omega
  obtain ⟨he1, he2⟩ := empty_no hpos
  have HLE : Hid (∀ q ∈ splitL s.data.toList 46, q.length ≤ 1048576) := fun q hq => by have := piece_le hq; rw [len_size] at this; omega
  have hn := split_len_le s.data.toList 46
  rw [len_size] at hn
  have HLONG : Hid (4 < (splitL s.data.toList 46).length → optB pr s.data.toList = false) := fun h => opt_tags hpos (tags_len h)
  have HOFF1 := Lib.hid (opt_off1 (pr := pr) hpos)
  have HOFF2 : Hid (pr = true → (splitL s.data.toList 46).all ntagB = false → optB pr s.data.toList = false) := fun h1 h2 => by subst h1; exact opt_off2 hpos h2
  have HON := Lib.hid (@opt_on pr s)
  generalize optB pr s.data.toList = R at *
  by_cases h4 : 4 < (splitL s.data.toList 46).length
  · have HF := Lib.hid (HLONG.out h4)
    have h4i : (4 : Int) < ((splitL s.data.toList 46).length : Int) := by omega
    go_enter Tryd.func74, Tryd.ntmps74
    go_wp2_with (go_at_call 37; refine (rsplit_any s 46 _ hs).mono ?_; rintro e w1 ⟨⟨v, rfl, hown⟩, hb1⟩; obtain ⟨A, c, rfl, hrd⟩ := rd_own hown)
    go_ret
    exact ⟨ret_bool HF.out.symm, hb1⟩
  · have h4i : ((4 : Int) < ((splitL s.data.toList 46).length : Int)) = False := by simp; omega
    go_enter Tryd.func74, Tryd.ntmps74
    go_wp2_with (go_at_call 37; refine (rsplit_any s 46 _ hs).mono ?_; rintro e w1 ⟨⟨v, rfl, hown⟩, hb1⟩; obtain ⟨A, c, rfl, hrd⟩ := rd_own hown)
    have HRD := Lib.hid hrd
    clear hown hrd
    generalize splitL s.data.toList 46 = ps at *
    generalize hN : ps.length = n at *
    go_loopw [6, 7, 8] (fun i _ _ wr => ∃ j : Nat, j ≤ n ∧ i = .int .i64 j ∧ (ps.take j).all tagB = true ∧ (pr = true → (ps.take j).all ntagB = true) ∧ ∃ q, wr = w1.drewN q) (fun i _ _ _ => n - (intOf i).toNat)
    case atStart => exact ⟨0, by omega, rfl, rfl, fun _ => rfl, 0, rfl⟩
    case round =>
      obtain ⟨j, hj, rfl, hp, hp2, q, rfl⟩ := hrel
      have HP := Lib.hid hp
      have HP2 := Lib.hid hp2
      clear hp hp2
      by_cases hlt : j < n
      · obtain ⟨b, off, p, rfl, hb0, hpj, hc0⟩ := rds_cell HRD.out hlt
        obtain ⟨t, ht, hpt, hts⟩ := piece_of hpj HLE.out
        rw [← ht] at hc0
        have hJF := all_off (p := ntagB) hpj
        have hJT := fun h => all_next (p := ntagB) hpj (HP2.out h)
        have hKF := all_off (p := tagB) hpj
        have hKT := all_next (p := tagB) hpj HP.out
        rw [ntag_of] at hJF hJT
        have hnb := fun W => rnumber_any t W (by unfold maxLen; omega)
        have hnm := fun W => rnumeric_any t W (by unfold maxLen; omega)
        have htg := fun W => rtag_any t W (by unfold maxLen; omega)
        rw [hpt] at hnb hnm htg
        generalize numB p = nb at *
        generalize numericB p = nm at *
        generalize tagB p = tb at *
        obtain ⟨nv, is⟩ := nb
        have HJF := Lib.hid hJF
        have HJT := Lib.hid hJT
        have HKF := Lib.hid hKF
        have HKT := Lib.hid hKT
        clear hJF hJT hKF hKT hpj ht hpt
        have i1 : (j : Int) < (n : Int) := by omega
        cases tb
        · have HF := Lib.hid (HOFF1.out (HKF.out rfl))
          go_wp2_with (go_at_call 98; refine (htg _).mono ?_; rintro e w3 ⟨rfl, rfl⟩)
          go_ret
          exact ⟨ret_bool HF.out.symm, below_drewN hb1 _⟩
        · have HK := Lib.hid (HKT.out rfl)
          have hcase : (pr = true ∧ nm = true ∧ is = false) ∨ (pr = true → (!(nm && !is)) = true) := by cases pr <;> cases nm <;> cases is <;> simp
          rcases hcase with ⟨rfl, rfl, rfl⟩ | hgood
          · have HF := Lib.hid (HOFF2.out rfl (HJF.out rfl))
            go_wp2_with (first
              | (go_at_call 98; refine (htg _).mono ?_; rintro e w3 ⟨rfl, rfl⟩)
              | (go_at_call 68; refine (hnb _).mono ?_; rintro e w3 ⟨rfl, rfl⟩)
              | (go_at_call 99; refine (hnm _).mono ?_; rintro e w3 ⟨rfl, rfl⟩))
            go_ret
            exact ⟨ret_bool HF.out.symm, below_drewN hb1 _⟩
          · have HT : Hid (pr = true → (ps.take (j + 1)).all ntagB = true) := fun h => HJT.out h (hgood h)
            cases pr <;> cases nm <;> cases is
            all_goals first | exact absurd (hgood rfl) (by decide) | clear hgood
            all_goals
              go_wp2_with (first
                | (go_at_call 98; refine (htg _).mono ?_; rintro e w3 ⟨rfl, rfl⟩)
                | (go_at_call 68; refine (hnb _).mono ?_; rintro e w3 ⟨rfl, rfl⟩)
                | (go_at_call 99; refine (hnm _).mono ?_; rintro e w3 ⟨rfl, rfl⟩))
              go_roundw
              case rel => exact ⟨j + 1, by omega, by go_num, HK.out, HT.out, _, rfl⟩
              case measure => simp [intOf]; omega
      · obtain rfl : j = n := by omega
        have HE := Lib.hid (HON.out (by omega) (all_done (by rw [hN]; exact HP.out)) (fun h => all_done (by rw [hN]; exact HP2.out h)))
        go_wp2
        go_ret
        exact ⟨ret_bool HE.out.symm, below_drewN hb1 _⟩
end Go.Proofs.YthaagngoefieaaaDoor
