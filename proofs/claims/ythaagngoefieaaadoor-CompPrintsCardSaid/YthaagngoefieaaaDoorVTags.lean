/-
  The walks of chapter 2's tags. Conditions: the string has at most 1048576 bytes.
-/
import Derived.Test.YthaagngoefieaaaDoorVTag
import Derived.Test.YthaagngoefieaaaDoorRd
import Derived.Test.YthaagngoefieaaaDoorIdNumber
import Derived.Test.YthaagngoefieaaaDoorIdRNumber
import Derived.Deep.LoopGhost
namespace Go.Proofs.YthaagngoefieaaaDoor
open Go.ChangeShapes Go.WideShapes Go.ChangeAt Go.RowKit
set_option linter.unusedVariables false

theorem piece_le {l p : List UInt8} {b : UInt8} (h : p ∈ splitL l b) : p.length ≤ l.length := by
  have hj := split_join l b
  obtain ⟨i, hi, rfl⟩ := List.getElem_of_mem h
  obtain ⟨x, y, e⟩ := List.append_of_mem (List.getElem_mem hi)
  generalize (splitL l b)[i] = p at *
  have : ∀ (x y : List (List UInt8)), p.length ≤ (joinL (x ++ p :: y) b).length := by
    intro x y
    cases x with
    | nil => simp [joinL]
    | cons q r => simp [joinL]; omega
  have h2 := this x y
  rw [← e, hj] at h2
  exact h2
theorem split_len_le (l : List UInt8) (b : UInt8) : (splitL l b).length ≤ l.length + 1 := by
  rw [split_count]
  have := List.count_le_length (a := b) (l := l)
  omega
theorem all_next {p : List UInt8 → Bool} {ps : List (List UInt8)} {k : Nat} {q : List UInt8} (h : ps[k]? = some q) (h0 : (ps.take k).all p = true) (hq : p q = true) : (ps.take (k + 1)).all p = true := by
  obtain ⟨hlt, rfl⟩ := List.getElem?_eq_some_iff.1 h
  rw [List.take_succ_eq_append_getElem hlt, List.all_append, h0]
  simp [hq]
theorem all_off {p : List UInt8 → Bool} {ps : List (List UInt8)} {k : Nat} {q : List UInt8} (h : ps[k]? = some q) (hq : p q = false) : ps.all p = false := by
  obtain ⟨hlt, rfl⟩ := List.getElem?_eq_some_iff.1 h
  rw [Bool.eq_false_iff]
  intro ha
  rw [List.all_eq_true.1 ha _ (List.getElem_mem hlt)] at hq
  cases hq
theorem all_done {p : List UInt8 → Bool} {ps : List (List UInt8)} (h : (ps.take ps.length).all p = true) : ps.all p = true := by
  rwa [List.take_length] at h
/-- A piece as a string. -/
theorem piece_of {ps : List (List UInt8)} {n k : Nat} {p : List UInt8} (hp : ps[k]? = some p) (hle : ∀ q ∈ ps, q.length ≤ n) : ∃ t : ByteArray, t = ⟨p.toArray⟩ ∧ t.data.toList = p ∧ t.size ≤ n :=
  ⟨_, rfl, by simp, by rw [str_size]; exact hle p (List.mem_of_getElem? hp)⟩

theorem tagsB_off {s : List UInt8} (h : (splitL s 46).all tagB = false) : tagsB s = false := by
  unfold tagsB; rw [h, Bool.and_false]
theorem tagsB_on {s : List UInt8} (h : (splitL s 46).all tagB = true) : tagsB s = decide (((splitL s 46).length : Int) ≤ 4) := by
  unfold tagsB; rw [h, Bool.and_true]; apply decide_eq_decide.2; omega

set_option maxHeartbeats 4000000 in
theorem tags_any (s : ByteArray) (w : World) (hs : s.size ≤ 1048576) :
    Calls Tryd.prog 72 #[.string s] w fun e w' => e = .returned (.bool (tagsB s.data.toList)) ∧ Below w.heap.size w w' := by
  have HLE : Hid (∀ q ∈ splitL s.data.toList 46, q.length ≤ 1048576) := fun q hq => by have := piece_le hq; rw [len_size] at this; omega
  have hn := split_len_le s.data.toList 46
  rw [len_size] at hn
  have HOFF := Lib.hid (@tagsB_off s.data.toList)
  have HON := Lib.hid (@tagsB_on s.data.toList)
  generalize tagsB s.data.toList = R at *
  go_enter Tryd.func72, Tryd.ntmps72
  go_wp2
  go_step3
  go_wp2_with (go_at_call 50; refine (split_any s 46 _ hs).mono ?_; rintro e w1 ⟨⟨v, rfl, hown⟩, hb1⟩; obtain ⟨A, c, rfl, hrd⟩ := rd_own hown)
  have HRD := Lib.hid hrd
  clear hown hrd
  generalize splitL s.data.toList 46 = ps at *
  generalize hN : ps.length = n at *
  go_step3
  go_wp2
  go_loopg [4, 6, 8, 16] n (fun k g t ch i wr => ∃ j : Nat, j + k = n ∧ i = .int .i64 j ∧ g = .bool (decide ((n : Int) ≤ 4)) ∧ (ps.take j).all tagB = true ∧ Below w1.heap.size w1 wr)
  case atStart => exact ⟨0, by omega, rfl, rfl, rfl, Below.refl _ _⟩
  case round =>
    obtain ⟨j, hj, rfl, rfl, hp, hbel⟩ := hrel
    have HP := Lib.hid hp
    have hsz := hbel.size
    clear hp
    by_cases hlt : j < n
    · obtain ⟨b, off, p, rfl, hb, hpj, hc0⟩ := rds_cell (rd_below HRD.out hbel) hlt
      obtain ⟨t, ht, hpt, hts⟩ := piece_of hpj HLE.out
      rw [← ht] at hc0
      subst hpt
      have HJ := Lib.hid hpj
      clear hpj ht
      have hl := len_size t
      by_cases h0 : t.size = 0
      · have hem := empty_str t h0
        have HF := Lib.hid (HOFF.out (all_off HJ.out (tagb_no (by omega))))
        clear hl
        go_wp2
        try rw [Exit.noGoto_ret]
        go_ret
        exact ⟨ret_bool HF.out.symm, hb1.trans (hbel.mono hb1.size)⟩
      · obtain ⟨he1, he2⟩ := empty_no (s := t) (by omega)
        by_cases h8 : 8 < t.size
        · have HF := Lib.hid (HOFF.out (all_off HJ.out (tagb_no (by omega))))
          clear hl
          go_wp2
          try rw [Exit.noGoto_ret]
          go_ret
          exact ⟨ret_bool HF.out.symm, hb1.trans (hbel.mono hb1.size)⟩
        · have h80 : ((8 : Int) < (t.size : Int)) = False := by simp; omega
          clear hl
          go_wp2
          go_loopg [4, 8] t.size (fun k2 g ch wr2 => ∃ m : Nat, m + k2 = t.size ∧ wr2 = wr.iter t m ∧ g = .bool (decide ((n : Int) ≤ 4)) ∧ (t.data.toList.take m).all tagOk = true)
          case atStart => exact ⟨0, by omega, rfl, rfl, rfl⟩
          case round =>
            obtain ⟨m, hm, rfl, rfl, hq⟩ := hrel
            have HQ := Lib.hid hq
            clear hq
            by_cases hlt2 : m < t.size
            · by_cases c1 : (97 ≤ t[m].toNat ∧ t[m].toNat ≤ 122) ∨ (48 ≤ t[m].toNat ∧ t[m].toNat ≤ 57) ∨ t[m].toNat = 45
              · have HP2 := Lib.hid (tag_step hlt2 HQ.out c1)
                have hnx := fun ty => run_next_ascii (P := Tryd.prog) wr t m ty hlt2 (by omega)
                rcases c1 with ⟨d1, d2⟩ | ⟨d1, d2⟩ | d1
                · have e1 : (97 : Int) ≤ (t[m].toNat : Int) := by omega
                  have e2 : (t[m].toNat : Int) ≤ 122 := by omega
                  go_wp2
                  go_roundg (t.size - (m + 1))
                  case rel => exact ⟨m + 1, by omega, rfl, rfl, HP2.out⟩
                  case measure => omega
                · have e1 : (48 : Int) ≤ (t[m].toNat : Int) := by omega
                  have e2 : (t[m].toNat : Int) ≤ 57 := by omega
                  have e3 : (t[m].toNat : Int) < 97 := by omega
                  go_wp2
                  go_roundg (t.size - (m + 1))
                  case rel => exact ⟨m + 1, by omega, rfl, rfl, HP2.out⟩
                  case measure => omega
                · have e1 : (t[m].toNat : Int) < 48 := by omega
                  have e2 : ((t[m].toNat : Int) == 45) = true := by simp; omega
                  have e4 : ((t[m].toNat : Int) != 45) = false := by simp; omega
                  have e3 : (t[m].toNat : Int) < 97 := by omega
                  go_wp2
                  go_roundg (t.size - (m + 1))
                  case rel => exact ⟨m + 1, by omega, rfl, rfl, HP2.out⟩
                  case measure => omega
              · have HF := Lib.hid (HOFF.out (all_off HJ.out (tag_stop hlt2 c1)))
                by_cases ha : t[m].toNat < 128
                · have hnx := fun ty => run_next_ascii (P := Tryd.prog) wr t m ty hlt2 ha
                  have e1 : (t[m].toNat : Int) < 97 ∨ 122 < (t[m].toNat : Int) := by omega
                  have e2 : (t[m].toNat : Int) < 48 ∨ 57 < (t[m].toNat : Int) := by omega
                  have e3 : ((t[m].toNat : Int) == 45) = false := by simp; omega
                  have e4 : ((t[m].toNat : Int) != 45) = true := by simp; omega
                  clear c1
                  go_wp2
                  all_goals first | (exfalso; omega) | ((try rw [Exit.noGoto_ret]); go_ret; exact ⟨ret_bool HF.out.symm, hb1.trans ((hbel.mono hb1.size).trans ((iter_below _ _ _).mono (Nat.le_trans hb1.size hsz)))⟩)
                · have hnx := fun ty => run_next_any (P := Tryd.prog) wr t m ty hlt2
                  have hd := (decode_high t m hlt2 (by omega)).1
                  clear ha c1
                  generalize (Utf8.decode t m).1 = r at *
                  generalize m + (Utf8.decode t m).2 = k2 at *
                  have e1 : (128 : Int) ≤ (r : Int) := by omega
                  have e3 : ((r : Int) == 45) = false := by simp; omega
                  have e4 : ((r : Int) != 45) = true := by simp; omega
                  go_wp2
                  try rw [Exit.noGoto_ret]
                  go_ret
                  exact ⟨ret_bool HF.out.symm, hb1.trans ((hbel.mono hb1.size).trans ((iter_below _ _ _).mono (Nat.le_trans hb1.size hsz)))⟩
            · obtain rfl : m = t.size := by omega
              have HT := Lib.hid (all_next HJ.out HP.out (tag_end HQ.out (by omega) (by omega)))
              have hnx := fun ty => run_next_end (P := Tryd.prog) wr t t.size ty hlt2
              go_wp2
              go_roundg (n - (j + 1))
              case rel => exact ⟨j + 1, by omega, by go_num, rfl, HT.out, hbel.trans ((iter_below _ _ _).mono hsz)⟩
              case measure => omega
    · obtain rfl : j = n := by omega
      have HE := Lib.hid (HON.out (all_done (by rw [hN]; exact HP.out)))
      go_wp2
      try rw [Exit.noGoto_ret]
      go_ret
      exact ⟨ret_bool HE.out.symm, hb1.trans (hbel.mono hb1.size)⟩
end Go.Proofs.YthaagngoefieaaaDoor
