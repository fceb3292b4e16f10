/-
  The walks of chapter 2's reference pres and Compare. Conditions: Pre and Build have at most 1048576 bytes.
-/
import Derived.Test.YthaagngoefieaaaDoorVOne
namespace Go.Proofs.YthaagngoefieaaaDoor
open Go.ChangeShapes Go.WideShapes Go.ChangeAt Go.RowKit
set_option linter.unusedVariables false

theorem row_step {L M : List (List UInt8)} {j : Nat} {x y : List UInt8} (hx : L[j]? = some x) (hy : M[j]? = some y) :
    rowI (L.drop j) (M.drop j) = if oneI x y = 0 then rowI (L.drop (j + 1)) (M.drop (j + 1)) else oneI x y := by
  obtain ⟨h1, rfl⟩ := List.getElem?_eq_some_iff.1 hx
  obtain ⟨h2, rfl⟩ := List.getElem?_eq_some_iff.1 hy
  rw [List.drop_eq_getElem_cons h1, List.drop_eq_getElem_cons h2]
  rfl
theorem row_end {L M : List (List UInt8)} {j : Nat} (h1 : j ≤ L.length) (h2 : j ≤ M.length) (h : j = L.length ∨ j = M.length) : rowI (L.drop j) (M.drop j) = intsI L.length M.length := by
  by_cases hL : j = L.length
  · by_cases hM : j = M.length
    · rw [List.drop_of_length_le (by omega), List.drop_of_length_le (by omega)]
      unfold intsI; rw [if_neg (by omega), if_neg (by omega)]; rfl
    · rw [List.drop_of_length_le (by omega), List.drop_eq_getElem_cons (by omega)]
      unfold intsI; rw [if_pos (by omega)]; rfl
  · have hM : j = M.length := by rcases h with h | h; exact absurd h hL; exact h
    rw [List.drop_eq_getElem_cons (show j < L.length by omega), List.drop_of_length_le (show M.length ≤ j by omega)]
    unfold intsI; rw [if_neg (by omega), if_pos (by omega)]; rfl
theorem pres_same {a b : List UInt8} (h : a = b) : presI a b = 0 := by unfold presI; rw [if_pos h]
theorem pres_no_a {b : List UInt8} (h : [] ≠ b) : presI [] b = 1 := by unfold presI; rw [if_neg h, if_pos rfl]
theorem pres_no_b {a : List UInt8} (h : a ≠ []) : presI a [] = -1 := by unfold presI; rw [if_neg h, if_neg h, if_pos rfl]
theorem pres_row {a b : List UInt8} (h : a ≠ b) (ha : a ≠ []) (hb : b ≠ []) : presI a b = rowI (splitL a 46) (splitL b 46) := by unfold presI; rw [if_neg h, if_neg ha, if_neg hb]
theorem eq_str {a b : ByteArray} (h : a.data.toList = b.data.toList) : (a.toList == b.toList) = true := by rw [Lib.toList_data, Lib.toList_data, h]; simp
theorem ne_str {a b : ByteArray} (h : a.data.toList ≠ b.data.toList) : (a.toList == b.toList) = false := by rw [Lib.toList_data, Lib.toList_data]; simpa using h
theorem ret_i64 {a b : Int} (h : a = b) : Ending.returned (.int .i64 a) = .returned (.int .i64 b) := by rw [h]
theorem nil_size {a : ByteArray} (h : a.data.toList = []) : a.size = 0 := by have := congrArg List.length h; rw [len_size] at this; simpa using this
theorem size_nil {a : ByteArray} (h : a.size = 0) : a.data.toList = [] := by apply List.eq_nil_of_length_eq_zero; rw [len_size]; exact h

set_option maxHeartbeats 2000000 in
theorem rpres_any (a b : ByteArray) (w : World) (ha : a.size ≤ 1048576) (hb : b.size ≤ 1048576) :
    Calls Tryd.prog 105 #[.string a, .string b] w fun e w' => e = .returned (.int .i64 (presI a.data.toList b.data.toList)) ∧ Below w.heap.size w w' := by
  by_cases hab : a.data.toList = b.data.toList
  · rw [pres_same hab]
    have e1 := eq_str hab
    clear hab
    go_enter Tryd.func105, Tryd.ntmps105
    go_wp2
    go_ret
    exact ⟨rfl, Below.refl _ _⟩
  have e1 := ne_str hab
  by_cases ha0 : a.size = 0
  · rw [size_nil ha0]
    rw [size_nil ha0] at hab
    rw [pres_no_a hab]
    have e2 := empty_str a ha0
    clear hab
    go_enter Tryd.func105, Tryd.ntmps105
    go_wp2
    go_ret
    exact ⟨rfl, Below.refl _ _⟩
  have e2 := (empty_no (s := a) (by omega)).1
  by_cases hb0 : b.size = 0
  · rw [size_nil hb0]
    rw [size_nil hb0] at hab
    rw [pres_no_b hab]
    have e3 := empty_str b hb0
    clear hab
    go_enter Tryd.func105, Tryd.ntmps105
    go_wp2
    go_ret
    exact ⟨rfl, Below.refl _ _⟩
  have e3 := (empty_no (s := b) (by omega)).1
  rw [pres_row hab (fun h => ha0 (nil_size h)) (fun h => hb0 (nil_size h))]
  clear hab
  have HLE : Hid (∀ q ∈ splitL a.data.toList 46, q.length ≤ 1048576) := fun q hq => by have := piece_le hq; rw [len_size] at this; omega
  have HLF : Hid (∀ q ∈ splitL b.data.toList 46, q.length ≤ 1048576) := fun q hq => by have := piece_le hq; rw [len_size] at this; omega
  have hn := split_len_le a.data.toList 46
  rw [len_size] at hn
  have hm := split_len_le b.data.toList 46
  rw [len_size] at hm
  have hsa := fun W => rsplit_any a 46 W ha
  have hsb := fun W => rsplit_any b 46 W hb
  generalize splitL a.data.toList 46 = ps at *
  generalize splitL b.data.toList 46 = qs at *
  generalize hR : rowI ps qs = R at *
  have HR := Lib.hid hR
  clear hR
  go_enter Tryd.func105, Tryd.ntmps105
  go_wp2_with fail
  refine (hsa _).mono ?_
  rintro e w1 ⟨⟨v, rfl, hown⟩, hb1⟩
  obtain ⟨A, c, rfl, hrd⟩ := rd_own hown
  clear hown
  go_wp2_with fail
  refine (hsb _).mono ?_
  rintro e w2 ⟨⟨v, rfl, hown⟩, hb2⟩
  obtain ⟨A', c', rfl, hrd'⟩ := rd_own hown
  have HRD := Lib.hid (rd_below hrd hb2)
  have HRD' := Lib.hid hrd'
  have hbB := hb1.trans (hb2.mono hb1.size)
  clear hown hrd hrd' hb1 hb2 hsa hsb
  generalize hN : ps.length = n at *
  generalize hM : qs.length = m at *
  go_wp2_with fail
  go_loopw [7, 8] (fun i _ wr => ∃ j : Nat, j ≤ n ∧ j ≤ m ∧ i = .int .i64 j ∧ Hid (rowI (ps.drop j) (qs.drop j) = R) ∧ ∃ q, wr = w2.drewN q) (fun i _ _ => n - (intOf i).toNat)
  case atStart => exact ⟨0, by omega, by omega, rfl, HR, 0, rfl⟩
  case round =>
    obtain ⟨j, hj, hj', rfl, HJ, q, rfl⟩ := hrel
    by_cases hlt : j < n ∧ j < m
    · obtain ⟨hl1, hl2⟩ := hlt
      obtain ⟨k, off, p, rfl, hk0, hpj, hc0⟩ := rds_cell HRD.out hl1
      obtain ⟨k', off', p', rfl, hk0', hpj', hc0'⟩ := rds_cell HRD'.out hl2
      have HST := Lib.hid (row_step hpj hpj')
      obtain ⟨t, ht, hpt, hts⟩ := piece_of hpj HLE.out
      obtain ⟨t', ht', hpt', hts'⟩ := piece_of hpj' HLF.out
      rw [← ht] at hc0
      rw [← ht'] at hc0'
      have hone := fun W => rone_any t t' W (by unfold maxLen; omega) (by unfold maxLen; omega)
      rw [hpt, hpt'] at hone
      clear hpj hpj' ht ht' hpt hpt'
      have i1 : (j : Int) < (n : Int) := by omega
      have i2 : (j : Int) < (m : Int) := by omega
      have HST := HST.out
      rw [HJ.out] at HST
      generalize oneI p p' = r at *
      have HST := Lib.hid HST
      by_cases hr0 : r = 0
      · subst hr0
        go_wp2_with fail
        go_quiet ((go_at_call 107; exact quiet_add_left (hone _)))
        go_wp2_with fail
        go_roundw
        case rel => exact ⟨j + 1, by omega, by omega, by go_num, (by have := HST.out; simp only [if_true] at this; exact this.symm), _, rfl⟩
        case measure => simp [intOf]; omega
      · have HF : Hid (R = r) := by have := HST.out; rw [if_neg hr0] at this; exact this
        have hr1 : (r == 0) = false := by simpa using hr0
        have hr2 : (r != 0) = true := by simpa using hr0
        go_wp2_with fail
        go_quiet ((go_at_call 107; exact quiet_add_left (hone _)))
        go_wp2_with fail
        go_ret
        exact ⟨ret_i64 HF.out.symm, below_drewN hbB _⟩
    · have HF : Hid (R = intsI n m) := by rw [← HJ.out, ← hN, ← hM]; exact row_end (by omega) (by omega) (by omega)
      have hi := fun W => ints_any n m W
      by_cases hl1 : j < n
      · obtain rfl : j = m := by omega
        have i1 : (j : Int) < (n : Int) := by omega
        go_wp2_with (go_at_call 93; refine (hi _).mono ?_; rintro e w3 ⟨rfl, rfl⟩)
        go_ret
        exact ⟨ret_i64 HF.out.symm, below_drewN hbB _⟩
      · obtain rfl : j = n := by omega
        go_wp2_with (go_at_call 93; refine (hi _).mono ?_; rintro e w3 ⟨rfl, rfl⟩)
        go_ret
        exact ⟨ret_i64 HF.out.symm, below_drewN hbB _⟩

theorem comp_no_a {x y : Ver} (h : mayV x = false) : compV x y = 0 := by unfold compV; rw [if_neg (fun k => by rw [h] at k; cases k.1)]
theorem comp_no_b {x y : Ver} (h : mayV y = false) : compV x y = 0 := by unfold compV; rw [if_neg (fun k => by rw [h] at k; cases k.2)]
theorem comp_yes {x y : Ver} (h : mayV x = true) (k : mayV y = true) : compV x y = orI (intsI x.maj y.maj) (orI (intsI x.min y.min) (orI (intsI x.pat y.pat) (presI x.pre y.pre))) := by unfold compV; rw [if_pos ⟨h, k⟩]
theorem or_0 (b : Int) : orI 0 b = b := rfl
theorem or_n {a : Int} (h : a ≠ 0) (b : Int) : orI a b = a := by unfold orI; rw [if_neg h]
theorem five_drewN {W : World} {b : Nat} {x0 x1 x2 x3 x4 : Value} (h : Five W b x0 x1 x2 x3 x4) (n : Nat) : Five (W.drewN n) b x0 x1 x2 x3 x4 := h

theorem two_five (w : World) (x0 x1 x2 x3 x4 y0 y1 y2 y3 y4 : Value) (t t' : TypeId) {w1 : World} {B : Nat} (hb : Below B ((w.alloc (.cells #[x0, x1, x2, x3, x4] t)).alloc (.cells #[y0, y1, y2, y3, y4] t')) w1) (hB : w.heap.size + 2 ≤ B := by simp) :
    Five w1 w.heap.size x0 x1 x2 x3 x4 ∧ Five w1 (w.heap.size + 1) y0 y1 y2 y3 y4 := by
  have r1 := (room_below (room_new w x0 x1 x2 x3 x4 t) (show w.heap.size < (w.alloc (.cells #[x0, x1, x2, x3, x4] t)).heap.size by simp) (box_below _ (.cells #[y0, y1, y2, y3, y4] t'))).1
  have r2 := (room_new (w.alloc (.cells #[x0, x1, x2, x3, x4] t)) y0 y1 y2 y3 y4 t').1
  simp only [World.size_alloc] at r2
  exact ⟨five_below r1 (by omega) hb, five_below r2 (by omega) hb⟩

set_option maxHeartbeats 4000000 in
theorem rcompare_any (a b c : Int) (p q : ByteArray) (a' b' c' : Int) (p' q' : ByteArray) (w : World) (hp : p.size ≤ 1048576) (hq : q.size ≤ 1048576) (hp' : p'.size ≤ 1048576) (hq' : q'.size ≤ 1048576) :
    Calls Tryd.prog 94 #[.agg #[.int .i64 a, .int .i64 b, .int .i64 c, .string p, .string q], .agg #[.int .i64 a', .int .i64 b', .int .i64 c', .string p', .string q']] w fun e w' => e = .returned (.int .i64 (compV (verS a b c p q) (verS a' b' c' p' q'))) ∧ Below w.heap.size w w' := by
  have m1 := fun W => rmay_any a b c p q W hp hq
  have m2 := fun W => rmay_any a' b' c' p' q' W hp' hq'
  cases hx : mayV (verS a b c p q)
  · rw [comp_no_a hx]
    rw [hx] at m1
    clear hx m2
    go_enter Tryd.func94, Tryd.ntmps94
    go_wp2_with fail
    refine (m1 _).mono ?_
    rintro e w1 ⟨rfl, hb1⟩
    have hbB := (two_below w _ _).trans (hb1.mono (by simp; omega))
    go_wp2
    go_ret
    exact ⟨rfl, hbB⟩
  cases hy : mayV (verS a' b' c' p' q')
  · rw [comp_no_b hy]
    rw [hx] at m1
    rw [hy] at m2
    clear hx hy
    go_enter Tryd.func94, Tryd.ntmps94
    go_wp2_with fail
    refine (m1 _).mono ?_
    rintro e w1 ⟨rfl, hb1⟩
    have hbB := (two_below w _ _).trans (hb1.mono (by simp; omega))
    obtain ⟨l0, l1, l2, l3, l4⟩ := (two_five w _ _ _ _ _ _ _ _ _ _ _ _ hb1).2
    go_wp2_with fail
    refine (m2 _).mono ?_
    rintro e w2 ⟨rfl, hb2⟩
    have hbB := hbB.trans (hb2.mono hbB.size)
    go_wp2
    go_ret
    exact ⟨rfl, hbB⟩
  have HC := Lib.hid (comp_yes hx hy)
  rw [hx] at m1
  rw [hy] at m2
  clear hx hy
  generalize compV (verS a b c p q) (verS a' b' c' p' q') = R at *
  go_enter Tryd.func94, Tryd.ntmps94
  go_wp2_with fail
  refine (m1 _).mono ?_
  rintro e w1 ⟨rfl, hb1⟩
  have hbB := (two_below w _ _).trans (hb1.mono (by simp; omega))
  have h5 := two_five w _ _ _ _ _ _ _ _ _ _ _ _ hb1
  have hz : w.heap.size + 2 ≤ w1.heap.size := by have := hb1.size; simp at this; omega
  clear hb1
  obtain ⟨l0, l1, l2, l3, l4⟩ := id h5.2
  go_wp2_with fail
  refine (m2 _).mono ?_
  rintro e w2 ⟨rfl, hb2⟩
  have hbB := hbB.trans (hb2.mono hbB.size)
  have k5 := five_below h5.1 (by omega) hb2
  have k6 := five_below h5.2 (by omega) hb2
  clear hb2 l0 l1 l2 l3 l4 h5
  obtain ⟨k0, k1, k2, k3, k4⟩ := id k5
  obtain ⟨l0, l1, l2, l3, l4⟩ := id k6
  clear m1 m2
  have i0 := fun W => ints_any a a' W
  have i1 := fun W => ints_any b b' W
  have i2 := fun W => ints_any c c' W
  have i3 := fun W => rpres_any p p' W hp hp'
  dsimp only [verS] at HC
  generalize intsI a a' = r0 at *
  generalize intsI b b' = r1 at *
  generalize intsI c c' = r2 at *
  generalize presI p.data.toList p'.data.toList = r3 at *
  by_cases h0 : r0 = 0
  · subst h0
    go_wp2_with fail
    refine (i0 _).mono ?_
    rintro e w3 ⟨rfl, rfl⟩
    go_wp2_with fail
    refine (i1 _).mono ?_
    rintro e w3 ⟨rfl, rfl⟩
    by_cases h1 : r1 = 0
    · subst h1
      go_wp2_with fail
      refine (i2 _).mono ?_
      rintro e w3 ⟨rfl, rfl⟩
      by_cases h2 : r2 = 0
      · subst h2
        go_wp2_with fail
        refine (i3 _).mono ?_
        rintro e w3 ⟨rfl, hb3⟩
        go_wp2
        go_ret
        exact ⟨ret_i64 (by rw [HC.out]; rfl), hbB.trans (hb3.mono hbB.size)⟩
      · have hr1 : (r2 == 0) = false := by simpa using h2
        have hr2 : (r2 != 0) = true := by simpa using h2
        go_wp2_with fail
        go_ret
        exact ⟨ret_i64 (by rw [HC.out]; exact (or_n h2 _).symm), hbB⟩
    · have hr1 : (r1 == 0) = false := by simpa using h1
      have hr2 : (r1 != 0) = true := by simpa using h1
      go_wp2_with fail
      go_ret
      exact ⟨ret_i64 (by rw [HC.out]; exact (or_n h1 _).symm), hbB⟩
  · have hr1 : (r0 == 0) = false := by simpa using h0
    have hr2 : (r0 != 0) = true := by simpa using h0
    go_wp2_with fail
    refine (i0 _).mono ?_
    rintro e w3 ⟨rfl, rfl⟩
    go_wp2_with fail
    go_ret
    exact ⟨ret_i64 (by rw [HC.out]; exact (or_n h0 _).symm), hbB⟩
end Go.Proofs.YthaagngoefieaaaDoor
