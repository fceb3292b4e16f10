/-
  Chapter 36: the walks of slices.insertionSortCmpFunc, stableCmpFunc and SortStableFunc over ways: some rearrangement of the ways. Conditions: at most 12 ways; rows within the limit; limits and ways from 0 to 2^24.
-/
import Derived.Test.YtmfdpdnokiidlaaDoorHClone
namespace Go.Proofs.YtmfdpdnokiidlaaDoor
open Go.ChangeShapes Go.WideShapes Go.ChangeAt Go.RowKit
set_option linter.unusedVariables false
set_option linter.unusedSimpArgs false

/-! The plain sort. -/
def w00 : Way := (0, 0)
def swapW (l : List Way) (j : Nat) : List Way := (l.set (j + 1) (l.getD j w00)).set j (l.getD (j + 1) w00)
def insW (c : Way → Way → Int) : Nat → List Way → List Way
  | 0, l => l
  | j + 1, l => if c (l.getD (j + 1) w00) (l.getD j w00) < 0 then insW c j (swapW l j) else l
def srtGo (c : Way → Way → Int) : Nat → Nat → List Way → List Way
  | 0, _, l => l
  | f + 1, i, l => srtGo c f (i + 1) (insW c i l)
def srtW (c : Way → Way → Int) (l : List Way) : List Way := srtGo c (l.length - 1) 1 l
theorem swap_len (l : List Way) (j : Nat) : (swapW l j).length = l.length := by simp [swapW]
theorem ins_len (c : Way → Way → Int) : ∀ (j : Nat) (l : List Way), (insW c j l).length = l.length
  | 0, l => rfl
  | j + 1, l => by
    rw [insW]
    split
    · rw [ins_len c j, swap_len]
    · rfl
theorem swap_mem {l : List Way} {j : Nat} (h : j + 1 < l.length) (r : Way) : r ∈ swapW l j ↔ r ∈ l := by
  have e0 : l.getD j w00 = l[j] := by rw [List.getD_eq_getElem?_getD, List.getElem?_eq_getElem (by omega)]; rfl
  have e1 : l.getD (j + 1) w00 = l[j + 1] := by rw [List.getD_eq_getElem?_getD, List.getElem?_eq_getElem h]; rfl
  unfold swapW
  rw [e0, e1]
  constructor
  · intro hr
    rcases List.mem_or_eq_of_mem_set hr with hr | rfl
    · rcases List.mem_or_eq_of_mem_set hr with hr | rfl
      · exact hr
      · exact List.getElem_mem _
    · exact List.getElem_mem _
  · intro hr
    obtain ⟨i, hi, rfl⟩ := List.getElem_of_mem hr
    rw [List.mem_iff_getElem?]
    by_cases h1 : i = j
    · subst h1
      exact ⟨i + 1, by rw [List.getElem?_set_ne (by omega), List.getElem?_set_self h]⟩
    · by_cases h2 : i = j + 1
      · subst h2
        exact ⟨j, by rw [List.getElem?_set_self (by rw [List.length_set]; omega)]⟩
      · exact ⟨i, by rw [List.getElem?_set_ne (by omega), List.getElem?_set_ne (by omega), List.getElem?_eq_getElem hi]⟩
theorem ins_mem2 (c : Way → Way → Int) : ∀ (j : Nat) (l : List Way), j < l.length → ∀ r, r ∈ insW c j l ↔ r ∈ l
  | 0, l, _, r => Iff.rfl
  | j + 1, l, h, r => by
    rw [insW]
    split
    · rw [ins_mem2 c j _ (by rw [swap_len]; omega), swap_mem h]
    · rfl
theorem srtGo_mem (c : Way → Way → Int) : ∀ (f i : Nat) (l : List Way), i + f ≤ l.length → ∀ r, r ∈ srtGo c f i l ↔ r ∈ l
  | 0, _, _, _, _ => Iff.rfl
  | f + 1, i, l, h, r => by
    rw [srtGo, srtGo_mem c f (i + 1) _ (by rw [ins_len]; omega), ins_mem2 c i l (by omega)]
theorem srt_mem (c : Way → Way → Int) (l : List Way) (r : Way) : r ∈ srtW c l ↔ r ∈ l := by
  unfold srtW
  cases l with
  | nil => rfl
  | cons a l => exact srtGo_mem c _ 1 _ (by simp; omega) r
theorem srtGo_len (c : Way → Way → Int) : ∀ (f i : Nat) (l : List Way), (srtGo c f i l).length = l.length
  | 0, _, _ => rfl
  | f + 1, i, l => by rw [srtGo, srtGo_len c f, ins_len]
theorem srt_len (c : Way → Way → Int) (l : List Way) : (srtW c l).length = l.length := srtGo_len c _ _ _

/-! In memory. -/
theorem ownW_at {w : World} {g : Nat} {l : List Way} (h : OwnW w g l) {j : Nat} {x : Way} (hx : l[j]? = some x) : w.cell? ⟨g, j * 2, none⟩ = some (.int .i64 (x.1 : Nat)) ∧ w.cell? ⟨g, j * 2 + 1, none⟩ = some (.int .i64 x.2) :=
  ⟨h.1 (j * 2 + 0) _ ((flat_way l j 0 x hx (by omega)).trans rfl), h.1 (j * 2 + 1) _ ((flat_way l j 1 x hx (by omega)).trans rfl)⟩
theorem ownW_below {w w' : World} {g B : Nat} {l : List Way} (h : OwnW w g l) (hb : Below B w w') (hg : g < B) : OwnW w' g l := own_below h hg hb
/-- Cells that are not written stay, the two written ones are as told: a row of ways with one way set. -/
theorem ownW_set {w : World} {g : Nat} {l : List Way} (h : OwnW w g l) {j : Nat} (hj : j < l.length) (x : Way) : OwnW ((w.setCell ⟨g, j * 2, none⟩ (.int .i64 (x.1 : Nat))).setCell ⟨g, j * 2 + 1, none⟩ (.int .i64 x.2)) g (l.set j x) := by
  have hl := way_flat l
  have h1 := own_set h (j * 2) (by omega) (.int .i64 (x.1 : Nat))
  have h2 := own_set h1 (j * 2 + 1) (by rw [List.length_set]; omega) (.int .i64 x.2)
  refine ⟨fun i u hu => h2.1 i u ?_, h2.2⟩
  have hlt := (List.getElem?_eq_some_iff.1 hu).1
  rw [way_flat, List.length_set] at hlt
  have hy : (l.set j x)[i / 2]? = some (if i / 2 = j then x else l[i / 2]'(by omega)) := by
    by_cases e : i / 2 = j
    · rw [if_pos e, e, List.getElem?_set_self hj]
    · rw [if_neg e, List.getElem?_set_ne (Ne.symm e), List.getElem?_eq_getElem]
  have hf := flat_way (l.set j x) (i / 2) (i % 2) _ hy (by omega)
  rw [show i / 2 * 2 + i % 2 = i by omega, hu] at hf
  have hg0 : i / 2 ≠ j → (l.flatMap wayCells)[i]? = some u := fun e => by
    have hf2 := flat_way l (i / 2) (i % 2) _ (List.getElem?_eq_getElem (by omega)) (by omega)
    rw [show i / 2 * 2 + i % 2 = i by omega] at hf2
    rw [hf2, hf, if_neg e]
  by_cases e : i / 2 = j
  · rw [if_pos e] at hf
    rcases (show i % 2 = 0 ∨ i % 2 = 1 by omega) with e2 | e2
    · rw [e2] at hf
      have ei : i = j * 2 := by omega
      rw [ei, List.getElem?_set_ne (by omega), List.getElem?_set_self (by omega), hf]
      rfl
    · rw [e2] at hf
      have ei : i = j * 2 + 1 := by omega
      rw [ei, List.getElem?_set_self (by rw [List.length_set]; omega), hf]
      rfl
  · rw [List.getElem?_set_ne (by omega), List.getElem?_set_ne (by omega), hg0 e]
def InAt (g : Nat) (w W : World) (N : Nat) (n : Nat) (l : List Way) : Prop := l.length = n ∧ (∀ x ∈ l, x.1 < N ∧ 0 ≤ x.2 ∧ x.2 ≤ 16777216) ∧ OwnW W g l ∧ Below g w W ∧ g < W.heap.size
theorem InAt.call {g : Nat} {w W W' : World} {N n : Nat} {l : List Way} (h : InAt g w W N n l) (hb : Below W.heap.size W W') : InAt g w W' N n l :=
  ⟨h.1, h.2.1, ownW_below h.2.2.1 hb h.2.2.2.2, h.2.2.2.1.trans (hb.mono (Nat.le_of_lt h.2.2.2.2)), Nat.lt_of_lt_of_le h.2.2.2.2 hb.size⟩
theorem InAt.drew {g : Nat} {w W : World} {N n : Nat} {l : List Way} (h : InAt g w W N n l) : InAt g w W.drew N n l := ⟨h.1, h.2.1, own_drew h.2.2.1, h.2.2.2.1.drew, h.2.2.2.2⟩
theorem InAt.swap {g : Nat} {w W : World} {N n m : Nat} {l : List Way} {x1 x0 : Way} (h : InAt g w W N n l) (hm : m + 1 < n) (h1 : l[m + 1]? = some x1) (h0 : l[m]? = some x0) :
    InAt g w ((((W.setCell ⟨g, (m + 1) * 2, none⟩ (.int .i64 (x0.1 : Nat))).setCell ⟨g, (m + 1) * 2 + 1, none⟩ (.int .i64 x0.2)).setCell ⟨g, m * 2, none⟩ (.int .i64 (x1.1 : Nat))).setCell ⟨g, m * 2 + 1, none⟩ (.int .i64 x1.2)) N n (swapW l m) := by
  obtain ⟨hl, hw, hown, hb, hg⟩ := h
  have e : swapW l m = (l.set (m + 1) x0).set m x1 := by rw [swapW, List.getD_eq_getElem?_getD, List.getD_eq_getElem?_getD, h1, h0]; rfl
  refine ⟨by rw [swap_len]; exact hl, fun x hx => hw x ((swap_mem (by omega) x).1 hx), ?_, ?_, ?_⟩
  · rw [e]
    exact ownW_set (ownW_set hown (by omega) x0) (by rw [List.length_set]; omega) x1
  · exact (((hb.setCell (Nat.le_refl _) _).setCell (Nat.le_refl _) _).setCell (Nat.le_refl _) _).setCell (Nat.le_refl _) _
  · simpa using hg
set_option maxRecDepth 8192 in
set_option maxHeartbeats 4000000 in
theorem insort_any (A' : Option Addr) (c' B bl g cap : Nat) (lim : List Int) (l : List Way) (w : World) (h' : RdI w B A' lim) (hBg : B ≤ g) (hlm : Lim lim) (hlim : lim.length ≤ 1000000) (hli : w.cell? ⟨bl, 0, none⟩ = some (.slice A' lim.length c')) (hbl : bl < g)
    (hown : OwnW w g l) (hg : g < w.heap.size) (hw : ∀ x ∈ l, x.1 < lim.length ∧ 0 ≤ x.2 ∧ x.2 ≤ 16777216) (h0 : 0 < l.length) (h12 : l.length ≤ 12) (hcap : l.length ≤ cap) :
    Calls Tryd.prog 53 #[.slice (some ⟨g, 0, none⟩) l.length cap, .int .i64 0, .int .i64 (l.length : Nat), .func (.func 34) #[] #[.pointer (some ⟨bl, 0, none⟩)]] w fun e w' => e = .returned (.tuple #[]) ∧ OwnW w' g (srtW (cmpW lim) l) ∧ Below g w w' := by
  have HC := Lib.hid (fun (W : World) (hb : Below g w W) (hs : g < W.heap.size) (x y : Way) (hx : x.1 < lim.length ∧ 0 ≤ x.2 ∧ x.2 ≤ 16777216) (hy : y.1 < lim.length ∧ 0 ≤ y.2 ∧ y.2 ≤ 16777216) =>
    cmpw_any A' c' B bl lim x y W (rdI_below h' (hb.mono hBg)) (Nat.le_trans hBg (Nat.le_of_lt hs)) hlm hx hy hlim ((hb.cell (p := ⟨bl, 0, none⟩) hbl).trans hli) (Nat.lt_trans hbl hs))
  have hst0 : InAt g w w lim.length l.length l := ⟨rfl, hw, hown, Below.refl _ _, hg⟩
  have HST0 := Lib.hid hst0
  have HR := Lib.hid (show srtGo (cmpW lim) (l.length - 1) 1 l = srtW (cmpW lim) l from rfl)
  clear h' hlm hli hown hw hst0
  generalize srtW (cmpW lim) l = R at *
  generalize hc : cmpW lim = c at *
  clear hc
  generalize lim.length = N at *
  generalize hn : l.length = n at *
  clear hn
  go_enter Tryd.func53, Tryd.ntmps53
  go_wp2_with fail
  go_loopg [8, 9] (n - 1) (fun k2 i _ wr => ∃ (k : Nat) (lc : List Way), k + k2 = n ∧ 0 < k ∧ i = .int .i64 k ∧ Hid (srtGo c (n - k) k lc = R) ∧ InAt g w wr N n lc)
  case atStart => exact ⟨1, l, by omega, by omega, rfl, HR, HST0.out⟩
  case round =>
    obtain ⟨k, lc, hk, hk0, rfl, HS, hst⟩ := hrel
    have HST := Lib.hid hst
    clear HST0 hst
    by_cases hlt : k < n
    · have i1 : (k : Int) < (n : Int) := by omega
      have HS2 : Hid (srtGo c (n - (k + 1)) (k + 1) (insW c k lc) = R) := Lib.hid (by have h := HS.out; rwa [show n - k = (n - (k + 1)) + 1 by omega, srtGo] at h)
      clear HS
      go_wp2_with fail
      go_loopg [9] k (fun k3 j w3 => ∃ (lj : List Way), j = .int .i64 (k3 : Nat) ∧ k3 ≤ k ∧ Hid (insW c k3 lj = insW c k lc) ∧ InAt g w w3 N n lj)
      case atStart => exact ⟨lc, rfl, Nat.le_refl _, Lib.hid rfl, HST.out⟩
--CUT
      case round =>
        obtain ⟨lj, rfl, hgk, HI, hIn⟩ := hrel
        clear HST
        cases gk with
        | zero =>
          have hz : ((0 : Int) < 0) = False := by simp
          go_wp2_with fail
          refine wp_region_held_drew (S := fun W => InAt g w W N n lj) (by kernel_rfl) hIn.drew (fun hHeld => ?_)
          refine takeD (i := 0) (d := some 18) (v := ?_) rfl rfl (by kernel_rfl) (by kernel_rfl) (by kernel_rfl) (fun _ _ _ h => h) (Or.inl ⟨by rfl, ?_⟩) (by assumption) ?_
          rotate_left
          · intro wS hSw; (try dsimp only at hSw); go_simp; (try with_reducible rfl)
          try simp only [Act.put, List.setIfInBounds_toArray, List.set_cons_zero, List.set_cons_succ]
          refine takeD (i := 1) (d := some 19) (v := ?_) rfl rfl (by kernel_rfl) (by kernel_rfl) (by kernel_rfl) (fun _ _ _ h => h) (Or.inl ⟨by rfl, ?_⟩) (by assumption) ?_
          rotate_left
          · intro wS hSw; (try dsimp only at hSw); go_simp; (try with_reducible rfl)
          try simp only [Act.put, List.setIfInBounds_toArray, List.set_cons_zero, List.set_cons_succ]
          refine takeD (i := 2) (d := some 20) (v := .bool false) rfl rfl (by kernel_rfl) (by kernel_rfl) (by kernel_rfl) (fun _ _ _ h => h) (Or.inl ⟨by rfl, ?_⟩) (by assumption) ?_
          · intro wS hSw; (try dsimp only at hSw); go_simp; (try simp [hz]); (try with_reducible rfl)
          try simp only [Act.put, List.setIfInBounds_toArray, List.set_cons_zero, List.set_cons_succ]
          refine takeD (i := 3) (d := some 21) (v := ?_) rfl rfl (by kernel_rfl) (by kernel_rfl) (by kernel_rfl) (fun _ _ _ h => h) (Or.inl ⟨by rfl, ?_⟩) (by assumption) ?_
          rotate_left
          · intro wS hSw; (try dsimp only at hSw); go_simp; (try with_reducible rfl)
          try simp only [Act.put, List.setIfInBounds_toArray, List.set_cons_zero, List.set_cons_succ]
          refine takeD (i := 4) (d := some 22) (v := undef) rfl rfl (by kernel_rfl) (by kernel_rfl) (by kernel_rfl) (fun _ _ _ h => h) (Or.inr ⟨by rfl, rfl⟩) (by assumption) ?_
          try simp only [Act.put, List.setIfInBounds_toArray, List.set_cons_zero, List.set_cons_succ]
          refine takeD (i := 5) (d := some 23) (v := undef) rfl rfl (by kernel_rfl) (by kernel_rfl) (by kernel_rfl) (fun _ _ _ h => h) (Or.inr ⟨by rfl, rfl⟩) (by assumption) ?_
          try simp only [Act.put, List.setIfInBounds_toArray, List.set_cons_zero, List.set_cons_succ]
          refine takeD (i := 6) (d := some 24) (v := undef) rfl rfl (by kernel_rfl) (by kernel_rfl) (by kernel_rfl) (fun _ _ _ h => h) (Or.inr ⟨by rfl, rfl⟩) (by assumption) ?_
          try simp only [Act.put, List.setIfInBounds_toArray, List.set_cons_zero, List.set_cons_succ]
          refine takeD (i := 7) (d := some 25) (v := undef) rfl rfl (by kernel_rfl) (by kernel_rfl) (by kernel_rfl) (fun _ _ _ h => h) (Or.inr ⟨by rfl, rfl⟩) (by assumption) ?_
          try simp only [Act.put, List.setIfInBounds_toArray, List.set_cons_zero, List.set_cons_succ]
          refine takeD (i := 8) (d := some 26) (v := undef) rfl rfl (by kernel_rfl) (by kernel_rfl) (by kernel_rfl) (fun _ _ _ h => h) (Or.inr ⟨by rfl, rfl⟩) (by assumption) ?_
          try simp only [Act.put, List.setIfInBounds_toArray, List.set_cons_zero, List.set_cons_succ]
          refine takeD (i := 9) (d := some 27) (v := undef) rfl rfl (by kernel_rfl) (by kernel_rfl) (by kernel_rfl) (fun _ _ _ h => h) (Or.inr ⟨by rfl, rfl⟩) (by assumption) ?_
          try simp only [Act.put, List.setIfInBounds_toArray, List.set_cons_zero, List.set_cons_succ]
          refine takeD (i := 10) (d := some 28) (v := undef) rfl rfl (by kernel_rfl) (by kernel_rfl) (by kernel_rfl) (fun _ _ _ h => h) (Or.inr ⟨by rfl, rfl⟩) (by assumption) ?_
          try simp only [Act.put, List.setIfInBounds_toArray, List.set_cons_zero, List.set_cons_succ]
          refine takeD (i := 11) (d := some 29) (v := undef) rfl rfl (by kernel_rfl) (by kernel_rfl) (by kernel_rfl) (fun _ _ _ h => h) (Or.inr ⟨by rfl, rfl⟩) (by assumption) ?_
          try simp only [Act.put, List.setIfInBounds_toArray, List.set_cons_zero, List.set_cons_succ]
          refine takeD (i := 12) (d := some 30) (v := undef) rfl rfl (by kernel_rfl) (by kernel_rfl) (by kernel_rfl) (fun _ _ _ h => h) (Or.inr ⟨by rfl, rfl⟩) (by assumption) ?_
          try simp only [Act.put, List.setIfInBounds_toArray, List.set_cons_zero, List.set_cons_succ]
          refine takeD (i := 13) (d := some 31) (v := undef) rfl rfl (by kernel_rfl) (by kernel_rfl) (by kernel_rfl) (fun _ _ _ h => h) (Or.inr ⟨by rfl, rfl⟩) (by assumption) ?_
          try simp only [Act.put, List.setIfInBounds_toArray, List.set_cons_zero, List.set_cons_succ]
          refine takeD (i := 14) (d := some 32) (v := undef) rfl rfl (by kernel_rfl) (by kernel_rfl) (by kernel_rfl) (fun _ _ _ h => h) (Or.inr ⟨by rfl, rfl⟩) (by assumption) ?_
          try simp only [Act.put, List.setIfInBounds_toArray, List.set_cons_zero, List.set_cons_succ]
          refine takeD (i := 15) (d := some 33) (v := undef) rfl rfl (by kernel_rfl) (by kernel_rfl) (by kernel_rfl) (fun _ _ _ h => h) (Or.inr ⟨by rfl, rfl⟩) (by assumption) ?_
          try simp only [Act.put, List.setIfInBounds_toArray, List.set_cons_zero, List.set_cons_succ]
          refine takeD (i := 16) (d := some 34) (v := ?_) rfl rfl (by kernel_rfl) (by kernel_rfl) (by kernel_rfl) (fun _ _ _ h => h) (Or.inl ⟨by rfl, ?_⟩) (by assumption) ?_
          rotate_left
          · intro wS hSw; (try dsimp only at hSw); go_simp; (try with_reducible rfl)
          try simp only [Act.put, List.setIfInBounds_toArray, List.set_cons_zero, List.set_cons_succ]
          refine wpAnyH_done (by kernel_rfl) ?_ _
          go_wp2_with fail
          go_roundg (n - (k + 1))
          case rel => exact ⟨k + 1, lj, by omega, by omega, by go_num, by have h := HI.out; rw [insW] at h; rw [h]; exact HS2, hIn.drew⟩
          case measure => omega
        | succ m =>
          obtain ⟨hln, hws, hown, hbel, hgs⟩ := hIn
          have hm1 : m + 1 < lj.length := by omega
          have hx1e : lj[m + 1]? = some lj[m + 1] := List.getElem?_eq_getElem hm1
          have hx0e : lj[m]? = some lj[m] := List.getElem?_eq_getElem (by omega)
          have hx1 := hws _ (List.getElem_mem hm1)
          have hx0 := hws _ (List.getElem_mem (show m < lj.length by omega))
          have hIn : InAt g w wr N n lj := ⟨hln, hws, hown, hbel, hgs⟩
          have hins : insW c (m + 1) lj = if c lj[m + 1] lj[m] < 0 then insW c m (swapW lj m) else lj := by
            rw [insW, List.getD_eq_getElem?_getD, List.getD_eq_getElem?_getD, hx1e, hx0e]
            try rfl
          have hsw : swapW lj m = (lj.set (m + 1) lj[m]).set m lj[m + 1] := by
            rw [swapW, List.getD_eq_getElem?_getD, List.getD_eq_getElem?_getD, hx1e, hx0e]
            try rfl
          have HSWP := Lib.hid (fun (W : World) (h : InAt g w W N n lj) => InAt.swap h (m := m) (by omega) hx1e hx0e)
          generalize lj[m + 1] = x1 at *
          generalize lj[m] = x0 at *
          have HMK := Lib.hid (fun (W : World) (h : InAt g w W N n lj) => And.intro (ownW_at h.2.2.1 hx1e) (ownW_at h.2.2.1 hx0e))
          have HINS := Lib.hid hins
          have HSW := Lib.hid hsw
          have HLN := Lib.hid hln
          clear hins hsw hx1e hx0e hln hws hown hbel hm1
          have hgt : ((0 : Int) < (m : Int) + 1) = True := eq_true (by omega)
          have hsub : IntKind.i64.wrap ((m : Int) + 1 - 1) = (m : Int) := by rw [show (m : Int) + 1 - 1 = (m : Int) by omega]; exact IntWalk.i64_in _ (by omega)
          have hp1 : ((0 : Int) ≤ (m : Int) + 1) = True := eq_true (by omega)
          have hsub2 : IntKind.i64.wrap (m : Int) = (m : Int) := IntWalk.i64_in _ (by omega)
          have i2 : (m : Int) + 1 < (n : Int) := by omega
          have i3 : (m : Int) < (n : Int) := by omega
          simp only [Int.natCast_add, Int.natCast_one, Int.cast_ofNat_Int]
          by_cases hcv : c x1 x0 < 0
          · go_wp2_with fail
            refine wp_region_held_drew (S := fun W => ((W.cell? ⟨g, (m + 1) * 2, none⟩ = some (.int .i64 (x1.1 : Nat)) ∧ W.cell? ⟨g, (m + 1) * 2 + 1, none⟩ = some (.int .i64 x1.2)) ∧ (W.cell? ⟨g, m * 2, none⟩ = some (.int .i64 (x0.1 : Nat)) ∧ W.cell? ⟨g, m * 2 + 1, none⟩ = some (.int .i64 x0.2))) ∧ InAt g w W N n lj) (by kernel_rfl) ⟨HMK.out _ hIn.drew, hIn.drew⟩ (fun hHeld => ?_)
            refine takeD (i := 0) (d := some 18) (v := ?_) rfl rfl (by kernel_rfl) (by kernel_rfl) (by kernel_rfl) (fun _ _ _ h => h) (Or.inl ⟨by rfl, ?_⟩) (by assumption) ?_
            rotate_left
            · intro wS hSw; (try dsimp only at hSw); go_simp; (try with_reducible rfl)
            try simp only [Act.put, List.setIfInBounds_toArray, List.set_cons_zero, List.set_cons_succ]
            refine takeD (i := 1) (d := some 19) (v := ?_) rfl rfl (by kernel_rfl) (by kernel_rfl) (by kernel_rfl) (fun _ _ _ h => h) (Or.inl ⟨by rfl, ?_⟩) (by assumption) ?_
            rotate_left
            · intro wS hSw; (try dsimp only at hSw); go_simp; (try with_reducible rfl)
            try simp only [Act.put, List.setIfInBounds_toArray, List.set_cons_zero, List.set_cons_succ]
            refine takeD (i := 2) (d := some 20) (v := .bool true) rfl rfl (by kernel_rfl) (by kernel_rfl) (by kernel_rfl) (fun _ _ _ h => h) (Or.inl ⟨by rfl, ?_⟩) (by assumption) ?_
            · intro wS hSw; (try dsimp only at hSw); go_simp; (try simp [hgt]); (try with_reducible rfl)
            try simp only [Act.put, List.setIfInBounds_toArray, List.set_cons_zero, List.set_cons_succ]
            refine takeD (i := 3) (d := some 21) (v := ?_) rfl rfl (by kernel_rfl) (by kernel_rfl) (by kernel_rfl) (fun _ _ _ h => h) (Or.inl ⟨by rfl, ?_⟩) (by assumption) ?_
            rotate_left
            · intro wS hSw; (try dsimp only at hSw); go_simp; (try with_reducible rfl)
            try simp only [Act.put, List.setIfInBounds_toArray, List.set_cons_zero, List.set_cons_succ]
            refine takeD (i := 4) (d := some 22) (v := ?_) rfl rfl (by kernel_rfl) (by kernel_rfl) (by kernel_rfl) (fun _ _ _ h => h) (Or.inl ⟨by rfl, ?_⟩) (by assumption) ?_
            rotate_left
            · intro wS hSw; (try dsimp only at hSw); go_simp; (try with_reducible rfl)
            try simp only [Act.put, List.setIfInBounds_toArray, List.set_cons_zero, List.set_cons_succ]
            refine takeD (i := 5) (d := some 23) (v := ?_) rfl rfl (by kernel_rfl) (by kernel_rfl) (by kernel_rfl) (fun _ _ _ h => h) (Or.inl ⟨by rfl, ?_⟩) (by assumption) ?_
            rotate_left
            · intro wS hSw; (try dsimp only at hSw); go_simp; (try with_reducible rfl)
            try simp only [Act.put, List.setIfInBounds_toArray, List.set_cons_zero, List.set_cons_succ]
            refine takeD (i := 6) (d := some 24) (v := ?_) rfl rfl (by kernel_rfl) (by kernel_rfl) (by kernel_rfl) (fun _ _ _ h => h) (Or.inl ⟨by rfl, ?_⟩) (by assumption) ?_
            rotate_left
            · intro wS hSw; (try dsimp only at hSw); go_simp; (try with_reducible rfl)
            try simp only [Act.put, List.setIfInBounds_toArray, List.set_cons_zero, List.set_cons_succ]
            refine takeD (i := 7) (d := some 25) (v := .pointer (some ⟨g, (m + 1) * 2, none⟩)) rfl rfl (by kernel_rfl) (by kernel_rfl) (by kernel_rfl) (fun _ _ _ h => h) (Or.inl ⟨by rfl, ?_⟩) (by assumption) ?_
            · intro wS hSw; (try dsimp only at hSw); go_simp; (try simp [hp1]); (try with_reducible rfl)
            try simp only [Act.put, List.setIfInBounds_toArray, List.set_cons_zero, List.set_cons_succ]
            refine takeD (i := 8) (d := some 26) (v := ?_) rfl rfl (by kernel_rfl) (by kernel_rfl) (by kernel_rfl) (fun _ _ _ h => h) (Or.inl ⟨by rfl, ?_⟩) (by assumption) ?_
            rotate_left
            · intro wS hSw; (try dsimp only at hSw); go_simp; (try with_reducible rfl)
            try simp only [Act.put, List.setIfInBounds_toArray, List.set_cons_zero, List.set_cons_succ]
            refine takeD (i := 9) (d := some 27) (v := ?_) rfl rfl (by kernel_rfl) (by kernel_rfl) (by kernel_rfl) (fun _ _ _ h => h) (Or.inl ⟨by rfl, ?_⟩) (by assumption) ?_
            rotate_left
            · intro wS hSw; (try dsimp only at hSw); go_simp; (try with_reducible rfl)
            try simp only [Act.put, List.setIfInBounds_toArray, List.set_cons_zero, List.set_cons_succ]
            refine takeD (i := 10) (d := some 28) (v := ?_) rfl rfl (by kernel_rfl) (by kernel_rfl) (by kernel_rfl) (fun _ _ _ h => h) (Or.inl ⟨by rfl, ?_⟩) (by assumption) ?_
            rotate_left
            · intro wS hSw; (try dsimp only at hSw); go_simp; (try with_reducible rfl)
            try simp only [Act.put, List.setIfInBounds_toArray, List.set_cons_zero, List.set_cons_succ]
            refine takeD (i := 11) (d := some 29) (v := .int .i64 (m : Nat)) rfl rfl (by kernel_rfl) (by kernel_rfl) (by kernel_rfl) (fun _ _ _ h => h) (Or.inl ⟨by rfl, ?_⟩) (by assumption) ?_
            · intro wS hSw; (try dsimp only at hSw); go_simp; (try simp [hsub, hsub2]); (try with_reducible rfl)
            try simp only [Act.put, List.setIfInBounds_toArray, List.set_cons_zero, List.set_cons_succ]
            refine takeD (i := 12) (d := some 30) (v := ?_) rfl rfl (by kernel_rfl) (by kernel_rfl) (by kernel_rfl) (fun _ _ _ h => h) (Or.inl ⟨by rfl, ?_⟩) (by assumption) ?_
            rotate_left
            · intro wS hSw; (try dsimp only at hSw); go_simp; (try with_reducible rfl)
            try simp only [Act.put, List.setIfInBounds_toArray, List.set_cons_zero, List.set_cons_succ]
            refine takeD (i := 13) (d := some 31) (v := ?_) rfl rfl (by kernel_rfl) (by kernel_rfl) (by kernel_rfl) (fun _ _ _ h => h) (Or.inl ⟨by rfl, ?_⟩) (by assumption) ?_
            rotate_left
            · intro wS hSw; (try dsimp only at hSw); go_simp; (try with_reducible rfl)
            try simp only [Act.put, List.setIfInBounds_toArray, List.set_cons_zero, List.set_cons_succ]
            refine wpAnyH_ready (rs := [14]) (by kernel_rfl) (by simp) ?_
            refine consD (d := some 32) rfl rfl (fun K hK => ?_) AllReadyH.nil
            go_simp
            have hI0 : InAt g w wr.drew N n lj := hHeld.2
            have hI1 := hI0.2.2.2.1
            have hI2 := hI0.2.2.2.2
            (go_at_call 34; (with_reducible refine (HC.out _ hI1 hI2 x1 x0 hx1 hx0).mono ?_); rintro e w2 ⟨rfl, hb2⟩)
            have hIn2 := hHeld.2.call hb2
            refine hK.out _ _ ⟨HMK.out _ hIn2, hIn2⟩ (fun hHeld => ?_)
            clear hK K
            try simp only [Act.put, List.setIfInBounds_toArray, List.set_cons_zero, List.set_cons_succ]
            refine takeD (i := 15) (d := some 33) (v := .bool true) rfl rfl (by kernel_rfl) (by kernel_rfl) (by kernel_rfl) (fun _ _ _ h => h) (Or.inl ⟨by rfl, ?_⟩) (by assumption) ?_
            · intro wS hSw; (try dsimp only at hSw); go_simp; (try simp [hcv]); (try with_reducible rfl)
            try simp only [Act.put, List.setIfInBounds_toArray, List.set_cons_zero, List.set_cons_succ]
            refine takeD (i := 16) (d := some 34) (v := ?_) rfl rfl (by kernel_rfl) (by kernel_rfl) (by kernel_rfl) (fun _ _ _ h => h) (Or.inl ⟨by rfl, ?_⟩) (by assumption) ?_
            rotate_left
            · intro wS hSw; (try dsimp only at hSw); go_simp; (try with_reducible rfl)
            try simp only [Act.put, List.setIfInBounds_toArray, List.set_cons_zero, List.set_cons_succ]
            refine wpAnyH_done (by kernel_rfl) ?_ _
            go_wp2_with fail
            obtain ⟨⟨⟨k0, k1⟩, ⟨k2, k3⟩⟩, hI3⟩ := hHeld
            have hfz := fun o => hI3.2.2.1.2 o
            generalize hwq : w2 = wq at *
            clear hwq
            go_region
            all_goals
              go_wp2_with fail
              go_roundg m
              case rel => exact ⟨swapW lj m, by go_num, by omega, Lib.hid (by have h := HI.out; rwa [HINS.out, if_pos hcv] at h), (HSWP.out _ hI3).drew⟩
              case measure => omega
          · go_wp2_with fail
            refine wp_region_held_drew (S := fun W => ((W.cell? ⟨g, (m + 1) * 2, none⟩ = some (.int .i64 (x1.1 : Nat)) ∧ W.cell? ⟨g, (m + 1) * 2 + 1, none⟩ = some (.int .i64 x1.2)) ∧ (W.cell? ⟨g, m * 2, none⟩ = some (.int .i64 (x0.1 : Nat)) ∧ W.cell? ⟨g, m * 2 + 1, none⟩ = some (.int .i64 x0.2))) ∧ InAt g w W N n lj) (by kernel_rfl) ⟨HMK.out _ hIn.drew, hIn.drew⟩ (fun hHeld => ?_)
            refine takeD (i := 0) (d := some 18) (v := ?_) rfl rfl (by kernel_rfl) (by kernel_rfl) (by kernel_rfl) (fun _ _ _ h => h) (Or.inl ⟨by rfl, ?_⟩) (by assumption) ?_
            rotate_left
            · intro wS hSw; (try dsimp only at hSw); go_simp; (try with_reducible rfl)
            try simp only [Act.put, List.setIfInBounds_toArray, List.set_cons_zero, List.set_cons_succ]
            refine takeD (i := 1) (d := some 19) (v := ?_) rfl rfl (by kernel_rfl) (by kernel_rfl) (by kernel_rfl) (fun _ _ _ h => h) (Or.inl ⟨by rfl, ?_⟩) (by assumption) ?_
            rotate_left
            · intro wS hSw; (try dsimp only at hSw); go_simp; (try with_reducible rfl)
            try simp only [Act.put, List.setIfInBounds_toArray, List.set_cons_zero, List.set_cons_succ]
            refine takeD (i := 2) (d := some 20) (v := .bool true) rfl rfl (by kernel_rfl) (by kernel_rfl) (by kernel_rfl) (fun _ _ _ h => h) (Or.inl ⟨by rfl, ?_⟩) (by assumption) ?_
            · intro wS hSw; (try dsimp only at hSw); go_simp; (try simp [hgt]); (try with_reducible rfl)
            try simp only [Act.put, List.setIfInBounds_toArray, List.set_cons_zero, List.set_cons_succ]
            refine takeD (i := 3) (d := some 21) (v := ?_) rfl rfl (by kernel_rfl) (by kernel_rfl) (by kernel_rfl) (fun _ _ _ h => h) (Or.inl ⟨by rfl, ?_⟩) (by assumption) ?_
            rotate_left
            · intro wS hSw; (try dsimp only at hSw); go_simp; (try with_reducible rfl)
            try simp only [Act.put, List.setIfInBounds_toArray, List.set_cons_zero, List.set_cons_succ]
            refine takeD (i := 4) (d := some 22) (v := ?_) rfl rfl (by kernel_rfl) (by kernel_rfl) (by kernel_rfl) (fun _ _ _ h => h) (Or.inl ⟨by rfl, ?_⟩) (by assumption) ?_
            rotate_left
            · intro wS hSw; (try dsimp only at hSw); go_simp; (try with_reducible rfl)
            try simp only [Act.put, List.setIfInBounds_toArray, List.set_cons_zero, List.set_cons_succ]
            refine takeD (i := 5) (d := some 23) (v := ?_) rfl rfl (by kernel_rfl) (by kernel_rfl) (by kernel_rfl) (fun _ _ _ h => h) (Or.inl ⟨by rfl, ?_⟩) (by assumption) ?_
            rotate_left
            · intro wS hSw; (try dsimp only at hSw); go_simp; (try with_reducible rfl)
            try simp only [Act.put, List.setIfInBounds_toArray, List.set_cons_zero, List.set_cons_succ]
            refine takeD (i := 6) (d := some 24) (v := ?_) rfl rfl (by kernel_rfl) (by kernel_rfl) (by kernel_rfl) (fun _ _ _ h => h) (Or.inl ⟨by rfl, ?_⟩) (by assumption) ?_
            rotate_left
            · intro wS hSw; (try dsimp only at hSw); go_simp; (try with_reducible rfl)
            try simp only [Act.put, List.setIfInBounds_toArray, List.set_cons_zero, List.set_cons_succ]
            refine takeD (i := 7) (d := some 25) (v := .pointer (some ⟨g, (m + 1) * 2, none⟩)) rfl rfl (by kernel_rfl) (by kernel_rfl) (by kernel_rfl) (fun _ _ _ h => h) (Or.inl ⟨by rfl, ?_⟩) (by assumption) ?_
            · intro wS hSw; (try dsimp only at hSw); go_simp; (try simp [hp1]); (try with_reducible rfl)
            try simp only [Act.put, List.setIfInBounds_toArray, List.set_cons_zero, List.set_cons_succ]
            refine takeD (i := 8) (d := some 26) (v := ?_) rfl rfl (by kernel_rfl) (by kernel_rfl) (by kernel_rfl) (fun _ _ _ h => h) (Or.inl ⟨by rfl, ?_⟩) (by assumption) ?_
            rotate_left
            · intro wS hSw; (try dsimp only at hSw); go_simp; (try with_reducible rfl)
            try simp only [Act.put, List.setIfInBounds_toArray, List.set_cons_zero, List.set_cons_succ]
            refine takeD (i := 9) (d := some 27) (v := ?_) rfl rfl (by kernel_rfl) (by kernel_rfl) (by kernel_rfl) (fun _ _ _ h => h) (Or.inl ⟨by rfl, ?_⟩) (by assumption) ?_
            rotate_left
            · intro wS hSw; (try dsimp only at hSw); go_simp; (try with_reducible rfl)
            try simp only [Act.put, List.setIfInBounds_toArray, List.set_cons_zero, List.set_cons_succ]
            refine takeD (i := 10) (d := some 28) (v := ?_) rfl rfl (by kernel_rfl) (by kernel_rfl) (by kernel_rfl) (fun _ _ _ h => h) (Or.inl ⟨by rfl, ?_⟩) (by assumption) ?_
            rotate_left
            · intro wS hSw; (try dsimp only at hSw); go_simp; (try with_reducible rfl)
            try simp only [Act.put, List.setIfInBounds_toArray, List.set_cons_zero, List.set_cons_succ]
            refine takeD (i := 11) (d := some 29) (v := .int .i64 (m : Nat)) rfl rfl (by kernel_rfl) (by kernel_rfl) (by kernel_rfl) (fun _ _ _ h => h) (Or.inl ⟨by rfl, ?_⟩) (by assumption) ?_
            · intro wS hSw; (try dsimp only at hSw); go_simp; (try simp [hsub, hsub2]); (try with_reducible rfl)
            try simp only [Act.put, List.setIfInBounds_toArray, List.set_cons_zero, List.set_cons_succ]
            refine takeD (i := 12) (d := some 30) (v := ?_) rfl rfl (by kernel_rfl) (by kernel_rfl) (by kernel_rfl) (fun _ _ _ h => h) (Or.inl ⟨by rfl, ?_⟩) (by assumption) ?_
            rotate_left
            · intro wS hSw; (try dsimp only at hSw); go_simp; (try with_reducible rfl)
            try simp only [Act.put, List.setIfInBounds_toArray, List.set_cons_zero, List.set_cons_succ]
            refine takeD (i := 13) (d := some 31) (v := ?_) rfl rfl (by kernel_rfl) (by kernel_rfl) (by kernel_rfl) (fun _ _ _ h => h) (Or.inl ⟨by rfl, ?_⟩) (by assumption) ?_
            rotate_left
            · intro wS hSw; (try dsimp only at hSw); go_simp; (try with_reducible rfl)
            try simp only [Act.put, List.setIfInBounds_toArray, List.set_cons_zero, List.set_cons_succ]
            refine wpAnyH_ready (rs := [14]) (by kernel_rfl) (by simp) ?_
            refine consD (d := some 32) rfl rfl (fun K hK => ?_) AllReadyH.nil
            go_simp
            have hI0 : InAt g w wr.drew N n lj := hHeld.2
            have hI1 := hI0.2.2.2.1
            have hI2 := hI0.2.2.2.2
            (go_at_call 34; (with_reducible refine (HC.out _ hI1 hI2 x1 x0 hx1 hx0).mono ?_); rintro e w2 ⟨rfl, hb2⟩)
            have hIn2 := hHeld.2.call hb2
            refine hK.out _ _ ⟨HMK.out _ hIn2, hIn2⟩ (fun hHeld => ?_)
            clear hK K
            try simp only [Act.put, List.setIfInBounds_toArray, List.set_cons_zero, List.set_cons_succ]
            refine takeD (i := 15) (d := some 33) (v := .bool false) rfl rfl (by kernel_rfl) (by kernel_rfl) (by kernel_rfl) (fun _ _ _ h => h) (Or.inl ⟨by rfl, ?_⟩) (by assumption) ?_
            · intro wS hSw; (try dsimp only at hSw); go_simp; (try simp [hcv]); (try with_reducible rfl)
            try simp only [Act.put, List.setIfInBounds_toArray, List.set_cons_zero, List.set_cons_succ]
            refine takeD (i := 16) (d := some 34) (v := ?_) rfl rfl (by kernel_rfl) (by kernel_rfl) (by kernel_rfl) (fun _ _ _ h => h) (Or.inl ⟨by rfl, ?_⟩) (by assumption) ?_
            rotate_left
            · intro wS hSw; (try dsimp only at hSw); go_simp; (try with_reducible rfl)
            try simp only [Act.put, List.setIfInBounds_toArray, List.set_cons_zero, List.set_cons_succ]
            refine wpAnyH_done (by kernel_rfl) ?_ _
            go_wp2_with fail
            go_roundg (n - (k + 1))
            case rel => exact ⟨k + 1, lj, by omega, by omega, by go_num, by have h := HI.out; rw [HINS.out, if_neg (by omega)] at h; rw [h]; exact HS2, hHeld.2⟩
            case measure => omega
    · obtain rfl : k = n := by omega
      have HE : Hid (lc = R) := Lib.hid (by have h := HS.out; rwa [Nat.sub_self, srtGo] at h)
      go_wp2_with fail
      go_end0
      exact ⟨rfl, by rw [← HE.out]; exact HST.out.2.2.1, HST.out.2.2.2.1⟩
set_option maxRecDepth 8192 in
set_option maxHeartbeats 4000000 in
theorem sort_any (A' : Option Addr) (c' B bl g cap : Nat) (lim : List Int) (l : List Way) (w : World) (h' : RdI w B A' lim) (hBg : B ≤ g) (hlm : Lim lim) (hlim : lim.length ≤ 1000000) (hli : w.cell? ⟨bl, 0, none⟩ = some (.slice A' lim.length c')) (hbl : bl < g)
    (hown : OwnW w g l) (hg : g < w.heap.size) (hw : ∀ x ∈ l, x.1 < lim.length ∧ 0 ≤ x.2 ∧ x.2 ≤ 16777216) (h0 : 0 < l.length) (h12 : l.length ≤ 12) (hcap : l.length ≤ cap) :
    Calls Tryd.prog 33 #[.slice (some ⟨g, 0, none⟩) l.length cap, .func (.func 34) #[] #[.pointer (some ⟨bl, 0, none⟩)]] w fun e w' => e = .returned (.tuple #[]) ∧ OwnW w' g (srtW (cmpW lim) l) ∧ Below g w w' := by
  have hcs := insort_any A' c' B bl g cap lim l w h' hBg hlm hlim hli hbl hown hg hw h0 h12 hcap
  clear h' hlm hli hown hw
  generalize srtW (cmpW lim) l = R at *
  generalize l.length = n at *
  go_enter Tryd.func33, Tryd.ntmps33
  go_wp2_with fail
  have hst : Calls Tryd.prog 45 #[.slice (some ⟨g, 0, none⟩) n cap, .int .i64 (n : Nat), .func (.func 34) #[] #[.pointer (some ⟨bl, 0, none⟩)]] w fun e w' => e = .returned (.tuple #[]) ∧ OwnW w' g R ∧ Below g w w' := by
    have i1 : (n : Int) < 20 := by omega
    go_enter Tryd.func45, Tryd.ntmps45
    go_wp2_with fail
    go_loopg [7, 8] 1 (fun k a b wr => k = 1 ∧ a = .int .i64 0 ∧ b = .int .i64 20 ∧ wr = w)
    case atStart => exact ⟨rfl, rfl, rfl, rfl⟩
    case round =>
      obtain ⟨rfl, rfl, rfl, rfl⟩ := hrel
      go_wp2_with fail
      refine hcs.mono ?_
      rintro e w1 ⟨rfl, hR, hb1⟩
      go_wp2_with fail
      go_loopg [6, 7, 8] 1 (fun k a b c wr => k = 1 ∧ a = .int .i64 20 ∧ wr = w1)
      case atStart => exact ⟨rfl, rfl, rfl⟩
      case round =>
        obtain ⟨rfl, rfl, rfl⟩ := hrel
        go_wp2_with fail
        go_end0
        exact ⟨rfl, hR, hb1⟩
  refine hst.mono ?_
  rintro e w1 ⟨rfl, hR, hb1⟩
  go_wp2_with fail
  go_end0
  exact ⟨rfl, hR, hb1⟩
end Go.Proofs.YtmfdpdnokiidlaaDoor
