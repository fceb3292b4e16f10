/-
  Chapter 36: masks of what a limit permits; the walks of the reference's Within and Tells; a limit hits a core just if not all that it permits makes the core hold. Conditions: rows of 1 to 5 costs, masks below 32.
-/
import Derived.Test.YtmfdpdnokiidlaaDoorHJoin
import Derived.Test.YtmfdpdnokiidlaaDoorDrawn
import Derived.Deep.LoopGhost
namespace Go.Proofs.YtmfdpdnokiidlaaDoor
open Go.ChangeShapes Go.WideShapes Go.ChangeAt Go.RowKit
set_option linter.unusedVariables false
set_option linter.unusedSimpArgs false

/-! The plain law. -/
def maskK (row : List Int) (most : Int) : Nat → Nat
  | 0 => 0
  | k + 1 => if row.getD k 0 ≤ most then maskK row most k ||| 2 ^ k else maskK row most k
theorem mask_bit (row : List Int) (most : Int) : ∀ (k v : Nat), (maskK row most k).testBit v = (decide (v < k) && decide (row.getD v 0 ≤ most))
  | 0, v => by simp [maskK]
  | k + 1, v => by
    have ih := mask_bit row most k v
    rw [maskK]
    by_cases hvk : v = k
    · subst hvk
      by_cases h : row.getD v 0 ≤ most
      · rw [if_pos h, Nat.testBit_or, ih, Nat.testBit_two_pow_self, Bool.or_true, decide_eq_true (show v < v + 1 by omega), decide_eq_true h]; rfl
      · rw [if_neg h, ih, decide_eq_false h, Bool.and_false, Bool.and_false]
    · have e : decide (v < k + 1) = decide (v < k) := by rw [decide_eq_decide]; omega
      rw [e, ← ih]
      split
      · rw [Nat.testBit_or, Nat.testBit_two_pow_of_ne (Ne.symm hvk), Bool.or_false]
      · rfl
theorem mask_lt (row : List Int) (most : Int) : ∀ k, maskK row most k < 2 ^ k
  | 0 => by simp [maskK]
  | k + 1 => by
    have ih := mask_lt row most k
    rw [maskK]
    split
    · exact Nat.or_lt_two_pow (Nat.lt_of_lt_of_le ih (Nat.pow_le_pow_right (by omega) (by omega))) (Nat.pow_lt_pow_right (by omega) (by omega))
    · exact Nat.lt_of_lt_of_le ih (Nat.pow_le_pow_right (by omega) (by omega))
theorem hitRow_iff (m : Nat) (most : Int) : ∀ (row : List Int) (i : Nat), hitRow m most row i = true ↔ ∃ v, v < row.length ∧ row.getD v 0 ≤ most ∧ m.testBit (i + v) = false
  | [], i => by simp [hitRow]
  | c :: row, i => by
    rw [hitRow, Bool.or_eq_true, Bool.and_eq_true, decide_eq_true_eq, hitRow_iff m most row (i + 1)]
    unfold freeV
    constructor
    · rintro (⟨h1, h2⟩ | ⟨v, h1, h2, h3⟩)
      · exact ⟨0, by simp, by simpa using h1, by simpa using h2⟩
      · exact ⟨v + 1, by simpa using h1, by simpa using h2, by rw [show i + (v + 1) = i + 1 + v by omega]; exact h3⟩
    · rintro ⟨v, h1, h2, h3⟩
      cases v with
      | zero => left; exact ⟨by simpa using h2, by simpa using h3⟩
      | succ v => right; exact ⟨v, by simpa using h1, by simpa using h2, by rw [show i + 1 + v = i + (v + 1) by omega]; exact h3⟩
theorem mask_hit (row : List Int) (most : Int) (m : Nat) : hitRow m most row 0 = !decide (maskK row most row.length &&& m = maskK row most row.length) := by
  rw [Bool.eq_iff_iff, hitRow_iff, Bool.not_eq_true', decide_eq_false_iff_not]
  constructor
  · rintro ⟨v, h1, h2, h3⟩ he
    have := congrArg (fun x => x.testBit v) he
    simp only [Nat.testBit_and, mask_bit, decide_eq_true h1, decide_eq_true h2] at this
    rw [Nat.zero_add] at h3
    rw [h3] at this
    simp at this
  · intro hne
    refine Classical.byContradiction fun hno => hne (Nat.eq_of_testBit_eq fun v => ?_)
    rw [Nat.testBit_and, mask_bit]
    by_cases h1 : v < row.length
    · by_cases h2 : row.getD v 0 ≤ most
      · cases h3 : m.testBit v
        · exact absurd ⟨v, h1, h2, by rw [Nat.zero_add]; exact h3⟩ hno
        · simp
      · rw [decide_eq_false h2]; simp only [Bool.and_false, Bool.false_and]
    · rw [decide_eq_false h1]; simp only [Bool.false_and]
def maskU (t : List (List Int)) (lim : List Int) (u : Nat) : Nat := maskK (t.getD u []) (lim.getD u 0) (t.getD u []).length
def tellsX (t : List (List Int)) (lim : List Int) (x : Tm) : Bool := decide (maskU t lim x.u &&& x.m = maskU t lim x.u)
theorem hits_not {t : List (List Int)} (lim : List Int) : ∀ {c : List Tm}, (∀ x ∈ c, x.u < t.length) → hitsR t lim c = !(c.all (tellsX t lim))
  | [], _ => rfl
  | x :: c, h => by
    have ih := hits_not lim (c := c) fun y hy => h y (List.mem_cons_of_mem _ hy)
    unfold hitsR at *
    rw [List.any_cons, List.all_cons, ih]
    have hx := h x (by simp)
    rw [List.getElem?_eq_getElem hx]
    dsimp only
    rw [mask_hit]
    have e : t.getD x.u [] = t[x.u] := by rw [List.getD_eq_getElem?_getD, List.getElem?_eq_getElem hx]; rfl
    unfold tellsX maskU
    rw [e]
    simp
def masksP (t : List (List Int)) (lim : List Int) (k : Nat) : List Int := (List.range k).map fun u => ((maskU t lim u : Nat) : Int)
theorem masks_succ (t : List (List Int)) (lim : List Int) (k : Nat) : masksP t lim (k + 1) = masksP t lim k ++ [((maskU t lim k : Nat) : Int)] := by
  unfold masksP
  rw [List.range_succ, List.map_append]
  rfl
theorem masks_len (t : List (List Int)) (lim : List Int) (k : Nat) : (masksP t lim k).length = k := by simp [masksP]
theorem masks_at (t : List (List Int)) (lim : List Int) {k u : Nat} (h : u < k) : (masksP t lim k).getD u 0 = ((maskU t lim u : Nat) : Int) := by
  simp [masksP, List.getD_eq_getElem?_getD, List.getElem?_range h]
theorem all_snoc2 {p : Tm → Bool} {l : List Tm} {k : Nat} {x : Tm} (hx : l[k]? = some x) : (l.take (k + 1)).all p = ((l.take k).all p && p x) := by
  obtain ⟨hlt, rfl⟩ := List.getElem?_eq_some_iff.1 hx
  rw [List.take_succ_eq_append_getElem hlt, List.all_append]
  simp
def limW (l : List Int) (k : Nat) : List Int := (List.range k).map fun u => ((nextN l u 9 : Nat) : Int)
theorem limW_succ (l : List Int) (k : Nat) : limW l (k + 1) = limW l k ++ [((nextN l k 9 : Nat) : Int)] := by
  unfold limW
  rw [List.range_succ, List.map_append]
  rfl
theorem limW_len (l : List Int) (k : Nat) : (limW l k).length = k := by simp [limW]

/-! The walks. -/
theorem bits_or : ∀ m : Fin 32, ∀ k : Fin 5, bits .or .i64 ((m : Nat) : Int) (wrap64 (2 ^ (k : Nat))) = (((m : Nat) ||| 2 ^ (k : Nat) : Nat) : Int) := by decide +kernel
theorem bits_all : ∀ h m : Fin 32, (bits .and .i64 ((h : Nat) : Int) ((m : Nat) : Int) == ((h : Nat) : Int)) = decide ((h : Nat) &&& (m : Nat) = (h : Nat)) := by decide +kernel
def tellsN (h m : Nat) : Int := if h &&& m = h then 2 else if bits .and .i64 ((h : Nat) : Int) ((m : Nat) : Int) = 0 then 0 else 1
set_option maxHeartbeats 2000000 in
theorem tells_any (h m : Nat) (w : World) (hh : h < 32) (hm : m < 32) : Calls Tryd.prog 20 #[.int .i64 (h : Nat), .int .i64 (m : Nat)] w fun e w' => e = .returned (.int .i64 (tellsN h m)) ∧ w' = w := by
  have hb := bits_all ⟨h, hh⟩ ⟨m, hm⟩
  dsimp only at hb
  have HT := Lib.hid (show tellsN h m = if h &&& m = h then 2 else if bits .and .i64 ((h : Nat) : Int) ((m : Nat) : Int) = 0 then 0 else 1 from rfl)
  generalize tellsN h m = R at *
  by_cases h1 : h &&& m = h
  · rw [decide_eq_true h1] at hb
    have hR : R = 2 := by rw [HT.out, if_pos h1]
    rw [hR]
    clear hR HT h1
    go_enter Tryd.func20, Tryd.ntmps20
    go_wp2_with fail
    go_returns
    exact ⟨rfl, rfl⟩
  · rw [decide_eq_false h1] at hb
    by_cases h2 : bits .and .i64 ((h : Nat) : Int) ((m : Nat) : Int) = 0
    · have hb2 : (bits .and .i64 ((h : Nat) : Int) ((m : Nat) : Int) == 0) = true := by rw [h2]; rfl
      have hR : R = 0 := by rw [HT.out, if_neg h1, if_pos h2]
      rw [hR]
      clear hR HT h1 h2
      go_enter Tryd.func20, Tryd.ntmps20
      go_wp2_with fail
      go_returns
      exact ⟨rfl, rfl⟩
    · have hb2 : (bits .and .i64 ((h : Nat) : Int) ((m : Nat) : Int) == 0) = false := by simpa using h2
      have hR : R = 1 := by rw [HT.out, if_neg h1, if_neg h2]
      rw [hR]
      clear hR HT h1 h2
      go_enter Tryd.func20, Tryd.ntmps20
      go_wp2_with fail
      go_returns
      exact ⟨rfl, rfl⟩
theorem tells_two {t : List (List Int)} {lim : List Int} {x : Tm} : decide (tellsN (maskU t lim x.u) x.m = 2) = tellsX t lim x := by
  unfold tellsN tellsX
  rw [Bool.eq_iff_iff, decide_eq_true_eq, decide_eq_true_eq]
  split
  · rename_i h; simp [h]
  · rename_i h
    constructor
    · intro h2; split at h2 <;> omega
    · intro h2; exact absurd h2 h
set_option maxRecDepth 8192 in
set_option maxHeartbeats 8000000 in
theorem within_any (A A2 : Option Addr) (c c2 B : Nat) (t : List (List Int)) (lim : List Int) (w : World) (h : RdT w B A t) (h2 : RdI w B A2 lim) (hB : B ≤ w.heap.size) (ht : TabOk t) (hn : t.length ≤ 100) (hl : lim.length ≤ 1000) :
    Calls Tryd.prog 19 #[.slice A t.length c, .slice A2 lim.length c2] w fun e w' => (∃ v : Value, e = .returned v ∧ w'.ownsRow w.heap.size 3 1 v t.length ((masksP t lim t.length).map (Value.int .i64))) ∧ Below w.heap.size w w' := by
  obtain ⟨s0, hs0, hz0, hz1, hz2⟩ := info_parts info_int
  have HS := Lib.hid hs0
  have HZ := Lib.hid (And.intro hz0 (And.intro hz1 hz2))
  clear hs0 hz0 hz1 hz2
  have H := Lib.hid h
  have HTO := Lib.hid ht
  have CA := Lib.hid (fun (W : World) (hb : Below w.heap.size w W) (k : Nat) (hk : k ≤ 1000) => rat_any A2 c2 B lim k W (rdI_below h2 (hb.mono hB)) (by unfold maxLen; omega) (by omega))
  clear h h2 ht
  generalize hnn : t.length = n at *
  have HN := Lib.hid hnn
  clear hnn
  generalize lim.length = nl at *
  go_enter Tryd.func19, Tryd.ntmps19
  go_wp2_with fail
  go_loopg [5, 6, 7, 8] n (fun k2 s5 s6 _ _ wr => ∃ k : Nat, k + k2 = n ∧ s6 = .int .i64 k ∧ wr.ownsRow w.heap.size 3 1 s5 k ((masksP t lim k).map (Value.int .i64)) ∧ Below w.heap.size w wr)
  case atStart => exact ⟨0, by omega, rfl, World.ownsRow_nil _ _ _ _, Below.refl _ _⟩
  case round =>
    obtain ⟨k, hk, rfl, hown, hbel⟩ := hrel
    obtain ⟨Av, cv, rfl, hcv⟩ := own_slice hown
    have HOWN := Lib.hid hown
    by_cases hlt : k < n
    · have i1 : (k : Int) < (n : Int) := by omega
      have hlc : k < t.length := by rw [HN.out]; exact hlt
      have hxk : t[k]? = some t[k] := List.getElem?_eq_getElem hlc
      have hmem := List.getElem_mem hlc
      have hgd : t.getD k [] = t[k] := by rw [List.getD_eq_getElem?_getD, hxk]; rfl
      have HMS := Lib.hid (masks_succ t lim k)
      have HMU : Hid (maskU t lim k = maskK t[k] (lim.getD k 0) t[k].length) := Lib.hid (by unfold maskU; rw [hgd])
      clear hgd
      generalize t[k] = row at *
      obtain ⟨b, off, Ai, ci, rfl, hb, hcell, hci, hri⟩ := rdT_at (rdT_below H.out (hbel.mono hB)) hxk
      obtain ⟨hr0, hr5⟩ := (HTO.out row hmem).1
      obtain ⟨bi, oi, rfl, hbi, _⟩ := rdI_at hri (k := 0) hr0
      have HRI := Lib.hid hri
      have hbq : b < wr.heap.size := by have := hbel.size; omega
      have hbq2 : bi < wr.heap.size := by have := hbel.size; omega
      clear hxk hmem hlc hri hown
      obtain ⟨most, hmost⟩ : ∃ x, lim.getD k 0 = x := ⟨_, rfl⟩
      have HMO := Lib.hid hmost
      rw [hmost] at HMU
      clear hmost
      generalize hrl : row.length = rl at *
      have HRL := Lib.hid hrl
      clear hrl
      go_wp2_with fail
      go_loopg [7, 8] rl (fun k3 s7 s8 w3 => ∃ j : Nat, j + k3 = rl ∧ s7 = .int .i64 ((maskK row most j : Nat) : Int) ∧ s8 = .int .i64 j ∧ Below wr.heap.size wr w3)
      case atStart => exact ⟨0, by omega, rfl, rfl, Below.refl _ _⟩
      case round =>
        obtain ⟨j, hj, rfl, rfl, hb3⟩ := hrel
        have hbw3 := hbel.trans (hb3.mono hbel.size)
        have q0 := (hb3.cell (p := ⟨b, off + k, none⟩) hbq).trans hcell
        have hlm := mask_lt row most j
        have hl32 : maskK row most j < 32 := Nat.lt_of_lt_of_le hlm (Nat.le_trans (Nat.pow_le_pow_right (by omega) (show j ≤ 5 by omega)) (by decide))
        by_cases hjl : j < rl
        · have i2 : (j : Int) < (rl : Int) := by omega
          have i3 : (j : Int) ≤ 16 := by omega
          obtain ⟨b2, o2, e2, _, c0⟩ := rdI_at HRI.out (k := j) (by rw [HRL.out]; exact hjl)
          cases e2
          have c0 := (hb3.cell (p := ⟨bi, oi + j, none⟩) hbq2).trans c0
          have hat := CA.out wr.drew hbw3.drew k (by omega)
          rw [HMO.out] at hat
          have HMK := Lib.hid (show maskK row most (j + 1) = if row.getD j 0 ≤ most then maskK row most j ||| 2 ^ j else maskK row most j from rfl)
          have hor := bits_or ⟨maskK row most j, hl32⟩ ⟨j, by omega⟩
          dsimp only at hor
          generalize row.getD j 0 = cst at *
          clear hlm
          by_cases hle : cst ≤ most
          · rw [if_pos hle] at HMK
            go_wp2_with fail
            refine wp_region_held_drew (S := fun W => W.cell? ⟨b, off + k, none⟩ = some (.slice (some ⟨bi, oi, none⟩) rl ci) ∧ W.cell? ⟨bi, oi + j, none⟩ = some (.int .i64 cst)) (by kernel_rfl) ⟨q0, c0⟩ (fun hHeld => ?_)
            refine takeD (i := 0) (d := some 28) (v := ?_) rfl rfl (by kernel_rfl) (by kernel_rfl) (by kernel_rfl) (fun _ _ _ h => h) (Or.inl ⟨by rfl, ?_⟩) (by assumption) ?_
            rotate_left
            · intro wS hSw; (try dsimp only at hSw); go_simp; (try with_reducible rfl)
            try simp only [Act.put, List.setIfInBounds_toArray, List.set_cons_zero, List.set_cons_succ]
            refine takeD (i := 1) (d := some 29) (v := ?_) rfl rfl (by kernel_rfl) (by kernel_rfl) (by kernel_rfl) (fun _ _ _ h => h) (Or.inl ⟨by rfl, ?_⟩) (by assumption) ?_
            rotate_left
            · intro wS hSw; (try dsimp only at hSw); go_simp; (try with_reducible rfl)
            try simp only [Act.put, List.setIfInBounds_toArray, List.set_cons_zero, List.set_cons_succ]
            refine takeD (i := 2) (d := some 30) (v := ?_) rfl rfl (by kernel_rfl) (by kernel_rfl) (by kernel_rfl) (fun _ _ _ h => h) (Or.inl ⟨by rfl, ?_⟩) (by assumption) ?_
            rotate_left
            · intro wS hSw; (try dsimp only at hSw); go_simp; (try with_reducible rfl)
            try simp only [Act.put, List.setIfInBounds_toArray, List.set_cons_zero, List.set_cons_succ]
            refine takeD (i := 3) (d := some 31) (v := ?_) rfl rfl (by kernel_rfl) (by kernel_rfl) (by kernel_rfl) (fun _ _ _ h => h) (Or.inl ⟨by rfl, ?_⟩) (by assumption) ?_
            rotate_left
            · intro wS hSw; (try dsimp only at hSw); go_simp; (try with_reducible rfl)
            try simp only [Act.put, List.setIfInBounds_toArray, List.set_cons_zero, List.set_cons_succ]
            refine takeD (i := 4) (d := some 32) (v := ?_) rfl rfl (by kernel_rfl) (by kernel_rfl) (by kernel_rfl) (fun _ _ _ h => h) (Or.inl ⟨by rfl, ?_⟩) (by assumption) ?_
            rotate_left
            · intro wS hSw; (try dsimp only at hSw); go_simp; (try with_reducible rfl)
            try simp only [Act.put, List.setIfInBounds_toArray, List.set_cons_zero, List.set_cons_succ]
            refine takeD (i := 5) (d := some 33) (v := ?_) rfl rfl (by kernel_rfl) (by kernel_rfl) (by kernel_rfl) (fun _ _ _ h => h) (Or.inl ⟨by rfl, ?_⟩) (by assumption) ?_
            rotate_left
            · intro wS hSw; (try dsimp only at hSw); go_simp; (try with_reducible rfl)
            try simp only [Act.put, List.setIfInBounds_toArray, List.set_cons_zero, List.set_cons_succ]
            refine takeD (i := 6) (d := some 34) (v := ?_) rfl rfl (by kernel_rfl) (by kernel_rfl) (by kernel_rfl) (fun _ _ _ h => h) (Or.inl ⟨by rfl, ?_⟩) (by assumption) ?_
            rotate_left
            · intro wS hSw; (try dsimp only at hSw); go_simp; (try with_reducible rfl)
            try simp only [Act.put, List.setIfInBounds_toArray, List.set_cons_zero, List.set_cons_succ]
            refine takeD (i := 7) (d := some 35) (v := ?_) rfl rfl (by kernel_rfl) (by kernel_rfl) (by kernel_rfl) (fun _ _ _ h => h) (Or.inl ⟨by rfl, ?_⟩) (by assumption) ?_
            rotate_left
            · intro wS hSw; (try dsimp only at hSw); go_simp; (try with_reducible rfl)
            try simp only [Act.put, List.setIfInBounds_toArray, List.set_cons_zero, List.set_cons_succ]
            refine takeD (i := 8) (d := some 36) (v := ?_) rfl rfl (by kernel_rfl) (by kernel_rfl) (by kernel_rfl) (fun _ _ _ h => h) (Or.inl ⟨by rfl, ?_⟩) (by assumption) ?_
            rotate_left
            · intro wS hSw; (try dsimp only at hSw); go_simp; (try with_reducible rfl)
            try simp only [Act.put, List.setIfInBounds_toArray, List.set_cons_zero, List.set_cons_succ]
            refine wpAnyH_ready (rs := [9]) (by kernel_rfl) (by simp) ?_
            refine consD (d := some 37) rfl rfl (fun K hK => ?_) AllReadyH.nil
            go_simp
            (go_at_call 39; (with_reducible refine hat.mono ?_); rintro e w6 ⟨rfl, rfl⟩)
            refine hK.out _ _ ⟨q0, c0⟩ (fun hHeld => ?_)
            clear hK K
            try simp only [Act.put, List.setIfInBounds_toArray, List.set_cons_zero, List.set_cons_succ]
            refine takeD (i := 10) (d := some 38) (v := .bool true) rfl rfl (by kernel_rfl) (by kernel_rfl) (by kernel_rfl) (fun _ _ _ h => h) (Or.inl ⟨by rfl, ?_⟩) (by assumption) ?_
            · intro wS hSw; (try dsimp only at hSw); go_simp; (try simp [hle]); (try with_reducible rfl)
            try simp only [Act.put, List.setIfInBounds_toArray, List.set_cons_zero, List.set_cons_succ]
            refine wpAnyH_done (by kernel_rfl) ?_ _
            go_wp2_with fail
            go_roundg (rl - (j + 1))
            case rel => exact ⟨j + 1, by omega, by rw [HMK.out]; try exact congrArg (Value.int .i64) hor, by go_num, hb3.drew⟩
            case measure => omega
          · rw [if_neg hle] at HMK
            clear hor
            go_wp2_with fail
            refine wp_region_held_drew (S := fun W => W.cell? ⟨b, off + k, none⟩ = some (.slice (some ⟨bi, oi, none⟩) rl ci) ∧ W.cell? ⟨bi, oi + j, none⟩ = some (.int .i64 cst)) (by kernel_rfl) ⟨q0, c0⟩ (fun hHeld => ?_)
            refine takeD (i := 0) (d := some 28) (v := ?_) rfl rfl (by kernel_rfl) (by kernel_rfl) (by kernel_rfl) (fun _ _ _ h => h) (Or.inl ⟨by rfl, ?_⟩) (by assumption) ?_
            rotate_left
            · intro wS hSw; (try dsimp only at hSw); go_simp; (try with_reducible rfl)
            try simp only [Act.put, List.setIfInBounds_toArray, List.set_cons_zero, List.set_cons_succ]
            refine takeD (i := 1) (d := some 29) (v := ?_) rfl rfl (by kernel_rfl) (by kernel_rfl) (by kernel_rfl) (fun _ _ _ h => h) (Or.inl ⟨by rfl, ?_⟩) (by assumption) ?_
            rotate_left
            · intro wS hSw; (try dsimp only at hSw); go_simp; (try with_reducible rfl)
            try simp only [Act.put, List.setIfInBounds_toArray, List.set_cons_zero, List.set_cons_succ]
            refine takeD (i := 2) (d := some 30) (v := ?_) rfl rfl (by kernel_rfl) (by kernel_rfl) (by kernel_rfl) (fun _ _ _ h => h) (Or.inl ⟨by rfl, ?_⟩) (by assumption) ?_
            rotate_left
            · intro wS hSw; (try dsimp only at hSw); go_simp; (try with_reducible rfl)
            try simp only [Act.put, List.setIfInBounds_toArray, List.set_cons_zero, List.set_cons_succ]
            refine takeD (i := 3) (d := some 31) (v := ?_) rfl rfl (by kernel_rfl) (by kernel_rfl) (by kernel_rfl) (fun _ _ _ h => h) (Or.inl ⟨by rfl, ?_⟩) (by assumption) ?_
            rotate_left
            · intro wS hSw; (try dsimp only at hSw); go_simp; (try with_reducible rfl)
            try simp only [Act.put, List.setIfInBounds_toArray, List.set_cons_zero, List.set_cons_succ]
            refine takeD (i := 4) (d := some 32) (v := ?_) rfl rfl (by kernel_rfl) (by kernel_rfl) (by kernel_rfl) (fun _ _ _ h => h) (Or.inl ⟨by rfl, ?_⟩) (by assumption) ?_
            rotate_left
            · intro wS hSw; (try dsimp only at hSw); go_simp; (try with_reducible rfl)
            try simp only [Act.put, List.setIfInBounds_toArray, List.set_cons_zero, List.set_cons_succ]
            refine takeD (i := 5) (d := some 33) (v := ?_) rfl rfl (by kernel_rfl) (by kernel_rfl) (by kernel_rfl) (fun _ _ _ h => h) (Or.inl ⟨by rfl, ?_⟩) (by assumption) ?_
            rotate_left
            · intro wS hSw; (try dsimp only at hSw); go_simp; (try with_reducible rfl)
            try simp only [Act.put, List.setIfInBounds_toArray, List.set_cons_zero, List.set_cons_succ]
            refine takeD (i := 6) (d := some 34) (v := ?_) rfl rfl (by kernel_rfl) (by kernel_rfl) (by kernel_rfl) (fun _ _ _ h => h) (Or.inl ⟨by rfl, ?_⟩) (by assumption) ?_
            rotate_left
            · intro wS hSw; (try dsimp only at hSw); go_simp; (try with_reducible rfl)
            try simp only [Act.put, List.setIfInBounds_toArray, List.set_cons_zero, List.set_cons_succ]
            refine takeD (i := 7) (d := some 35) (v := ?_) rfl rfl (by kernel_rfl) (by kernel_rfl) (by kernel_rfl) (fun _ _ _ h => h) (Or.inl ⟨by rfl, ?_⟩) (by assumption) ?_
            rotate_left
            · intro wS hSw; (try dsimp only at hSw); go_simp; (try with_reducible rfl)
            try simp only [Act.put, List.setIfInBounds_toArray, List.set_cons_zero, List.set_cons_succ]
            refine takeD (i := 8) (d := some 36) (v := ?_) rfl rfl (by kernel_rfl) (by kernel_rfl) (by kernel_rfl) (fun _ _ _ h => h) (Or.inl ⟨by rfl, ?_⟩) (by assumption) ?_
            rotate_left
            · intro wS hSw; (try dsimp only at hSw); go_simp; (try with_reducible rfl)
            try simp only [Act.put, List.setIfInBounds_toArray, List.set_cons_zero, List.set_cons_succ]
            refine wpAnyH_ready (rs := [9]) (by kernel_rfl) (by simp) ?_
            refine consD (d := some 37) rfl rfl (fun K hK => ?_) AllReadyH.nil
            go_simp
            (go_at_call 39; (with_reducible refine hat.mono ?_); rintro e w6 ⟨rfl, rfl⟩)
            refine hK.out _ _ ⟨q0, c0⟩ (fun hHeld => ?_)
            clear hK K
            try simp only [Act.put, List.setIfInBounds_toArray, List.set_cons_zero, List.set_cons_succ]
            refine takeD (i := 10) (d := some 38) (v := .bool false) rfl rfl (by kernel_rfl) (by kernel_rfl) (by kernel_rfl) (fun _ _ _ h => h) (Or.inl ⟨by rfl, ?_⟩) (by assumption) ?_
            · intro wS hSw; (try dsimp only at hSw); go_simp; (try simp [hle]); (try with_reducible rfl)
            try simp only [Act.put, List.setIfInBounds_toArray, List.set_cons_zero, List.set_cons_succ]
            refine wpAnyH_done (by kernel_rfl) ?_ _
            go_wp2_with fail
            go_roundg (rl - (j + 1))
            case rel => exact ⟨j + 1, by omega, by rw [HMK.out], by go_num, hb3.drew⟩
            case measure => omega
        · obtain rfl : j = rl := by omega
          have hzz := hbw3.size
          have hown3 : wr.ownsRow w.heap.size 3 1 (.slice Av k cv) k ((masksP t lim k).map (Value.int .i64)) := own_stay HOWN.out fun g _ _ h2 => hb3.block g h2
          rw [← HMU.out]
          generalize maskU t lim k = mu at *
          go_wp2_with (first | (at_builtin; refine wpList_append_grow wr rfl (.tmp 44) (.tmp 46) 22 rfl w.heap.size 3 s0 _ 1 8 Tryd.underlying22 HS.out HZ.out.1 HZ.out.2.1 HZ.out.2.2 rfl (by omega) (.slice Av k cv) k _ [.int .i64 (mu : Nat)] rfl hown3 (by simp; rfl) (by simp [Act.eval, go_sem]) (by simp [Act.eval, go_sem]) (by omega) (by omega) (by omega) ?_; intro v5 w5 hown5 hg5) | fail)
          have hb5 : Below w.heap.size wr w5 := (Below.refl _ _).grown hg5 (by omega) (fun g hg => (hown3.lt g hg).1)
          have HO5 : Hid (w5.ownsRow w.heap.size 3 1 v5 (k + 1) ((masksP t lim (k + 1)).map (Value.int .i64))) := Lib.hid (by rw [HMS.out, List.map_append]; exact hown5)
          have hbw5 := hbw3.trans hb5
          clear hown5 hg5 hown3 hb5
          go_wp2_with fail
          go_roundg (n - (k + 1))
          case rel => exact ⟨k + 1, by omega, by go_num, HO5.out, hbw5⟩
          case measure => omega
    · obtain rfl : k = n := by omega
      go_wp2_with fail
      go_returns
      exact ⟨⟨_, rfl, HOWN.out⟩, hbel⟩
end Go.Proofs.YtmfdpdnokiidlaaDoor
