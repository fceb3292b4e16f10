/-
  Chapter 36: the walk of the reference's levels. Conditions: rows of 1 to 5 costs.
-/
import Derived.Test.YtmfdpdnokiidlaaDoorHTwo
import Derived.Deep.LoopGhost
namespace Go.Proofs.YtmfdpdnokiidlaaDoor
open Go.ChangeShapes Go.WideShapes Go.ChangeAt Go.RowKit
set_option linter.unusedVariables false
set_option linter.unusedSimpArgs false

theorem own_cut {w : World} {base m cap : Nat} {e : TypeId} {A : Option Addr} {xs : List Value} (h : w.ownsRow base e 1 (.slice A m cap) m xs) {k : Nat} (hk : k ≤ m) : w.ownsRow base e 1 (.slice A k cap) k (xs.take k) := by
  refine ⟨by have h1 := h.1; rw [List.length_take]; omega, ?_⟩
  rcases h.2 with ⟨hv, h0⟩ | ⟨g, cap', cur, hv, hg, hh, h1, h2, h3, h4⟩
  · cases hv
    exact .inl ⟨by congr 1; omega, by omega⟩
  · cases hv
    refine .inr ⟨g, cap, cur, rfl, hg, hh, by omega, h2, h3, ?_⟩
    rw [← h4, List.take_take]
    congr 1
    omega
theorem insL_take {c : Int} : ∀ (l : List Int) (k : Nat), (∀ x ∈ l.take k, x < c) → k ≤ l.length → insL c l = l.take k ++ insL c (l.drop k)
  | l, 0, _, _ => rfl
  | [], k + 1, _, h => by simp at h
  | a :: l, k + 1, h, hk => by
    rw [List.take_succ_cons, List.drop_succ_cons, List.cons_append, insL, if_pos (h a (by simp))]
    rw [insL_take l k (fun x hx => h x (by rw [List.take_succ_cons]; exact List.mem_cons_of_mem _ hx)) (by simpa using hk)]
theorem insL_end {c : Int} {l : List Int} {k : Nat} (h : ∀ x ∈ l.take k, x < c) (hk : k = l.length) : insL c l = l.take k ++ c :: l.drop k := by
  rw [insL_take l k h (by omega), hk, List.drop_length]
  rfl
theorem insL_same {c x : Int} {l : List Int} {k : Nat} (h : ∀ x ∈ l.take k, x < c) (hx : l[k]? = some x) (he : x = c) : insL c l = l := by
  obtain ⟨hlt, rfl⟩ := List.getElem?_eq_some_iff.1 hx
  rw [insL_take l k h (by omega), List.drop_eq_getElem_cons hlt, insL, if_neg (by omega), if_pos he, ← List.drop_eq_getElem_cons hlt, List.take_append_drop]
theorem insL_mid {c x : Int} {l : List Int} {k : Nat} (h : ∀ x ∈ l.take k, x < c) (hx : l[k]? = some x) (h1 : ¬ x < c) (h2 : ¬ x = c) : insL c l = l.take k ++ c :: l.drop k := by
  obtain ⟨hlt, rfl⟩ := List.getElem?_eq_some_iff.1 hx
  rw [insL_take l k h (by omega), List.drop_eq_getElem_cons hlt, insL, if_neg h1, if_neg h2]
theorem lt_take {c x : Int} {l : List Int} {k : Nat} (h : ∀ x ∈ l.take k, x < c) (hx : l[k]? = some x) (h1 : x < c) : ∀ y ∈ l.take (k + 1), y < c := by
  obtain ⟨hlt, rfl⟩ := List.getElem?_eq_some_iff.1 hx
  intro y hy
  rw [List.take_succ_eq_append_getElem hlt, List.mem_append, List.mem_singleton] at hy
  rcases hy with hy | rfl
  · exact h y hy
  · exact h1
theorem insL_len (c : Int) : ∀ l : List Int, (insL c l).length ≤ l.length + 1
  | [] => by simp [insL]
  | a :: l => by
    have := insL_len c l
    rw [insL]
    split
    · simp; omega
    · split <;> simp
def lvK (row : List Int) (q : Nat) : List Int := (row.take q).foldl (fun l c => insL c l) []
theorem lvK_succ {row : List Int} {q : Nat} {c : Int} (h : row[q]? = some c) : lvK row (q + 1) = insL c (lvK row q) := by
  obtain ⟨hlt, rfl⟩ := List.getElem?_eq_some_iff.1 h
  unfold lvK
  rw [List.take_succ_eq_append_getElem hlt, List.foldl_append]
  rfl
theorem lvK_len (row : List Int) : ∀ q, (lvK row q).length ≤ q
  | 0 => by simp [lvK]
  | q + 1 => by
    by_cases h : q < row.length
    · rw [lvK_succ (List.getElem?_eq_getElem h)]
      have := insL_len row[q] (lvK row q)
      have := lvK_len row q
      omega
    · have e : lvK row (q + 1) = lvK row q := by unfold lvK; rw [List.take_of_length_le (by omega), List.take_of_length_le (by omega)]
      rw [e]
      have := lvK_len row q
      omega
def LvAt (w W : World) (row : List Int) (q : Nat) (v : Value) : Prop :=
  ∃ lv : List Int, lv = lvK row q ∧ W.ownsRow w.heap.size 3 1 v lv.length (lv.map (Value.int .i64)) ∧ (lv = [] → v = .slice none 0 0) ∧ Below w.heap.size w W
set_option maxRecDepth 8192 in
set_option maxHeartbeats 16000000 in
theorem levels_any (A : Option Addr) (c0 B : Nat) (row : List Int) (w : World) (h : RdI w B A row) (hB : B ≤ w.heap.size) (h0 : 0 < row.length) (h5 : row.length ≤ 5) :
    Calls Tryd.prog 47 #[.slice A row.length c0] w fun e w' => (∃ v : Value, e = .returned v ∧ w'.ownsRow w.heap.size 3 1 v (levelsR row).length ((levelsR row).map (Value.int .i64))) ∧ Below w.heap.size w w' := by
  obtain ⟨s0, hs0, hz0, hz1, hz2⟩ := info_parts info_int
  have HS := Lib.hid hs0
  have HZ := Lib.hid (And.intro hz0 (And.intro hz1 hz2))
  clear hs0 hz0 hz1 hz2
  have H := Lib.hid h
  have HLR := Lib.hid (show levelsR row = lvK row row.length from by unfold levelsR lvK; rw [if_neg (fun e => by rw [e] at h0; simp at h0), List.take_length])
  obtain ⟨LR, hlr⟩ : ∃ L, levelsR row = L := ⟨_, rfl⟩
  rw [hlr]
  rw [hlr] at HLR
  clear h hlr
  generalize hn : row.length = n at *
  have HN := Lib.hid hn
  clear hn
  go_enter Tryd.func47, Tryd.ntmps47
  go_wp2_with fail
  go_loopg [3, 4, 5, 6] n (fun k2 s3 s4 _ _ wr => ∃ (q : Nat) (v : Value), q + k2 = n ∧ v = s3 ∧ s4 = .int .i64 q ∧ LvAt w wr row q v)
  case atStart => exact ⟨0, .slice none 0 0, by omega, rfl, rfl, [], rfl, World.ownsRow_nil _ _ _ _, fun _ => rfl, Below.refl _ _⟩
  case round =>
    obtain ⟨q, v, hq, rfl, rfl, lv, hlv, hown, hnil, hbel⟩ := hrel
    have hll := lvK_len row q
    rw [← hlv] at hll
    by_cases hqn : q < n
    · have i1 : (q : Int) < (n : Int) := by omega
      have hqc : q < row.length := by rw [HN.out]; exact hqn
      have hxq : row[q]? = some row[q] := List.getElem?_eq_getElem hqc
      obtain ⟨b, off, rfl, hb, c0⟩ := rdI_at (rdI_below H.out (hbel.mono hB)) hqc
      have e0 : row.getD q 0 = row[q] := by rw [List.getD_eq_getElem?_getD, hxq]; rfl
      rw [e0] at c0
      have HFT := Lib.hid (lvK_succ hxq)
      generalize row[q] = c at *
      have HLV := Lib.hid hlv.symm
      clear hxq hqc e0 hlv
      have hbw0 : b < w.heap.size := by omega
      cases lv with
      | nil =>
        obtain rfl := hnil rfl
        have HINS : Hid (insL c [] = ([] : List Int).take 0 ++ c :: ([] : List Int).drop 0) := Lib.hid rfl
        have hkm : ((0 : Int) < 0) = False := by simp
        go_wp2_with fail
        go_loopg [5] 1 (fun k2 s5 w3 => k2 = 1 ∧ s5 = .int .i64 0 ∧ wr = w3)
        case atStart => exact ⟨rfl, rfl, rfl⟩
        case round =>
          obtain ⟨rfl, rfl, rfl⟩ := hrel
          have HO := Lib.hid hown
          go_wp2_with fail
          refine wp_region_held_drew (S := fun W => W.cell? ⟨b, off + q, none⟩ = some (.int .i64 c)) (by kernel_rfl) c0 (fun hHeld => ?_)
          refine takeD (i := 0) (d := some 13) (v := ?_) rfl rfl (by kernel_rfl) (by kernel_rfl) (by kernel_rfl) (fun _ _ _ h => h) (Or.inl ⟨by rfl, ?_⟩) (by assumption) ?_
          rotate_left
          · intro wS hSw; (try dsimp only at hSw); go_simp; (try with_reducible rfl)
          try simp only [Act.put, List.setIfInBounds_toArray, List.set_cons_zero, List.set_cons_succ]
          refine takeD (i := 1) (d := some 14) (v := ?_) rfl rfl (by kernel_rfl) (by kernel_rfl) (by kernel_rfl) (fun _ _ _ h => h) (Or.inl ⟨by rfl, ?_⟩) (by assumption) ?_
          rotate_left
          · intro wS hSw; (try dsimp only at hSw); go_simp; (try with_reducible rfl)
          try simp only [Act.put, List.setIfInBounds_toArray, List.set_cons_zero, List.set_cons_succ]
          refine takeD (i := 2) (d := some 15) (v := ?_) rfl rfl (by kernel_rfl) (by kernel_rfl) (by kernel_rfl) (fun _ _ _ h => h) (Or.inl ⟨by rfl, ?_⟩) (by assumption) ?_
          rotate_left
          · intro wS hSw; (try dsimp only at hSw); go_simp; (try with_reducible rfl)
          try simp only [Act.put, List.setIfInBounds_toArray, List.set_cons_zero, List.set_cons_succ]
          refine takeD (i := 3) (d := some 16) (v := .bool false) rfl rfl (by kernel_rfl) (by kernel_rfl) (by kernel_rfl) (fun _ _ _ h => h) (Or.inl ⟨by rfl, ?_⟩) (by assumption) ?_
          · intro wS hSw; (try dsimp only at hSw); go_simp; (try simp [hkm]); (try with_reducible rfl)
          try simp only [Act.put, List.setIfInBounds_toArray, List.set_cons_zero, List.set_cons_succ]
          refine takeD (i := 4) (d := some 17) (v := ?_) rfl rfl (by kernel_rfl) (by kernel_rfl) (by kernel_rfl) (fun _ _ _ h => h) (Or.inl ⟨by rfl, ?_⟩) (by assumption) ?_
          rotate_left
          · intro wS hSw; (try dsimp only at hSw); go_simp; (try with_reducible rfl)
          try simp only [Act.put, List.setIfInBounds_toArray, List.set_cons_zero, List.set_cons_succ]
          refine takeD (i := 5) (d := some 18) (v := undef) rfl rfl (by kernel_rfl) (by kernel_rfl) (by kernel_rfl) (fun _ _ _ h => h) (Or.inr ⟨by kernel_rfl, rfl⟩) (by assumption) ?_
          try simp only [Act.put, List.setIfInBounds_toArray, List.set_cons_zero, List.set_cons_succ]
          refine takeD (i := 6) (d := some 19) (v := undef) rfl rfl (by kernel_rfl) (by kernel_rfl) (by kernel_rfl) (fun _ _ _ h => h) (Or.inr ⟨by kernel_rfl, rfl⟩) (by assumption) ?_
          try simp only [Act.put, List.setIfInBounds_toArray, List.set_cons_zero, List.set_cons_succ]
          refine takeD (i := 7) (d := some 20) (v := undef) rfl rfl (by kernel_rfl) (by kernel_rfl) (by kernel_rfl) (fun _ _ _ h => h) (Or.inr ⟨by kernel_rfl, rfl⟩) (by assumption) ?_
          try simp only [Act.put, List.setIfInBounds_toArray, List.set_cons_zero, List.set_cons_succ]
          refine takeD (i := 8) (d := some 21) (v := undef) rfl rfl (by kernel_rfl) (by kernel_rfl) (by kernel_rfl) (fun _ _ _ h => h) (Or.inr ⟨by kernel_rfl, rfl⟩) (by assumption) ?_
          try simp only [Act.put, List.setIfInBounds_toArray, List.set_cons_zero, List.set_cons_succ]
          refine takeD (i := 9) (d := some 22) (v := undef) rfl rfl (by kernel_rfl) (by kernel_rfl) (by kernel_rfl) (fun _ _ _ h => h) (Or.inr ⟨by kernel_rfl, rfl⟩) (by assumption) ?_
          try simp only [Act.put, List.setIfInBounds_toArray, List.set_cons_zero, List.set_cons_succ]
          refine takeD (i := 10) (d := some 23) (v := undef) rfl rfl (by kernel_rfl) (by kernel_rfl) (by kernel_rfl) (fun _ _ _ h => h) (Or.inr ⟨by kernel_rfl, rfl⟩) (by assumption) ?_
          try simp only [Act.put, List.setIfInBounds_toArray, List.set_cons_zero, List.set_cons_succ]
          refine takeD (i := 11) (d := some 24) (v := undef) rfl rfl (by kernel_rfl) (by kernel_rfl) (by kernel_rfl) (fun _ _ _ h => h) (Or.inr ⟨by kernel_rfl, rfl⟩) (by assumption) ?_
          try simp only [Act.put, List.setIfInBounds_toArray, List.set_cons_zero, List.set_cons_succ]
          refine takeD (i := 12) (d := some 25) (v := undef) rfl rfl (by kernel_rfl) (by kernel_rfl) (by kernel_rfl) (fun _ _ _ h => h) (Or.inr ⟨by kernel_rfl, rfl⟩) (by assumption) ?_
          try simp only [Act.put, List.setIfInBounds_toArray, List.set_cons_zero, List.set_cons_succ]
          refine takeD (i := 13) (d := some 26) (v := undef) rfl rfl (by kernel_rfl) (by kernel_rfl) (by kernel_rfl) (fun _ _ _ h => h) (Or.inr ⟨by kernel_rfl, rfl⟩) (by assumption) ?_
          try simp only [Act.put, List.setIfInBounds_toArray, List.set_cons_zero, List.set_cons_succ]
          refine takeD (i := 14) (d := some 27) (v := ?_) rfl rfl (by kernel_rfl) (by kernel_rfl) (by kernel_rfl) (fun _ _ _ h => h) (Or.inl ⟨by rfl, ?_⟩) (by assumption) ?_
          rotate_left
          · intro wS hSw; (try dsimp only at hSw); go_simp; (try with_reducible rfl)
          try simp only [Act.put, List.setIfInBounds_toArray, List.set_cons_zero, List.set_cons_succ]
          refine wpAnyH_done (by kernel_rfl) ?_ _
          go_wp2_with fail
          refine wp_region_held_drew (S := fun W => W.cell? ⟨b, off + q, none⟩ = some (.int .i64 c)) (by kernel_rfl) c0 (fun hHeld => ?_)
          refine takeD (i := 0) (d := some 30) (v := ?_) rfl rfl (by kernel_rfl) (by kernel_rfl) (by kernel_rfl) (fun _ _ _ h => h) (Or.inl ⟨by rfl, ?_⟩) (by assumption) ?_
          rotate_left
          · intro wS hSw; (try dsimp only at hSw); go_simp; (try with_reducible rfl)
          try simp only [Act.put, List.setIfInBounds_toArray, List.set_cons_zero, List.set_cons_succ]
          refine takeD (i := 1) (d := some 31) (v := ?_) rfl rfl (by kernel_rfl) (by kernel_rfl) (by kernel_rfl) (fun _ _ _ h => h) (Or.inl ⟨by rfl, ?_⟩) (by assumption) ?_
          rotate_left
          · intro wS hSw; (try dsimp only at hSw); go_simp; (try with_reducible rfl)
          try simp only [Act.put, List.setIfInBounds_toArray, List.set_cons_zero, List.set_cons_succ]
          refine takeD (i := 2) (d := some 32) (v := ?_) rfl rfl (by kernel_rfl) (by kernel_rfl) (by kernel_rfl) (fun _ _ _ h => h) (Or.inl ⟨by rfl, ?_⟩) (by assumption) ?_
          rotate_left
          · intro wS hSw; (try dsimp only at hSw); go_simp; (try with_reducible rfl)
          try simp only [Act.put, List.setIfInBounds_toArray, List.set_cons_zero, List.set_cons_succ]
          refine takeD (i := 3) (d := some 33) (v := .bool false) rfl rfl (by kernel_rfl) (by kernel_rfl) (by kernel_rfl) (fun _ _ _ h => h) (Or.inl ⟨by rfl, ?_⟩) (by assumption) ?_
          · intro wS hSw; (try dsimp only at hSw); go_simp; (try simp [hkm]); (try with_reducible rfl)
          try simp only [Act.put, List.setIfInBounds_toArray, List.set_cons_zero, List.set_cons_succ]
          refine takeD (i := 4) (d := some 34) (v := ?_) rfl rfl (by kernel_rfl) (by kernel_rfl) (by kernel_rfl) (fun _ _ _ h => h) (Or.inl ⟨by rfl, ?_⟩) (by assumption) ?_
          rotate_left
          · intro wS hSw; (try dsimp only at hSw); go_simp; (try with_reducible rfl)
          try simp only [Act.put, List.setIfInBounds_toArray, List.set_cons_zero, List.set_cons_succ]
          refine takeD (i := 5) (d := some 35) (v := undef) rfl rfl (by kernel_rfl) (by kernel_rfl) (by kernel_rfl) (fun _ _ _ h => h) (Or.inr ⟨by kernel_rfl, rfl⟩) (by assumption) ?_
          try simp only [Act.put, List.setIfInBounds_toArray, List.set_cons_zero, List.set_cons_succ]
          refine takeD (i := 6) (d := some 36) (v := undef) rfl rfl (by kernel_rfl) (by kernel_rfl) (by kernel_rfl) (fun _ _ _ h => h) (Or.inr ⟨by kernel_rfl, rfl⟩) (by assumption) ?_
          try simp only [Act.put, List.setIfInBounds_toArray, List.set_cons_zero, List.set_cons_succ]
          refine takeD (i := 7) (d := some 37) (v := undef) rfl rfl (by kernel_rfl) (by kernel_rfl) (by kernel_rfl) (fun _ _ _ h => h) (Or.inr ⟨by kernel_rfl, rfl⟩) (by assumption) ?_
          try simp only [Act.put, List.setIfInBounds_toArray, List.set_cons_zero, List.set_cons_succ]
          refine takeD (i := 8) (d := some 38) (v := undef) rfl rfl (by kernel_rfl) (by kernel_rfl) (by kernel_rfl) (fun _ _ _ h => h) (Or.inr ⟨by kernel_rfl, rfl⟩) (by assumption) ?_
          try simp only [Act.put, List.setIfInBounds_toArray, List.set_cons_zero, List.set_cons_succ]
          refine takeD (i := 9) (d := some 39) (v := undef) rfl rfl (by kernel_rfl) (by kernel_rfl) (by kernel_rfl) (fun _ _ _ h => h) (Or.inr ⟨by kernel_rfl, rfl⟩) (by assumption) ?_
          try simp only [Act.put, List.setIfInBounds_toArray, List.set_cons_zero, List.set_cons_succ]
          refine takeD (i := 10) (d := some 40) (v := undef) rfl rfl (by kernel_rfl) (by kernel_rfl) (by kernel_rfl) (fun _ _ _ h => h) (Or.inr ⟨by kernel_rfl, rfl⟩) (by assumption) ?_
          try simp only [Act.put, List.setIfInBounds_toArray, List.set_cons_zero, List.set_cons_succ]
          refine takeD (i := 11) (d := some 41) (v := undef) rfl rfl (by kernel_rfl) (by kernel_rfl) (by kernel_rfl) (fun _ _ _ h => h) (Or.inr ⟨by kernel_rfl, rfl⟩) (by assumption) ?_
          try simp only [Act.put, List.setIfInBounds_toArray, List.set_cons_zero, List.set_cons_succ]
          refine takeD (i := 12) (d := some 42) (v := undef) rfl rfl (by kernel_rfl) (by kernel_rfl) (by kernel_rfl) (fun _ _ _ h => h) (Or.inr ⟨by kernel_rfl, rfl⟩) (by assumption) ?_
          try simp only [Act.put, List.setIfInBounds_toArray, List.set_cons_zero, List.set_cons_succ]
          refine takeD (i := 13) (d := some 43) (v := undef) rfl rfl (by kernel_rfl) (by kernel_rfl) (by kernel_rfl) (fun _ _ _ h => h) (Or.inr ⟨by kernel_rfl, rfl⟩) (by assumption) ?_
          try simp only [Act.put, List.setIfInBounds_toArray, List.set_cons_zero, List.set_cons_succ]
          refine takeD (i := 14) (d := some 44) (v := ?_) rfl rfl (by kernel_rfl) (by kernel_rfl) (by kernel_rfl) (fun _ _ _ h => h) (Or.inl ⟨by rfl, ?_⟩) (by assumption) ?_
          rotate_left
          · intro wS hSw; (try dsimp only at hSw); go_simp; (try with_reducible rfl)
          try simp only [Act.put, List.setIfInBounds_toArray, List.set_cons_zero, List.set_cons_succ]
          refine wpAnyH_done (by kernel_rfl) ?_ _
          have HO := Lib.hid (own_keep hown ((Below.refl wr.heap.size wr).drew.drew))
          have hbel := hbel.drew.drew
          have c0 : wr.drew.drew.cell? ⟨b, off + q, none⟩ = some (.int .i64 c) := c0
          have hglt : ∀ gg, (Value.slice none 0 0).ownBlock = some gg → gg < wr.drew.drew.heap.size := fun gg h => by cases h
          generalize wr.drew.drew = wq at *
          go_wp2_with (first | (at_builtin; go_loud (refine wpList_append_fresh wq rfl (.const (.slice none 0 0)) (.tmp 47) 22 rfl wq.heap.size 3 s0 _ 8 Tryd.underlying22 HS.out HZ.out.1 HZ.out.2.1 HZ.out.2.2 rfl rfl wq.heap.size none 0 0 [] (by simp [Act.eval, go_sem]) Reads.none_ (fun u hu => by simp at hu) (by omega) (by omega) (Nat.le_refl _) ?_); intro v4 w4 hown4 hb4) | fail)
          have hbw4 := hbel.trans (hb4.mono hbel.size)
          have c0 := (hb4.cell (p := ⟨b, off + q, none⟩) (show b < _ by have := hbel.size; omega)).trans c0
          have ho4 := own_keep HO.out hb4
          have hz4 := hb4.size
          have hzw := hbel.size
          obtain ⟨Ar, cr, rfl, hcr⟩ := own_slice hown4
          clear hb4
          try clear hoff
          have hc4 : w4.ownsRow w.heap.size 3 1 (.slice none 0 0) 0 [] := World.ownsRow_nil _ _ _ _
          go_wp2_with fail
          refine wp_region_held_drew (S := fun W => W.cell? ⟨b, off + q, none⟩ = some (.int .i64 c)) (by kernel_rfl) c0 (fun hHeld => ?_)
          refine takeD (i := 0) (d := some 49) (v := ?_) rfl rfl (by kernel_rfl) (by kernel_rfl) (by kernel_rfl) (fun _ _ _ h => h) (Or.inl ⟨by rfl, ?_⟩) (by assumption) ?_
          rotate_left
          · intro wS hSw; (try dsimp only at hSw); go_simp; (try with_reducible rfl)
          try simp only [Act.put, List.setIfInBounds_toArray, List.set_cons_zero, List.set_cons_succ]
          refine takeD (i := 1) (d := some 50) (v := ?_) rfl rfl (by kernel_rfl) (by kernel_rfl) (by kernel_rfl) (fun _ _ _ h => h) (Or.inl ⟨by rfl, ?_⟩) (by assumption) ?_
          rotate_left
          · intro wS hSw; (try dsimp only at hSw); go_simp; (try with_reducible rfl)
          try simp only [Act.put, List.setIfInBounds_toArray, List.set_cons_zero, List.set_cons_succ]
          refine takeD (i := 2) (d := some 51) (v := ?_) rfl rfl (by kernel_rfl) (by kernel_rfl) (by kernel_rfl) (fun _ _ _ h => h) (Or.inl ⟨by rfl, ?_⟩) (by assumption) ?_
          rotate_left
          · intro wS hSw; (try dsimp only at hSw); go_simp; (try with_reducible rfl)
          try simp only [Act.put, List.setIfInBounds_toArray, List.set_cons_zero, List.set_cons_succ]
          refine takeD (i := 3) (d := some 52) (v := ?_) rfl rfl (by kernel_rfl) (by kernel_rfl) (by kernel_rfl) (fun _ _ _ h => h) (Or.inl ⟨by rfl, ?_⟩) (by assumption) ?_
          rotate_left
          · intro wS hSw; (try dsimp only at hSw); go_simp; (try with_reducible rfl)
          try simp only [Act.put, List.setIfInBounds_toArray, List.set_cons_zero, List.set_cons_succ]
          refine takeD (i := 4) (d := some 53) (v := ?_) rfl rfl (by kernel_rfl) (by kernel_rfl) (by kernel_rfl) (fun _ _ _ h => h) (Or.inl ⟨by rfl, ?_⟩) (by assumption) ?_
          rotate_left
          · intro wS hSw; (try dsimp only at hSw); go_simp; (try with_reducible rfl)
          try simp only [Act.put, List.setIfInBounds_toArray, List.set_cons_zero, List.set_cons_succ]
          refine takeD (i := 5) (d := some 54) (v := ?_) rfl rfl (by kernel_rfl) (by kernel_rfl) (by kernel_rfl) (fun _ _ _ h => h) (Or.inl ⟨by rfl, ?_⟩) (by assumption) ?_
          rotate_left
          · intro wS hSw; (try dsimp only at hSw); go_simp; (try with_reducible rfl)
          try simp only [Act.put, List.setIfInBounds_toArray, List.set_cons_zero, List.set_cons_succ]
          refine takeD (i := 6) (d := some 55) (v := ?_) rfl rfl (by kernel_rfl) (by kernel_rfl) (by kernel_rfl) (fun _ _ _ h => h) (Or.inl ⟨by rfl, ?_⟩) (by assumption) ?_
          rotate_left
          · intro wS hSw; (try dsimp only at hSw); go_simp; (try with_reducible rfl)
          try simp only [Act.put, List.setIfInBounds_toArray, List.set_cons_zero, List.set_cons_succ]
          refine takeD (i := 9) (d := some 58) (v := ?_) rfl rfl (by kernel_rfl) (by kernel_rfl) (by kernel_rfl) (fun _ _ _ h => h) (Or.inl ⟨by rfl, ?_⟩) (by assumption) ?_
          rotate_left
          · intro wS hSw; (try dsimp only at hSw); go_simp; (try with_reducible rfl)
          try simp only [Act.put, List.setIfInBounds_toArray, List.set_cons_zero, List.set_cons_succ]
          have ho5 := own_keep hc4 (Below.refl w4.heap.size w4).drew
          have hr5 := own_keep hown4 (Below.refl w4.heap.size w4).drew
          have c5 : w4.drew.cell? ⟨b, off + q, none⟩ = some (.int .i64 c) := c0
          have hbw5 := hbw4.drew
          have hz5 : w4.heap.size ≤ w4.drew.heap.size := Nat.le_refl _
          generalize w4.drew = W5 at *
          refine wpAnyH_ready (rs := [7]) (by kernel_rfl) (by simp) ?_
          refine consD (d := some 56) rfl rfl (fun K hK => ?_) AllReadyH.nil
          go_simp
          have bx := box_below W5 (.cells #[.int .i64 c] 3)
          have ox : Own (W5.alloc (.cells #[.int .i64 c] 3)) W5.heap.size [.int .i64 c] := own_new W5 [.int .i64 c] 3
          have zx : W5.heap.size < (W5.alloc (.cells #[.int .i64 c] 3)).heap.size := by simp
          have ho6 := own_keep ho5 bx
          have hr6 := own_keep hr5 bx
          have c6 := (bx.cell (p := ⟨b, off + q, none⟩) (show b < _ by omega)).trans c5
          have hbw6 := hbw5.trans (bx.mono (by omega))
          have hz6 := bx.size
          generalize hWW : W5.alloc _ = W6 at *
          clear hWW bx ho5 hr5
          refine hK.out _ _ c6 (fun hHeld => ?_)
          clear hK K
          try simp only [Act.put, List.setIfInBounds_toArray, List.set_cons_zero, List.set_cons_succ]
          refine wpAnyH_ready (rs := [8]) (by kernel_rfl) (by simp) ?_
          refine consD (d := some 57) rfl rfl (fun K hK => ?_) AllReadyH.nil
          refine step_append_any (w := W6) (P := Tryd.prog) rfl (.tmp 51) (.tmp 56) 22 rfl w.heap.size 3 s0 _ 1 8 Tryd.underlying22 HS.out HZ.out.1 HZ.out.2.1 HZ.out.2.2 rfl (by omega) _ 0 _ rfl ho6 W6.heap.size (some ⟨W5.heap.size, 0, none⟩) 1 1 [.int .i64 c] rfl (reads_box ox zx) (by intro yy hy; simp at hy; subst hy; rfl) (by unfold maxLen; omega) (by omega) (by omega) ?_
          intro v7 W7 ho7 hg7 _
          have hr7 := own_stay hr6 fun gg _ h1 h2 => hg7.block gg h2 (fun he => by have := hglt gg he.symm; omega)
          have b7 : Below w.heap.size W6 W7 := (Below.refl _ _).grown hg7 (by omega) (fun gg hgg => (ho6.lt gg hgg).1)
          have c7 := (b7.cell (p := ⟨b, off + q, none⟩) (show b < _ by omega)).trans c6
          have hbw7 := hbw6.trans b7
          have hz7 := b7.size
          clear b7 ho6 hr6 hg7 ox zx
          refine hK.out _ _ c7 (fun hHeld => ?_)
          clear hK K
          try simp only [Act.put, List.setIfInBounds_toArray, List.set_cons_zero, List.set_cons_succ]
          refine wpAnyH_ready (rs := [10]) (by kernel_rfl) (by simp) ?_
          refine consD (d := some 59) rfl rfl (fun K hK => ?_) AllReadyH.nil
          refine step_append_any (w := W7) (P := Tryd.prog) rfl (.tmp 57) (.tmp 58) 22 rfl w.heap.size 3 s0 _ 1 8 Tryd.underlying22 HS.out HZ.out.1 HZ.out.2.1 HZ.out.2.2 rfl (by omega) v7 (0 + 1) _ rfl ho7 W7.heap.size Ar 0 cr [] rfl (Reads.of_own hr7) (fun u hu => by simp at hu) (by unfold maxLen; omega) (by omega) (by omega) ?_
          intro v8 W8 ho8 hg8 _
          have b8 : Below w.heap.size W7 W8 := (Below.refl _ _).grown hg8 (by omega) (fun gg hgg => (ho7.lt gg hgg).1)
          have c8 := (b8.cell (p := ⟨b, off + q, none⟩) (show b < _ by omega)).trans c7
          have hbw8 := hbw7.trans b8
          clear b8
          refine hK.out _ _ c8 (fun hHeld => ?_)
          clear hK K
          try simp only [Act.put, List.setIfInBounds_toArray, List.set_cons_zero, List.set_cons_succ]
          refine takeD (i := 11) (d := some 3) (v := ?_) rfl rfl (by kernel_rfl) (by kernel_rfl) (by kernel_rfl) (fun _ _ _ h => h) (Or.inl ⟨by rfl, ?_⟩) (by assumption) ?_
          rotate_left
          · intro wS hSw; (try dsimp only at hSw); go_simp; (try with_reducible rfl)
          try simp only [Act.put, List.setIfInBounds_toArray, List.set_cons_zero, List.set_cons_succ]
          refine wpAnyH_done (by kernel_rfl) ?_ _
          have HL9 := Lib.hid (show LvAt w W8 row (q + 1) v8 from by
            refine ⟨insL c [], by rw [HFT.out, HLV.out], ?_, ?_, hbw8⟩
            · have e1 : (insL c []).length = 0 + 1 + 0 := by rw [HINS.out]; simp
              rw [e1, HINS.out]
              simpa using ho8
            · intro he
              rw [HINS.out] at he
              simp at he)
          go_wp2_with fail
          go_roundg (n - (q + 1))
          case rel => exact ⟨q + 1, v8, by omega, rfl, by go_num, HL9.out⟩
          case measure => omega
      | cons lx lt =>
        generalize hlvc : lx :: lt = lv at *
        have hm0 : 0 < lv.length := by rw [← hlvc]; simp
        obtain ⟨Av, cv, rfl, hcv⟩ := own_slice hown
        obtain ⟨g, rfl⟩ : ∃ g, Av = some ⟨g, 0, none⟩ := by
          rcases hown.2 with ⟨e, h0'⟩ | ⟨g, cap, cur, e, _⟩
          · omega
          · cases e; exact ⟨g, rfl⟩
        have HO0 := Lib.hid hown
        clear hnil hlvc hown
        generalize hmm : lv.length = m at *
        have HMM := Lib.hid hmm
        clear hmm
        go_wp2_with fail
        go_loopg [5] m (fun k2 s5 w3 => ∃ k : Nat, k + k2 = m ∧ s5 = .int .i64 k ∧ Hid (∀ x ∈ lv.take k, x < c) ∧ Below wr.heap.size wr w3)
        case atStart => exact ⟨0, by omega, rfl, Lib.hid (fun x hx => by simp at hx), Below.refl _ _⟩
        case round =>
          obtain ⟨k, hkk, rfl, HLT, hb3⟩ := hrel
          have HO := Lib.hid (own_keep HO0.out hb3)
          have hzr := hbel.size
          have hbel := hbel.trans (hb3.mono hbel.size)
          have c0 := (hb3.cell (p := ⟨b, off + q, none⟩) (show b < _ by omega)).trans c0
          have hkle : k ≤ m := by omega
          by_cases hkm0 : k < m
          · have hkm : ((k : Int) < (m : Int)) = True := eq_true (by omega)
            have i2 : (k : Int) < (m : Int) := by omega
            obtain ⟨x, hxk⟩ : ∃ x, lv[k]? = some x := ⟨_, List.getElem?_eq_getElem (by rw [HMM.out]; exact hkm0)⟩
            have x0 : wr.cell? ⟨g, k, none⟩ = some (.int .i64 x) := by
              have h := HO.out.cells (g := g) rfl k (.int .i64 x) (by rw [List.getElem?_map, hxk]; rfl)
              rwa [add_plain, Nat.zero_add] at h
            have HSAME := Lib.hid (fun (he : x = c) => insL_same HLT.out hxk he)
            have HMID := Lib.hid (fun (h1 : ¬ x < c) (h2 : ¬ x = c) => insL_mid HLT.out hxk h1 h2)
            have HTK := Lib.hid (fun (h1 : x < c) => lt_take HLT.out hxk h1)
            clear hxk
            by_cases hxc : x < c
            · have HTK2 := Lib.hid (HTK.out hxc)
              have hlt : decide (x < c) = true := decide_eq_true hxc
              go_wp2_with fail
              refine wp_region_held_drew (S := fun W => (W.cell? ⟨b, off + q, none⟩ = some (.int .i64 c)) ∧ W.cell? ⟨g, k, none⟩ = some (.int .i64 x)) (by kernel_rfl) ⟨c0, x0⟩ (fun hHeld => ?_)
              refine takeD (i := 0) (d := some 13) (v := ?_) rfl rfl (by kernel_rfl) (by kernel_rfl) (by kernel_rfl) (fun _ _ _ h => h) (Or.inl ⟨by rfl, ?_⟩) (by assumption) ?_
              rotate_left
              · intro wS hSw; (try dsimp only at hSw); go_simp; (try with_reducible rfl)
              try simp only [Act.put, List.setIfInBounds_toArray, List.set_cons_zero, List.set_cons_succ]
              refine takeD (i := 1) (d := some 14) (v := ?_) rfl rfl (by kernel_rfl) (by kernel_rfl) (by kernel_rfl) (fun _ _ _ h => h) (Or.inl ⟨by rfl, ?_⟩) (by assumption) ?_
              rotate_left
              · intro wS hSw; (try dsimp only at hSw); go_simp; (try with_reducible rfl)
              try simp only [Act.put, List.setIfInBounds_toArray, List.set_cons_zero, List.set_cons_succ]
              refine takeD (i := 2) (d := some 15) (v := ?_) rfl rfl (by kernel_rfl) (by kernel_rfl) (by kernel_rfl) (fun _ _ _ h => h) (Or.inl ⟨by rfl, ?_⟩) (by assumption) ?_
              rotate_left
              · intro wS hSw; (try dsimp only at hSw); go_simp; (try with_reducible rfl)
              try simp only [Act.put, List.setIfInBounds_toArray, List.set_cons_zero, List.set_cons_succ]
              refine takeD (i := 3) (d := some 16) (v := .bool true) rfl rfl (by kernel_rfl) (by kernel_rfl) (by kernel_rfl) (fun _ _ _ h => h) (Or.inl ⟨by rfl, ?_⟩) (by assumption) ?_
              · intro wS hSw; (try dsimp only at hSw); go_simp; (try simp [hkm]); (try with_reducible rfl)
              try simp only [Act.put, List.setIfInBounds_toArray, List.set_cons_zero, List.set_cons_succ]
              refine takeD (i := 4) (d := some 17) (v := ?_) rfl rfl (by kernel_rfl) (by kernel_rfl) (by kernel_rfl) (fun _ _ _ h => h) (Or.inl ⟨by rfl, ?_⟩) (by assumption) ?_
              rotate_left
              · intro wS hSw; (try dsimp only at hSw); go_simp; (try with_reducible rfl)
              try simp only [Act.put, List.setIfInBounds_toArray, List.set_cons_zero, List.set_cons_succ]
              refine takeD (i := 5) (d := some 18) (v := ?_) rfl rfl (by kernel_rfl) (by kernel_rfl) (by kernel_rfl) (fun _ _ _ h => h) (Or.inl ⟨by rfl, ?_⟩) (by assumption) ?_
              rotate_left
              · intro wS hSw; (try dsimp only at hSw); go_simp; (try with_reducible rfl)
              try simp only [Act.put, List.setIfInBounds_toArray, List.set_cons_zero, List.set_cons_succ]
              refine takeD (i := 6) (d := some 19) (v := ?_) rfl rfl (by kernel_rfl) (by kernel_rfl) (by kernel_rfl) (fun _ _ _ h => h) (Or.inl ⟨by rfl, ?_⟩) (by assumption) ?_
              rotate_left
              · intro wS hSw; (try dsimp only at hSw); go_simp; (try with_reducible rfl)
              try simp only [Act.put, List.setIfInBounds_toArray, List.set_cons_zero, List.set_cons_succ]
              refine takeD (i := 7) (d := some 20) (v := ?_) rfl rfl (by kernel_rfl) (by kernel_rfl) (by kernel_rfl) (fun _ _ _ h => h) (Or.inl ⟨by rfl, ?_⟩) (by assumption) ?_
              rotate_left
              · intro wS hSw; (try dsimp only at hSw); go_simp; (try with_reducible rfl)
              try simp only [Act.put, List.setIfInBounds_toArray, List.set_cons_zero, List.set_cons_succ]
              refine takeD (i := 8) (d := some 21) (v := ?_) rfl rfl (by kernel_rfl) (by kernel_rfl) (by kernel_rfl) (fun _ _ _ h => h) (Or.inl ⟨by rfl, ?_⟩) (by assumption) ?_
              rotate_left
              · intro wS hSw; (try dsimp only at hSw); go_simp; (try with_reducible rfl)
              try simp only [Act.put, List.setIfInBounds_toArray, List.set_cons_zero, List.set_cons_succ]
              refine takeD (i := 9) (d := some 22) (v := ?_) rfl rfl (by kernel_rfl) (by kernel_rfl) (by kernel_rfl) (fun _ _ _ h => h) (Or.inl ⟨by rfl, ?_⟩) (by assumption) ?_
              rotate_left
              · intro wS hSw; (try dsimp only at hSw); go_simp; (try with_reducible rfl)
              try simp only [Act.put, List.setIfInBounds_toArray, List.set_cons_zero, List.set_cons_succ]
              refine takeD (i := 10) (d := some 23) (v := ?_) rfl rfl (by kernel_rfl) (by kernel_rfl) (by kernel_rfl) (fun _ _ _ h => h) (Or.inl ⟨by rfl, ?_⟩) (by assumption) ?_
              rotate_left
              · intro wS hSw; (try dsimp only at hSw); go_simp; (try with_reducible rfl)
              try simp only [Act.put, List.setIfInBounds_toArray, List.set_cons_zero, List.set_cons_succ]
              refine takeD (i := 11) (d := some 24) (v := ?_) rfl rfl (by kernel_rfl) (by kernel_rfl) (by kernel_rfl) (fun _ _ _ h => h) (Or.inl ⟨by rfl, ?_⟩) (by assumption) ?_
              rotate_left
              · intro wS hSw; (try dsimp only at hSw); go_simp; (try with_reducible rfl)
              try simp only [Act.put, List.setIfInBounds_toArray, List.set_cons_zero, List.set_cons_succ]
              refine takeD (i := 12) (d := some 25) (v := ?_) rfl rfl (by kernel_rfl) (by kernel_rfl) (by kernel_rfl) (fun _ _ _ h => h) (Or.inl ⟨by rfl, ?_⟩) (by assumption) ?_
              rotate_left
              · intro wS hSw; (try dsimp only at hSw); go_simp; (try with_reducible rfl)
              try simp only [Act.put, List.setIfInBounds_toArray, List.set_cons_zero, List.set_cons_succ]
              refine takeD (i := 13) (d := some 26) (v := .bool true) rfl rfl (by kernel_rfl) (by kernel_rfl) (by kernel_rfl) (fun _ _ _ h => h) (Or.inl ⟨by rfl, ?_⟩) (by assumption) ?_
              · intro wS hSw; (try dsimp only at hSw); go_simp; (try simp [hlt]); (try with_reducible rfl)
              try simp only [Act.put, List.setIfInBounds_toArray, List.set_cons_zero, List.set_cons_succ]
              refine takeD (i := 14) (d := some 27) (v := ?_) rfl rfl (by kernel_rfl) (by kernel_rfl) (by kernel_rfl) (fun _ _ _ h => h) (Or.inl ⟨by rfl, ?_⟩) (by assumption) ?_
              rotate_left
              · intro wS hSw; (try dsimp only at hSw); go_simp; (try with_reducible rfl)
              try simp only [Act.put, List.setIfInBounds_toArray, List.set_cons_zero, List.set_cons_succ]
              refine wpAnyH_done (by kernel_rfl) ?_ _
              go_wp2_with fail
              go_roundg (m - (k + 1))
              case rel => exact ⟨k + 1, by omega, by go_num, HTK2, hb3.drew⟩
              case measure => omega
            · have hlt : decide (x < c) = false := decide_eq_false hxc
              go_wp2_with fail
              refine wp_region_held_drew (S := fun W => (W.cell? ⟨b, off + q, none⟩ = some (.int .i64 c)) ∧ W.cell? ⟨g, k, none⟩ = some (.int .i64 x)) (by kernel_rfl) ⟨c0, x0⟩ (fun hHeld => ?_)
              refine takeD (i := 0) (d := some 13) (v := ?_) rfl rfl (by kernel_rfl) (by kernel_rfl) (by kernel_rfl) (fun _ _ _ h => h) (Or.inl ⟨by rfl, ?_⟩) (by assumption) ?_
              rotate_left
              · intro wS hSw; (try dsimp only at hSw); go_simp; (try with_reducible rfl)
              try simp only [Act.put, List.setIfInBounds_toArray, List.set_cons_zero, List.set_cons_succ]
              refine takeD (i := 1) (d := some 14) (v := ?_) rfl rfl (by kernel_rfl) (by kernel_rfl) (by kernel_rfl) (fun _ _ _ h => h) (Or.inl ⟨by rfl, ?_⟩) (by assumption) ?_
              rotate_left
              · intro wS hSw; (try dsimp only at hSw); go_simp; (try with_reducible rfl)
              try simp only [Act.put, List.setIfInBounds_toArray, List.set_cons_zero, List.set_cons_succ]
              refine takeD (i := 2) (d := some 15) (v := ?_) rfl rfl (by kernel_rfl) (by kernel_rfl) (by kernel_rfl) (fun _ _ _ h => h) (Or.inl ⟨by rfl, ?_⟩) (by assumption) ?_
              rotate_left
              · intro wS hSw; (try dsimp only at hSw); go_simp; (try with_reducible rfl)
              try simp only [Act.put, List.setIfInBounds_toArray, List.set_cons_zero, List.set_cons_succ]
              refine takeD (i := 3) (d := some 16) (v := .bool true) rfl rfl (by kernel_rfl) (by kernel_rfl) (by kernel_rfl) (fun _ _ _ h => h) (Or.inl ⟨by rfl, ?_⟩) (by assumption) ?_
              · intro wS hSw; (try dsimp only at hSw); go_simp; (try simp [hkm]); (try with_reducible rfl)
              try simp only [Act.put, List.setIfInBounds_toArray, List.set_cons_zero, List.set_cons_succ]
              refine takeD (i := 4) (d := some 17) (v := ?_) rfl rfl (by kernel_rfl) (by kernel_rfl) (by kernel_rfl) (fun _ _ _ h => h) (Or.inl ⟨by rfl, ?_⟩) (by assumption) ?_
              rotate_left
              · intro wS hSw; (try dsimp only at hSw); go_simp; (try with_reducible rfl)
              try simp only [Act.put, List.setIfInBounds_toArray, List.set_cons_zero, List.set_cons_succ]
              refine takeD (i := 5) (d := some 18) (v := ?_) rfl rfl (by kernel_rfl) (by kernel_rfl) (by kernel_rfl) (fun _ _ _ h => h) (Or.inl ⟨by rfl, ?_⟩) (by assumption) ?_
              rotate_left
              · intro wS hSw; (try dsimp only at hSw); go_simp; (try with_reducible rfl)
              try simp only [Act.put, List.setIfInBounds_toArray, List.set_cons_zero, List.set_cons_succ]
              refine takeD (i := 6) (d := some 19) (v := ?_) rfl rfl (by kernel_rfl) (by kernel_rfl) (by kernel_rfl) (fun _ _ _ h => h) (Or.inl ⟨by rfl, ?_⟩) (by assumption) ?_
              rotate_left
              · intro wS hSw; (try dsimp only at hSw); go_simp; (try with_reducible rfl)
              try simp only [Act.put, List.setIfInBounds_toArray, List.set_cons_zero, List.set_cons_succ]
              refine takeD (i := 7) (d := some 20) (v := ?_) rfl rfl (by kernel_rfl) (by kernel_rfl) (by kernel_rfl) (fun _ _ _ h => h) (Or.inl ⟨by rfl, ?_⟩) (by assumption) ?_
              rotate_left
              · intro wS hSw; (try dsimp only at hSw); go_simp; (try with_reducible rfl)
              try simp only [Act.put, List.setIfInBounds_toArray, List.set_cons_zero, List.set_cons_succ]
              refine takeD (i := 8) (d := some 21) (v := ?_) rfl rfl (by kernel_rfl) (by kernel_rfl) (by kernel_rfl) (fun _ _ _ h => h) (Or.inl ⟨by rfl, ?_⟩) (by assumption) ?_
              rotate_left
              · intro wS hSw; (try dsimp only at hSw); go_simp; (try with_reducible rfl)
              try simp only [Act.put, List.setIfInBounds_toArray, List.set_cons_zero, List.set_cons_succ]
              refine takeD (i := 9) (d := some 22) (v := ?_) rfl rfl (by kernel_rfl) (by kernel_rfl) (by kernel_rfl) (fun _ _ _ h => h) (Or.inl ⟨by rfl, ?_⟩) (by assumption) ?_
              rotate_left
              · intro wS hSw; (try dsimp only at hSw); go_simp; (try with_reducible rfl)
              try simp only [Act.put, List.setIfInBounds_toArray, List.set_cons_zero, List.set_cons_succ]
              refine takeD (i := 10) (d := some 23) (v := ?_) rfl rfl (by kernel_rfl) (by kernel_rfl) (by kernel_rfl) (fun _ _ _ h => h) (Or.inl ⟨by rfl, ?_⟩) (by assumption) ?_
              rotate_left
              · intro wS hSw; (try dsimp only at hSw); go_simp; (try with_reducible rfl)
              try simp only [Act.put, List.setIfInBounds_toArray, List.set_cons_zero, List.set_cons_succ]
              refine takeD (i := 11) (d := some 24) (v := ?_) rfl rfl (by kernel_rfl) (by kernel_rfl) (by kernel_rfl) (fun _ _ _ h => h) (Or.inl ⟨by rfl, ?_⟩) (by assumption) ?_
              rotate_left
              · intro wS hSw; (try dsimp only at hSw); go_simp; (try with_reducible rfl)
              try simp only [Act.put, List.setIfInBounds_toArray, List.set_cons_zero, List.set_cons_succ]
              refine takeD (i := 12) (d := some 25) (v := ?_) rfl rfl (by kernel_rfl) (by kernel_rfl) (by kernel_rfl) (fun _ _ _ h => h) (Or.inl ⟨by rfl, ?_⟩) (by assumption) ?_
              rotate_left
              · intro wS hSw; (try dsimp only at hSw); go_simp; (try with_reducible rfl)
              try simp only [Act.put, List.setIfInBounds_toArray, List.set_cons_zero, List.set_cons_succ]
              refine takeD (i := 13) (d := some 26) (v := .bool false) rfl rfl (by kernel_rfl) (by kernel_rfl) (by kernel_rfl) (fun _ _ _ h => h) (Or.inl ⟨by rfl, ?_⟩) (by assumption) ?_
              · intro wS hSw; (try dsimp only at hSw); go_simp; (try simp [hlt]); (try with_reducible rfl)
              try simp only [Act.put, List.setIfInBounds_toArray, List.set_cons_zero, List.set_cons_succ]
              refine takeD (i := 14) (d := some 27) (v := ?_) rfl rfl (by kernel_rfl) (by kernel_rfl) (by kernel_rfl) (fun _ _ _ h => h) (Or.inl ⟨by rfl, ?_⟩) (by assumption) ?_
              rotate_left
              · intro wS hSw; (try dsimp only at hSw); go_simp; (try with_reducible rfl)
              try simp only [Act.put, List.setIfInBounds_toArray, List.set_cons_zero, List.set_cons_succ]
              refine wpAnyH_done (by kernel_rfl) ?_ _
              by_cases hxe : x = c
              · have HE := Lib.hid (HSAME.out hxe)
                have heq : (x == c) = true := by simpa using hxe
                go_wp2_with fail
                refine wp_region_held_drew (S := fun W => (W.cell? ⟨b, off + q, none⟩ = some (.int .i64 c)) ∧ W.cell? ⟨g, k, none⟩ = some (.int .i64 x)) (by kernel_rfl) ⟨c0, x0⟩ (fun hHeld => ?_)
                refine takeD (i := 0) (d := some 30) (v := ?_) rfl rfl (by kernel_rfl) (by kernel_rfl) (by kernel_rfl) (fun _ _ _ h => h) (Or.inl ⟨by rfl, ?_⟩) (by assumption) ?_
                rotate_left
                · intro wS hSw; (try dsimp only at hSw); go_simp; (try with_reducible rfl)
                try simp only [Act.put, List.setIfInBounds_toArray, List.set_cons_zero, List.set_cons_succ]
                refine takeD (i := 1) (d := some 31) (v := ?_) rfl rfl (by kernel_rfl) (by kernel_rfl) (by kernel_rfl) (fun _ _ _ h => h) (Or.inl ⟨by rfl, ?_⟩) (by assumption) ?_
                rotate_left
                · intro wS hSw; (try dsimp only at hSw); go_simp; (try with_reducible rfl)
                try simp only [Act.put, List.setIfInBounds_toArray, List.set_cons_zero, List.set_cons_succ]
                refine takeD (i := 2) (d := some 32) (v := ?_) rfl rfl (by kernel_rfl) (by kernel_rfl) (by kernel_rfl) (fun _ _ _ h => h) (Or.inl ⟨by rfl, ?_⟩) (by assumption) ?_
                rotate_left
                · intro wS hSw; (try dsimp only at hSw); go_simp; (try with_reducible rfl)
                try simp only [Act.put, List.setIfInBounds_toArray, List.set_cons_zero, List.set_cons_succ]
                refine takeD (i := 3) (d := some 33) (v := .bool true) rfl rfl (by kernel_rfl) (by kernel_rfl) (by kernel_rfl) (fun _ _ _ h => h) (Or.inl ⟨by rfl, ?_⟩) (by assumption) ?_
                · intro wS hSw; (try dsimp only at hSw); go_simp; (try simp [hkm]); (try with_reducible rfl)
                try simp only [Act.put, List.setIfInBounds_toArray, List.set_cons_zero, List.set_cons_succ]
                refine takeD (i := 4) (d := some 34) (v := ?_) rfl rfl (by kernel_rfl) (by kernel_rfl) (by kernel_rfl) (fun _ _ _ h => h) (Or.inl ⟨by rfl, ?_⟩) (by assumption) ?_
                rotate_left
                · intro wS hSw; (try dsimp only at hSw); go_simp; (try with_reducible rfl)
                try simp only [Act.put, List.setIfInBounds_toArray, List.set_cons_zero, List.set_cons_succ]
                refine takeD (i := 5) (d := some 35) (v := ?_) rfl rfl (by kernel_rfl) (by kernel_rfl) (by kernel_rfl) (fun _ _ _ h => h) (Or.inl ⟨by rfl, ?_⟩) (by assumption) ?_
                rotate_left
                · intro wS hSw; (try dsimp only at hSw); go_simp; (try with_reducible rfl)
                try simp only [Act.put, List.setIfInBounds_toArray, List.set_cons_zero, List.set_cons_succ]
                refine takeD (i := 6) (d := some 36) (v := ?_) rfl rfl (by kernel_rfl) (by kernel_rfl) (by kernel_rfl) (fun _ _ _ h => h) (Or.inl ⟨by rfl, ?_⟩) (by assumption) ?_
                rotate_left
                · intro wS hSw; (try dsimp only at hSw); go_simp; (try with_reducible rfl)
                try simp only [Act.put, List.setIfInBounds_toArray, List.set_cons_zero, List.set_cons_succ]
                refine takeD (i := 7) (d := some 37) (v := ?_) rfl rfl (by kernel_rfl) (by kernel_rfl) (by kernel_rfl) (fun _ _ _ h => h) (Or.inl ⟨by rfl, ?_⟩) (by assumption) ?_
                rotate_left
                · intro wS hSw; (try dsimp only at hSw); go_simp; (try with_reducible rfl)
                try simp only [Act.put, List.setIfInBounds_toArray, List.set_cons_zero, List.set_cons_succ]
                refine takeD (i := 8) (d := some 38) (v := ?_) rfl rfl (by kernel_rfl) (by kernel_rfl) (by kernel_rfl) (fun _ _ _ h => h) (Or.inl ⟨by rfl, ?_⟩) (by assumption) ?_
                rotate_left
                · intro wS hSw; (try dsimp only at hSw); go_simp; (try with_reducible rfl)
                try simp only [Act.put, List.setIfInBounds_toArray, List.set_cons_zero, List.set_cons_succ]
                refine takeD (i := 9) (d := some 39) (v := ?_) rfl rfl (by kernel_rfl) (by kernel_rfl) (by kernel_rfl) (fun _ _ _ h => h) (Or.inl ⟨by rfl, ?_⟩) (by assumption) ?_
                rotate_left
                · intro wS hSw; (try dsimp only at hSw); go_simp; (try with_reducible rfl)
                try simp only [Act.put, List.setIfInBounds_toArray, List.set_cons_zero, List.set_cons_succ]
                refine takeD (i := 10) (d := some 40) (v := ?_) rfl rfl (by kernel_rfl) (by kernel_rfl) (by kernel_rfl) (fun _ _ _ h => h) (Or.inl ⟨by rfl, ?_⟩) (by assumption) ?_
                rotate_left
                · intro wS hSw; (try dsimp only at hSw); go_simp; (try with_reducible rfl)
                try simp only [Act.put, List.setIfInBounds_toArray, List.set_cons_zero, List.set_cons_succ]
                refine takeD (i := 11) (d := some 41) (v := ?_) rfl rfl (by kernel_rfl) (by kernel_rfl) (by kernel_rfl) (fun _ _ _ h => h) (Or.inl ⟨by rfl, ?_⟩) (by assumption) ?_
                rotate_left
                · intro wS hSw; (try dsimp only at hSw); go_simp; (try with_reducible rfl)
                try simp only [Act.put, List.setIfInBounds_toArray, List.set_cons_zero, List.set_cons_succ]
                refine takeD (i := 12) (d := some 42) (v := ?_) rfl rfl (by kernel_rfl) (by kernel_rfl) (by kernel_rfl) (fun _ _ _ h => h) (Or.inl ⟨by rfl, ?_⟩) (by assumption) ?_
                rotate_left
                · intro wS hSw; (try dsimp only at hSw); go_simp; (try with_reducible rfl)
                try simp only [Act.put, List.setIfInBounds_toArray, List.set_cons_zero, List.set_cons_succ]
                refine takeD (i := 13) (d := some 43) (v := .bool true) rfl rfl (by kernel_rfl) (by kernel_rfl) (by kernel_rfl) (fun _ _ _ h => h) (Or.inl ⟨by rfl, ?_⟩) (by assumption) ?_
                · intro wS hSw; (try dsimp only at hSw); go_simp; (try simp [heq]); (try with_reducible rfl)
                try simp only [Act.put, List.setIfInBounds_toArray, List.set_cons_zero, List.set_cons_succ]
                refine takeD (i := 14) (d := some 44) (v := ?_) rfl rfl (by kernel_rfl) (by kernel_rfl) (by kernel_rfl) (fun _ _ _ h => h) (Or.inl ⟨by rfl, ?_⟩) (by assumption) ?_
                rotate_left
                · intro wS hSw; (try dsimp only at hSw); go_simp; (try with_reducible rfl)
                try simp only [Act.put, List.setIfInBounds_toArray, List.set_cons_zero, List.set_cons_succ]
                refine wpAnyH_done (by kernel_rfl) ?_ _
                have HL9 := Lib.hid (show LvAt w wr.drew.drew row (q + 1) (.slice (some ⟨g, 0, none⟩) m cv) from by
                  refine ⟨lv, by rw [HFT.out, HLV.out, HE.out], by rw [HMM.out]; exact own_keep HO.out ((Below.refl wr.heap.size wr).drew.drew), fun he => by rw [he] at HMM; have := HMM.out; simp at this; omega, hbel.drew.drew⟩)
                go_wp2_with fail
                go_roundg (n - (q + 1))
                case rel => exact ⟨q + 1, _, by omega, rfl, by go_num, HL9.out⟩
                case measure => omega
              · have HINS := Lib.hid (HMID.out hxc hxe)
                have heq : (x == c) = false := by simpa using hxe
                go_wp2_with fail
                refine wp_region_held_drew (S := fun W => (W.cell? ⟨b, off + q, none⟩ = some (.int .i64 c)) ∧ W.cell? ⟨g, k, none⟩ = some (.int .i64 x)) (by kernel_rfl) ⟨c0, x0⟩ (fun hHeld => ?_)
                refine takeD (i := 0) (d := some 30) (v := ?_) rfl rfl (by kernel_rfl) (by kernel_rfl) (by kernel_rfl) (fun _ _ _ h => h) (Or.inl ⟨by rfl, ?_⟩) (by assumption) ?_
                rotate_left
                · intro wS hSw; (try dsimp only at hSw); go_simp; (try with_reducible rfl)
                try simp only [Act.put, List.setIfInBounds_toArray, List.set_cons_zero, List.set_cons_succ]
                refine takeD (i := 1) (d := some 31) (v := ?_) rfl rfl (by kernel_rfl) (by kernel_rfl) (by kernel_rfl) (fun _ _ _ h => h) (Or.inl ⟨by rfl, ?_⟩) (by assumption) ?_
                rotate_left
                · intro wS hSw; (try dsimp only at hSw); go_simp; (try with_reducible rfl)
                try simp only [Act.put, List.setIfInBounds_toArray, List.set_cons_zero, List.set_cons_succ]
                refine takeD (i := 2) (d := some 32) (v := ?_) rfl rfl (by kernel_rfl) (by kernel_rfl) (by kernel_rfl) (fun _ _ _ h => h) (Or.inl ⟨by rfl, ?_⟩) (by assumption) ?_
                rotate_left
                · intro wS hSw; (try dsimp only at hSw); go_simp; (try with_reducible rfl)
                try simp only [Act.put, List.setIfInBounds_toArray, List.set_cons_zero, List.set_cons_succ]
                refine takeD (i := 3) (d := some 33) (v := .bool true) rfl rfl (by kernel_rfl) (by kernel_rfl) (by kernel_rfl) (fun _ _ _ h => h) (Or.inl ⟨by rfl, ?_⟩) (by assumption) ?_
                · intro wS hSw; (try dsimp only at hSw); go_simp; (try simp [hkm]); (try with_reducible rfl)
                try simp only [Act.put, List.setIfInBounds_toArray, List.set_cons_zero, List.set_cons_succ]
                refine takeD (i := 4) (d := some 34) (v := ?_) rfl rfl (by kernel_rfl) (by kernel_rfl) (by kernel_rfl) (fun _ _ _ h => h) (Or.inl ⟨by rfl, ?_⟩) (by assumption) ?_
                rotate_left
                · intro wS hSw; (try dsimp only at hSw); go_simp; (try with_reducible rfl)
                try simp only [Act.put, List.setIfInBounds_toArray, List.set_cons_zero, List.set_cons_succ]
                refine takeD (i := 5) (d := some 35) (v := ?_) rfl rfl (by kernel_rfl) (by kernel_rfl) (by kernel_rfl) (fun _ _ _ h => h) (Or.inl ⟨by rfl, ?_⟩) (by assumption) ?_
                rotate_left
                · intro wS hSw; (try dsimp only at hSw); go_simp; (try with_reducible rfl)
                try simp only [Act.put, List.setIfInBounds_toArray, List.set_cons_zero, List.set_cons_succ]
                refine takeD (i := 6) (d := some 36) (v := ?_) rfl rfl (by kernel_rfl) (by kernel_rfl) (by kernel_rfl) (fun _ _ _ h => h) (Or.inl ⟨by rfl, ?_⟩) (by assumption) ?_
                rotate_left
                · intro wS hSw; (try dsimp only at hSw); go_simp; (try with_reducible rfl)
                try simp only [Act.put, List.setIfInBounds_toArray, List.set_cons_zero, List.set_cons_succ]
                refine takeD (i := 7) (d := some 37) (v := ?_) rfl rfl (by kernel_rfl) (by kernel_rfl) (by kernel_rfl) (fun _ _ _ h => h) (Or.inl ⟨by rfl, ?_⟩) (by assumption) ?_
                rotate_left
                · intro wS hSw; (try dsimp only at hSw); go_simp; (try with_reducible rfl)
                try simp only [Act.put, List.setIfInBounds_toArray, List.set_cons_zero, List.set_cons_succ]
                refine takeD (i := 8) (d := some 38) (v := ?_) rfl rfl (by kernel_rfl) (by kernel_rfl) (by kernel_rfl) (fun _ _ _ h => h) (Or.inl ⟨by rfl, ?_⟩) (by assumption) ?_
                rotate_left
                · intro wS hSw; (try dsimp only at hSw); go_simp; (try with_reducible rfl)
                try simp only [Act.put, List.setIfInBounds_toArray, List.set_cons_zero, List.set_cons_succ]
                refine takeD (i := 9) (d := some 39) (v := ?_) rfl rfl (by kernel_rfl) (by kernel_rfl) (by kernel_rfl) (fun _ _ _ h => h) (Or.inl ⟨by rfl, ?_⟩) (by assumption) ?_
                rotate_left
                · intro wS hSw; (try dsimp only at hSw); go_simp; (try with_reducible rfl)
                try simp only [Act.put, List.setIfInBounds_toArray, List.set_cons_zero, List.set_cons_succ]
                refine takeD (i := 10) (d := some 40) (v := ?_) rfl rfl (by kernel_rfl) (by kernel_rfl) (by kernel_rfl) (fun _ _ _ h => h) (Or.inl ⟨by rfl, ?_⟩) (by assumption) ?_
                rotate_left
                · intro wS hSw; (try dsimp only at hSw); go_simp; (try with_reducible rfl)
                try simp only [Act.put, List.setIfInBounds_toArray, List.set_cons_zero, List.set_cons_succ]
                refine takeD (i := 11) (d := some 41) (v := ?_) rfl rfl (by kernel_rfl) (by kernel_rfl) (by kernel_rfl) (fun _ _ _ h => h) (Or.inl ⟨by rfl, ?_⟩) (by assumption) ?_
                rotate_left
                · intro wS hSw; (try dsimp only at hSw); go_simp; (try with_reducible rfl)
                try simp only [Act.put, List.setIfInBounds_toArray, List.set_cons_zero, List.set_cons_succ]
                refine takeD (i := 12) (d := some 42) (v := ?_) rfl rfl (by kernel_rfl) (by kernel_rfl) (by kernel_rfl) (fun _ _ _ h => h) (Or.inl ⟨by rfl, ?_⟩) (by assumption) ?_
                rotate_left
                · intro wS hSw; (try dsimp only at hSw); go_simp; (try with_reducible rfl)
                try simp only [Act.put, List.setIfInBounds_toArray, List.set_cons_zero, List.set_cons_succ]
                refine takeD (i := 13) (d := some 43) (v := .bool false) rfl rfl (by kernel_rfl) (by kernel_rfl) (by kernel_rfl) (fun _ _ _ h => h) (Or.inl ⟨by rfl, ?_⟩) (by assumption) ?_
                · intro wS hSw; (try dsimp only at hSw); go_simp; (try simp [heq]); (try with_reducible rfl)
                try simp only [Act.put, List.setIfInBounds_toArray, List.set_cons_zero, List.set_cons_succ]
                refine takeD (i := 14) (d := some 44) (v := ?_) rfl rfl (by kernel_rfl) (by kernel_rfl) (by kernel_rfl) (fun _ _ _ h => h) (Or.inl ⟨by rfl, ?_⟩) (by assumption) ?_
                rotate_left
                · intro wS hSw; (try dsimp only at hSw); go_simp; (try with_reducible rfl)
                try simp only [Act.put, List.setIfInBounds_toArray, List.set_cons_zero, List.set_cons_succ]
                refine wpAnyH_done (by kernel_rfl) ?_ _
                have HO := Lib.hid (own_keep HO.out ((Below.refl wr.heap.size wr).drew.drew))
                have hbel := hbel.drew.drew
                have c0 : wr.drew.drew.cell? ⟨b, off + q, none⟩ = some (.int .i64 c) := c0
                have hglt : ∀ gg, (Value.slice (some ⟨g, 0, none⟩) k cv).ownBlock = some gg → gg < wr.drew.drew.heap.size := fun gg h => (HO.out.lt gg h).2
                clear HSAME HMID HTK x0
                generalize wr.drew.drew = wq at *
                have HRS : Hid (∀ W : World, W.ownsRow w.heap.size 3 1 (.slice (some ⟨g, 0, none⟩) m cv) m (lv.map (Value.int .i64)) → Reads W W.heap.size 1 (some ⟨g, k, none⟩) (m - k) ((lv.drop k).map (Value.int .i64))) := Lib.hid (fun W hW => by
                  have hck : ¬ cv = k := by omega
                  have h := (Reads.of_own hW).cut (cap := cv) hkle (by omega)
                  rw [if_neg hck] at h
                  have e : ((⟨g, 0, none⟩ : Addr).add (k * 1)) = ⟨g, k, none⟩ := by rw [add_plain, Nat.zero_add, Nat.mul_one]
                  simp only [Option.map_some, Nat.mul_one] at h
                  rw [Nat.mul_one] at e
                  rw [e, ← List.map_drop] at h
                  exact h)
                have hck0 : ¬ cv = k := by omega
                have hck1 : (cv = k) = False := eq_false hck0
                have hkc : (k : Int) ≤ (cv : Int) := by omega
                have hkm2 : (k : Int) ≤ (m : Int) := by omega
                have hmc : (m : Int) ≤ (cv : Int) := by omega
                go_wp2_with (first | (at_builtin; go_loud (refine wpList_append_fresh wq rfl (.const (.slice none 0 0)) (.tmp 47) 22 rfl wq.heap.size 3 s0 _ 8 Tryd.underlying22 HS.out HZ.out.1 HZ.out.2.1 HZ.out.2.2 rfl rfl wq.heap.size (some ⟨g, k, none⟩) (m - k) (cv - k) ((lv.drop k).map (Value.int .i64)) (by simp [Act.eval, go_sem]) (HRS.out _ HO.out) (by intro u hu; rw [List.mem_map] at hu; obtain ⟨z, _, rfl⟩ := hu; rfl) (by omega) (by omega) (Nat.le_refl _) ?_); intro v4 w4 hown4 hb4) | fail)
                have hbw4 := hbel.trans (hb4.mono hbel.size)
                have c0 := (hb4.cell (p := ⟨b, off + q, none⟩) (show b < _ by have := hbel.size; omega)).trans c0
                have ho4 := own_keep HO.out hb4
                have hz4 := hb4.size
                have hzw := hbel.size
                obtain ⟨Ar, cr, rfl, hcr⟩ := own_slice hown4
                clear hb4
                try clear hoff
                have hc4 := own_cut ho4 hkle
                go_wp2_with fail
                refine wp_region_held_drew (S := fun W => W.cell? ⟨b, off + q, none⟩ = some (.int .i64 c)) (by kernel_rfl) c0 (fun hHeld => ?_)
                refine takeD (i := 0) (d := some 49) (v := ?_) rfl rfl (by kernel_rfl) (by kernel_rfl) (by kernel_rfl) (fun _ _ _ h => h) (Or.inl ⟨by rfl, ?_⟩) (by assumption) ?_
                rotate_left
                · intro wS hSw; (try dsimp only at hSw); go_simp; (try with_reducible rfl)
                try simp only [Act.put, List.setIfInBounds_toArray, List.set_cons_zero, List.set_cons_succ]
                refine takeD (i := 1) (d := some 50) (v := ?_) rfl rfl (by kernel_rfl) (by kernel_rfl) (by kernel_rfl) (fun _ _ _ h => h) (Or.inl ⟨by rfl, ?_⟩) (by assumption) ?_
                rotate_left
                · intro wS hSw; (try dsimp only at hSw); go_simp; (try with_reducible rfl)
                try simp only [Act.put, List.setIfInBounds_toArray, List.set_cons_zero, List.set_cons_succ]
                refine takeD (i := 2) (d := some 51) (v := ?_) rfl rfl (by kernel_rfl) (by kernel_rfl) (by kernel_rfl) (fun _ _ _ h => h) (Or.inl ⟨by rfl, ?_⟩) (by assumption) ?_
                rotate_left
                · intro wS hSw; (try dsimp only at hSw); go_simp; (try with_reducible rfl)
                try simp only [Act.put, List.setIfInBounds_toArray, List.set_cons_zero, List.set_cons_succ]
                refine takeD (i := 3) (d := some 52) (v := ?_) rfl rfl (by kernel_rfl) (by kernel_rfl) (by kernel_rfl) (fun _ _ _ h => h) (Or.inl ⟨by rfl, ?_⟩) (by assumption) ?_
                rotate_left
                · intro wS hSw; (try dsimp only at hSw); go_simp; (try with_reducible rfl)
                try simp only [Act.put, List.setIfInBounds_toArray, List.set_cons_zero, List.set_cons_succ]
                refine takeD (i := 4) (d := some 53) (v := ?_) rfl rfl (by kernel_rfl) (by kernel_rfl) (by kernel_rfl) (fun _ _ _ h => h) (Or.inl ⟨by rfl, ?_⟩) (by assumption) ?_
                rotate_left
                · intro wS hSw; (try dsimp only at hSw); go_simp; (try with_reducible rfl)
                try simp only [Act.put, List.setIfInBounds_toArray, List.set_cons_zero, List.set_cons_succ]
                refine takeD (i := 5) (d := some 54) (v := ?_) rfl rfl (by kernel_rfl) (by kernel_rfl) (by kernel_rfl) (fun _ _ _ h => h) (Or.inl ⟨by rfl, ?_⟩) (by assumption) ?_
                rotate_left
                · intro wS hSw; (try dsimp only at hSw); go_simp; (try with_reducible rfl)
                try simp only [Act.put, List.setIfInBounds_toArray, List.set_cons_zero, List.set_cons_succ]
                refine takeD (i := 6) (d := some 55) (v := ?_) rfl rfl (by kernel_rfl) (by kernel_rfl) (by kernel_rfl) (fun _ _ _ h => h) (Or.inl ⟨by rfl, ?_⟩) (by assumption) ?_
                rotate_left
                · intro wS hSw; (try dsimp only at hSw); go_simp; (try with_reducible rfl)
                try simp only [Act.put, List.setIfInBounds_toArray, List.set_cons_zero, List.set_cons_succ]
                refine takeD (i := 9) (d := some 58) (v := ?_) rfl rfl (by kernel_rfl) (by kernel_rfl) (by kernel_rfl) (fun _ _ _ h => h) (Or.inl ⟨by rfl, ?_⟩) (by assumption) ?_
                rotate_left
                · intro wS hSw; (try dsimp only at hSw); go_simp; (try with_reducible rfl)
                try simp only [Act.put, List.setIfInBounds_toArray, List.set_cons_zero, List.set_cons_succ]
                have ho5 := own_keep hc4 (Below.refl w4.heap.size w4).drew
                have hr5 := own_keep hown4 (Below.refl w4.heap.size w4).drew
                have c5 : w4.drew.cell? ⟨b, off + q, none⟩ = some (.int .i64 c) := c0
                have hbw5 := hbw4.drew
                have hz5 : w4.heap.size ≤ w4.drew.heap.size := Nat.le_refl _
                generalize w4.drew = W5 at *
                refine wpAnyH_ready (rs := [7]) (by kernel_rfl) (by simp) ?_
                refine consD (d := some 56) rfl rfl (fun K hK => ?_) AllReadyH.nil
                go_simp
                have bx := box_below W5 (.cells #[.int .i64 c] 3)
                have ox : Own (W5.alloc (.cells #[.int .i64 c] 3)) W5.heap.size [.int .i64 c] := own_new W5 [.int .i64 c] 3
                have zx : W5.heap.size < (W5.alloc (.cells #[.int .i64 c] 3)).heap.size := by simp
                have ho6 := own_keep ho5 bx
                have hr6 := own_keep hr5 bx
                have c6 := (bx.cell (p := ⟨b, off + q, none⟩) (show b < _ by omega)).trans c5
                have hbw6 := hbw5.trans (bx.mono (by omega))
                have hz6 := bx.size
                generalize hWW : W5.alloc _ = W6 at *
                clear hWW bx ho5 hr5
                refine hK.out _ _ c6 (fun hHeld => ?_)
                clear hK K
                try simp only [Act.put, List.setIfInBounds_toArray, List.set_cons_zero, List.set_cons_succ]
                refine wpAnyH_ready (rs := [8]) (by kernel_rfl) (by simp) ?_
                refine consD (d := some 57) rfl rfl (fun K hK => ?_) AllReadyH.nil
                refine step_append_any (w := W6) (P := Tryd.prog) rfl (.tmp 51) (.tmp 56) 22 rfl w.heap.size 3 s0 _ 1 8 Tryd.underlying22 HS.out HZ.out.1 HZ.out.2.1 HZ.out.2.2 rfl (by omega) _ k _ rfl ho6 W6.heap.size (some ⟨W5.heap.size, 0, none⟩) 1 1 [.int .i64 c] rfl (reads_box ox zx) (by intro yy hy; simp at hy; subst hy; rfl) (by unfold maxLen; omega) (by omega) (by omega) ?_
                intro v7 W7 ho7 hg7 _
                have hr7 := own_stay hr6 fun gg _ h1 h2 => hg7.block gg h2 (fun he => by have := hglt gg he.symm; omega)
                have b7 : Below w.heap.size W6 W7 := (Below.refl _ _).grown hg7 (by omega) (fun gg hgg => (ho6.lt gg hgg).1)
                have c7 := (b7.cell (p := ⟨b, off + q, none⟩) (show b < _ by omega)).trans c6
                have hbw7 := hbw6.trans b7
                have hz7 := b7.size
                clear b7 ho6 hr6 hg7 ox zx
                refine hK.out _ _ c7 (fun hHeld => ?_)
                clear hK K
                try simp only [Act.put, List.setIfInBounds_toArray, List.set_cons_zero, List.set_cons_succ]
                refine wpAnyH_ready (rs := [10]) (by kernel_rfl) (by simp) ?_
                refine consD (d := some 59) rfl rfl (fun K hK => ?_) AllReadyH.nil
                refine step_append_any (w := W7) (P := Tryd.prog) rfl (.tmp 57) (.tmp 58) 22 rfl w.heap.size 3 s0 _ 1 8 Tryd.underlying22 HS.out HZ.out.1 HZ.out.2.1 HZ.out.2.2 rfl (by omega) v7 (k + 1) _ rfl ho7 W7.heap.size Ar (m - k) cr ((lv.drop k).map (Value.int .i64)) rfl (Reads.of_own hr7) (by intro u hu; rw [List.mem_map] at hu; obtain ⟨z, _, rfl⟩ := hu; rfl) (by unfold maxLen; omega) (by omega) (by omega) ?_
                intro v8 W8 ho8 hg8 _
                have b8 : Below w.heap.size W7 W8 := (Below.refl _ _).grown hg8 (by omega) (fun gg hgg => (ho7.lt gg hgg).1)
                have c8 := (b8.cell (p := ⟨b, off + q, none⟩) (show b < _ by omega)).trans c7
                have hbw8 := hbw7.trans b8
                clear b8
                refine hK.out _ _ c8 (fun hHeld => ?_)
                clear hK K
                try simp only [Act.put, List.setIfInBounds_toArray, List.set_cons_zero, List.set_cons_succ]
                refine takeD (i := 11) (d := some 3) (v := ?_) rfl rfl (by kernel_rfl) (by kernel_rfl) (by kernel_rfl) (fun _ _ _ h => h) (Or.inl ⟨by rfl, ?_⟩) (by assumption) ?_
                rotate_left
                · intro wS hSw; (try dsimp only at hSw); go_simp; (try with_reducible rfl)
                try simp only [Act.put, List.setIfInBounds_toArray, List.set_cons_zero, List.set_cons_succ]
                refine wpAnyH_done (by kernel_rfl) ?_ _
                have HL9 := Lib.hid (show LvAt w W8 row (q + 1) v8 from by
                  refine ⟨insL c lv, by rw [HFT.out, HLV.out], ?_, ?_, hbw8⟩
                  · have e1 : (insL c lv).length = k + 1 + (m - k) := by rw [HINS.out]; simp; have := HMM.out; omega
                    rw [e1, HINS.out]
                    simpa using ho8
                  · intro he
                    rw [HINS.out] at he
                    simp at he)
                go_wp2_with fail
                go_roundg (n - (q + 1))
                case rel => exact ⟨q + 1, v8, by omega, rfl, by go_num, HL9.out⟩
                case measure => omega
          · obtain rfl : m = k := by omega
            have hkm : ((m : Int) < (m : Int)) = False := eq_false (by omega)
            have HINS := Lib.hid (insL_end HLT.out HMM.out.symm)
            go_wp2_with fail
            refine wp_region_held_drew (S := fun W => W.cell? ⟨b, off + q, none⟩ = some (.int .i64 c)) (by kernel_rfl) c0 (fun hHeld => ?_)
            refine takeD (i := 0) (d := some 13) (v := ?_) rfl rfl (by kernel_rfl) (by kernel_rfl) (by kernel_rfl) (fun _ _ _ h => h) (Or.inl ⟨by rfl, ?_⟩) (by assumption) ?_
            rotate_left
            · intro wS hSw; (try dsimp only at hSw); go_simp; (try with_reducible rfl)
            try simp only [Act.put, List.setIfInBounds_toArray, List.set_cons_zero, List.set_cons_succ]
            refine takeD (i := 1) (d := some 14) (v := ?_) rfl rfl (by kernel_rfl) (by kernel_rfl) (by kernel_rfl) (fun _ _ _ h => h) (Or.inl ⟨by rfl, ?_⟩) (by assumption) ?_
            rotate_left
            · intro wS hSw; (try dsimp only at hSw); go_simp; (try with_reducible rfl)
            try simp only [Act.put, List.setIfInBounds_toArray, List.set_cons_zero, List.set_cons_succ]
            refine takeD (i := 2) (d := some 15) (v := ?_) rfl rfl (by kernel_rfl) (by kernel_rfl) (by kernel_rfl) (fun _ _ _ h => h) (Or.inl ⟨by rfl, ?_⟩) (by assumption) ?_
            rotate_left
            · intro wS hSw; (try dsimp only at hSw); go_simp; (try with_reducible rfl)
            try simp only [Act.put, List.setIfInBounds_toArray, List.set_cons_zero, List.set_cons_succ]
            refine takeD (i := 3) (d := some 16) (v := .bool false) rfl rfl (by kernel_rfl) (by kernel_rfl) (by kernel_rfl) (fun _ _ _ h => h) (Or.inl ⟨by rfl, ?_⟩) (by assumption) ?_
            · intro wS hSw; (try dsimp only at hSw); go_simp; (try simp [hkm]); (try with_reducible rfl)
            try simp only [Act.put, List.setIfInBounds_toArray, List.set_cons_zero, List.set_cons_succ]
            refine takeD (i := 4) (d := some 17) (v := ?_) rfl rfl (by kernel_rfl) (by kernel_rfl) (by kernel_rfl) (fun _ _ _ h => h) (Or.inl ⟨by rfl, ?_⟩) (by assumption) ?_
            rotate_left
            · intro wS hSw; (try dsimp only at hSw); go_simp; (try with_reducible rfl)
            try simp only [Act.put, List.setIfInBounds_toArray, List.set_cons_zero, List.set_cons_succ]
            refine takeD (i := 5) (d := some 18) (v := undef) rfl rfl (by kernel_rfl) (by kernel_rfl) (by kernel_rfl) (fun _ _ _ h => h) (Or.inr ⟨by kernel_rfl, rfl⟩) (by assumption) ?_
            try simp only [Act.put, List.setIfInBounds_toArray, List.set_cons_zero, List.set_cons_succ]
            refine takeD (i := 6) (d := some 19) (v := undef) rfl rfl (by kernel_rfl) (by kernel_rfl) (by kernel_rfl) (fun _ _ _ h => h) (Or.inr ⟨by kernel_rfl, rfl⟩) (by assumption) ?_
            try simp only [Act.put, List.setIfInBounds_toArray, List.set_cons_zero, List.set_cons_succ]
            refine takeD (i := 7) (d := some 20) (v := undef) rfl rfl (by kernel_rfl) (by kernel_rfl) (by kernel_rfl) (fun _ _ _ h => h) (Or.inr ⟨by kernel_rfl, rfl⟩) (by assumption) ?_
            try simp only [Act.put, List.setIfInBounds_toArray, List.set_cons_zero, List.set_cons_succ]
            refine takeD (i := 8) (d := some 21) (v := undef) rfl rfl (by kernel_rfl) (by kernel_rfl) (by kernel_rfl) (fun _ _ _ h => h) (Or.inr ⟨by kernel_rfl, rfl⟩) (by assumption) ?_
            try simp only [Act.put, List.setIfInBounds_toArray, List.set_cons_zero, List.set_cons_succ]
            refine takeD (i := 9) (d := some 22) (v := undef) rfl rfl (by kernel_rfl) (by kernel_rfl) (by kernel_rfl) (fun _ _ _ h => h) (Or.inr ⟨by kernel_rfl, rfl⟩) (by assumption) ?_
            try simp only [Act.put, List.setIfInBounds_toArray, List.set_cons_zero, List.set_cons_succ]
            refine takeD (i := 10) (d := some 23) (v := undef) rfl rfl (by kernel_rfl) (by kernel_rfl) (by kernel_rfl) (fun _ _ _ h => h) (Or.inr ⟨by kernel_rfl, rfl⟩) (by assumption) ?_
            try simp only [Act.put, List.setIfInBounds_toArray, List.set_cons_zero, List.set_cons_succ]
            refine takeD (i := 11) (d := some 24) (v := undef) rfl rfl (by kernel_rfl) (by kernel_rfl) (by kernel_rfl) (fun _ _ _ h => h) (Or.inr ⟨by kernel_rfl, rfl⟩) (by assumption) ?_
            try simp only [Act.put, List.setIfInBounds_toArray, List.set_cons_zero, List.set_cons_succ]
            refine takeD (i := 12) (d := some 25) (v := undef) rfl rfl (by kernel_rfl) (by kernel_rfl) (by kernel_rfl) (fun _ _ _ h => h) (Or.inr ⟨by kernel_rfl, rfl⟩) (by assumption) ?_
            try simp only [Act.put, List.setIfInBounds_toArray, List.set_cons_zero, List.set_cons_succ]
            refine takeD (i := 13) (d := some 26) (v := undef) rfl rfl (by kernel_rfl) (by kernel_rfl) (by kernel_rfl) (fun _ _ _ h => h) (Or.inr ⟨by kernel_rfl, rfl⟩) (by assumption) ?_
            try simp only [Act.put, List.setIfInBounds_toArray, List.set_cons_zero, List.set_cons_succ]
            refine takeD (i := 14) (d := some 27) (v := ?_) rfl rfl (by kernel_rfl) (by kernel_rfl) (by kernel_rfl) (fun _ _ _ h => h) (Or.inl ⟨by rfl, ?_⟩) (by assumption) ?_
            rotate_left
            · intro wS hSw; (try dsimp only at hSw); go_simp; (try with_reducible rfl)
            try simp only [Act.put, List.setIfInBounds_toArray, List.set_cons_zero, List.set_cons_succ]
            refine wpAnyH_done (by kernel_rfl) ?_ _
            go_wp2_with fail
            refine wp_region_held_drew (S := fun W => W.cell? ⟨b, off + q, none⟩ = some (.int .i64 c)) (by kernel_rfl) c0 (fun hHeld => ?_)
            refine takeD (i := 0) (d := some 30) (v := ?_) rfl rfl (by kernel_rfl) (by kernel_rfl) (by kernel_rfl) (fun _ _ _ h => h) (Or.inl ⟨by rfl, ?_⟩) (by assumption) ?_
            rotate_left
            · intro wS hSw; (try dsimp only at hSw); go_simp; (try with_reducible rfl)
            try simp only [Act.put, List.setIfInBounds_toArray, List.set_cons_zero, List.set_cons_succ]
            refine takeD (i := 1) (d := some 31) (v := ?_) rfl rfl (by kernel_rfl) (by kernel_rfl) (by kernel_rfl) (fun _ _ _ h => h) (Or.inl ⟨by rfl, ?_⟩) (by assumption) ?_
            rotate_left
            · intro wS hSw; (try dsimp only at hSw); go_simp; (try with_reducible rfl)
            try simp only [Act.put, List.setIfInBounds_toArray, List.set_cons_zero, List.set_cons_succ]
            refine takeD (i := 2) (d := some 32) (v := ?_) rfl rfl (by kernel_rfl) (by kernel_rfl) (by kernel_rfl) (fun _ _ _ h => h) (Or.inl ⟨by rfl, ?_⟩) (by assumption) ?_
            rotate_left
            · intro wS hSw; (try dsimp only at hSw); go_simp; (try with_reducible rfl)
            try simp only [Act.put, List.setIfInBounds_toArray, List.set_cons_zero, List.set_cons_succ]
            refine takeD (i := 3) (d := some 33) (v := .bool false) rfl rfl (by kernel_rfl) (by kernel_rfl) (by kernel_rfl) (fun _ _ _ h => h) (Or.inl ⟨by rfl, ?_⟩) (by assumption) ?_
            · intro wS hSw; (try dsimp only at hSw); go_simp; (try simp [hkm]); (try with_reducible rfl)
            try simp only [Act.put, List.setIfInBounds_toArray, List.set_cons_zero, List.set_cons_succ]
            refine takeD (i := 4) (d := some 34) (v := ?_) rfl rfl (by kernel_rfl) (by kernel_rfl) (by kernel_rfl) (fun _ _ _ h => h) (Or.inl ⟨by rfl, ?_⟩) (by assumption) ?_
            rotate_left
            · intro wS hSw; (try dsimp only at hSw); go_simp; (try with_reducible rfl)
            try simp only [Act.put, List.setIfInBounds_toArray, List.set_cons_zero, List.set_cons_succ]
            refine takeD (i := 5) (d := some 35) (v := undef) rfl rfl (by kernel_rfl) (by kernel_rfl) (by kernel_rfl) (fun _ _ _ h => h) (Or.inr ⟨by kernel_rfl, rfl⟩) (by assumption) ?_
            try simp only [Act.put, List.setIfInBounds_toArray, List.set_cons_zero, List.set_cons_succ]
            refine takeD (i := 6) (d := some 36) (v := undef) rfl rfl (by kernel_rfl) (by kernel_rfl) (by kernel_rfl) (fun _ _ _ h => h) (Or.inr ⟨by kernel_rfl, rfl⟩) (by assumption) ?_
            try simp only [Act.put, List.setIfInBounds_toArray, List.set_cons_zero, List.set_cons_succ]
            refine takeD (i := 7) (d := some 37) (v := undef) rfl rfl (by kernel_rfl) (by kernel_rfl) (by kernel_rfl) (fun _ _ _ h => h) (Or.inr ⟨by kernel_rfl, rfl⟩) (by assumption) ?_
            try simp only [Act.put, List.setIfInBounds_toArray, List.set_cons_zero, List.set_cons_succ]
            refine takeD (i := 8) (d := some 38) (v := undef) rfl rfl (by kernel_rfl) (by kernel_rfl) (by kernel_rfl) (fun _ _ _ h => h) (Or.inr ⟨by kernel_rfl, rfl⟩) (by assumption) ?_
            try simp only [Act.put, List.setIfInBounds_toArray, List.set_cons_zero, List.set_cons_succ]
            refine takeD (i := 9) (d := some 39) (v := undef) rfl rfl (by kernel_rfl) (by kernel_rfl) (by kernel_rfl) (fun _ _ _ h => h) (Or.inr ⟨by kernel_rfl, rfl⟩) (by assumption) ?_
            try simp only [Act.put, List.setIfInBounds_toArray, List.set_cons_zero, List.set_cons_succ]
            refine takeD (i := 10) (d := some 40) (v := undef) rfl rfl (by kernel_rfl) (by kernel_rfl) (by kernel_rfl) (fun _ _ _ h => h) (Or.inr ⟨by kernel_rfl, rfl⟩) (by assumption) ?_
            try simp only [Act.put, List.setIfInBounds_toArray, List.set_cons_zero, List.set_cons_succ]
            refine takeD (i := 11) (d := some 41) (v := undef) rfl rfl (by kernel_rfl) (by kernel_rfl) (by kernel_rfl) (fun _ _ _ h => h) (Or.inr ⟨by kernel_rfl, rfl⟩) (by assumption) ?_
            try simp only [Act.put, List.setIfInBounds_toArray, List.set_cons_zero, List.set_cons_succ]
            refine takeD (i := 12) (d := some 42) (v := undef) rfl rfl (by kernel_rfl) (by kernel_rfl) (by kernel_rfl) (fun _ _ _ h => h) (Or.inr ⟨by kernel_rfl, rfl⟩) (by assumption) ?_
            try simp only [Act.put, List.setIfInBounds_toArray, List.set_cons_zero, List.set_cons_succ]
            refine takeD (i := 13) (d := some 43) (v := undef) rfl rfl (by kernel_rfl) (by kernel_rfl) (by kernel_rfl) (fun _ _ _ h => h) (Or.inr ⟨by kernel_rfl, rfl⟩) (by assumption) ?_
            try simp only [Act.put, List.setIfInBounds_toArray, List.set_cons_zero, List.set_cons_succ]
            refine takeD (i := 14) (d := some 44) (v := ?_) rfl rfl (by kernel_rfl) (by kernel_rfl) (by kernel_rfl) (fun _ _ _ h => h) (Or.inl ⟨by rfl, ?_⟩) (by assumption) ?_
            rotate_left
            · intro wS hSw; (try dsimp only at hSw); go_simp; (try with_reducible rfl)
            try simp only [Act.put, List.setIfInBounds_toArray, List.set_cons_zero, List.set_cons_succ]
            refine wpAnyH_done (by kernel_rfl) ?_ _
            have HO := Lib.hid (own_keep HO.out ((Below.refl wr.heap.size wr).drew.drew))
            have hbel := hbel.drew.drew
            have c0 : wr.drew.drew.cell? ⟨b, off + q, none⟩ = some (.int .i64 c) := c0
            have hglt : ∀ gg, (Value.slice (some ⟨g, 0, none⟩) m cv).ownBlock = some gg → gg < wr.drew.drew.heap.size := fun gg h => (HO.out.lt gg h).2
            generalize wr.drew.drew = wq at *
            have hoffE : ∃ o2 : Nat, (if cv = m then some (⟨g, 0, none⟩ : Addr) else some ⟨g, m, none⟩) = some ⟨g, o2, none⟩ ∧ ∀ W : World, W.ownsRow w.heap.size 3 1 (.slice (some ⟨g, 0, none⟩) m cv) m (lv.map (Value.int .i64)) → Reads W W.heap.size 1 (some ⟨g, o2, none⟩) (m - m) ((lv.drop m).map (Value.int .i64)) := by
              by_cases hck : cv = m
              · refine ⟨0, if_pos hck, fun W hW => ⟨by have h := hW.1; simp at h; simp; omega, fun h0 => absurd h0 (by omega)⟩⟩
              · refine ⟨m, if_neg hck, fun W hW => ?_⟩
                have h := (Reads.of_own hW).cut (cap := cv) hkle (by omega)
                rw [if_neg hck] at h
                have e : ((⟨g, 0, none⟩ : Addr).add (m * 1)) = ⟨g, m, none⟩ := by rw [add_plain, Nat.zero_add, Nat.mul_one]
                simp only [Option.map_some, Nat.mul_one] at h
                rw [Nat.mul_one] at e
                rw [e, ← List.map_drop] at h
                exact h
            obtain ⟨o2, hoff, hrs⟩ := hoffE
            have HRS := Lib.hid hrs
            clear hrs
            have hkc : (m : Int) ≤ (cv : Int) := by omega
            have hkm2 : (m : Int) ≤ (m : Int) := by omega
            have hmc : (m : Int) ≤ (cv : Int) := by omega
            go_wp2_with (first | (at_builtin; go_loud (refine wpList_append_fresh wq rfl (.const (.slice none 0 0)) (.tmp 47) 22 rfl wq.heap.size 3 s0 _ 8 Tryd.underlying22 HS.out HZ.out.1 HZ.out.2.1 HZ.out.2.2 rfl rfl wq.heap.size (some ⟨g, o2, none⟩) (m - m) (cv - m) ((lv.drop m).map (Value.int .i64)) (by simp [Act.eval, go_sem]) (HRS.out _ HO.out) (by intro u hu; rw [List.mem_map] at hu; obtain ⟨z, _, rfl⟩ := hu; rfl) (by omega) (by omega) (Nat.le_refl _) ?_); intro v4 w4 hown4 hb4) | fail)
            rw [Nat.sub_self] at hown4
            have hbw4 := hbel.trans (hb4.mono hbel.size)
            have c0 := (hb4.cell (p := ⟨b, off + q, none⟩) (show b < _ by have := hbel.size; omega)).trans c0
            have ho4 := own_keep HO.out hb4
            have hz4 := hb4.size
            have hzw := hbel.size
            obtain ⟨Ar, cr, rfl, hcr⟩ := own_slice hown4
            clear hb4
            try clear hoff
            have hc4 := own_cut ho4 hkle
            go_wp2_with fail
            refine wp_region_held_drew (S := fun W => W.cell? ⟨b, off + q, none⟩ = some (.int .i64 c)) (by kernel_rfl) c0 (fun hHeld => ?_)
            refine takeD (i := 0) (d := some 49) (v := ?_) rfl rfl (by kernel_rfl) (by kernel_rfl) (by kernel_rfl) (fun _ _ _ h => h) (Or.inl ⟨by rfl, ?_⟩) (by assumption) ?_
            rotate_left
            · intro wS hSw; (try dsimp only at hSw); go_simp; (try with_reducible rfl)
            try simp only [Act.put, List.setIfInBounds_toArray, List.set_cons_zero, List.set_cons_succ]
            refine takeD (i := 1) (d := some 50) (v := ?_) rfl rfl (by kernel_rfl) (by kernel_rfl) (by kernel_rfl) (fun _ _ _ h => h) (Or.inl ⟨by rfl, ?_⟩) (by assumption) ?_
            rotate_left
            · intro wS hSw; (try dsimp only at hSw); go_simp; (try with_reducible rfl)
            try simp only [Act.put, List.setIfInBounds_toArray, List.set_cons_zero, List.set_cons_succ]
            refine takeD (i := 2) (d := some 51) (v := ?_) rfl rfl (by kernel_rfl) (by kernel_rfl) (by kernel_rfl) (fun _ _ _ h => h) (Or.inl ⟨by rfl, ?_⟩) (by assumption) ?_
            rotate_left
            · intro wS hSw; (try dsimp only at hSw); go_simp; (try with_reducible rfl)
            try simp only [Act.put, List.setIfInBounds_toArray, List.set_cons_zero, List.set_cons_succ]
            refine takeD (i := 3) (d := some 52) (v := ?_) rfl rfl (by kernel_rfl) (by kernel_rfl) (by kernel_rfl) (fun _ _ _ h => h) (Or.inl ⟨by rfl, ?_⟩) (by assumption) ?_
            rotate_left
            · intro wS hSw; (try dsimp only at hSw); go_simp; (try with_reducible rfl)
            try simp only [Act.put, List.setIfInBounds_toArray, List.set_cons_zero, List.set_cons_succ]
            refine takeD (i := 4) (d := some 53) (v := ?_) rfl rfl (by kernel_rfl) (by kernel_rfl) (by kernel_rfl) (fun _ _ _ h => h) (Or.inl ⟨by rfl, ?_⟩) (by assumption) ?_
            rotate_left
            · intro wS hSw; (try dsimp only at hSw); go_simp; (try with_reducible rfl)
            try simp only [Act.put, List.setIfInBounds_toArray, List.set_cons_zero, List.set_cons_succ]
            refine takeD (i := 5) (d := some 54) (v := ?_) rfl rfl (by kernel_rfl) (by kernel_rfl) (by kernel_rfl) (fun _ _ _ h => h) (Or.inl ⟨by rfl, ?_⟩) (by assumption) ?_
            rotate_left
            · intro wS hSw; (try dsimp only at hSw); go_simp; (try with_reducible rfl)
            try simp only [Act.put, List.setIfInBounds_toArray, List.set_cons_zero, List.set_cons_succ]
            refine takeD (i := 6) (d := some 55) (v := ?_) rfl rfl (by kernel_rfl) (by kernel_rfl) (by kernel_rfl) (fun _ _ _ h => h) (Or.inl ⟨by rfl, ?_⟩) (by assumption) ?_
            rotate_left
            · intro wS hSw; (try dsimp only at hSw); go_simp; (try with_reducible rfl)
            try simp only [Act.put, List.setIfInBounds_toArray, List.set_cons_zero, List.set_cons_succ]
            refine takeD (i := 9) (d := some 58) (v := ?_) rfl rfl (by kernel_rfl) (by kernel_rfl) (by kernel_rfl) (fun _ _ _ h => h) (Or.inl ⟨by rfl, ?_⟩) (by assumption) ?_
            rotate_left
            · intro wS hSw; (try dsimp only at hSw); go_simp; (try with_reducible rfl)
            try simp only [Act.put, List.setIfInBounds_toArray, List.set_cons_zero, List.set_cons_succ]
            have ho5 := own_keep hc4 (Below.refl w4.heap.size w4).drew
            have hr5 := own_keep hown4 (Below.refl w4.heap.size w4).drew
            have c5 : w4.drew.cell? ⟨b, off + q, none⟩ = some (.int .i64 c) := c0
            have hbw5 := hbw4.drew
            have hz5 : w4.heap.size ≤ w4.drew.heap.size := Nat.le_refl _
            generalize w4.drew = W5 at *
            refine wpAnyH_ready (rs := [7]) (by kernel_rfl) (by simp) ?_
            refine consD (d := some 56) rfl rfl (fun K hK => ?_) AllReadyH.nil
            go_simp
            have bx := box_below W5 (.cells #[.int .i64 c] 3)
            have ox : Own (W5.alloc (.cells #[.int .i64 c] 3)) W5.heap.size [.int .i64 c] := own_new W5 [.int .i64 c] 3
            have zx : W5.heap.size < (W5.alloc (.cells #[.int .i64 c] 3)).heap.size := by simp
            have ho6 := own_keep ho5 bx
            have hr6 := own_keep hr5 bx
            have c6 := (bx.cell (p := ⟨b, off + q, none⟩) (show b < _ by omega)).trans c5
            have hbw6 := hbw5.trans (bx.mono (by omega))
            have hz6 := bx.size
            generalize hWW : W5.alloc _ = W6 at *
            clear hWW bx ho5 hr5
            refine hK.out _ _ c6 (fun hHeld => ?_)
            clear hK K
            try simp only [Act.put, List.setIfInBounds_toArray, List.set_cons_zero, List.set_cons_succ]
            refine wpAnyH_ready (rs := [8]) (by kernel_rfl) (by simp) ?_
            refine consD (d := some 57) rfl rfl (fun K hK => ?_) AllReadyH.nil
            refine step_append_any (w := W6) (P := Tryd.prog) rfl (.tmp 51) (.tmp 56) 22 rfl w.heap.size 3 s0 _ 1 8 Tryd.underlying22 HS.out HZ.out.1 HZ.out.2.1 HZ.out.2.2 rfl (by omega) _ m _ rfl ho6 W6.heap.size (some ⟨W5.heap.size, 0, none⟩) 1 1 [.int .i64 c] rfl (reads_box ox zx) (by intro yy hy; simp at hy; subst hy; rfl) (by unfold maxLen; omega) (by omega) (by omega) ?_
            intro v7 W7 ho7 hg7 _
            have hr7 := own_stay hr6 fun gg _ h1 h2 => hg7.block gg h2 (fun he => by have := hglt gg he.symm; omega)
            have b7 : Below w.heap.size W6 W7 := (Below.refl _ _).grown hg7 (by omega) (fun gg hgg => (ho6.lt gg hgg).1)
            have c7 := (b7.cell (p := ⟨b, off + q, none⟩) (show b < _ by omega)).trans c6
            have hbw7 := hbw6.trans b7
            have hz7 := b7.size
            clear b7 ho6 hr6 hg7 ox zx
            refine hK.out _ _ c7 (fun hHeld => ?_)
            clear hK K
            try simp only [Act.put, List.setIfInBounds_toArray, List.set_cons_zero, List.set_cons_succ]
            refine wpAnyH_ready (rs := [10]) (by kernel_rfl) (by simp) ?_
            refine consD (d := some 59) rfl rfl (fun K hK => ?_) AllReadyH.nil
            refine step_append_any (w := W7) (P := Tryd.prog) rfl (.tmp 57) (.tmp 58) 22 rfl w.heap.size 3 s0 _ 1 8 Tryd.underlying22 HS.out HZ.out.1 HZ.out.2.1 HZ.out.2.2 rfl (by omega) v7 (m + 1) _ rfl ho7 W7.heap.size Ar 0 cr ((lv.drop m).map (Value.int .i64)) rfl (Reads.of_own hr7) (by intro u hu; rw [List.mem_map] at hu; obtain ⟨z, _, rfl⟩ := hu; rfl) (by unfold maxLen; omega) (by omega) (by omega) ?_
            intro v8 W8 ho8 hg8 _
            have b8 : Below w.heap.size W7 W8 := (Below.refl _ _).grown hg8 (by omega) (fun gg hgg => (ho7.lt gg hgg).1)
            have c8 := (b8.cell (p := ⟨b, off + q, none⟩) (show b < _ by omega)).trans c7
            have hbw8 := hbw7.trans b8
            clear b8
            refine hK.out _ _ c8 (fun hHeld => ?_)
            clear hK K
            try simp only [Act.put, List.setIfInBounds_toArray, List.set_cons_zero, List.set_cons_succ]
            refine takeD (i := 11) (d := some 3) (v := ?_) rfl rfl (by kernel_rfl) (by kernel_rfl) (by kernel_rfl) (fun _ _ _ h => h) (Or.inl ⟨by rfl, ?_⟩) (by assumption) ?_
            rotate_left
            · intro wS hSw; (try dsimp only at hSw); go_simp; (try with_reducible rfl)
            try simp only [Act.put, List.setIfInBounds_toArray, List.set_cons_zero, List.set_cons_succ]
            refine wpAnyH_done (by kernel_rfl) ?_ _
            have HL9 := Lib.hid (show LvAt w W8 row (q + 1) v8 from by
              refine ⟨insL c lv, by rw [HFT.out, HLV.out], ?_, ?_, hbw8⟩
              · have e1 : (insL c lv).length = m + 1 + 0 := by rw [HINS.out]; simp; have := HMM.out; omega
                rw [e1, HINS.out]
                simpa using ho8
              · intro he
                rw [HINS.out] at he
                simp at he)
            go_wp2_with fail
            go_roundg (n - (q + 1))
            case rel => exact ⟨q + 1, v8, by omega, rfl, by go_num, HL9.out⟩
            case measure => omega
    · obtain rfl : q = n := by omega
      obtain rfl : LR = lv := by rw [HLR.out, hlv]
      have hpos : 0 < LR.length := by
        rw [hlv]
        have h1 := lvK_succ (row := row) (q := q - 1) (c := row[q - 1]'(by rw [HN.out]; omega)) (List.getElem?_eq_getElem _)
        rw [show q - 1 + 1 = q by omega] at h1
        rw [h1]
        generalize lvK row (q - 1) = z
        cases z with
        | nil => simp [insL]
        | cons a z => rw [insL]; split <;> (try split) <;> simp
      obtain ⟨Av, cv, rfl, hcv⟩ := own_slice hown
      have HO0 := Lib.hid hown
      have hpn : ((LR.length : Int) = 0) = False := eq_false (by omega)
      clear hown hlv hnil HLR
      generalize hmm : LR.length = m at *
      go_wp2_with fail
      go_returns
      exact ⟨⟨_, rfl, by rw [hmm]; exact HO0.out⟩, hbel⟩
end Go.Proofs.YtmfdpdnokiidlaaDoor
