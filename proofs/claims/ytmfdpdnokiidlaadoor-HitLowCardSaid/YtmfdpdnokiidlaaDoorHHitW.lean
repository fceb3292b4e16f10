/-
  Chapter 36: the walks of slices.ContainsFunc over ways and of hit.hits. Conditions: the ways' rows lie within the limit; at most 1000 ways.
-/
import Derived.Test.YtmfdpdnokiidlaaDoorHAll
namespace Go.Proofs.YtmfdpdnokiidlaaDoor
open Go.ChangeShapes Go.WideShapes Go.ChangeAt Go.RowKit
set_option linter.unusedVariables false
set_option linter.unusedSimpArgs false

theorem any_tkW {p : Way → Bool} {l : List Way} {k : Nat} {x : Way} (h : (l.take k).any p = false) (hx : l[k]? = some x) (hp : p x = false) : (l.take (k + 1)).any p = false := by
  obtain ⟨hlt, rfl⟩ := List.getElem?_eq_some_iff.1 hx
  rw [List.take_succ_eq_append_getElem hlt, List.any_append, h]
  simp [hp]
set_option maxRecDepth 8192 in
set_option maxHeartbeats 4000000 in
theorem indexwH (A : Option Addr) (cap B b1 : Nat) (l : List Way) (pr : Way → Bool) (w : World) (h : RdW w B A l) (hB : B ≤ w.heap.size) (hl : l.length ≤ 1000)
    (hcl : ∀ x ∈ l, ∀ W : World, Below w.heap.size w W → Calls Tryd.prog 43 #[.agg #[.int .i64 (x.1 : Nat), .int .i64 x.2], .pointer (some ⟨b1, 0, none⟩)] W fun e w' => e = .returned (.bool (pr x)) ∧ Below W.heap.size W w') :
    Calls Tryd.prog 51 #[.slice A l.length cap, .func (.func 43) #[] #[.pointer (some ⟨b1, 0, none⟩)]] w fun e w' => ∃ r : Int, e = .returned (.int .i64 r) ∧ decide (0 ≤ r) = l.any pr ∧ Below w.heap.size w w' := by
  have H := Lib.hid h
  have HC := Lib.hid hcl
  clear h hcl
  generalize hn : l.length = n at *
  have HN := Lib.hid hn
  clear hn
  go_enter Tryd.func51, Tryd.ntmps51
  go_wp2
  go_loopw [5, 8] (fun _ i wr => ∃ k : Nat, k ≤ n ∧ i = .int .i64 k ∧ Hid ((l.take k).any pr = false) ∧ Below w.heap.size w wr) (fun _ i _ => n - (intOf i).toNat)
  case atStart => exact ⟨0, by omega, rfl, Lib.hid rfl, Below.refl _ _⟩
  case round =>
    obtain ⟨k, hk, rfl, HS, hbel⟩ := hrel
    by_cases hlt : k < n
    · have i1 : (k : Int) < (n : Int) := by omega
      have hlc : k < l.length := by rw [HN.out]; exact hlt
      have hx : l[k]? = some l[k] := List.getElem?_eq_getElem hlc
      have hmem := List.getElem_mem hlc
      generalize l[k] = x at *
      obtain ⟨b, rfl, hb, hc⟩ := rdW_below H.out (hbel.mono hB) (by omega)
      obtain ⟨k0, k1⟩ := hc k x hx
      have hcx := HC.out x hmem wr hbel
      have HT := Lib.hid (fun (hp : pr x = false) => any_tkW HS.out hx hp)
      have HY := Lib.hid (fun (hp : pr x = true) => (List.any_eq_true.2 ⟨x, hmem, hp⟩ : l.any pr = true))
      clear hc hx hmem hlc
      cases hp : pr x
      · have HF := Lib.hid (HT.out hp)
        rw [hp] at hcx
        clear hp HT HY
        go_wp2_with fail
        refine hcx.mono ?_
        rintro e w1 ⟨rfl, hb1⟩
        go_wp2_with fail
        go_roundw
        case rel => exact ⟨k + 1, by omega, by go_num, HF, hbel.trans (hb1.mono hbel.size)⟩
        case measure => simp [intOf]; omega
      · have HF := Lib.hid (HY.out hp)
        rw [hp] at hcx
        clear hp HT HY
        go_wp2_with fail
        refine hcx.mono ?_
        rintro e w1 ⟨rfl, hb1⟩
        go_wp2_with fail
        go_ret
        exact ⟨k, rfl, by rw [HF.out]; simp, hbel.trans (hb1.mono hbel.size)⟩
    · obtain rfl : k = n := by omega
      have HE : Hid (l.any pr = false) := by
        have := HS.out
        rwa [List.take_of_length_le (by rw [HN.out]; exact Nat.le_refl _)] at this
      go_wp2_with fail
      go_ret
      exact ⟨-1, rfl, by rw [HE.out]; rfl, hbel⟩
set_option maxHeartbeats 1000000 in
theorem containswH (A : Option Addr) (cap B b1 : Nat) (l : List Way) (pr : Way → Bool) (w : World) (h : RdW w B A l) (hB : B ≤ w.heap.size) (hl : l.length ≤ 1000)
    (hcl : ∀ x ∈ l, ∀ W : World, Below w.heap.size w W → Calls Tryd.prog 43 #[.agg #[.int .i64 (x.1 : Nat), .int .i64 x.2], .pointer (some ⟨b1, 0, none⟩)] W fun e w' => e = .returned (.bool (pr x)) ∧ Below W.heap.size W w') :
    Calls Tryd.prog 41 #[.slice A l.length cap, .func (.func 43) #[] #[.pointer (some ⟨b1, 0, none⟩)]] w fun e w' => e = .returned (.bool (l.any pr)) ∧ Below w.heap.size w w' := by
  have ci := indexwH A cap B b1 l pr w h hB hl hcl
  clear h hcl
  generalize l.any pr = R at *
  generalize l.length = n at *
  go_enter Tryd.func41, Tryd.ntmps41
  go_wp2_with fail
  refine ci.mono ?_
  rintro e w1 ⟨r, rfl, hr, hb1⟩
  have HR := Lib.hid hr
  clear hr
  go_wp2_with fail
  go_ret
  exact ⟨ret_boolH HR.out, hb1⟩
set_option maxRecDepth 8192 in
set_option maxHeartbeats 4000000 in
theorem indexwM (A : Option Addr) (cap B b1 : Nat) (l : List Way) (pr : Way → Bool) (w : World) (h : RdW w B A l) (hB : B ≤ w.heap.size) (hl : l.length ≤ 1000)
    (hcl : ∀ x ∈ l, ∀ W : World, Below w.heap.size w W → Calls Tryd.prog 42 #[.agg #[.int .i64 (x.1 : Nat), .int .i64 x.2], .pointer (some ⟨b1, 0, none⟩)] W fun e w' => e = .returned (.bool (pr x)) ∧ Below W.heap.size W w') :
    Calls Tryd.prog 51 #[.slice A l.length cap, .func (.func 42) #[] #[.pointer (some ⟨b1, 0, none⟩)]] w fun e w' => ∃ r : Int, e = .returned (.int .i64 r) ∧ decide (0 ≤ r) = l.any pr ∧ Below w.heap.size w w' := by
  have H := Lib.hid h
  have HC := Lib.hid hcl
  clear h hcl
  generalize hn : l.length = n at *
  have HN := Lib.hid hn
  clear hn
  go_enter Tryd.func51, Tryd.ntmps51
  go_wp2
  go_loopw [5, 8] (fun _ i wr => ∃ k : Nat, k ≤ n ∧ i = .int .i64 k ∧ Hid ((l.take k).any pr = false) ∧ Below w.heap.size w wr) (fun _ i _ => n - (intOf i).toNat)
  case atStart => exact ⟨0, by omega, rfl, Lib.hid rfl, Below.refl _ _⟩
  case round =>
    obtain ⟨k, hk, rfl, HS, hbel⟩ := hrel
    by_cases hlt : k < n
    · have i1 : (k : Int) < (n : Int) := by omega
      have hlc : k < l.length := by rw [HN.out]; exact hlt
      have hx : l[k]? = some l[k] := List.getElem?_eq_getElem hlc
      have hmem := List.getElem_mem hlc
      generalize l[k] = x at *
      obtain ⟨b, rfl, hb, hc⟩ := rdW_below H.out (hbel.mono hB) (by omega)
      obtain ⟨k0, k1⟩ := hc k x hx
      have hcx := HC.out x hmem wr hbel
      have HT := Lib.hid (fun (hp : pr x = false) => any_tkW HS.out hx hp)
      have HY := Lib.hid (fun (hp : pr x = true) => (List.any_eq_true.2 ⟨x, hmem, hp⟩ : l.any pr = true))
      clear hc hx hmem hlc
      cases hp : pr x
      · have HF := Lib.hid (HT.out hp)
        rw [hp] at hcx
        clear hp HT HY
        go_wp2_with fail
        refine hcx.mono ?_
        rintro e w1 ⟨rfl, hb1⟩
        go_wp2_with fail
        go_roundw
        case rel => exact ⟨k + 1, by omega, by go_num, HF, hbel.trans (hb1.mono hbel.size)⟩
        case measure => simp [intOf]; omega
      · have HF := Lib.hid (HY.out hp)
        rw [hp] at hcx
        clear hp HT HY
        go_wp2_with fail
        refine hcx.mono ?_
        rintro e w1 ⟨rfl, hb1⟩
        go_wp2_with fail
        go_ret
        exact ⟨k, rfl, by rw [HF.out]; simp, hbel.trans (hb1.mono hbel.size)⟩
    · obtain rfl : k = n := by omega
      have HE : Hid (l.any pr = false) := by
        have := HS.out
        rwa [List.take_of_length_le (by rw [HN.out]; exact Nat.le_refl _)] at this
      go_wp2_with fail
      go_ret
      exact ⟨-1, rfl, by rw [HE.out]; rfl, hbel⟩
set_option maxHeartbeats 1000000 in
theorem containswM (A : Option Addr) (cap B b1 : Nat) (l : List Way) (pr : Way → Bool) (w : World) (h : RdW w B A l) (hB : B ≤ w.heap.size) (hl : l.length ≤ 1000)
    (hcl : ∀ x ∈ l, ∀ W : World, Below w.heap.size w W → Calls Tryd.prog 42 #[.agg #[.int .i64 (x.1 : Nat), .int .i64 x.2], .pointer (some ⟨b1, 0, none⟩)] W fun e w' => e = .returned (.bool (pr x)) ∧ Below W.heap.size W w') :
    Calls Tryd.prog 41 #[.slice A l.length cap, .func (.func 42) #[] #[.pointer (some ⟨b1, 0, none⟩)]] w fun e w' => e = .returned (.bool (l.any pr)) ∧ Below w.heap.size w w' := by
  have ci := indexwM A cap B b1 l pr w h hB hl hcl
  clear h hcl
  generalize l.any pr = R at *
  generalize l.length = n at *
  go_enter Tryd.func41, Tryd.ntmps41
  go_wp2_with fail
  refine ci.mono ?_
  rintro e w1 ⟨r, rfl, hr, hb1⟩
  have HR := Lib.hid hr
  clear hr
  go_wp2_with fail
  go_ret
  exact ⟨ret_boolH HR.out, hb1⟩
set_option maxRecDepth 8192 in
set_option maxHeartbeats 2000000 in
theorem hitsc_any (A' : Option Addr) (c' B bl : Nat) (lim : List Int) (x : Way) (w : World) (h' : RdI w B A' lim) (hB : B ≤ w.heap.size) (hx : x.1 < lim.length) (hlim : lim.length ≤ 1000000)
    (hli : w.cell? ⟨bl, 0, none⟩ = some (.slice A' lim.length c')) (hbl : bl < w.heap.size) :
    Calls Tryd.prog 43 #[.agg #[.int .i64 (x.1 : Nat), .int .i64 x.2], .pointer (some ⟨bl, 0, none⟩)] w fun e w' => e = .returned (.bool (hitW lim x)) ∧ Below w.heap.size w w' := by
  obtain ⟨b, off, rfl, hb, hc⟩ := rdI_at h' hx
  have hbx := box_below w (.cells #[.int .i64 (x.1 : Nat), .int .i64 x.2] 61)
  have hc1 := (hbx.cell (p := ⟨b, off + x.1, none⟩) (show b < w.heap.size by omega)).trans hc
  have hl1 := (hbx.cell (p := ⟨bl, 0, none⟩) hbl).trans hli
  have HE := Lib.hid (show hitW lim x = decide (x.2 ≤ lim.getD x.1 0) from rfl)
  have i1 : (x.1 : Int) < (lim.length : Int) := by omega
  generalize hitW lim x = R at *
  clear h' hc hli
  generalize lim.getD x.1 0 = lv at *
  generalize lim.length = n at *
  obtain ⟨u, q⟩ := x
  dsimp only at *
  go_enter Tryd.func43, Tryd.ntmps43
  go_wp2_with fail
  go_region
  all_goals
    go_wp2_with fail
    go_ret
    exact ⟨ret_boolH HE.out.symm, hbx.drew⟩
set_option maxHeartbeats 1000000 in
theorem hitsl_any (A' A2 : Option Addr) (c' c2 B : Nat) (lim : List Int) (l : List Way) (w : World) (h' : RdI w B A' lim) (h2 : RdW w B A2 l) (hB : B ≤ w.heap.size) (hx : ∀ x ∈ l, x.1 < lim.length) (hlim : lim.length ≤ 1000000) (hl : l.length ≤ 1000) :
    Calls Tryd.prog 29 #[.slice A' lim.length c', .slice A2 l.length c2] w fun e w' => e = .returned (.bool (hitC lim l)) ∧ Below w.heap.size w w' := by
  have hL := loc_new (loc_start w) w.heap.size [.slice A' lim.length c'] 22
  have cc := fun (W : World) (hW : Loc w W [(w.heap.size, [.slice A' lim.length c'])]) => containswH A2 c2 B w.heap.size l (hitW lim) W (rdW_below h2 (hW.1.mono hB)) (Nat.le_trans hB hW.1.size) hl
    (fun x hxm W2 hb => by
      have hW2 := loc_call hW hb
      exact hitsc_any A' c' B w.heap.size lim x W2 (rdI_below h' (hW2.1.mono hB)) (Nat.le_trans hB hW2.1.size) (hx x hxm) hlim ((loc_own hW2 0 rfl).1 0 _ rfl) (loc_lt hW2 0 rfl))
  rw [show hitC lim l = l.any (hitW lim) from rfl]
  clear h' h2 hx
  generalize l.any (hitW lim) = R at *
  generalize lim.length = n' at *
  generalize l.length = n2 at *
  go_enter Tryd.func29, Tryd.ntmps29
  go_wp2_with fail
  refine (cc _ hL).mono ?_
  rintro e w1 ⟨rfl, hb1⟩
  have hL2 := loc_call hL hb1
  clear cc
  go_wp2_with fail
  go_ret
  exact ⟨rfl, hL2.1⟩
end Go.Proofs.YtmfdpdnokiidlaaDoor
