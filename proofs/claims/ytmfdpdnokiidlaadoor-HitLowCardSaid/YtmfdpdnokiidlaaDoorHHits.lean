/-
  Chapter 36: the walks of hit.Hits, its closure, and of slices.ContainsFunc over terms. Conditions: as for least; at most 1000 terms.
-/
import Derived.Test.YtmfdpdnokiidlaaDoorHLeast
namespace Go.Proofs.YtmfdpdnokiidlaaDoor
open Go.ChangeShapes Go.WideShapes Go.ChangeAt Go.RowKit
set_option linter.unusedVariables false
set_option linter.unusedSimpArgs false

def hitX (t : List (List Int)) (lim : List Int) (x : Tm) : Bool := match leastP t x with
  | some n => decide (n ≤ lim.getD x.u 0)
  | none => false
theorem hitX_any (t : List (List Int)) (lim : List Int) (core : List Tm) : core.any (hitX t lim) = hitsR t lim core := by
  unfold hitsR
  congr 1
  funext x
  unfold hitX
  cases hl : leastP t x with
  | none => exact (least_none hl _).symm
  | some n =>
    obtain ⟨row, hr, _, hm⟩ := least_some hl
    rw [hr]
    exact hm _
set_option maxRecDepth 8192 in
set_option maxHeartbeats 4000000 in
theorem hitc_any (A A' : Option Addr) (c c' B bt bl : Nat) (t : List (List Int)) (lim : List Int) (x : Tm) (w : World) (h : RdT w B A t) (h' : RdI w B A' lim) (hB : B ≤ w.heap.size) (hl : t.length ≤ 1000) (hr : ∀ r ∈ t, 0 < r.length ∧ r.length ≤ 5) (hu : x.u ≤ 1000000) (hm : x.m < 32) (hlim : lim.length ≤ 1000000)
    (ht : w.cell? ⟨bt, 0, none⟩ = some (.slice A t.length c)) (hli : w.cell? ⟨bl, 0, none⟩ = some (.slice A' lim.length c')) (hbt : bt < w.heap.size) (hbl : bl < w.heap.size) :
    Calls Tryd.prog 37 #[.agg #[.int .i64 (x.u : Nat), .int .i64 (x.m : Nat)], .pointer (some ⟨bt, 0, none⟩), .pointer (some ⟨bl, 0, none⟩)] w fun e w' => e = .returned (.bool (hitX t lim x)) ∧ Below w.heap.size w w' := by
  have H := Lib.hid h
  have H' := Lib.hid h'
  have cl := fun W (h1 : RdT W B A t) (h2 : B ≤ W.heap.size) => least_any A c B t x W h1 h2 hl hr hu hm
  have HE := Lib.hid (show hitX t lim x = (match leastP t x with | some n => decide (n ≤ lim.getD x.u 0) | none => false) from rfl)
  generalize hitX t lim x = R at *
  have hL := loc_new (loc_start w) w.heap.size [.int .i64 (x.u : Nat), .int .i64 (x.m : Nat)] 39
  have ht1 := (World.cell?_alloc_lt w (.cells #[.int .i64 (x.u : Nat), .int .i64 (x.m : Nat)] 39) ⟨bt, 0, none⟩ hbt).trans ht
  have hl1 := (World.cell?_alloc_lt w (.cells #[.int .i64 (x.u : Nat), .int .i64 (x.m : Nat)] 39) ⟨bl, 0, none⟩ hbl).trans hli
  have hlat : ∀ W : World, RdI W B A' lim → (hul : x.u < lim.length) → ∃ b off, A' = some ⟨b, off, none⟩ ∧ b < B ∧ W.cell? ⟨b, off + x.u, none⟩ = some (.int .i64 (lim.getD x.u 0)) := fun W hW hul => rdI_at hW hul
  have hlo : lim.length ≤ x.u → lim.getD x.u 0 = 0 := fun g => by rw [List.getD_eq_getElem?_getD, List.getElem?_eq_none g]; rfl
  have HLAT := Lib.hid hlat
  have HLO := Lib.hid hlo
  clear h h' hlat hlo
  generalize t.length = n at *
  generalize hnn : lim.length = n' at *
  have HNN := Lib.hid hnn
  clear hnn
  generalize x.u = u at *
  generalize x.m = m at *
  generalize leastP t x = lp at *
  generalize lim.getD u 0 = lv at *
  go_enter Tryd.func37, Tryd.ntmps37
  go_wp2_with fail
  generalize hW : World.alloc w _ = W1 at *
  clear hW
  have d0 := (loc_own hL 0 rfl).1 0 _ rfl
  have d1 := (loc_own hL 0 rfl).1 1 _ rfl
  refine (cl W1 (rdT_below H.out (hL.1.mono hB)) (Nat.le_trans hB hL.1.size)).mono ?_
  rintro e w2 ⟨rfl, hb2⟩
  have hL2 := loc_call hL hb2
  have ht2 := (hb2.cell (p := ⟨bt, 0, none⟩) (show bt < W1.heap.size from Nat.lt_of_lt_of_le hbt hL.1.size)).trans ht1
  have hl2 := (hb2.cell (p := ⟨bl, 0, none⟩) (show bl < W1.heap.size from Nat.lt_of_lt_of_le hbl hL.1.size)).trans hl1
  have d0 := (loc_own hL2 0 rfl).1 0 _ rfl
  have d1 := (loc_own hL2 0 rfl).1 1 _ rfl
  clear cl
  have u0 : (0 : Int) ≤ (u : Int) := by omega
  by_cases hul : u < n'
  · obtain ⟨b, off, rfl, hb, hc⟩ := HLAT.out w2 (rdI_below H'.out (hL2.1.mono hB)) hul
    have hul2 : (u : Int) < (n' : Int) := by omega
    clear HLAT HLO
    cases lp with
    | none =>
      go_wp2_with fail
      go_ret
      exact ⟨ret_boolH HE.out.symm, hL2.1⟩
    | some q =>
      go_wp2_with fail
      go_ret
      exact ⟨ret_boolH HE.out.symm, hL2.1⟩
  · have hul2 : ¬ (u : Int) < (n' : Int) := by omega
    obtain rfl := HLO.out (by omega)
    clear HLAT HLO
    cases lp with
    | none =>
      go_wp2_with fail
      go_ret
      exact ⟨ret_boolH HE.out.symm, hL2.1⟩
    | some q =>
      go_wp2_with fail
      go_ret
      exact ⟨ret_boolH HE.out.symm, hL2.1⟩
theorem any_tk {p : Tm → Bool} {l : List Tm} {k : Nat} {x : Tm} (h : (l.take k).any p = false) (hx : l[k]? = some x) (hp : p x = false) : (l.take (k + 1)).any p = false := by
  obtain ⟨hlt, rfl⟩ := List.getElem?_eq_some_iff.1 hx
  rw [List.take_succ_eq_append_getElem hlt, List.any_append, h]
  simp [hp]
set_option maxRecDepth 8192 in
set_option maxHeartbeats 4000000 in
theorem index_any (A : Option Addr) (cap B b1 b2 : Nat) (core : List Tm) (pr : Tm → Bool) (w : World) (h : RdK w B A core) (hB : B ≤ w.heap.size) (hl : core.length ≤ 1000)
    (hcl : ∀ x ∈ core, ∀ W : World, Below w.heap.size w W → Calls Tryd.prog 37 #[.agg #[.int .i64 (x.u : Nat), .int .i64 (x.m : Nat)], .pointer (some ⟨b1, 0, none⟩), .pointer (some ⟨b2, 0, none⟩)] W fun e w' => e = .returned (.bool (pr x)) ∧ Below W.heap.size W w') :
    Calls Tryd.prog 49 #[.slice A core.length cap, .func (.func 37) #[] #[.pointer (some ⟨b1, 0, none⟩), .pointer (some ⟨b2, 0, none⟩)]] w fun e w' => ∃ r : Int, e = .returned (.int .i64 r) ∧ decide (0 ≤ r) = core.any pr ∧ Below w.heap.size w w' := by
  have H := Lib.hid h
  have HC := Lib.hid hcl
  clear h hcl
  generalize hn : core.length = n at *
  have HN := Lib.hid hn
  clear hn
  go_enter Tryd.func49, Tryd.ntmps49
  go_wp2
  go_loopw [5, 8] (fun _ i wr => ∃ k : Nat, k ≤ n ∧ i = .int .i64 k ∧ Hid ((core.take k).any pr = false) ∧ Below w.heap.size w wr) (fun _ i _ => n - (intOf i).toNat)
  case atStart => exact ⟨0, by omega, rfl, Lib.hid rfl, Below.refl _ _⟩
  case round =>
    obtain ⟨k, hk, rfl, HS, hbel⟩ := hrel
    by_cases hlt : k < n
    · have i1 : (k : Int) < (n : Int) := by omega
      have hlc : k < core.length := by rw [HN.out]; exact hlt
      have hx : core[k]? = some core[k] := List.getElem?_eq_getElem hlc
      have hmem := List.getElem_mem hlc
      generalize core[k] = x at *
      obtain ⟨b, off, rfl, hb, hc⟩ := rdK_below H.out (hbel.mono hB) (by omega)
      obtain ⟨k0, k1⟩ := hc k x hx
      have hcx := HC.out x hmem wr hbel
      have HT := Lib.hid (fun (hp : pr x = false) => any_tk HS.out hx hp)
      have HY := Lib.hid (fun (hp : pr x = true) => (List.any_eq_true.2 ⟨x, hmem, hp⟩ : core.any pr = true))
      clear hc hx hmem hlc
      cases hp : pr x
      · have HF := Lib.hid (HT.out hp)
        rw [hp] at hcx
        clear hp HT HY
        go_wp2_with fail
        refine hcx.mono ?_
        rintro e w1 ⟨rfl, hb1⟩
        go_wp2_with fail
        go_roundw
        case rel => exact ⟨k + 1, by omega, by go_num, HF, hbel.trans (hb1.mono hbel.size)⟩
        case measure => simp [intOf]; omega
      · have HF := Lib.hid (HY.out hp)
        rw [hp] at hcx
        clear hp HT HY
        go_wp2_with fail
        refine hcx.mono ?_
        rintro e w1 ⟨rfl, hb1⟩
        go_wp2_with fail
        go_ret
        exact ⟨k, rfl, by rw [HF.out]; simp, hbel.trans (hb1.mono hbel.size)⟩
    · obtain rfl : k = n := by omega
      have HE : Hid (core.any pr = false) := by
        have := HS.out
        rwa [List.take_of_length_le (by rw [HN.out]; exact Nat.le_refl _)] at this
      go_wp2_with fail
      go_ret
      exact ⟨-1, rfl, by rw [HE.out]; rfl, hbel⟩
set_option maxHeartbeats 1000000 in
theorem contains_any (A : Option Addr) (cap B b1 b2 : Nat) (core : List Tm) (pr : Tm → Bool) (w : World) (h : RdK w B A core) (hB : B ≤ w.heap.size) (hl : core.length ≤ 1000)
    (hcl : ∀ x ∈ core, ∀ W : World, Below w.heap.size w W → Calls Tryd.prog 37 #[.agg #[.int .i64 (x.u : Nat), .int .i64 (x.m : Nat)], .pointer (some ⟨b1, 0, none⟩), .pointer (some ⟨b2, 0, none⟩)] W fun e w' => e = .returned (.bool (pr x)) ∧ Below W.heap.size W w') :
    Calls Tryd.prog 36 #[.slice A core.length cap, .func (.func 37) #[] #[.pointer (some ⟨b1, 0, none⟩), .pointer (some ⟨b2, 0, none⟩)]] w fun e w' => e = .returned (.bool (core.any pr)) ∧ Below w.heap.size w w' := by
  have ci := index_any A cap B b1 b2 core pr w h hB hl hcl
  clear h hcl
  generalize core.any pr = R at *
  generalize core.length = n at *
  go_enter Tryd.func36, Tryd.ntmps36
  go_wp2_with fail
  refine ci.mono ?_
  rintro e w1 ⟨r, rfl, hr, hb1⟩
  have HR := Lib.hid hr
  clear hr
  go_wp2_with fail
  go_ret
  exact ⟨ret_boolH HR.out, hb1⟩
set_option maxHeartbeats 1000000 in
theorem hits_any (A A' A2 : Option Addr) (c c' c2 B : Nat) (t : List (List Int)) (lim : List Int) (core : List Tm) (w : World) (h : RdT w B A t) (h' : RdI w B A' lim) (h2 : RdK w B A2 core) (hB : B ≤ w.heap.size) (hl : t.length ≤ 1000) (hr : ∀ r ∈ t, 0 < r.length ∧ r.length ≤ 5) (hx : ∀ x ∈ core, x.u ≤ 1000000 ∧ x.m < 32) (hlim : lim.length ≤ 1000000) (hc : core.length ≤ 1000) :
    Calls Tryd.prog 16 #[.slice A t.length c, .slice A' lim.length c', .slice A2 core.length c2] w fun e w' => e = .returned (.bool (hitsR t lim core)) ∧ Below w.heap.size w w' := by
  rw [← hitX_any]
  have hL := loc_new (loc_new (loc_start w) w.heap.size [.slice A t.length c] 24) (w.heap.size + 1) [.slice A' lim.length c'] 22
  have cc := fun (W : World) (hW : Loc w W [(w.heap.size, [.slice A t.length c]), (w.heap.size + 1, [.slice A' lim.length c'])]) => contains_any A2 c2 B w.heap.size (w.heap.size + 1) core (hitX t lim) W (rdK_below h2 (hW.1.mono hB)) (Nat.le_trans hB hW.1.size) hc
    (fun x hxm W2 hb => by
      have hW2 := loc_call hW hb
      exact hitc_any A A' c c' B w.heap.size (w.heap.size + 1) t lim x W2 (rdT_below h (hW2.1.mono hB)) (rdI_below h' (hW2.1.mono hB)) (Nat.le_trans hB hW2.1.size) hl hr (hx x hxm).1 (hx x hxm).2 hlim ((loc_own hW2 0 rfl).1 0 _ rfl) ((loc_own hW2 1 rfl).1 0 _ rfl) (loc_lt hW2 0 rfl) (loc_lt hW2 1 rfl))
  clear h h' h2 hr hx
  generalize core.any (hitX t lim) = R at *
  generalize t.length = n at *
  generalize lim.length = n' at *
  generalize core.length = n2 at *
  go_enter Tryd.func16, Tryd.ntmps16
  go_wp2_with fail
  refine (cc _ hL).mono ?_
  rintro e w1 ⟨rfl, hb1⟩
  have hL2 := loc_call hL hb1
  clear cc
  go_wp2_with fail
  go_ret
  exact ⟨rfl, hL2.1⟩
end Go.Proofs.YtmfdpdnokiidlaaDoor
