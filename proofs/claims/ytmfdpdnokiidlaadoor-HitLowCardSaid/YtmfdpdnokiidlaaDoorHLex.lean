/-
  Chapter 36: the walks of slices.Compare, slices.IndexFunc over rows of ways, hit.Low's closures Low$1$1 and Low$1$2, slices.Clone over ways. Conditions: rows of one length; at most 1000.
-/
import Derived.Test.YtmfdpdnokiidlaaDoorHKey
namespace Go.Proofs.YtmfdpdnokiidlaaDoor
open Go.ChangeShapes Go.WideShapes Go.ChangeAt Go.RowKit
set_option linter.unusedVariables false
set_option linter.unusedSimpArgs false

theorem lex_drop {a b : List Int} {k : Nat} {x y : Int} (ha : a[k]? = some x) (hb : b[k]? = some y) : lexLt (a.drop k) (b.drop k) = (decide (x < y) || (decide (x = y) && lexLt (a.drop (k + 1)) (b.drop (k + 1)))) := by
  obtain ⟨h1, rfl⟩ := List.getElem?_eq_some_iff.1 ha
  obtain ⟨h2, rfl⟩ := List.getElem?_eq_some_iff.1 hb
  conv => lhs; rw [List.drop_eq_getElem_cons h1, List.drop_eq_getElem_cons h2, lexLt]
set_option maxRecDepth 8192 in
set_option maxHeartbeats 4000000 in
theorem compare_any (A A' : Option Addr) (c c' B : Nat) (a b : List Int) (w : World) (h : RdI w B A a) (h' : RdI w B A' b) (hl : a.length = b.length) (hn : a.length ≤ 1000) :
    Calls Tryd.prog 30 #[.slice A a.length c, .slice A' a.length c'] w fun e w' => (∃ r : Int, e = .returned (.int .i64 r) ∧ decide (r < 0) = lexLt a b) ∧ w' = w := by
  have H := Lib.hid h
  have H' := Lib.hid h'
  clear h h'
  generalize hna : a.length = n at *
  have HN := Lib.hid hna
  have HNB := Lib.hid hl
  clear hna hl
  go_enter Tryd.func30, Tryd.ntmps30
  go_wp2_with fail
  go_loopg [5, 6, 7, 8, 11] n (fun k2 _ _ _ _ i wr => ∃ k : Nat, k + k2 = n ∧ i = .int .i64 k ∧ Hid (lexLt (a.drop k) (b.drop k) = lexLt a b) ∧ wr = w)
  case atStart => exact ⟨0, by omega, rfl, Lib.hid rfl, rfl⟩
  case round =>
    obtain ⟨k, hk, rfl, HS, rfl⟩ := hrel
    by_cases hlt : k < n
    · have i1 : (k : Int) < (n : Int) := by omega
      have hka : k < a.length := by rw [HN.out]; exact hlt
      have hkb : k < b.length := by rw [← HNB.out]; exact hlt
      obtain ⟨b1, o1, rfl, _, q1⟩ := rdI_at H.out hka
      obtain ⟨b2, o2, rfl, _, q2⟩ := rdI_at H'.out hkb
      have hd := lex_drop (List.getElem?_eq_getElem hka) (List.getElem?_eq_getElem hkb)
      rw [List.getD_eq_getElem?_getD, List.getElem?_eq_getElem hka] at q1
      rw [List.getD_eq_getElem?_getD, List.getElem?_eq_getElem hkb] at q2
      simp only [Option.getD_some] at q1 q2
      generalize a[k] = x at *
      generalize b[k] = y at *
      rw [HS.out] at hd
      have HD := Lib.hid hd
      clear hd hka hkb HS
      rcases Int.lt_trichotomy x y with hxy | hxy | hxy
      · have HE : Hid (lexLt a b = true) := Lib.hid (by rw [HD.out]; simp [hxy])
        have hc : Lib.compareInt x y = -1 := by unfold Lib.compareInt; simp [hxy]
        clear HD
        go_wp2_with fail
        refine (Tryd.cmp_Compare_int x y _).mono ?_
        rintro e w1 ⟨rfl, rfl⟩
        rw [hc]
        clear hc
        go_wp2_with fail
        go_ret
        exact ⟨⟨-1, rfl, by rw [HE.out]; rfl⟩, rfl⟩
      · subst hxy
        have HE : Hid (lexLt (a.drop (k + 1)) (b.drop (k + 1)) = lexLt a b) := Lib.hid (by rw [HD.out]; simp)
        have hc : Lib.compareInt x x = 0 := by unfold Lib.compareInt; simp
        clear HD
        go_wp2_with fail
        refine (Tryd.cmp_Compare_int x x _).mono ?_
        rintro e w1 ⟨rfl, rfl⟩
        rw [hc]
        clear hc
        go_wp2_with fail
        go_roundg (n - (k + 1))
        case rel => exact ⟨k + 1, by omega, by go_num, HE, rfl⟩
        case measure => omega
      · have HE : Hid (lexLt a b = false) := Lib.hid (by rw [HD.out]; simp; omega)
        have hc : Lib.compareInt x y = 1 := by unfold Lib.compareInt; rw [if_neg (by omega)]; simp; omega
        clear HD
        go_wp2_with fail
        refine (Tryd.cmp_Compare_int x y _).mono ?_
        rintro e w1 ⟨rfl, rfl⟩
        rw [hc]
        clear hc
        go_wp2_with fail
        go_ret
        exact ⟨⟨1, rfl, by rw [HE.out]; rfl⟩, rfl⟩
    · obtain rfl : k = n := by omega
      have HE : Hid (lexLt a b = false) := Lib.hid (by
        have h := HS.out
        rw [List.drop_eq_nil_of_le (by rw [HN.out]; exact Nat.le_refl _), List.drop_eq_nil_of_le (by rw [← HNB.out]; exact Nat.le_refl _)] at h
        rw [← h]
        rfl)
      clear HS
      go_wp2_with fail
      go_ret
      exact ⟨⟨0, rfl, by rw [HE.out]; rfl⟩, rfl⟩
theorem find_take {p : List Way → Bool} {all : List (List Way)} {k : Nat} {l : List Way} (h : (all.take k).find? p = none) (hx : all[k]? = some l) : (p l = true → all.find? p = some l) ∧ (p l = false → (all.take (k + 1)).find? p = none) := by
  obtain ⟨hlt, rfl⟩ := List.getElem?_eq_some_iff.1 hx
  constructor
  · intro hp
    have e : all = all.take k ++ all[k] :: all.drop (k + 1) := by rw [← List.drop_eq_getElem_cons hlt, List.take_append_drop]
    conv => lhs; rw [e]
    rw [List.find?_append, h, List.find?_cons, hp]
    rfl
  · intro hp
    rw [List.take_succ_eq_append_getElem hlt, List.find?_append, h, List.find?_cons, hp]
    rfl
set_option maxRecDepth 8192 in
set_option maxHeartbeats 4000000 in
theorem indexl_any (A : Option Addr) (cap B b1 : Nat) (all : List (List Way)) (pr : List Way → Bool) (w : World) (h : RdWW w B A all) (hB : B ≤ w.heap.size) (hl : all.length ≤ 1000)
    (hcl : ∀ l ∈ all, ∀ (Al : Option Addr) (cl : Nat) (W : World), Below w.heap.size w W → RdW W B Al l → Calls Tryd.prog 28 #[.slice Al l.length cl, .pointer (some ⟨b1, 0, none⟩)] W fun e w' => e = .returned (.bool (pr l)) ∧ Below W.heap.size W w') :
    Calls Tryd.prog 27 #[.slice A all.length cap, .func (.func 28) #[] #[.pointer (some ⟨b1, 0, none⟩)]] w fun e w' =>
      ((e = .returned (.int .i64 (-1)) ∧ all.find? pr = none) ∨ ∃ (k : Nat) (l : List Way), e = .returned (.int .i64 (k : Nat)) ∧ all[k]? = some l ∧ all.find? pr = some l) ∧ Below w.heap.size w w' := by
  have H := Lib.hid h
  have HC := Lib.hid hcl
  clear h hcl
  generalize hn : all.length = n at *
  have HN := Lib.hid hn
  clear hn
  go_enter Tryd.func27, Tryd.ntmps27
  go_wp2_with fail
  go_loopg [5, 8] n (fun k2 _ i wr => ∃ k : Nat, k + k2 = n ∧ i = .int .i64 k ∧ Hid ((all.take k).find? pr = none) ∧ Below w.heap.size w wr)
  case atStart => exact ⟨0, by omega, rfl, Lib.hid rfl, Below.refl _ _⟩
  case round =>
    obtain ⟨k, hk, rfl, HS, hbel⟩ := hrel
    by_cases hlt : k < n
    · have i1 : (k : Int) < (n : Int) := by omega
      have hlc : k < all.length := by rw [HN.out]; exact hlt
      have hxk : all[k]? = some all[k] := List.getElem?_eq_getElem hlc
      have hmem := List.getElem_mem hlc
      generalize all[k] = l at *
      obtain ⟨b, off, Al, cl, rfl, hb, q0, hcl, hK⟩ := rdWW_at (rdWW_below H.out (hbel.mono hB)) hxk
      have hcx := HC.out l hmem Al cl wr hbel hK
      have HF := Lib.hid (find_take HS.out hxk)
      have HX := Lib.hid hxk
      clear hxk hmem hlc hK
      generalize l.length = nx at *
      cases hp : pr l
      · rw [hp] at hcx
        have HF2 := Lib.hid (HF.out.2 hp)
        clear hp
        go_wp2_with fail
        refine hcx.mono ?_
        rintro e w1 ⟨rfl, hb1⟩
        go_wp2_with fail
        go_roundg (n - (k + 1))
        case rel => exact ⟨k + 1, by omega, by go_num, HF2, hbel.trans (hb1.mono hbel.size)⟩
        case measure => omega
      · rw [hp] at hcx
        have HF2 := Lib.hid (HF.out.1 hp)
        clear hp
        go_wp2_with fail
        refine hcx.mono ?_
        rintro e w1 ⟨rfl, hb1⟩
        go_wp2_with fail
        go_ret
        exact ⟨.inr ⟨k, l, rfl, HX.out, HF2.out⟩, hbel.trans (hb1.mono hbel.size)⟩
    · obtain rfl : k = n := by omega
      have HE : Hid (all.find? pr = none) := by
        have := HS.out
        rwa [List.take_of_length_le (by rw [HN.out]; exact Nat.le_refl _)] at this
      go_wp2_with fail
      go_ret
      exact ⟨.inl ⟨rfl, HE.out⟩, hbel⟩
set_option maxHeartbeats 1000000 in
theorem unhit_any (A' Al : Option Addr) (c' cl B bl : Nat) (lim : List Int) (l : List Way) (w : World) (h' : RdI w B A' lim) (h2 : RdW w B Al l) (hB : B ≤ w.heap.size) (hl : Ways lim.length l) (hlim : lim.length ≤ 1000000)
    (hli : w.cell? ⟨bl, 0, none⟩ = some (.slice A' lim.length c')) :
    Calls Tryd.prog 28 #[.slice Al l.length cl, .pointer (some ⟨bl, 0, none⟩)] w fun e w' => e = .returned (.bool (!hitC lim l)) ∧ Below w.heap.size w w' := by
  have ch := hitsl_any A' Al c' cl B lim l w h' h2 hB (fun x hx => (hl.1 x hx).1) hlim hl.2
  clear h' h2 hl
  generalize hitC lim l = R at *
  generalize lim.length = n' at *
  generalize l.length = n2 at *
  go_enter Tryd.func28, Tryd.ntmps28
  go_wp2_with fail
  refine ch.mono ?_
  rintro e w1 ⟨rfl, hb1⟩
  go_wp2_with fail
  go_ret
  exact ⟨rfl, hb1⟩
end Go.Proofs.YtmfdpdnokiidlaaDoor
