/-
  Chapter 36: rows of numbers, tables and cores in memory; the walks of linchpinmade's Place and At and of the reference's at. Conditions: bounds on the numbers.
-/
import Derived.Test.YtmfdpdnokiidlaaDoorMem
import Derived.Test.YtmfdpdnokiidlaaDoorHSpec
import Derived.Test.YtmfdpdnokiidlaaDoorRows
import Derived.WalkKit
import Derived.ProofKit
import Derived.WalkSpells
import Derived.WalkLawsBesides
import Derived.Outline
import Derived.Laws.RangeAny
import Derived.BigQuiet
import Derived.Deep.QuietTactic
import Derived.OpenShut
import Derived.IntWalk
import Derived.Lib.Hide
namespace Go.Proofs.YtmfdpdnokiidlaaDoor
open Go.ChangeShapes Go.WideShapes Go.ChangeAt Go.RowKit
set_option linter.unusedVariables false
set_option linter.unusedSimpArgs false

/-- A slice value with address A and n elements of one cell reads as xs: nil let in; it lies below block B. -/
def Rd (w : World) (B : Nat) (A : Option Addr) (n : Nat) (xs : List Value) : Prop :=
  xs.length = n ∧ (0 < n → ∃ b off, A = some ⟨b, off, none⟩ ∧ b < B ∧ ∀ j u, xs[j]? = some u → w.cell? ⟨b, off + j, none⟩ = some u)
theorem rd_own {w : World} {base n : Nat} {e : TypeId} {v : Value} {xs : List Value} (h : w.ownsRow base e 1 v n xs) : ∃ A cap, v = .slice A n cap ∧ Rd w w.heap.size A n xs := by
  have hl : xs.length = n := by simpa using h.1
  rcases h.2 with ⟨rfl, rfl⟩ | ⟨g, cap, cur, rfl, _, hh, _⟩
  · exact ⟨none, 0, rfl, hl, fun h0 => absurd h0 (by omega)⟩
  · refine ⟨_, cap, rfl, hl, fun _ => ⟨g, 0, rfl, (Array.getElem?_eq_some_iff.1 hh).1, fun j u hu => ?_⟩⟩
    have hc := h.cells (g := g) rfl j u hu
    rwa [add_plain] at hc
theorem rd_below {w w' : World} {B n : Nat} {A : Option Addr} {xs : List Value} (h : Rd w B A n xs) (hb : Below B w w') : Rd w' B A n xs := by
  refine ⟨h.1, fun hn => ?_⟩
  obtain ⟨b, off, e, hlt, hc⟩ := h.2 hn
  exact ⟨b, off, e, hlt, fun j u hu => (hb.cell (p := ⟨b, off + j, none⟩) hlt).trans (hc j u hu)⟩
theorem row_rd {k : IntKind} {w : World} {a : Option Addr} {len cap : Nat} {zs : List Int}
    (h : (a = none ∧ len = 0 ∧ cap = 0 ∧ zs = []) ∨ ∃ x, a = some x ∧ len ≤ cap ∧ cap ≤ maxLen ∧ zs.length = cap ∧ (∀ i, i < zs.length → w.cell? (x.add i) = some (.int k (zs.getD i 0))) ∧ ∀ n ∈ zs, (Lit.int k n).wf = true) :
    Rd w w.heap.size a len ((zs.take len).map (Value.int k)) ∧ len ≤ maxLen ∧ (∀ n ∈ zs.take len, (Lit.int k n).wf = true) ∧ (zs.take len).length = len := by
  rcases h with ⟨rfl, rfl, rfl, rfl⟩ | ⟨x, rfl, hl, hm, hz, hcell, hwz⟩
  · exact ⟨⟨rfl, fun h => absurd h (by omega)⟩, by unfold maxLen; omega, fun n hn => by simp at hn, rfl⟩
  · refine ⟨⟨by simp; omega, fun h0 => ?_⟩, by omega, fun n hn => hwz n (List.mem_of_mem_take hn), by simp; omega⟩
    obtain ⟨b, off, spot⟩ := x
    have hspot : spot = none := by simpa [Addr.add] using World.cell?_spot (hcell 0 (by omega))
    subst hspot
    refine ⟨b, off, rfl, ?_, fun j u hu => ?_⟩
    · exact World.block_lt_of_cell? w ⟨b, off, none⟩ (by simpa [Addr.add] using hcell 0 (by omega))
    · have hadd : (⟨b, off, none⟩ : Addr).add j = ⟨b, off + j, none⟩ := by unfold Addr.add; split <;> simp_all
      rw [List.getElem?_map, List.getElem?_take] at hu
      by_cases hj : j < len
      · rw [if_pos hj] at hu
        have hc := hcell j (by omega)
        rw [hadd] at hc
        rw [List.getElem?_eq_getElem (by omega)] at hu
        rw [hc, ← hu]
        simp [List.getD, List.getElem?_eq_getElem (show j < zs.length by omega)]
      · rw [if_neg hj] at hu
        simp at hu

/-- Any number as one from 0 to n - 1. -/
def placeN (v : Int) (n : Nat) : Nat := (v % (n : Int)).toNat
theorem place_lt (v : Int) {n : Nat} (h : 0 < n) : placeN v n < n := by
  unfold placeN
  have h1 := Int.emod_nonneg v (show (n : Int) ≠ 0 by omega)
  have h2 := Int.emod_lt_of_pos v (show (0 : Int) < n by omega)
  omega
theorem place_cast (v : Int) {n : Nat} (h : 0 < n) : ((placeN v n : Nat) : Int) = v % (n : Int) := by
  unfold placeN
  exact Int.toNat_of_nonneg (Int.emod_nonneg v (by omega))
theorem place_pos {v : Int} {n : Nat} (h : 0 < n) (hv : 0 ≤ v) : v.tmod n = (placeN v n : Nat) := by
  rw [place_cast v h, Int.tmod_eq_emod_of_nonneg hv]
theorem place_neg0 {v : Int} {n : Nat} (h : 0 < n) (h0 : v.tmod n = 0) : (placeN v n : Nat) = (0 : Int) := by
  rw [place_cast v h]
  exact Int.emod_eq_zero_of_dvd (Int.dvd_of_tmod_eq_zero h0)
theorem place_neg {v : Int} {n : Nat} (h : 0 < n) (hv : v < 0) (h0 : v.tmod n ≠ 0) : v.tmod n < 0 ∧ -(n : Int) < v.tmod n ∧ v.tmod n + n = (placeN v n : Nat) := by
  have h1 : v.tmod n ≤ 0 := by
    have g1 : 0 ≤ (-v).tmod n := Int.tmod_nonneg _ (by omega)
    rw [Int.neg_tmod] at g1
    omega
  rw [place_cast v h]
  have h2 := Int.mul_tdiv_add_tmod v n
  have h3 := Int.lt_tmod_of_pos v (b := n) (by omega)
  refine ⟨by omega, h3, ?_⟩
  have h4 : v % (n : Int) = (v.tmod n + n) % n := by
    conv => lhs; rw [← h2]
    rw [Int.add_emod_right, Int.mul_add_emod_self_left]
  rw [h4, Int.emod_eq_of_lt (by omega) (by omega)]


/-- A row of numbers. -/
def RdI (w : World) (B : Nat) (A : Option Addr) (l : List Int) : Prop := Rd w B A l.length (l.map (Value.int .i64))
/-- A table: a row of rows. -/
def RdT (w : World) (B : Nat) (A : Option Addr) (t : List (List Int)) : Prop :=
  ∃ vs : List Value, Rd w B A t.length vs ∧ ∀ (i : Nat) (r : List Int), t[i]? = some r → ∃ Ai ci, vs[i]? = some (Value.slice Ai r.length ci) ∧ r.length ≤ ci ∧ RdI w B Ai r
/-- A core: a row of terms. -/
def RdK (w : World) (B : Nat) (A : Option Addr) (c : List Tm) : Prop :=
  0 < c.length → ∃ b off, A = some ⟨b, off, none⟩ ∧ b < B ∧ ∀ j x, c[j]? = some x → w.cell? ⟨b, off + j * 2, none⟩ = some (.int .i64 (x.u : Nat)) ∧ w.cell? ⟨b, off + j * 2 + 1, none⟩ = some (.int .i64 (x.m : Nat))
theorem rdI_below {w w' : World} {B : Nat} {A : Option Addr} {l : List Int} (h : RdI w B A l) (hb : Below B w w') : RdI w' B A l := rd_below h hb
theorem rdT_below {w w' : World} {B : Nat} {A : Option Addr} {t : List (List Int)} (h : RdT w B A t) (hb : Below B w w') : RdT w' B A t := by
  obtain ⟨vs, h1, h2⟩ := h
  refine ⟨vs, rd_below h1 hb, fun i r hr => ?_⟩
  obtain ⟨Ai, ci, g1, g2, g3⟩ := h2 i r hr
  exact ⟨Ai, ci, g1, g2, rdI_below g3 hb⟩
theorem rdK_below {w w' : World} {B : Nat} {A : Option Addr} {c : List Tm} (h : RdK w B A c) (hb : Below B w w') : RdK w' B A c := fun h0 => by
  obtain ⟨b, off, e, hlt, hc⟩ := h h0
  exact ⟨b, off, e, hlt, fun j x hx => ⟨(hb.cell (p := ⟨b, off + j * 2, none⟩) hlt).trans (hc j x hx).1, (hb.cell (p := ⟨b, off + j * 2 + 1, none⟩) hlt).trans (hc j x hx).2⟩⟩
/-- The number at a place of a row. -/
theorem rdI_at {w : World} {B : Nat} {A : Option Addr} {l : List Int} (h : RdI w B A l) {k : Nat} (hk : k < l.length) : ∃ b off, A = some ⟨b, off, none⟩ ∧ b < B ∧ w.cell? ⟨b, off + k, none⟩ = some (.int .i64 (l.getD k 0)) := by
  obtain ⟨b, off, e, hb, hc⟩ := h.2 (by omega)
  refine ⟨b, off, e, hb, hc k _ ?_⟩
  simp [List.getD_eq_getElem?_getD, List.getElem?_eq_getElem hk]
/-- The row at a place of a table. -/
theorem rdT_at {w : World} {B : Nat} {A : Option Addr} {t : List (List Int)} (h : RdT w B A t) {k : Nat} {r : List Int} (hr : t[k]? = some r) : ∃ b off Ai ci, A = some ⟨b, off, none⟩ ∧ b < B ∧ w.cell? ⟨b, off + k, none⟩ = some (.slice Ai r.length ci) ∧ r.length ≤ ci ∧ RdI w B Ai r := by
  obtain ⟨vs, h1, h2⟩ := h
  obtain ⟨Ai, ci, g1, g2, g3⟩ := h2 k r hr
  obtain ⟨b, off, e, hb, hc⟩ := h1.2 (by have := (List.getElem?_eq_some_iff.1 hr).1; omega)
  exact ⟨b, off, Ai, ci, e, hb, hc k _ g1, g2, g3⟩

/-! linchpinmade's Place and At; the reference's at. -/
def placeM (v n : Int) : Int := if n < 1 then 0 else v % n
theorem placeM_bd {v n : Int} (h : 1 ≤ n) : 0 ≤ placeM v n ∧ placeM v n < n := by
  unfold placeM
  rw [if_neg (by omega)]
  exact ⟨Int.emod_nonneg _ (by omega), Int.emod_lt_of_pos _ (by omega)⟩
theorem ret_i64' {a b : Int} (h : a = b) : Ending.returned (.int .i64 a) = .returned (.int .i64 b) := by rw [h]
set_option maxHeartbeats 1000000 in
theorem place_any (v : Int) (n : Nat) (w : World) (h0 : 0 < n) (h1 : n ≤ 1048576) (v1 : -9223372036854775808 ≤ v) (v2 : v ≤ 9223372036854775807) :
    Calls Tryd.prog 17 #[.int .i64 v, .int .i64 n] w fun e w' => e = .returned (.int .i64 (placeN v n : Nat)) ∧ w = w' := by
  have i0 : (1 : Int) ≤ (n : Int) := by omega
  by_cases hv : 0 ≤ v
  · have e := place_pos h0 hv
    have hp : (0 : Int) ≤ v.tmod n := by omega
    have hn : ((n : Int) == 0) = false := by simp; omega
    go_enter Tryd.func17, Tryd.ntmps17
    go_wp2
    go_ret
    exact ⟨rfl, rfl⟩
  · have hn : ((n : Int) == 0) = false := by simp; omega
    by_cases hz : v.tmod n = 0
    · have e := place_neg0 h0 hz
      rw [e]; clear e
      go_enter Tryd.func17, Tryd.ntmps17
      go_wp2
      go_ret
      exact ⟨rfl, rfl⟩
    · obtain ⟨p1, p2, e⟩ := place_neg h0 (by omega) hz
      have p3 : v.tmod n + n ≤ 1048576 := by omega
      generalize placeN v n = k at *
      have E := Lib.hid e
      clear e hz
      go_enter Tryd.func17, Tryd.ntmps17
      go_wp2
      go_ret
      exact ⟨ret_i64' E.out, rfl⟩
/-- A list's number; behind it a small one. -/
def atM (l : List Int) (i : Nat) : Int := if l.length ≤ i then ((i % 3 : Nat) : Int) else l.getD i 0
set_option maxHeartbeats 1000000 in
theorem atm_any (A : Option Addr) (c B : Nat) (l : List Int) (i : Nat) (w : World) (h : RdI w B A l) (hl : l.length ≤ maxLen) (hi : i ≤ 1000000000) :
    Calls Tryd.prog 18 #[.slice A l.length c, .int .i64 i] w fun e w' => e = .returned (.int .i64 (atM l i)) ∧ w = w' := by
  unfold maxLen at hl
  have i0 : (0 : Int) ≤ (i : Int) := by omega
  by_cases h1 : l.length ≤ i
  · have e : atM l i = ((i % 3 : Nat) : Int) := by unfold atM; rw [if_pos h1]
    have i1 : (l.length : Int) ≤ (i : Int) := by omega
    have ht : (i : Int).tmod 3 = ((i % 3 : Nat) : Int) := by rw [Int.tmod_eq_emod_of_nonneg i0]; omega
    rw [e]; clear e h
    generalize l.length = n at *
    have HT := Lib.hid ht
    clear ht
    go_enter Tryd.func18, Tryd.ntmps18
    go_wp2
    go_ret
    exact ⟨ret_i64' HT.out, rfl⟩
  · obtain ⟨b, off, rfl, hb, hck⟩ := rdI_at h (k := i) (by omega)
    have e : atM l i = l.getD i 0 := by unfold atM; rw [if_neg h1]
    rw [e]
    generalize l.getD i 0 = v at *
    clear e h
    generalize l.length = n at *
    have hkn : (i : Int) < (n : Int) := by omega
    go_enter Tryd.func18, Tryd.ntmps18
    go_wp2
    go_ret
    exact ⟨rfl, rfl⟩
set_option maxHeartbeats 1000000 in
theorem rat_any (A : Option Addr) (c B : Nat) (l : List Int) (i : Nat) (w : World) (h : RdI w B A l) (hl : l.length ≤ maxLen) (hi : i ≤ 1000000000) :
    Calls Tryd.prog 39 #[.slice A l.length c, .int .i64 i] w fun e w' => e = .returned (.int .i64 (l.getD i 0)) ∧ w = w' := by
  unfold maxLen at hl
  have i0 : (0 : Int) ≤ (i : Int) := by omega
  by_cases h1 : l.length ≤ i
  · have e : l.getD i 0 = 0 := by rw [List.getD_eq_getElem?_getD, List.getElem?_eq_none h1]; rfl
    have i1 : (l.length : Int) ≤ (i : Int) := by omega
    rw [e]; clear e h
    generalize l.length = n at *
    go_enter Tryd.func39, Tryd.ntmps39
    go_wp2
    go_ret
    exact ⟨rfl, rfl⟩
  · obtain ⟨b, off, rfl, hb, hck⟩ := rdI_at h (k := i) (by omega)
    generalize l.getD i 0 = v at *
    clear h
    generalize l.length = n at *
    have hkn : (i : Int) < (n : Int) := by omega
    go_enter Tryd.func39, Tryd.ntmps39
    go_wp2
    go_ret
    exact ⟨rfl, rfl⟩
end Go.Proofs.YtmfdpdnokiidlaaDoor
