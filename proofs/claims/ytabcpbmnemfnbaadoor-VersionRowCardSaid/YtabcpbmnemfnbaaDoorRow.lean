/-
  A slice of integers that a law takes, read as a list; the statements' own Place, At and From. Conditions: bounds on the numbers.
-/
import Derived.Test.YtabcpbmnemfnbaaDoorRd
import Derived.Test.YtabcpbmnemfnbaaDoorIdBase
import Derived.OpenShut
import Derived.IntWalk
namespace Go.Proofs.YtabcpbmnemfnbaaDoor
open Go.ChangeShapes Go.WideShapes Go.ChangeAt Go.RowKit
set_option linter.unusedVariables false

theorem row_rd {k : IntKind} {w : World} {a : Option Addr} {len cap : Nat} {zs : List Int}
    (h : (a = none ∧ len = 0 ∧ cap = 0 ∧ zs = []) ∨ ∃ x, a = some x ∧ len ≤ cap ∧ cap ≤ maxLen ∧ zs.length = cap ∧ (∀ i, i < zs.length → w.cell? (x.add i) = some (.int k (zs.getD i 0))) ∧ ∀ n ∈ zs, (Lit.int k n).wf = true) :
    Rd w w.heap.size a len ((zs.take len).map (Value.int k)) ∧ len ≤ maxLen ∧ (∀ n ∈ zs.take len, (Lit.int k n).wf = true) ∧ (zs.take len).length = len := by
  rcases h with ⟨rfl, rfl, rfl, rfl⟩ | ⟨x, rfl, hl, hm, hz, hcell, hwz⟩
  · exact ⟨⟨rfl, fun h => absurd h (by omega)⟩, by unfold maxLen; omega, fun n hn => by simp at hn, rfl⟩
  · refine ⟨⟨by simp; omega, fun h0 => ?_⟩, by omega, fun n hn => hwz n (List.mem_of_mem_take hn), by simp; omega⟩
    obtain ⟨b, off, spot⟩ := x
    have hspot : spot = none := by simpa [Addr.add] using World.cell?_spot (hcell 0 (by omega))
    subst hspot
    refine ⟨b, off, rfl, ?_, fun j u hu => ?_⟩
    · exact World.block_lt_of_cell? w ⟨b, off, none⟩ (by simpa [Addr.add] using hcell 0 (by omega))
    · have hadd : (⟨b, off, none⟩ : Addr).add j = ⟨b, off + j, none⟩ := by unfold Addr.add; split <;> simp_all
      rw [List.getElem?_map, List.getElem?_take] at hu
      by_cases hj : j < len
      · rw [if_pos hj] at hu
        have hc := hcell j (by omega)
        rw [hadd] at hc
        rw [List.getElem?_eq_getElem (by omega)] at hu
        rw [hc, ← hu]
        simp [List.getD, List.getElem?_eq_getElem (show j < zs.length by omega)]
      · rw [if_neg hj] at hu
        simp at hu

/-- The number at a place; 0 behind the end. -/
def atI (l : List Int) (i : Int) : Int := if i < 0 ∨ (l.length : Int) ≤ i then 0 else l.getD i.toNat 0
/-- Any number as one from 0 to n - 1. -/
def placeN (v : Int) (n : Nat) : Nat := (v % (n : Int)).toNat
def fromN (l : List Int) (i : Int) (n : Nat) : Nat := placeN (atI l i) n
theorem place_lt (v : Int) {n : Nat} (h : 0 < n) : placeN v n < n := by
  unfold placeN
  have h1 := Int.emod_nonneg v (show (n : Int) ≠ 0 by omega)
  have h2 := Int.emod_lt_of_pos v (show (0 : Int) < n by omega)
  omega
theorem place_cast (v : Int) {n : Nat} (h : 0 < n) : ((placeN v n : Nat) : Int) = v % (n : Int) := by
  unfold placeN
  exact Int.toNat_of_nonneg (Int.emod_nonneg v (by omega))
theorem place_pos {v : Int} {n : Nat} (h : 0 < n) (hv : 0 ≤ v) : v.tmod n = (placeN v n : Nat) := by
  rw [place_cast v h, Int.tmod_eq_emod_of_nonneg hv]
theorem place_neg0 {v : Int} {n : Nat} (h : 0 < n) (h0 : v.tmod n = 0) : (placeN v n : Nat) = (0 : Int) := by
  rw [place_cast v h]
  exact Int.emod_eq_zero_of_dvd (Int.dvd_of_tmod_eq_zero h0)
theorem place_neg {v : Int} {n : Nat} (h : 0 < n) (hv : v < 0) (h0 : v.tmod n ≠ 0) : v.tmod n < 0 ∧ -(n : Int) < v.tmod n ∧ v.tmod n + n = (placeN v n : Nat) := by
  have h1 : v.tmod n ≤ 0 := by
    have g1 : 0 ≤ (-v).tmod n := Int.tmod_nonneg _ (by omega)
    rw [Int.neg_tmod] at g1
    omega
  rw [place_cast v h]
  have h2 := Int.mul_tdiv_add_tmod v n
  have h3 := Int.lt_tmod_of_pos v (b := n) (by omega)
  refine ⟨by omega, h3, ?_⟩
  have h4 : v % (n : Int) = (v.tmod n + n) % n := by
    conv => lhs; rw [← h2]
    rw [Int.add_emod_right, Int.mul_add_emod_self_left]
  rw [h4, Int.emod_eq_of_lt (by omega) (by omega)]

theorem ret_i64' {a b : Int} (h : a = b) : Ending.returned (.int .i64 a) = .returned (.int .i64 b) := by rw [h]
theorem at_any (A : Option Addr) (c B : Nat) (l : List Int) (i : Int) (w : World) (h : Rd w B A l.length (l.map (Value.int .i64))) (hl : l.length ≤ maxLen) :
    Calls Tryd.prog 60 #[.slice A l.length c, .int .i64 i] w fun e w' => e = .returned (.int .i64 (atI l i)) ∧ w = w' := by
  unfold maxLen at hl
  by_cases h0 : i < 0
  · have e : atI l i = 0 := by unfold atI; rw [if_pos (.inl h0)]
    rw [e]; clear e
    generalize l.length = n at *
    go_enter Tryd.func60, Tryd.ntmps60
    go_wp2
    go_ret
    exact ⟨rfl, rfl⟩
  by_cases h1 : (l.length : Int) ≤ i
  · have e : atI l i = 0 := by unfold atI; rw [if_pos (.inr h1)]
    rw [e]; clear e
    generalize l.length = n at *
    go_enter Tryd.func60, Tryd.ntmps60
    go_wp2
    go_ret
    exact ⟨rfl, rfl⟩
  · obtain ⟨k, rfl⟩ : ∃ k : Nat, i = k := ⟨i.toNat, by omega⟩
    have hk : k < l.length := by omega
    obtain ⟨b, off, rfl, hb, hc⟩ := h.2 (by omega)
    have hck := hc k (.int .i64 l[k]) (by simp [List.getElem?_eq_getElem hk])
    have e : atI l k = l[k] := by
      unfold atI
      rw [if_neg (by omega), Int.toNat_natCast]
      simp [List.getD, List.getElem?_eq_getElem hk]
    rw [e]
    generalize l[k] = v at *
    clear e hc h
    generalize l.length = n at *
    have hkn : (k : Int) < (n : Int) := by omega
    go_enter Tryd.func60, Tryd.ntmps60
    go_wp2
    go_ret
    exact ⟨rfl, rfl⟩
theorem plc0_any (v : Int) (n : Nat) (w : World) (h0 : 0 < n) (h1 : n ≤ 1048576) (v1 : -9223372036854775808 ≤ v) (v2 : v ≤ 9223372036854775807) :
    Calls Tryd.prog 31 #[.int .i64 v, .int .i64 n] w fun e w' => e = .returned (.int .i64 (placeN v n : Nat)) ∧ w = w' := by
  by_cases hv : 0 ≤ v
  · have e := place_pos h0 hv
    have hp : (0 : Int) ≤ v.tmod n := by omega
    have hn : ((n : Int) == 0) = false := by simp; omega
    go_enter Tryd.func31, Tryd.ntmps31
    go_wp2
    go_ret
    exact ⟨rfl, rfl⟩
  · have hn : ((n : Int) == 0) = false := by simp; omega
    by_cases hz : v.tmod n = 0
    · have e := place_neg0 h0 hz
      rw [e]; clear e
      go_enter Tryd.func31, Tryd.ntmps31
      go_wp2
      go_ret
      exact ⟨rfl, rfl⟩
    · obtain ⟨p1, p2, e⟩ := place_neg h0 (by omega) hz
      have p3 : v.tmod n + n ≤ 1048576 := by omega
      generalize placeN v n = k at *
      have E := Lib.hid e
      clear e hz
      go_enter Tryd.func31, Tryd.ntmps31
      go_wp2
      go_ret
      exact ⟨ret_i64' E.out, rfl⟩
theorem from_any (A : Option Addr) (c B : Nat) (l : List Int) (i : Int) (n : Nat) (w : World) (h : Rd w B A l.length (l.map (Value.int .i64))) (hl : l.length ≤ maxLen) (hw : ∀ z ∈ l, (Lit.int .i64 z).wf = true) (h0 : 0 < n) (h1 : n ≤ 1048576) :
    Calls Tryd.prog 50 #[.slice A l.length c, .int .i64 i, .int .i64 n] w fun e w' => e = .returned (.int .i64 (fromN l i n : Nat)) ∧ w = w' := by
  have hb : -9223372036854775808 ≤ atI l i ∧ atI l i ≤ 9223372036854775807 := by
    unfold atI
    split
    · omega
    · rename_i hn
      rw [List.getD, List.getElem?_eq_getElem (show i.toNat < l.length by omega)]
      exact bounds_i64 (hw _ (List.getElem_mem _))
  have ca := fun W h => at_any A c B l i W h hl
  have cp := fun W => plc0_any (atI l i) n W h0 h1 hb.1 hb.2
  unfold fromN
  generalize atI l i = v at *
  generalize placeN v n = k at *
  generalize l.length = m at *
  have H := Lib.hid h
  clear h hb hw
  go_enter Tryd.func50, Tryd.ntmps50
  go_wp2_with fail
  refine (ca _ H.out).mono ?_
  rintro e w1 ⟨rfl, rfl⟩
  go_wp2_with fail
  refine (cp _).mono ?_
  rintro e w1 ⟨rfl, rfl⟩
  go_wp2
  go_ret
  exact ⟨rfl, rfl⟩
end Go.Proofs.YtabcpbmnemfnbaaDoor
