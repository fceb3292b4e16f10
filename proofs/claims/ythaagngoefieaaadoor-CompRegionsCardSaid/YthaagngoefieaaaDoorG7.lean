/-
  Merged parts, one behind another; each says ahead what it proves: Row VFam.
-/
import Derived.Test.YthaagngoefieaaaDoorG2
import Derived.Test.YthaagngoefieaaaDoorG1
import Derived.OpenShut
import Derived.IntWalk
import Derived.Test.YthaagngoefieaaaDoorG3
import Derived.StillTailTactics

/-
  A slice of integers that a law takes, read as a list; the statements' own Place, At and From. Conditions: bounds on the numbers.
-/
section
namespace Go.Proofs.YthaagngoefieaaaDoor
open Go.ChangeShapes Go.WideShapes Go.ChangeAt Go.RowKit
set_option linter.unusedVariables false

theorem row_rd {k : IntKind} {w : World} {a : Option Addr} {len cap : Nat} {zs : List Int}
    (h : (a = none ∧ len = 0 ∧ cap = 0 ∧ zs = []) ∨ ∃ x, a = some x ∧ len ≤ cap ∧ cap ≤ maxLen ∧ zs.length = cap ∧ (∀ i, i < zs.length → w.cell? (x.add i) = some (.int k (zs.getD i 0))) ∧ ∀ n ∈ zs, (Lit.int k n).wf = true) :
    Rd w w.heap.size a len ((zs.take len).map (Value.int k)) ∧ len ≤ maxLen ∧ (∀ n ∈ zs.take len, (Lit.int k n).wf = true) ∧ (zs.take len).length = len := by
  rcases h with ⟨rfl, rfl, rfl, rfl⟩ | ⟨x, rfl, hl, hm, hz, hcell, hwz⟩
  · exact ⟨⟨rfl, fun h => absurd h (by omega)⟩, by unfold maxLen; omega, fun n hn => by simp at hn, rfl⟩
  · refine ⟨⟨by simp; omega, fun h0 => ?_⟩, by omega, fun n hn => hwz n (List.mem_of_mem_take hn), by simp; omega⟩
    obtain ⟨b, off, spot⟩ := x
    have hspot : spot = none := by simpa [Addr.add] using World.cell?_spot (hcell 0 (by omega))
    subst hspot
    refine ⟨b, off, rfl, ?_, fun j u hu => ?_⟩
    · exact World.block_lt_of_cell? w ⟨b, off, none⟩ (by simpa [Addr.add] using hcell 0 (by omega))
    · have hadd : (⟨b, off, none⟩ : Addr).add j = ⟨b, off + j, none⟩ := by unfold Addr.add; split <;> simp_all
      rw [List.getElem?_map, List.getElem?_take] at hu
      by_cases hj : j < len
      · rw [if_pos hj] at hu
        have hc := hcell j (by omega)
        rw [hadd] at hc
        rw [List.getElem?_eq_getElem (by omega)] at hu
        rw [hc, ← hu]
        simp [List.getD, List.getElem?_eq_getElem (show j < zs.length by omega)]
      · rw [if_neg hj] at hu
        simp at hu

/-- The number at a place; 0 behind the end. -/
def atI (l : List Int) (i : Int) : Int := if i < 0 ∨ (l.length : Int) ≤ i then 0 else l.getD i.toNat 0
/-- Any number as one from 0 to n - 1. -/
def placeN (v : Int) (n : Nat) : Nat := (v % (n : Int)).toNat
def fromN (l : List Int) (i : Int) (n : Nat) : Nat := placeN (atI l i) n
theorem place_lt (v : Int) {n : Nat} (h : 0 < n) : placeN v n < n := by
  unfold placeN
  have h1 := Int.emod_nonneg v (show (n : Int) ≠ 0 by omega)
  have h2 := Int.emod_lt_of_pos v (show (0 : Int) < n by omega)
  omega
theorem place_cast (v : Int) {n : Nat} (h : 0 < n) : ((placeN v n : Nat) : Int) = v % (n : Int) := by
  unfold placeN
  exact Int.toNat_of_nonneg (Int.emod_nonneg v (by omega))
theorem place_pos {v : Int} {n : Nat} (h : 0 < n) (hv : 0 ≤ v) : v.tmod n = (placeN v n : Nat) := by
  rw [place_cast v h, Int.tmod_eq_emod_of_nonneg hv]
theorem place_neg0 {v : Int} {n : Nat} (h : 0 < n) (h0 : v.tmod n = 0) : (placeN v n : Nat) = (0 : Int) := by
  rw [place_cast v h]
  exact Int.emod_eq_zero_of_dvd (Int.dvd_of_tmod_eq_zero h0)
theorem place_neg {v : Int} {n : Nat} (h : 0 < n) (hv : v < 0) (h0 : v.tmod n ≠ 0) : v.tmod n < 0 ∧ -(n : Int) < v.tmod n ∧ v.tmod n + n = (placeN v n : Nat) := by
  have h1 : v.tmod n ≤ 0 := by
    have g1 : 0 ≤ (-v).tmod n := Int.tmod_nonneg _ (by omega)
    rw [Int.neg_tmod] at g1
    omega
  rw [place_cast v h]
  have h2 := Int.mul_tdiv_add_tmod v n
  have h3 := Int.lt_tmod_of_pos v (b := n) (by omega)
  refine ⟨by omega, h3, ?_⟩
  have h4 : v % (n : Int) = (v.tmod n + n) % n := by
    conv => lhs; rw [← h2]
    rw [Int.add_emod_right, Int.mul_add_emod_self_left]
  rw [h4, Int.emod_eq_of_lt (by omega) (by omega)]

theorem ret_i64' {a b : Int} (h : a = b) : Ending.returned (.int .i64 a) = .returned (.int .i64 b) := by rw [h]
theorem at_any (A : Option Addr) (c B : Nat) (l : List Int) (i : Int) (w : World) (h : Rd w B A l.length (l.map (Value.int .i64))) (hl : l.length ≤ maxLen) :
    Calls Tryd.prog 77 #[.slice A l.length c, .int .i64 i] w fun e w' => e = .returned (.int .i64 (atI l i)) ∧ w = w' := by
  unfold maxLen at hl
  by_cases h0 : i < 0
  · have e : atI l i = 0 := by unfold atI; rw [if_pos (.inl h0)]
    rw [e]; clear e
    generalize l.length = n at *
    go_enter Tryd.func77, Tryd.ntmps77
    go_wp2
    go_ret
    exact ⟨rfl, rfl⟩
  by_cases h1 : (l.length : Int) ≤ i
  · have e : atI l i = 0 := by unfold atI; rw [if_pos (.inr h1)]
    rw [e]; clear e
    generalize l.length = n at *
    go_enter Tryd.func77, Tryd.ntmps77
    go_wp2
    go_ret
    exact ⟨rfl, rfl⟩
  · obtain ⟨k, rfl⟩ : ∃ k : Nat, i = k := ⟨i.toNat, by omega⟩
    have hk : k < l.length := by omega
    obtain ⟨b, off, rfl, hb, hc⟩ := h.2 (by omega)
    have hck := hc k (.int .i64 l[k]) (by simp [List.getElem?_eq_getElem hk])
    have e : atI l k = l[k] := by
      unfold atI
      rw [if_neg (by omega), Int.toNat_natCast]
      simp [List.getD, List.getElem?_eq_getElem hk]
    rw [e]
    generalize l[k] = v at *
    clear e hc h
    generalize l.length = n at *
    have hkn : (k : Int) < (n : Int) := by omega
    go_enter Tryd.func77, Tryd.ntmps77
    go_wp2
    go_ret
    exact ⟨rfl, rfl⟩
theorem plc0_any (v : Int) (n : Nat) (w : World) (h0 : 0 < n) (h1 : n ≤ 1048576) (v1 : -9223372036854775808 ≤ v) (v2 : v ≤ 9223372036854775807) :
    Calls Tryd.prog 76 #[.int .i64 v, .int .i64 n] w fun e w' => e = .returned (.int .i64 (placeN v n : Nat)) ∧ w = w' := by
  by_cases hv : 0 ≤ v
  · have e := place_pos h0 hv
    have hp : (0 : Int) ≤ v.tmod n := by omega
    have hn : ((n : Int) == 0) = false := by simp; omega
    go_enter Tryd.func76, Tryd.ntmps76
    go_wp2
    go_ret
    exact ⟨rfl, rfl⟩
  · have hn : ((n : Int) == 0) = false := by simp; omega
    by_cases hz : v.tmod n = 0
    · have e := place_neg0 h0 hz
      rw [e]; clear e
      go_enter Tryd.func76, Tryd.ntmps76
      go_wp2
      go_ret
      exact ⟨rfl, rfl⟩
    · obtain ⟨p1, p2, e⟩ := place_neg h0 (by omega) hz
      have p3 : v.tmod n + n ≤ 1048576 := by omega
      generalize placeN v n = k at *
      have E := Lib.hid e
      clear e hz
      go_enter Tryd.func76, Tryd.ntmps76
      go_wp2
      go_ret
      exact ⟨ret_i64' E.out, rfl⟩
theorem from_any (A : Option Addr) (c B : Nat) (l : List Int) (i : Int) (n : Nat) (w : World) (h : Rd w B A l.length (l.map (Value.int .i64))) (hl : l.length ≤ maxLen) (hw : ∀ z ∈ l, (Lit.int .i64 z).wf = true) (h0 : 0 < n) (h1 : n ≤ 1048576) :
    Calls Tryd.prog 46 #[.slice A l.length c, .int .i64 i, .int .i64 n] w fun e w' => e = .returned (.int .i64 (fromN l i n : Nat)) ∧ w = w' := by
  have hb : -9223372036854775808 ≤ atI l i ∧ atI l i ≤ 9223372036854775807 := by
    unfold atI
    split
    · omega
    · rename_i hn
      rw [List.getD, List.getElem?_eq_getElem (show i.toNat < l.length by omega)]
      exact bounds_i64 (hw _ (List.getElem_mem _))
  have ca := fun W h => at_any A c B l i W h hl
  have cp := fun W => plc0_any (atI l i) n W h0 h1 hb.1 hb.2
  unfold fromN
  generalize atI l i = v at *
  generalize placeN v n = k at *
  generalize l.length = m at *
  have H := Lib.hid h
  clear h hb hw
  go_enter Tryd.func46, Tryd.ntmps46
  go_wp2_with fail
  refine (ca _ H.out).mono ?_
  rintro e w1 ⟨rfl, rfl⟩
  go_wp2_with fail
  refine (cp _).mono ?_
  rintro e w1 ⟨rfl, rfl⟩
  go_wp2
  go_ret
  exact ⟨rfl, rfl⟩
end Go.Proofs.YthaagngoefieaaaDoor
end

/-
  The walk of the statements' own Version: a version that may be, by five numbers. Conditions: the list's length and the place are bounded.
-/
section
namespace Go.Proofs.YthaagngoefieaaaDoor
open Go.ChangeShapes Go.WideShapes Go.ChangeAt Go.RowKit
set_option linter.unusedVariables false

def numT (k : Nat) : Int := [(0 : Int), 1, 2, 3, 0, 1, 10, 9999].getD k 0
def preT (k : Nat) : ByteArray := ([⟨#[]⟩, ⟨#[]⟩, ⟨#[]⟩, ⟨#[]⟩, ⟨#[48]⟩, ⟨#[49]⟩, ⟨#[50]⟩, ⟨#[49, 49]⟩, ⟨#[97]⟩, ⟨#[97, 46, 49]⟩, ⟨#[97, 46, 98]⟩, ⟨#[98]⟩, ⟨#[48, 46, 48]⟩, ⟨#[114, 99, 46, 49]⟩] : List ByteArray).getD k ⟨#[]⟩
def buildT (k : Nat) : ByteArray := ([⟨#[]⟩, ⟨#[]⟩, ⟨#[]⟩, ⟨#[]⟩, ⟨#[48, 48, 55]⟩, ⟨#[120, 46, 49]⟩] : List ByteArray).getD k ⟨#[]⟩
theorem num_cell {k : Nat} (h : k < 8) : (#[.int .i64 0, .int .i64 1, .int .i64 2, .int .i64 3, .int .i64 0, .int .i64 1, .int .i64 10, .int .i64 9999] : Array Value)[k]? = some (.int .i64 (numT k)) := by
  have hk : k = 0 ∨ k = 1 ∨ k = 2 ∨ k = 3 ∨ k = 4 ∨ k = 5 ∨ k = 6 ∨ k = 7 := by omega
  rcases hk with rfl | rfl | rfl | rfl | rfl | rfl | rfl | rfl <;> rfl
theorem pre_cell {k : Nat} (h : k < 14) : (#[.string ⟨#[]⟩, .string ⟨#[]⟩, .string ⟨#[]⟩, .string ⟨#[]⟩, .string ⟨#[48]⟩, .string ⟨#[49]⟩, .string ⟨#[50]⟩, .string ⟨#[49, 49]⟩, .string ⟨#[97]⟩, .string ⟨#[97, 46, 49]⟩, .string ⟨#[97, 46, 98]⟩, .string ⟨#[98]⟩, .string ⟨#[48, 46, 48]⟩, .string ⟨#[114, 99, 46, 49]⟩] : Array Value)[k]? = some (.string (preT k)) := by
  have hk : k = 0 ∨ k = 1 ∨ k = 2 ∨ k = 3 ∨ k = 4 ∨ k = 5 ∨ k = 6 ∨ k = 7 ∨ k = 8 ∨ k = 9 ∨ k = 10 ∨ k = 11 ∨ k = 12 ∨ k = 13 := by omega
  rcases hk with rfl | rfl | rfl | rfl | rfl | rfl | rfl | rfl | rfl | rfl | rfl | rfl | rfl | rfl <;> rfl
theorem build_cell {k : Nat} (h : k < 6) : (#[.string ⟨#[]⟩, .string ⟨#[]⟩, .string ⟨#[]⟩, .string ⟨#[]⟩, .string ⟨#[48, 48, 55]⟩, .string ⟨#[120, 46, 49]⟩] : Array Value)[k]? = some (.string (buildT k)) := by
  have hk : k = 0 ∨ k = 1 ∨ k = 2 ∨ k = 3 ∨ k = 4 ∨ k = 5 := by omega
  rcases hk with rfl | rfl | rfl | rfl | rfl | rfl <;> rfl

theorem still_same' {P : Program} {f : FuncId} {args : Array Value} {w : World} {v : Value} (h : Calls P f args w fun e w' => e = .returned v ∧ w = w') : Calls P f args w fun e w' => e = .returned v ∧ w' = w :=
  h.mono fun _ _ h => ⟨h.1, h.2.symm⟩
theorem version_res (W : World) (tmps : Array Value) (b : Nat) {x0 x1 x2 x3 x4 : Value} (h2 : tmps[4]?.getD undef = .pointer (some ⟨b, 0, none⟩)) (h : Five W b x0 x1 x2 x3 x4) :
    (results Tryd.f19 tmps).run Tryd.prog W = .ok (.agg #[x0, x1, x2, x3, x4]) W := by
  obtain ⟨k0, k1, k2, k3, k4⟩ := h
  simp [results, Tryd.results19, h2, go_sem, k0, k1, k2, k3, k4]

set_option maxHeartbeats 4000000 in
set_option maxRecDepth 8192 in
theorem version_any (A : Option Addr) (c B : Nat) (l : List Int) (i : Int) (w : World) (h : Rd w B A l.length (l.map (Value.int .i64))) (hB : B ≤ w.heap.size) (hl : l.length ≤ maxLen) (hw : ∀ z ∈ l, (Lit.int .i64 z).wf = true) (i0 : 0 ≤ i) (i1 : i ≤ 1000) :
    Calls Tryd.prog 19 #[.slice A l.length c, .int .i64 i] w fun e w' => e = .returned (.agg #[.int .i64 (numT (fromN l i 8)), .int .i64 (numT (fromN l (i + 1) 8)), .int .i64 (numT (fromN l (i + 2) 8)), .string (preT (fromN l (i + 3) 14)), .string (buildT (fromN l (i + 4) 6))]) ∧ Below w.heap.size w w' := by
  have HRD := Lib.hid h
  have cf := fun j n W h h0 h1 => from_any A c B l j n W h hl hw h0 h1
  have k0 : fromN l i 8 < 8 := place_lt _ (by omega)
  have k1 : fromN l (i + 1) 8 < 8 := place_lt _ (by omega)
  have k2 : fromN l (i + 2) 8 < 8 := place_lt _ (by omega)
  have k3 : fromN l (i + 3) 14 < 14 := place_lt _ (by omega)
  have k4 : fromN l (i + 4) 6 < 6 := place_lt _ (by omega)
  have s1 : IntKind.i64.wrap (i + 1) = i + 1 := IntWalk.i64_in _ (by omega)
  have s2 : IntKind.i64.wrap (i + 2) = i + 2 := IntWalk.i64_in _ (by omega)
  have s3 : IntKind.i64.wrap (i + 3) = i + 3 := IntWalk.i64_in _ (by omega)
  have s4 : IntKind.i64.wrap (i + 4) = i + 4 := IntWalk.i64_in _ (by omega)
  clear h
  have c0 : ∀ W : World, Rd W B A l.length (l.map (Value.int .i64)) → Calls Tryd.prog 46 #[.slice A l.length c, .int .i64 i, .int .i64 8] W fun e w' => e = .returned (.int .i64 (fromN l i 8 : Nat)) ∧ w' = W := fun W h => still_same' (cf i 8 W h (by omega) (by omega))
  have c1 : ∀ W : World, Rd W B A l.length (l.map (Value.int .i64)) → Calls Tryd.prog 46 #[.slice A l.length c, .int .i64 (i + 1), .int .i64 8] W fun e w' => e = .returned (.int .i64 (fromN l (i + 1) 8 : Nat)) ∧ w' = W := fun W h => still_same' (cf (i + 1) 8 W h (by omega) (by omega))
  have c2 : ∀ W : World, Rd W B A l.length (l.map (Value.int .i64)) → Calls Tryd.prog 46 #[.slice A l.length c, .int .i64 (i + 2), .int .i64 8] W fun e w' => e = .returned (.int .i64 (fromN l (i + 2) 8 : Nat)) ∧ w' = W := fun W h => still_same' (cf (i + 2) 8 W h (by omega) (by omega))
  have c3 : ∀ W : World, Rd W B A l.length (l.map (Value.int .i64)) → Calls Tryd.prog 46 #[.slice A l.length c, .int .i64 (i + 3), .int .i64 14] W fun e w' => e = .returned (.int .i64 (fromN l (i + 3) 14 : Nat)) ∧ w' = W := fun W h => still_same' (cf (i + 3) 14 W h (by omega) (by omega))
  have c4 : ∀ W : World, Rd W B A l.length (l.map (Value.int .i64)) → Calls Tryd.prog 46 #[.slice A l.length c, .int .i64 (i + 4), .int .i64 6] W fun e w' => e = .returned (.int .i64 (fromN l (i + 4) 6 : Nat)) ∧ w' = W := fun W h => still_same' (cf (i + 4) 6 W h (by omega) (by omega))
  have E0 := Lib.hid (num_cell k0)
  have E1 := Lib.hid (num_cell k1)
  have E2 := Lib.hid (num_cell k2)
  have E3 := Lib.hid (pre_cell k3)
  have E4 := Lib.hid (build_cell k4)
  clear cf
  generalize fromN l i 8 = n0 at *
  generalize fromN l (i + 1) 8 = n1 at *
  generalize fromN l (i + 2) 8 = n2 at *
  generalize fromN l (i + 3) 14 = n3 at *
  generalize fromN l (i + 4) 6 = n4 at *
  generalize numT n0 = x0 at *
  generalize numT n1 = x1 at *
  generalize numT n2 = x2 at *
  generalize preT n3 = x3 at *
  generalize buildT n4 = x4 at *
  have j0 : (n0 : Int) < 8 := by omega
  have j1 : (n1 : Int) < 8 := by omega
  have j2 : (n2 : Int) < 8 := by omega
  have j3 : (n3 : Int) < 14 := by omega
  have j4 : (n4 : Int) < 6 := by omega
  go_enter Tryd.func19, Tryd.ntmps19
  go_wp2_with fail
  generalize hwb : (((w.alloc (.cells #[.int .i64 0, .int .i64 0, .int .i64 0, .string ⟨#[]⟩, .string ⟨#[]⟩] 24)).alloc (.cells #[.int .i64 0, .int .i64 1, .int .i64 2, .int .i64 3, .int .i64 0, .int .i64 1, .int .i64 10, .int .i64 9999] 66)).alloc (.cells #[.string ⟨#[]⟩, .string ⟨#[]⟩, .string ⟨#[]⟩, .string ⟨#[]⟩, .string ⟨#[48]⟩, .string ⟨#[49]⟩, .string ⟨#[50]⟩, .string ⟨#[49, 49]⟩, .string ⟨#[97]⟩, .string ⟨#[97, 46, 49]⟩, .string ⟨#[97, 46, 98]⟩, .string ⟨#[98]⟩, .string ⟨#[48, 46, 48]⟩, .string ⟨#[114, 99, 46, 49]⟩] 67)).alloc (.cells #[.string ⟨#[]⟩, .string ⟨#[]⟩, .string ⟨#[]⟩, .string ⟨#[]⟩, .string ⟨#[48, 48, 55]⟩, .string ⟨#[120, 46, 49]⟩] 68) = wb at *
  have hbb : Below w.heap.size w wb := by
    rw [← hwb]
    exact ((((Below.refl _ _).alloc (Nat.le_refl _) _).alloc (by simp) _).alloc (by simp; omega) _).alloc (by simp; omega) _
  have b0 : Room wb w.heap.size (.int .i64 0) (.int .i64 0) (.int .i64 0) (.string ⟨#[]⟩) (.string ⟨#[]⟩) := by
    rw [← hwb]
    exact room_below (room_below (room_below (room_new w _ _ _ _ _ _) (by simp) (box_below _ _)) (by simp; omega) (box_below _ _)) (by simp; omega) (box_below _ _)
  have b1 : Blk wb (w.heap.size + 1) 66 #[.int .i64 0, .int .i64 1, .int .i64 2, .int .i64 3, .int .i64 0, .int .i64 1, .int .i64 10, .int .i64 9999] := by
    have h := ((Blk.new (w.alloc (.cells #[.int .i64 0, .int .i64 0, .int .i64 0, .string ⟨#[]⟩, .string ⟨#[]⟩] 24)) 66 #[.int .i64 0, .int .i64 1, .int .i64 2, .int .i64 3, .int .i64 0, .int .i64 1, .int .i64 10, .int .i64 9999]).alloc (.cells #[.string ⟨#[]⟩, .string ⟨#[]⟩, .string ⟨#[]⟩, .string ⟨#[]⟩, .string ⟨#[48]⟩, .string ⟨#[49]⟩, .string ⟨#[50]⟩, .string ⟨#[49, 49]⟩, .string ⟨#[97]⟩, .string ⟨#[97, 46, 49]⟩, .string ⟨#[97, 46, 98]⟩, .string ⟨#[98]⟩, .string ⟨#[48, 46, 48]⟩, .string ⟨#[114, 99, 46, 49]⟩] 67)).alloc (.cells #[.string ⟨#[]⟩, .string ⟨#[]⟩, .string ⟨#[]⟩, .string ⟨#[]⟩, .string ⟨#[48, 48, 55]⟩, .string ⟨#[120, 46, 49]⟩] 68)
    rw [hwb] at h
    simpa using h
  have b2 : Blk wb (w.heap.size + 1 + 1) 67 #[.string ⟨#[]⟩, .string ⟨#[]⟩, .string ⟨#[]⟩, .string ⟨#[]⟩, .string ⟨#[48]⟩, .string ⟨#[49]⟩, .string ⟨#[50]⟩, .string ⟨#[49, 49]⟩, .string ⟨#[97]⟩, .string ⟨#[97, 46, 49]⟩, .string ⟨#[97, 46, 98]⟩, .string ⟨#[98]⟩, .string ⟨#[48, 46, 48]⟩, .string ⟨#[114, 99, 46, 49]⟩] := by
    have h := (Blk.new ((w.alloc (.cells #[.int .i64 0, .int .i64 0, .int .i64 0, .string ⟨#[]⟩, .string ⟨#[]⟩] 24)).alloc (.cells #[.int .i64 0, .int .i64 1, .int .i64 2, .int .i64 3, .int .i64 0, .int .i64 1, .int .i64 10, .int .i64 9999] 66)) 67 #[.string ⟨#[]⟩, .string ⟨#[]⟩, .string ⟨#[]⟩, .string ⟨#[]⟩, .string ⟨#[48]⟩, .string ⟨#[49]⟩, .string ⟨#[50]⟩, .string ⟨#[49, 49]⟩, .string ⟨#[97]⟩, .string ⟨#[97, 46, 49]⟩, .string ⟨#[97, 46, 98]⟩, .string ⟨#[98]⟩, .string ⟨#[48, 46, 48]⟩, .string ⟨#[114, 99, 46, 49]⟩]).alloc (.cells #[.string ⟨#[]⟩, .string ⟨#[]⟩, .string ⟨#[]⟩, .string ⟨#[]⟩, .string ⟨#[48, 48, 55]⟩, .string ⟨#[120, 46, 49]⟩] 68)
    rw [hwb] at h
    simpa using h
  have b3 : Blk wb (w.heap.size + 1 + 1 + 1) 68 #[.string ⟨#[]⟩, .string ⟨#[]⟩, .string ⟨#[]⟩, .string ⟨#[]⟩, .string ⟨#[48, 48, 55]⟩, .string ⟨#[120, 46, 49]⟩] := by
    have h := Blk.new (((w.alloc (.cells #[.int .i64 0, .int .i64 0, .int .i64 0, .string ⟨#[]⟩, .string ⟨#[]⟩] 24)).alloc (.cells #[.int .i64 0, .int .i64 1, .int .i64 2, .int .i64 3, .int .i64 0, .int .i64 1, .int .i64 10, .int .i64 9999] 66)).alloc (.cells #[.string ⟨#[]⟩, .string ⟨#[]⟩, .string ⟨#[]⟩, .string ⟨#[]⟩, .string ⟨#[48]⟩, .string ⟨#[49]⟩, .string ⟨#[50]⟩, .string ⟨#[49, 49]⟩, .string ⟨#[97]⟩, .string ⟨#[97, 46, 49]⟩, .string ⟨#[97, 46, 98]⟩, .string ⟨#[98]⟩, .string ⟨#[48, 46, 48]⟩, .string ⟨#[114, 99, 46, 49]⟩] 67)) 68 #[.string ⟨#[]⟩, .string ⟨#[]⟩, .string ⟨#[]⟩, .string ⟨#[]⟩, .string ⟨#[48, 48, 55]⟩, .string ⟨#[120, 46, 49]⟩]
    rw [hwb] at h
    simpa using h
  have hrb : Rd wb.drew B A l.length (l.map (Value.int .i64)) := rd_below HRD.out ((below_drewN hbb 1).mono hB)
  clear hwb
  have e0 := (b1.cell _).trans E0.out
  have e1 := (b1.cell _).trans E1.out
  have e2 := (b1.cell _).trans E2.out
  have e3 := (b2.cell _).trans E3.out
  have e4 := (b3.cell _).trans E4.out
  clear b1 b2 b3
  have d0 := c0 _ hrb
  have d1 := c1 _ hrb
  have d2 := c2 _ hrb
  have d3 := c3 _ hrb
  have d4 := c4 _ hrb
  clear c0 c1 c2 c3 c4 hrb
  refine wp_region_still_tail 29 (by kernel_rfl) (by kernel_rfl) ?_
  simp only [List.take_succ_cons, List.take_zero, List.drop_succ_cons, List.drop_zero]
  iterate 2 still_step
  still_call d0
  iterate 5 still_step
  still_call d1
  iterate 5 still_step
  still_call d2
  iterate 5 still_step
  still_call d3
  iterate 5 still_step
  still_call d4
  iterate 2 still_step
  refine wpStill_nil ?_
  change wpList _ _ _ _ _ wb.drew
  have b5 : Room wb.drew w.heap.size (.int .i64 0) (.int .i64 0) (.int .i64 0) (.string ⟨#[]⟩) (.string ⟨#[]⟩) := b0
  have hbd : Below w.heap.size w wb.drew := below_drewN hbb 1
  clear d0 d1 d2 d3 d4 e0 e1 e2 e3 e4 b0
  generalize wb.drew = wd at *
  obtain ⟨⟨l0, l1, l2, l3, l4⟩, lf⟩ := id b5
  have f0 := lf 0
  have f1 := lf 1
  have f2 := lf 2
  have f3 := lf 3
  have f4 := lf 4
  go_wp2_with fail
  have hput := room_put b5 (.int .i64 x0) (.int .i64 x1) (.int .i64 x2) (.string x3) (.string x4)
  refine bodyPost_ret (version_res _ _ w.heap.size rfl hput.1) rfl ?_
  refine ⟨rfl, ?_⟩
  go_grown
end Go.Proofs.YthaagngoefieaaaDoor
end
