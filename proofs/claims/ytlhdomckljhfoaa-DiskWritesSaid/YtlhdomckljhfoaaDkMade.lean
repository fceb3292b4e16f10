/-
  The walks of the statements' own functions of chapter 40: Place, text, same. Conditions: sizes alone.
-/
import Derived.Test.YtlhdomckljhfoaaDkRSave
import Derived.OpenShut
namespace Go.Proofs.Ytlhdomckljhfoaa
open Go.ChangeShapes Go.WideShapes Go.ChangeAt Go.RowKit
set_option linter.unusedVariables false
set_option linter.unusedSimpArgs false

/-- Place: any number as one from 0 to n - 1. -/
def placeI (v n : Int) : Int := if v.tmod n < 0 then v.tmod n + n else v.tmod n
theorem placeI_bd (v n : Int) (h1 : 0 < n) : 0 ≤ placeI v n ∧ placeI v n < n := by
  have hm1 := Int.tmod_lt_of_pos v h1
  have hm2 : -n < v.tmod n := by
    have := Int.tmod_lt_of_pos (-v) h1
    rw [Int.neg_tmod] at this
    omega
  unfold placeI
  split <;> omega
theorem place_any (v n : Int) (w : World) (h1 : 0 < n) (h2 : n ≤ 9223372036854775807) (hv : -9223372036854775808 ≤ v) (hv2 : v ≤ 9223372036854775807) :
    Calls Try.prog 17 #[.int .i64 v, .int .i64 n] w fun e w' => e = .returned (.int .i64 (placeI v n)) ∧ w = w' := by
  have hm1 := Int.tmod_lt_of_pos v h1
  have hm2 : -n < v.tmod n := by
    have := Int.tmod_lt_of_pos (-v) h1
    rw [Int.neg_tmod] at this
    omega
  have HP : Hid (placeI v n = if v.tmod n < 0 then v.tmod n + n else v.tmod n) := rfl
  by_cases hneg : v.tmod n < 0
  · have HP : Hid (placeI v n = v.tmod n + n) := by show _ = _; rw [HP.out, if_pos hneg]
    go_enter Try.func17, Try.ntmps17
    go_wp2
    go_ret
    exact ⟨ret_int HP.out.symm, rfl⟩
  · have HP : Hid (placeI v n = v.tmod n) := by show _ = _; rw [HP.out, if_neg hneg]
    go_enter Try.func17, Try.ntmps17
    go_wp2
    go_ret
    exact ⟨ret_int HP.out.symm, rfl⟩

/-- How many bytes a text has, by its number; its bytes. -/
def sizes : List Nat := [0, 64, 128, 8192, 8191, 8193]
def sizeT (m : Nat) : Nat := if m % 17 = 0 then sizes.getD (m / 17 % 6) 0 else m % 300
def byteT (m i : Nat) : UInt8 := UInt8.ofNat (97 + (m / 300 + i * i) % 26)
def textL (m : Nat) : List UInt8 := (List.range (sizeT m)).map (byteT m)
theorem textL_len (m : Nat) : (textL m).length = sizeT m := by simp [textL]
theorem sizeT_le (m : Nat) : sizeT m ≤ 8193 := by
  unfold sizeT
  split
  · have h : m / 17 % 6 < 6 := Nat.mod_lt _ (by omega)
    generalize m / 17 % 6 = j at *
    rcases (by omega : j = 0 ∨ j = 1 ∨ j = 2 ∨ j = 3 ∨ j = 4 ∨ j = 5) with rfl | rfl | rfl | rfl | rfl | rfl <;> decide
  · omega
/-- The first k bytes of a text, the rest 0. -/
def partT (m k : Nat) : List UInt8 := (List.range (sizeT m)).map fun i => if i < k then byteT m i else 0
theorem partT_len (m k : Nat) : (partT m k).length = sizeT m := by simp [partT]
theorem partT_zero (m : Nat) : partT m 0 = List.replicate (sizeT m) 0 := by
  unfold partT
  rw [← map_const_range]
  exact List.map_congr_left fun i _ => if_neg (by omega)
theorem partT_full (m : Nat) : partT m (sizeT m) = textL m := by
  unfold partT textL
  exact List.map_congr_left fun i hi => if_pos (by simpa using hi)
theorem partT_set (m k : Nat) (h : k < sizeT m) : (partT m k).set k (byteT m k) = partT m (k + 1) := by
  apply List.ext_getElem?; intro i
  rw [List.getElem?_set]
  by_cases hi : i < sizeT m
  · by_cases e : k = i
    · subst e
      rw [if_pos rfl, if_pos (by rw [partT_len]; exact h)]
      simp [partT, hi]
    · rw [if_neg e]
      simp [partT, hi]
      by_cases h2 : i < k
      · rw [if_pos h2, if_pos (by omega)]
      · rw [if_neg h2, if_neg (by omega)]
  · rw [List.getElem?_eq_none (by rw [partT_len]; omega), List.getElem?_eq_none (by rw [partT_len]; omega)]
    by_cases e : k = i
    · omega
    · rw [if_neg e]
theorem byteT_bi (m k : Nat) : 97 + ((m : Int) / 300 + (k : Int) * k) % 26 = bi (byteT m k) := by
  unfold bi byteT
  rw [UInt8.toNat_ofNat']
  have e : ((m : Int) / 300 + (k : Int) * k) % 26 = (((m / 300 + k * k) % 26 : Nat) : Int) := by
    rw [Int.natCast_emod, Int.natCast_add, Int.natCast_ediv, Int.natCast_mul]; rfl
  rw [e]
  have : (m / 300 + k * k) % 26 < 26 := Nat.mod_lt _ (by omega)
  omega

/-- Making the bytes, filling them: what comes behind the size. -/
def TextIs (v : Int) (w : World) (e : Ending) (w' : World) : Prop := e = .returned (.string ⟨(textL (placeI v 1048576).toNat).toArray⟩) ∧ Below w.heap.size w w'

set_option maxHeartbeats 2000000 in
theorem text_any (v : Int) (w : World) (hv : -9223372036854775808 ≤ v) (hv2 : v ≤ 9223372036854775807) :
    Calls Try.prog 15 #[.int .i64 v] w (TextIs v w) := by
  have cP := fun W => place_any v 1048576 W (by omega) (by omega) hv hv2
  obtain ⟨hp0, hp1⟩ := placeI_bd v 1048576 (by omega)
  obtain ⟨m, hm⟩ : ∃ m : Nat, placeI v 1048576 = m := ⟨(placeI v 1048576).toNat, by omega⟩
  have HT : Hid (TextIs v w = fun e w' => e = .returned (.string ⟨(textL m).toArray⟩) ∧ Below w.heap.size w w') := by show _ = _; unfold TextIs; rw [hm]; rfl
  rw [hm] at cP hp0 hp1
  have hm1 : m < 1048576 := by omega
  clear hm hp0 hp1 hv hv2
  obtain ⟨i0, hi0, hz0, hz1, hz2⟩ := info_parts info_u8
  have hsle := sizeT_le m
  go_enter Try.func15, Try.ntmps15
  go_upto_if 12 with (go_at_call 17; refine (cP _).mono ?_; rintro e w' ⟨rfl, rfl⟩)
  go_cut [3] from 10 to 18 (fun x wx => x = .int .i64 (sizeT m : Int) ∧ Below w.heap.size w wx)
  case first =>
    by_cases h17 : m % 17 = 0
    · have hb : ((m : Int) % 17 == 0) = true := by simp; omega
      have hcell : (w.alloc (.cells #[Value.int .i64 0, Value.int .i64 64, Value.int .i64 128, Value.int .i64 8192, Value.int .i64 8191, Value.int .i64 8193] 3)).cell? ⟨w.heap.size, m / 17 % 6, none⟩ = some (.int .i64 (sizeT m : Int)) := by
        rw [World.cell?_alloc_mark]
        unfold sizeT
        rw [if_pos h17]
        have h : m / 17 % 6 < 6 := Nat.mod_lt _ (by omega)
        generalize m / 17 % 6 = j at *
        rcases (by omega : j = 0 ∨ j = 1 ∨ j = 2 ∨ j = 3 ∨ j = 4 ∨ j = 5) with rfl | rfl | rfl | rfl | rfl | rfl <;> rfl
      clear h17
      go_wp2
      go_meet
      exact ⟨rfl, (Below.refl _ _).alloc (Nat.le_refl _) _⟩
    · have hb : ((m : Int) % 17 == 0) = false := by simp; omega
      have HS : Hid ((m : Int) % 300 = (sizeT m : Int)) := by show _ = _; unfold sizeT; rw [if_neg h17]; omega
      clear h17
      go_wp2
      go_meet
      exact ⟨val_int HS.out, Below.refl _ _⟩
  case rest =>
    obtain ⟨rfl, hbel⟩ := hcut
    have hmk := fun w => run_make_row (P := Try.prog) 38 5 i0 (.int .u8 0) Try.underlying38 hi0 hz0 hz1 rfl .i64 .i64 (sizeT m) (by rw [hz2]; omega) (by omega) w
    rw [made_b8] at hmk
    have hB0 := fun w : World => byt_arr w (List.replicate (sizeT m) 0) _ 5 rfl
    rw [← partT_zero] at hmk hB0
    have HF := Lib.hid (partT_full m)
    have HPL := Lib.hid (partT_len m)
    have HSET := Lib.hid (partT_set m)
    generalize sizeT m = K at *
    go_wp2
    clear hmk
    go_loopw [5] (fun i wr => ∃ k : Nat, k ≤ K ∧ i = .int .i64 k ∧ Byt wr wc.heap.size (partT m k) ∧ Below w.heap.size w wr) (fun i _ => K - (intOf i).toNat)
    case atStart => exact ⟨0, by omega, rfl, hB0 wc, hbel.alloc hbel.size _⟩
    case round =>
      have hsz := hbel.size
      clear hbel hB0
      obtain ⟨k, hk, rfl, hB, hbel⟩ := hrel
      by_cases hlt : k < K
      · have hbt := byteT_bi m k
        obtain ⟨hc0, hc1⟩ := bi_bd (byteT m k)
        have hkk1 : (0 : Int) ≤ (k : Int) * k := Int.mul_nonneg (by omega) (by omega)
        have hkk2 : (k : Int) * k ≤ 67125249 := by
          have : (k : Int) * k ≤ 8193 * 8193 := Int.mul_le_mul (by omega) (by omega) (by omega) (by omega)
          omega
        have hm3 : (m : Int) / 300 ≤ 3496 := by omega
        have hm4 : (0 : Int) ≤ (m : Int) / 300 := by omega
        obtain ⟨v0, hcell⟩ : ∃ v, wr.cell? ⟨wc.heap.size, k, none⟩ = some (.int .u8 v) := ⟨_, hB.at_ (j := k) (by rw [HPL.out]; exact hlt)⟩
        have hfr : wr.frozen? ⟨wc.heap.size, k, none⟩ = false := hB.free _ (by rw [HPL.out]; exact hlt)
        have HB := Lib.hid hB
        clear hB
        go_wp2
        go_roundw
        case rel => exact ⟨k + 1, by omega, by go_num, by rw [← HSET.out k hlt]; exact HB.out.set_ (k := k) (by rw [HPL.out]; exact hlt) _, hbel.setCell hsz _⟩
        case measure => simp [intOf]; omega
      · obtain rfl : k = K := by omega
        rw [HF.out] at hB
        have hl : (textL m).length = k := by rw [← HF.out]; exact HPL.out k
        have hcv := hB.conv (P := Try.prog) 38 9 Try.underlying38 Try.underlying5 Try.underlying9 0 k k (textL m) hl (fun j hj => by rw [Nat.zero_add])
        clear hB hl
        go_wp2
        go_ret
        rw [HT.out]
        exact ⟨rfl, hbel⟩

/-- same: two rows of writes that read as one list. -/
theorem same_any (A A' : Option Addr) (n c c' B B' : Nat) (l : List Wr) (w : World) (hr : RdW w B A n l) (hr' : RdW w B' A' n l) (hn : n ≤ 1073741824) :
    Calls Try.prog 18 #[.slice A n c, .slice A' n c'] w fun e w' => e = .returned (.bool true) ∧ Below w.heap.size w w' := by
  have HR := Lib.hid hr
  have HR' := Lib.hid hr'
  clear hr hr'
  go_enter Try.func18, Try.ntmps18
  go_wp2
  go_loopw [5] (fun i wr => ∃ k : Nat, k ≤ n ∧ i = .int .i64 k ∧ ∃ q, wr = w.drewN q) (fun i _ => n - (intOf i).toNat)
  case atStart => exact ⟨0, by omega, rfl, 0, rfl⟩
  case round =>
    obtain ⟨k, hk, rfl, q, rfl⟩ := hrel
    by_cases hlt : k < n
    · obtain ⟨b, off, a, x, rfl, hbB, hx, hxs, hca, hcx⟩ := rdw_at HR.out hlt
      obtain ⟨b', off', a', x', rfl, hbB', hx', hxs', hca', hcx'⟩ := rdw_at HR'.out hlt
      obtain ⟨rfl, rfl⟩ : a = a' ∧ x = x' := by rw [hx] at hx'; injection hx' with hx'; injection hx' with h1 h2; exact ⟨h1, h2⟩
      clear hx hx' hxs hxs' HR HR'
      have i1 : (k : Int) < (n : Int) := by omega
      generalize (⟨x.toArray⟩ : ByteArray) = t at *
      go_wp2
      go_quiet (fail)
      go_wp2
      go_roundw
      case rel => exact ⟨k + 1, by omega, by go_num, _, rfl⟩
      case measure => simp [intOf]; omega
    · go_wp2
      go_ret
      exact ⟨rfl, below_drewN (Below.refl _ _) _⟩
end Go.Proofs.Ytlhdomckljhfoaa
