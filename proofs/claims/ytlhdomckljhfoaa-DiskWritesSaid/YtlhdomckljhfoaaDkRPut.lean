/-
  The walk of the reference's put: one write laid over a disk's bytes. Conditions: the bytes are a disk's, and the caller's own.
-/
import Derived.Test.YtlhdomckljhfoaaDkLoad
import Derived.BigRegion
namespace Go.Proofs.Ytlhdomckljhfoaa
open Go.ChangeShapes Go.WideShapes Go.ChangeAt Go.RowKit
set_option linter.unusedVariables false
set_option linter.unusedSimpArgs false

theorem putP_out (L : List UInt8) (a : Int) (x : List UInt8) (h : ¬ (0 ≤ a ∧ a * 64 < L.length)) : putP L a x = L := if_neg h
theorem putP_in (L : List UInt8) (a : Nat) (x : List UInt8) (h : a * 64 < L.length) : putP L a x = over L (a * 64) (x.take 64) := by
  unfold putP
  rw [if_pos (by omega)]
  rfl

set_option maxHeartbeats 1000000 in
set_option maxRecDepth 100000 in
theorem rput_in (g cap : Nat) (L : List UInt8) (a : Nat) (x : ByteArray) (n : Int) (w : World) (hB : Byt w g L) (hL : L.length = 20480) (ha : a < 320) (hx : x.size ≤ 1073741824) :
    Calls Try.prog 27 #[.slice (some ⟨g, 0, none⟩) 20480 cap, .agg #[.int .i64 (a : Int), .string x], .int .i64 n] w fun e w' => e = .returned (.tuple #[]) ∧ Byt w' g (putP L a (x.data.toList.take n.toNat)) ∧ w.grownBy w' (some g) := by
  have HP := Lib.hid (putP_in L a (x.data.toList.take n.toNat) (by omega))
  have hKl : ((x.data.toList.take n.toNat).take 64).length = min 64 (min n.toNat x.size) := by simp
  have hKx : ∀ j, j < min 64 (min n.toNat x.size) → ((x.data.toList.take n.toNat).take 64)[j]? = x.data.toList[j]? := fun j hj => by
    rw [List.getElem?_take, if_pos (by omega), List.getElem?_take, if_pos (by omega)]
  generalize (x.data.toList.take n.toNat).take 64 = X at *
  have HK := Lib.hid hKl
  have HKX := Lib.hid hKx
  have HL := Lib.hid hL
  have HB := Lib.hid hB
  have hgl := hB.lt
  have hgne : g ≠ w.heap.size := by omega
  clear hKl hKx hL hB
  go_enter Try.func27, Try.ntmps27
  go_wp2
  go_loopw [6] (fun i wr => ∃ k : Nat, k ≤ X.length ∧ i = .int .i64 k ∧ Byt wr g (over L (a * 64) (X.take k)) ∧ wr.cell? ⟨w.heap.size, 0, none⟩ = some (.int .i64 (a : Int)) ∧ wr.cell? ⟨w.heap.size, 1, none⟩ = some (.string x) ∧ w.grownBy wr (some g)) (fun i _ => 64 - (intOf i).toNat)
  case atStart => exact ⟨0, by omega, rfl, by rw [List.take_zero, over_nil]; exact HB.out.alloc _, by simp [go_sem], by simp [go_sem], only_alloc (World.grownBy.refl _ _) _⟩
  case round =>
    obtain ⟨k, hk, rfl, hBk, hc0, hc1, hgr⟩ := hrel
    have HX : Hid (X.length = min 64 (min n.toNat x.size)) := HK.out
    by_cases hlt : k < X.length
    · have hk64 : k < 64 := by have := HX.out; omega
      have hkx : k < x.size := by have := HX.out; omega
      have hkn : (k : Int) < n := by have := HX.out; omega
      have hxk : X[k]? = some x[k] := (HKX.out k (by have := HX.out; omega)).trans (byte_at x k hkx)
      have HSET := Lib.hid (over_take_succ L (a * 64) X k _ hxk)
      have hBl : (over L (a * 64) (X.take k)).length = 20480 := by rw [over_len]; exact HL.out
      obtain ⟨v, hcell⟩ : ∃ v, wr.cell? ⟨g, a * 64 + k, none⟩ = some (.int .u8 v) := ⟨_, hBk.at_ (j := a * 64 + k) (by omega)⟩
      have hfr : wr.frozen? ⟨g, a * 64 + k, none⟩ = false := hBk.free _ (by omega)
      have HBK := Lib.hid hBk
      have HBL := Lib.hid hBl
      have w1 : IntKind.i64.wrap ((a : Int) * 64) = a * 64 := IntWalk.i64_in _ (by omega)
      have w2 : IntKind.i64.wrap ((a : Int) * 64 + k) = a * 64 + k := IntWalk.i64_in _ (by omega)
      have w3 : ((a : Int) * 64 + k).toNat = a * 64 + k := by omega
      have i1 : (a : Int) < 20480 := by omega
      have i2 : (a : Int) * 64 + k < 20480 := by omega
      have i3 : (0 : Int) ≤ (a : Int) * 64 + k := by omega
      clear hBk hBl hxk
      go_wp2_with fail
      go_region
      go_wp2_with fail
      go_roundw
      case rel =>
        refine ⟨k + 1, by omega, by go_num, ?_, ?_, ?_, only_drew (only_setCell hgr (.inl rfl) _)⟩
        · rw [← HSET.out]
          exact (HBK.out.set_ (k := a * 64 + k) (by rw [HBL.out]; omega) x[k]).drew
        · exact (World.cell?_setCell_other wr _ _ _ (fun e => hgne (by injection e))).trans hc0
        · exact (World.cell?_setCell_other wr _ _ _ (fun e => hgne (by injection e))).trans hc1
      case measure => simp [intOf]; omega
    · obtain rfl : k = X.length := by omega
      have HT : Hid (X.take X.length = X) := List.take_of_length_le (Nat.le_refl _)
      have HFIN : Hid (Byt wr g (putP L a (x.data.toList.take n.toNat))) := by
        show Byt _ _ _
        rw [HP.out, ← HT.out]
        exact hBk
      clear hBk
      by_cases h1 : (X.length : Int) < n
      · by_cases h2 : X.length < x.size
        · have h3 : ¬ (X.length : Int) < 64 := by have := HX.out; omega
          go_wp2
          exact bodyPost_end (v := .tuple #[]) (by simp [results, Try.results27, go_sem]) rfl ⟨rfl, HFIN.out, hgr⟩
        · go_wp2
          exact bodyPost_end (v := .tuple #[]) (by simp [results, Try.results27, go_sem]) rfl ⟨rfl, HFIN.out, hgr⟩
      · go_wp2
        exact bodyPost_end (v := .tuple #[]) (by simp [results, Try.results27, go_sem]) rfl ⟨rfl, HFIN.out, hgr⟩

set_option maxHeartbeats 1000000 in
set_option maxRecDepth 100000 in
theorem rput_out (g cap : Nat) (L : List UInt8) (a : Int) (x : ByteArray) (n : Int) (w : World) (hB : Byt w g L) (hL : L.length = 20480) (ha : ¬ (0 ≤ a ∧ a < 320)) (hx : x.size ≤ 1073741824) :
    Calls Try.prog 27 #[.slice (some ⟨g, 0, none⟩) 20480 cap, .agg #[.int .i64 a, .string x], .int .i64 n] w fun e w' => e = .returned (.tuple #[]) ∧ Byt w' g (putP L a (x.data.toList.take n.toNat)) ∧ w.grownBy w' (some g) := by
  have HP := Lib.hid (putP_out L a (x.data.toList.take n.toNat) (by omega))
  have HB := Lib.hid hB
  clear hB
  go_enter Try.func27, Try.ntmps27
  go_wp2
  go_loopw [6] (fun i wr => ∃ k : Nat, (k = 0 ∨ (k ≤ 64 ∧ k ≤ x.size ∧ (k : Int) ≤ n)) ∧ i = .int .i64 k ∧ Byt wr g L ∧ wr.cell? ⟨w.heap.size, 0, none⟩ = some (.int .i64 a) ∧ wr.cell? ⟨w.heap.size, 1, none⟩ = some (.string x) ∧ w.grownBy wr (some g)) (fun i _ => 64 - (intOf i).toNat)
  case atStart => exact ⟨0, .inl rfl, rfl, HB.out.alloc _, by simp [go_sem], by simp [go_sem], only_alloc (World.grownBy.refl _ _) _⟩
  case round =>
    obtain ⟨k, hk, rfl, hBk, hc0, hc1, hgr⟩ := hrel
    have HFIN : Hid (Byt wr g (putP L a (x.data.toList.take n.toNat))) := by
      show Byt _ _ _
      rw [HP.out]
      exact hBk
    have HBK := Lib.hid hBk
    clear hBk
    have hk64 : k ≤ 64 := by omega
    by_cases h1 : (k : Int) < n
    · by_cases h2 : k < x.size
      · by_cases h3 : (k : Int) < 64
        · by_cases h4 : 0 ≤ a
          · by_cases h5 : a < 20480
            · have h6 : 20480 ≤ a * 64 + k := by omega
              have w1 : IntKind.i64.wrap (a * 64) = a * 64 := IntWalk.i64_in _ (by omega)
              have w2 : IntKind.i64.wrap (a * 64 + k) = a * 64 + k := IntWalk.i64_in _ (by omega)
              go_wp2
              go_roundw
              case rel => exact ⟨k + 1, .inr ⟨by omega, by omega, by omega⟩, by go_num, HBK.out, hc0, hc1, hgr⟩
              case measure => simp [intOf]; omega
            · go_wp2
              go_roundw
              case rel => exact ⟨k + 1, .inr ⟨by omega, by omega, by omega⟩, by go_num, HBK.out, hc0, hc1, hgr⟩
              case measure => simp [intOf]; omega
          · go_wp2
            go_roundw
            case rel => exact ⟨k + 1, .inr ⟨by omega, by omega, by omega⟩, by go_num, HBK.out, hc0, hc1, hgr⟩
            case measure => simp [intOf]; omega
        · go_wp2
          exact bodyPost_end (v := .tuple #[]) (by simp [results, Try.results27, go_sem]) rfl ⟨rfl, HFIN.out, hgr⟩
      · go_wp2
        exact bodyPost_end (v := .tuple #[]) (by simp [results, Try.results27, go_sem]) rfl ⟨rfl, HFIN.out, hgr⟩
    · go_wp2
      exact bodyPost_end (v := .tuple #[]) (by simp [results, Try.results27, go_sem]) rfl ⟨rfl, HFIN.out, hgr⟩

/-- The reference's put, whatever the write. -/
theorem rput_any (g cap : Nat) (L : List UInt8) (a : Int) (x : ByteArray) (n : Int) (w : World) (hB : Byt w g L) (hL : L.length = 20480) (hx : x.size ≤ 1073741824) :
    Calls Try.prog 27 #[.slice (some ⟨g, 0, none⟩) 20480 cap, .agg #[.int .i64 a, .string x], .int .i64 n] w fun e w' => e = .returned (.tuple #[]) ∧ Byt w' g (putP L a (x.data.toList.take n.toNat)) ∧ w.grownBy w' (some g) := by
  by_cases h : 0 ≤ a ∧ a < 320
  · obtain ⟨m, rfl⟩ : ∃ m : Nat, a = m := ⟨a.toNat, by omega⟩
    exact rput_in g cap L m x n w hB hL (by omega) hx
  · exact rput_out g cap L a x n w hB hL h hx
end Go.Proofs.Ytlhdomckljhfoaa
