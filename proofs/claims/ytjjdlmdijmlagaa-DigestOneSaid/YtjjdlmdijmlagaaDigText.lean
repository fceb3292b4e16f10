/-
  The walks of chapter 9's texts: Text and Read, the program's and the reference's. Conditions: none.
-/
import Derived.Test.YtjjdlmdijmlagaaDigSum
import Derived.Deep.RegionHeld3
import Derived.StillTailTactics
import Derived.Laws.BytesArg
namespace Go.Proofs.Ytjjdlmdijmlagaa
open Go.ChangeShapes Go.WideShapes Go.ChangeAt Go.RowKit

/-- The digit of a number below 16. -/
def hexN (d : Nat) : Nat := if d < 10 then 48 + d else 87 + d
def hexI (d : Nat) : Int := (hexN d : Int)
/-- The digit of n at place j, counted from the left. -/
def dig (n : UInt64) (j : Nat) : Int := hexI (n.toNat / 16 ^ (15 - j) % 16)
def textOf (n : UInt64) : List Int := (List.range 16).map (dig n)

/-- The 16 cells while they are filled from the right: k are filled. -/
def tcell (n : UInt64) (k j : Nat) : Value := .int .u8 (if 16 ≤ j + k then dig n j else 0)
def tcells (n : UInt64) (k : Nat) : Array Value := ((List.range 16).map (tcell n k)).toArray

theorem tcells_set (n : UInt64) (k : Nat) (hk : k < 16) : (tcells n k).setIfInBounds (15 - k) (.int .u8 (dig n (15 - k))) = tcells n (k + 1) := by
  unfold tcells
  apply Array.toList_inj.1
  apply List.ext_getElem
  · simp
  intro j h1 h2
  simp at h1
  simp [List.getElem_set, tcell]
  by_cases e : 15 - k = j
  · subst e
    simp [show 16 ≤ 15 - k + (k + 1) from by omega]
  · simp [e]
    by_cases e2 : 16 ≤ j + k
    · simp [e2, show 16 ≤ j + (k + 1) from by omega]
    · simp [e2, show ¬ 16 ≤ j + (k + 1) from by omega]

theorem dig_at (n : UInt64) (k : Nat) : bits .and .u64 (ui n / 2 ^ (4 * k)) 15 % 256 = ((n.toNat / 16 ^ k % 16 : Nat) : Int) := by
  have e : ui n / 2 ^ (4 * k) = ((n.toNat / 16 ^ k : Nat) : Int) := by
    unfold ui
    have : (2 : Int) ^ (4 * k) = ((16 ^ k : Nat) : Int) := by
      rw [Int.pow_mul]
      simp
    rw [this, Int.natCast_ediv]
  have hlt : n.toNat / 16 ^ k < 18446744073709551616 := Nat.lt_of_le_of_lt (Nat.div_le_self _ _) n.toNat_lt
  have h15 := u64_and_nat (n.toNat / 16 ^ k) 15 hlt (by omega)
  have e15 : ((15 : Nat) : Int) = 15 := rfl
  rw [e15] at h15
  rw [e, h15, nat_mask4]
  omega
theorem dig_of (n : UInt64) (k : Nat) (hk : k < 16) : (if n.toNat / 16 ^ k % 16 < 10 then 48 + ((n.toNat / 16 ^ k % 16 : Nat) : Int) else 87 + ((n.toNat / 16 ^ k % 16 : Nat) : Int)) = dig n (15 - k) := by
  unfold dig hexI hexN
  rw [show 15 - (15 - k) = k from by omega]
  split <;> rfl
theorem tcell_at (n : UInt64) (k j : Nat) (hj : j < 16) : (tcells n k)[j]? = some (tcell n k j) := by
  unfold tcells
  simp [hj]
theorem dig_bd (n : UInt64) (j : Nat) : 0 ≤ dig n j ∧ dig n j ≤ 255 := by
  unfold dig hexI hexN
  have : n.toNat / 16 ^ (15 - j) % 16 < 16 := Nat.mod_lt _ (by omega)
  split <;> omega

set_option maxHeartbeats 400000 in
theorem text_any (n : UInt64) (w : World) :
    Calls Try.prog 22 #[.int .u64 (ui n)] w fun e w' => e = .returned (.string (strOfNums (textOf n))) ∧ Below w.heap.size w w' := by
  obtain ⟨hb0, hb1⟩ := ui_bd n
  have h0 : tcells n 0 = #[.int .u8 0, .int .u8 0, .int .u8 0, .int .u8 0, .int .u8 0, .int .u8 0, .int .u8 0, .int .u8 0, .int .u8 0, .int .u8 0, .int .u8 0, .int .u8 0, .int .u8 0, .int .u8 0, .int .u8 0, .int .u8 0] := by
    unfold tcells
    simp [List.range, List.range.loop, tcell]
  have hmk : ∀ w, (Instr.makeSlice 23 (.int .i64 16) (.int .i64 16)).run Try.prog w = .ok (.slice (some ⟨w.heap.size, 0, none⟩) 16 16) (w.alloc (.cells (tcells n 0) 5)) := fun _ => by rw [h0]; kernel_rfl
  clear h0
  go_enter Try.func22, Try.ntmps22
  go_wp2
  clear hmk
  go_loopw [4, 8] (fun _ i wr => ∃ k : Nat, k ≤ 16 ∧ i = .int .i64 k ∧ Blk wr w.heap.size 5 (tcells n k) ∧ Below w.heap.size w wr) (fun _ i _ => 16 - (intOf i).toNat)
  case atStart => exact ⟨0, by omega, rfl, Blk.new _ _ _, (Below.refl _ _).alloc (Nat.le_refl _) _⟩
  case round =>
    obtain ⟨k, hk, rfl, hblk, hbel⟩ := hrel
    by_cases hlt : k < 16
    · have hdk := dig_at n k
      have HDO := Lib.hid (dig_of n k hlt)
      have hd16 : n.toNat / 16 ^ k % 16 < 16 := Nat.mod_lt _ (by omega)
      have HSET := Lib.hid (tcells_set n k hlt)
      generalize n.toNat / 16 ^ k % 16 = d at *
      have hcell : wr.cell? ⟨w.heap.size, 15 - k, none⟩ = some (tcell n k (15 - k)) := (hblk.cell _).trans (tcell_at n k _ (by omega))
      have hfr : wr.frozen? ⟨w.heap.size, 15 - k, none⟩ = false := hblk.frozen _
      have HB := Lib.hid hblk
      clear hblk
      unfold tcell at hcell
      go_wp2_with (go_at_call 32; refine (digit_any _ hd16 _).mono ?_; rintro e w' ⟨rfl, rfl⟩)
      go_roundw
      case rel =>
        refine ⟨k + 1, by omega, by go_num, ?_, hbel.setCell (Nat.le_refl _) _⟩
        rw [← HSET.out, ← HDO.out]
        exact HB.out.set_ _ _
      case measure => simp [intOf]; omega
    · obtain rfl : k = 16 := by omega
      have hcv := run_convert_bytes_arg (P := Try.prog) wr 23 5 Try.underlying23 Try.underlying5 w.heap.size 0 16 16 (textOf n) (by simp [textOf]) (fun i hi => by
        rw [Nat.zero_add, hblk.cell, tcell_at n 16 i hi]
        simp [tcell, textOf, hi]) 9 Try.underlying9
      clear hblk
      go_wp2
      go_ret
      exact ⟨rfl, hbel⟩
theorem info_u8 : (Try.prog.info? 5).map (fun i => (i.zero, i.size, i.bytes)) = some (some (.int .u8 0), 1, 1) := by kernel_rfl
theorem dig_at' (n : UInt64) (k : Nat) : bits .and .u64 (ui n / 2 ^ (4 * k)) 15 = ((n.toNat / 16 ^ k % 16 : Nat) : Int) := by
  have e : ui n / 2 ^ (4 * k) = ((n.toNat / 16 ^ k : Nat) : Int) := by
    unfold ui
    have : (2 : Int) ^ (4 * k) = ((16 ^ k : Nat) : Int) := by
      rw [Int.pow_mul]
      simp
    rw [this, Int.natCast_ediv]
  have hlt : n.toNat / 16 ^ k < 18446744073709551616 := Nat.lt_of_le_of_lt (Nat.div_le_self _ _) n.toNat_lt
  have h15 := u64_and_nat (n.toNat / 16 ^ k) 15 hlt (by omega)
  have e15 : ((15 : Nat) : Int) = 15 := rfl
  rw [e15] at h15
  rw [e, h15, nat_mask4]
theorem hex_at (d : Nat) (hd : d < 16) : ∀ h, ((⟨#[48, 49, 50, 51, 52, 53, 54, 55, 56, 57, 97, 98, 99, 100, 101, 102]⟩ : ByteArray)[d]'h).toNat = hexN d := by
  intro h
  rcases (by omega : d = 0 ∨ d = 1 ∨ d = 2 ∨ d = 3 ∨ d = 4 ∨ d = 5 ∨ d = 6 ∨ d = 7 ∨ d = 8 ∨ d = 9 ∨ d = 10 ∨ d = 11 ∨ d = 12 ∨ d = 13 ∨ d = 14 ∨ d = 15) with e | e | e | e | e | e | e | e | e | e | e | e | e | e | e | e <;> subst e <;> rfl
def drow (n : UInt64) (k : Nat) : List Value := (List.range k).map fun j => .int .u8 (dig n j)
theorem drow_snoc (n : UInt64) (k : Nat) : drow n k ++ [.int .u8 (dig n k)] = drow n (k + 1) := by
  unfold drow
  rw [List.range_succ, List.map_append]
  rfl

set_option maxHeartbeats 400000 in
theorem rtext_any (n : UInt64) (w : World) :
    Calls Try.prog 23 #[.int .u64 (ui n)] w fun e w' => e = .returned (.string (strOfNums (textOf n))) ∧ Below w.heap.size w w' := by
  obtain ⟨hb0, hb1⟩ := ui_bd n
  obtain ⟨i0, hi0, hz0, hz1, hz2⟩ := info_parts info_u8
  go_enter Try.func23, Try.ntmps23
  go_wp2
  go_loopw [3, 4] (fun v i wr => ∃ k : Nat, k ≤ 16 ∧ i = .int .i64 (15 - k) ∧ wr.ownsRow w.heap.size 5 1 v k (drow n k) ∧ Below w.heap.size w wr) (fun _ i _ => (intOf i + 1).toNat)
  case atStart => exact ⟨0, by omega, rfl, World.ownsRow_nil _ _ _ _, Below.refl _ _⟩
  case round =>
    obtain ⟨k, hk, rfl, hown, hbel⟩ := hrel
    by_cases hlt : k < 16
    · have hdk := dig_at' n (15 - k)
      have hd16 : n.toNat / 16 ^ (15 - k) % 16 < 16 := Nat.mod_lt _ (by omega)
      have HSN := Lib.hid (drow_snoc n k)
      have HDO : Hid (dig n k = hexI (n.toNat / 16 ^ (15 - k) % 16)) := rfl
      generalize n.toNat / 16 ^ (15 - k) % 16 = d at *
      have hix := hex_at d hd16
      go_wp2_with (at_builtin; refine wpList_append_one wr rfl (.tmp 9) (.tmp 17) 23 rfl w.heap.size 5 i0 (.int .u8 0) 1 Try.underlying23 hi0 hz0 hz1 hz2 rfl u3 k (drow n k) (.int .u8 (hexN d)) hown rfl rfl rfl (by omega) (by omega) hbel.size ?_; intro v' w1 hown' hb1)
      go_roundw
      case rel =>
        refine ⟨k + 1, by omega, by go_num, ?_, hbel.trans hb1⟩
        rw [← HSN.out, HDO.out]
        exact hown'
      case measure => simp [intOf]; omega
    · obtain rfl : k = 16 := by omega
      have hcv := own_convert (P := Try.prog) (xs := textOf n) (by rw [textOf, List.map_map]; exact hown) 23 9 Try.underlying23 Try.underlying5 Try.underlying9
      go_wp2
      go_ret
      exact ⟨rfl, hbel⟩
end Go.Proofs.Ytjjdlmdijmlagaa
