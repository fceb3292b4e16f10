/-
  The walks of chapter 40's New, the program's and the reference's. Conditions: none.
-/
import Derived.Test.YtlhdomckljhfoaaDkLoad
namespace Go.Proofs.Ytlhdomckljhfoaa
open Go.ChangeShapes Go.WideShapes Go.ChangeAt Go.RowKit
set_option linter.unusedVariables false
set_option linter.unusedSimpArgs false

/-- The bytes of a new disk. -/
def zeroD : List UInt8 := List.replicate 20480 0
theorem zeroD_len : zeroD.length = 20480 := List.length_replicate
theorem made_b8 (k : Nat) : madeCells #[Value.int .u8 0] k = (B8 (List.replicate k 0)).toArray := by
  apply Array.ext'
  simp [madeCells, B8, Array.toList_map, Nat.mod_one]
  exact map_const_range k _
def DiskIs (l : List UInt8) (w : World) (e : Ending) (w' : World) : Prop := e = .returned (.agg #[.string ⟨l.toArray⟩]) ∧ Below w.heap.size w w'


set_option maxHeartbeats 1000000 in
theorem new_any (w : World) :
    Calls Try.prog 21 #[] w (DiskIs zeroD w) := by
  obtain ⟨i0, hi0, hz0, hz1, hz2⟩ := info_parts info_u8
  obtain ⟨K, hK⟩ : ∃ K : Nat, K = 20480 := ⟨_, rfl⟩
  obtain ⟨Z, hZ⟩ : ∃ Z : ByteArray, Z = ⟨zeroD.toArray⟩ := ⟨_, rfl⟩
  have hmk := fun w => run_make_row (P := Try.prog) 38 5 i0 (.int .u8 0) Try.underlying38 hi0 hz0 hz1 rfl .i64 .i64 K (by rw [hz2]; omega) (by omega) w
  rw [made_b8, hK] at hmk
  obtain ⟨C, hC⟩ : ∃ C : Array Value, C = (B8 (List.replicate 20480 0)).toArray := ⟨_, rfl⟩
  rw [← hC] at hmk
  have hmk : ∀ w, (Instr.makeSlice 38 (.int .i64 20480) (.int .i64 20480)).run Try.prog w = .ok (.slice (some ⟨w.heap.size, 0, none⟩) 20480 20480) (w.alloc (.cells C 5)) := hmk
  have hcv : ∀ w : World, (convert 38 9 (.slice (some ⟨w.heap.size, 0, none⟩) 20480 20480)).run Try.prog (w.alloc (.cells C 5)) = .ok (.string Z) (w.alloc (.cells C 5)) := fun w => by
    rw [hZ]
    have hb : Byt (w.alloc (.cells C 5)) w.heap.size zeroD := byt_arr w zeroD C _ hC
    exact hb.conv 38 9 Try.underlying38 Try.underlying5 Try.underlying9 0 20480 20480 zeroD zeroD_len (fun j hj => by rw [Nat.zero_add])
  have hcv := hcv (w.alloc (.cells #[Value.string { data := #[] }] 25))
  rw [show (w.alloc (.cells #[Value.string { data := #[] }] 25)).heap.size = w.heap.size + 1 from by simp] at hcv
  have HZ := Lib.hid hZ
  clear hK hZ hC
  go_enter Try.func21, Try.ntmps21
  go_wp2
  exact bodyPost_ret (v := .agg #[.string Z]) (by simp [results, Try.results21, go_sem]) rfl ⟨by rw [HZ.out], ((Below.refl _ _).alloc (Nat.le_refl _) _).alloc (by simp) _⟩

set_option maxHeartbeats 1000000 in
theorem rnew_any (w : World) :
    Calls Try.prog 22 #[] w (DiskIs zeroD w) := by
  obtain ⟨i0, hi0, hz0, hz1, hz2⟩ := info_parts info_u8
  obtain ⟨K, hK⟩ : ∃ K : Nat, K = 20480 := ⟨_, rfl⟩
  obtain ⟨Z, hZ⟩ : ∃ Z : ByteArray, Z = ⟨zeroD.toArray⟩ := ⟨_, rfl⟩
  have hmk := fun w => run_make_row (P := Try.prog) 38 5 i0 (.int .u8 0) Try.underlying38 hi0 hz0 hz1 rfl .i64 .i64 K (by rw [hz2]; omega) (by omega) w
  rw [made_b8, hK] at hmk
  obtain ⟨C, hC⟩ : ∃ C : Array Value, C = (B8 (List.replicate 20480 0)).toArray := ⟨_, rfl⟩
  rw [← hC] at hmk
  have hmk : ∀ w, (Instr.makeSlice 38 (.int .i64 20480) (.int .i64 20480)).run Try.prog w = .ok (.slice (some ⟨w.heap.size, 0, none⟩) 20480 20480) (w.alloc (.cells C 5)) := hmk
  have hcv : ∀ w : World, (convert 38 9 (.slice (some ⟨w.heap.size, 0, none⟩) 20480 20480)).run Try.prog (w.alloc (.cells C 5)) = .ok (.string Z) (w.alloc (.cells C 5)) := fun w => by
    rw [hZ]
    have hb : Byt (w.alloc (.cells C 5)) w.heap.size zeroD := byt_arr w zeroD C _ hC
    exact hb.conv 38 9 Try.underlying38 Try.underlying5 Try.underlying9 0 20480 20480 zeroD zeroD_len (fun j hj => by rw [Nat.zero_add])
  have hcv := hcv (w.alloc (.cells #[Value.string { data := #[] }] 25))
  rw [show (w.alloc (.cells #[Value.string { data := #[] }] 25)).heap.size = w.heap.size + 1 from by simp] at hcv
  have HZ := Lib.hid hZ
  clear hK hZ hC
  go_enter Try.func22, Try.ntmps22
  go_wp2
  exact bodyPost_ret (v := .agg #[.string Z]) (by simp [results, Try.results22, go_sem]) rfl ⟨by rw [HZ.out], ((Below.refl _ _).alloc (Nat.le_refl _) _).alloc (by simp) _⟩
end Go.Proofs.Ytlhdomckljhfoaa
