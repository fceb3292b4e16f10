/-
  The walks of the reference's look at a disk, and of Load and New, the program's and the reference's. Conditions: the string has the bytes of a disk (told).
-/
import Derived.Test.YtlhdomckljhfoaaDkTold
namespace Go.Proofs.Ytlhdomckljhfoaa
open Go.ChangeShapes Go.WideShapes Go.ChangeAt Go.RowKit
set_option linter.unusedVariables false
set_option linter.unusedSimpArgs false

theorem rslot_z {W : World} {s : ByteArray} (a b : Nat) (hs : s.size = 20480) (h : b - a = 10240 ∧ b ≤ 20480) (l : List UInt8) (hl : (s.extract a b).data.toList = l) (o : Option (UInt64 × List UInt8)) (ho : slotP l = o) :
    Calls Try.prog 29 #[.string (s.extract a b)] W fun e w' => e = .returned (.tuple #[.int .u64 (ui (optN o)), .string ⟨(optS o).toArray⟩, .bool o.isSome]) ∧ Below W.heap.size W w' := by
  subst hl ho
  exact rslot_any _ W (by rw [ByteArray.size_extract]; omega)
theorem told2_ge {n m : UInt64} {s t : List UInt8} (h : ¬ n.toNat < m.toNat) : told2 (some (n, s)) (some (m, t)) = (0, n, s) := if_neg (fun e => h (UInt64.lt_iff_toNat_lt.1 e))
theorem told2_lt {n m : UInt64} {s t : List UInt8} (h : n.toNat < m.toNat) : told2 (some (n, s)) (some (m, t)) = (1, m, t) := if_pos (UInt64.lt_iff_toNat_lt.2 h)

set_option maxHeartbeats 1000000 in
theorem rtold_any (s : ByteArray) (w : World) (hs : s.size = 20480) :
    Calls Try.prog 24 #[.agg #[.string s]] w (ToldP s.data.toList w) := by
  have hl : s.data.toList.length = 20480 := by rw [len_size]; exact hs
  have hs1 : 20480 ≤ s.size := by omega
  have hs2 : s.size ≤ 20480 := by omega
  have i2 : (20480 : Int) ≤ (s.size : Int) := by omega
  have i3 : (10240 : Int) ≤ (s.size : Int) := by omega
  have i4 : (s.size : Int) ≤ 20480 := by omega
  have HT : Hid (toldP s.data.toList = told2 (slotP (s.data.toList.take 10240)) (slotP (s.data.toList.drop 10240))) := rfl
  obtain ⟨A, hA⟩ : ∃ A, slotP (s.data.toList.take 10240) = A := ⟨_, rfl⟩
  obtain ⟨B, hB⟩ : ∃ B, slotP (s.data.toList.drop 10240) = B := ⟨_, rfl⟩
  have c0 := fun W => rslot_z (W := W) (s := s) 0 10240 hs (by omega) (s.data.toList.take 10240) (ext_t s _) A hA
  have c1 := fun W => rslot_z (W := W) (s := s) 10240 s.size hs (by omega) (s.data.toList.drop 10240) (by rw [ext_dt]; exact List.take_of_length_le (by simp)) B hB
  have HT : Hid (toldP s.data.toList = told2 A B) := by show _ = _; rw [HT.out, hA, hB]
  have HS := Lib.hid hs
  clear hs hl hA hB
  rcases A with _ | ⟨n, t⟩ <;> rcases B with _ | ⟨m, u⟩
  · simp only [optN, optS, Option.isSome] at c0 c1
    have HT : Hid (toldP s.data.toList = (-1, 0, [])) := HT
    go_enter Try.func24, Try.ntmps24
    go_wp2_with fail
    refine (c0 _).mono ?_
    rintro e w1 ⟨rfl, hb1⟩
    have hcell1 : w1.cell? ⟨w.heap.size, 0, none⟩ = some (.string s) := (hb1.cell (by simp)).trans (by simp [go_sem])
    have hbel := ((Below.refl w.heap.size w).alloc (Nat.le_refl _) _).trans (hb1.mono (by simp))
    clear hb1
    go_wp2_with fail
    refine (c1 _).mono ?_
    rintro e w2 ⟨rfl, hb2⟩
    have hbel := hbel.trans (hb2.mono hbel.size)
    clear hb2
    go_wp2_with fail
    exact bodyPost_ret (v := .tuple #[.int .i64 (-1), .int .u64 (ui 0), .string ⟨([] : List UInt8).toArray⟩]) (by simp [results, Try.results24, go_sem]; try rfl) rfl ⟨by rw [HT.out]; rfl, hbel⟩
  · simp only [optN, optS, Option.isSome] at c0 c1
    have HT : Hid (toldP s.data.toList = (1, m, u)) := HT
    go_enter Try.func24, Try.ntmps24
    go_wp2_with fail
    refine (c0 _).mono ?_
    rintro e w1 ⟨rfl, hb1⟩
    have hcell1 : w1.cell? ⟨w.heap.size, 0, none⟩ = some (.string s) := (hb1.cell (by simp)).trans (by simp [go_sem])
    have hbel := ((Below.refl w.heap.size w).alloc (Nat.le_refl _) _).trans (hb1.mono (by simp))
    clear hb1
    go_wp2_with fail
    refine (c1 _).mono ?_
    rintro e w2 ⟨rfl, hb2⟩
    have hbel := hbel.trans (hb2.mono hbel.size)
    clear hb2
    go_wp2_with fail
    exact bodyPost_ret (v := .tuple #[.int .i64 1, .int .u64 (ui m), .string ⟨u.toArray⟩]) (by simp [results, Try.results24, go_sem]; try rfl) rfl ⟨by rw [HT.out]; rfl, hbel⟩
  · simp only [optN, optS, Option.isSome] at c0 c1
    have HT : Hid (toldP s.data.toList = (0, n, t)) := HT
    go_enter Try.func24, Try.ntmps24
    go_wp2_with fail
    refine (c0 _).mono ?_
    rintro e w1 ⟨rfl, hb1⟩
    have hcell1 : w1.cell? ⟨w.heap.size, 0, none⟩ = some (.string s) := (hb1.cell (by simp)).trans (by simp [go_sem])
    have hbel := ((Below.refl w.heap.size w).alloc (Nat.le_refl _) _).trans (hb1.mono (by simp))
    clear hb1
    go_wp2_with fail
    refine (c1 _).mono ?_
    rintro e w2 ⟨rfl, hb2⟩
    have hbel := hbel.trans (hb2.mono hbel.size)
    clear hb2
    go_wp2_with fail
    exact bodyPost_ret (v := .tuple #[.int .i64 0, .int .u64 (ui n), .string ⟨t.toArray⟩]) (by simp [results, Try.results24, go_sem]; try rfl) rfl ⟨by rw [HT.out]; rfl, hbel⟩
  · by_cases hnm : n.toNat < m.toNat
    · have h2i : ui n < ui m := by unfold ui; omega
      simp only [optN, optS, Option.isSome] at c0 c1
      have HT : Hid (toldP s.data.toList = (1, m, u)) := by show _ = _; rw [HT.out, told2_lt hnm]
      clear hnm
      go_enter Try.func24, Try.ntmps24
      go_wp2_with fail
      refine (c0 _).mono ?_
      rintro e w1 ⟨rfl, hb1⟩
      have hcell1 : w1.cell? ⟨w.heap.size, 0, none⟩ = some (.string s) := (hb1.cell (by simp)).trans (by simp [go_sem])
      have hbel := ((Below.refl w.heap.size w).alloc (Nat.le_refl _) _).trans (hb1.mono (by simp))
      clear hb1
      go_wp2_with fail
      refine (c1 _).mono ?_
      rintro e w2 ⟨rfl, hb2⟩
      have hbel := hbel.trans (hb2.mono hbel.size)
      clear hb2
      go_wp2_with fail
      exact bodyPost_ret (v := .tuple #[.int .i64 1, .int .u64 (ui m), .string ⟨u.toArray⟩]) (by simp [results, Try.results24, go_sem]; try rfl) rfl ⟨by rw [HT.out]; rfl, hbel⟩
    · have h2i : ui m ≤ ui n := by unfold ui; omega
      simp only [optN, optS, Option.isSome] at c0 c1
      have HT : Hid (toldP s.data.toList = (0, n, t)) := by show _ = _; rw [HT.out, told2_ge hnm]
      clear hnm
      go_enter Try.func24, Try.ntmps24
      go_wp2_with fail
      refine (c0 _).mono ?_
      rintro e w1 ⟨rfl, hb1⟩
      have hcell1 : w1.cell? ⟨w.heap.size, 0, none⟩ = some (.string s) := (hb1.cell (by simp)).trans (by simp [go_sem])
      have hbel := ((Below.refl w.heap.size w).alloc (Nat.le_refl _) _).trans (hb1.mono (by simp))
      clear hb1
      go_wp2_with fail
      refine (c1 _).mono ?_
      rintro e w2 ⟨rfl, hb2⟩
      have hbel := hbel.trans (hb2.mono hbel.size)
      clear hb2
      go_wp2_with fail
      exact bodyPost_ret (v := .tuple #[.int .i64 0, .int .u64 (ui n), .string ⟨t.toArray⟩]) (by simp [results, Try.results24, go_sem]; try rfl) rfl ⟨by rw [HT.out]; rfl, hbel⟩

def LoadP (l : List UInt8) (w : World) (e : Ending) (w' : World) : Prop := e = .returned (.tuple #[.string ⟨(toldP l).2.2.toArray⟩, .bool (decide (0 ≤ (toldP l).1))]) ∧ Below w.heap.size w w'
def NoneP (w : World) (e : Ending) (w' : World) : Prop := e = .returned (.tuple #[.string ⟨#[]⟩, .bool false]) ∧ Below w.heap.size w w'

set_option maxHeartbeats 1000000 in
theorem load_any (s : ByteArray) (w : World) (hs : s.size = 20480) :
    Calls Try.prog 12 #[.agg #[.string s]] w (LoadP s.data.toList w) := by
  have ct := fun W => told_any s W hs
  have hs1 : ((s.size : Int) != 20480) = false := by rw [hs]; rfl
  clear hs
  unfold ToldP T3 at ct
  have HR : Hid (LoadP s.data.toList w = fun e w' => e = .returned (.tuple #[.string ⟨(toldP s.data.toList).2.2.toArray⟩, .bool (decide (0 ≤ (toldP s.data.toList).1))]) ∧ Below w.heap.size w w') := rfl
  generalize toldP s.data.toList = T at *
  obtain ⟨a, b, x⟩ := T
  go_enter Try.func12, Try.ntmps12
  go_wp2_with fail
  refine (ct _).mono ?_
  rintro e w1 ⟨rfl, hb1⟩
  have hbel := ((Below.refl w.heap.size w).alloc (Nat.le_refl _) _).trans (hb1.mono (by simp))
  clear hb1
  go_wp2_with fail
  go_ret2
  rw [HR.out]
  exact ⟨rfl, hbel⟩
theorem load_no (s : ByteArray) (w : World) (hs : s.size ≠ 20480) :
    Calls Try.prog 12 #[.agg #[.string s]] w (NoneP w) := by
  have hs1 : ((s.size : Int) != 20480) = true := by simp; omega
  clear hs
  go_enter Try.func12, Try.ntmps12
  go_wp2_with fail
  go_ret2
  exact ⟨rfl, (Below.refl _ _).alloc (Nat.le_refl _) _⟩

set_option maxHeartbeats 1000000 in
theorem rload_any (s : ByteArray) (w : World) (hs : s.size = 20480) :
    Calls Try.prog 13 #[.agg #[.string s]] w (LoadP s.data.toList w) := by
  have ct := fun W => rtold_any s W hs
  have hs1 : ((s.size : Int) != 20480) = false := by rw [hs]; rfl
  clear hs
  unfold ToldP T3 at ct
  have HR : Hid (LoadP s.data.toList w = fun e w' => e = .returned (.tuple #[.string ⟨(toldP s.data.toList).2.2.toArray⟩, .bool (decide (0 ≤ (toldP s.data.toList).1))]) ∧ Below w.heap.size w w') := rfl
  generalize toldP s.data.toList = T at *
  obtain ⟨a, b, x⟩ := T
  go_enter Try.func13, Try.ntmps13
  go_wp2_with fail
  refine (ct _).mono ?_
  rintro e w1 ⟨rfl, hb1⟩
  have hbel := ((Below.refl w.heap.size w).alloc (Nat.le_refl _) _).trans (hb1.mono (by simp))
  clear hb1
  go_wp2_with fail
  go_ret2
  rw [HR.out]
  exact ⟨rfl, hbel⟩
theorem rload_no (s : ByteArray) (w : World) (hs : s.size ≠ 20480) :
    Calls Try.prog 13 #[.agg #[.string s]] w (NoneP w) := by
  have hs1 : ((s.size : Int) != 20480) = true := by simp; omega
  clear hs
  go_enter Try.func13, Try.ntmps13
  go_wp2_with fail
  go_ret2
  exact ⟨rfl, (Below.refl _ _).alloc (Nat.le_refl _) _⟩
end Go.Proofs.Ytlhdomckljhfoaa
