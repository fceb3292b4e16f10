/-
  What every law of chapter 40 says ahead: a new disk, one Save, whole and torn. Conditions: none.
-/
import Derived.Test.YtlhdomckljhfoaaDkRSave
import Derived.Test.YtlhdomckljhfoaaDkDo
import Derived.Test.YtlhdomckljhfoaaDkLaw
namespace Go.Proofs.Ytlhdomckljhfoaa
open Go.ChangeShapes Go.WideShapes Go.ChangeAt Go.RowKit
set_option linter.unusedVariables false
set_option linter.unusedSimpArgs false

theorem zeroD_at (i : Nat) (h : i < 20480) : zeroD[i]? = some 0 := by unfold zeroD; rw [List.getElem?_replicate, if_pos h]
theorem zeroD_lo : slotP (zeroD.take 10240) = none :=
  slotP_bad _ (by simp [zeroD_len]) (by rw [List.getElem?_take, if_pos (by omega), zeroD_at _ (by omega)]) (by rw [List.getElem?_take, if_pos (by omega), zeroD_at _ (by omega)])
theorem zeroD_hi : slotP (zeroD.drop 10240) = none :=
  slotP_bad _ (by simp [zeroD_len]) (by rw [List.getElem?_drop, zeroD_at _ (by omega)]) (by rw [List.getElem?_drop, zeroD_at _ (by omega)])
theorem toldP_zero : toldP zeroD = (-1, 0, []) := by unfold toldP; rw [zeroD_lo, zeroD_hi]; rfl
theorem saveP_yes (d s : List UInt8) (hd : d.length = 20480) (hs : s.length ≤ 8192) (hn : (toldP d).2.1 ≠ 18446744073709551615) : saveP d s = (savesN (fromP d) ((toldP d).2.1 + 1) s, 0) := by
  unfold saveP
  rw [if_neg (by omega), if_neg (by omega), if_neg hn]
  rfl
theorem saveP_zero (s : List UInt8) (hs : s.length ≤ 8192) : saveP zeroD s = (savesN 0 1 s, 0) := by
  have hf : fromP zeroD = 0 := by unfold fromP; rw [toldP_zero]; rfl
  have h := saveP_yes zeroD s zeroD_len hs (by rw [toldP_zero]; decide)
  rw [hf, toldP_zero] at h
  exact h
theorem take_lo (D : List UInt8) : D.take 10240 = (D.drop (0 * 64)).take 10240 := by simp
theorem drop_hi (D : List UInt8) (h : D.length = 20480) : D.drop 10240 = (D.drop (160 * 64)).take 10240 := by rw [List.take_of_length_le (by simp; omega)]
theorem doP_whole (d : List UInt8) (l : List Wr) (whole torn : Int) (h : (l.length : Int) ≤ whole) : doP d l whole torn = doTo d l l.length torn.toNat l.length := by
  unfold doP wholeN
  rw [show min whole.toNat l.length = l.length from by omega, show min (l.length + 1) l.length = l.length from by omega]

/-- One whole Save on a new disk. -/
theorem first_save (s : List UInt8) (hs : s.length ≤ 8192) (whole torn : Int) (h : (((savesN 0 1 s).length : Nat) : Int) ≤ whole) :
    slotP ((doP zeroD (savesN 0 1 s) whole torn).take 10240) = some (1, s) ∧ slotP ((doP zeroD (savesN 0 1 s) whole torn).drop 10240) = none := by
  have hl := doP_len zeroD (savesN 0 1 s) whole torn
  rw [zeroD_len] at hl
  rw [drop_hi _ hl, take_lo, doP_whole _ _ _ _ h, savesN_len]
  refine ⟨saved_slot zeroD s zeroD_len 0 (.inl rfl) hs 1 _ _ (by omega), ?_⟩
  rw [saved_other zeroD s zeroD_len 0 160 (.inl ⟨rfl, rfl⟩) hs 1 _ _ (by omega), ← drop_hi _ zeroD_len]
  exact zeroD_hi
theorem first_told (s : List UInt8) (hs : s.length ≤ 8192) (whole torn : Int) (h : (((savesN 0 1 s).length : Nat) : Int) ≤ whole) : toldP (doP zeroD (savesN 0 1 s) whole torn) = (0, 1, s) := by
  obtain ⟨h1, h2⟩ := first_save s hs whole torn h
  unfold toldP
  rw [h1, h2]
  rfl

def ab : List UInt8 := [97, 98]
theorem ab_len : (savesN 0 1 ab).length = 2 := by rw [savesN_len]; rfl
theorem ab_told : toldP (doP zeroD (savesN 0 1 ab) 2 0) = (0, 1, ab) := first_told ab (by decide) 2 0 (by rw [ab_len]; decide)
theorem ab_torn : toldP (doP zeroD (savesN 0 1 ab) 1 20) = (-1, 0, []) := by
  have hl := doP_len zeroD (savesN 0 1 ab) 1 20
  rw [zeroD_len] at hl
  have e : doP zeroD (savesN 0 1 ab) 1 20 = doTo zeroD (savesN 0 1 ab) 1 20 (secN ab.length + 1) := by
    unfold doP wholeN
    rw [ab_len]
    rfl
  have hat := fun i hi => saved_at zeroD ab zeroD_len 0 (.inl rfl) (by decide) 1 1 20 (by decide) 20 (by decide) i hi
  unfold toldP
  rw [drop_hi _ hl, take_lo, e, saved_other zeroD ab zeroD_len 0 160 (.inl ⟨rfl, rfl⟩) (by decide) 1 _ _ (by decide), ← drop_hi _ zeroD_len, zeroD_hi]
  rw [slotP_bad _ (by rw [List.length_take, List.length_drop, ← e, hl]; rfl) ?_ ?_]
  · rfl
  · rw [drop_take_at _ _ _ (by omega), hat _ (by omega), if_pos (by omega), headP_lo _ _ _ (by omega)]
    rfl
  · rw [drop_take_at _ _ _ (by omega), hat _ (by omega), if_neg (by omega), if_neg (by omega), zeroD_at _ (by omega)]

def ABs : ByteArray := { data := #[97, 98] }
theorem abs_list : ABs.data.toList = ab := rfl

set_option maxHeartbeats 2000000 in
theorem awake_any (w : World) :
    Calls Try.prog 10 #[] w fun e w' => e = .returned (.bool true) ∧ Below w.heap.size w w' := by
  obtain ⟨Z, hZ⟩ : ∃ Z : ByteArray, Z = ⟨zeroD.toArray⟩ := ⟨_, rfl⟩
  have hZl : Z.data.toList = zeroD := by rw [hZ]
  have hZs : Z.size = 20480 := by rw [← len_size, hZl, zeroD_len]
  have cN := fun W => new_any W
  have cS := fun W => save_any Z ABs W hZs (by decide)
  unfold SaveP at cS
  rw [hZl, abs_list, saveP_zero ab (by decide)] at cS
  have cS : ∀ W, Calls Try.prog 14 #[.agg #[.string Z], .string { data := #[97, 98] }] W fun e w' => ∃ A n cap, e = .returned (.tuple #[.slice A n cap, .int .i64 0]) ∧ n ≤ cap ∧ n ≤ 1000 ∧ (savesN 0 1 ab).length = n ∧ RdW w' w'.heap.size A n (savesN 0 1 ab) ∧ Below W.heap.size W w' := cS
  unfold DiskIs at cN
  rw [← hZ] at cN
  have cD := fun A cap B W whole torn hr hB hc => do_any Z A 2 cap B (savesN 0 1 ab) whole torn W hZs hr (by omega) hc hB
  unfold DiskIs at cD
  rw [hZl] at cD
  obtain ⟨S1, hS1⟩ : ∃ S : ByteArray, S = ⟨(doP zeroD (savesN 0 1 ab) 2 0).toArray⟩ := ⟨_, rfl⟩
  obtain ⟨S2, hS2⟩ : ∃ S : ByteArray, S = ⟨(doP zeroD (savesN 0 1 ab) 1 20).toArray⟩ := ⟨_, rfl⟩
  have cD1 := fun A cap B W hr hB hc => cD A cap B W 2 0 hr hB hc
  have cD2 := fun A cap B W hr hB hc => cD A cap B W 1 20 hr hB hc
  rw [← hS1] at cD1
  rw [← hS2] at cD2
  have l1 : S1.data.toList = doP zeroD (savesN 0 1 ab) 2 0 := by rw [hS1]
  have l2 : S2.data.toList = doP zeroD (savesN 0 1 ab) 1 20 := by rw [hS2]
  have cL1 := fun W => load_any S1 W (by rw [← len_size, l1, doP_len, zeroD_len])
  have cL2 := fun W => load_any S2 W (by rw [← len_size, l2, doP_len, zeroD_len])
  unfold LoadP at cL1 cL2
  rw [l1, ab_told] at cL1
  rw [l2, ab_torn] at cL2
  have cL1 : ∀ W, Calls Try.prog 12 #[.agg #[.string S1]] W fun e w' => e = .returned (.tuple #[.string { data := #[97, 98] }, .bool true]) ∧ Below W.heap.size W w' := cL1
  have cL2 : ∀ W, Calls Try.prog 12 #[.agg #[.string S2]] W fun e w' => e = .returned (.tuple #[.string { data := #[] }, .bool false]) ∧ Below W.heap.size W w' := cL2
  have hx0 : (savesN 0 1 ab)[0]? = some (1, pad64 ab) := by rfl
  have hpl : (⟨(pad64 ab).toArray⟩ : ByteArray).size = 64 := by rfl
  have HL2 := Lib.hid ab_len
  have HX0 := Lib.hid hx0
  have HPL := Lib.hid hpl
  have HZS := Lib.hid hZs
  clear cD hS1 hS2 l1 l2 hZ hZl hZs hx0 hpl
  go_enter Try.func10, Try.ntmps10
  go_wp2_with fail
  refine (cN _).mono ?_
  rintro e w1 ⟨rfl, hb1⟩
  go_wp2_with fail
  refine (cS _).mono ?_
  rintro e w2 ⟨A, n, cap, rfl, hnc, hn1, hln, hrd, hb2⟩
  obtain rfl : n = 2 := by rw [← hln]; exact HL2.out
  have hcZ : w2.cell? ⟨w1.heap.size, 0, none⟩ = some (.string Z) := (hb2.cell (p := ⟨w1.heap.size, 0, none⟩) (by show w1.heap.size < _; simp)).trans (by simp [go_sem])
  have hbel := (hb1.alloc hb1.size (.cells #[Value.string Z] 25)).trans (hb2.mono (by have := hb1.size; simp; omega))
  have hlt2 : w1.heap.size < w2.heap.size := by have := hb2.size; simp at this; omega
  clear hb1 hb2 hln
  go_wp2_with fail
  refine (cD1 A cap _ w2 hrd (Nat.le_refl _) hnc).mono ?_
  rintro e w3 ⟨rfl, hb3⟩
  have hcZ := (hb3.cell (p := ⟨w1.heap.size, 0, none⟩) hlt2).trans hcZ
  have hrd := rdw_below hrd hb3
  have hbel := hbel.trans (hb3.mono hbel.size)
  have hsz := hb3.size
  clear hb3
  go_wp2_with fail
  refine (cL1 _).mono ?_
  rintro e w4 ⟨rfl, hb4⟩
  have hcZ := (hb4.cell (p := ⟨w1.heap.size, 0, none⟩) (by show w1.heap.size < _; omega)).trans hcZ
  have hrd := rdw_below hrd (hb4.mono hsz)
  have hbel := hbel.trans (hb4.mono hbel.size)
  have hsz := Nat.le_trans hsz hb4.size
  clear hb4
  go_wp2_with fail
  refine (cD2 A cap _ w4 hrd hsz hnc).mono ?_
  rintro e w5 ⟨rfl, hb5⟩
  have hcZ := (hb5.cell (p := ⟨w1.heap.size, 0, none⟩) (by show w1.heap.size < _; omega)).trans hcZ
  have hrd := rdw_below hrd (hb5.mono hsz)
  have hbel := hbel.trans (hb5.mono hbel.size)
  have hsz := Nat.le_trans hsz hb5.size
  clear hb5
  go_wp2_with fail
  refine (cL2 _).mono ?_
  rintro e w6 ⟨rfl, hb6⟩
  have hcZ := (hb6.cell (p := ⟨w1.heap.size, 0, none⟩) (by show w1.heap.size < _; omega)).trans hcZ
  have hrd := rdw_below hrd (hb6.mono hsz)
  have hbel := hbel.trans (hb6.mono hbel.size)
  clear hb6 hsz
  obtain ⟨b, off, rfl, hbB, hc⟩ := hrd.2.2 (by omega)
  obtain ⟨h0, h1⟩ := hc 0 _ HX0.out
  rw [Nat.zero_mul, Nat.add_zero] at h0 h1
  have hpl := HPL.out
  generalize (⟨(pad64 ab).toArray⟩ : ByteArray) = P at *
  have hZs := HZS.out
  clear hc hrd cN cS cD1 cD2 cL1 cL2
  go_wp2
  go_ret
  exact ⟨rfl, hbel⟩
end Go.Proofs.Ytlhdomckljhfoaa
