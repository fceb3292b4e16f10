/-
  The walk of the statements' disks behind several saves. Conditions: the list of numbers reads as one.
-/
import Derived.Test.YtlhdomckljhfoaaDkMade
import Derived.Test.YtlhdomckljhfoaaDkDo
import Derived.Still
namespace Go.Proofs.Ytlhdomckljhfoaa
open Go.ChangeShapes Go.WideShapes Go.ChangeAt Go.RowKit
set_option linter.unusedVariables false
set_option linter.unusedSimpArgs false

theorem still_same {P : Program} {f : FuncId} {args : Array Value} {W : World} {v : Value} (h : Calls P f args W fun e w' => e = .returned v ∧ W = w') : Calls P f args W fun e w' => e = .returned v ∧ w' = W :=
  h.mono fun _ _ ⟨a, b⟩ => ⟨a, b.symm⟩
/-- A slice of ints reads as a list. -/
structure RdI (w : World) (B : Nat) (A : Option Addr) (n : Nat) (ks : List Int) : Prop where
  len : ks.length = n
  bd : ∀ z, z ∈ ks → -9223372036854775808 ≤ z ∧ z ≤ 9223372036854775807
  cells : 0 < n → ∃ b off, A = some ⟨b, off, none⟩ ∧ b < B ∧ ∀ (j : Nat) z, ks[j]? = some z → w.cell? ⟨b, off + j, none⟩ = some (.int .i64 z)
theorem RdI.below {w w' : World} {B n : Nat} {A : Option Addr} {ks : List Int} (h : RdI w B A n ks) (hb : Below B w w') : RdI w' B A n ks := by
  refine ⟨h.len, h.bd, fun hn => ?_⟩
  obtain ⟨b, off, e, hlt, hc⟩ := h.cells hn
  exact ⟨b, off, e, hlt, fun j z hz => (hb.cell (p := ⟨b, off + j, none⟩) hlt).trans (hc j z hz)⟩
theorem RdI.two {w : World} {B n : Nat} {A : Option Addr} {ks : List Int} (h : RdI w B A n ks) {k : Nat} (hk : k + 1 < n) :
    ∃ b off z0 z1, A = some ⟨b, off, none⟩ ∧ b < B ∧ (-9223372036854775808 ≤ z0 ∧ z0 ≤ 9223372036854775807) ∧ (-9223372036854775808 ≤ z1 ∧ z1 ≤ 9223372036854775807) ∧ w.cell? ⟨b, off + k, none⟩ = some (.int .i64 z0) ∧ w.cell? ⟨b, off + (k + 1), none⟩ = some (.int .i64 z1) := by
  obtain ⟨b, off, e, hlt, hc⟩ := h.cells (by omega)
  have h0 : k < ks.length := by rw [h.len]; omega
  have h1 : k + 1 < ks.length := by rw [h.len]; omega
  exact ⟨b, off, ks[k], ks[k + 1], e, hlt, h.bd _ (List.getElem_mem h0), h.bd _ (List.getElem_mem h1), hc k _ (List.getElem?_eq_getElem h0), hc (k + 1) _ (List.getElem?_eq_getElem h1)⟩

theorem tdiv7 (z : Int) (h : -9223372036854775808 ≤ z ∧ z ≤ 9223372036854775807) : -9223372036854775808 ≤ z.tdiv 7 ∧ z.tdiv 7 ≤ 9223372036854775807 := by
  have h1 := Int.mul_tdiv_add_tmod z 7
  have h2 := Int.tmod_lt_of_pos z (show (0 : Int) < 7 by omega)
  have h3 : -7 < z.tmod 7 := by
    have := Int.tmod_lt_of_pos (-z) (show (0 : Int) < 7 by omega)
    rw [Int.neg_tmod] at this
    omega
  omega
def SavedP (w : World) (e : Ending) (w' : World) : Prop := ∃ l : List UInt8, l.length = 20480 ∧ DiskIs l w e w'
/-- The loop's state: the disk in block b3, the result's block w.heap.size. -/
def SvSt (w : World) (b3 : Nat) (wr : World) : Prop :=
  ∃ S : ByteArray, S.size = 20480 ∧ wr.cell? ⟨b3, 0, none⟩ = some (.string S) ∧ wr.frozen? ⟨b3, 0, none⟩ = false ∧ wr.cell? ⟨w.heap.size, 0, none⟩ = some (.string ⟨#[]⟩) ∧ wr.frozen? ⟨w.heap.size, 0, none⟩ = false ∧ Below w.heap.size w wr ∧ b3 < wr.heap.size ∧ w.heap.size < b3
theorem SvSt.next {w wr w' : World} {b3 : Nat} {S : ByteArray} (h1 : S.size = 20480) (h2 : wr.cell? ⟨b3, 0, none⟩ = some (.string S)) (h3 : wr.frozen? ⟨b3, 0, none⟩ = false) (h4 : wr.cell? ⟨w.heap.size, 0, none⟩ = some (.string ⟨#[]⟩)) (h5 : wr.frozen? ⟨w.heap.size, 0, none⟩ = false) (h6 : Below w.heap.size w wr) (h7 : b3 < wr.heap.size) (h8 : w.heap.size < b3) (hb : Below wr.heap.size wr w') :
    w'.cell? ⟨b3, 0, none⟩ = some (.string S) ∧ w'.frozen? ⟨b3, 0, none⟩ = false ∧ w'.cell? ⟨w.heap.size, 0, none⟩ = some (.string ⟨#[]⟩) ∧ w'.frozen? ⟨w.heap.size, 0, none⟩ = false ∧ Below w.heap.size w w' ∧ b3 < w'.heap.size :=
  ⟨(hb.cell (p := ⟨b3, 0, none⟩) h7).trans h2, (hb.frozen (p := ⟨b3, 0, none⟩) h7).trans h3, (hb.cell (p := ⟨w.heap.size, 0, none⟩) (Nat.lt_trans h8 h7)).trans h4, (hb.frozen (p := ⟨w.heap.size, 0, none⟩) (Nat.lt_trans h8 h7)).trans h5, h6.trans (hb.mono (by omega)), Nat.lt_of_lt_of_le h7 hb.size⟩

set_option maxHeartbeats 4000000 in
theorem saved_any (A : Option Addr) (n cap B : Nat) (ks : List Int) (w : World) (hr : RdI w B A n ks) (hn : n ≤ 1073741824) (hB : B ≤ w.heap.size) :
    Calls Try.prog 11 #[.slice A n cap] w (SavedP w) := by
  have HR := Lib.hid hr
  clear hr
  have cN := fun W => rnew_any W
  unfold DiskIs at cN
  obtain ⟨Z, hZ⟩ : ∃ Z : ByteArray, Z = ⟨zeroD.toArray⟩ := ⟨_, rfl⟩
  have hZs : Z.size = 20480 := by rw [← len_size, hZ]; exact zeroD_len
  rw [← hZ] at cN
  have HZ := Lib.hid hZs
  clear hZ hZs
  go_enter Try.func11, Try.ntmps11
  go_wp2_with fail
  refine (cN _).mono ?_
  rintro e w1 ⟨rfl, hb1⟩
  have hs1 := hb1.size
  simp only [World.alloc] at hs1
  have hc1 : w1.cell? ⟨w.heap.size, 0, none⟩ = some (.string ⟨#[]⟩) := (hb1.cell (p := ⟨w.heap.size, 0, none⟩) (by show w.heap.size < _; simp)).trans (by simp [go_sem])
  have hf1 : w1.frozen? ⟨w.heap.size, 0, none⟩ = false := (hb1.frozen (p := ⟨w.heap.size, 0, none⟩) (by show w.heap.size < _; simp)).trans (by simp [go_sem])
  have hlt1 : w.heap.size < w1.heap.size := by have := hb1.size; simp at this; omega
  have hbel1 := ((Below.refl w.heap.size w).alloc (Nat.le_refl _) _).trans (hb1.mono (by simp))
  clear hb1 hs1 cN
  have hst0 : SvSt w w1.heap.size (w1.alloc (.cells #[Value.string Z] 25)) := by
    have hba := (Below.refl w1.heap.size w1).alloc (Nat.le_refl _) (.cells #[Value.string Z] 25)
    exact ⟨Z, HZ.out, by simp [go_sem], by simp [go_sem], (hba.cell (p := ⟨w.heap.size, 0, none⟩) hlt1).trans hc1, (hba.frozen (p := ⟨w.heap.size, 0, none⟩) hlt1).trans hf1, hbel1.alloc hbel1.size _, by simp, hlt1⟩
  go_wp2
  generalize w1.alloc (.cells #[Value.string Z] 25) = w2 at *
  generalize w1.heap.size = b3 at *
  clear hc1 hf1 hlt1 hbel1
  go_loopw [4] (fun i wr => ∃ k : Nat, k ≤ 13 ∧ i = .int .i64 k ∧ SvSt w b3 wr) (fun i _ => 14 - (intOf i).toNat)
  case atStart => exact ⟨0, by omega, rfl, hst0⟩
  case round =>
    clear hst0
    obtain ⟨k, hk, rfl, S, hS, s1, s2, s3, s4, s5, s6, s7⟩ := hrel
    have HSS := Lib.hid hS
    clear hS
    by_cases hlt1 : k + 1 < n
    · by_cases hlt2 : k < 12
      · have i1 : (k : Int) + 1 < n := by omega
        have i2 : (k : Int) < 12 := by omega
        have i0 : (k : Int) < (n : Int) := by omega
        have i00 : (0 : Int) ≤ (k : Int) := by omega
        obtain ⟨kb, ko, z0, z1, rfl, hkB, hz0, hz1, hk0, hk1⟩ := (HR.out.below (s5.mono hB)).two hlt1
        have cT := fun W => text_any z0 W hz0.1 hz0.2
        unfold TextIs at cT
        obtain ⟨T, hT⟩ : ∃ T : ByteArray, T = ⟨(textL (placeI z0 1048576).toNat).toArray⟩ := ⟨_, rfl⟩
        have hTs : T.size ≤ 1073741824 := by
          rw [hT]
          have := sizeT_le (placeI z0 1048576).toNat
          show ((textL (placeI z0 1048576).toNat).toArray).size ≤ _
          rw [List.size_toArray, textL_len]
          omega
        rw [← hT] at cT
        have cS := fun W => rsave_any S T W HSS.out hTs
        unfold SaveP at cS
        clear hT
        generalize saveP S.data.toList T.data.toList = V at *
        obtain ⟨L, er⟩ := V
        have hkbw : kb < wr.heap.size := Nat.lt_of_lt_of_le hkB (Nat.le_trans hB s5.size)
        have hbd : Below wr.heap.size wr wr.drew := below_drewN (Below.refl _ _) 1
        have keep : ∀ W W' : World, (W.cell? ⟨b3, 0, none⟩ = some (.string S) ∧ W.cell? ⟨kb, ko + k, none⟩ = some (.int .i64 z0) ∧ Below wr.heap.size wr W) → Below W.heap.size W W' → (W'.cell? ⟨b3, 0, none⟩ = some (.string S) ∧ W'.cell? ⟨kb, ko + k, none⟩ = some (.int .i64 z0) ∧ Below wr.heap.size wr W') := fun W W' ⟨h1, h2, h3⟩ hb =>
          ⟨(hb.cell (p := ⟨b3, 0, none⟩) (Nat.lt_of_lt_of_le s6 h3.size)).trans h1, (hb.cell (p := ⟨kb, ko + k, none⟩) (Nat.lt_of_lt_of_le hkbw h3.size)).trans h2, h3.trans (hb.mono h3.size)⟩
        have cT' : ∀ W, (W.cell? ⟨b3, 0, none⟩ = some (.string S) ∧ W.cell? ⟨kb, ko + k, none⟩ = some (.int .i64 z0) ∧ Below wr.heap.size wr W) → Calls Try.prog 15 #[.int .i64 z0] W fun e w' => e = .returned (.string T) ∧ (w'.cell? ⟨b3, 0, none⟩ = some (.string S) ∧ w'.cell? ⟨kb, ko + k, none⟩ = some (.int .i64 z0) ∧ Below wr.heap.size wr w') := fun W hW => (cT W).mono fun e w' ⟨h1, h2⟩ => ⟨h1, keep W w' hW h2⟩
        have cS' : ∀ W, (W.cell? ⟨b3, 0, none⟩ = some (.string S) ∧ W.cell? ⟨kb, ko + k, none⟩ = some (.int .i64 z0) ∧ Below wr.heap.size wr W) → Calls Try.prog 16 #[.agg #[.string S], .string T] W fun e w' => ∃ A2 n2 cap2, e = .returned (.tuple #[.slice A2 n2 cap2, .int .i64 er]) ∧ (n2 ≤ cap2 ∧ n2 ≤ 1000 ∧ RdW w' w'.heap.size A2 n2 L) ∧ (w'.cell? ⟨b3, 0, none⟩ = some (.string S) ∧ w'.cell? ⟨kb, ko + k, none⟩ = some (.int .i64 z0) ∧ Below wr.heap.size wr w') := fun W hW => (cS W).mono fun e w' ⟨A2, n2, cap2, h1, h2, h3, h4, h5, h6⟩ => ⟨A2, n2, cap2, h1, ⟨h2, h3, h5⟩, keep W w' hW h6⟩
        clear cT cS keep
        go_wp2_with fail
        go_region_held3 (fun W => W.cell? ⟨b3, 0, none⟩ = some (.string S) ∧ W.cell? ⟨kb, ko + k, none⟩ = some (.int .i64 z0) ∧ Below wr.heap.size wr W)
          (first | assumption | ((refine ⟨?_, ?_, ?_⟩ <;> first | assumption)))
          (first | (go_at_call 15; refine (cT' _ ?_).mono ?_; assumption; rintro e w' ⟨rfl, hS'⟩) | (go_at_call 16; refine (cS' _ ?_).mono ?_; assumption; rintro e w' ⟨A2, n2, cap2, rfl, hrd2, hS'⟩))
        obtain ⟨q1, q2, q3⟩ := hS'
        obtain ⟨hnc2, hn2, hrw2⟩ := hrd2
        have hk1' : w'.cell? ⟨kb, ko + (k + 1), none⟩ = some (.int .i64 z1) := (q3.cell (p := ⟨kb, ko + (k + 1), none⟩) hkbw).trans hk1
        obtain ⟨t1, t2, t3, t4, t5, t6⟩ := SvSt.next HSS.out s1 s2 s3 s4 s5 s6 s7 q3
        clear s1 s2 s3 s4 s5 s6 cT' cS' hbd hk0 hk1 q1 q2 q3
        by_cases her : er = 0
        · subst her
          have p1 := fun W => still_same (place_any z1 ((n2 : Int) + 2) W (by omega) (by omega) hz1.1 hz1.2)
          have hz7 : -9223372036854775808 ≤ z1.tdiv 7 ∧ z1.tdiv 7 ≤ 9223372036854775807 := tdiv7 z1 hz1
          have p2 := fun W => still_same (place_any (z1.tdiv 7) 70 W (by omega) (by omega) hz7.1 hz7.2)
          have w5 : IntKind.i64.wrap (z1.tdiv 7) = z1.tdiv 7 := IntWalk.i64_in _ hz7
          have w2 : IntKind.i64.wrap ((n2 : Int) + 2) = n2 + 2 := IntWalk.i64_in _ (by omega)
          have w1 : IntKind.i64.wrap ((k : Int) + 1) = k + 1 := IntWalk.i64_in _ (by omega)
          have w3 : ((k : Int) + 1).toNat = k + 1 := by omega
          have i3 : (0 : Int) ≤ (k : Int) + 1 := by omega
          go_wp2_with fail
          refine wp_region_still_tail 18 (by kernel_rfl) (by kernel_rfl) ?_
          simp only [List.take_succ_cons, List.take_zero, List.drop_succ_cons, List.drop_zero]
          iterate 10 still_step
          still_call (p1 _)
          iterate 6 still_step
          still_call (p2 _)
          refine wpStill_nil ?_
          have hrw3 : RdW w'.drew w'.heap.size A2 n2 L := rdw_below hrw2 (below_drewN (Below.refl _ _) 1)
          have t5d : Below w.heap.size w w'.drew := below_drewN t5 1
          change wpList _ _ _ _ _ w'.drew
          have hsd : w'.drew.heap.size = w'.heap.size := rfl
          have td1 : w'.drew.cell? ⟨b3, 0, none⟩ = some (.string S) := t1
          have td2 : w'.drew.frozen? ⟨b3, 0, none⟩ = false := t2
          have td3 : w'.drew.cell? ⟨w.heap.size, 0, none⟩ = some (.string ⟨#[]⟩) := t3
          have td4 : w'.drew.frozen? ⟨w.heap.size, 0, none⟩ = false := t4
          generalize w'.drew = w5 at *
          clear t1 t2 t3 t4 t5 hrw2 hk1'
          have cD := rdo_any S A2 n2 cap2 _ L (placeI z1 ((n2 : Int) + 2)) (placeI (z1.tdiv 7) 70) w5 HSS.out hrw3 (by omega) (by omega)
          unfold DiskIs at cD
          obtain ⟨S2, hS2⟩ : ∃ S2 : ByteArray, S2 = ⟨(doP S.data.toList L (placeI z1 ((n2 : Int) + 2)) (placeI (z1.tdiv 7) 70)).toArray⟩ := ⟨_, rfl⟩
          have HS2 : Hid (S2.size = 20480) := by show _ = _; rw [← len_size, hS2]; show (doP _ _ _ _).length = _; rw [doP_len, len_size]; exact HSS.out
          rw [← hS2] at cD
          clear hS2 hrw3
          go_wp2_with fail
          refine cD.mono ?_
          rintro e w6 ⟨rfl, hb6⟩
          obtain ⟨u1, u2, u3, u4, u5, u6⟩ := SvSt.next HSS.out td1 td2 td3 td4 t5d (by omega) s7 hb6
          clear td1 td2 td3 td4 t5d hb6 cD p1 p2
          have hne : b3 ≠ w.heap.size := by omega
          go_wp2_with fail
          go_roundw
          case rel =>
            refine ⟨k + 2, by omega, by go_num, S2, HS2.out, ?_, ?_, ?_, ?_, u5.setCell (by show w.heap.size ≤ b3; omega) _, by simpa [World.setCell] using u6, s7⟩
            · exact World.cell?_setCell_same w6 _ _ (by rw [u1])
            · rw [World.frozen?_setCell]; exact u2
            · exact (World.cell?_setCell_other w6 _ _ _ (fun e => hne (by injection e))).trans u3
            · rw [World.frozen?_setCell]; exact u4
          case measure => simp [intOf]; omega
        · have hb : (er == 0) = false := by simpa using her
          clear her
          go_wp2_with fail
          go_roundw
          case rel => exact ⟨k + 2, by omega, by go_num, S, HSS.out, t1, t2, t3, t4, t5, t6, s7⟩
          case measure => simp [intOf]; omega
      · have i1 : (k : Int) + 1 < n := by omega
        have i2 : ¬ (k : Int) < 12 := by omega
        have hbel : Below w.heap.size w (wr.setCell ⟨w.heap.size, 0, none⟩ (.string S)) := s5.setCell (Nat.le_refl _) _
        go_wp2
        exact bodyPost_ret (v := .agg #[.string S]) (by simp [results, Try.results11, go_sem, s3]) rfl ⟨S.data.toList, by rw [len_size]; exact HSS.out, by rw [toArr], hbel⟩
    · have i1 : ¬ (k : Int) + 1 < n := by omega
      have hbel : Below w.heap.size w (wr.setCell ⟨w.heap.size, 0, none⟩ (.string S)) := s5.setCell (Nat.le_refl _) _
      go_wp2
      exact bodyPost_ret (v := .agg #[.string S]) (by simp [results, Try.results11, go_sem, s3]) rfl ⟨S.data.toList, by rw [len_size]; exact HSS.out, by rw [toArr], hbel⟩
end Go.Proofs.Ytlhdomckljhfoaa
