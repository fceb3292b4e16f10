/-
  The walk of the program's Do. Conditions: the disk's string has the bytes of a disk; the row of writes reads as a list.
-/
import Derived.Test.YtlhdomckljhfoaaDkRDo
import Derived.Lib.SlBuf
namespace Go.Proofs.Ytlhdomckljhfoaa
open Go.ChangeShapes Go.WideShapes Go.ChangeAt Go.RowKit
set_option linter.unusedVariables false
set_option linter.unusedSimpArgs false

/-- What of a write's bytes is laid down. -/
def dataOf (x : List UInt8) (k W t : Nat) : List UInt8 := if k = W then x.take t else x

theorem run_copy_zero {P : Program} (w : World) (dT sT ty elem : TypeId) (A : Option Addr) (dLen dCap : Nat) (t : ByteArray)
    (hu : P.underlying dT = some (.slice elem)) (hz : ∀ w, (Go.sizeOf elem).run P w = .ok 1 w) (h0 : dLen = 0) :
    (Builtin.copy_ #[dT, sT] ty #[.slice A dLen dCap, .string t]).run P w = .ok (goInt 0) w := by
  subst h0
  cases A <;> simp [Builtin.copy_, run_underlying hu, Builtin.lenOf, Builtin.firstCells, hz, storeCells]
theorem dataOf_cut (X D : ByteArray) (k W : Nat) (torn : Int) (hD : D = ⟨(dataOf X.data.toList k W torn.toNat).toArray⟩) (h : k = W) :
    Value.string (X.extract 0 (max (min torn (X.size : Int)) 0).toNat) = .string D := by
  rw [hD]
  unfold dataOf
  rw [if_pos h]
  congr 1
  apply ByteArray.ext
  apply Array.toList_inj.1
  rw [ext_t]
  by_cases h1 : torn.toNat ≤ X.size
  · rw [show (max (min torn (X.size : Int)) 0).toNat = torn.toNat from by omega]
  · rw [show (max (min torn (X.size : Int)) 0).toNat = X.size from by omega, List.take_of_length_le (by rw [len_size]; omega)]
    show _ = X.data.toList.take torn.toNat
    rw [List.take_of_length_le (by rw [len_size]; omega)]

set_option maxHeartbeats 2000000 in
set_option maxRecDepth 100000 in
theorem do_any (s : ByteArray) (A : Option Addr) (n cap B : Nat) (l : List Wr) (whole torn : Int) (w : World) (hs : s.size = 20480) (hr : RdW w B A n l) (hn : n ≤ 1073741824) (hnc : n ≤ cap) (hB : B ≤ w.heap.size) :
    Calls Try.prog 19 #[.agg #[.string s], .slice A n cap, .int .i64 whole, .int .i64 torn] w (DiskIs (doP s.data.toList l whole torn) w) := by
  have hl : s.data.toList.length = 20480 := by rw [len_size]; exact hs
  have hcv : ∀ w, (convert 9 38 (.string s)).run Try.prog w = _ := fun w => Lib.run_convert_string_bytes w 9 38 5 s Try.underlying9 Try.underlying38 Try.underlying5
  rw [hs] at hcv
  obtain ⟨i0, hi0, hz0, hz1, hz2⟩ := info_parts info_u8
  have hz8 : ∀ w, (Go.sizeOf 5).run Try.prog w = .ok 1 w := fun w => by simp [Go.sizeOf, typeInfo, hi0, hz1]
  obtain ⟨W, hW⟩ : ∃ W, wholeN n whole = W := ⟨_, rfl⟩
  have HW := Lib.hid hW
  unfold wholeN at hW
  have HR := Lib.hid hr
  have HL := Lib.hid hr.1
  have HLS := Lib.hid hl
  have HS := Lib.hid hs
  clear hr hl hs
  go_enter Try.func19, Try.ntmps19
  go_upto_region 2 with (fail)
  obtain ⟨w1, hw1⟩ : ∃ w1 : World, (w.alloc (.cells #[Value.string s] 25)).alloc (.cells #[Value.string { data := #[] }] 25) = w1 := ⟨_, rfl⟩
  have hbel1 : Below w.heap.size w w1 := by rw [← hw1]; exact ((Below.refl _ _).alloc (Nat.le_refl _) _).alloc (by simp) _
  have hsz1 : w1.heap.size = w.heap.size + 2 := by rw [← hw1]; simp
  have hcR : w1.cell? ⟨w.heap.size + 1, 0, none⟩ = some (.string ⟨#[]⟩) ∧ w1.frozen? ⟨w.heap.size + 1, 0, none⟩ = false := by rw [← hw1]; simp [go_sem]
  rw [hw1]
  have hcp : 20480 ≤ grownCap w1 20480 0 5 := grownCap_ge _ _ _ _
  generalize grownCap w1 20480 0 5 = cp at *
  have hb2 := bw_below w1 5 s
  have hB2 : Byt (Lib.bytesWorld w1 5 s) (w.heap.size + 1 + 1) s.data.toList := by have := bw_byt w1 5 s; rwa [hsz1] at this
  have hc2 : (Lib.bytesWorld w1 5 s).cell? ⟨w.heap.size + 1, 0, none⟩ = some (.string ⟨#[]⟩) := (hb2.cell (p := ⟨w.heap.size + 1, 0, none⟩) (by show w.heap.size + 1 < _; omega)).trans hcR.1
  have hf2 : (Lib.bytesWorld w1 5 s).frozen? ⟨w.heap.size + 1, 0, none⟩ = false := (hb2.frozen (p := ⟨w.heap.size + 1, 0, none⟩) (by show w.heap.size + 1 < _; omega)).trans hcR.2
  have hbel2 : Below w.heap.size w (Lib.bytesWorld w1 5 s) := hbel1.trans (hb2.mono (by omega))
  clear hcv hb2 hcR hw1
  have hR2 := rdw_below HR.out (hbel2.mono hB)
  generalize Lib.bytesWorld w1 5 s = w2 at *
  clear hbel1 hsz1 HR
  have HR := Lib.hid hR2
  have HB2 := Lib.hid hB2
  have hWn : W ≤ n := by omega
  clear hR2 hB2
  go_cut [2] from 16 to 20 (fun v wx => v = .int .i64 (W : Int) ∧ wx = w2)
  case first =>
    go_wp2
    all_goals
      go_meet
      exact ⟨by go_num, rfl⟩
  case rest =>
    obtain ⟨rfl, rfl⟩ := hcut
    obtain ⟨M, hM⟩ : ∃ M, min (W + 1) n = M := ⟨_, rfl⟩
    have HD : Hid (doP s.data.toList l whole torn = doTo s.data.toList l W torn.toNat M) := by show _ = _; unfold doP; rw [HL.out, HW.out, hM]
    have HDL := Lib.hid (fun k => (doTo_len s.data.toList l W torn.toNat k).trans HLS.out)
    clear hW HS
    generalize doP s.data.toList l whole torn = R at *
    have HB0 : Hid (Byt wc (w.heap.size + 1 + 1) (doTo s.data.toList l W torn.toNat 0)) := HB2.out
    clear HB2
    have hMn : M ≤ n := by omega
    go_upto_region 3 with (fail)
    go_cut [27, 28, 29] from 21 to 29 (fun v v2 v3 wx => v = .slice A M cap ∧ v2 = .int .i64 (M : Int) ∧ v3 = .int .i64 0 ∧ wx = wc)
    case first =>
      go_wp2
      have e1 : (min ((W : Int) + 1) (n : Int)).toNat = M := by omega
      have e2 : max (min ((W : Int) + 1) (n : Int)) 0 = (M : Int) := by omega
      go_meet
      exact ⟨by rw [e1], by rw [e2], rfl, rfl⟩
    case rest =>
      obtain ⟨rfl, rfl, rfl, rfl⟩ := hcut
      clear hM
      go_wp2
      go_loopw [29] (fun i wr => ∃ k : Nat, k ≤ M ∧ i = .int .i64 k ∧ Byt wr (w.heap.size + 1 + 1) (doTo s.data.toList l W torn.toNat k) ∧ wr.cell? ⟨w.heap.size + 1, 0, none⟩ = some (.string ⟨#[]⟩) ∧ wr.frozen? ⟨w.heap.size + 1, 0, none⟩ = false ∧ RdW wr B A n l ∧ Below w.heap.size w wr) (fun i _ => M - (intOf i).toNat)
      case atStart => exact ⟨0, by omega, rfl, HB0.out, hc2, hf2, HR.out, hbel2⟩
      case round =>
        clear hc2 hf2 HR hbel2 HB0
        obtain ⟨k, hk, rfl, hB, hc, hf, hR, hbel⟩ := hrel
        by_cases hlt : k < M
        · have hkn : k < n := by omega
          obtain ⟨b, off, a, x, rfl, hbB, hx, hxs, hca, hcx⟩ := rdw_at hR hkn
          have HSTEP : Hid (doTo s.data.toList l W torn.toNat (k + 1) = putP (doTo s.data.toList l W torn.toNat k) a (dataOf x k W torn.toNat)) := by
            show _ = _
            rw [doTo_succ hx]
            rfl
          have HR := Lib.hid hR
          obtain ⟨X, hX⟩ : ∃ X : ByteArray, X = ⟨x.toArray⟩ := ⟨_, rfl⟩
          have hXs : X.size ≤ 1073741824 := by rw [hX]; simpa [ByteArray.size] using hxs
          have hXl : X.data.toList = x := by rw [hX]
          rw [← hX] at hcx
          have HX := Lib.hid hXl
          have HB := Lib.hid hB
          clear hB hR hx hX hXl hxs
          have hsz := hbel.size
          go_upto_if 38 with (fail)
          have hbel5 : Below w.heap.size w (wr.alloc (.cells #[Value.int IntKind.i64 a, Value.string X] 41)) := hbel.alloc hsz _
          have hc5 := (Below.cell ((Below.refl wr.heap.size wr).alloc (Nat.le_refl _) (.cells #[Value.int IntKind.i64 a, Value.string X] 41)) (p := ⟨w.heap.size + 1, 0, none⟩) (World.block_lt_of_cell? wr _ hc)).trans hc
          have hf5 := (Below.frozen ((Below.refl wr.heap.size wr).alloc (Nat.le_refl _) (.cells #[Value.int IntKind.i64 a, Value.string X] 41)) (p := ⟨w.heap.size + 1, 0, none⟩) (World.block_lt_of_cell? wr _ hc)).trans hf
          have hB5 := HB.out.alloc (.cells #[Value.int IntKind.i64 a, Value.string X] 41)
          have hR5 := rdw_below HR.out ((Below.refl B wr).alloc (Nat.le_trans hB hbel.size) (.cells #[Value.int IntKind.i64 a, Value.string X] 41))
          have ha5 : (wr.alloc (.cells #[Value.int IntKind.i64 a, Value.string X] 41)).cell? ⟨wr.heap.size, 0, none⟩ = some (.int .i64 a) := by simp [go_sem]
          generalize wr.alloc (.cells #[Value.int IntKind.i64 a, Value.string X] 41) = w5 at *
          generalize wr.heap.size = bx at *
          have HB5 := Lib.hid hB5
          have HR5 := Lib.hid hR5
          clear hB5 hR5 hc hf hbel hca hcx HB HR
          obtain ⟨D, hD⟩ : ∃ D : ByteArray, D = ⟨(dataOf x k W torn.toNat).toArray⟩ := ⟨_, rfl⟩
          have HDD := Lib.hid hD
          clear hD
          go_cut [12] from 36 to 45 (fun v wx => v = .string D ∧ wx = w5)
          case first =>
            by_cases hkW : k = W
            · have HDX : Hid (Value.string (X.extract 0 (max (min torn (X.size : Int)) 0).toNat) = .string D) := dataOf_cut X D k W torn (by rw [HDD.out, HX.out]) hkW
              subst hkW
              go_wp2
              all_goals
                go_meet
                exact ⟨HDX.out, rfl⟩
            · have hb : ((k : Int) == (W : Int)) = false := by simp; omega
              have HDX : Hid (X = D) := by show _ = _; rw [HDD.out, ← HX.out]; unfold dataOf; rw [if_neg hkW, toArr]
              clear hkW
              go_wp2
              all_goals
                go_meet
                exact ⟨by rw [HDX.out], rfl⟩
          case rest =>
            obtain ⟨rfl, rfl⟩ := hcut
            have HDL5 := HDL.out k
            have hDl : D.data.toList = dataOf x k W torn.toNat := by rw [HDD.out]
            by_cases ha : 0 ≤ a ∧ a ≤ 320
            · obtain ⟨q, rfl⟩ : ∃ q : Nat, a = q := ⟨a.toNat, by omega⟩
              have hq : q ≤ 320 := by omega
              have i1 : (0 : Int) ≤ (q : Int) := by omega
              have i2 : (q : Int) ≤ 320 := by omega
              clear ha
              have HM : Hid (dataOf x k W torn.toNat = D.data.toList) := hDl.symm
              clear hDl HDD
              obtain ⟨m, hm⟩ : ∃ m, min D.size 64 = m := ⟨_, rfl⟩
              have w6 : (min (D.size : Int) 64).toNat = m := by omega
              have i6 : (0 : Int) ≤ min (D.size : Int) 64 := by omega
              have i7 : min (D.size : Int) 64 ≤ (D.size : Int) := by omega
              have hmD : m ≤ D.size := by omega
              have hm64 : m ≤ 64 := by omega
              have HMM := Lib.hid hm
              clear hm
              by_cases hq2 : q < 320
              · have w1 : IntKind.i64.wrap ((q : Int) * 64) = q * 64 := IntWalk.i64_in _ (by omega)
                have w2 : ((q : Int) * 64).toNat = q * 64 := by omega
                have i3 : (0 : Int) ≤ (q : Int) * 64 := by omega
                have i4 : (q : Int) * 64 ≤ 20480 := by omega
                have i5 : ¬ cp = q * 64 := by omega
                go_wp2_with fail
                refine wp_region_still_tail 10 (by kernel_rfl) (by kernel_rfl) ?_
                simp only [List.take_succ_cons, List.take_zero, List.drop_succ_cons, List.drop_zero]
                iterate 10 still_step
                refine wpStill_nil ?_
                change wpList _ _ _ _ _ wc.drew
                have hB6 := HB5.out.drew
                have hts : (D.extract 0 m).size = m := by rw [ByteArray.size_extract]; omega
                have hcc : ∀ j, j < (D.extract 0 m).size → (wc.drew.cell? ⟨w.heap.size + 1 + 1, q * 64 + j, none⟩).isSome = true := fun j hj => hB6.some_ (by rw [HDL5]; omega)
                have hff : ∀ j, j < (D.extract 0 m).size → wc.drew.frozen? ⟨w.heap.size + 1 + 1, q * 64 + j, none⟩ = false := fun j hj => hB6.free _ (by rw [HDL5]; omega)
                refine Lib.wpList_copy_run wc.drew rfl (.tmp 61) (.tmp 66) 38 9 rfl (.slice (some ⟨w.heap.size + 1 + 1, q * 64, none⟩) (20480 - q * 64) (cp - q * 64)) (.string (D.extract 0 m)) ?_ rfl (run_copy_string wc.drew _ _ _ 5 (w.heap.size + 1 + 1) (q * 64) _ _ (D.extract 0 m) Try.underlying38 hz8 (by omega) hcc hff) ?_
                · simp [go_sem]
                have hSC := hB6.setCells_ (x := (D.extract 0 m).data.toList) (q * 64) (by rw [HDL5, len_size]; omega)
                have hgr : wc.drew.grownBy (wc.drew.setCells (w.heap.size + 1 + 1) (q * 64) (B8 (D.extract 0 m).data.toList)) (some (w.heap.size + 1 + 1)) := grown_setCells _ _ (World.grownBy.refl _ _)
                change wpList _ _ _ _ _ (wc.drew.setCells (w.heap.size + 1 + 1) (q * 64) (B8 (D.extract 0 m).data.toList))
                have HP : Hid (doTo s.data.toList l W torn.toNat (k + 1) = over (doTo s.data.toList l W torn.toNat k) (q * 64) (D.extract 0 m).data.toList) := by
                  show _ = _
                  rw [HSTEP.out, putP_in _ _ _ (by rw [HDL5]; omega), ext_t, HM.out, ← HMM.out]
                  congr 1
                  by_cases h : 64 ≤ D.size
                  · rw [show min D.size 64 = 64 from by omega]
                  · rw [List.take_of_length_le (by rw [len_size]; omega), List.take_of_length_le (by rw [len_size]; omega)]
                have hc6 := hgr.cell (v := .string ⟨#[]⟩) hc5 (fun e => by injection e with e; exact absurd e (by show w.heap.size + 1 ≠ _; omega))
                have hf6 := (World.frozen?_of_block (a := ⟨w.heap.size + 1, 0, none⟩) (hgr.block _ (World.block_lt_of_cell? wc _ hc5) (fun e => by injection e with e; exact absurd e (by show w.heap.size + 1 ≠ _; omega)))).trans hf5
                have hbel6 := below_of_grown (below_drewN hbel5 1) hgr (by omega) hbel5.size
                have hR6 := rdw_below HR5.out (below_of_grown (below_drewN (Below.refl B wc) 1) hgr (by omega) (Nat.le_trans hB hbel5.size))
                have HB6 : Hid (Byt (wc.drew.setCells (w.heap.size + 1 + 1) (q * 64) (B8 (D.extract 0 m).data.toList)) (w.heap.size + 1 + 1) (doTo s.data.toList l W torn.toNat (k + 1))) := by
                  show Byt _ _ _
                  rw [HP.out]
                  exact hSC
                have HR6 := Lib.hid hR6
                clear hSC hcc hff hts hB6 HP hgr hR6 HB5 HR5 hc5 hf5 hbel5 ha5
                generalize wc.drew.setCells (w.heap.size + 1 + 1) (q * 64) (B8 (D.extract 0 m).data.toList) = w6 at *
                go_wp2
                go_roundw
                case rel => exact ⟨k + 1, by omega, by go_num, HB6.out, hc6, hf6, HR6.out, hbel6⟩
                case measure => simp [intOf]; omega
              · have w1 : IntKind.i64.wrap ((q : Int) * 64) = q * 64 := IntWalk.i64_in _ (by omega)
                have w2 : ((q : Int) * 64).toNat = q * 64 := by omega
                have i3 : (0 : Int) ≤ (q : Int) * 64 := by omega
                have i4 : (q : Int) * 64 ≤ 20480 := by omega
                have HP : Hid (doTo s.data.toList l W torn.toNat (k + 1) = doTo s.data.toList l W torn.toNat k) := by
                  show _ = _
                  rw [HSTEP.out, putP_out _ _ _ (by rw [HDL5]; omega)]
                have hi5 : q * 64 = cp ∨ ¬ cp = q * 64 := by omega
                rcases hi5 with i5 | i5
                all_goals
                  go_wp2_with fail
                  refine wp_region_still_tail 10 (by kernel_rfl) (by kernel_rfl) ?_
                  simp only [List.take_succ_cons, List.take_zero, List.drop_succ_cons, List.drop_zero]
                  iterate 10 still_step
                  refine wpStill_nil ?_
                  change wpList _ _ _ _ _ wc.drew
                  refine Lib.wpList_copy_run wc.drew rfl (.tmp 61) (.tmp 66) 38 9 rfl _ (.string (D.extract 0 m)) rfl rfl (run_copy_zero wc.drew _ _ _ 5 _ _ _ (D.extract 0 m) Try.underlying38 hz8 (by omega)) ?_
                  have hbel6 : Below w.heap.size w wc.drew := below_drewN hbel5 1
                  have hB6 := HB5.out.drew
                  have hR6 : RdW wc.drew B (some ⟨b, off, none⟩) n l := rdw_below HR5.out (below_drewN (Below.refl B wc) 1)
                  have HB6 := Lib.hid hB6
                  have HR6 := Lib.hid hR6
                  have hc6 : wc.drew.cell? ⟨w.heap.size + 1, 0, none⟩ = some (.string ⟨#[]⟩) := hc5
                  have hf6 : wc.drew.frozen? ⟨w.heap.size + 1, 0, none⟩ = false := hf5
                  clear hB6 hR6 HB5 HR5 hc5 hf5 hbel5 ha5
                  change wpList _ _ _ _ _ wc.drew
                  generalize hwd : wc.drew = w6 at *
                  clear hwd
                  go_wp2
                  go_roundw
                  case rel => exact ⟨k + 1, by omega, by go_num, by rw [HP.out]; exact HB6.out, hc6, hf6, HR6.out, hbel6⟩
                  case measure => simp [intOf]; omega
            · have HP : Hid (doTo s.data.toList l W torn.toNat (k + 1) = doTo s.data.toList l W torn.toNat k) := by
                show _ = _
                rw [HSTEP.out, putP_out _ _ _ (by rw [HDL5]; omega)]
              by_cases ha0 : 0 ≤ a
              · have ha1 : (320 : Int) < a := by omega
                clear ha
                go_wp2
                go_roundw
                case rel => exact ⟨k + 1, by omega, by go_num, by rw [HP.out]; exact HB5.out, hc5, hf5, HR5.out, hbel5⟩
                case measure => simp [intOf]; omega
              · clear ha
                go_wp2
                go_roundw
                case rel => exact ⟨k + 1, by omega, by go_num, by rw [HP.out]; exact HB5.out, hc5, hf5, HR5.out, hbel5⟩
                case measure => simp [intOf]; omega
        · obtain rfl : k = M := by omega
          have HRL : Hid (R.length = 20480) := by show _ = _; rw [HD.out]; exact HDL.out _
          have hB3 : Byt wr (w.heap.size + 1 + 1) R := by rw [HD.out]; exact hB
          have hcv := hB3.conv (P := Try.prog) 38 9 Try.underlying38 Try.underlying5 Try.underlying9 0 20480 cp R HRL.out (fun j hj => by rw [Nat.zero_add])
          clear hB3 hB hR
          go_wp2
          exact bodyPost_ret (v := .agg #[.string ⟨R.toArray⟩]) (by simp [results, Try.results19, go_sem, hc]) rfl ⟨rfl, hbel.setCell (by show w.heap.size ≤ w.heap.size + 1; omega) _⟩
end Go.Proofs.Ytlhdomckljhfoaa
