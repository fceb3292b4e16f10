/-
  DiskElder: behind two whole Saves, with one byte turned of the newer slot: Load tells the elder string if the byte is read, else the newer one. Conditions: none.
-/
import Derived.Test.YtlhdomckljhfoaaRows
import Derived.Test.YtlhdomckljhfoaaDkSaved
import Derived.Test.YtlhdomckljhfoaaDkElder
import Derived.Test.YtlhdomckljhfoaaMem
import Derived.WalkKit
import Derived.ProofKit
import Derived.OpenShut
import Derived.ShutString
namespace Go.Proofs.Ytlhdomckljhfoaa.diskElder
open Go.ChangeShapes Go.WideShapes Go.ChangeAt Go.RowKit
open Go.ChangeMaps (open_string shut_string)
set_option linter.unusedVariables false      -- a walk need not use every 'w<i>' (that an integer argument fits its kind)

theorem own : ownKnob Try.prog.godebug = none := by kernel_rfl

set_option maxHeartbeats 4000000 in
set_option maxRecDepth 100000 in
theorem walk (a0 : Int) (a1 : Int) (a2 : Int) (a3 : Int) (w0 : (Lit.int .i64 a0).wf = true) (w1 : (Lit.int .i64 a1).wf = true) (w2 : (Lit.int .i64 a2).wf = true) (w3 : (Lit.int .u8 a3).wf = true) (w : World) :
    Calls Try.prog 9 #[.int .i64 a0, .int .i64 a1, .int .i64 a2, .int .u8 a3] w fun e w' => e = .returned (.bool true) ∧ Below w.heap.size w w' := by
  have b0 := bounds_i64 w0
  have b1 := bounds_i64 w1
  have b2 := bounds_i64 w2
  obtain ⟨d, rfl⟩ : ∃ n, a3 = bi n := ⟨UInt8.ofNat a3.toNat, (bi_ofNat (bounds_u8 w3)).symm⟩
  clear w0 w1 w2 w3
  have cT0 := fun W => text_any a0 W b0.1 b0.2
  have cT1 := fun W => text_any a1 W b1.1 b1.2
  unfold TextIs at cT0 cT1
  have z0 := sizeT_le (placeI a0 1048576).toNat
  have z1 := sizeT_le (placeI a1 1048576).toNat
  rw [← textL_len] at z0 z1
  generalize textL (placeI a0 1048576).toNat = s at *
  generalize textL (placeI a1 1048576).toNat = t at *
  obtain ⟨T0, hT0⟩ : ∃ T : ByteArray, T = ⟨s.toArray⟩ := ⟨_, rfl⟩
  obtain ⟨T1, hT1⟩ : ∃ T : ByteArray, T = ⟨t.toArray⟩ := ⟨_, rfl⟩
  rw [← hT0] at cT0
  rw [← hT1] at cT1
  have l0 : T0.data.toList = s := by rw [hT0]
  have l1 : T1.data.toList = t := by rw [hT1]
  have s0 : T0.size = s.length := by rw [← len_size, l0]
  have s1 : T1.size = t.length := by rw [← len_size, l1]
  clear hT0 hT1
  by_cases hg0 : 400 < T0.size
  · have i0 : (400 : Int) < (T0.size : Int) := by omega
    go_enter Try.func9, Try.ntmps9
    go_wp2_with fail
    refine (cT0 _).mono ?_
    rintro e W1 ⟨rfl, hb1⟩
    go_wp2_with fail
    refine (cT1 _).mono ?_
    rintro e W2 ⟨rfl, hb2⟩
    have hbel := hb1.trans (hb2.mono hb1.size)
    go_wp2_with fail
    refine (awake_any _).mono ?_
    rintro e W3 ⟨rfl, hb3⟩
    go_wp2_with fail
    go_ret
    exact ⟨rfl, hbel.trans (hb3.mono hbel.size)⟩
  · have i0 : ¬ (400 : Int) < (T0.size : Int) := by omega
    by_cases hg1 : 400 < T1.size
    · have i1 : (400 : Int) < (T1.size : Int) := by omega
      go_enter Try.func9, Try.ntmps9
      go_wp2_with fail
      refine (cT0 _).mono ?_
      rintro e W1 ⟨rfl, hb1⟩
      go_wp2_with fail
      refine (cT1 _).mono ?_
      rintro e W2 ⟨rfl, hb2⟩
      have hbel := hb1.trans (hb2.mono hb1.size)
      go_wp2_with fail
      refine (awake_any _).mono ?_
      rintro e W3 ⟨rfl, hb3⟩
      go_wp2_with fail
      go_ret
      exact ⟨rfl, hbel.trans (hb3.mono hbel.size)⟩
    · have i1 : ¬ (400 : Int) < (T1.size : Int) := by omega
      by_cases hd : d = 0
      · subst hd
        go_enter Try.func9, Try.ntmps9
        go_wp2_with fail
        refine (cT0 _).mono ?_
        rintro e W1 ⟨rfl, hb1⟩
        go_wp2_with fail
        refine (cT1 _).mono ?_
        rintro e W2 ⟨rfl, hb2⟩
        have hbel := hb1.trans (hb2.mono hb1.size)
        have hd0 : (bi 0 == 0) = true := rfl
        go_wp2_with fail
        refine (awake_any _).mono ?_
        rintro e W3 ⟨rfl, hb3⟩
        go_wp2_with fail
        go_ret
        exact ⟨rfl, hbel.trans (hb3.mono hbel.size)⟩
      · have hd1 : (bi d == 0) = false := by
          rw [beq_eq_false_iff_ne]
          intro e
          exact hd (bi_inj (b := 0) e)
        have ht8 : t.length ≤ 400 := by omega
        have hs8 : s.length ≤ 400 := by omega
        have hsec : secN t.length ≤ 7 := by unfold secN; omega
        have hsec0 : secN s.length ≤ 7 := by unfold secN; omega
        obtain ⟨Z, hZ⟩ : ∃ Z : ByteArray, Z = ⟨zeroD.toArray⟩ := ⟨_, rfl⟩
        have hZl : Z.data.toList = zeroD := by rw [hZ]
        have hZs : Z.size = 20480 := by rw [← len_size, hZl, zeroD_len]
        obtain ⟨D1, hD1⟩ : ∃ D : ByteArray, D = ⟨(disk1 s).toArray⟩ := ⟨_, rfl⟩
        have hD1l : D1.data.toList = disk1 s := by rw [hD1]
        have hD1s : D1.size = 20480 := by rw [← len_size, hD1l, disk1_len]
        obtain ⟨D2, hD2⟩ : ∃ D : ByteArray, D = ⟨(disk2 s t).toArray⟩ := ⟨_, rfl⟩
        have hD2l : D2.data.toList = disk2 s t := by rw [hD2]
        have hD2s : D2.size = 20480 := by rw [← len_size, hD2l, disk2_len]
        have cN := fun W => new_any W
        unfold DiskIs at cN
        rw [← hZ] at cN
        have cS0 := fun W => save_any Z T0 W hZs (by omega)
        unfold SaveP at cS0
        rw [hZl, l0, saveP_zero s (by omega)] at cS0
        have cS1 := fun W => save_any D1 T1 W hD1s (by omega)
        unfold SaveP at cS1
        rw [hD1l, l1, disk1_save s t (by omega) (by omega)] at cS1
        have cD0 := fun A cap B W hr hB hc => do_any Z A (secN s.length + 1) cap B (savesN 0 1 s) ((secN s.length + 1 : Nat) : Int) 0 W hZs hr (by omega) hc hB
        have cD1 := fun A cap B W hr hB hc => do_any D1 A (secN t.length + 1) cap B (savesN 160 2 t) ((secN t.length + 1 : Nat) : Int) 0 W hD1s hr (by omega) hc hB
        unfold DiskIs at cD0 cD1
        rw [hZl] at cD0
        rw [hD1l] at cD1
        change ∀ A cap B W hr hB hc, Calls _ _ _ W fun e w' => e = .returned (.agg #[.string ⟨(disk1 s).toArray⟩]) ∧ _ at cD0
        change ∀ A cap B W hr hB hc, Calls _ _ _ W fun e w' => e = .returned (.agg #[.string ⟨(disk2 s t).toArray⟩]) ∧ _ at cD1
        rw [← hD1] at cD0
        rw [← hD2] at cD1
        have HL0 := Lib.hid (savesN_len 0 1 s)
        have HL1 := Lib.hid (savesN_len 160 2 t)
        have HLast := Lib.hid (savesN_last 160 2 t)
        have cP := fun W => place_any a2 600 W (by omega) (by omega) b2.1 b2.2
        obtain ⟨hk0, hk1⟩ := placeI_bd a2 600 (by omega)
        obtain ⟨k, hk⟩ : ∃ k : Nat, placeI a2 600 = k := ⟨(placeI a2 600).toNat, by omega⟩
        rw [hk] at cP hk0 hk1
        have hk600 : k < 600 := by omega
        obtain ⟨x, hx⟩ : ∃ x, (disk2 s t)[10240 + k]? = some x := ⟨_, List.getElem?_eq_getElem (by rw [disk2_len]; omega)⟩
        have htold := elder_told s t hs8 ht8 k hk600 x d hx hd
        obtain ⟨D3, hD3⟩ : ∃ D : ByteArray, D = ⟨((disk2 s t).set (10240 + k) (x ^^^ d)).toArray⟩ := ⟨_, rfl⟩
        have hD3l : D3.data.toList = (disk2 s t).set (10240 + k) (x ^^^ d) := by rw [hD3]
        have cL := fun W => load_any D3 W (by rw [← len_size, hD3l, List.length_set, disk2_len])
        unfold LoadP at cL
        rw [hD3l, htold] at cL
        have HZS := Lib.hid hZs
        have HD2l := Lib.hid hD2l
        have HD2s := Lib.hid hD2s
        have HD3 := Lib.hid hD3
        have HX := Lib.hid hx
        have HXX := Lib.hid (xor8 x d)
        have L0 := Lib.hid l0
        have L1 := Lib.hid l1
        have S1 := Lib.hid s1
        clear hZ hZl hZs hD1 hD1l hD1s hD2 hD2l hD2s hD3 hD3l htold hx hk hd l0 l1 s0 s1
        go_enter Try.func9, Try.ntmps9
        go_wp2_with fail
        refine (cT0 _).mono ?_
        rintro e W1 ⟨rfl, hb1⟩
        go_wp2_with fail
        refine (cT1 _).mono ?_
        rintro e W2 ⟨rfl, hb2⟩
        have hbel := hb1.trans (hb2.mono hb1.size)
        clear hb1 hb2
        go_wp2_with fail
        refine (cN _).mono ?_
        rintro e W3 ⟨rfl, hb⟩
        have hbel := hbel.trans (hb.mono hbel.size)
        clear hb
        have hbA := (Below.refl W3.heap.size W3).alloc (Nat.le_refl _) (.cells #[Value.string Z] 25)
        have hc : (W3.alloc (.cells #[Value.string Z] 25)).cell? ⟨W3.heap.size, 0, none⟩ = some (.string Z) := by simp [go_sem]
        have hf : (W3.alloc (.cells #[Value.string Z] 25)).frozen? ⟨W3.heap.size, 0, none⟩ = false := by simp [go_sem]
        have hlt : W3.heap.size < (W3.alloc (.cells #[Value.string Z] 25)).heap.size := by simp
        have hB3 := hbel.size
        have hbel := hbel.trans (hbA.mono hbel.size)
        clear hbA
        go_wp2_with fail
        generalize W3.alloc (.cells #[Value.string Z] 25) = W4 at *
        generalize W3.heap.size = g at *
        refine (cS0 _).mono ?_
        rintro e W5 ⟨A, n, cap, rfl, hnc, hn1, hln, hrd, hb⟩
        obtain rfl : n = secN s.length + 1 := by rw [← hln]; exact HL0.out
        have hc := (hb.cell (p := ⟨g, 0, none⟩) hlt).trans hc
        have hf := (hb.frozen (p := ⟨g, 0, none⟩) hlt).trans hf
        have hbel := hbel.trans (hb.mono hbel.size)
        have hlt := Nat.lt_of_lt_of_le hlt hb.size
        clear hb hln cS0 cN
        go_wp2_with fail
        refine (cD0 A cap _ W5 hrd (Nat.le_refl _) hnc).mono ?_
        rintro e W6 ⟨rfl, hb⟩
        have hc := (hb.cell (p := ⟨g, 0, none⟩) hlt).trans hc
        have hf := (hb.frozen (p := ⟨g, 0, none⟩) hlt).trans hf
        have hbel := hbel.trans (hb.mono hbel.size)
        have hlt := Nat.lt_of_lt_of_le hlt hb.size
        clear hb hrd cD0 HL0
        have hs6 := World.cell?_setCell_same W6 ⟨g, 0, none⟩ (.string D1) (by rw [hc])
        have hf6 : (W6.setCell ⟨g, 0, none⟩ (.string D1)).frozen? ⟨g, 0, none⟩ = false := by rw [World.frozen?_setCell]; exact hf
        have hb6 : Below w.heap.size w (W6.setCell ⟨g, 0, none⟩ (.string D1)) := hbel.setCell hB3 _
        have hl6 : g < (W6.setCell ⟨g, 0, none⟩ (.string D1)).heap.size := by simpa [World.setCell] using hlt
        go_wp2_with fail
        generalize W6.setCell ⟨g, 0, none⟩ (.string D1) = W7 at *
        clear hc hf hbel hlt
        refine (cS1 _).mono ?_
        rintro e W8 ⟨A', n', cap', rfl, hnc', hn1', hln', hrd', hb⟩
        obtain rfl : n' = secN t.length + 1 := by rw [← hln']; exact HL1.out
        have hc := (hb.cell (p := ⟨g, 0, none⟩) hl6).trans hs6
        have hf := (hb.frozen (p := ⟨g, 0, none⟩) hl6).trans hf6
        have hbel := hb6.trans (hb.mono hb6.size)
        have hlt := Nat.lt_of_lt_of_le hl6 hb.size
        clear hb hln' cS1 hs6 hf6 hb6 hl6
        go_wp2_with fail
        refine (cD1 A' cap' _ W8 hrd' (Nat.le_refl _) hnc').mono ?_
        rintro e W9 ⟨rfl, hb⟩
        have hc := (hb.cell (p := ⟨g, 0, none⟩) hlt).trans hc
        have hf := (hb.frozen (p := ⟨g, 0, none⟩) hlt).trans hf
        have hbel := hbel.trans (hb.mono hbel.size)
        have hlt := Nat.lt_of_lt_of_le hlt hb.size
        obtain ⟨b', off', rfl, hbB', hcs'⟩ := (rdw_below hrd' hb).2.2 (by omega)
        have hAt : W9.cell? ⟨b', off' + secN t.length * 2, none⟩ = some (.int .i64 160) := (hcs' (secN t.length) _ HLast.out).1
        clear hb hrd' hcs' cD1 HL1 HLast
        have hs6 := World.cell?_setCell_same W9 ⟨g, 0, none⟩ (.string D2) (by rw [hc])
        have hAt6 := (World.cell?_setCell_other W9 ⟨g, 0, none⟩ ⟨b', off' + secN t.length * 2, none⟩ (.string D2) (fun e => by rw [← e, hc] at hAt; cases hAt)).trans hAt
        have hb6 : Below w.heap.size w (W9.setCell ⟨g, 0, none⟩ (.string D2)) := hbel.setCell hB3 _
        have hl6 : g < (W9.setCell ⟨g, 0, none⟩ (.string D2)).heap.size := by simpa [World.setCell] using hlt
        have hd2 := HD2s.out
        generalize secN t.length = q at *
        go_upto_if 77 with (fail)
        generalize W9.setCell ⟨g, 0, none⟩ (.string D2) = W10 at *
        clear hc hf hbel hlt hAt
        go_upto_if 98 with (go_at_call 17; refine (cP _).mono ?_; rintro e w' ⟨rfl, rfl⟩)
        have hcv : ∀ w, (convert 9 38 (.string D2)).run Try.prog w = _ := fun w => Lib.run_convert_string_bytes w 9 38 5 D2 Try.underlying9 Try.underlying38 Try.underlying5
        rw [hd2] at hcv
        have hBy := bw_byt W10 5 D2
        have hbw := bw_below W10 5 D2
        rw [HD2l.out] at hBy
        have hcx := hBy.cell (10240 + k) x HX.out
        have hfx := hBy.free (10240 + k) (by rw [disk2_len]; omega)
        have hB2 := hBy.set_ (k := 10240 + k) (by rw [disk2_len]; omega) (x ^^^ d)
        have hbel2 := (hb6.trans (hbw.mono hb6.size)).setCell (p := ⟨W10.heap.size, 10240 + k, none⟩) hb6.size (.int .u8 (bi (x ^^^ d)))
        have hxx := HXX.out
        obtain ⟨hc0, hc1⟩ := bi_bd (x ^^^ d)
        have hw1 : (10240 + (k : Int)).toNat = 10240 + k := by omega
        have hk20 : (10240 : Int) + k < 20480 := by omega
        clear hBy hAt6 hb6 hl6 hB3 hbB'
        go_upto_region 17 with (fail)
        generalize (Lib.bytesWorld W10 5 D2).setCell ⟨W10.heap.size, 10240 + k, none⟩ (.int .u8 (bi (x ^^^ d))) = W12 at *
        generalize grownCap W10 20480 0 5 = cp at *
        have hcv2 := hB2.conv (P := Try.prog) 38 9 Try.underlying38 Try.underlying5 Try.underlying9 0 20480 cp ((disk2 s t).set (10240 + k) (x ^^^ d)) (by rw [List.length_set, disk2_len]) (fun j hj => by rw [Nat.zero_add])
        rw [← HD3.out] at hcv2
        clear hcv hcx hfx hxx hbw hB2 hs6
        by_cases hkt : k < 64 + t.length
        · have cL : ∀ W, Calls Try.prog 12 #[.agg #[.string D3]] W fun e w' => e = .returned (.tuple #[.string T0, .bool true]) ∧ Below W.heap.size W w' := fun W => by
            have h := cL W
            rw [if_pos hkt, ← L0.out] at h
            simp only [toArr] at h
            exact h
          have ik : (k : Int) < 64 + (T1.size : Int) := by have := S1.out; omega
          clear hkt
          go_wp2_with fail
          refine (cL _).mono ?_
          rintro e W13 ⟨rfl, hb⟩
          have hbel := hbel2.trans (hb.mono hbel2.size)
          clear hb hbel2 cL
          go_wp2_with fail
          refine (awake_any _).mono ?_
          rintro e W14 ⟨rfl, hb⟩
          go_wp2_with fail
          go_ret
          exact ⟨rfl, hbel.trans (hb.mono hbel.size)⟩
        · have cL : ∀ W, Calls Try.prog 12 #[.agg #[.string D3]] W fun e w' => e = .returned (.tuple #[.string T1, .bool true]) ∧ Below W.heap.size W w' := fun W => by
            have h := cL W
            rw [if_neg hkt, ← L1.out] at h
            simp only [toArr] at h
            exact h
          have ik : ¬ (k : Int) < 64 + (T1.size : Int) := by have := S1.out; omega
          clear hkt
          go_wp2_with fail
          refine (cL _).mono ?_
          rintro e W13 ⟨rfl, hb⟩
          have hbel := hbel2.trans (hb.mono hbel2.size)
          clear hb hbel2 cL
          go_wp2_with fail
          refine (awake_any _).mono ?_
          rintro e W14 ⟨rfl, hb⟩
          go_wp2_with fail
          go_ret
          exact ⟨rfl, hbel.trans (hb.mono hbel.size)⟩

set_option maxRecDepth 100000 in
theorem lifted (os : Os) (started : os.Started) (H : Type) (enc : TypeId × Value → H) :
    ReturnsInHanded {} Try.checked os 9 .any (Rows.diskElderSpec.pre6 enc Try.prog Try.f9 Rows.diskElderRow.domain false) (Rows.diskElderSpec.post enc Try.prog Try.f9 false true false false) := by
  refine returnsInHanded_of_change (C := Try.checked) own started (by kernel_rfl) Try.func9
    (ChangeSpec.witness6 (enc := enc) (C := Try.checked) false ⟨#[], #[.int .i64 0, .int .i64 0, .int .i64 0, .int .u8 0], []⟩ 8 (by kernel_rfl) (by kernel_rfl) (by kernel_rfl) (by kernel_rfl)) ?_
  intro W base args ds gs before hval0 hW hcnd _
  have hval : ∀ (j : Nat) t v, Try.f9.params[j]? = some t → args[j]? = some v → Value.okWide Try.prog W .any base t v := hval0
  have hW' := hW
  obtain ⟨p, q, hA0, hV, rfl, hfz, hnd⟩ := hW
  have hA : DataW.TrodAll enc Try.prog W 0 (fun _ => true) true Try.f9.params.toList args.toList ds p := hA0
  rw [Try.params9] at hA hval
  obtain ⟨v0, vs0, d0, ds0, p0, q0, hargs, rfl, rfl, h0, r0⟩ := trodAll_cons hA
  obtain ⟨v1, vs1, d1, ds1, p1, q1, rfl, rfl, rfl, h1, r1⟩ := trodAll_cons r0
  obtain ⟨v2, vs2, d2, ds2, p2, q2, rfl, rfl, rfl, h2, r2⟩ := trodAll_cons r1
  obtain ⟨v3, vs3, d3, ds3, p3, q3, rfl, rfl, rfl, h3, r3⟩ := trodAll_cons r2
  obtain ⟨rfl, rfl, rfl⟩ := trodAll_nil r3
  obtain rfl : args = #[v0, v1, v2, v3] := by cases args; simp_all
  obtain ⟨rfl, rfl⟩ := trodVars_none hV
  obtain ⟨a0, rfl, rfl, rfl, w0⟩ := open_int Try.underlying3 (hval 0 3 v0 rfl rfl) h0
  obtain ⟨a1, rfl, rfl, rfl, w1⟩ := open_int Try.underlying3 (hval 1 3 v1 rfl rfl) h1
  obtain ⟨a2, rfl, rfl, rfl, w2⟩ := open_int Try.underlying3 (hval 2 3 v2 rfl rfl) h2
  obtain ⟨a3, rfl, rfl, rfl, w3⟩ := open_int Try.underlying5 (hval 3 5 v3 rfl rfl) h3
  clear hA0 hval0
  simp only [List.append_nil] at hW'
  refine (walk a0 a1 a2 a3 w0 w1 w2 w3 W).mono fun e W' ⟨he, hg⟩ => ?_
  subst he
  exact ⟨_, rfl, post_of_below (pa := []) (pv := []) hW' (fun _ _ _ => (trodAll_cons_mk (shut_bool Try.underlying4 _) trodAll_mk0)) (fun sp _ => (trodAll_cons_mk (shut_int Try.underlying3 w0) (trodAll_cons_mk (shut_int Try.underlying3 w1) (trodAll_cons_mk (shut_int Try.underlying3 w2) (trodAll_cons_mk (shut_int Try.underlying5 w3) trodAll_mk0))))) (fun _ _ => rfl) rfl
    hg (ok_one (by kernel_rfl) rfl (okWide_bool_mk Try.underlying4 _))⟩

theorem over : Rows.diskElderRow.holds Try.pinned (OpenSpec.ofChange Rows.diskElderSpec) :=
  OpenClaim.holds_of_wide 9 Try.f9 rfl rfl rfl rfl rfl rfl rfl ⟨rfl, rfl, rfl, rfl, rfl⟩ rfl rfl rfl rfl rfl (by kernel_rfl) Try.func9 (by kernel_rfl)
    (of_decide_eq_true (by kernel_rfl)) (by unfold Func.isWrapper; first | (rw [if_pos (by decide +kernel)]; kernel_rfl) | (rw [if_neg (by decide +kernel)]; exact ⟨rfl, rfl⟩))
    (fun os started H enc _ => lifted os started H enc)

theorem proved : Rows.DiskElderSaid :=
  over
#print axioms proved
end Go.Proofs.Ytlhdomckljhfoaa.diskElder
