/-
  The walk of the reference's Save. Conditions: sizes alone.
-/
import Derived.Test.YtlhdomckljhfoaaDkSave
namespace Go.Proofs.Ytlhdomckljhfoaa
open Go.ChangeShapes Go.WideShapes Go.ChangeAt Go.RowKit
set_option linter.unusedVariables false
set_option linter.unusedSimpArgs false

theorem bw_cap (w : World) (e : TypeId) (s : ByteArray) : (∀ j, j < grownCap w s.size 0 e → ((Lib.bytesWorld w e s).cell? ⟨w.heap.size, j, none⟩).isSome = true) ∧ (∀ j, j < grownCap w s.size 0 e → (Lib.bytesWorld w e s).frozen? ⟨w.heap.size, j, none⟩ = false) := by
  have h := Lib.bytesWorld_at_new w e s
  have hc : (Lib.bytesCells w e s).size = grownCap w s.size 0 e := by
    unfold Lib.bytesCells
    have := grownCap_ge w s.size 0 e
    have h2 : s.data.size = s.size := rfl
    simp only [Array.size_append, Array.size_map, Array.size_replicate, h2]
    omega
  refine ⟨fun j hj => ?_, fun j hj => ?_⟩
  · simp [World.cell?, h, hc, hj]
  · simp only [World.frozen?, h, hc]
    simp
    omega
theorem chunk_of (fr : Nat) (t y : ByteArray) (k m : Nat) (hy : y.data.toList = (t.data.toList.drop (k * 64)).take m) (hm : min (t.size - k * 64) 64 = m) :
    chunk fr t.data.toList k = (((fr + 1 + k : Nat) : Int), y.data.toList ++ List.replicate (64 - m) 0) := by
  unfold chunk pad64
  have e : (t.data.toList.drop (64 * k)).take 64 = y.data.toList := by
    rw [hy, Nat.mul_comm]
    by_cases h : 64 ≤ t.size - k * 64
    · rw [show m = 64 from by omega]
    · rw [List.take_of_length_le (by simp; omega), List.take_of_length_le (by simp; omega)]
  have hl : y.data.toList.length = m := by rw [hy]; simp; omega
  rw [e, hl]

set_option maxHeartbeats 2000000 in
theorem rsave_no (s t : ByteArray) (w : World) (hs : s.size ≠ 20480) :
    Calls Try.prog 16 #[.agg #[.string s], .string t] w (SaveP s.data.toList t.data.toList w) := by
  have hs1 : ((s.size : Int) != 20480) = true := by simp; omega
  have HV : Hid (saveP s.data.toList t.data.toList = ([], 1)) := by show _ = _; unfold saveP; rw [if_pos (by rw [len_size]; exact hs)]
  clear hs
  go_enter Try.func16, Try.ntmps16
  go_wp2_with fail
  exact bodyPost_ret (v := .tuple #[.slice none 0 0, .int .i64 1]) (by simp [results, Try.results16, go_sem]) rfl (saveP_nil HV.out ((Below.refl _ _).alloc (Nat.le_refl _) _))

set_option maxHeartbeats 4000000 in
set_option maxRecDepth 100000 in
theorem rsave_any (s t : ByteArray) (w : World) (hs : s.size = 20480) (ht : t.size ≤ 1073741824) :
    Calls Try.prog 16 #[.agg #[.string s], .string t] w (SaveP s.data.toList t.data.toList w) := by
  have ct := fun W => rtold_any s W hs
  have hs1 : ((s.size : Int) != 20480) = false := by rw [hs]; rfl
  unfold ToldP T3 at ct
  by_cases hover : 8192 < t.size
  · have HV : Hid (saveP s.data.toList t.data.toList = ([], 32)) := by show _ = _; unfold saveP; rw [if_neg (by rw [len_size]; simpa using hs), if_pos (by rw [len_size]; exact hover)]
    clear hs ct
    go_enter Try.func16, Try.ntmps16
    go_wp2_with fail
    exact bodyPost_ret (v := .tuple #[.slice none 0 0, .int .i64 32]) (by simp [results, Try.results16, go_sem]) rfl (saveP_nil HV.out ((Below.refl _ _).alloc (Nat.le_refl _) _))
  · have HV0 : Hid (saveP s.data.toList t.data.toList = if (toldP s.data.toList).2.1 = 18446744073709551615 then ([], 10) else (savesP s.data.toList t.data.toList, 0)) := by
      show _ = _; unfold saveP; rw [if_neg (by rw [len_size]; simpa using hs), if_neg (by rw [len_size]; exact hover)]
    have HSV : Hid (savesP s.data.toList t.data.toList = chunks (fromP s.data.toList) t.data.toList (secN t.size) ++ [(((fromP s.data.toList : Nat) : Int), headP ((toldP s.data.toList).2.1 + 1) t.data.toList)]) := by
      show _ = _; unfold savesP; rw [len_size]
    have HFR : Hid (fromP s.data.toList = if (toldP s.data.toList).1 = 0 then 160 else 0) := rfl
    clear hs
    generalize toldP s.data.toList = T at *
    obtain ⟨ta, tn, tx⟩ := T
    by_cases hfull : tn = 18446744073709551615
    · have HV : Hid (saveP s.data.toList t.data.toList = ([], 10)) := by show _ = _; rw [HV0.out, if_pos hfull]
      subst hfull
      clear HV0
      go_enter Try.func16, Try.ntmps16
      go_wp2_with fail
      refine (ct _).mono ?_
      rintro e w1 ⟨rfl, hb1⟩
      have hbel := ((Below.refl w.heap.size w).alloc (Nat.le_refl _) _).trans (hb1.mono (by simp))
      clear hb1
      have hbb : (ui 18446744073709551615 == 18446744073709551615) = true := rfl
      go_wp2_with fail
      exact bodyPost_ret (v := .tuple #[.slice none 0 0, .int .i64 10]) (by simp [results, Try.results16, go_sem]) rfl (saveP_nil HV.out hbel)
    · have HV : Hid (saveP s.data.toList t.data.toList = (savesP s.data.toList t.data.toList, 0)) := by show _ = _; rw [HV0.out, if_neg hfull]
      have hbb : (ui tn == 18446744073709551615) = false := full_no tn hfull
      clear hfull HV0
      go_enter Try.func16, Try.ntmps16
      go_wp2_with fail
      refine (ct _).mono ?_
      rintro e w1 ⟨rfl, hb1⟩
      have hbel := ((Below.refl w.heap.size w).alloc (Nat.le_refl _) _).trans (hb1.mono (by simp))
      clear hb1 ct
      go_upto_if 29 with (fail)
      have hfl := fromP_le s.data.toList
      generalize fromP s.data.toList = fr at *
      go_cut [9] from 28 to 29 (fun v wx => v = .int .i64 (fr : Int) ∧ wx = w1)
      case first =>
        by_cases h0 : ta = 0
        · have hb : (ta == 0) = true := by simp [h0]
          have HD1 : Hid ((160 : Int) = (fr : Int)) := by show _ = _; rw [HFR.out]; show (160 : Int) = ((if ta = 0 then 160 else 0 : Nat) : Int); rw [if_pos h0]; rfl
          clear h0
          go_wp2
          go_meet
          exact ⟨val_int HD1.out, rfl⟩
        · have hb : (ta == 0) = false := by simp [h0]
          have HD1 : Hid ((0 : Int) = (fr : Int)) := by show _ = _; rw [HFR.out]; show (0 : Int) = ((if ta = 0 then 160 else 0 : Nat) : Int); rw [if_neg h0]; rfl
          clear h0
          go_wp2
          go_meet
          exact ⟨val_int HD1.out, rfl⟩
      case rest =>
        obtain ⟨rfl, rfl⟩ := hcut
        obtain ⟨i0, hi0, hz0, hz1, hz2⟩ := info_parts info_u8
        obtain ⟨j0, hj0, hy0, hy1, hy2⟩ := info_parts info_write
        go_wp2
        go_loopw [10, 11] (fun v i wr => ∃ k : Nat, k ≤ secN t.size ∧ i = .int .i64 (k : Int) ∧ wr.ownsRow w.heap.size 41 2 v k (WS (chunks fr t.data.toList k)) ∧ Below w.heap.size w wr) (fun _ i _ => t.size - (intOf i).toNat)
        case atStart => exact ⟨0, by omega, rfl, World.ownsRow_nil _ _ _ _, hbel⟩
        case round =>
          clear hbel
          obtain ⟨k, hk, rfl, hown, hbel⟩ := hrel
          have hsec : secN t.size = (t.size + 63) / 64 := rfl
          by_cases hlt : k < secN t.size
          · have hlt2 : (k : Int) * 64 < (t.size : Int) := by omega
            have hk128 : k ≤ 128 := by omega
            have i3 : k * 64 ≤ t.size := by omega
            have hsz := hbel.size
            obtain ⟨m, hm⟩ : ∃ m, min (t.size - k * 64) 64 = m := ⟨_, rfl⟩
            have w3 : ((k : Int) * 64).toNat = k * 64 := by omega
            have w4 : (min (((k : Int) + 1) * 64) (t.size : Int)).toNat = k * 64 + m := by omega
            have i4 : (0 : Int) ≤ (k : Int) * 64 := by omega
            have i5 : (k : Int) * 64 ≤ min (((k : Int) + 1) * 64) (t.size : Int) := by omega
            have i6 : min (((k : Int) + 1) * 64) (t.size : Int) ≤ (t.size : Int) := by omega
            have hm64 : m ≤ 64 := by omega
            have hkm : k * 64 + m ≤ t.size := by omega
            have hm0 : 0 < m := by omega
            obtain ⟨y, hy⟩ : ∃ y : ByteArray, t.extract (k * 64) (k * 64 + m) = y := ⟨_, rfl⟩
            have hys : y.size = m := by rw [← hy, ByteArray.size_extract]; omega
            have hyl : y.data.toList = (t.data.toList.drop (k * 64)).take m := by rw [← hy, ext_dt, show k * 64 + m - k * 64 = m from by omega]
            have HCH := Lib.hid (chunk_of fr t y k m hyl hm)
            have hcv : ∀ w, (convert 9 38 (.string (t.extract (k * 64) (k * 64 + m)))).run Try.prog w = .ok (.slice (some ⟨w.heap.size, 0, none⟩) m (grownCap w m 0 5)) (Lib.bytesWorld w 5 y) := fun w => by
              have h := Lib.run_convert_string_bytes (P := Try.prog) w 9 38 5 y Try.underlying9 Try.underlying38 Try.underlying5
              rw [hys] at h
              rw [hy]
              exact h
            have hYS := Lib.hid hys
            clear hsec hyl hm hy hys
            go_upto_region 16 with (fail)
            have hBy := bw_byt wr 5 y
            obtain ⟨hth, hfr⟩ := bw_cap wr 5 y
            have hbw := bw_below wr 5 y
            have hgc := grownCap_ge wr y.size 0 5
            rw [hYS.out] at hth hfr hgc
            have hyll : y.data.toList.length = m := by rw [len_size]; exact hYS.out
            obtain ⟨g', cap', w6, hr, hB6, hgg, hgr⟩ := append_zeros (P := Try.prog) (Lib.bytesWorld wr 5 y) 38 3 38 5 i0 .i64 Try.underlying38 info_i64 hi0 hz0 hz1 hz2 wr.heap.size (grownCap wr m 0 5) y.data.toList hBy (by rw [hyll]; exact hgc) hth hfr (64 - m) (by rw [hyll]; omega)
            rw [hyll, show ((64 - m : Nat) : Int) = 64 - (m : Int) from by omega] at hr
            have hbS : Below wr.heap.size wr w6 := below_of_grown hbw hgr (Nat.le_refl _) hbw.size
            generalize grownCap wr m 0 5 = cp at *
            generalize Lib.bytesWorld wr 5 y = w5 at *
            obtain ⟨Y, hY⟩ : ∃ Y, y.data.toList ++ List.replicate (64 - m) 0 = Y := ⟨_, rfl⟩
            have hYl : Y.length = 64 := by rw [← hY]; simp [hyll]; omega
            rw [hY] at hB6
            have HCH : Hid (chunk fr t.data.toList k = (((fr + 1 + k : Nat) : Int), Y)) := by show _ = _; rw [HCH.out, hY]
            have hm2 : m + (64 - m) = 64 := by omega
            rw [hm2] at hr
            have hcv2 := hB6.conv (P := Try.prog) 38 9 Try.underlying38 Try.underlying5 Try.underlying9 0 64 cap' Y hYl (fun j hj => by rw [Nat.zero_add])
            have hown6 := own_below hown hbS
            have hbel6 := hbel.trans (hbS.mono hsz)
            have hsz6 := hbel6.size
            have HSN : Hid (WS (chunks fr t.data.toList k) ++ [.int .i64 ((fr : Int) + 1 + k), .string ⟨Y.toArray⟩] = WS (chunks fr t.data.toList (k + 1))) := by
              show _ = _
              rw [ws_snoc, ← chunks_snoc, HCH.out]
              congr 4
            clear hB6 hgr hgg hbS hown hbel hsz hth hfr hBy hbw hgc hyll hY hYl hcv
            go_wp2_with (first
              | (at_builtin; refine Lib.wpList_append_run _ rfl (.tmp 48) (.tmp 51) 38 3 rfl _ _ rfl rfl _ _ hr ?_)
              | (at_builtin; refine wpList_append_two w6 rfl (.tmp 53) (.tmp 61) 29 rfl w.heap.size 41 j0 _ 24 Try.underlying29 hj0 hy0 hy1 hy2 rfl _ k _ (.int .i64 ((fr : Int) + 1 + k)) (.string ⟨Y.toArray⟩) hown6 rfl rfl rfl rfl (by omega) (by omega) hsz6 ?_; intro v' w7 hown' hb7))
            go_roundw
            case rel => exact ⟨k + 1, by omega, by go_num, by rw [← HSN.out]; exact hown', hbel6.trans hb7⟩
            case measure => simp [intOf]; omega
          · obtain rfl : k = secN t.size := by omega
            have hlt2 : (t.size : Int) ≤ ((secN t.size : Nat) : Int) * 64 := by omega
            have hle := secN_le (n := t.size) (by omega)
            have hcl := chunks_len fr t.data.toList (secN t.size)
            have HLN : Hid ((savesP s.data.toList t.data.toList).length = secN t.size + 1) := by show _ = _; rw [HSV.out]; simp [hcl]
            have hsz := hbel.size
            clear hsec hcl
            obtain ⟨Hd, hHd⟩ : ∃ Hd : ByteArray, Hd = ⟨(headP (tn + 1) t.data.toList).toArray⟩ := ⟨_, rfl⟩
            have HSN : Hid (WS (chunks fr t.data.toList (secN t.size)) ++ [.int .i64 (fr : Int), .string Hd] = WS (savesP s.data.toList t.data.toList)) := by
              show _ = _
              rw [hHd, ws_snoc, HSV.out]
            have HHD := Lib.hid hHd
            clear hHd HSV
            go_wp2_with fail
            rw [add_one64 tn]
            refine (rhead_any (tn + 1) t _ (by omega)).mono ?_
            rintro e w7 ⟨⟨g, cap, rfl, hB7, hg7⟩, hb7⟩
            have hcv := hB7.conv (P := Try.prog) 38 9 Try.underlying38 Try.underlying5 Try.underlying9 0 64 cap _ (headP_len (tn + 1) t.data.toList) (fun j hj => by rw [Nat.zero_add])
            rw [← HHD.out] at hcv
            have hown7 := own_below hown hb7
            have hbel7 := hbel.trans (hb7.mono hsz)
            have hsz7 := hbel7.size
            clear hown hb7 hbel hsz hB7 hg7
            go_wp2_with (at_builtin; refine wpList_append_two w7 rfl (.tmp 63) (.tmp 71) 29 rfl w.heap.size 41 j0 _ 24 Try.underlying29 hj0 hy0 hy1 hy2 rfl _ (secN t.size) _ (.int .i64 (fr : Int)) (.string Hd) hown7 rfl rfl rfl rfl (by omega) (by omega) hsz7 ?_; intro v' w8 hown' hb8)
            rw [HSN.out] at hown'
            obtain ⟨A, cap, rfl, hnc, hll, hrd⟩ := own_rdw hown' (saves_small _ _)
            clear hown'
            go_wp2_with fail
            refine bodyPost_ret (v := .tuple #[.slice A (secN t.size + 1) cap, .int .i64 0]) (by simp [results, Try.results16, go_sem]) rfl ⟨A, secN t.size + 1, cap, by rw [HV.out], hnc, by omega, by rw [HV.out]; exact hll, by rw [HV.out]; exact hrd, hbel7.trans hb8⟩
end Go.Proofs.Ytlhdomckljhfoaa
