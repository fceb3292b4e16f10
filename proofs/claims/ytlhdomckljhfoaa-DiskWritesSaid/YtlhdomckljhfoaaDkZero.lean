/-
  'append(b, make([]byte, k)...)' on bytes of the call's own. Conditions: none but sizes.
-/
import Derived.Test.YtlhdomckljhfoaaDkHead
namespace Go.Proofs.Ytlhdomckljhfoaa
open Go.ChangeShapes Go.WideShapes Go.ChangeAt Go.RowKit
set_option linter.unusedVariables false
set_option linter.unusedSimpArgs false

theorem zero_cells (k : Nat) : (Builtin.zeroCells (Value.int IntKind.u8 0).cells k).toList = B8 (List.replicate k 0) := by
  have e1 : (Value.int IntKind.u8 0).cells = #[Value.int IntKind.u8 0] := rfl
  rw [e1]
  unfold Builtin.zeroCells B8
  simp [Nat.mod_one, Array.toList_map]
  exact map_const_range k _
theorem zero_cells' (k : Nat) : Builtin.zeroCells (Value.int IntKind.u8 0).cells k = (B8 (List.replicate k 0)).toArray := by
  apply Array.ext'; rw [zero_cells]

theorem append_zeros {P : Program} (w : World) (t tn ty e : TypeId) (i : TypeInfo) (kn : IntKind) (ht : P.underlying t = some (.slice e)) (htn : P.underlying tn = some (.int kn)) (hi : P.info? e = some i) (hz : i.zero = some (.int .u8 0))
    (hsize : i.size = 1) (hby : i.bytes = 1) (g cap : Nat) (l : List UInt8) (hb : Byt w g l) (hlc : l.length ≤ cap) (hth : ∀ j, j < cap → (w.cell? ⟨g, j, none⟩).isSome = true) (hfr : ∀ j, j < cap → w.frozen? ⟨g, j, none⟩ = false)
    (k : Nat) (hk : l.length + k ≤ 4294967296) :
    ∃ g' cap' w', (Builtin.append_ #[t, tn] ty #[.slice (some ⟨g, 0, none⟩) l.length cap, .int .i64 (k : Int)]).run P w = .ok (.slice (some ⟨g', 0, none⟩) (l.length + k) cap') w' ∧
      Byt w' g' (l ++ List.replicate k 0) ∧ (g' = g ∨ g' = w.heap.size) ∧ w.grownBy w' (some g) := by
  by_cases hroom : l.length + k ≤ cap
  · have hw : IntKind.i64.wrap (k : Int) = k := by rw [IntKind.wrap_i64]; omega
    have hneg : ¬ ((k : Int) < 0) := by omega
    have h48i : ¬ (281474976710656 < (k : Int) * (i.bytes : Int)) := by rw [hby]; omega
    have hst := run_storeCells_cells (P := P) g l.length (B8 (List.replicate k 0)) 0 w (by intro j hj; rw [b8_len, List.length_replicate] at hj; exact hth _ (by omega)) (by intro j hj; rw [b8_len, List.length_replicate] at hj; exact hfr _ (by omega)) (b8_one _)
    rw [Nat.add_zero] at hst
    have hzc := zero_cells k
    have hk0 : k = 0 → B8 (List.replicate k 0) = [] := by rintro rfl; rfl
    refine ⟨g, cap, w.setCells g l.length (B8 (List.replicate k 0)), ?_, ?_, .inl rfl, grown_setCells _ _ (World.grownBy.refl _ _)⟩
    · by_cases h0 : k = 0
      · subst h0
        have hw0 : IntKind.i64.wrap (0 : Int) = 0 := by rw [IntKind.wrap_i64]; omega
        simp [hw0, Builtin.append_, run_underlying ht, run_underlying htn, sizeOf, typeInfo, zeroValue, hi, hz, hsize, asInt, asIntOf, hw, hroom, hneg, h48i, Addr.add_lit, storeCells, B8, World.setCells, hlc]
      · have h10 : (Value.int IntKind.u8 0).cells = #[Value.int IntKind.u8 0] := rfl
        simp [Builtin.append_, run_underlying ht, run_underlying htn, sizeOf, typeInfo, zeroValue, hi, hz, hsize, asInt, asIntOf, hw, hroom, hneg, h48i, Addr.add_lit, h0, hzc, hst]
    · have hvl : (B8 (List.replicate k (0 : UInt8))).length = k := by rw [b8_len, List.length_replicate]
      have hin := World.cell?_setCells_in g (B8 (List.replicate k 0)) l.length w (fun j hj => hth _ (by rw [hvl] at hj; omega))
      refine ⟨Nat.lt_of_lt_of_le hb.lt (grown_setCells _ _ (World.grownBy.refl w (some g))).size, fun j x hx => ?_, fun j hj => ?_⟩
      · by_cases hj : j < l.length
        · rw [List.getElem?_append_left hj] at hx
          rw [World.cell?_setCells_out g _ _ w ⟨g, j, none⟩ (fun _ _ => .inl hj)]
          exact hb.cell j x hx
        · obtain ⟨d, rfl⟩ : ∃ d, j = l.length + d := ⟨j - l.length, by omega⟩
          rw [List.getElem?_append_right (by omega), Nat.add_sub_cancel_left] at hx
          obtain ⟨hd, hx⟩ := List.getElem?_eq_some_iff.1 hx
          rw [List.length_replicate] at hd
          rw [hin d (by rw [hvl]; exact hd)]
          simp [B8] at hx ⊢
          rw [hx]
      · rw [World.frozen?_setCells]
        exact hfr j (by simp at hj; omega)
  · have hold := run_firstCells_some (P := P) w.drew i.size l.length ⟨g, 0, none⟩ l.length cap (B8 l) (by rw [b8_len, hsize, Nat.mul_one]) (fun j v hv => by
      rw [add_plain, Nat.zero_add]
      rw [b8_at] at hv
      obtain ⟨x, hx, rfl⟩ := Option.map_eq_some_iff.1 hv
      exact hb.cell j x hx)
    have hr := Lib.run_append_grow_zeros (P := P) w t tn ty e i (.int .u8 0) .i64 kn ht htn hi hz (some ⟨g, 0, none⟩) l.length cap (B8 l) hold k (by omega) (by omega) (by omega) (by omega) (by rw [hby]; omega) (by rw [hby]; exact growslice_fits (by omega) (by omega))
    refine ⟨_, _, _, hr, ?_, .inr rfl, ⟨rfl, rfl, rfl, by simp, fun j hj _ => heap_alloc_old w.drew _ hj⟩⟩
    refine byt_new w.drew _ _ e 0 0 (fun j x hx => ?_) (fun j _ => by omega)
    rw [zero_cells']
    have hj := (List.getElem?_eq_some_iff.1 hx).1
    simp at hj
    rw [Array.getElem?_append_left (by simp [b8_len]; omega)]
    simp only [List.append_toArray, List.getElem?_toArray]
    have e2 : B8 l ++ B8 (List.replicate k 0) = B8 (l ++ List.replicate k 0) := by simp [B8]
    rw [e2, b8_at, hx]
    rfl

theorem own_form {w : World} {base n : Nat} {e : TypeId} {v : Value} {l : List UInt8} (h : w.ownsRow base e 1 v n (B8 l)) (hn : 0 < n) :
    ∃ g cap, v = .slice (some ⟨g, 0, none⟩) l.length cap ∧ n = l.length ∧ base ≤ g ∧ Byt w g l ∧ l.length ≤ cap ∧ (∀ j, j < cap → (w.cell? ⟨g, j, none⟩).isSome = true) ∧ (∀ j, j < cap → w.frozen? ⟨g, j, none⟩ = false) := by
  have hl : n = l.length := by have := h.1; rw [b8_len] at this; omega
  rcases h.2 with ⟨_, h0⟩ | ⟨g, cap, cur, rfl, hb, hh, hnc, _, hcs, htk⟩
  · omega
  · subst hl
    have hlt := (Array.getElem?_eq_some_iff.1 hh).1
    have hf : ∀ j, w.frozen? ⟨g, j, none⟩ = false := fun j => by simp [World.frozen?, hh]
    refine ⟨g, cap, rfl, rfl, hb, ⟨hlt, fun j x hx => ?_, fun j _ => hf j⟩, hnc, fun j hj => ?_, fun j _ => hf j⟩
    · have hc := h.cells (g := g) rfl j (.int .u8 (bi x)) (by rw [b8_at, hx]; rfl)
      rwa [add_plain, Nat.zero_add] at hc
    · have : w.cell? ⟨g, j, none⟩ = cur[j]? := cell_of_row w g j cur e (0, 0) hh
      rw [this, Array.getElem?_eq_getElem (by omega)]
      rfl
theorem info_i64 : Try.prog.underlying 3 = some (.int .i64) := by kernel_rfl

theorem own_below {w w' : World} {base n size : Nat} {e : TypeId} {v : Value} {xs : List Value} (h : w.ownsRow base e size v n xs) (hb : Below w.heap.size w w') : w'.ownsRow base e size v n xs := by
  refine h.kept (only_of_below hb none) ?_
  cases hv : v.ownBlock with
  | none => exact .inl rfl
  | some g => exact .inr (by simp)
theorem own_grown_below {w w1 w2 : World} {base n size : Nat} {e : TypeId} {v : Value} {xs : List Value} (h : w1.ownsRow base e size v n xs) (hb : Below base w w1) (hg : w1.grownBy w2 v.ownBlock) (hle : base ≤ w1.heap.size) : Below base w w2 :=
  hb.grown hg hle fun j hj => (h.lt j hj).1
theorem rbytes_z (n : UInt64) (z : Int) (k : Nat) (kz : Int) (w : World) (hz : ui n = z) (hkz : (k : Int) = kz) (hk : k ≤ 8) :
    Calls Try.prog 32 #[.int .u64 z, .int .i64 kz] w fun e w' => ∃ A, e = .returned (.slice A k k) ∧ w'.ownsRow w.heap.size 5 1 (.slice A k k) k (B8 (beN k n)) ∧ Reads w' w'.heap.size 1 A k (B8 (beN k n)) ∧ Below w.heap.size w w' := by
  subst hz hkz
  refine (rbytes_any n k w hk).mono fun e w' ⟨h1, h2, h3⟩ => ⟨_, h1, h2, ?_, h3⟩
  exact Reads.of_own h2
theorem b8_app (l m : List UInt8) : B8 l ++ B8 m = B8 (l ++ m) := by simp [B8]

set_option maxHeartbeats 2000000 in
theorem rhead_any (n : UInt64) (s : ByteArray) (w : World) (hs : s.size ≤ 1073741824) :
    Calls Try.prog 26 #[.int .u64 (ui n), .string s] w fun e w' => (∃ g cap, e = .returned (.slice (some ⟨g, 0, none⟩) 64 cap) ∧ Byt w' g (headP n s.data.toList) ∧ w.heap.size ≤ g) ∧ Below w.heap.size w w' := by
  obtain ⟨i0, hi0, hz0, hz1, hz2⟩ := info_parts info_u8
  have HN : Hid (ui (UInt64.ofNat s.size) = (s.size : Int)) := by show _ = _; unfold ui; rw [UInt64.toNat_ofNat']; omega
  have hcv : ∀ w, (convert 9 38 (.string s)).run Try.prog w = _ := fun w => Lib.run_convert_string_bytes w 9 38 5 s Try.underlying9 Try.underlying38 Try.underlying5
  have hms : s.size ≤ maxLen := by unfold maxLen; omega
  go_enter Try.func26, Try.ntmps26
  go_wp2_with fail
  refine (rbytes_z n _ 8 8 _ rfl rfl (by omega)).mono ?_
  rintro e w1 ⟨A1, rfl, hown1, hr1, hb1⟩
  have hsz1 := hb1.size
  clear hr1
  go_wp2_with fail
  refine (rbytes_z (UInt64.ofNat s.size) _ 4 4 w1 HN.out rfl (by omega)).mono ?_
  rintro e w2 ⟨A2, rfl, hown2, hr2, hb2⟩
  have hown1 := own_below hown1 hb2
  have hbel := hb1.trans (hb2.mono hsz1)
  have hsz2 : w.heap.size ≤ w2.heap.size := hbel.size
  clear hb1 hb2 hown2 hsz1
  go_wp2_with (at_builtin; refine wpList_append_any w2 rfl (.tmp 8) (.tmp 12) 38 rfl w.heap.size 5 i0 (.int .u8 0) 1 1 Try.underlying38 hi0 hz0 hz1 hz2 rfl (by omega) _ 8 _ rfl hown1 _ A2 4 4 _ rfl hr2 (b8_one _) (by unfold maxLen; omega) (by omega) hsz2 ?_; intro v3 w3 hown3 hg3 _)
  have hbel3 := own_grown_below hown1 hbel hg3 hsz2
  clear hown1 hg3 hr2 hbel hsz2
  have hsz3 := hbel3.size
  refine (rsum_any (some ⟨w3.heap.size, 0, none⟩) s.size _ _ s.data.toList (Lib.bytesWorld w3 5 s) (bw_rd w3 5 s) hms).mono ?_
  rintro e w' ⟨rfl, rfl⟩
  have hown3 := own_below hown3 (bw_below w3 5 s)
  have hbel3 := hbel3.trans ((bw_below w3 5 s).mono hsz3)
  clear hcv hsz3
  generalize Lib.bytesWorld w3 5 s = w4 at *
  have hsz4 := hbel3.size
  go_wp2_with fail
  refine (rbytes_z (sum s.data.toList) _ 8 8 w4 rfl rfl (by omega)).mono ?_
  rintro e w5 ⟨A5, rfl, hown5, hr5, hb5⟩
  have hown3 := own_below hown3 hb5
  have hbel5 := hbel3.trans (hb5.mono hsz4)
  have hsz5 := hbel5.size
  clear hb5 hown5 hbel3 hsz4
  go_wp2_with (at_builtin; refine wpList_append_any w5 rfl (.tmp 13) (.tmp 17) 38 rfl w.heap.size 5 i0 (.int .u8 0) 1 1 Try.underlying38 hi0 hz0 hz1 hz2 rfl (by omega) _ (8 + 4) _ rfl hown3 _ A5 8 8 _ rfl hr5 (b8_one _) (by unfold maxLen; omega) (by omega) hsz5 ?_; intro v6 w6 hown6 hg6 _)
  have hbel6 := own_grown_below hown3 hbel5 hg6 hsz5
  clear hown3 hg6 hr5 hbel5 hsz5
  have hh : B8 (beN 8 n) ++ B8 (beN 4 (UInt64.ofNat s.size)) ++ B8 (beN 8 (sum s.data.toList)) = B8 (head20 n s.data.toList) := by
    unfold head20; rw [b8_app, b8_app, len_size]
  rw [hh] at hown6
  clear hh
  have HX := Lib.hid (show headP n s.data.toList = head20 n s.data.toList ++ (head20 n s.data.toList).map neg ++ List.replicate 24 0 from rfl)
  have HH := Lib.hid (head20_len n s.data.toList)
  generalize head20 n s.data.toList = H at *
  go_loopw [5, 6] (fun v i wr => ∃ j : Nat, j ≤ 20 ∧ i = .int .i64 j ∧ wr.ownsRow w.heap.size 5 1 v (20 + j) (B8 (H ++ (H.map neg).take j)) ∧ Below w.heap.size w wr) (fun _ i _ => 20 - (intOf i).toNat)
  case atStart => exact ⟨0, by omega, rfl, by rw [List.take_zero, List.append_nil]; exact hown6, hbel6⟩
  case round =>
    clear hown6 hbel6
    obtain ⟨j, hj, rfl, hown, hbel⟩ := hrel
    by_cases hlt : j < 20
    · have hHj : j < H.length := by rw [HH.out]; exact hlt
      obtain ⟨g, c1, rfl, hg1, hg2⟩ := hown.form (by omega)
      have hcell : wr.cell? ⟨g, j, none⟩ = some (.int .u8 (bi H[j])) := by
        rw [hown.cellAt j (by omega), b8_at, List.getElem?_append_left hHj, List.getElem?_eq_getElem hHj]
        rfl
      have HSN : Hid (B8 (H ++ (H.map neg).take j) ++ [.int .u8 (bi (neg H[j]))] = B8 (H ++ (H.map neg).take (j + 1))) := by
        show _ = _
        rw [List.take_succ_eq_append_getElem (by simpa using hHj)]
        simp [B8]
      have hneg := neg_bi H[j]
      obtain ⟨hc0, hc1⟩ := bi_bd (neg H[j])
      obtain ⟨hc2, hc3⟩ := bi_bd H[j]
      have hsz := hbel.size
      generalize H[j] = c at *
      go_wp2_with (at_builtin; refine wpList_append_one wr rfl (.tmp 23) (.tmp 29) 38 rfl w.heap.size 5 i0 (.int .u8 0) 1 Try.underlying38 hi0 hz0 hz1 hz2 rfl _ _ _ (.int .u8 (bi (neg c))) hown rfl rfl rfl (by omega) (by omega) hsz ?_; intro v' w1 hown' hb1)
      go_roundw
      case rel => exact ⟨j + 1, by omega, by go_num, by rw [← HSN.out, ← Nat.add_assoc]; exact hown', hbel.trans hb1⟩
      case measure => simp [intOf]; omega
    · obtain rfl : j = 20 := by omega
      have HT : Hid ((H.map neg).take 20 = H.map neg) := List.take_of_length_le (by simp [HH.out])
      obtain ⟨g, cap, rfl, hn, hg1, hB, hlc, hth, hfr⟩ := own_form hown (by omega)
      have hl40 : (H ++ (H.map neg).take 20).length = 40 := hn.symm
      obtain ⟨g', cap', w7, hr, hB7, hgg, hgr⟩ := append_zeros (P := Try.prog) wr 38 3 38 5 i0 .i64 Try.underlying38 info_i64 hi0 hz0 hz1 hz2 g cap _ hB hlc hth hfr 24 (by rw [hl40]; omega)
      have hbel7 := below_of_grown hbel hgr hg1 hbel.size
      have hg7 : w.heap.size ≤ g' := by
        rcases hgg with rfl | rfl
        · exact hg1
        · exact hbel.size
      have HN40 := Lib.hid hl40
      clear hB hth hfr hlc hown hgr hgg hn hl40
      go_wp2_with (at_builtin; refine Lib.wpList_append_run _ rfl (.tmp 31) (.const (.int .i64 24)) 38 3 rfl _ _ rfl rfl _ _ hr ?_)
      go_ret
      refine ⟨⟨g', cap', by show Ending.returned (.slice (some ⟨g', 0, none⟩) (H.length + min 20 H.length + 24) cap') = _; rw [HH.out]; rfl, ?_, hg7⟩, hbel7⟩
      rw [HX.out, ← HT.out]
      exact hB7
end Go.Proofs.Ytlhdomckljhfoaa
