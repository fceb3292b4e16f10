/-
  The walk of the program's Save. Conditions: sizes alone.
-/
import Derived.Test.YtlhdomckljhfoaaDkRDo
import Derived.Lib.SlBuf
namespace Go.Proofs.Ytlhdomckljhfoaa
open Go.ChangeShapes Go.WideShapes Go.ChangeAt Go.RowKit
set_option linter.unusedVariables false
set_option linter.unusedSimpArgs false

def WS (l : List Wr) : List Value := l.flatMap fun x => [Value.int .i64 x.1, Value.string ⟨x.2.toArray⟩]
theorem ws_nil : WS [] = [] := rfl
theorem ws_snoc (l : List Wr) (a : Int) (x : List UInt8) : WS l ++ [Value.int .i64 a, Value.string ⟨x.toArray⟩] = WS (l ++ [(a, x)]) := by simp [WS]
theorem ws_len (l : List Wr) : (WS l).length = l.length * 2 := by
  induction l with
  | nil => rfl
  | cons x l ih => simp [WS] at ih ⊢; omega
theorem ws_at : ∀ (l : List Wr) (j : Nat) (x : Wr), l[j]? = some x → (WS l)[j * 2]? = some (.int .i64 x.1) ∧ (WS l)[j * 2 + 1]? = some (.string ⟨x.2.toArray⟩) := by
  intro l
  induction l with
  | nil => intro j x h; simp at h
  | cons y l ih =>
    intro j x h
    cases j with
    | zero =>
      simp at h
      subst h
      exact ⟨rfl, rfl⟩
    | succ j =>
      have h' : l[j]? = some x := by simpa using h
      obtain ⟨h1, h2⟩ := ih j x h'
      have e : WS (y :: l) = [Value.int .i64 y.1, Value.string ⟨y.2.toArray⟩] ++ WS l := rfl
      rw [e]
      refine ⟨?_, ?_⟩
      · rw [List.getElem?_append_right (by simp; omega)]
        rw [show (j + 1) * 2 - [Value.int IntKind.i64 y.1, Value.string ⟨y.2.toArray⟩].length = j * 2 from by simp; omega]
        exact h1
      · rw [List.getElem?_append_right (by simp; omega)]
        rw [show (j + 1) * 2 + 1 - [Value.int IntKind.i64 y.1, Value.string ⟨y.2.toArray⟩].length = j * 2 + 1 from by simp; omega]
        exact h2
theorem own_rdw {w : World} {base n : Nat} {e : TypeId} {v : Value} {l : List Wr} (h : w.ownsRow base e 2 v n (WS l)) (hs : ∀ x, x ∈ l → x.2.length ≤ 1073741824) :
    ∃ A cap, v = .slice A n cap ∧ n ≤ cap ∧ l.length = n ∧ RdW w w.heap.size A n l := by
  have hl : l.length = n := by have := h.1; rw [ws_len] at this; omega
  rcases h.2 with ⟨rfl, rfl⟩ | ⟨g, cap, cur, rfl, _, hh, hnc, _⟩
  · exact ⟨none, 0, rfl, Nat.le_refl _, hl, hl, hs, fun h0 => absurd h0 (by omega)⟩
  · refine ⟨_, cap, rfl, hnc, hl, hl, hs, fun _ => ⟨g, 0, rfl, (Array.getElem?_eq_some_iff.1 hh).1, fun j x hx => ?_⟩⟩
    obtain ⟨h1, h2⟩ := ws_at l j x hx
    have hc1 := h.cells (g := g) rfl _ _ h1
    have hc2 := h.cells (g := g) rfl _ _ h2
    rw [add_plain] at hc1 hc2
    exact ⟨hc1, by rw [Nat.add_assoc]; exact hc2⟩
theorem info_write : (Try.prog.info? 41).map (fun i => (i.zero, i.size, i.bytes)) = some (some (.agg #[.int .i64 0, .string ⟨#[]⟩]), 2, 24) := by kernel_rfl

/-- 'out = append(out, u)', out nil or the call's own, u of two cells. -/
theorem wpList_append_two {P : Program} (w : World) {ops : Array Oper} {rest : List Oper} {o : Oper} {a : Act} {Q : Exit → Act → World → Prop} (hgd : o.guard = none) (s x : Operand) (t : TypeId)
    (ho : o.op = .call { callee := .builtin .append, args := #[s, x], argTypes := #[t, t] })
    (base : Nat) (e : TypeId) (i : TypeInfo) (z : Value) (bytes : Nat) (ht : P.underlying t = some (.slice e)) (hi : P.info? e = some i) (hz : i.zero = some z)
    (hsize : i.size = 2) (hby : i.bytes = bytes) (hzs : z.cells.size = 2)
    (v : Value) (n : Nat) (xs : List Value) (u1 u2 : Value) (hown : w.ownsRow base e 2 v n xs) (h1 : u1.oneCell' = true) (h2 : u2.oneCell' = true)
    (hs : a.eval s = v) (hx : a.eval x = .slice (some ⟨w.heap.size, 0, none⟩) 1 1)
    (hn : n ≤ 4294967296) (hbytes : bytes ≤ 16384) (hbase : base ≤ w.heap.size)
    (h : ∀ v' w', w'.ownsRow base e 2 v' (n + 1) (xs ++ [u1, u2]) → Below base w w' → wpList P ops Q rest (a.put o.dst v') w') : wpList P ops Q (o :: rest) a (w.alloc (.cells #[u1, u2] e)) := by
  have hmul : (n + 1) * bytes ≤ 140737488355328 := Nat.le_trans (Nat.mul_le_mul (show n + 1 ≤ 4294967297 by omega) hbytes) (by omega)
  refine wpList_append_own _ hgd s x t ho base e i z 2 bytes ht hi hz hsize hby hzs (by omega) v n xs hs (hown.alloc _) ⟨w.heap.size, 0, none⟩ 1 1 [u1, u2] hx rfl (fun j u hu => ?_) (fun y hy => by simp at hy; rcases hy with rfl | rfl <;> assumption)
    (by unfold maxLen; omega) hmul (Nat.le_trans hbase (by simp)) ?_
  · rw [add_plain, cell_of_row (w.alloc (.cells #[u1, u2] e)) w.heap.size (0 + j) #[u1, u2] e (0, 0) (heap_alloc_new w _)]
    simpa using hu
  · intro v' w' hown' hgrow _
    exact h v' w' hown' (((Below.refl base w).alloc hbase _).grown hgrow (Nat.le_trans hbase (by simp)) fun j hj => (hown.lt j hj).1)

/-- 'copy(dst, s)', s a string of whatever size: as many bytes as fit. -/
theorem run_copy_str {P : Program} (w : World) (dT sT ty elem : TypeId) (b o dLen dCap : Nat) (t : ByteArray) (m : Nat) (hm : min t.size dLen = m)
    (hu : P.underlying dT = some (.slice elem)) (hz : ∀ w, (Go.sizeOf elem).run P w = .ok 1 w)
    (hc : ∀ j, j < m → (w.cell? ⟨b, o + j, none⟩).isSome = true) (hf : ∀ j, j < m → w.frozen? ⟨b, o + j, none⟩ = false) :
    (Builtin.copy_ #[dT, sT] ty #[.slice (some ⟨b, o, none⟩) dLen dCap, .string t]).run P w = .ok (goInt m) (w.setCells b o (B8 (t.data.toList.take m))) := by
  have hmin : Nat.min t.size dLen = m := hm
  have hl : (B8 (t.data.toList.take m)).length = m := by rw [b8_len, List.length_take, len_size]; omega
  have hst := run_storeCells_cells (P := P) b o (B8 (t.data.toList.take m)) 0 w (by rw [hl]; simpa using hc) (by rw [hl]; simpa using hf) (b8_one _)
  have hcells : (List.map (fun b : UInt8 => Value.int IntKind.u8 (b.toNat : Int)) (t.data.toList.take m)) = B8 (t.data.toList.take m) := rfl
  simp [Builtin.copy_, run_underlying hu, Builtin.lenOf, Builtin.firstCells, hz, hmin]
  rw [← List.map_take, hcells, hst]
  rfl

/-- What a Save hands back. -/
def SaveP (l t : List UInt8) (w : World) (e : Ending) (w' : World) : Prop :=
  ∃ A n cap, e = .returned (.tuple #[.slice A n cap, .int .i64 (saveP l t).2]) ∧ n ≤ cap ∧ n ≤ 1000 ∧ (saveP l t).1.length = n ∧ RdW w' w'.heap.size A n (saveP l t).1 ∧ Below w.heap.size w w'
theorem saveP_nil {l t : List UInt8} {w w' : World} {k : Int} (h : saveP l t = ([], k)) (hb : Below w.heap.size w w') : SaveP l t w (.returned (.tuple #[.slice none 0 0, .int .i64 k])) w' := by
  refine ⟨none, 0, 0, by rw [h], Nat.le_refl _, by omega, by rw [h]; rfl, ?_, hb⟩
  rw [h]
  exact ⟨rfl, fun x hx => (by cases hx), fun h0 => absurd h0 (by omega)⟩
theorem fromP_le (d : List UInt8) : fromP d ≤ 160 := by unfold fromP; split <;> omega
theorem secN_le {n : Nat} (h : n ≤ 8192) : secN n ≤ 128 := by unfold secN; omega
theorem pad64_len (x : List UInt8) (h : x.length ≤ 64) : (pad64 x).length = 64 := by unfold pad64; simp; omega
theorem chunk_len (a : Nat) (s : List UInt8) (i : Nat) : (chunk a s i).2.length = 64 := pad64_len _ (by simp; omega)
theorem saves_small (d s : List UInt8) : ∀ x, x ∈ savesP d s → x.2.length ≤ 1073741824 := by
  intro x hx
  unfold savesP chunks at hx
  simp only [List.mem_append, List.mem_map, List.mem_singleton] at hx
  rcases hx with ⟨i, _, rfl⟩ | rfl
  · rw [chunk_len]; omega
  · show (headP _ _).length ≤ _
    rw [headP_len]; omega

theorem over_pad (y : List UInt8) (h : y.length ≤ 64) : over (List.replicate 64 0) 0 y = pad64 y := by
  apply List.ext_getElem?; intro i
  unfold pad64
  by_cases hi : i < 64
  · rw [over_at _ _ _ _ (by simpa using hi)]
    by_cases h1 : i < y.length
    · rw [if_pos (by omega), List.getElem?_append_left h1, List.getD, Nat.sub_zero, List.getElem?_eq_getElem h1]; rfl
    · rw [if_neg (by omega), List.getElem?_append_right (by omega), List.getElem?_replicate, if_pos (by omega), List.getD, List.getElem?_replicate, if_pos hi]; rfl
  · rw [List.getElem?_eq_none (by simp [over_len]; omega), List.getElem?_eq_none (by simp; omega)]
theorem add_one64 (n : UInt64) : IntKind.u64.wrap (ui n + 1) = ui (n + 1) := by
  unfold ui
  rw [IntKind.wrap_u64, UInt64.toNat_add]
  show _ = (((n.toNat + 1) % 2 ^ 64 : Nat) : Int)
  omega
theorem full_no (n : UInt64) (h : n ≠ 18446744073709551615) : (ui n == 18446744073709551615) = false := by
  rw [beq_eq_false_iff_ne]
  intro e
  exact h (ui_inj (b := 18446744073709551615) e)
set_option maxHeartbeats 2000000 in
theorem save_no (s t : ByteArray) (w : World) (hs : s.size ≠ 20480) :
    Calls Try.prog 14 #[.agg #[.string s], .string t] w (SaveP s.data.toList t.data.toList w) := by
  have hs1 : ((s.size : Int) != 20480) = true := by simp; omega
  have HV : Hid (saveP s.data.toList t.data.toList = ([], 1)) := by show _ = _; unfold saveP; rw [if_pos (by rw [len_size]; exact hs)]
  clear hs
  go_enter Try.func14, Try.ntmps14
  go_wp2_with fail
  exact bodyPost_ret (v := .tuple #[.slice none 0 0, .int .i64 1]) (by simp [results, Try.results14, go_sem]) rfl (saveP_nil HV.out ((Below.refl _ _).alloc (Nat.le_refl _) _))

set_option maxHeartbeats 4000000 in
set_option maxRecDepth 100000 in
theorem save_any (s t : ByteArray) (w : World) (hs : s.size = 20480) (ht : t.size ≤ 1073741824) :
    Calls Try.prog 14 #[.agg #[.string s], .string t] w (SaveP s.data.toList t.data.toList w) := by
  have ct := fun W => told_any s W hs
  have hs1 : ((s.size : Int) != 20480) = false := by rw [hs]; rfl
  unfold ToldP T3 at ct
  by_cases hover : 8192 < t.size
  · have HV : Hid (saveP s.data.toList t.data.toList = ([], 32)) := by show _ = _; unfold saveP; rw [if_neg (by rw [len_size]; simpa using hs), if_pos (by rw [len_size]; exact hover)]
    clear hs ct
    go_enter Try.func14, Try.ntmps14
    go_wp2_with fail
    exact bodyPost_ret (v := .tuple #[.slice none 0 0, .int .i64 32]) (by simp [results, Try.results14, go_sem]) rfl (saveP_nil HV.out ((Below.refl _ _).alloc (Nat.le_refl _) _))
  · have HV0 : Hid (saveP s.data.toList t.data.toList = if (toldP s.data.toList).2.1 = 18446744073709551615 then ([], 10) else (savesP s.data.toList t.data.toList, 0)) := by
      show _ = _; unfold saveP; rw [if_neg (by rw [len_size]; simpa using hs), if_neg (by rw [len_size]; exact hover)]
    have HSV : Hid (savesP s.data.toList t.data.toList = chunks (fromP s.data.toList) t.data.toList (secN t.size) ++ [(((fromP s.data.toList : Nat) : Int), headP ((toldP s.data.toList).2.1 + 1) t.data.toList)]) := by
      show _ = _; unfold savesP; rw [len_size]
    have HFR : Hid (fromP s.data.toList = if (toldP s.data.toList).1 = 0 then 160 else 0) := rfl
    clear hs
    generalize toldP s.data.toList = T at *
    obtain ⟨ta, tn, tx⟩ := T
    by_cases hfull : tn = 18446744073709551615
    · have HV : Hid (saveP s.data.toList t.data.toList = ([], 10)) := by show _ = _; rw [HV0.out, if_pos hfull]
      subst hfull
      clear HV0
      go_enter Try.func14, Try.ntmps14
      go_wp2_with fail
      refine (ct _).mono ?_
      rintro e w1 ⟨rfl, hb1⟩
      have hbel := ((Below.refl w.heap.size w).alloc (Nat.le_refl _) _).trans (hb1.mono (by simp))
      clear hb1
      have hbb : (ui 18446744073709551615 == 18446744073709551615) = true := rfl
      go_wp2_with fail
      exact bodyPost_ret (v := .tuple #[.slice none 0 0, .int .i64 10]) (by simp [results, Try.results14, go_sem]) rfl (saveP_nil HV.out hbel)
    · have HV : Hid (saveP s.data.toList t.data.toList = (savesP s.data.toList t.data.toList, 0)) := by show _ = _; rw [HV0.out, if_neg hfull]
      have hbb : (ui tn == 18446744073709551615) = false := full_no tn hfull
      clear hfull HV0
      go_enter Try.func14, Try.ntmps14
      go_wp2_with fail
      refine (ct _).mono ?_
      rintro e w1 ⟨rfl, hb1⟩
      have hbel := ((Below.refl w.heap.size w).alloc (Nat.le_refl _) _).trans (hb1.mono (by simp))
      clear hb1 ct
      go_upto_if 28 with (fail)
      obtain ⟨d, hd, hdf⟩ : ∃ d : Nat, d ≤ 1 ∧ (d = if ta = 0 then 1 else 0) := ⟨if ta = 0 then 1 else 0, by split <;> omega, rfl⟩
      have HF : Hid (fromP s.data.toList = d * 160) := by show _ = _; rw [HFR.out, hdf]; show (if ta = 0 then 160 else 0) = _; split <;> rfl
      clear HFR
      go_cut [6] from 28 to 28 (fun v wx => v = .int .i64 (d : Int) ∧ wx = w1)
      case first =>
        by_cases h0 : ta = 0
        · have hb : (ta != 0) = false := by simp [h0]
          have HD1 : Hid ((1 : Int) = (d : Int)) := by show _ = _; rw [hdf, if_pos h0]; rfl
          clear h0 hdf
          go_wp2
          go_meet
          exact ⟨val_int HD1.out, rfl⟩
        · have hb : (ta != 0) = true := by simp [h0]
          have HD1 : Hid ((0 : Int) = (d : Int)) := by show _ = _; rw [hdf, if_neg h0]; rfl
          clear h0 hdf
          go_wp2
          go_meet
          exact ⟨val_int HD1.out, rfl⟩
      case rest =>
        obtain ⟨rfl, rfl⟩ := hcut
        obtain ⟨i0, hi0, hz0, hz1, hz2⟩ := info_parts info_u8
        have hz8 : ∀ w, (Go.sizeOf 5).run Try.prog w = .ok 1 w := fun w => by simp [Go.sizeOf, typeInfo, hi0, hz1]
        obtain ⟨j0, hj0, hy0, hy1, hy2⟩ := info_parts info_write
        clear hdf
        generalize fromP s.data.toList = fr at *
        go_wp2
        go_loopw [9, 10] (fun v i wr => ∃ k : Nat, k ≤ secN t.size ∧ i = .int .i64 (64 * (k : Int)) ∧ wr.ownsRow w.heap.size 41 2 v k (WS (chunks fr t.data.toList k)) ∧ Below w.heap.size w wr) (fun _ i _ => t.size - (intOf i).toNat)
        case atStart => exact ⟨0, by omega, rfl, World.ownsRow_nil _ _ _ _, hbel⟩
        case round =>
          clear hbel
          obtain ⟨k, hk, rfl, hown, hbel⟩ := hrel
          have hsec : secN t.size = (t.size + 63) / 64 := rfl
          by_cases hlt : k < secN t.size
          · have hlt2 : 64 * (k : Int) < (t.size : Int) := by omega
            have hk128 : k ≤ 128 := by omega
            have i3 : 64 * k ≤ t.size := by omega
            have hsz := hbel.size
            clear hsec
            have w3 : (64 * (k : Int)).toNat = 64 * k := by omega
            have w4 : 64 * (k : Int) / 64 = k := by omega
            have i4 : (0 : Int) ≤ 64 * (k : Int) := by omega
            have i5 : 64 * (k : Int) ≤ (t.size : Int) := by omega
            go_wp2_with fail
            refine wp_region_still_tail 4 (by kernel_rfl) (by kernel_rfl) ?_
            simp only [List.take_succ_cons, List.take_zero, List.drop_succ_cons, List.drop_zero]
            iterate 4 still_step
            refine wpStill_nil ?_
            have hA := byt_arr wr (List.replicate 64 0) (B8 (List.replicate 64 0)).toArray 51 rfl
            obtain ⟨w5, hw5⟩ : ∃ w5 : World, wr.alloc (.cells (B8 (List.replicate 64 0)).toArray 51) = w5 := ⟨_, rfl⟩
            have hbA : Below wr.heap.size wr w5 := by rw [← hw5]; exact (Below.refl _ _).alloc (Nat.le_refl _) _
            rw [hw5] at hA
            change wpList _ _ _ _ _ (wr.alloc (.cells (B8 (List.replicate 64 0)).toArray 51)).drew
            rw [hw5]
            clear hw5
            have hA := hA.drew
            obtain ⟨m, hm⟩ : ∃ m, min (t.size - 64 * k) 64 = m := ⟨_, rfl⟩
            have hts : (t.extract (64 * k) t.size).size = t.size - 64 * k := by rw [ByteArray.size_extract]; omega
            have hm2 : min (t.extract (64 * k) t.size).size 64 = m := by rw [hts]; exact hm
            refine Lib.wpList_copy_run w5.drew rfl (.tmp 35) (.tmp 38) 38 9 rfl (.slice (some ⟨wr.heap.size, 0, none⟩) 64 64) (.string (t.extract (64 * k) t.size)) rfl rfl (run_copy_str w5.drew _ _ _ 5 wr.heap.size 0 64 64 (t.extract (64 * k) t.size) m hm2 Try.underlying38 hz8 (fun j hj => by rw [Nat.zero_add]; exact hA.some_ (by simp; omega)) (fun j hj => by rw [Nat.zero_add]; exact hA.free j (by simp; omega))) ?_
            have hSC := hA.setCells_ (x := (t.extract (64 * k) t.size).data.toList.take m) 0 (by simp; omega)
            have hgr : w5.drew.grownBy (w5.drew.setCells wr.heap.size 0 (B8 ((t.extract (64 * k) t.size).data.toList.take m))) (some wr.heap.size) := grown_setCells _ _ (World.grownBy.refl _ _)
            have hbS := below_of_grown (below_drewN hbA 1) hgr (Nat.le_refl _) hbA.size
            have HCH : Hid (chunk fr t.data.toList k = (((fr + 1 + k : Nat) : Int), over (List.replicate 64 0) 0 ((t.extract (64 * k) t.size).data.toList.take m))) := by
              show _ = _
              unfold chunk
              rw [over_pad _ (by simp; omega), ext_dt, List.take_of_length_le (by simp : (List.drop (64 * k) t.data.toList).length ≤ t.size - 64 * k)]
              congr 2
              rw [← hm]
              by_cases h : 64 ≤ t.size - 64 * k
              · rw [show min (t.size - 64 * k) 64 = 64 from by omega]
              · rw [List.take_of_length_le (by simp; omega), List.take_of_length_le (by simp; omega)]
            change wpList _ _ _ _ _ (w5.drew.setCells wr.heap.size 0 (B8 ((t.extract (64 * k) t.size).data.toList.take m)))
            generalize over (List.replicate 64 0) 0 ((t.extract (64 * k) t.size).data.toList.take m) = Y at *
            generalize w5.drew.setCells wr.heap.size 0 (B8 ((t.extract (64 * k) t.size).data.toList.take m)) = w6 at *
            have hYl : Y.length = 64 := by have := chunk_len fr t.data.toList k; rw [HCH.out] at this; exact this
            have hcv := hSC.conv (P := Try.prog) 38 9 Try.underlying38 Try.underlying5 Try.underlying9 0 64 64 Y hYl (fun j hj => by rw [Nat.zero_add])
            have hown6 := own_below hown hbS
            have hbel6 := hbel.trans (hbS.mono hsz)
            have hsz6 := hbel6.size
            have HSN : Hid (WS (chunks fr t.data.toList k) ++ [.int .i64 ((d : Int) * 160 + 1 + k), .string ⟨Y.toArray⟩] = WS (chunks fr t.data.toList (k + 1))) := by
              show _ = _
              rw [ws_snoc, ← chunks_snoc, HCH.out]
              congr 4
              have := HF.out
              omega
            clear hSC hgr hbS hA hbA hown hbel hts hm2 hm HCH hYl hsz
            go_wp2_with (at_builtin; refine wpList_append_two w6 rfl (.tmp 40) (.tmp 50) 29 rfl w.heap.size 41 j0 _ 24 Try.underlying29 hj0 hy0 hy1 hy2 rfl _ k _ (.int .i64 ((d : Int) * 160 + 1 + k)) (.string ⟨Y.toArray⟩) hown6 rfl rfl rfl rfl (by omega) (by omega) hsz6 ?_; intro v' w7 hown' hb7)
            go_roundw
            case rel => exact ⟨k + 1, by omega, by go_num, by rw [← HSN.out]; exact hown', hbel6.trans hb7⟩
            case measure => simp [intOf]; omega
          · obtain rfl : k = secN t.size := by omega
            have hlt2 : (t.size : Int) ≤ 64 * ((secN t.size : Nat) : Int) := by omega
            obtain ⟨Hd, hHd⟩ : ∃ Hd : ByteArray, Hd = ⟨(headP (tn + 1) t.data.toList).toArray⟩ := ⟨_, rfl⟩
            have hle := secN_le (n := t.size) (by omega)
            have hcl := chunks_len fr t.data.toList (secN t.size)
            have HSN : Hid (WS (chunks fr t.data.toList (secN t.size)) ++ [.int .i64 ((d : Int) * 160), .string Hd] = WS (savesP s.data.toList t.data.toList)) := by
              show _ = _
              rw [hHd, ws_snoc, HSV.out]
              congr 4
              have := HF.out
              omega
            have HLN : Hid ((savesP s.data.toList t.data.toList).length = secN t.size + 1) := by show _ = _; rw [HSV.out]; simp [hcl]
            have HHD := Lib.hid hHd
            have hsz := hbel.size
            clear hHd HSV hsec hcl
            go_wp2_with fail
            refine (headed_z (tn + 1) _ t Hd _ (by omega) ?_ HHD.out).mono ?_
            · exact (add_one64 tn).symm
            rintro e w7 ⟨rfl, hb7⟩
            have hown7 := own_below hown hb7
            have hbel7 := hbel.trans (hb7.mono hsz)
            have hsz7 := hbel7.size
            clear hown hb7 hbel hsz
            go_wp2_with (at_builtin; refine wpList_append_two w7 rfl (.tmp 52) (.tmp 60) 29 rfl w.heap.size 41 j0 _ 24 Try.underlying29 hj0 hy0 hy1 hy2 rfl _ (secN t.size) _ (.int .i64 ((d : Int) * 160)) (.string Hd) hown7 rfl rfl rfl rfl (by omega) (by omega) hsz7 ?_; intro v' w8 hown' hb8)
            rw [HSN.out] at hown'
            obtain ⟨A, cap, rfl, hnc, hll, hrd⟩ := own_rdw hown' (saves_small _ _)
            clear hown'
            go_wp2_with fail
            refine bodyPost_ret (v := .tuple #[.slice A (secN t.size + 1) cap, .int .i64 0]) (by simp [results, Try.results14, go_sem]) rfl ⟨A, secN t.size + 1, cap, by rw [HV.out], hnc, by omega, by rw [HV.out]; exact hll, by rw [HV.out]; exact hrd, hbel7.trans hb8⟩
end Go.Proofs.Ytlhdomckljhfoaa
