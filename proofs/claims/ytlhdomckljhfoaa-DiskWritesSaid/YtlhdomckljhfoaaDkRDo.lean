/-
  The walk of the reference's Do. Conditions: the disk's string has the bytes of a disk; the row of writes reads as a list.
-/
import Derived.Test.YtlhdomckljhfoaaDkRPut
import Derived.Test.YtlhdomckljhfoaaDkNew
namespace Go.Proofs.Ytlhdomckljhfoaa
open Go.ChangeShapes Go.WideShapes Go.ChangeAt Go.RowKit
set_option linter.unusedVariables false
set_option linter.unusedSimpArgs false

abbrev Wr := Int × List UInt8
/-- A slice of writes reads as a list. -/
def RdW (w : World) (B : Nat) (A : Option Addr) (n : Nat) (l : List Wr) : Prop :=
  l.length = n ∧ (∀ x, x ∈ l → x.2.length ≤ 1073741824) ∧ (0 < n → ∃ b off, A = some ⟨b, off, none⟩ ∧ b < B ∧ ∀ (j : Nat) x, l[j]? = some x → w.cell? ⟨b, off + j * 2, none⟩ = some (.int .i64 x.1) ∧ w.cell? ⟨b, off + j * 2 + 1, none⟩ = some (.string ⟨x.2.toArray⟩))
theorem rdw_below {w w' : World} {B n : Nat} {A : Option Addr} {l : List Wr} (h : RdW w B A n l) (hb : Below B w w') : RdW w' B A n l := by
  refine ⟨h.1, h.2.1, fun hn => ?_⟩
  obtain ⟨b, off, e, hlt, hc⟩ := h.2.2 hn
  exact ⟨b, off, e, hlt, fun j x hx => ⟨(hb.cell (p := ⟨b, off + j * 2, none⟩) hlt).trans (hc j x hx).1, (hb.cell (p := ⟨b, off + j * 2 + 1, none⟩) hlt).trans (hc j x hx).2⟩⟩
theorem rdw_at {w : World} {B n : Nat} {A : Option Addr} {l : List Wr} (h : RdW w B A n l) {k : Nat} (hk : k < n) :
    ∃ b off a x, A = some ⟨b, off, none⟩ ∧ b < B ∧ l[k]? = some (a, x) ∧ x.length ≤ 1073741824 ∧ w.cell? ⟨b, off + k * 2, none⟩ = some (.int .i64 a) ∧ w.cell? ⟨b, off + k * 2 + 1, none⟩ = some (.string ⟨x.toArray⟩) := by
  obtain ⟨b, off, e, hlt, hc⟩ := h.2.2 (by omega)
  have hl : k < l.length := by rw [h.1]; exact hk
  have hx : l[k]? = some l[k] := List.getElem?_eq_getElem hl
  exact ⟨b, off, l[k].1, l[k].2, e, hlt, hx, h.2.1 _ (List.getElem_mem hl), (hc k _ hx).1, (hc k _ hx).2⟩

theorem doTo_succ {L : List UInt8} {l : List Wr} {W t k : Nat} {a : Int} {x : List UInt8} (h : l[k]? = some (a, x)) : doTo L l W t (k + 1) = putP (doTo L l W t k) a (if k = W then x.take t else x) := by
  rw [doTo, h]
theorem take64 (x : List UInt8) : (x.take 64).take 64 = x.take 64 := by rw [List.take_take]; rfl
theorem putP_64 (L : List UInt8) (a : Int) (x : List UInt8) : putP L a (x.take 64) = putP L a x := by unfold putP; rw [take64]

set_option maxHeartbeats 1000000 in
set_option maxRecDepth 100000 in
theorem rdo_any (s : ByteArray) (A : Option Addr) (n cap B : Nat) (l : List Wr) (whole torn : Int) (w : World) (hs : s.size = 20480) (hr : RdW w B A n l) (hn : n ≤ 1073741824) (hB : B ≤ w.heap.size) :
    Calls Try.prog 20 #[.agg #[.string s], .slice A n cap, .int .i64 whole, .int .i64 torn] w (DiskIs (doP s.data.toList l whole torn) w) := by
  have hl : s.data.toList.length = 20480 := by rw [len_size]; exact hs
  have hcv : ∀ w, (convert 9 38 (.string s)).run Try.prog w = _ := fun w => Lib.run_convert_string_bytes w 9 38 5 s Try.underlying9 Try.underlying38 Try.underlying5
  rw [hs] at hcv
  obtain ⟨W, hW⟩ : ∃ W, wholeN n whole = W := ⟨_, rfl⟩
  have HW := Lib.hid hW
  unfold wholeN at hW
  have HR := Lib.hid hr
  have HL := Lib.hid hr.1
  have HLS := Lib.hid hl
  have HS := Lib.hid hs
  clear hr hl hs
  go_enter Try.func20, Try.ntmps20
  go_upto_region 2 with (fail)
  obtain ⟨w1, hw1⟩ : ∃ w1 : World, (w.alloc (.cells #[Value.string s] 25)).alloc (.cells #[Value.string { data := #[] }] 25) = w1 := ⟨_, rfl⟩
  have hbel1 : Below w.heap.size w w1 := by rw [← hw1]; exact ((Below.refl _ _).alloc (Nat.le_refl _) _).alloc (by simp) _
  have hsz1 : w1.heap.size = w.heap.size + 2 := by rw [← hw1]; simp
  have hcR : w1.cell? ⟨w.heap.size + 1, 0, none⟩ = some (.string ⟨#[]⟩) ∧ w1.frozen? ⟨w.heap.size + 1, 0, none⟩ = false := by rw [← hw1]; simp [go_sem]
  rw [hw1]
  generalize grownCap w1 20480 0 5 = cp
  have hb2 := bw_below w1 5 s
  have hB2 : Byt (Lib.bytesWorld w1 5 s) (w.heap.size + 1 + 1) s.data.toList := by have := bw_byt w1 5 s; rwa [hsz1] at this
  have hc2 : (Lib.bytesWorld w1 5 s).cell? ⟨w.heap.size + 1, 0, none⟩ = some (.string ⟨#[]⟩) := (hb2.cell (p := ⟨w.heap.size + 1, 0, none⟩) (by show w.heap.size + 1 < _; omega)).trans hcR.1
  have hf2 : (Lib.bytesWorld w1 5 s).frozen? ⟨w.heap.size + 1, 0, none⟩ = false := (hb2.frozen (p := ⟨w.heap.size + 1, 0, none⟩) (by show w.heap.size + 1 < _; omega)).trans hcR.2
  have hbel2 : Below w.heap.size w (Lib.bytesWorld w1 5 s) := hbel1.trans (hb2.mono (by omega))
  clear hcv hb2 hcR hw1
  have hR2 := rdw_below HR.out (hbel2.mono hB)
  generalize Lib.bytesWorld w1 5 s = w2 at *
  clear hbel1 hsz1 HR
  have HR := Lib.hid hR2
  have HB2 := Lib.hid hB2
  have hWn : W ≤ n := by omega
  clear hR2 hB2
  go_cut [2] from 14 to 18 (fun v wx => v = .int .i64 (W : Int) ∧ wx = w2)
  case first =>
    go_wp2
    all_goals
      go_meet
      exact ⟨by go_num, rfl⟩
  case rest =>
    obtain ⟨rfl, rfl⟩ := hcut
    have HD : Hid (doP s.data.toList l whole torn = doTo s.data.toList l W torn.toNat (min (W + 1) n)) := by show _ = _; unfold doP; rw [HL.out, HW.out]
    have HDL := Lib.hid (fun k => (doTo_len s.data.toList l W torn.toNat k).trans HLS.out)
    clear hW HS
    generalize doP s.data.toList l whole torn = R at *
    have HB0 : Hid (Byt wc (w.heap.size + 1 + 1) (doTo s.data.toList l W torn.toNat 0)) := HB2.out
    clear HB2
    go_wp2
    go_loopw [10] (fun i wr => ∃ k : Nat, k ≤ W ∧ i = .int .i64 k ∧ Byt wr (w.heap.size + 1 + 1) (doTo s.data.toList l W torn.toNat k) ∧ wr.cell? ⟨w.heap.size + 1, 0, none⟩ = some (.string ⟨#[]⟩) ∧ wr.frozen? ⟨w.heap.size + 1, 0, none⟩ = false ∧ RdW wr B A n l ∧ Below w.heap.size w wr) (fun i _ => W - (intOf i).toNat)
    case atStart => exact ⟨0, by omega, rfl, HB0.out, hc2, hf2, HR.out, hbel2⟩
    case round =>
      clear hc2 hf2 HR hbel2 HB0
      obtain ⟨k, hk, rfl, hB, hc, hf, hR, hbel⟩ := hrel
      by_cases hlt : k < W
      · have hkn : k < n := by omega
        obtain ⟨b, off, a, x, rfl, hbB, hx, hxs, hca, hcx⟩ := rdw_at hR hkn
        have HSTEP : Hid (doTo s.data.toList l W torn.toNat (k + 1) = putP (doTo s.data.toList l W torn.toNat k) a (x.take 64)) := by
          show _ = _
          rw [doTo_succ hx, if_neg (by omega), putP_64]
        have HB := Lib.hid hB
        have HR := Lib.hid hR
        clear hB hR hx
        go_wp2_with fail
        refine (rput_any (w.heap.size + 1 + 1) cp _ a ⟨x.toArray⟩ 64 wr HB.out (HDL.out k) (by simpa [ByteArray.size] using hxs)).mono ?_
        rintro e w3 ⟨rfl, hB3, hg3⟩
        have hc3 := hg3.cell hc (fun e => by injection e with e; exact absurd e (by show w.heap.size + 1 ≠ _; omega))
        have hf3 : w3.frozen? ⟨w.heap.size + 1, 0, none⟩ = false := (World.frozen?_of_block (a := ⟨w.heap.size + 1, 0, none⟩) (hg3.block _ (World.block_lt_of_cell? wr _ hc) (fun e => by injection e with e; exact absurd e (by show w.heap.size + 1 ≠ _; omega)))).trans hf
        have hR3 := rdw_below HR.out (below_of_grown (Below.refl B wr) hg3 (by omega) (Nat.le_trans hB hbel.size))
        have hbel3 := below_of_grown hbel hg3 (by omega) hbel.size
        have HB3 : Hid (Byt w3 (w.heap.size + 1 + 1) (doTo s.data.toList l W torn.toNat (k + 1))) := by
          show Byt _ _ _
          rw [HSTEP.out]
          exact hB3
        have HR3 := Lib.hid hR3
        clear hB3 hc hf hbel hca hcx hg3 hR3 HB HR HSTEP
        go_wp2
        go_roundw
        case rel => exact ⟨k + 1, by omega, by go_num, HB3.out, hc3, hf3, HR3.out, hbel3⟩
        case measure => simp [intOf]; omega
      · obtain rfl : k = W := by omega
        by_cases hkn : k < n
        · obtain ⟨b, off, a, x, rfl, hbB, hx, hxs, hca, hcx⟩ := rdw_at hR hkn
          have HSTEP : Hid (R = putP (doTo s.data.toList l k torn.toNat k) a (x.take torn.toNat)) := by
            show _ = _
            rw [HD.out, show min (k + 1) n = k + 1 from by omega, doTo_succ hx, if_pos rfl]
          have HRL : Hid (R.length = 20480) := by show _ = _; rw [HD.out]; exact HDL.out _
          have HB := Lib.hid hB
          clear hB hR hx
          go_wp2_with fail
          refine (rput_any (w.heap.size + 1 + 1) cp _ a ⟨x.toArray⟩ torn wr HB.out (HDL.out k) (by simpa [ByteArray.size] using hxs)).mono ?_
          rintro e w3 ⟨rfl, hB3, hg3⟩
          have hc3 := hg3.cell hc (fun e => by injection e with e; exact absurd e (by show w.heap.size + 1 ≠ _; omega))
          have hf3 : w3.frozen? ⟨w.heap.size + 1, 0, none⟩ = false := (World.frozen?_of_block (a := ⟨w.heap.size + 1, 0, none⟩) (hg3.block _ (World.block_lt_of_cell? wr _ hc) (fun e => by injection e with e; exact absurd e (by show w.heap.size + 1 ≠ _; omega)))).trans hf
          have hbel3 := below_of_grown hbel hg3 (by omega) hbel.size
          have hB3 : Byt w3 (w.heap.size + 1 + 1) R := by rw [HSTEP.out]; exact hB3
          have hcv := hB3.conv (P := Try.prog) 38 9 Try.underlying38 Try.underlying5 Try.underlying9 0 20480 cp R HRL.out (fun j hj => by rw [Nat.zero_add])
          clear hB3 hc hf hbel hca hcx hg3 HB HSTEP
          go_wp2
          exact bodyPost_ret (v := .agg #[.string ⟨R.toArray⟩]) (by simp [results, Try.results20, go_sem, hc3]) rfl ⟨rfl, hbel3.setCell (by show w.heap.size ≤ w.heap.size + 1; omega) _⟩
        · have HSTEP : Hid (R = doTo s.data.toList l k torn.toNat k) := by
            show _ = _
            rw [HD.out, show min (k + 1) n = k from by omega]
          have HRL : Hid (R.length = 20480) := by show _ = _; rw [HD.out]; exact HDL.out _
          have hB3 : Byt wr (w.heap.size + 1 + 1) R := by rw [HSTEP.out]; exact hB
          have hcv := hB3.conv (P := Try.prog) 38 9 Try.underlying38 Try.underlying5 Try.underlying9 0 20480 cp R HRL.out (fun j hj => by rw [Nat.zero_add])
          clear hB3 hB HSTEP hR
          go_wp2
          exact bodyPost_ret (v := .agg #[.string ⟨R.toArray⟩]) (by simp [results, Try.results20, go_sem, hc]) rfl ⟨rfl, hbel.setCell (by show w.heap.size ≤ w.heap.size + 1; omega) _⟩
end Go.Proofs.Ytlhdomckljhfoaa
