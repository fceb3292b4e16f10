/-
  The walk of chapter 2's Parse, the program's. Conditions: the string has at most 300000 bytes; strconv's table reads as it is laid.
-/
import Derived.Test.YtabcpbmnemfnbaaDoorVRoom2
import Derived.Test.YtabcpbmnemfnbaaDoorVParseLaw
namespace Go.Proofs.YtabcpbmnemfnbaaDoor
open Go.ChangeShapes Go.WideShapes Go.ChangeAt Go.RowKit
set_option linter.unusedVariables false

theorem parse_res (W : World) (tmps : Array Value) (b : Nat) {x0 x1 x2 x3 x4 : Value} (h2 : tmps[2]?.getD undef = .pointer (some ⟨b, 0, none⟩)) (h : Five W b x0 x1 x2 x3 x4) :
    (results Tryd.f14 tmps).run Tryd.prog W = .ok (.tuple #[.agg #[x0, x1, x2, x3, x4], tmps[3]?.getD undef]) W := by
  obtain ⟨k0, k1, k2, k3, k4⟩ := h
  simp [results, Tryd.results14, h2, go_sem, k0, k1, k2, k3, k4]

theorem behind_le {s x : ByteArray} {c : UInt8} (h : x.data.toList = (fromL s.data.toList c).tail) {n : Nat} (hs : s.size ≤ n) : x.size ≤ n := by
  have h1 := congrArg List.length h
  have h2 := congrArg List.length (whole_from s.data.toList c)
  rw [len_size, List.length_tail] at h1
  rw [List.length_append, len_size] at h2
  omega
/-- An array of three of the call's own. -/
def Arr (W : World) (b : Nat) (y0 y1 y2 : Int) : Prop :=
  W.cell? ⟨b, 0, none⟩ = some (.int .i64 y0) ∧ W.cell? ⟨b, 1, none⟩ = some (.int .i64 y1) ∧ W.cell? ⟨b, 2, none⟩ = some (.int .i64 y2) ∧ ∀ o, W.frozen? ⟨b, o, none⟩ = false
theorem arr_new (w : World) (t : TypeId) : Arr (w.alloc (.cells #[.int .i64 0, .int .i64 0, .int .i64 0] t)) w.heap.size 0 0 0 := by
  refine ⟨?_, ?_, ?_, fun o => ?_⟩
  all_goals simp [go_sem]
theorem arr_below {W W' : World} {b B : Nat} {y0 y1 y2 : Int} (h : Arr W b y0 y1 y2) (hb : b < B) (hw : Below B W W') : Arr W' b y0 y1 y2 :=
  ⟨(hw.cell (p := ⟨b, 0, none⟩) hb).trans h.1, (hw.cell (p := ⟨b, 1, none⟩) hb).trans h.2.1, (hw.cell (p := ⟨b, 2, none⟩) hb).trans h.2.2.1, fun o => (hw.frozen (p := ⟨b, o, none⟩) hb).trans (h.2.2.2 o)⟩
theorem arr_set0 {W : World} {b : Nat} {y0 y1 y2 : Int} (h : Arr W b y0 y1 y2) (y : Int) : Arr (W.setCell ⟨b, 0, none⟩ (.int .i64 y)) b y y1 y2 := by
  obtain ⟨h0, h1, h2, hf⟩ := h
  refine ⟨?_, ?_, ?_, fun o => ?_⟩
  all_goals simp [go_sem, h0, h1, h2, hf]
theorem arr_set1 {W : World} {b : Nat} {y0 y1 y2 : Int} (h : Arr W b y0 y1 y2) (y : Int) : Arr (W.setCell ⟨b, 1, none⟩ (.int .i64 y)) b y0 y y2 := by
  obtain ⟨h0, h1, h2, hf⟩ := h
  refine ⟨?_, ?_, ?_, fun o => ?_⟩
  all_goals simp [go_sem, h0, h1, h2, hf]
theorem arr_set2 {W : World} {b : Nat} {y0 y1 y2 : Int} (h : Arr W b y0 y1 y2) (y : Int) : Arr (W.setCell ⟨b, 2, none⟩ (.int .i64 y)) b y0 y1 y := by
  obtain ⟨h0, h1, h2, hf⟩ := h
  refine ⟨?_, ?_, ?_, fun o => ?_⟩
  all_goals simp [go_sem, h0, h1, h2, hf]

set_option maxHeartbeats 4000000 in
theorem parse_any (s : ByteArray) (w : World) (hT : Tab w) (hs : s.size ≤ 300000) :
    Calls Tryd.prog 14 #[.string s] w fun e w' => e = .returned (parseVal (parseV s.data.toList)) ∧ Below w.heap.size w w' := by
  have HT := Lib.hid hT
  clear hT
  have HPP := Lib.hid (parse_prog s.data.toList)
  generalize parseV s.data.toList = R at *
  go_enter Tryd.func14, Tryd.ntmps14
  go_wp2_with fail
  refine (behind_any s 43 _ (by unfold maxLen; omega)).mono ?_
  rintro e w1 ⟨⟨x, y, rfl, hxy⟩, hb1⟩
  have HPP := Lib.hid HPP.out
  rw [← hxy.1, ← hxy.2] at HPP
  have hxs : x.size ≤ 300000 := behind_le hxy.1 hs
  have hRr := room_below (room_below (room_new w _ _ _ _ _ _) (by simp) (box_below _ _)) (by simp; omega) hb1
  have hRv := room_below (room_new (w.alloc _) _ _ _ _ _ _) (by simp) hb1
  simp at hRr hRv
  have hbB : Below w.heap.size w w1 := (two_below w _ _).trans (hb1.mono (by simp; omega))
  have hsz1 : w.heap.size + 2 ≤ w1.heap.size := by have := hb1.size; simp at this; omega
  clear hb1
  have v4 := hRv.1.2.2.2.2
  have vf := hRv.2 4
  have hys : y.size ≤ 300000 := by have h1 := congrArg List.length hxy.2; have h2 := ahead_le s.data.toList 43; rw [len_size] at h1 h2; omega
  go_wp2_with fail
  have hRr := room_other hRr (b' := w.heap.size + 1) (o := 4) (by omega) (.string x)
  have hRv := room_set4 hRv (.string x)
  have hbB := hbB.setCell (p := ⟨w.heap.size + 1, 4, none⟩) (by simp) (.string x)
  have hsz1 : w.heap.size + 2 ≤ (w1.setCell ⟨w.heap.size + 1, 4, none⟩ (.string x)).heap.size := by simpa using hsz1
  clear v4 vf
  generalize w1.setCell ⟨w.heap.size + 1, 4, none⟩ (.string x) = W1 at *
  refine (behind_any y 45 _ (by unfold maxLen; omega)).mono ?_
  rintro e w2 ⟨⟨x2, y2, rfl, hxy2⟩, hb2⟩
  rw [← hxy2.1, ← hxy2.2] at HPP
  have hxs2 : x2.size ≤ 300000 := behind_le hxy2.1 hys
  have hRr := room_below hRr (by omega) hb2
  have hRv := room_below hRv (by omega) hb2
  have hbB := hbB.trans (hb2.mono hbB.size)
  have hsz1 := Nat.le_trans hsz1 hb2.size
  clear hb2
  have v4 := hRv.1.2.2.2.1
  have vf := hRv.2 3
  have hys2 : y2.size ≤ 300000 := by have h1 := congrArg List.length hxy2.2; have h2 := ahead_le y.data.toList 45; rw [len_size] at h1 h2; omega
  go_wp2_with fail
  have hRr := room_other hRr (b' := w.heap.size + 1) (o := 3) (by omega) (.string x2)
  have hRv := room_set3 hRv (.string x2)
  have hbB := hbB.setCell (p := ⟨w.heap.size + 1, 3, none⟩) (by simp) (.string x2)
  have hsz1 : w.heap.size + 2 ≤ (w2.setCell ⟨w.heap.size + 1, 3, none⟩ (.string x2)).heap.size := by simpa using hsz1
  clear v4 vf
  generalize w2.setCell ⟨w.heap.size + 1, 3, none⟩ (.string x2) = W2 at *
  refine (split_any y2 46 _ (by omega)).mono ?_
  rintro e w3 ⟨⟨v, rfl, hown⟩, hb3⟩
  obtain ⟨A, c, rfl, hrd⟩ := rd_own hown
  have hRr := room_below hRr (by omega) hb3
  have hRv := room_below hRv (by omega) hb3
  have hbB := hbB.trans (hb3.mono hbB.size)
  have hsz1 := Nat.le_trans hsz1 hb3.size
  have HLE : Hid (∀ q ∈ splitL y2.data.toList 46, q.length ≤ 1048576) := fun q hq => by have := piece_le hq; rw [len_size] at this; omega
  have hn := split_len_le y2.data.toList 46
  rw [len_size] at hn
  have HRD := Lib.hid hrd
  clear hown hb3 hrd
  generalize hps : splitL y2.data.toList 46 = ps at *
  by_cases h3 : ps.length = 3
  · match ps, h3 with
    | [p0, p1, p2], _ =>
      simp only [List.length_cons, List.length_nil, Nat.zero_add] at *
      have hq0 := HLE.out p0 (by simp)
      have hq1 := HLE.out p1 (by simp)
      have hq2 := HLE.out p2 (by simp)
      have nx := fun W => number_any ⟨p0.toArray⟩ W (by rw [str_size]; unfold maxLen; omega)
      have ny := fun W => number_any ⟨p1.toArray⟩ W (by rw [str_size]; unfold maxLen; omega)
      have nz := fun W => number_any ⟨p2.toArray⟩ W (by rw [str_size]; unfold maxLen; omega)
      dsimp only at nx ny nz
      rw [show threeR [p0, p1, p2] = (((numB p0).1 : Int), ((numB p1).1 : Int), ((numB p2).1 : Int), (numB p0).2 && (numB p1).2 && (numB p2).2) from rfl] at HPP
      generalize numB p0 = m0 at *
      generalize numB p1 = m1 at *
      generalize numB p2 = m2 at *
      obtain ⟨n0, i0⟩ := m0
      obtain ⟨n1, i1⟩ := m1
      obtain ⟨n2, i2⟩ := m2
      go_wp2_with fail
      go_loopw [8, 9, 10, 11, 33] (fun _ _ _ _ i wr => ∃ j : Nat, j ≤ 3 ∧ i = .int .i64 j ∧ Arr wr w3.heap.size (if 0 < j then (n0 : Int) else 0) (if 1 < j then (n1 : Int) else 0) (if 2 < j then (n2 : Int) else 0) ∧ (0 < j → i0 = true) ∧ (1 < j → i1 = true) ∧ (2 < j → i2 = true) ∧ Below w3.heap.size w3 wr ∧ w3.heap.size < wr.heap.size) (fun _ _ _ _ i _ => 3 - (intOf i).toNat)
      case atStart => exact ⟨0, by omega, rfl, arr_new _ _, by simp, by simp, by simp, box_below _ _, by simp⟩
      case round =>
        obtain ⟨j, hj, rfl, harr, q0, q1, q2, hbel, hlt⟩ := hrel
        have hRr' := room_below hRr (by omega) hbel
        obtain ⟨⟨k0, k1, k2, k3, k4⟩, kf⟩ := id hRr'
        have f0 := kf 0
        have f1 := kf 1
        have f2 := kf 2
        have f3 := kf 3
        have f4 := kf 4
        have hj4 : j = 0 ∨ j = 1 ∨ j = 2 ∨ j = 3 := by omega
        rcases hj4 with rfl | rfl | rfl | rfl
        · obtain ⟨b, off, p, rfl, hb0, hp0, hc0⟩ := rds_cell (rd_below HRD.out hbel) (k := 0) (by simp)
          cases hp0
          rw [Nat.add_zero] at hc0
          obtain ⟨a0, a1, a2, af⟩ := id harr
          have af0 := af 0
          simp at a0 a1 a2
          generalize (⟨p0.toArray⟩ : ByteArray) = t0 at *
          cases i0
          · have HR : Hid (R = none) := by have h := HPP.out; rw [if_neg (fun h => by simpa using h.1)] at h; exact h
            go_wp2_with (go_at_call 34; refine (nx _).mono ?_; rintro e w4 ⟨rfl, hb4⟩; have hR4 := room_below hRr' (by omega) hb4; obtain ⟨⟨k0, k1, k2, k3, k4⟩, kf⟩ := id hR4; have f0 := kf 0; have f1 := kf 1; have f2 := kf 2; have f3 := kf 3; have f4 := kf 4)
            have hput := room_put hR4 (.int .i64 0) (.int .i64 0) (.int .i64 0) (.string ⟨#[]⟩) (.string ⟨#[]⟩)
            refine bodyPost_ret (parse_res _ _ w.heap.size rfl hput.1) rfl ?_
            rw [HR.out]
            refine ⟨rfl, ?_⟩
            have hB4 := (hbB.trans (hbel.mono hbB.size)).trans (hb4.mono (Nat.le_trans hbB.size hbel.size))
            go_grown
          · go_wp2_with (go_at_call 34; refine (nx _).mono ?_; rintro e w4 ⟨rfl, hb4⟩; have hA4 := arr_below harr hlt hb4; obtain ⟨a0, a1, a2, af⟩ := id hA4; have af0 := af 0; simp at a0 a1 a2)
            go_roundw
            case rel => exact ⟨1, by omega, rfl, by simpa using arr_set0 hA4 (n0 : Int), by simp, by simp, by simp, (hbel.trans (hb4.mono hbel.size)).setCell (p := ⟨w3.heap.size, 0, none⟩) (Nat.le_refl _) _, by have := hb4.size; simp; omega⟩
            case measure => simp [intOf]
        · obtain ⟨b, off, p, rfl, hb0, hp0, hc0⟩ := rds_cell (rd_below HRD.out hbel) (k := 1) (by simp)
          cases hp0
          obtain ⟨a0, a1, a2, af⟩ := id harr
          have af0 := af 1
          simp at a0 a1 a2
          generalize (⟨p1.toArray⟩ : ByteArray) = t0 at *
          cases i1
          · have HR : Hid (R = none) := by have h := HPP.out; rw [if_neg (fun h => by simpa using h.1)] at h; exact h
            go_wp2_with (go_at_call 34; refine (ny _).mono ?_; rintro e w4 ⟨rfl, hb4⟩; have hR4 := room_below hRr' (by omega) hb4; obtain ⟨⟨k0, k1, k2, k3, k4⟩, kf⟩ := id hR4; have f0 := kf 0; have f1 := kf 1; have f2 := kf 2; have f3 := kf 3; have f4 := kf 4)
            have hput := room_put hR4 (.int .i64 0) (.int .i64 0) (.int .i64 0) (.string ⟨#[]⟩) (.string ⟨#[]⟩)
            refine bodyPost_ret (parse_res _ _ w.heap.size rfl hput.1) rfl ?_
            rw [HR.out]
            refine ⟨rfl, ?_⟩
            have hB4 := (hbB.trans (hbel.mono hbB.size)).trans (hb4.mono (Nat.le_trans hbB.size hbel.size))
            go_grown
          · go_wp2_with (go_at_call 34; refine (ny _).mono ?_; rintro e w4 ⟨rfl, hb4⟩; have hA4 := arr_below harr hlt hb4; obtain ⟨a0, a1, a2, af⟩ := id hA4; have af0 := af 1; simp at a0 a1 a2)
            go_roundw
            case rel => exact ⟨2, by omega, rfl, by simpa using arr_set1 hA4 (n1 : Int), by simp [q0], by simp, by simp, (hbel.trans (hb4.mono hbel.size)).setCell (p := ⟨w3.heap.size, 1, none⟩) (Nat.le_refl _) _, by have := hb4.size; simp; omega⟩
            case measure => simp [intOf]
        · obtain ⟨b, off, p, rfl, hb0, hp0, hc0⟩ := rds_cell (rd_below HRD.out hbel) (k := 2) (by simp)
          cases hp0
          obtain ⟨a0, a1, a2, af⟩ := id harr
          have af0 := af 2
          simp at a0 a1 a2
          generalize (⟨p2.toArray⟩ : ByteArray) = t0 at *
          cases i2
          · have HR : Hid (R = none) := by have h := HPP.out; rw [if_neg (fun h => by simpa using h.1)] at h; exact h
            go_wp2_with (go_at_call 34; refine (nz _).mono ?_; rintro e w4 ⟨rfl, hb4⟩; have hR4 := room_below hRr' (by omega) hb4; obtain ⟨⟨k0, k1, k2, k3, k4⟩, kf⟩ := id hR4; have f0 := kf 0; have f1 := kf 1; have f2 := kf 2; have f3 := kf 3; have f4 := kf 4)
            have hput := room_put hR4 (.int .i64 0) (.int .i64 0) (.int .i64 0) (.string ⟨#[]⟩) (.string ⟨#[]⟩)
            refine bodyPost_ret (parse_res _ _ w.heap.size rfl hput.1) rfl ?_
            rw [HR.out]
            refine ⟨rfl, ?_⟩
            have hB4 := (hbB.trans (hbel.mono hbB.size)).trans (hb4.mono (Nat.le_trans hbB.size hbel.size))
            go_grown
          · go_wp2_with (go_at_call 34; refine (nz _).mono ?_; rintro e w4 ⟨rfl, hb4⟩; have hA4 := arr_below harr hlt hb4; obtain ⟨a0, a1, a2, af⟩ := id hA4; have af0 := af 2; simp at a0 a1 a2)
            go_roundw
            case rel => exact ⟨3, by omega, rfl, by simpa using arr_set2 hA4 (n2 : Int), by simp [q0], by simp [q1], by simp, (hbel.trans (hb4.mono hbel.size)).setCell (p := ⟨w3.heap.size, 2, none⟩) (Nat.le_refl _) _, by have := hb4.size; simp; omega⟩
            case measure => simp [intOf]
        · obtain ⟨a0, a1, a2, af⟩ := id harr
          simp at a0 a1 a2
          have hRv' := room_below hRv (by omega) hbel
          obtain ⟨⟨v0, v1, v2, v3, v4⟩, vf⟩ := id hRv'
          have g0 := vf 0
          have g1 := vf 1
          have g2 := vf 2
          clear nx ny nz k0 k1 k2 k3 k4 f0 f1 f2 f3 f4 kf
          obtain rfl := q0 (by omega)
          obtain rfl := q1 (by omega)
          obtain rfl := q2 (by omega)
          clear q0 q1 q2
          have hRr3 := room_other (room_other (room_other hRr' (b' := w.heap.size + 1) (o := 0) (by omega) (.int .i64 n0)) (b' := w.heap.size + 1) (o := 1) (by omega) (.int .i64 n1)) (b' := w.heap.size + 1) (o := 2) (by omega) (.int .i64 n2)
          have hRv3 := room_set012 hRv' (.int .i64 n0) (.int .i64 n1) (.int .i64 n2)
          have hB3 := (((hbB.trans (hbel.mono hbB.size)).setCell (p := ⟨w.heap.size + 1, 0, none⟩) (by simp) (.int .i64 n0)).setCell (p := ⟨w.heap.size + 1, 1, none⟩) (by simp) (.int .i64 n1)).setCell (p := ⟨w.heap.size + 1, 2, none⟩) (by simp) (.int .i64 n2)
          have hz3 : w.heap.size + 2 ≤ (((wr.setCell ⟨w.heap.size + 1, 0, none⟩ (.int .i64 n0)).setCell ⟨w.heap.size + 1, 1, none⟩ (.int .i64 n1)).setCell ⟨w.heap.size + 1, 2, none⟩ (.int .i64 n2)).heap.size := by simp; omega
          go_wp2_with fail
          go_region
          have hRr4 : Room (World.drew (((wr.setCell ⟨w.heap.size + 1, 0, none⟩ (.int .i64 n0)).setCell ⟨w.heap.size + 1, 1, none⟩ (.int .i64 n1)).setCell ⟨w.heap.size + 1, 2, none⟩ (.int .i64 n2))) w.heap.size (.int .i64 0) (.int .i64 0) (.int .i64 0) (.string ⟨#[]⟩) (.string ⟨#[]⟩) := hRr3
          have hRv4 : Room (World.drew (((wr.setCell ⟨w.heap.size + 1, 0, none⟩ (.int .i64 n0)).setCell ⟨w.heap.size + 1, 1, none⟩ (.int .i64 n1)).setCell ⟨w.heap.size + 1, 2, none⟩ (.int .i64 n2))) (w.heap.size + 1) (.int .i64 n0) (.int .i64 n1) (.int .i64 n2) (.string x2) (.string x) := hRv3
          have hB4 : Below w.heap.size w (World.drew (((wr.setCell ⟨w.heap.size + 1, 0, none⟩ (.int .i64 n0)).setCell ⟨w.heap.size + 1, 1, none⟩ (.int .i64 n1)).setCell ⟨w.heap.size + 1, 2, none⟩ (.int .i64 n2))) := below_drewN hB3 1
          have hz4 : w.heap.size + 2 ≤ (World.drew (((wr.setCell ⟨w.heap.size + 1, 0, none⟩ (.int .i64 n0)).setCell ⟨w.heap.size + 1, 1, none⟩ (.int .i64 n1)).setCell ⟨w.heap.size + 1, 2, none⟩ (.int .i64 n2))).heap.size := hz3
          clear v0 v1 v2 v3 v4 vf g0 g1 g2 a0 a1 a2 af harr hRv' hRr3 hRv3 hB3 hz3 hRr'
          generalize (World.drew (((wr.setCell ⟨w.heap.size + 1, 0, none⟩ (.int .i64 n0)).setCell ⟨w.heap.size + 1, 1, none⟩ (.int .i64 n1)).setCell ⟨w.heap.size + 1, 2, none⟩ (.int .i64 n2))) = W4 at *
          clear hbel hlt
          have hmay := fun W => may_any n0 n1 n2 x2 x W (by omega) (by omega)
          have hprint := fun W hT => print_any n0 n1 n2 x2 x W hT (by omega) (by omega)
          have HTB : Hid (∀ W : World, Below w.heap.size w W → Tab W) := fun W hW => tab_below HT.out hW
          have HPV : Hid (verS n0 n1 n2 x2 x = ⟨n0, n1, n2, x2.data.toList, x.data.toList⟩) := rfl
          obtain ⟨⟨v0, v1, v2, v3, v4⟩, vf⟩ := id hRv4
          rw [← HPV.out] at HPP
          cases hm : mayV (verS n0 n1 n2 x2 x)
          · have HR : Hid (R = none) := by have h := HPP.out; rw [if_neg (fun h => by rw [hm] at h; simp at h)] at h; exact h
            rw [hm] at hmay
            go_wp2_with (go_at_call 17; refine (hmay _).mono ?_; rintro e w5 ⟨rfl, hb5⟩; have hR5 := room_below hRr4 (by omega) hb5; obtain ⟨⟨k0, k1, k2, k3, k4⟩, kf⟩ := id hR5; have f0 := kf 0; have f1 := kf 1; have f2 := kf 2; have f3 := kf 3; have f4 := kf 4)
            have hput := room_put hR5 (.int .i64 0) (.int .i64 0) (.int .i64 0) (.string ⟨#[]⟩) (.string ⟨#[]⟩)
            refine bodyPost_ret (parse_res _ _ w.heap.size rfl hput.1) rfl ?_
            rw [HR.out]
            refine ⟨rfl, ?_⟩
            have hB5 := hB4.trans (hb5.mono hB4.size)
            go_grown
          · rw [hm] at hmay
            by_cases hpr : printV (verS n0 n1 n2 x2 x) = s.data.toList
            · have HR : Hid (parseVal R = .tuple #[.agg #[.int .i64 n0, .int .i64 n1, .int .i64 n2, .string x2, .string x], .int .i64 0]) := by
                have h1 := HPP.out
                rw [if_pos ⟨by simp, hm, hpr⟩] at h1
                rw [h1, HPV.out]
                show Value.tuple #[.agg #[_, _, _, .string ⟨x2.data.toList.toArray⟩, .string ⟨x.data.toList.toArray⟩], _] = _
                rw [back, back]
              have heq : ((⟨(printV (verS n0 n1 n2 x2 x)).toArray⟩ : ByteArray).toList == s.toList) = true := by rw [hpr, back]; simp
              generalize (⟨(printV (verS n0 n1 n2 x2 x)).toArray⟩ : ByteArray) = PV at *
              clear HPP hpr HPV hm
              go_wp2_with fail
              refine (hmay _).mono ?_
              rintro e w5 ⟨rfl, hb5⟩
              have hR5 := room_below hRr4 (by omega) hb5
              have hV5 := room_below hRv4 (by omega) hb5
              have hB5 := hB4.trans (hb5.mono hB4.size)
              have hz5 := Nat.le_trans hz4 hb5.size
              clear hRr4 hRv4 hB4 hz4 hb5 v0 v1 v2 v3 v4 vf
              obtain ⟨⟨v0, v1, v2, v3, v4⟩, vf⟩ := id hV5
              go_wp2_with fail
              refine (hprint _ (HTB.out _ hB5)).mono ?_
              rintro e w6 ⟨rfl, hb6⟩
              have hR6 := room_below hR5 (by omega) hb6
              have hV6 := room_below hV5 (by omega) hb6
              have hB6 := hB5.trans (hb6.mono hB5.size)
              have hz6 := Nat.le_trans hz5 hb6.size
              clear hR5 hV5 hB5 hz5 hb6 v0 v1 v2 v3 v4 vf
              obtain ⟨⟨v0, v1, v2, v3, v4⟩, vf⟩ := id hV6
              obtain ⟨⟨k0, k1, k2, k3, k4⟩, kf⟩ := id hR6
              have f0 := kf 0
              have f1 := kf 1
              have f2 := kf 2
              have f3 := kf 3
              have f4 := kf 4
              go_wp2_with fail
              have hput := room_put hR6 (.int .i64 n0) (.int .i64 n1) (.int .i64 n2) (.string x2) (.string x)
              refine bodyPost_ret (parse_res _ _ w.heap.size rfl hput.1) rfl ?_
              rw [HR.out]
              refine ⟨rfl, ?_⟩
              go_grown
            · have HR : Hid (R = none) := by have h := HPP.out; rw [if_neg (fun h => hpr h.2.2)] at h; exact h
              have heq : ((⟨(printV (verS n0 n1 n2 x2 x)).toArray⟩ : ByteArray).toList == s.toList) = false := by
                rw [Lib.toList_data, Lib.toList_data]
                simpa using hpr
              generalize (⟨(printV (verS n0 n1 n2 x2 x)).toArray⟩ : ByteArray) = PV at *
              clear HPP hpr HPV hm
              go_wp2_with fail
              refine (hmay _).mono ?_
              rintro e w5 ⟨rfl, hb5⟩
              have hR5 := room_below hRr4 (by omega) hb5
              have hV5 := room_below hRv4 (by omega) hb5
              have hB5 := hB4.trans (hb5.mono hB4.size)
              have hz5 := Nat.le_trans hz4 hb5.size
              clear hRr4 hRv4 hB4 hz4 hb5 v0 v1 v2 v3 v4 vf
              obtain ⟨⟨v0, v1, v2, v3, v4⟩, vf⟩ := id hV5
              go_wp2_with fail
              refine (hprint _ (HTB.out _ hB5)).mono ?_
              rintro e w6 ⟨rfl, hb6⟩
              have hR6 := room_below hR5 (by omega) hb6
              have hB6 := hB5.trans (hb6.mono hB5.size)
              clear hR5 hV5 hB5 hz5 hb6 v0 v1 v2 v3 v4 vf
              obtain ⟨⟨k0, k1, k2, k3, k4⟩, kf⟩ := id hR6
              have f0 := kf 0
              have f1 := kf 1
              have f2 := kf 2
              have f3 := kf 3
              have f4 := kf 4
              go_wp2_with fail
              have hput := room_put hR6 (.int .i64 0) (.int .i64 0) (.int .i64 0) (.string ⟨#[]⟩) (.string ⟨#[]⟩)
              refine bodyPost_ret (parse_res _ _ w.heap.size rfl hput.1) rfl ?_
              rw [HR.out]
              refine ⟨rfl, ?_⟩
              go_grown
  · have HR : Hid (R = none) := by have h := HPP.out; rw [three_other h3, if_neg (fun h => by simpa using h.1)] at h; exact h
    clear HPP
    have h3b : ((ps.length : Int) == 3) = false := by simp; omega
    have h3c : ((ps.length : Int) != 3) = true := by simp; omega
    generalize ps.length = n at *
    obtain ⟨⟨k0, k1, k2, k3, k4⟩, kf⟩ := id hRr
    have f0 := kf 0
    have f1 := kf 1
    have f2 := kf 2
    have f3 := kf 3
    have f4 := kf 4
    go_wp2_with fail
    have hput := room_put hRr (.int .i64 0) (.int .i64 0) (.int .i64 0) (.string ⟨#[]⟩) (.string ⟨#[]⟩)
    refine bodyPost_ret (parse_res _ _ w.heap.size rfl hput.1) rfl ?_
    rw [HR.out]
    refine ⟨rfl, ?_⟩
    go_grown
end Go.Proofs.YtabcpbmnemfnbaaDoor
