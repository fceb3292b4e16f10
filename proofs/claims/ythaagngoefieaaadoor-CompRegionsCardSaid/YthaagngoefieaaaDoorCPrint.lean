/-
  The walk of chapter 6's Print, the program's. Conditions: Pre and Build have at most 1048576 bytes; strconv's table reads as it is laid.
-/
import Derived.Test.YthaagngoefieaaaDoorG3
namespace Go.Proofs.YthaagngoefieaaaDoor
open Go.ChangeShapes Go.WideShapes Go.ChangeAt Go.RowKit
set_option linter.unusedVariables false
set_option linter.unusedSimpArgs false

theorem printC_no {c : Cmp} (h : mayC c = false) : printC c = [] := by unfold printC; rw [h]; rfl
theorem printC_yes {c : Cmp} (h : mayC c = true) : printC c = if c.op = 9 then starC c else signL c.op ++ bodyC c := by unfold printC; rw [h]; rfl
theorem keepP {w W W' : World} {B : Nat} {x0 x1 x5 y0 y1 y2 : Value} (hb : Below W.heap.size W W')
    (h : W.cell? ⟨w.heap.size, 0, none⟩ = some x0 ∧ W.cell? ⟨w.heap.size, 1, none⟩ = some x1 ∧ W.cell? ⟨w.heap.size, 5, none⟩ = some x5 ∧ W.cell? ⟨B, 0, none⟩ = some y0 ∧ W.cell? ⟨B, 1, none⟩ = some y1 ∧ W.cell? ⟨B, 2, none⟩ = some y2 ∧ w.heap.size < W.heap.size ∧ B < W.heap.size ∧ Below w.heap.size w W) :
    W'.cell? ⟨w.heap.size, 0, none⟩ = some x0 ∧ W'.cell? ⟨w.heap.size, 1, none⟩ = some x1 ∧ W'.cell? ⟨w.heap.size, 5, none⟩ = some x5 ∧ W'.cell? ⟨B, 0, none⟩ = some y0 ∧ W'.cell? ⟨B, 1, none⟩ = some y1 ∧ W'.cell? ⟨B, 2, none⟩ = some y2 ∧ w.heap.size < W'.heap.size ∧ B < W'.heap.size ∧ Below w.heap.size w W' := by
  obtain ⟨h0, h1, h5, g0, g1, g2, hlt, hlB, hB⟩ := h
  exact ⟨(hb.cell (p := ⟨_, 0, none⟩) hlt).trans h0, (hb.cell (p := ⟨_, 1, none⟩) hlt).trans h1, (hb.cell (p := ⟨_, 5, none⟩) hlt).trans h5, (hb.cell (p := ⟨B, 0, none⟩) hlB).trans g0, (hb.cell (p := ⟨B, 1, none⟩) hlB).trans g1, (hb.cell (p := ⟨B, 2, none⟩) hlB).trans g2, Nat.lt_of_lt_of_le hlt hb.size, Nat.lt_of_lt_of_le hlB hb.size, hB.trans (hb.mono hB.size)⟩

theorem sign_size (op : Int) : (signS op).size ≤ 2 := by
  unfold signS
  rw [str_size]
  unfold signL
  split
  · simp
  all_goals (split <;> try simp)
  all_goals (split <;> try simp)
  all_goals (split <;> try simp)
  all_goals (split <;> try simp)
  all_goals (split <;> try simp)
  all_goals (split <;> try simp)
  all_goals (split <;> try simp)
theorem sign_list (op : Int) : (signS op).data.toList = signL op := rfl

theorem keepA {w w1 : World} {x0 x1 x5 : Value} (h0 : w1.cell? ⟨w.heap.size, 0, none⟩ = some x0) (h1 : w1.cell? ⟨w.heap.size, 1, none⟩ = some x1) (h5 : w1.cell? ⟨w.heap.size, 5, none⟩ = some x5) (hlt : w.heap.size < w1.heap.size) (hB : Below w.heap.size w w1) (y0 y1 y2 : Value) (t : TypeId) :
    (w1.alloc (.cells #[y0, y1, y2] t)).cell? ⟨w.heap.size, 0, none⟩ = some x0 ∧ (w1.alloc (.cells #[y0, y1, y2] t)).cell? ⟨w.heap.size, 1, none⟩ = some x1 ∧ (w1.alloc (.cells #[y0, y1, y2] t)).cell? ⟨w.heap.size, 5, none⟩ = some x5 ∧ (w1.alloc (.cells #[y0, y1, y2] t)).cell? ⟨w1.heap.size, 0, none⟩ = some y0 ∧ (w1.alloc (.cells #[y0, y1, y2] t)).cell? ⟨w1.heap.size, 1, none⟩ = some y1 ∧ (w1.alloc (.cells #[y0, y1, y2] t)).cell? ⟨w1.heap.size, 2, none⟩ = some y2 ∧ w.heap.size < (w1.alloc (.cells #[y0, y1, y2] t)).heap.size ∧ w1.heap.size < (w1.alloc (.cells #[y0, y1, y2] t)).heap.size ∧ Below w.heap.size w (w1.alloc (.cells #[y0, y1, y2] t)) := by
  have hb := box_below w1 (.cells #[y0, y1, y2] t)
  have hc := cells_below (cells_new w1 [y0, y1, y2] t) (Nat.lt_succ_self _) (by simpa using Below.refl _ _)
  refine ⟨(hb.cell (p := ⟨_, 0, none⟩) hlt).trans h0, (hb.cell (p := ⟨_, 1, none⟩) hlt).trans h1, (hb.cell (p := ⟨_, 5, none⟩) hlt).trans h5, hc 0 _ rfl, hc 1 _ rfl, hc 2 _ rfl, ?_, ?_, hB.trans (hb.mono hB.size)⟩
  · simp; omega
  · simp

set_option maxHeartbeats 4000000 in
theorem cprint_star0 (a b c : Int) (p q : ByteArray) (w : World) (hT : Tab w) (hp0 : p.size = 0) (hq : q.size ≤ 1048576) (hm : mayC (cmpS 9 0 a b c p q) = true) :
    Calls Tryd.prog 14 #[cvV 9 0 a b c p q] w fun e w' => e = .returned (.string ⟨(printC (cmpS 9 0 a b c p q)).toArray⟩) ∧ Below w.heap.size w w' := by
  have hmay := fun W => cmay_any 9 0 a b c p q W (by omega) hq
  have hR := Lib.hid (printC_yes hm)
  obtain ⟨-, hv, -⟩ := may_c hm
  obtain ⟨⟨ha0, ha1⟩, ⟨hb0, hb1⟩, ⟨hc0, hc1⟩⟩ := may_parts hv
  simp only [cmpS, verS] at ha0 ha1 hb0 hb1 hc0 hc1
  rw [hm] at hmay
  clear hv hm
  generalize printC (cmpS 9 0 a b c p q) = R at *
  unfold cvV at *
  have HT := Lib.hid hT
  clear hT
  obtain ⟨dg, hdg⟩ : ∃ dg : Int → ByteArray, dg = fun n => ⟨(Lib.itoa n).toArray⟩ := ⟨_, rfl⟩
  have hd : ∀ (n : Int) (W : World), 0 ≤ n → n ≤ 9999 → Below w.heap.size w W → Calls Tryd.prog 40 #[.int .i64 n] W fun e w' => e = .returned (.string (dg n)) ∧ Below W.heap.size W w' := by
    subst hdg
    exact fun n W h0 h1 hW => digits_any n W (by omega) (by omega) (tab_below HT.out hW)
  have hsz : ∀ n : Int, 0 ≤ n → n ≤ 9999 → (dg n).size ≤ 20 := by
    subst hdg
    intro n h0 h1
    show (⟨(Lib.itoa n).toArray⟩ : ByteArray).size ≤ 20
    rw [str_size]
    exact itoa_len h0 h1
  have hsa := hsz a ha0 ha1
  have hsb := hsz b hb0 hb1
  have hsc := hsz c hc0 hc1
  clear hsz
  have HDG := Lib.hid hdg
  clear hdg
  have he1 := empty_str p hp0
  have hss := sign_size 9
  have hcs := fun W => sign_any 9 W
  have HS := Lib.hid (sign_list 9)
  generalize signS 9 = sg at *
  have o1 : ¬ 9223372036854775807 < sg.size + 1 := by omega
  have o2 : ¬ 9223372036854775807 < sg.size + 1 := by omega
  have o3 : ¬ 9223372036854775807 < sg.size + 1 + 1 := by omega
  go_enter Tryd.func14, Tryd.ntmps14
  go_wp2_with (first
    | (go_at_call 15; refine (hmay _).mono ?_; rintro e w1 ⟨rfl, hbm⟩; obtain ⟨k0, k1, k2, k3, k4, k5, k6⟩ := cells7 w _ _ _ _ _ _ _ _ (by simpa using hbm); have hB1 := (box_below w _).trans (hbm.mono (by simp)); have hlt1 : w.heap.size < w1.heap.size := (by have := hbm.size; simp at this; omega); clear hbm)
    | (go_at_call 39; refine (hcs _).mono ?_; rintro e w2 ⟨rfl, rfl⟩)
    | (go_at_call 40; refine (hd _ _ (by assumption) (by assumption) (by go_grown)).mono ?_; rintro e w' ⟨rfl, hb'⟩; obtain ⟨k0', k1', k5', j0', j1', j2', hlt', hltB', hBb'⟩ := keepP (w := w) (B := B) hb' ⟨by assumption, by assumption, by assumption, by assumption, by assumption, by assumption, by assumption, by assumption, by assumption⟩; clear hb'))
  obtain ⟨k0, k1, k5, j0, j1, j2, hlt, hltB, hBb⟩ := keepA k0 k1 k5 hlt1 hB1 (.int .i64 a) (.int .i64 b) (.int .i64 c) 3
  clear hlt1 hB1 k2 k3 k4 k6
  generalize w1.alloc _ = W1 at *
  generalize w1.heap.size = B at *
  refine wp_loop_rounds 1 ?_
  rw [rounds_succ]
  go_wp2_with (first
    | (go_at_call 15; refine (hmay _).mono ?_; rintro e w1 ⟨rfl, hbm⟩; obtain ⟨k0, k1, k2, k3, k4, k5, k6⟩ := cells7 w _ _ _ _ _ _ _ _ (by simpa using hbm); have hB1 := (box_below w _).trans (hbm.mono (by simp)); have hlt1 : w.heap.size < w1.heap.size := (by have := hbm.size; simp at this; omega); clear hbm)
    | (go_at_call 39; refine (hcs _).mono ?_; rintro e w2 ⟨rfl, rfl⟩)
    | (go_at_call 40; refine (hd _ _ (by assumption) (by assumption) (by go_grown)).mono ?_; rintro e w' ⟨rfl, hb'⟩; obtain ⟨k0', k1', k5', j0', j1', j2', hlt', hltB', hBb'⟩ := keepP (w := w) (B := B) hb' ⟨by assumption, by assumption, by assumption, by assumption, by assumption, by assumption, by assumption, by assumption, by assumption⟩; clear hb'))
  go_ret
  refine ⟨str_ext ?_, by assumption⟩
  rw [hR.out]
  have HS := HS.out
  have HDG := HDG.out
  subst HDG
  simp only [app_list, HS]
  simp [cmpS, verS, starC, bodyC, toldL, joinL, signL, seg_no 45 hp0]

set_option maxHeartbeats 4000000 in
theorem cprint_star1 (a b c : Int) (p q : ByteArray) (w : World) (hT : Tab w) (hp0 : p.size = 0) (hq : q.size ≤ 1048576) (hm : mayC (cmpS 9 1 a b c p q) = true) :
    Calls Tryd.prog 14 #[cvV 9 1 a b c p q] w fun e w' => e = .returned (.string ⟨(printC (cmpS 9 1 a b c p q)).toArray⟩) ∧ Below w.heap.size w w' := by
  have hmay := fun W => cmay_any 9 1 a b c p q W (by omega) hq
  have hR := Lib.hid (printC_yes hm)
  obtain ⟨-, hv, -⟩ := may_c hm
  obtain ⟨⟨ha0, ha1⟩, ⟨hb0, hb1⟩, ⟨hc0, hc1⟩⟩ := may_parts hv
  simp only [cmpS, verS] at ha0 ha1 hb0 hb1 hc0 hc1
  rw [hm] at hmay
  clear hv hm
  generalize printC (cmpS 9 1 a b c p q) = R at *
  unfold cvV at *
  have HT := Lib.hid hT
  clear hT
  obtain ⟨dg, hdg⟩ : ∃ dg : Int → ByteArray, dg = fun n => ⟨(Lib.itoa n).toArray⟩ := ⟨_, rfl⟩
  have hd : ∀ (n : Int) (W : World), 0 ≤ n → n ≤ 9999 → Below w.heap.size w W → Calls Tryd.prog 40 #[.int .i64 n] W fun e w' => e = .returned (.string (dg n)) ∧ Below W.heap.size W w' := by
    subst hdg
    exact fun n W h0 h1 hW => digits_any n W (by omega) (by omega) (tab_below HT.out hW)
  have hsz : ∀ n : Int, 0 ≤ n → n ≤ 9999 → (dg n).size ≤ 20 := by
    subst hdg
    intro n h0 h1
    show (⟨(Lib.itoa n).toArray⟩ : ByteArray).size ≤ 20
    rw [str_size]
    exact itoa_len h0 h1
  have hsa := hsz a ha0 ha1
  have hsb := hsz b hb0 hb1
  have hsc := hsz c hc0 hc1
  clear hsz
  have HDG := Lib.hid hdg
  clear hdg
  have he1 := empty_str p hp0
  have hss := sign_size 9
  have hcs := fun W => sign_any 9 W
  have HS := Lib.hid (sign_list 9)
  generalize signS 9 = sg at *
  have o1 : ¬ 9223372036854775807 < sg.size + (dg a).size := by omega
  have o2 : ¬ 9223372036854775807 < sg.size + (dg a).size + 1 := by omega
  have o3 : ¬ 9223372036854775807 < sg.size + (dg a).size + 1 + 1 := by omega
  go_enter Tryd.func14, Tryd.ntmps14
  go_wp2_with (first
    | (go_at_call 15; refine (hmay _).mono ?_; rintro e w1 ⟨rfl, hbm⟩; obtain ⟨k0, k1, k2, k3, k4, k5, k6⟩ := cells7 w _ _ _ _ _ _ _ _ (by simpa using hbm); have hB1 := (box_below w _).trans (hbm.mono (by simp)); have hlt1 : w.heap.size < w1.heap.size := (by have := hbm.size; simp at this; omega); clear hbm)
    | (go_at_call 39; refine (hcs _).mono ?_; rintro e w2 ⟨rfl, rfl⟩)
    | (go_at_call 40; refine (hd _ _ (by assumption) (by assumption) (by go_grown)).mono ?_; rintro e w' ⟨rfl, hb'⟩; obtain ⟨k0', k1', k5', j0', j1', j2', hlt', hltB', hBb'⟩ := keepP (w := w) (B := B) hb' ⟨by assumption, by assumption, by assumption, by assumption, by assumption, by assumption, by assumption, by assumption, by assumption⟩; clear hb'))
  obtain ⟨k0, k1, k5, j0, j1, j2, hlt, hltB, hBb⟩ := keepA k0 k1 k5 hlt1 hB1 (.int .i64 a) (.int .i64 b) (.int .i64 c) 3
  clear hlt1 hB1 k2 k3 k4 k6
  generalize w1.alloc _ = W1 at *
  generalize w1.heap.size = B at *
  refine wp_loop_rounds 2 ?_
  rw [rounds_succ]
  go_wp2_with (first
    | (go_at_call 15; refine (hmay _).mono ?_; rintro e w1 ⟨rfl, hbm⟩; obtain ⟨k0, k1, k2, k3, k4, k5, k6⟩ := cells7 w _ _ _ _ _ _ _ _ (by simpa using hbm); have hB1 := (box_below w _).trans (hbm.mono (by simp)); have hlt1 : w.heap.size < w1.heap.size := (by have := hbm.size; simp at this; omega); clear hbm)
    | (go_at_call 39; refine (hcs _).mono ?_; rintro e w2 ⟨rfl, rfl⟩)
    | (go_at_call 40; refine (hd _ _ (by assumption) (by assumption) (by go_grown)).mono ?_; rintro e w' ⟨rfl, hb'⟩; obtain ⟨k0', k1', k5', j0', j1', j2', hlt', hltB', hBb'⟩ := keepP (w := w) (B := B) hb' ⟨by assumption, by assumption, by assumption, by assumption, by assumption, by assumption, by assumption, by assumption, by assumption⟩; clear hb'))
  rw [rounds_succ]
  go_wp2_with (first
    | (go_at_call 15; refine (hmay _).mono ?_; rintro e w1 ⟨rfl, hbm⟩; obtain ⟨k0, k1, k2, k3, k4, k5, k6⟩ := cells7 w _ _ _ _ _ _ _ _ (by simpa using hbm); have hB1 := (box_below w _).trans (hbm.mono (by simp)); have hlt1 : w.heap.size < w1.heap.size := (by have := hbm.size; simp at this; omega); clear hbm)
    | (go_at_call 39; refine (hcs _).mono ?_; rintro e w2 ⟨rfl, rfl⟩)
    | (go_at_call 40; refine (hd _ _ (by assumption) (by assumption) (by go_grown)).mono ?_; rintro e w' ⟨rfl, hb'⟩; obtain ⟨k0', k1', k5', j0', j1', j2', hlt', hltB', hBb'⟩ := keepP (w := w) (B := B) hb' ⟨by assumption, by assumption, by assumption, by assumption, by assumption, by assumption, by assumption, by assumption, by assumption⟩; clear hb'))
  go_ret
  refine ⟨str_ext ?_, by assumption⟩
  rw [hR.out]
  have HS := HS.out
  have HDG := HDG.out
  subst HDG
  simp only [app_list, HS]
  simp [cmpS, verS, starC, bodyC, toldL, joinL, signL, seg_no 45 hp0]

set_option maxHeartbeats 4000000 in
theorem cprint_star2 (a b c : Int) (p q : ByteArray) (w : World) (hT : Tab w) (hp0 : p.size = 0) (hq : q.size ≤ 1048576) (hm : mayC (cmpS 9 2 a b c p q) = true) :
    Calls Tryd.prog 14 #[cvV 9 2 a b c p q] w fun e w' => e = .returned (.string ⟨(printC (cmpS 9 2 a b c p q)).toArray⟩) ∧ Below w.heap.size w w' := by
  have hmay := fun W => cmay_any 9 2 a b c p q W (by omega) hq
  have hR := Lib.hid (printC_yes hm)
  obtain ⟨-, hv, -⟩ := may_c hm
  obtain ⟨⟨ha0, ha1⟩, ⟨hb0, hb1⟩, ⟨hc0, hc1⟩⟩ := may_parts hv
  simp only [cmpS, verS] at ha0 ha1 hb0 hb1 hc0 hc1
  rw [hm] at hmay
  clear hv hm
  generalize printC (cmpS 9 2 a b c p q) = R at *
  unfold cvV at *
  have HT := Lib.hid hT
  clear hT
  obtain ⟨dg, hdg⟩ : ∃ dg : Int → ByteArray, dg = fun n => ⟨(Lib.itoa n).toArray⟩ := ⟨_, rfl⟩
  have hd : ∀ (n : Int) (W : World), 0 ≤ n → n ≤ 9999 → Below w.heap.size w W → Calls Tryd.prog 40 #[.int .i64 n] W fun e w' => e = .returned (.string (dg n)) ∧ Below W.heap.size W w' := by
    subst hdg
    exact fun n W h0 h1 hW => digits_any n W (by omega) (by omega) (tab_below HT.out hW)
  have hsz : ∀ n : Int, 0 ≤ n → n ≤ 9999 → (dg n).size ≤ 20 := by
    subst hdg
    intro n h0 h1
    show (⟨(Lib.itoa n).toArray⟩ : ByteArray).size ≤ 20
    rw [str_size]
    exact itoa_len h0 h1
  have hsa := hsz a ha0 ha1
  have hsb := hsz b hb0 hb1
  have hsc := hsz c hc0 hc1
  clear hsz
  have HDG := Lib.hid hdg
  clear hdg
  have he1 := empty_str p hp0
  have hss := sign_size 9
  have hcs := fun W => sign_any 9 W
  have HS := Lib.hid (sign_list 9)
  generalize signS 9 = sg at *
  have o1 : ¬ 9223372036854775807 < sg.size + (dg a).size := by omega
  have o2 : ¬ 9223372036854775807 < sg.size + (dg a).size + 1 := by omega
  have o3 : ¬ 9223372036854775807 < sg.size + (dg a).size + 1 + (dg b).size := by omega
  have o4 : ¬ 9223372036854775807 < sg.size + (dg a).size + 1 + (dg b).size + 1 := by omega
  have o5 : ¬ 9223372036854775807 < sg.size + (dg a).size + 1 + (dg b).size + 1 + 1 := by omega
  go_enter Tryd.func14, Tryd.ntmps14
  go_wp2_with (first
    | (go_at_call 15; refine (hmay _).mono ?_; rintro e w1 ⟨rfl, hbm⟩; obtain ⟨k0, k1, k2, k3, k4, k5, k6⟩ := cells7 w _ _ _ _ _ _ _ _ (by simpa using hbm); have hB1 := (box_below w _).trans (hbm.mono (by simp)); have hlt1 : w.heap.size < w1.heap.size := (by have := hbm.size; simp at this; omega); clear hbm)
    | (go_at_call 39; refine (hcs _).mono ?_; rintro e w2 ⟨rfl, rfl⟩)
    | (go_at_call 40; refine (hd _ _ (by assumption) (by assumption) (by go_grown)).mono ?_; rintro e w' ⟨rfl, hb'⟩; obtain ⟨k0', k1', k5', j0', j1', j2', hlt', hltB', hBb'⟩ := keepP (w := w) (B := B) hb' ⟨by assumption, by assumption, by assumption, by assumption, by assumption, by assumption, by assumption, by assumption, by assumption⟩; clear hb'))
  obtain ⟨k0, k1, k5, j0, j1, j2, hlt, hltB, hBb⟩ := keepA k0 k1 k5 hlt1 hB1 (.int .i64 a) (.int .i64 b) (.int .i64 c) 3
  clear hlt1 hB1 k2 k3 k4 k6
  generalize w1.alloc _ = W1 at *
  generalize w1.heap.size = B at *
  refine wp_loop_rounds 3 ?_
  rw [rounds_succ]
  go_wp2_with (first
    | (go_at_call 15; refine (hmay _).mono ?_; rintro e w1 ⟨rfl, hbm⟩; obtain ⟨k0, k1, k2, k3, k4, k5, k6⟩ := cells7 w _ _ _ _ _ _ _ _ (by simpa using hbm); have hB1 := (box_below w _).trans (hbm.mono (by simp)); have hlt1 : w.heap.size < w1.heap.size := (by have := hbm.size; simp at this; omega); clear hbm)
    | (go_at_call 39; refine (hcs _).mono ?_; rintro e w2 ⟨rfl, rfl⟩)
    | (go_at_call 40; refine (hd _ _ (by assumption) (by assumption) (by go_grown)).mono ?_; rintro e w' ⟨rfl, hb'⟩; obtain ⟨k0', k1', k5', j0', j1', j2', hlt', hltB', hBb'⟩ := keepP (w := w) (B := B) hb' ⟨by assumption, by assumption, by assumption, by assumption, by assumption, by assumption, by assumption, by assumption, by assumption⟩; clear hb'))
  rw [rounds_succ]
  go_wp2_with (first
    | (go_at_call 15; refine (hmay _).mono ?_; rintro e w1 ⟨rfl, hbm⟩; obtain ⟨k0, k1, k2, k3, k4, k5, k6⟩ := cells7 w _ _ _ _ _ _ _ _ (by simpa using hbm); have hB1 := (box_below w _).trans (hbm.mono (by simp)); have hlt1 : w.heap.size < w1.heap.size := (by have := hbm.size; simp at this; omega); clear hbm)
    | (go_at_call 39; refine (hcs _).mono ?_; rintro e w2 ⟨rfl, rfl⟩)
    | (go_at_call 40; refine (hd _ _ (by assumption) (by assumption) (by go_grown)).mono ?_; rintro e w' ⟨rfl, hb'⟩; obtain ⟨k0', k1', k5', j0', j1', j2', hlt', hltB', hBb'⟩ := keepP (w := w) (B := B) hb' ⟨by assumption, by assumption, by assumption, by assumption, by assumption, by assumption, by assumption, by assumption, by assumption⟩; clear hb'))
  rw [rounds_succ]
  go_wp2_with (first
    | (go_at_call 15; refine (hmay _).mono ?_; rintro e w1 ⟨rfl, hbm⟩; obtain ⟨k0, k1, k2, k3, k4, k5, k6⟩ := cells7 w _ _ _ _ _ _ _ _ (by simpa using hbm); have hB1 := (box_below w _).trans (hbm.mono (by simp)); have hlt1 : w.heap.size < w1.heap.size := (by have := hbm.size; simp at this; omega); clear hbm)
    | (go_at_call 39; refine (hcs _).mono ?_; rintro e w2 ⟨rfl, rfl⟩)
    | (go_at_call 40; refine (hd _ _ (by assumption) (by assumption) (by go_grown)).mono ?_; rintro e w' ⟨rfl, hb'⟩; obtain ⟨k0', k1', k5', j0', j1', j2', hlt', hltB', hBb'⟩ := keepP (w := w) (B := B) hb' ⟨by assumption, by assumption, by assumption, by assumption, by assumption, by assumption, by assumption, by assumption, by assumption⟩; clear hb'))
  go_ret
  refine ⟨str_ext ?_, by assumption⟩
  rw [hR.out]
  have HS := HS.out
  have HDG := HDG.out
  subst HDG
  simp only [app_list, HS]
  simp [cmpS, verS, starC, bodyC, toldL, joinL, signL, seg_no 45 hp0]

set_option maxHeartbeats 4000000 in
theorem cprint_op1 (op : Int) (a b c : Int) (p q : ByteArray) (w : World) (hT : Tab w) (hop : op ≠ 9) (hp0 : p.size = 0) (hq : q.size ≤ 1048576) (hm : mayC (cmpS op 1 a b c p q) = true) :
    Calls Tryd.prog 14 #[cvV op 1 a b c p q] w fun e w' => e = .returned (.string ⟨(printC (cmpS op 1 a b c p q)).toArray⟩) ∧ Below w.heap.size w w' := by
  have hmay := fun W => cmay_any op 1 a b c p q W (by omega) hq
  have hR := Lib.hid (printC_yes hm)
  obtain ⟨-, hv, -⟩ := may_c hm
  obtain ⟨⟨ha0, ha1⟩, ⟨hb0, hb1⟩, ⟨hc0, hc1⟩⟩ := may_parts hv
  simp only [cmpS, verS] at ha0 ha1 hb0 hb1 hc0 hc1
  rw [hm] at hmay
  clear hv hm
  generalize printC (cmpS op 1 a b c p q) = R at *
  unfold cvV at *
  have HT := Lib.hid hT
  clear hT
  obtain ⟨dg, hdg⟩ : ∃ dg : Int → ByteArray, dg = fun n => ⟨(Lib.itoa n).toArray⟩ := ⟨_, rfl⟩
  have hd : ∀ (n : Int) (W : World), 0 ≤ n → n ≤ 9999 → Below w.heap.size w W → Calls Tryd.prog 40 #[.int .i64 n] W fun e w' => e = .returned (.string (dg n)) ∧ Below W.heap.size W w' := by
    subst hdg
    exact fun n W h0 h1 hW => digits_any n W (by omega) (by omega) (tab_below HT.out hW)
  have hsz : ∀ n : Int, 0 ≤ n → n ≤ 9999 → (dg n).size ≤ 20 := by
    subst hdg
    intro n h0 h1
    show (⟨(Lib.itoa n).toArray⟩ : ByteArray).size ≤ 20
    rw [str_size]
    exact itoa_len h0 h1
  have hsa := hsz a ha0 ha1
  have hsb := hsz b hb0 hb1
  have hsc := hsz c hc0 hc1
  clear hsz
  have HDG := Lib.hid hdg
  clear hdg
  have he1 := empty_str p hp0
  have hop9 : (op == 9) = false := by simpa using hop
  have hss := sign_size op
  have hcs := fun W => sign_any op W
  have HS := Lib.hid (sign_list op)
  generalize signS op = sg at *
  have o1 : ¬ 9223372036854775807 < sg.size + (dg a).size := by omega
  go_enter Tryd.func14, Tryd.ntmps14
  go_wp2_with (first
    | (go_at_call 15; refine (hmay _).mono ?_; rintro e w1 ⟨rfl, hbm⟩; obtain ⟨k0, k1, k2, k3, k4, k5, k6⟩ := cells7 w _ _ _ _ _ _ _ _ (by simpa using hbm); have hB1 := (box_below w _).trans (hbm.mono (by simp)); have hlt1 : w.heap.size < w1.heap.size := (by have := hbm.size; simp at this; omega); clear hbm)
    | (go_at_call 39; refine (hcs _).mono ?_; rintro e w2 ⟨rfl, rfl⟩)
    | (go_at_call 40; refine (hd _ _ (by assumption) (by assumption) (by go_grown)).mono ?_; rintro e w' ⟨rfl, hb'⟩; obtain ⟨k0', k1', k5', j0', j1', j2', hlt', hltB', hBb'⟩ := keepP (w := w) (B := B) hb' ⟨by assumption, by assumption, by assumption, by assumption, by assumption, by assumption, by assumption, by assumption, by assumption⟩; clear hb'))
  obtain ⟨k0, k1, k5, j0, j1, j2, hlt, hltB, hBb⟩ := keepA k0 k1 k5 hlt1 hB1 (.int .i64 a) (.int .i64 b) (.int .i64 c) 3
  clear hlt1 hB1 k2 k3 k4 k6
  generalize w1.alloc _ = W1 at *
  generalize w1.heap.size = B at *
  refine wp_loop_rounds 2 ?_
  rw [rounds_succ]
  go_wp2_with (first
    | (go_at_call 15; refine (hmay _).mono ?_; rintro e w1 ⟨rfl, hbm⟩; obtain ⟨k0, k1, k2, k3, k4, k5, k6⟩ := cells7 w _ _ _ _ _ _ _ _ (by simpa using hbm); have hB1 := (box_below w _).trans (hbm.mono (by simp)); have hlt1 : w.heap.size < w1.heap.size := (by have := hbm.size; simp at this; omega); clear hbm)
    | (go_at_call 39; refine (hcs _).mono ?_; rintro e w2 ⟨rfl, rfl⟩)
    | (go_at_call 40; refine (hd _ _ (by assumption) (by assumption) (by go_grown)).mono ?_; rintro e w' ⟨rfl, hb'⟩; obtain ⟨k0', k1', k5', j0', j1', j2', hlt', hltB', hBb'⟩ := keepP (w := w) (B := B) hb' ⟨by assumption, by assumption, by assumption, by assumption, by assumption, by assumption, by assumption, by assumption, by assumption⟩; clear hb'))
  rw [rounds_succ]
  go_wp2_with (first
    | (go_at_call 15; refine (hmay _).mono ?_; rintro e w1 ⟨rfl, hbm⟩; obtain ⟨k0, k1, k2, k3, k4, k5, k6⟩ := cells7 w _ _ _ _ _ _ _ _ (by simpa using hbm); have hB1 := (box_below w _).trans (hbm.mono (by simp)); have hlt1 : w.heap.size < w1.heap.size := (by have := hbm.size; simp at this; omega); clear hbm)
    | (go_at_call 39; refine (hcs _).mono ?_; rintro e w2 ⟨rfl, rfl⟩)
    | (go_at_call 40; refine (hd _ _ (by assumption) (by assumption) (by go_grown)).mono ?_; rintro e w' ⟨rfl, hb'⟩; obtain ⟨k0', k1', k5', j0', j1', j2', hlt', hltB', hBb'⟩ := keepP (w := w) (B := B) hb' ⟨by assumption, by assumption, by assumption, by assumption, by assumption, by assumption, by assumption, by assumption, by assumption⟩; clear hb'))
  go_ret
  refine ⟨str_ext ?_, by assumption⟩
  rw [hR.out]
  have HS := HS.out
  have HDG := HDG.out
  subst HDG
  simp only [app_list, HS]
  simp [cmpS, verS, starC, bodyC, toldL, joinL, hop, seg_no 45 hp0]

set_option maxHeartbeats 4000000 in
theorem cprint_op2 (op : Int) (a b c : Int) (p q : ByteArray) (w : World) (hT : Tab w) (hop : op ≠ 9) (hp0 : p.size = 0) (hq : q.size ≤ 1048576) (hm : mayC (cmpS op 2 a b c p q) = true) :
    Calls Tryd.prog 14 #[cvV op 2 a b c p q] w fun e w' => e = .returned (.string ⟨(printC (cmpS op 2 a b c p q)).toArray⟩) ∧ Below w.heap.size w w' := by
  have hmay := fun W => cmay_any op 2 a b c p q W (by omega) hq
  have hR := Lib.hid (printC_yes hm)
  obtain ⟨-, hv, -⟩ := may_c hm
  obtain ⟨⟨ha0, ha1⟩, ⟨hb0, hb1⟩, ⟨hc0, hc1⟩⟩ := may_parts hv
  simp only [cmpS, verS] at ha0 ha1 hb0 hb1 hc0 hc1
  rw [hm] at hmay
  clear hv hm
  generalize printC (cmpS op 2 a b c p q) = R at *
  unfold cvV at *
  have HT := Lib.hid hT
  clear hT
  obtain ⟨dg, hdg⟩ : ∃ dg : Int → ByteArray, dg = fun n => ⟨(Lib.itoa n).toArray⟩ := ⟨_, rfl⟩
  have hd : ∀ (n : Int) (W : World), 0 ≤ n → n ≤ 9999 → Below w.heap.size w W → Calls Tryd.prog 40 #[.int .i64 n] W fun e w' => e = .returned (.string (dg n)) ∧ Below W.heap.size W w' := by
    subst hdg
    exact fun n W h0 h1 hW => digits_any n W (by omega) (by omega) (tab_below HT.out hW)
  have hsz : ∀ n : Int, 0 ≤ n → n ≤ 9999 → (dg n).size ≤ 20 := by
    subst hdg
    intro n h0 h1
    show (⟨(Lib.itoa n).toArray⟩ : ByteArray).size ≤ 20
    rw [str_size]
    exact itoa_len h0 h1
  have hsa := hsz a ha0 ha1
  have hsb := hsz b hb0 hb1
  have hsc := hsz c hc0 hc1
  clear hsz
  have HDG := Lib.hid hdg
  clear hdg
  have he1 := empty_str p hp0
  have hop9 : (op == 9) = false := by simpa using hop
  have hss := sign_size op
  have hcs := fun W => sign_any op W
  have HS := Lib.hid (sign_list op)
  generalize signS op = sg at *
  have o1 : ¬ 9223372036854775807 < sg.size + (dg a).size := by omega
  have o2 : ¬ 9223372036854775807 < sg.size + (dg a).size + 1 := by omega
  have o3 : ¬ 9223372036854775807 < sg.size + (dg a).size + 1 + (dg b).size := by omega
  go_enter Tryd.func14, Tryd.ntmps14
  go_wp2_with (first
    | (go_at_call 15; refine (hmay _).mono ?_; rintro e w1 ⟨rfl, hbm⟩; obtain ⟨k0, k1, k2, k3, k4, k5, k6⟩ := cells7 w _ _ _ _ _ _ _ _ (by simpa using hbm); have hB1 := (box_below w _).trans (hbm.mono (by simp)); have hlt1 : w.heap.size < w1.heap.size := (by have := hbm.size; simp at this; omega); clear hbm)
    | (go_at_call 39; refine (hcs _).mono ?_; rintro e w2 ⟨rfl, rfl⟩)
    | (go_at_call 40; refine (hd _ _ (by assumption) (by assumption) (by go_grown)).mono ?_; rintro e w' ⟨rfl, hb'⟩; obtain ⟨k0', k1', k5', j0', j1', j2', hlt', hltB', hBb'⟩ := keepP (w := w) (B := B) hb' ⟨by assumption, by assumption, by assumption, by assumption, by assumption, by assumption, by assumption, by assumption, by assumption⟩; clear hb'))
  obtain ⟨k0, k1, k5, j0, j1, j2, hlt, hltB, hBb⟩ := keepA k0 k1 k5 hlt1 hB1 (.int .i64 a) (.int .i64 b) (.int .i64 c) 3
  clear hlt1 hB1 k2 k3 k4 k6
  generalize w1.alloc _ = W1 at *
  generalize w1.heap.size = B at *
  refine wp_loop_rounds 3 ?_
  rw [rounds_succ]
  go_wp2_with (first
    | (go_at_call 15; refine (hmay _).mono ?_; rintro e w1 ⟨rfl, hbm⟩; obtain ⟨k0, k1, k2, k3, k4, k5, k6⟩ := cells7 w _ _ _ _ _ _ _ _ (by simpa using hbm); have hB1 := (box_below w _).trans (hbm.mono (by simp)); have hlt1 : w.heap.size < w1.heap.size := (by have := hbm.size; simp at this; omega); clear hbm)
    | (go_at_call 39; refine (hcs _).mono ?_; rintro e w2 ⟨rfl, rfl⟩)
    | (go_at_call 40; refine (hd _ _ (by assumption) (by assumption) (by go_grown)).mono ?_; rintro e w' ⟨rfl, hb'⟩; obtain ⟨k0', k1', k5', j0', j1', j2', hlt', hltB', hBb'⟩ := keepP (w := w) (B := B) hb' ⟨by assumption, by assumption, by assumption, by assumption, by assumption, by assumption, by assumption, by assumption, by assumption⟩; clear hb'))
  rw [rounds_succ]
  go_wp2_with (first
    | (go_at_call 15; refine (hmay _).mono ?_; rintro e w1 ⟨rfl, hbm⟩; obtain ⟨k0, k1, k2, k3, k4, k5, k6⟩ := cells7 w _ _ _ _ _ _ _ _ (by simpa using hbm); have hB1 := (box_below w _).trans (hbm.mono (by simp)); have hlt1 : w.heap.size < w1.heap.size := (by have := hbm.size; simp at this; omega); clear hbm)
    | (go_at_call 39; refine (hcs _).mono ?_; rintro e w2 ⟨rfl, rfl⟩)
    | (go_at_call 40; refine (hd _ _ (by assumption) (by assumption) (by go_grown)).mono ?_; rintro e w' ⟨rfl, hb'⟩; obtain ⟨k0', k1', k5', j0', j1', j2', hlt', hltB', hBb'⟩ := keepP (w := w) (B := B) hb' ⟨by assumption, by assumption, by assumption, by assumption, by assumption, by assumption, by assumption, by assumption, by assumption⟩; clear hb'))
  rw [rounds_succ]
  go_wp2_with (first
    | (go_at_call 15; refine (hmay _).mono ?_; rintro e w1 ⟨rfl, hbm⟩; obtain ⟨k0, k1, k2, k3, k4, k5, k6⟩ := cells7 w _ _ _ _ _ _ _ _ (by simpa using hbm); have hB1 := (box_below w _).trans (hbm.mono (by simp)); have hlt1 : w.heap.size < w1.heap.size := (by have := hbm.size; simp at this; omega); clear hbm)
    | (go_at_call 39; refine (hcs _).mono ?_; rintro e w2 ⟨rfl, rfl⟩)
    | (go_at_call 40; refine (hd _ _ (by assumption) (by assumption) (by go_grown)).mono ?_; rintro e w' ⟨rfl, hb'⟩; obtain ⟨k0', k1', k5', j0', j1', j2', hlt', hltB', hBb'⟩ := keepP (w := w) (B := B) hb' ⟨by assumption, by assumption, by assumption, by assumption, by assumption, by assumption, by assumption, by assumption, by assumption⟩; clear hb'))
  go_ret
  refine ⟨str_ext ?_, by assumption⟩
  rw [hR.out]
  have HS := HS.out
  have HDG := HDG.out
  subst HDG
  simp only [app_list, HS]
  simp [cmpS, verS, starC, bodyC, toldL, joinL, hop, seg_no 45 hp0]

set_option maxHeartbeats 4000000 in
theorem cprint_op3 (op : Int) (a b c : Int) (p q : ByteArray) (w : World) (hT : Tab w) (hop : op ≠ 9) (hp0 : p.size = 0) (hq : q.size ≤ 1048576) (hm : mayC (cmpS op 3 a b c p q) = true) :
    Calls Tryd.prog 14 #[cvV op 3 a b c p q] w fun e w' => e = .returned (.string ⟨(printC (cmpS op 3 a b c p q)).toArray⟩) ∧ Below w.heap.size w w' := by
  have hmay := fun W => cmay_any op 3 a b c p q W (by omega) hq
  have hR := Lib.hid (printC_yes hm)
  obtain ⟨-, hv, -⟩ := may_c hm
  obtain ⟨⟨ha0, ha1⟩, ⟨hb0, hb1⟩, ⟨hc0, hc1⟩⟩ := may_parts hv
  simp only [cmpS, verS] at ha0 ha1 hb0 hb1 hc0 hc1
  rw [hm] at hmay
  clear hv hm
  generalize printC (cmpS op 3 a b c p q) = R at *
  unfold cvV at *
  have HT := Lib.hid hT
  clear hT
  obtain ⟨dg, hdg⟩ : ∃ dg : Int → ByteArray, dg = fun n => ⟨(Lib.itoa n).toArray⟩ := ⟨_, rfl⟩
  have hd : ∀ (n : Int) (W : World), 0 ≤ n → n ≤ 9999 → Below w.heap.size w W → Calls Tryd.prog 40 #[.int .i64 n] W fun e w' => e = .returned (.string (dg n)) ∧ Below W.heap.size W w' := by
    subst hdg
    exact fun n W h0 h1 hW => digits_any n W (by omega) (by omega) (tab_below HT.out hW)
  have hsz : ∀ n : Int, 0 ≤ n → n ≤ 9999 → (dg n).size ≤ 20 := by
    subst hdg
    intro n h0 h1
    show (⟨(Lib.itoa n).toArray⟩ : ByteArray).size ≤ 20
    rw [str_size]
    exact itoa_len h0 h1
  have hsa := hsz a ha0 ha1
  have hsb := hsz b hb0 hb1
  have hsc := hsz c hc0 hc1
  clear hsz
  have HDG := Lib.hid hdg
  clear hdg
  have he1 := empty_str p hp0
  have hop9 : (op == 9) = false := by simpa using hop
  have hss := sign_size op
  have hcs := fun W => sign_any op W
  have HS := Lib.hid (sign_list op)
  generalize signS op = sg at *
  have o1 : ¬ 9223372036854775807 < sg.size + (dg a).size := by omega
  have o2 : ¬ 9223372036854775807 < sg.size + (dg a).size + 1 := by omega
  have o3 : ¬ 9223372036854775807 < sg.size + (dg a).size + 1 + (dg b).size := by omega
  have o4 : ¬ 9223372036854775807 < sg.size + (dg a).size + 1 + (dg b).size + 1 := by omega
  have o5 : ¬ 9223372036854775807 < sg.size + (dg a).size + 1 + (dg b).size + 1 + (dg c).size := by omega
  go_enter Tryd.func14, Tryd.ntmps14
  go_wp2_with (first
    | (go_at_call 15; refine (hmay _).mono ?_; rintro e w1 ⟨rfl, hbm⟩; obtain ⟨k0, k1, k2, k3, k4, k5, k6⟩ := cells7 w _ _ _ _ _ _ _ _ (by simpa using hbm); have hB1 := (box_below w _).trans (hbm.mono (by simp)); have hlt1 : w.heap.size < w1.heap.size := (by have := hbm.size; simp at this; omega); clear hbm)
    | (go_at_call 39; refine (hcs _).mono ?_; rintro e w2 ⟨rfl, rfl⟩)
    | (go_at_call 40; refine (hd _ _ (by assumption) (by assumption) (by go_grown)).mono ?_; rintro e w' ⟨rfl, hb'⟩; obtain ⟨k0', k1', k5', j0', j1', j2', hlt', hltB', hBb'⟩ := keepP (w := w) (B := B) hb' ⟨by assumption, by assumption, by assumption, by assumption, by assumption, by assumption, by assumption, by assumption, by assumption⟩; clear hb'))
  obtain ⟨k0, k1, k5, j0, j1, j2, hlt, hltB, hBb⟩ := keepA k0 k1 k5 hlt1 hB1 (.int .i64 a) (.int .i64 b) (.int .i64 c) 3
  clear hlt1 hB1 k2 k3 k4 k6
  generalize w1.alloc _ = W1 at *
  generalize w1.heap.size = B at *
  refine wp_loop_rounds 4 ?_
  rw [rounds_succ]
  go_wp2_with (first
    | (go_at_call 15; refine (hmay _).mono ?_; rintro e w1 ⟨rfl, hbm⟩; obtain ⟨k0, k1, k2, k3, k4, k5, k6⟩ := cells7 w _ _ _ _ _ _ _ _ (by simpa using hbm); have hB1 := (box_below w _).trans (hbm.mono (by simp)); have hlt1 : w.heap.size < w1.heap.size := (by have := hbm.size; simp at this; omega); clear hbm)
    | (go_at_call 39; refine (hcs _).mono ?_; rintro e w2 ⟨rfl, rfl⟩)
    | (go_at_call 40; refine (hd _ _ (by assumption) (by assumption) (by go_grown)).mono ?_; rintro e w' ⟨rfl, hb'⟩; obtain ⟨k0', k1', k5', j0', j1', j2', hlt', hltB', hBb'⟩ := keepP (w := w) (B := B) hb' ⟨by assumption, by assumption, by assumption, by assumption, by assumption, by assumption, by assumption, by assumption, by assumption⟩; clear hb'))
  rw [rounds_succ]
  go_wp2_with (first
    | (go_at_call 15; refine (hmay _).mono ?_; rintro e w1 ⟨rfl, hbm⟩; obtain ⟨k0, k1, k2, k3, k4, k5, k6⟩ := cells7 w _ _ _ _ _ _ _ _ (by simpa using hbm); have hB1 := (box_below w _).trans (hbm.mono (by simp)); have hlt1 : w.heap.size < w1.heap.size := (by have := hbm.size; simp at this; omega); clear hbm)
    | (go_at_call 39; refine (hcs _).mono ?_; rintro e w2 ⟨rfl, rfl⟩)
    | (go_at_call 40; refine (hd _ _ (by assumption) (by assumption) (by go_grown)).mono ?_; rintro e w' ⟨rfl, hb'⟩; obtain ⟨k0', k1', k5', j0', j1', j2', hlt', hltB', hBb'⟩ := keepP (w := w) (B := B) hb' ⟨by assumption, by assumption, by assumption, by assumption, by assumption, by assumption, by assumption, by assumption, by assumption⟩; clear hb'))
  rw [rounds_succ]
  go_wp2_with (first
    | (go_at_call 15; refine (hmay _).mono ?_; rintro e w1 ⟨rfl, hbm⟩; obtain ⟨k0, k1, k2, k3, k4, k5, k6⟩ := cells7 w _ _ _ _ _ _ _ _ (by simpa using hbm); have hB1 := (box_below w _).trans (hbm.mono (by simp)); have hlt1 : w.heap.size < w1.heap.size := (by have := hbm.size; simp at this; omega); clear hbm)
    | (go_at_call 39; refine (hcs _).mono ?_; rintro e w2 ⟨rfl, rfl⟩)
    | (go_at_call 40; refine (hd _ _ (by assumption) (by assumption) (by go_grown)).mono ?_; rintro e w' ⟨rfl, hb'⟩; obtain ⟨k0', k1', k5', j0', j1', j2', hlt', hltB', hBb'⟩ := keepP (w := w) (B := B) hb' ⟨by assumption, by assumption, by assumption, by assumption, by assumption, by assumption, by assumption, by assumption, by assumption⟩; clear hb'))
  rw [rounds_succ]
  go_wp2_with (first
    | (go_at_call 15; refine (hmay _).mono ?_; rintro e w1 ⟨rfl, hbm⟩; obtain ⟨k0, k1, k2, k3, k4, k5, k6⟩ := cells7 w _ _ _ _ _ _ _ _ (by simpa using hbm); have hB1 := (box_below w _).trans (hbm.mono (by simp)); have hlt1 : w.heap.size < w1.heap.size := (by have := hbm.size; simp at this; omega); clear hbm)
    | (go_at_call 39; refine (hcs _).mono ?_; rintro e w2 ⟨rfl, rfl⟩)
    | (go_at_call 40; refine (hd _ _ (by assumption) (by assumption) (by go_grown)).mono ?_; rintro e w' ⟨rfl, hb'⟩; obtain ⟨k0', k1', k5', j0', j1', j2', hlt', hltB', hBb'⟩ := keepP (w := w) (B := B) hb' ⟨by assumption, by assumption, by assumption, by assumption, by assumption, by assumption, by assumption, by assumption, by assumption⟩; clear hb'))
  go_ret
  refine ⟨str_ext ?_, by assumption⟩
  rw [hR.out]
  have HS := HS.out
  have HDG := HDG.out
  subst HDG
  simp only [app_list, HS]
  simp [cmpS, verS, starC, bodyC, toldL, joinL, hop, seg_no 45 hp0]

set_option maxHeartbeats 4000000 in
theorem cprint_op3p (op : Int) (a b c : Int) (p q : ByteArray) (w : World) (hT : Tab w) (hop : op ≠ 9) (hp0 : p.size ≠ 0) (hp : p.size ≤ 1048576) (hq : q.size ≤ 1048576) (hm : mayC (cmpS op 3 a b c p q) = true) :
    Calls Tryd.prog 14 #[cvV op 3 a b c p q] w fun e w' => e = .returned (.string ⟨(printC (cmpS op 3 a b c p q)).toArray⟩) ∧ Below w.heap.size w w' := by
  have hmay := fun W => cmay_any op 3 a b c p q W (by omega) hq
  have hR := Lib.hid (printC_yes hm)
  obtain ⟨-, hv, -⟩ := may_c hm
  obtain ⟨⟨ha0, ha1⟩, ⟨hb0, hb1⟩, ⟨hc0, hc1⟩⟩ := may_parts hv
  simp only [cmpS, verS] at ha0 ha1 hb0 hb1 hc0 hc1
  rw [hm] at hmay
  clear hv hm
  generalize printC (cmpS op 3 a b c p q) = R at *
  unfold cvV at *
  have HT := Lib.hid hT
  clear hT
  obtain ⟨dg, hdg⟩ : ∃ dg : Int → ByteArray, dg = fun n => ⟨(Lib.itoa n).toArray⟩ := ⟨_, rfl⟩
  have hd : ∀ (n : Int) (W : World), 0 ≤ n → n ≤ 9999 → Below w.heap.size w W → Calls Tryd.prog 40 #[.int .i64 n] W fun e w' => e = .returned (.string (dg n)) ∧ Below W.heap.size W w' := by
    subst hdg
    exact fun n W h0 h1 hW => digits_any n W (by omega) (by omega) (tab_below HT.out hW)
  have hsz : ∀ n : Int, 0 ≤ n → n ≤ 9999 → (dg n).size ≤ 20 := by
    subst hdg
    intro n h0 h1
    show (⟨(Lib.itoa n).toArray⟩ : ByteArray).size ≤ 20
    rw [str_size]
    exact itoa_len h0 h1
  have hsa := hsz a ha0 ha1
  have hsb := hsz b hb0 hb1
  have hsc := hsz c hc0 hc1
  clear hsz
  have HDG := Lib.hid hdg
  clear hdg
  obtain ⟨he1, he4⟩ := empty_no (s := p) (by omega)
  have hop9 : (op == 9) = false := by simpa using hop
  have hss := sign_size op
  have hcs := fun W => sign_any op W
  have HS := Lib.hid (sign_list op)
  generalize signS op = sg at *
  have o1 : ¬ 9223372036854775807 < sg.size + (dg a).size := by omega
  have o2 : ¬ 9223372036854775807 < sg.size + (dg a).size + 1 := by omega
  have o3 : ¬ 9223372036854775807 < sg.size + (dg a).size + 1 + (dg b).size := by omega
  have o4 : ¬ 9223372036854775807 < sg.size + (dg a).size + 1 + (dg b).size + 1 := by omega
  have o5 : ¬ 9223372036854775807 < sg.size + (dg a).size + 1 + (dg b).size + 1 + (dg c).size := by omega
  have o6 : ¬ 9223372036854775807 < 1 + p.size := by omega
  have o7 : ¬ 9223372036854775807 < sg.size + (dg a).size + 1 + (dg b).size + 1 + (dg c).size + (1 + p.size) := by omega
  go_enter Tryd.func14, Tryd.ntmps14
  go_wp2_with (first
    | (go_at_call 15; refine (hmay _).mono ?_; rintro e w1 ⟨rfl, hbm⟩; obtain ⟨k0, k1, k2, k3, k4, k5, k6⟩ := cells7 w _ _ _ _ _ _ _ _ (by simpa using hbm); have hB1 := (box_below w _).trans (hbm.mono (by simp)); have hlt1 : w.heap.size < w1.heap.size := (by have := hbm.size; simp at this; omega); clear hbm)
    | (go_at_call 39; refine (hcs _).mono ?_; rintro e w2 ⟨rfl, rfl⟩)
    | (go_at_call 40; refine (hd _ _ (by assumption) (by assumption) (by go_grown)).mono ?_; rintro e w' ⟨rfl, hb'⟩; obtain ⟨k0', k1', k5', j0', j1', j2', hlt', hltB', hBb'⟩ := keepP (w := w) (B := B) hb' ⟨by assumption, by assumption, by assumption, by assumption, by assumption, by assumption, by assumption, by assumption, by assumption⟩; clear hb'))
  obtain ⟨k0, k1, k5, j0, j1, j2, hlt, hltB, hBb⟩ := keepA k0 k1 k5 hlt1 hB1 (.int .i64 a) (.int .i64 b) (.int .i64 c) 3
  clear hlt1 hB1 k2 k3 k4 k6
  generalize w1.alloc _ = W1 at *
  generalize w1.heap.size = B at *
  refine wp_loop_rounds 4 ?_
  rw [rounds_succ]
  go_wp2_with (first
    | (go_at_call 15; refine (hmay _).mono ?_; rintro e w1 ⟨rfl, hbm⟩; obtain ⟨k0, k1, k2, k3, k4, k5, k6⟩ := cells7 w _ _ _ _ _ _ _ _ (by simpa using hbm); have hB1 := (box_below w _).trans (hbm.mono (by simp)); have hlt1 : w.heap.size < w1.heap.size := (by have := hbm.size; simp at this; omega); clear hbm)
    | (go_at_call 39; refine (hcs _).mono ?_; rintro e w2 ⟨rfl, rfl⟩)
    | (go_at_call 40; refine (hd _ _ (by assumption) (by assumption) (by go_grown)).mono ?_; rintro e w' ⟨rfl, hb'⟩; obtain ⟨k0', k1', k5', j0', j1', j2', hlt', hltB', hBb'⟩ := keepP (w := w) (B := B) hb' ⟨by assumption, by assumption, by assumption, by assumption, by assumption, by assumption, by assumption, by assumption, by assumption⟩; clear hb'))
  rw [rounds_succ]
  go_wp2_with (first
    | (go_at_call 15; refine (hmay _).mono ?_; rintro e w1 ⟨rfl, hbm⟩; obtain ⟨k0, k1, k2, k3, k4, k5, k6⟩ := cells7 w _ _ _ _ _ _ _ _ (by simpa using hbm); have hB1 := (box_below w _).trans (hbm.mono (by simp)); have hlt1 : w.heap.size < w1.heap.size := (by have := hbm.size; simp at this; omega); clear hbm)
    | (go_at_call 39; refine (hcs _).mono ?_; rintro e w2 ⟨rfl, rfl⟩)
    | (go_at_call 40; refine (hd _ _ (by assumption) (by assumption) (by go_grown)).mono ?_; rintro e w' ⟨rfl, hb'⟩; obtain ⟨k0', k1', k5', j0', j1', j2', hlt', hltB', hBb'⟩ := keepP (w := w) (B := B) hb' ⟨by assumption, by assumption, by assumption, by assumption, by assumption, by assumption, by assumption, by assumption, by assumption⟩; clear hb'))
  rw [rounds_succ]
  go_wp2_with (first
    | (go_at_call 15; refine (hmay _).mono ?_; rintro e w1 ⟨rfl, hbm⟩; obtain ⟨k0, k1, k2, k3, k4, k5, k6⟩ := cells7 w _ _ _ _ _ _ _ _ (by simpa using hbm); have hB1 := (box_below w _).trans (hbm.mono (by simp)); have hlt1 : w.heap.size < w1.heap.size := (by have := hbm.size; simp at this; omega); clear hbm)
    | (go_at_call 39; refine (hcs _).mono ?_; rintro e w2 ⟨rfl, rfl⟩)
    | (go_at_call 40; refine (hd _ _ (by assumption) (by assumption) (by go_grown)).mono ?_; rintro e w' ⟨rfl, hb'⟩; obtain ⟨k0', k1', k5', j0', j1', j2', hlt', hltB', hBb'⟩ := keepP (w := w) (B := B) hb' ⟨by assumption, by assumption, by assumption, by assumption, by assumption, by assumption, by assumption, by assumption, by assumption⟩; clear hb'))
  rw [rounds_succ]
  go_wp2_with (first
    | (go_at_call 15; refine (hmay _).mono ?_; rintro e w1 ⟨rfl, hbm⟩; obtain ⟨k0, k1, k2, k3, k4, k5, k6⟩ := cells7 w _ _ _ _ _ _ _ _ (by simpa using hbm); have hB1 := (box_below w _).trans (hbm.mono (by simp)); have hlt1 : w.heap.size < w1.heap.size := (by have := hbm.size; simp at this; omega); clear hbm)
    | (go_at_call 39; refine (hcs _).mono ?_; rintro e w2 ⟨rfl, rfl⟩)
    | (go_at_call 40; refine (hd _ _ (by assumption) (by assumption) (by go_grown)).mono ?_; rintro e w' ⟨rfl, hb'⟩; obtain ⟨k0', k1', k5', j0', j1', j2', hlt', hltB', hBb'⟩ := keepP (w := w) (B := B) hb' ⟨by assumption, by assumption, by assumption, by assumption, by assumption, by assumption, by assumption, by assumption, by assumption⟩; clear hb'))
  go_ret
  refine ⟨str_ext ?_, by assumption⟩
  rw [hR.out]
  have HS := HS.out
  have HDG := HDG.out
  subst HDG
  simp only [app_list, HS]
  simp [cmpS, verS, starC, bodyC, toldL, joinL, hop, seg_yes 45 hp0]
end Go.Proofs.YthaagngoefieaaaDoor
