/-
  The walk of chapter 6's reference Region. Conditions: Pre and Build have at most 1048576 bytes.
-/
import Derived.Test.YthaagngoefieaaaDoorCSpan6
import Derived.Test.YthaagngoefieaaaDoorCLawA
namespace Go.Proofs.YthaagngoefieaaaDoor
open Go.ChangeShapes Go.WideShapes Go.ChangeAt Go.RowKit
set_option linter.unusedVariables false
set_option linter.unusedSimpArgs false

set_option maxRecDepth 8192 in
set_option maxHeartbeats 8000000 in
theorem rregion6_any (op ps a b c : Int) (p q : ByteArray) (w : World) (hp : p.size ≤ 1048576) (hq : q.size ≤ 1048576) :
    Calls Tryd.prog 28 #[cvV op ps a b c p q] w (Row4 (regionR (cmpS op ps a b c p q)) w) := by
  have cm := fun W => rcmay_any op ps a b c p q W hp hq
  cases hm : mayC (cmpS op ps a b c p q)
  · have hR : regionR (cmpS op ps a b c p q) = [] := by unfold regionR; rw [hm]; rfl
    rw [hR]
    rw [hm] at cm
    clear hm hR
    unfold cvV at *
    go_enter Tryd.func28, Tryd.ntmps28
    go_wp2_with fail
    refine (cm _).mono ?_
    rintro r w1 ⟨rfl, hb1⟩
    go_wp2_with fail
    go_ret
    exact ⟨none, 0, 0, rfl, rfl, Nat.le_refl _, rds_none, (box_below w _).trans (hb1.mono (by simp))⟩
  have hq0 : q = ⟨#[]⟩ := by
    have := (may_c hm).2.2.1
    rw [← back q, show q.data.toList = [] from this]
  subst hq0
  rw [hm] at cm
  have hbd := may_c hm
  have ho1 : 1 ≤ op := hbd.1.1
  have ho9 : op ≤ 9 := hbd.1.2
  have hl1 : leastC op ≤ ps := hbd.2.2.2.1.1
  have hl2 : ps ≤ mostC op := hbd.2.2.2.1.2
  unfold leastC at hl1
  unfold mostC at hl2
  have h03 : 0 ≤ ps ∧ ps ≤ 3 := by by_cases h9 : op = 9 <;> simp [h9] at hl1 hl2 <;> omega
  have h19 : op ≠ 9 → 1 ≤ ps := fun h9 => by simp [h9] at hl1; omega
  have csp := fun W => rspan6_any op ps a b c p W hp ho1 ho9 h03.1 h03.2 h19
  have hsame := span_same hm
  have hok := spanP_ok (op := op) (ps := ps) (a := a) (b := b) (c := c) hp
  rw [hsame] at hok
  have hR : regionR (cmpS op ps a b c p ⟨#[]⟩) = if op = 2 then notR (spansC (spanR (cmpS op ps a b c p ⟨#[]⟩))) else spansC (spanR (cmpS op ps a b c p ⟨#[]⟩)) := by unfold regionR; rw [if_pos hm]; rfl
  rw [hR]
  clear hR hsame hbd hm hl1 hl2 h03 h19 ho1 ho9 hq
  generalize spanR (cmpS op ps a b c p ⟨#[]⟩) = S at *
  obtain ⟨X, Y⟩ := S
  obtain ⟨fe, fa, fb, fc, fp, fq, ff, hX, hXV, _, hfp, hfq⟩ := cut_of X
  obtain ⟨te, ta, tb, tc, tp, tq, tf, hY, hYV, _, htp, htq⟩ := cut_of Y
  dsimp only at csp
  rw [hXV, hYV] at csp
  have sp1 : fp.size ≤ 1048576 := by rw [hfp]; exact hok.1.1
  have sp2 : fq.size ≤ 1048576 := by rw [hfq]; exact hok.1.2
  have sp3 : tp.size ≤ 1048576 := by rw [htp]; exact hok.2.1
  have sp4 : tq.size ≤ 1048576 := by rw [htq]; exact hok.2.2
  clear hXV hYV hfp hfq htp htq
  subst hX
  subst hY
  have cc := fun W => rcutcomp_any fe fa fb fc fp fq ff te ta tb tc tp tq tf W sp1 sp2 sp3 sp4
  rw [spans_eq]
  have hs14 := cells_S fe fa fb fc fp fq ff te ta tb tc tp tq tf
  generalize compCut (cutS fe fa fb fc fp fq ff) (cutS te ta tb tc tp tq tf) = d at *
  unfold cvV at *
  unfold cutW at *
  by_cases h2 : op = 2
  · subst h2
    rw [if_pos rfl]
    by_cases hd : d < 0
    · rw [if_pos hd]
      go_enter Tryd.func28, Tryd.ntmps28
      go_wp2_with fail
      refine (cm _).mono ?_
      rintro r w1 ⟨rfl, hb1⟩
      have hL := loc_call (loc_new (loc_start w) w.heap.size [.int .i64 2, .int .i64 ps, .int .i64 a, .int .i64 b, .int .i64 c, .string p, .string ⟨#[]⟩] 26) hb1
      obtain ⟨c0, c1, c2, c3, c4, c5, c6⟩ := cells7L (loc_own hL 0 rfl).1
      go_wp2_with fail
      refine (csp _).mono ?_
      rintro r w2 ⟨rfl, hb2⟩
      have hL := loc_new (loc_new (loc_call hL hb2) w2.heap.size [.int .i64 fe, .int .i64 fa, .int .i64 fb, .int .i64 fc, .string fp, .string fq, .bool ff] 48) (w2.heap.size + 1) [.int .i64 te, .int .i64 ta, .int .i64 tb, .int .i64 tc, .string tp, .string tq, .bool tf] 48
      clear c0 c1 c2 c3 c4 c5 c6 hb1 hb2
      go_wp2_with fail
      refine (cc _).mono ?_
      rintro r w3 ⟨rfl, hb3⟩
      have hL := loc_call hL hb3
      obtain ⟨c0, c1, c2, c3, c4, c5, c6⟩ := cells7L (loc_own hL 0 rfl).1
      obtain ⟨d0, d1, d2, d3, d4, d5, d6⟩ := cells7L (loc_own hL 1 rfl).1
      obtain ⟨k0, k1, k2, k3, k4, k5, k6⟩ := cells7L (loc_own hL 2 rfl).1
      have hz := loc_lt hL 0 rfl
      clear hb3 cm csp cc
      go_wp2_with fail
      have hr : RdS (w3.alloc (.cells #[.int .i64 fe, .int .i64 fa, .int .i64 fb, .int .i64 fc, .string fp, .string fq, .bool ff, .int .i64 te, .int .i64 ta, .int .i64 tb, .int .i64 tc, .string tp, .string tq, .bool tf] 50)) (w3.alloc (.cells #[.int .i64 fe, .int .i64 fa, .int .i64 fb, .int .i64 fc, .string fp, .string fq, .bool ff, .int .i64 te, .int .i64 ta, .int .i64 tb, .int .i64 tc, .string tp, .string tq, .bool tf] 50)).heap.size (some ⟨w3.heap.size, 0, none⟩) [⟨cutS fe fa fb fc fp fq ff, cutS te ta tb tc tp tq tf⟩] := by
        have h := rds_one (w := w3) (s := ⟨cutS fe fa fb fc fp fq ff, cutS te ta tb tc tp tq tf⟩) 50
        rw [hs14] at h
        simpa using h
      have cn := rnot_any (some ⟨w3.heap.size, 0, none⟩) 1 1 (w3.alloc (.cells #[.int .i64 fe, .int .i64 fa, .int .i64 fb, .int .i64 fc, .string fp, .string fq, .bool ff, .int .i64 te, .int .i64 ta, .int .i64 tb, .int .i64 tc, .string tp, .string tq, .bool tf] 50)).heap.size [⟨cutS fe fa fb fc fp fq ff, cutS te ta tb tc tp tq tf⟩] (w3.alloc (.cells #[.int .i64 fe, .int .i64 fa, .int .i64 fb, .int .i64 fc, .string fp, .string fq, .bool ff, .int .i64 te, .int .i64 ta, .int .i64 tb, .int .i64 tc, .string tp, .string tq, .bool tf] 50)) hr rfl (fun s hs => by simp at hs; subst hs; exact hok) (Nat.le_refl _) (by omega)
      clear hr
      refine cn.mono ?_
      rintro r w4 ⟨A2, n2, cap2, rfl, g2, g3, g4, g5⟩
      have G2 := Lib.hid g2
      clear g2
      go_wp2_with fail
      go_ret
      exact ⟨A2, n2, cap2, rfl, G2.out, g3, g4, (loc_call (loc_box hL _) g5).1⟩
    · rw [if_neg hd]
      go_enter Tryd.func28, Tryd.ntmps28
      go_wp2_with fail
      refine (cm _).mono ?_
      rintro r w1 ⟨rfl, hb1⟩
      have hL := loc_call (loc_new (loc_start w) w.heap.size [.int .i64 2, .int .i64 ps, .int .i64 a, .int .i64 b, .int .i64 c, .string p, .string ⟨#[]⟩] 26) hb1
      obtain ⟨c0, c1, c2, c3, c4, c5, c6⟩ := cells7L (loc_own hL 0 rfl).1
      go_wp2_with fail
      refine (csp _).mono ?_
      rintro r w2 ⟨rfl, hb2⟩
      have hL := loc_new (loc_new (loc_call hL hb2) w2.heap.size [.int .i64 fe, .int .i64 fa, .int .i64 fb, .int .i64 fc, .string fp, .string fq, .bool ff] 48) (w2.heap.size + 1) [.int .i64 te, .int .i64 ta, .int .i64 tb, .int .i64 tc, .string tp, .string tq, .bool tf] 48
      clear c0 c1 c2 c3 c4 c5 c6 hb1 hb2
      go_wp2_with fail
      refine (cc _).mono ?_
      rintro r w3 ⟨rfl, hb3⟩
      have hL := loc_call hL hb3
      obtain ⟨c0, c1, c2, c3, c4, c5, c6⟩ := cells7L (loc_own hL 0 rfl).1
      obtain ⟨d0, d1, d2, d3, d4, d5, d6⟩ := cells7L (loc_own hL 1 rfl).1
      obtain ⟨k0, k1, k2, k3, k4, k5, k6⟩ := cells7L (loc_own hL 2 rfl).1
      have hz := loc_lt hL 0 rfl
      clear hb3 cm csp cc
      go_wp2_with fail
      have cn := rnot_any none 0 0 0 [] w3 rds_none rfl (fun s hs => by simp at hs) (Nat.zero_le _) (by omega)
      refine cn.mono ?_
      rintro r w4 ⟨A2, n2, cap2, rfl, g2, g3, g4, g5⟩
      have G2 := Lib.hid g2
      clear g2
      go_wp2_with fail
      go_ret
      exact ⟨A2, n2, cap2, rfl, G2.out, g3, g4, (loc_call hL g5).1⟩
  · have g2 : (op == 2) = false := by simpa using h2
    rw [if_neg h2]
    clear h2
    by_cases hd : d < 0
    · rw [if_pos hd]
      go_enter Tryd.func28, Tryd.ntmps28
      go_wp2_with fail
      refine (cm _).mono ?_
      rintro r w1 ⟨rfl, hb1⟩
      have hL := loc_call (loc_new (loc_start w) w.heap.size [.int .i64 op, .int .i64 ps, .int .i64 a, .int .i64 b, .int .i64 c, .string p, .string ⟨#[]⟩] 26) hb1
      obtain ⟨c0, c1, c2, c3, c4, c5, c6⟩ := cells7L (loc_own hL 0 rfl).1
      go_wp2_with fail
      refine (csp _).mono ?_
      rintro r w2 ⟨rfl, hb2⟩
      have hL := loc_new (loc_new (loc_call hL hb2) w2.heap.size [.int .i64 fe, .int .i64 fa, .int .i64 fb, .int .i64 fc, .string fp, .string fq, .bool ff] 48) (w2.heap.size + 1) [.int .i64 te, .int .i64 ta, .int .i64 tb, .int .i64 tc, .string tp, .string tq, .bool tf] 48
      clear c0 c1 c2 c3 c4 c5 c6 hb1 hb2
      go_wp2_with fail
      refine (cc _).mono ?_
      rintro r w3 ⟨rfl, hb3⟩
      have hL := loc_call hL hb3
      obtain ⟨c0, c1, c2, c3, c4, c5, c6⟩ := cells7L (loc_own hL 0 rfl).1
      obtain ⟨d0, d1, d2, d3, d4, d5, d6⟩ := cells7L (loc_own hL 1 rfl).1
      obtain ⟨k0, k1, k2, k3, k4, k5, k6⟩ := cells7L (loc_own hL 2 rfl).1
      have hz := loc_lt hL 0 rfl
      clear hb3 cm csp cc
      go_wp2_with fail
      have hr : RdS (w3.alloc (.cells #[.int .i64 fe, .int .i64 fa, .int .i64 fb, .int .i64 fc, .string fp, .string fq, .bool ff, .int .i64 te, .int .i64 ta, .int .i64 tb, .int .i64 tc, .string tp, .string tq, .bool tf] 50)) (w3.alloc (.cells #[.int .i64 fe, .int .i64 fa, .int .i64 fb, .int .i64 fc, .string fp, .string fq, .bool ff, .int .i64 te, .int .i64 ta, .int .i64 tb, .int .i64 tc, .string tp, .string tq, .bool tf] 50)).heap.size (some ⟨w3.heap.size, 0, none⟩) [⟨cutS fe fa fb fc fp fq ff, cutS te ta tb tc tp tq tf⟩] := by
        have h := rds_one (w := w3) (s := ⟨cutS fe fa fb fc fp fq ff, cutS te ta tb tc tp tq tf⟩) 50
        rw [hs14] at h
        simpa using h
      go_ret
      exact ⟨_, 1, 1, rfl, rfl, Nat.le_refl _, hr, (loc_box hL _).1⟩
    · rw [if_neg hd]
      go_enter Tryd.func28, Tryd.ntmps28
      go_wp2_with fail
      refine (cm _).mono ?_
      rintro r w1 ⟨rfl, hb1⟩
      have hL := loc_call (loc_new (loc_start w) w.heap.size [.int .i64 op, .int .i64 ps, .int .i64 a, .int .i64 b, .int .i64 c, .string p, .string ⟨#[]⟩] 26) hb1
      obtain ⟨c0, c1, c2, c3, c4, c5, c6⟩ := cells7L (loc_own hL 0 rfl).1
      go_wp2_with fail
      refine (csp _).mono ?_
      rintro r w2 ⟨rfl, hb2⟩
      have hL := loc_new (loc_new (loc_call hL hb2) w2.heap.size [.int .i64 fe, .int .i64 fa, .int .i64 fb, .int .i64 fc, .string fp, .string fq, .bool ff] 48) (w2.heap.size + 1) [.int .i64 te, .int .i64 ta, .int .i64 tb, .int .i64 tc, .string tp, .string tq, .bool tf] 48
      clear c0 c1 c2 c3 c4 c5 c6 hb1 hb2
      go_wp2_with fail
      refine (cc _).mono ?_
      rintro r w3 ⟨rfl, hb3⟩
      have hL := loc_call hL hb3
      obtain ⟨c0, c1, c2, c3, c4, c5, c6⟩ := cells7L (loc_own hL 0 rfl).1
      obtain ⟨d0, d1, d2, d3, d4, d5, d6⟩ := cells7L (loc_own hL 1 rfl).1
      obtain ⟨k0, k1, k2, k3, k4, k5, k6⟩ := cells7L (loc_own hL 2 rfl).1
      have hz := loc_lt hL 0 rfl
      clear hb3 cm csp cc
      go_wp2_with fail
      go_ret
      exact ⟨none, 0, 0, rfl, rfl, Nat.le_refl _, rds_none, hL.1⟩
theorem region_okq {op ps a b c : Int} {p q : ByteArray} (hp : p.size ≤ 1048576) : (∀ x ∈ regionP (cmpS op ps a b c p q), okS x) ∧ (regionP (cmpS op ps a b c p q)).length ≤ 2 := by
  cases hm : mayC (cmpS op ps a b c p q)
  · have hR : regionP (cmpS op ps a b c p q) = [] := by unfold regionP; rw [hm]; rfl
    rw [hR]
    exact ⟨fun x hx => by simp at hx, by simp⟩
  · have hq0 : q = ⟨#[]⟩ := by
      have := (may_c hm).2.2.1
      rw [← back q, show q.data.toList = [] from this]
    subst hq0
    exact region_ok hp
end Go.Proofs.YthaagngoefieaaaDoor
