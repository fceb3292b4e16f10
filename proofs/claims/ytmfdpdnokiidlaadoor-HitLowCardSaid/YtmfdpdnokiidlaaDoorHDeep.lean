/-
  Chapter 36: the walk of hit.Low's closure, the search: it leaves in memory what the plain search tells. Conditions: limits and ways from 0 to 2^24; at most 100 rows, 100 cores, 12 ways a core; strconv's table reads as it is laid.
-/
import Derived.Test.YtmfdpdnokiidlaaDoorHDeepC
import Derived.Test.YtmfdpdnokiidlaaDoorDrawn
import Derived.Deep.CutRange
import Derived.Deep.DeepCutAuto
namespace Go.Proofs.YtmfdpdnokiidlaaDoor
open Go.ChangeShapes Go.WideShapes Go.ChangeAt Go.RowKit Go.MapKept
set_option linter.unusedVariables false
set_option linter.unusedSimpArgs false

/-- The cells of the variables that the first test reads. -/
def DC (p : DPar) (bv : Value) (low : Int) (W : World) : Prop := W.cell? ⟨p.bb + 3, 0, none⟩ = some (.map (some (p.bb + 2))) ∧ W.cell? ⟨p.bL + 1, 0, none⟩ = some (.slice (some ⟨p.bL, 0, none⟩) p.N p.N) ∧ W.cell? ⟨p.bb, 0, none⟩ = some bv ∧ W.cell? ⟨p.ba, 0, none⟩ = some (.slice p.A p.all.length p.ca) ∧ W.cell? ⟨p.bb + 1, 0, none⟩ = some (.int .i64 low)
theorem DC_call {p : DPar} {bv : Value} {low : Int} {W W' : World} (h : DC p bv low W) (hs : p.bL + 1 < W.heap.size ∧ p.ba < W.heap.size ∧ p.bb + 4 < W.heap.size) (hb : Below W.heap.size W W') : DC p bv low W' :=
  ⟨(hb.cell (p := ⟨p.bb + 3, 0, none⟩) (show p.bb + 3 < _ by omega)).trans h.1, (hb.cell (p := ⟨p.bL + 1, 0, none⟩) (show p.bL + 1 < _ by omega)).trans h.2.1, (hb.cell (p := ⟨p.bb, 0, none⟩) (show p.bb < _ by omega)).trans h.2.2.1,
    (hb.cell (p := ⟨p.ba, 0, none⟩) (show p.ba < _ by omega)).trans h.2.2.2.1, (hb.cell (p := ⟨p.bb + 1, 0, none⟩) (show p.bb + 1 < _ by omega)).trans h.2.2.2.2⟩
theorem DC_of {p : DPar} {lim : List Int} {st : StH} {W : World} (h : DIn p lim st W) : ∃ bv, DC p bv st.low W ∧ BestV p W st.best bv ∧ W.frozen? ⟨p.bb, 0, none⟩ = false := by
  obtain ⟨v, hv1, hv2⟩ := h.best
  exact ⟨v, ⟨h.seenv, h.limv, hv1.1 0 _ rfl, h.allv, h.lowv.1 0 _ rfl⟩, hv2, hv1.2 0⟩
abbrev Cld (p : DPar) (tot : Int) : Array Value := #[.int .i64 tot, .pointer (some ⟨p.bb + 3, 0, none⟩), .pointer (some ⟨p.bL + 1, 0, none⟩), .pointer (some ⟨p.bb, 0, none⟩), .pointer (some ⟨p.ba, 0, none⟩), .pointer (some ⟨p.bb + 1, 0, none⟩), .pointer (some ⟨p.bb + 4, 0, none⟩)]
def Deep (p : DPar) (f : Nat) : Prop := ∀ (lim : List Int) (tot : Int) (st : StH) (w : World), DIn p lim st w → muH lim p.all.flatten < f → tot = lim.sum →
  Calls Tryd.prog 24 (Cld p tot) w fun e w' => e = .returned (.tuple #[]) ∧ DIn p lim (deeperH SRT p.all f lim tot st) w' ∧ Kp p w w'
/-- What stands between two rounds of the closure's loop over the sorted ways. -/
def LpAt (p : DPar) (f : Nat) (lim : List Int) (tot : Int) (st0 : StH) (R : List Way) (g k : Nat) (w W : World) : Prop :=
  DIn p lim ((R.take k).foldl (stepH p.all f lim tot) st0) W ∧ Kp p w W ∧ OwnW W g R ∧ g < W.heap.size
set_option maxRecDepth 8192 in
set_option maxHeartbeats 8000000 in
theorem deep_step (p : DPar) (ok : DOk p) (f : Nat) (IH : Deep p f) : Deep p (f + 1) := by
  intro lim tot st w hD hmu htot
  have HIH := Lib.hid IH
  have o1 := ok.o1
  have o2 := ok.o2
  have o3 := ok.o3
  have hsz := hD.size
  have hsz2 : p.bL + 1 < w.heap.size ∧ p.ba < w.heap.size ∧ p.bb + 4 < w.heap.size := by omega
  have HTOT := Lib.hid htot
  have hsb := sum_bd hD.lims
  have hlen := hD.len
  have n1 := ok.n1
  have hal := ok.al
  have ht0 : 0 ≤ tot ∧ tot ≤ 1677721600 := by rw [htot]; omega
  have hmb := more_bd hD.lims p.all [] 0 (fun l hl r hr => ((ok.ways l hl).1 r hr).2.2)
  have HMB := Lib.hid (show 0 ≤ moreL lim p.all ∧ moreL lim p.all ≤ 1677721600 from ⟨hmb.1, Int.le_trans hmb.2 (by omega)⟩)
  have HMU := Lib.hid hmu
  have HLEN := Lib.hid hlen
  clear IH htot hsb hmb hmu hlen
  have CK := Lib.hid (fun (W : World) (h : DIn p lim st W) => deep_key h ok)
  have CM := Lib.hid (fun (W : World) (h : DIn p lim st W) => deep_more h ok)
  have HM := Lib.hid (ksL_mem hD.seens hD.lims)
  obtain ⟨bv, hdc, hbv, hbf⟩ := DC_of hD
  have HBV := Lib.hid hbv
  have HD := Lib.hid hD
  clear hbv hD
  obtain ⟨c0, hc0⟩ : ∃ c0, stopH p.all lim tot st = c0 := ⟨_, rfl⟩
  have HC0 := Lib.hid hc0
  clear hc0
  go_enter Tryd.func24, Tryd.ntmps24
  go_upto_region 0 with fail
  go_cut [29] from 13 to 29 (fun v wx => v = .bool c0 ∧ DIn p lim st wx ∧ Kp p w wx)
  case first =>
    have hd1 : DIn p lim st w.drew := HD.out.drew ok
    have hdc1 : DC p bv st.low w.drew := hdc
    have hk1 : Kp p w w.drew := (Kp.refl p w).drew
    have hsz1 : p.bL + 1 < w.drew.heap.size ∧ p.ba < w.drew.heap.size ∧ p.bb + 4 < w.drew.heap.size := hsz2
    have hzb : p.bL ≤ w.drew.heap.size := by omega
    cases hs : st.seen.contains lim with
    | true =>
      obtain rfl : c0 = true := by rw [← HC0.out, stopH, hs]; rfl
      rw [hs] at HM
      clear hs HBV
      refine wp_region_held_drew (S := fun W => W.cell? ⟨p.bb + 3, 0, none⟩ = some (.map (some (p.bb + 2))) ∧ W.cell? ⟨p.bL + 1, 0, none⟩ = some (.slice (some ⟨p.bL, 0, none⟩) p.N p.N) ∧ W.cell? ⟨p.bb, 0, none⟩ = some bv ∧ W.cell? ⟨p.ba, 0, none⟩ = some (.slice p.A p.all.length p.ca) ∧ W.cell? ⟨p.bb + 1, 0, none⟩ = some (.int .i64 st.low)) (by kernel_rfl) hdc1 (fun hHeld => ?_)
      refine takeD (i := 0) (d := some 13) (v := ?_) rfl rfl (by kernel_rfl) (by kernel_rfl) (by kernel_rfl) (fun _ _ _ h => h) (Or.inl ⟨by rfl, ?_⟩) (by assumption) ?_
      rotate_left
      · intro wS hSw; (try dsimp only at hSw); go_simp; (try with_reducible rfl)
      try simp only [Act.put, List.setIfInBounds_toArray, List.set_cons_zero, List.set_cons_succ]
      refine takeD (i := 1) (d := some 14) (v := ?_) rfl rfl (by kernel_rfl) (by kernel_rfl) (by kernel_rfl) (fun _ _ _ h => h) (Or.inl ⟨by rfl, ?_⟩) (by assumption) ?_
      rotate_left
      · intro wS hSw; (try dsimp only at hSw); go_simp; (try with_reducible rfl)
      try simp only [Act.put, List.setIfInBounds_toArray, List.set_cons_zero, List.set_cons_succ]
      refine wpAnyH_ready (rs := [2]) (by kernel_rfl) (by simp) ?_
      refine consD (d := some 15) rfl rfl (fun K hK => ?_) AllReadyH.nil
      go_simp
      (go_at_call 25; (with_reducible refine (CK.out _ hd1).mono ?_); rintro e w2 ⟨rfl, hbw2⟩)
      have hd2 : DIn p lim st w2 := hd1.call ok hbw2
      have hdc2 := DC_call hdc1 (by omega) hbw2
      have hk2 := Kp.call hk1 (by omega) hbw2
      refine hK.out _ _ hdc2 (fun hHeld => ?_)
      clear hK K
      try simp only [Act.put, List.setIfInBounds_toArray, List.set_cons_zero, List.set_cons_succ]
      refine wpAnyH_ready (rs := [3]) (by kernel_rfl) (by simp) ?_
      refine consD (d := some 16) rfl rfl (fun K hK => ?_) AllReadyH.nil
      refine want_if (by rfl) ?_
      refine oper_look_set (some 16) rfl (.tmp 13) (.tmp 15) 50 rfl 9 4 Tryd.underlying50 Tryd.underlying9 (zeroB _) (p.bb + 2) (ksL st.seen) rfl hd2.seenm (.string ⟨(keyL lim).toArray⟩) rfl trivial true HM.out ?_
      refine hK.out _ _ hdc2 (fun hHeld => ?_)
      clear hK K
      try simp only [Act.put, List.setIfInBounds_toArray, List.set_cons_zero, List.set_cons_succ]
      refine takeD (i := 4) (d := some 17) (v := ?_) rfl rfl (by kernel_rfl) (by kernel_rfl) (by kernel_rfl) (fun _ _ _ h => h) (Or.inl ⟨by rfl, ?_⟩) (by assumption) ?_
      rotate_left
      · intro wS hSw; (try dsimp only at hSw); go_simp; (try with_reducible rfl)
      try simp only [Act.put, List.setIfInBounds_toArray, List.set_cons_zero, List.set_cons_succ]
      refine takeD (i := 5) (d := some 18) (v := undef) rfl rfl (by kernel_rfl) (by kernel_rfl) (by kernel_rfl) (fun _ _ _ h => h) (Or.inr ⟨by kernel_rfl, rfl⟩) (by assumption) ?_
      try simp only [Act.put, List.setIfInBounds_toArray, List.set_cons_zero, List.set_cons_succ]
      refine takeD (i := 6) (d := some 19) (v := undef) rfl rfl (by kernel_rfl) (by kernel_rfl) (by kernel_rfl) (fun _ _ _ h => h) (Or.inr ⟨by kernel_rfl, rfl⟩) (by assumption) ?_
      try simp only [Act.put, List.setIfInBounds_toArray, List.set_cons_zero, List.set_cons_succ]
      refine takeD (i := 7) (d := some 20) (v := undef) rfl rfl (by kernel_rfl) (by kernel_rfl) (by kernel_rfl) (fun _ _ _ h => h) (Or.inr ⟨by kernel_rfl, rfl⟩) (by assumption) ?_
      try simp only [Act.put, List.setIfInBounds_toArray, List.set_cons_zero, List.set_cons_succ]
      refine takeD (i := 8) (d := some 21) (v := undef) rfl rfl (by kernel_rfl) (by kernel_rfl) (by kernel_rfl) (fun _ _ _ h => h) (Or.inr ⟨by kernel_rfl, rfl⟩) (by assumption) ?_
      try simp only [Act.put, List.setIfInBounds_toArray, List.set_cons_zero, List.set_cons_succ]
      refine takeD (i := 9) (d := some 22) (v := undef) rfl rfl (by kernel_rfl) (by kernel_rfl) (by kernel_rfl) (fun _ _ _ h => h) (Or.inr ⟨by kernel_rfl, rfl⟩) (by assumption) ?_
      try simp only [Act.put, List.setIfInBounds_toArray, List.set_cons_zero, List.set_cons_succ]
      refine takeD (i := 10) (d := some 23) (v := undef) rfl rfl (by kernel_rfl) (by kernel_rfl) (by kernel_rfl) (fun _ _ _ h => h) (Or.inr ⟨by kernel_rfl, rfl⟩) (by assumption) ?_
      try simp only [Act.put, List.setIfInBounds_toArray, List.set_cons_zero, List.set_cons_succ]
      refine takeD (i := 11) (d := some 24) (v := undef) rfl rfl (by kernel_rfl) (by kernel_rfl) (by kernel_rfl) (fun _ _ _ h => h) (Or.inr ⟨by kernel_rfl, rfl⟩) (by assumption) ?_
      try simp only [Act.put, List.setIfInBounds_toArray, List.set_cons_zero, List.set_cons_succ]
      refine takeD (i := 12) (d := some 25) (v := undef) rfl rfl (by kernel_rfl) (by kernel_rfl) (by kernel_rfl) (fun _ _ _ h => h) (Or.inr ⟨by kernel_rfl, rfl⟩) (by assumption) ?_
      try simp only [Act.put, List.setIfInBounds_toArray, List.set_cons_zero, List.set_cons_succ]
      refine takeD (i := 13) (d := some 26) (v := undef) rfl rfl (by kernel_rfl) (by kernel_rfl) (by kernel_rfl) (fun _ _ _ h => h) (Or.inr ⟨by kernel_rfl, rfl⟩) (by assumption) ?_
      try simp only [Act.put, List.setIfInBounds_toArray, List.set_cons_zero, List.set_cons_succ]
      refine takeD (i := 14) (d := some 27) (v := undef) rfl rfl (by kernel_rfl) (by kernel_rfl) (by kernel_rfl) (fun _ _ _ h => h) (Or.inr ⟨by kernel_rfl, rfl⟩) (by assumption) ?_
      try simp only [Act.put, List.setIfInBounds_toArray, List.set_cons_zero, List.set_cons_succ]
      refine takeD (i := 15) (d := some 28) (v := undef) rfl rfl (by kernel_rfl) (by kernel_rfl) (by kernel_rfl) (fun _ _ _ h => h) (Or.inr ⟨by kernel_rfl, rfl⟩) (by assumption) ?_
      try simp only [Act.put, List.setIfInBounds_toArray, List.set_cons_zero, List.set_cons_succ]
      refine takeD (i := 16) (d := some 29) (v := ?_) rfl rfl (by kernel_rfl) (by kernel_rfl) (by kernel_rfl) (fun _ _ _ h => h) (Or.inl ⟨by rfl, ?_⟩) (by assumption) ?_
      rotate_left
      · intro wS hSw; (try dsimp only at hSw); go_simp; (try with_reducible rfl)
      try simp only [Act.put, List.setIfInBounds_toArray, List.set_cons_zero, List.set_cons_succ]
      refine wpAnyH_done (by kernel_rfl) ?_ _
      go_wp2_with fail
      go_meet
      exact ⟨rfl, hd2, hk2⟩
    | false =>
      rw [hs] at HM
      cases hbe : st.best with
      | none =>
        obtain rfl : c0 = false := by rw [← HC0.out, stopH, hs, hbe]; rfl
        have hbv := HBV.out
        rw [hbe] at hbv
        obtain rfl : bv = .slice none 0 0 := hbv
        clear hs hbe HBV
        refine wp_region_held_drew (S := fun W => W.cell? ⟨p.bb + 3, 0, none⟩ = some (.map (some (p.bb + 2))) ∧ W.cell? ⟨p.bL + 1, 0, none⟩ = some (.slice (some ⟨p.bL, 0, none⟩) p.N p.N) ∧ W.cell? ⟨p.bb, 0, none⟩ = some (.slice none 0 0) ∧ W.cell? ⟨p.ba, 0, none⟩ = some (.slice p.A p.all.length p.ca) ∧ W.cell? ⟨p.bb + 1, 0, none⟩ = some (.int .i64 st.low)) (by kernel_rfl) hdc1 (fun hHeld => ?_)
        refine takeD (i := 0) (d := some 13) (v := ?_) rfl rfl (by kernel_rfl) (by kernel_rfl) (by kernel_rfl) (fun _ _ _ h => h) (Or.inl ⟨by rfl, ?_⟩) (by assumption) ?_
        rotate_left
        · intro wS hSw; (try dsimp only at hSw); go_simp; (try with_reducible rfl)
        try simp only [Act.put, List.setIfInBounds_toArray, List.set_cons_zero, List.set_cons_succ]
        refine takeD (i := 1) (d := some 14) (v := ?_) rfl rfl (by kernel_rfl) (by kernel_rfl) (by kernel_rfl) (fun _ _ _ h => h) (Or.inl ⟨by rfl, ?_⟩) (by assumption) ?_
        rotate_left
        · intro wS hSw; (try dsimp only at hSw); go_simp; (try with_reducible rfl)
        try simp only [Act.put, List.setIfInBounds_toArray, List.set_cons_zero, List.set_cons_succ]
        refine wpAnyH_ready (rs := [2]) (by kernel_rfl) (by simp) ?_
        refine consD (d := some 15) rfl rfl (fun K hK => ?_) AllReadyH.nil
        go_simp
        (go_at_call 25; (with_reducible refine (CK.out _ hd1).mono ?_); rintro e w2 ⟨rfl, hbw2⟩)
        have hd2 : DIn p lim st w2 := hd1.call ok hbw2
        have hdc2 := DC_call hdc1 (by omega) hbw2
        have hk2 := Kp.call hk1 (by omega) hbw2
        refine hK.out _ _ hdc2 (fun hHeld => ?_)
        clear hK K
        try simp only [Act.put, List.setIfInBounds_toArray, List.set_cons_zero, List.set_cons_succ]
        refine wpAnyH_ready (rs := [3]) (by kernel_rfl) (by simp) ?_
        refine consD (d := some 16) rfl rfl (fun K hK => ?_) AllReadyH.nil
        refine want_if (by rfl) ?_
        refine oper_look_set (some 16) rfl (.tmp 13) (.tmp 15) 50 rfl 9 4 Tryd.underlying50 Tryd.underlying9 (zeroB _) (p.bb + 2) (ksL st.seen) rfl hd2.seenm (.string ⟨(keyL lim).toArray⟩) rfl trivial false HM.out ?_
        refine hK.out _ _ hdc2 (fun hHeld => ?_)
        clear hK K
        try simp only [Act.put, List.setIfInBounds_toArray, List.set_cons_zero, List.set_cons_succ]
        refine takeD (i := 4) (d := some 17) (v := ?_) rfl rfl (by kernel_rfl) (by kernel_rfl) (by kernel_rfl) (fun _ _ _ h => h) (Or.inl ⟨by rfl, ?_⟩) (by assumption) ?_
        rotate_left
        · intro wS hSw; (try dsimp only at hSw); go_simp; (try with_reducible rfl)
        try simp only [Act.put, List.setIfInBounds_toArray, List.set_cons_zero, List.set_cons_succ]
        refine takeD (i := 5) (d := some 18) (v := ?_) rfl rfl (by kernel_rfl) (by kernel_rfl) (by kernel_rfl) (fun _ _ _ h => h) (Or.inl ⟨by rfl, ?_⟩) (by assumption) ?_
        rotate_left
        · intro wS hSw; (try dsimp only at hSw); go_simp; (try with_reducible rfl)
        try simp only [Act.put, List.setIfInBounds_toArray, List.set_cons_zero, List.set_cons_succ]
        refine takeD (i := 6) (d := some 19) (v := ?_) rfl rfl (by kernel_rfl) (by kernel_rfl) (by kernel_rfl) (fun _ _ _ h => h) (Or.inl ⟨by rfl, ?_⟩) (by assumption) ?_
        rotate_left
        · intro wS hSw; (try dsimp only at hSw); go_simp; (try with_reducible rfl)
        try simp only [Act.put, List.setIfInBounds_toArray, List.set_cons_zero, List.set_cons_succ]
        refine takeD (i := 7) (d := some 20) (v := ?_) rfl rfl (by kernel_rfl) (by kernel_rfl) (by kernel_rfl) (fun _ _ _ h => h) (Or.inl ⟨by rfl, ?_⟩) (by assumption) ?_
        rotate_left
        · intro wS hSw; (try dsimp only at hSw); go_simp; (try with_reducible rfl)
        try simp only [Act.put, List.setIfInBounds_toArray, List.set_cons_zero, List.set_cons_succ]
        refine takeD (i := 8) (d := some 21) (v := undef) rfl rfl (by kernel_rfl) (by kernel_rfl) (by kernel_rfl) (fun _ _ _ h => h) (Or.inr ⟨by kernel_rfl, rfl⟩) (by assumption) ?_
        try simp only [Act.put, List.setIfInBounds_toArray, List.set_cons_zero, List.set_cons_succ]
        refine takeD (i := 9) (d := some 22) (v := undef) rfl rfl (by kernel_rfl) (by kernel_rfl) (by kernel_rfl) (fun _ _ _ h => h) (Or.inr ⟨by kernel_rfl, rfl⟩) (by assumption) ?_
        try simp only [Act.put, List.setIfInBounds_toArray, List.set_cons_zero, List.set_cons_succ]
        refine takeD (i := 10) (d := some 23) (v := undef) rfl rfl (by kernel_rfl) (by kernel_rfl) (by kernel_rfl) (fun _ _ _ h => h) (Or.inr ⟨by kernel_rfl, rfl⟩) (by assumption) ?_
        try simp only [Act.put, List.setIfInBounds_toArray, List.set_cons_zero, List.set_cons_succ]
        refine takeD (i := 11) (d := some 24) (v := undef) rfl rfl (by kernel_rfl) (by kernel_rfl) (by kernel_rfl) (fun _ _ _ h => h) (Or.inr ⟨by kernel_rfl, rfl⟩) (by assumption) ?_
        try simp only [Act.put, List.setIfInBounds_toArray, List.set_cons_zero, List.set_cons_succ]
        refine takeD (i := 12) (d := some 25) (v := undef) rfl rfl (by kernel_rfl) (by kernel_rfl) (by kernel_rfl) (fun _ _ _ h => h) (Or.inr ⟨by kernel_rfl, rfl⟩) (by assumption) ?_
        try simp only [Act.put, List.setIfInBounds_toArray, List.set_cons_zero, List.set_cons_succ]
        refine takeD (i := 13) (d := some 26) (v := undef) rfl rfl (by kernel_rfl) (by kernel_rfl) (by kernel_rfl) (fun _ _ _ h => h) (Or.inr ⟨by kernel_rfl, rfl⟩) (by assumption) ?_
        try simp only [Act.put, List.setIfInBounds_toArray, List.set_cons_zero, List.set_cons_succ]
        refine takeD (i := 14) (d := some 27) (v := undef) rfl rfl (by kernel_rfl) (by kernel_rfl) (by kernel_rfl) (fun _ _ _ h => h) (Or.inr ⟨by kernel_rfl, rfl⟩) (by assumption) ?_
        try simp only [Act.put, List.setIfInBounds_toArray, List.set_cons_zero, List.set_cons_succ]
        refine takeD (i := 15) (d := some 28) (v := ?_) rfl rfl (by kernel_rfl) (by kernel_rfl) (by kernel_rfl) (fun _ _ _ h => h) (Or.inl ⟨by rfl, ?_⟩) (by assumption) ?_
        rotate_left
        · intro wS hSw; (try dsimp only at hSw); go_simp; (try with_reducible rfl)
        try simp only [Act.put, List.setIfInBounds_toArray, List.set_cons_zero, List.set_cons_succ]
        refine takeD (i := 16) (d := some 29) (v := ?_) rfl rfl (by kernel_rfl) (by kernel_rfl) (by kernel_rfl) (fun _ _ _ h => h) (Or.inl ⟨by rfl, ?_⟩) (by assumption) ?_
        rotate_left
        · intro wS hSw; (try dsimp only at hSw); go_simp; (try with_reducible rfl)
        try simp only [Act.put, List.setIfInBounds_toArray, List.set_cons_zero, List.set_cons_succ]
        refine wpAnyH_done (by kernel_rfl) ?_ _
        go_wp2_with fail
        go_meet
        exact ⟨rfl, hd2, hk2⟩
      | some bs =>
        have hbv := HBV.out
        rw [hbe] at hbv
        obtain ⟨gb, cb, rfl, -, -, -, -, -⟩ := hbv
        obtain ⟨M, hM⟩ : ∃ M, moreL lim p.all = M := ⟨_, rfl⟩
        obtain ⟨m0, m1⟩ := HMB.out
        rw [hM] at m0 m1
        rw [hM] at CM
        have hwr : IntKind.i64.wrap (tot + M) = tot + M := IntWalk.i64_in _ (by omega)
        by_cases hgt : st.low < tot + M
        · obtain rfl : c0 = true := by rw [← HC0.out, stopH, hs, hbe, hM]; simp [hgt]
          clear hs hbe HBV hM
          refine wp_region_held_drew (S := fun W => W.cell? ⟨p.bb + 3, 0, none⟩ = some (.map (some (p.bb + 2))) ∧ W.cell? ⟨p.bL + 1, 0, none⟩ = some (.slice (some ⟨p.bL, 0, none⟩) p.N p.N) ∧ W.cell? ⟨p.bb, 0, none⟩ = some (.slice (some ⟨gb, 0, none⟩) p.N cb) ∧ W.cell? ⟨p.ba, 0, none⟩ = some (.slice p.A p.all.length p.ca) ∧ W.cell? ⟨p.bb + 1, 0, none⟩ = some (.int .i64 st.low)) (by kernel_rfl) hdc1 (fun hHeld => ?_)
          refine takeD (i := 0) (d := some 13) (v := ?_) rfl rfl (by kernel_rfl) (by kernel_rfl) (by kernel_rfl) (fun _ _ _ h => h) (Or.inl ⟨by rfl, ?_⟩) (by assumption) ?_
          rotate_left
          · intro wS hSw; (try dsimp only at hSw); go_simp; (try with_reducible rfl)
          try simp only [Act.put, List.setIfInBounds_toArray, List.set_cons_zero, List.set_cons_succ]
          refine takeD (i := 1) (d := some 14) (v := ?_) rfl rfl (by kernel_rfl) (by kernel_rfl) (by kernel_rfl) (fun _ _ _ h => h) (Or.inl ⟨by rfl, ?_⟩) (by assumption) ?_
          rotate_left
          · intro wS hSw; (try dsimp only at hSw); go_simp; (try with_reducible rfl)
          try simp only [Act.put, List.setIfInBounds_toArray, List.set_cons_zero, List.set_cons_succ]
          refine wpAnyH_ready (rs := [2]) (by kernel_rfl) (by simp) ?_
          refine consD (d := some 15) rfl rfl (fun K hK => ?_) AllReadyH.nil
          go_simp
          (go_at_call 25; (with_reducible refine (CK.out _ hd1).mono ?_); rintro e w2 ⟨rfl, hbw2⟩)
          have hd2 : DIn p lim st w2 := hd1.call ok hbw2
          have hdc2 := DC_call hdc1 (by omega) hbw2
          have hk2 := Kp.call hk1 (by omega) hbw2
          refine hK.out _ _ hdc2 (fun hHeld => ?_)
          clear hK K
          try simp only [Act.put, List.setIfInBounds_toArray, List.set_cons_zero, List.set_cons_succ]
          refine wpAnyH_ready (rs := [3]) (by kernel_rfl) (by simp) ?_
          refine consD (d := some 16) rfl rfl (fun K hK => ?_) AllReadyH.nil
          refine want_if (by rfl) ?_
          refine oper_look_set (some 16) rfl (.tmp 13) (.tmp 15) 50 rfl 9 4 Tryd.underlying50 Tryd.underlying9 (zeroB _) (p.bb + 2) (ksL st.seen) rfl hd2.seenm (.string ⟨(keyL lim).toArray⟩) rfl trivial false HM.out ?_
          refine hK.out _ _ hdc2 (fun hHeld => ?_)
          clear hK K
          try simp only [Act.put, List.setIfInBounds_toArray, List.set_cons_zero, List.set_cons_succ]
          refine takeD (i := 4) (d := some 17) (v := ?_) rfl rfl (by kernel_rfl) (by kernel_rfl) (by kernel_rfl) (fun _ _ _ h => h) (Or.inl ⟨by rfl, ?_⟩) (by assumption) ?_
          rotate_left
          · intro wS hSw; (try dsimp only at hSw); go_simp; (try with_reducible rfl)
          try simp only [Act.put, List.setIfInBounds_toArray, List.set_cons_zero, List.set_cons_succ]
          refine takeD (i := 5) (d := some 18) (v := ?_) rfl rfl (by kernel_rfl) (by kernel_rfl) (by kernel_rfl) (fun _ _ _ h => h) (Or.inl ⟨by rfl, ?_⟩) (by assumption) ?_
          rotate_left
          · intro wS hSw; (try dsimp only at hSw); go_simp; (try with_reducible rfl)
          try simp only [Act.put, List.setIfInBounds_toArray, List.set_cons_zero, List.set_cons_succ]
          refine takeD (i := 6) (d := some 19) (v := ?_) rfl rfl (by kernel_rfl) (by kernel_rfl) (by kernel_rfl) (fun _ _ _ h => h) (Or.inl ⟨by rfl, ?_⟩) (by assumption) ?_
          rotate_left
          · intro wS hSw; (try dsimp only at hSw); go_simp; (try with_reducible rfl)
          try simp only [Act.put, List.setIfInBounds_toArray, List.set_cons_zero, List.set_cons_succ]
          refine takeD (i := 7) (d := some 20) (v := ?_) rfl rfl (by kernel_rfl) (by kernel_rfl) (by kernel_rfl) (fun _ _ _ h => h) (Or.inl ⟨by rfl, ?_⟩) (by assumption) ?_
          rotate_left
          · intro wS hSw; (try dsimp only at hSw); go_simp; (try with_reducible rfl)
          try simp only [Act.put, List.setIfInBounds_toArray, List.set_cons_zero, List.set_cons_succ]
          refine takeD (i := 8) (d := some 21) (v := ?_) rfl rfl (by kernel_rfl) (by kernel_rfl) (by kernel_rfl) (fun _ _ _ h => h) (Or.inl ⟨by rfl, ?_⟩) (by assumption) ?_
          rotate_left
          · intro wS hSw; (try dsimp only at hSw); go_simp; (try with_reducible rfl)
          try simp only [Act.put, List.setIfInBounds_toArray, List.set_cons_zero, List.set_cons_succ]
          refine takeD (i := 9) (d := some 22) (v := ?_) rfl rfl (by kernel_rfl) (by kernel_rfl) (by kernel_rfl) (fun _ _ _ h => h) (Or.inl ⟨by rfl, ?_⟩) (by assumption) ?_
          rotate_left
          · intro wS hSw; (try dsimp only at hSw); go_simp; (try with_reducible rfl)
          try simp only [Act.put, List.setIfInBounds_toArray, List.set_cons_zero, List.set_cons_succ]
          refine takeD (i := 10) (d := some 23) (v := ?_) rfl rfl (by kernel_rfl) (by kernel_rfl) (by kernel_rfl) (fun _ _ _ h => h) (Or.inl ⟨by rfl, ?_⟩) (by assumption) ?_
          rotate_left
          · intro wS hSw; (try dsimp only at hSw); go_simp; (try with_reducible rfl)
          try simp only [Act.put, List.setIfInBounds_toArray, List.set_cons_zero, List.set_cons_succ]
          refine takeD (i := 13) (d := some 26) (v := ?_) rfl rfl (by kernel_rfl) (by kernel_rfl) (by kernel_rfl) (fun _ _ _ h => h) (Or.inl ⟨by rfl, ?_⟩) (by assumption) ?_
          rotate_left
          · intro wS hSw; (try dsimp only at hSw); go_simp; (try with_reducible rfl)
          try simp only [Act.put, List.setIfInBounds_toArray, List.set_cons_zero, List.set_cons_succ]
          refine wpAnyH_ready (rs := [11]) (by kernel_rfl) (by simp) ?_
          refine consD (d := some 24) rfl rfl (fun K hK => ?_) AllReadyH.nil
          go_simp
          (go_at_call 26; (with_reducible refine (CM.out _ hd2).mono ?_); rintro e w3 ⟨rfl, hbw3⟩)
          have hd3 : DIn p lim st w3 := hd2.call ok hbw3
          have hdc3 := DC_call hdc2 (by have := hd2.size; omega) hbw3
          have hk3 := Kp.call hk2 (by have := hd2.size; omega) hbw3
          refine hK.out _ _ hdc3 (fun hHeld => ?_)
          clear hK K
          try simp only [Act.put, List.setIfInBounds_toArray, List.set_cons_zero, List.set_cons_succ]
          refine takeD (i := 12) (d := some 25) (v := .int .i64 (tot + M)) rfl rfl (by kernel_rfl) (by kernel_rfl) (by kernel_rfl) (fun _ _ _ h => h) (Or.inl ⟨by rfl, ?_⟩) (by assumption) ?_
          · intro wS hSw; (try dsimp only at hSw); go_simp; (try simp [hwr]); (try with_reducible rfl)
          try simp only [Act.put, List.setIfInBounds_toArray, List.set_cons_zero, List.set_cons_succ]
          refine takeD (i := 14) (d := some 27) (v := .bool true) rfl rfl (by kernel_rfl) (by kernel_rfl) (by kernel_rfl) (fun _ _ _ h => h) (Or.inl ⟨by rfl, ?_⟩) (by assumption) ?_
          · intro wS hSw; (try dsimp only at hSw); go_simp; (try simp [hgt]); (try with_reducible rfl)
          try simp only [Act.put, List.setIfInBounds_toArray, List.set_cons_zero, List.set_cons_succ]
          refine takeD (i := 15) (d := some 28) (v := ?_) rfl rfl (by kernel_rfl) (by kernel_rfl) (by kernel_rfl) (fun _ _ _ h => h) (Or.inl ⟨by rfl, ?_⟩) (by assumption) ?_
          rotate_left
          · intro wS hSw; (try dsimp only at hSw); go_simp; (try with_reducible rfl)
          try simp only [Act.put, List.setIfInBounds_toArray, List.set_cons_zero, List.set_cons_succ]
          refine takeD (i := 16) (d := some 29) (v := ?_) rfl rfl (by kernel_rfl) (by kernel_rfl) (by kernel_rfl) (fun _ _ _ h => h) (Or.inl ⟨by rfl, ?_⟩) (by assumption) ?_
          rotate_left
          · intro wS hSw; (try dsimp only at hSw); go_simp; (try with_reducible rfl)
          try simp only [Act.put, List.setIfInBounds_toArray, List.set_cons_zero, List.set_cons_succ]
          refine wpAnyH_done (by kernel_rfl) ?_ _
          go_wp2_with fail
          go_meet
          exact ⟨rfl, hd3, hk3⟩
        · obtain rfl : c0 = false := by rw [← HC0.out, stopH, hs, hbe, hM]; simp [hgt]
          clear hs hbe HBV hM
          refine wp_region_held_drew (S := fun W => W.cell? ⟨p.bb + 3, 0, none⟩ = some (.map (some (p.bb + 2))) ∧ W.cell? ⟨p.bL + 1, 0, none⟩ = some (.slice (some ⟨p.bL, 0, none⟩) p.N p.N) ∧ W.cell? ⟨p.bb, 0, none⟩ = some (.slice (some ⟨gb, 0, none⟩) p.N cb) ∧ W.cell? ⟨p.ba, 0, none⟩ = some (.slice p.A p.all.length p.ca) ∧ W.cell? ⟨p.bb + 1, 0, none⟩ = some (.int .i64 st.low)) (by kernel_rfl) hdc1 (fun hHeld => ?_)
          refine takeD (i := 0) (d := some 13) (v := ?_) rfl rfl (by kernel_rfl) (by kernel_rfl) (by kernel_rfl) (fun _ _ _ h => h) (Or.inl ⟨by rfl, ?_⟩) (by assumption) ?_
          rotate_left
          · intro wS hSw; (try dsimp only at hSw); go_simp; (try with_reducible rfl)
          try simp only [Act.put, List.setIfInBounds_toArray, List.set_cons_zero, List.set_cons_succ]
          refine takeD (i := 1) (d := some 14) (v := ?_) rfl rfl (by kernel_rfl) (by kernel_rfl) (by kernel_rfl) (fun _ _ _ h => h) (Or.inl ⟨by rfl, ?_⟩) (by assumption) ?_
          rotate_left
          · intro wS hSw; (try dsimp only at hSw); go_simp; (try with_reducible rfl)
          try simp only [Act.put, List.setIfInBounds_toArray, List.set_cons_zero, List.set_cons_succ]
          refine wpAnyH_ready (rs := [2]) (by kernel_rfl) (by simp) ?_
          refine consD (d := some 15) rfl rfl (fun K hK => ?_) AllReadyH.nil
          go_simp
          (go_at_call 25; (with_reducible refine (CK.out _ hd1).mono ?_); rintro e w2 ⟨rfl, hbw2⟩)
          have hd2 : DIn p lim st w2 := hd1.call ok hbw2
          have hdc2 := DC_call hdc1 (by omega) hbw2
          have hk2 := Kp.call hk1 (by omega) hbw2
          refine hK.out _ _ hdc2 (fun hHeld => ?_)
          clear hK K
          try simp only [Act.put, List.setIfInBounds_toArray, List.set_cons_zero, List.set_cons_succ]
          refine wpAnyH_ready (rs := [3]) (by kernel_rfl) (by simp) ?_
          refine consD (d := some 16) rfl rfl (fun K hK => ?_) AllReadyH.nil
          refine want_if (by rfl) ?_
          refine oper_look_set (some 16) rfl (.tmp 13) (.tmp 15) 50 rfl 9 4 Tryd.underlying50 Tryd.underlying9 (zeroB _) (p.bb + 2) (ksL st.seen) rfl hd2.seenm (.string ⟨(keyL lim).toArray⟩) rfl trivial false HM.out ?_
          refine hK.out _ _ hdc2 (fun hHeld => ?_)
          clear hK K
          try simp only [Act.put, List.setIfInBounds_toArray, List.set_cons_zero, List.set_cons_succ]
          refine takeD (i := 4) (d := some 17) (v := ?_) rfl rfl (by kernel_rfl) (by kernel_rfl) (by kernel_rfl) (fun _ _ _ h => h) (Or.inl ⟨by rfl, ?_⟩) (by assumption) ?_
          rotate_left
          · intro wS hSw; (try dsimp only at hSw); go_simp; (try with_reducible rfl)
          try simp only [Act.put, List.setIfInBounds_toArray, List.set_cons_zero, List.set_cons_succ]
          refine takeD (i := 5) (d := some 18) (v := ?_) rfl rfl (by kernel_rfl) (by kernel_rfl) (by kernel_rfl) (fun _ _ _ h => h) (Or.inl ⟨by rfl, ?_⟩) (by assumption) ?_
          rotate_left
          · intro wS hSw; (try dsimp only at hSw); go_simp; (try with_reducible rfl)
          try simp only [Act.put, List.setIfInBounds_toArray, List.set_cons_zero, List.set_cons_succ]
          refine takeD (i := 6) (d := some 19) (v := ?_) rfl rfl (by kernel_rfl) (by kernel_rfl) (by kernel_rfl) (fun _ _ _ h => h) (Or.inl ⟨by rfl, ?_⟩) (by assumption) ?_
          rotate_left
          · intro wS hSw; (try dsimp only at hSw); go_simp; (try with_reducible rfl)
          try simp only [Act.put, List.setIfInBounds_toArray, List.set_cons_zero, List.set_cons_succ]
          refine takeD (i := 7) (d := some 20) (v := ?_) rfl rfl (by kernel_rfl) (by kernel_rfl) (by kernel_rfl) (fun _ _ _ h => h) (Or.inl ⟨by rfl, ?_⟩) (by assumption) ?_
          rotate_left
          · intro wS hSw; (try dsimp only at hSw); go_simp; (try with_reducible rfl)
          try simp only [Act.put, List.setIfInBounds_toArray, List.set_cons_zero, List.set_cons_succ]
          refine takeD (i := 8) (d := some 21) (v := ?_) rfl rfl (by kernel_rfl) (by kernel_rfl) (by kernel_rfl) (fun _ _ _ h => h) (Or.inl ⟨by rfl, ?_⟩) (by assumption) ?_
          rotate_left
          · intro wS hSw; (try dsimp only at hSw); go_simp; (try with_reducible rfl)
          try simp only [Act.put, List.setIfInBounds_toArray, List.set_cons_zero, List.set_cons_succ]
          refine takeD (i := 9) (d := some 22) (v := ?_) rfl rfl (by kernel_rfl) (by kernel_rfl) (by kernel_rfl) (fun _ _ _ h => h) (Or.inl ⟨by rfl, ?_⟩) (by assumption) ?_
          rotate_left
          · intro wS hSw; (try dsimp only at hSw); go_simp; (try with_reducible rfl)
          try simp only [Act.put, List.setIfInBounds_toArray, List.set_cons_zero, List.set_cons_succ]
          refine takeD (i := 10) (d := some 23) (v := ?_) rfl rfl (by kernel_rfl) (by kernel_rfl) (by kernel_rfl) (fun _ _ _ h => h) (Or.inl ⟨by rfl, ?_⟩) (by assumption) ?_
          rotate_left
          · intro wS hSw; (try dsimp only at hSw); go_simp; (try with_reducible rfl)
          try simp only [Act.put, List.setIfInBounds_toArray, List.set_cons_zero, List.set_cons_succ]
          refine takeD (i := 13) (d := some 26) (v := ?_) rfl rfl (by kernel_rfl) (by kernel_rfl) (by kernel_rfl) (fun _ _ _ h => h) (Or.inl ⟨by rfl, ?_⟩) (by assumption) ?_
          rotate_left
          · intro wS hSw; (try dsimp only at hSw); go_simp; (try with_reducible rfl)
          try simp only [Act.put, List.setIfInBounds_toArray, List.set_cons_zero, List.set_cons_succ]
          refine wpAnyH_ready (rs := [11]) (by kernel_rfl) (by simp) ?_
          refine consD (d := some 24) rfl rfl (fun K hK => ?_) AllReadyH.nil
          go_simp
          (go_at_call 26; (with_reducible refine (CM.out _ hd2).mono ?_); rintro e w3 ⟨rfl, hbw3⟩)
          have hd3 : DIn p lim st w3 := hd2.call ok hbw3
          have hdc3 := DC_call hdc2 (by have := hd2.size; omega) hbw3
          have hk3 := Kp.call hk2 (by have := hd2.size; omega) hbw3
          refine hK.out _ _ hdc3 (fun hHeld => ?_)
          clear hK K
          try simp only [Act.put, List.setIfInBounds_toArray, List.set_cons_zero, List.set_cons_succ]
          refine takeD (i := 12) (d := some 25) (v := .int .i64 (tot + M)) rfl rfl (by kernel_rfl) (by kernel_rfl) (by kernel_rfl) (fun _ _ _ h => h) (Or.inl ⟨by rfl, ?_⟩) (by assumption) ?_
          · intro wS hSw; (try dsimp only at hSw); go_simp; (try simp [hwr]); (try with_reducible rfl)
          try simp only [Act.put, List.setIfInBounds_toArray, List.set_cons_zero, List.set_cons_succ]
          refine takeD (i := 14) (d := some 27) (v := .bool false) rfl rfl (by kernel_rfl) (by kernel_rfl) (by kernel_rfl) (fun _ _ _ h => h) (Or.inl ⟨by rfl, ?_⟩) (by assumption) ?_
          · intro wS hSw; (try dsimp only at hSw); go_simp; (try simp [hgt]); (try with_reducible rfl)
          try simp only [Act.put, List.setIfInBounds_toArray, List.set_cons_zero, List.set_cons_succ]
          refine takeD (i := 15) (d := some 28) (v := ?_) rfl rfl (by kernel_rfl) (by kernel_rfl) (by kernel_rfl) (fun _ _ _ h => h) (Or.inl ⟨by rfl, ?_⟩) (by assumption) ?_
          rotate_left
          · intro wS hSw; (try dsimp only at hSw); go_simp; (try with_reducible rfl)
          try simp only [Act.put, List.setIfInBounds_toArray, List.set_cons_zero, List.set_cons_succ]
          refine takeD (i := 16) (d := some 29) (v := ?_) rfl rfl (by kernel_rfl) (by kernel_rfl) (by kernel_rfl) (fun _ _ _ h => h) (Or.inl ⟨by rfl, ?_⟩) (by assumption) ?_
          rotate_left
          · intro wS hSw; (try dsimp only at hSw); go_simp; (try with_reducible rfl)
          try simp only [Act.put, List.setIfInBounds_toArray, List.set_cons_zero, List.set_cons_succ]
          refine wpAnyH_done (by kernel_rfl) ?_ _
          go_wp2_with fail
          go_meet
          exact ⟨rfl, hd3, hk3⟩
  case rest =>
    obtain ⟨rfl, hD1, hK1⟩ := hcut
    cases c0 with
    | true =>
      go_wp2_with fail
      go_returns
      exact ⟨rfl, by rw [deep_stop HC0.out]; exact hD1, hK1⟩
    | false =>
      have hkey := deep_key (hD1.drew ok) ok
      have hkd : Kp p w wc.drew := hK1.drew
      have hzc : p.bL ≤ wc.drew.heap.size := by have h := hD1.size; show p.bL ≤ wc.heap.size; omega
      clear CK CM HM hdc hbf HBV HD
      have hs0 := hD1.seenv
      have hl0 := hD1.limv
      go_wp2_with fail
      refine wp_region_held_drew (S := fun W => W.cell? ⟨p.bb + 3, 0, none⟩ = some (.map (some (p.bb + 2))) ∧ W.cell? ⟨p.bL + 1, 0, none⟩ = some (.slice (some ⟨p.bL, 0, none⟩) p.N p.N)) (by kernel_rfl) ⟨hs0, hl0⟩ (fun hHeld => ?_)
      refine takeD (i := 0) (d := some 30) (v := ?_) rfl rfl (by kernel_rfl) (by kernel_rfl) (by kernel_rfl) (fun _ _ _ h => h) (Or.inl ⟨by rfl, ?_⟩) (by assumption) ?_
      rotate_left
      · intro wS hSw; (try dsimp only at hSw); go_simp; (try with_reducible rfl)
      try simp only [Act.put, List.setIfInBounds_toArray, List.set_cons_zero, List.set_cons_succ]
      refine takeD (i := 1) (d := some 31) (v := ?_) rfl rfl (by kernel_rfl) (by kernel_rfl) (by kernel_rfl) (fun _ _ _ h => h) (Or.inl ⟨by rfl, ?_⟩) (by assumption) ?_
      rotate_left
      · intro wS hSw; (try dsimp only at hSw); go_simp; (try with_reducible rfl)
      try simp only [Act.put, List.setIfInBounds_toArray, List.set_cons_zero, List.set_cons_succ]
      refine wpAnyH_ready (rs := [2]) (by kernel_rfl) (by simp) ?_
      refine consD (d := some 32) rfl rfl (fun K hK => ?_) AllReadyH.nil
      go_simp
      (go_at_call 25; (with_reducible refine hkey.mono ?_); rintro e w4 ⟨rfl, hb4⟩)
      have hd4 : DIn p lim st w4 := (hD1.drew ok).call ok hb4
      refine hK.out _ _ ⟨hd4.seenv, hd4.limv⟩ (fun hHeld => ?_)
      clear hK K
      try simp only [Act.put, List.setIfInBounds_toArray, List.set_cons_zero, List.set_cons_succ]
      refine wpAnyH_ready (rs := [3]) (by kernel_rfl) (by simp) ?_
      refine consD (d := none) rfl rfl (fun K hKK => ?_) AllReadyH.nil
      refine want_if (by rfl) ?_
      refine oper_put_set none rfl (.tmp 30) (.tmp 32) (.const (.bool true)) 50 rfl 9 4 Tryd.underlying50 Tryd.underlying9 (p.bb + 2) (ksL st.seen) rfl hd4.seenm (.string ⟨(keyL lim).toArray⟩) rfl rfl trivial ?_
      intro w5 hS5 hg5
      have hd5 := hd4.put ok hd4.lims hg5 hS5
      refine hKK.out _ _ ⟨hd5.seenv, hd5.limv⟩ (fun hHeld => ?_)
      try simp only [Act.put, List.setIfInBounds_toArray, List.set_cons_zero, List.set_cons_succ]
      refine wpAnyH_done (by kernel_rfl) ?_ _
      have hk5 : Kp p w w5 := (hkd.call hzc hb4).put ok hd4.size hg5
      obtain ⟨st1, hst1⟩ : ∃ s, (⟨lim :: st.seen, st.best, st.low⟩ : StH) = s := ⟨_, rfl⟩
      rw [hst1] at hd5
      have hbe1 : st1.best = st.best := by rw [← hst1]
      have hlw1 : st1.low = st.low := by rw [← hst1]
      have HST1 := Lib.hid hst1
      have HB1 := Lib.hid (And.intro hbe1 hlw1)
      clear hst1 hbe1 hlw1 hS5 hg5 hd4 hkd hzc hs0 hl0 hK1 hD1 hb4 hHeld hKK
      have hav := hd5.allv
      go_wp2_with fail
      refine (deep_index hd5 ok).mono ?_
      rintro e w6 ⟨hor, hb6⟩
      have hd6 := hd5.call ok hb6
      have hk6 : Kp p w w6 := hk5.call (by have h := hd5.size; omega) hb6
      clear hd5 hk5 hb6 hav
      rcases hor with ⟨rfl, hf⟩ | ⟨k, l, rfl, hkl, hf⟩
      · have HN := Lib.hid (deep_none (f := f) HC0.out hf)
        clear hf
        obtain ⟨bv6, ⟨-, hl6, hc6, -, hw6⟩, hbv6, hbf6⟩ := DC_of hd6
        have HBV6 := Lib.hid hbv6
        obtain ⟨tk, htk⟩ : ∃ t, takesH lim tot st = t := ⟨_, rfl⟩
        have HTK := Lib.hid htk
        clear htk hbv6
        rw [HB1.out.2] at hw6
        go_upto_region 4 with fail
        go_cut [50] from 38 to 50 (fun v wx => v = .bool tk ∧ wx = w6)
        case first =>
          cases hbe : st.best with
          | none =>
            obtain rfl : bv6 = .slice none 0 0 := by have h := HBV6.out; rw [HB1.out.1, hbe] at h; exact h
            obtain rfl : tk = true := by rw [← HTK.out, takesH, hbe]
            go_wp2_with fail
            rw [Lib.run_eql_slice_nil _ 22 3 _ _ _ _ _ Tryd.underlying22]
            go_wp2_with fail
            go_meet
            exact ⟨rfl, rfl⟩
          | some bs =>
            have hbv6 := HBV6.out
            rw [HB1.out.1, hbe] at hbv6
            obtain ⟨gb, cb, rfl, hcb, hgb, hgs, hcell, hlb⟩ := hbv6
            by_cases hlt : tot < st.low
            · obtain rfl : tk = true := by rw [← HTK.out, takesH, hbe]; simp [hlt]
              go_wp2_with fail
              rw [Lib.run_eql_slice_nil _ 22 3 _ _ _ _ _ Tryd.underlying22]
              go_wp2_with fail
              go_meet
              exact ⟨rfl, rfl⟩
            · have hcmp := deep_cmp hd6 ok (A' := some ⟨gb, 0, none⟩) (c' := cb) (B := gb + 1) (b := bs) ⟨by simp, fun _ => ⟨gb, 0, rfl, by omega, fun j u hu => by rw [Nat.zero_add]; exact hcell j u hu⟩⟩ hlb
              have htk2 : tk = lexLt lim bs := by rw [← HTK.out, takesH, hbe]; simp [hlt]
              have HTK2 := Lib.hid htk2
              clear htk2 hcell hbe
              go_wp2_with fail
              rw [Lib.run_eql_slice_nil _ 22 3 _ _ _ _ _ Tryd.underlying22]
              go_wp2_with fail
              refine hcmp.mono ?_
              rintro e w7 ⟨⟨r, rfl, hr⟩, rfl⟩
              rw [← HTK2.out] at hr
              by_cases hr0 : r < 0
              · obtain rfl : tk = true := by rw [← hr]; simp [hr0]
                clear hr
                go_wp2_with fail
                go_meet
                exact ⟨rfl, rfl⟩
              · obtain rfl : tk = false := by rw [← hr]; simp [hr0]
                clear hr
                go_wp2_with fail
                go_meet
                exact ⟨by rw [decide_eq_false (show ¬ tot < st.low by omega), decide_eq_false (show ¬ r < 0 by omega)]; rfl, rfl⟩
        case rest =>
          obtain ⟨rfl, rfl⟩ := hcut
          cases tk with
          | true =>
            go_wp2_with fail
            refine (deep_clone hd6 ok).mono ?_
            rintro e w7 ⟨⟨g, cap, rfl, hcap, hg, hgs, hcl⟩, hb7⟩
            have hd7 := hd6.call ok hb7
            have hk7 : Kp p w w7 := hk6.call (by have h := hd6.size; omega) hb7
            have hT := hd7.take (tot := tot) ok (by have h := hd6.size; omega) hgs hcap hcl
            have HT := Lib.hid hT
            obtain ⟨bv7, ⟨-, -, hc7, -, hw7⟩, -, hbf7⟩ := DC_of hd7
            have hlf7 := hd7.lowv.2 0
            clear hT hcl hl6 hc6 hw6 hbf6
            go_wp2_with fail
            go_returns
            exact ⟨rfl, by rw [HN.out, if_pos HTK.out]; have h := HT.out; rw [← HST1.out] at h; exact h, (hk7.set (ad := ⟨p.bb, 0, none⟩) (show p.bL ≤ p.bb by omega) (show p.bb < p.bb + 5 by omega) _).set (ad := ⟨p.bb + 1, 0, none⟩) (show p.bL ≤ p.bb + 1 by omega) (show p.bb + 1 < p.bb + 5 by omega) _⟩
          | false =>
            go_wp2_with fail
            go_returns
            exact ⟨rfl, by rw [HN.out, if_neg (by rw [HTK.out]; decide), HST1.out]; exact hd6, hk6⟩
      · have HN := Lib.hid (deep_some (f := f) HC0.out hf)
        have hmem := List.mem_of_getElem? hkl
        have HW := Lib.hid (ok.ways l hmem)
        have hw0 := ok.ways0 l hmem
        have hnh : hitC lim l = false := by have h := List.find?_some hf; simpa using h
        have HNH := Lib.hid hnh
        have HMEM := Lib.hid hmem
        have hkn : k < p.all.length := (List.getElem?_eq_some_iff.1 hkl).1
        have hkn2 : (k : Int) < (p.all.length : Int) := by omega
        obtain ⟨b, off, Al, cl, hA, hbA, hcA, hcl, hrA⟩ := rdWW_at hd6.rda hkl
        have hav6 := hd6.allv
        rw [hA] at hav6
        have hcn := clonew_any Al cl p.hi l w6 hrA hw0.1 (by omega)
        clear hf hmem hnh hkl hrA
        go_wp2_with fail
        refine hcn.mono ?_
        rintro e w7 ⟨⟨g, cap, rfl, hcap, hg6, hg7, hown⟩, hb7⟩
        have hd7 := hd6.call ok hb7
        have hz6 := hd6.size
        have hsrt := sort_any (some ⟨p.bL, 0, none⟩) p.N (p.bL + 1) (p.bL + 1) g cap lim l w7 hd7.rd (by omega) hd7.lims (by rw [hd7.len]; omega) (by rw [hd7.len]; exact hd7.limv) (by omega) hown hg7 (fun x hx => by rw [hd7.len]; exact HW.out.1 x hx) hw0.1 hw0.2 hcap
        clear hcn hav6 hcA
        go_wp2_with fail
        refine hsrt.mono ?_
        rintro e w8 ⟨rfl, hown8, hb8⟩
        have hb68 : Below w6.heap.size w6 w8 := hb7.trans (hb8.mono hg6)
        have hd8 := hd6.call ok hb68
        have hk8 : Kp p w w8 := hk6.call (by omega) hb68
        have hg8 : g < w8.heap.size := by have h := hb8.size; omega
        obtain ⟨R, hR⟩ : ∃ R, SRT lim l = R := ⟨_, rfl⟩
        have hown9 : OwnW w8 g R := by rw [← hR]; exact hown8
        have HR := Lib.hid hR
        have HRL := Lib.hid (show R.length = l.length by rw [← hR]; exact srt_len _ _)
        have HRM := Lib.hid (show ∀ x ∈ R, x ∈ l by intro x hx; rw [← hR] at hx; exact (SRT_mem lim l x).1 hx)
        have hst0 : LpAt p f lim tot st1 R g 0 w w8 := ⟨hd8, hk8, hown9, hg8⟩
        have HST0 := Lib.hid hst0
        clear hst0 hown9 hown8 hown hsrt hR hd8 hk8 hb68 hb8 hb7 hd7 hd6 hk6
        generalize hnl : l.length = n at *
        clear hnl
        go_wp2_with fail
        go_loopg [11, 12, 64] n (fun k2 _ _ i wr => ∃ k : Nat, k + k2 = n ∧ i = .int .i64 k ∧ LpAt p f lim tot st1 R g k w wr)
        case atStart => exact ⟨0, by omega, rfl, HST0.out⟩
        case round =>
          obtain ⟨j, hj, rfl, hst⟩ := hrel
          have HSJ := Lib.hid hst
          clear HST0 hst
          by_cases hjn : j < n
          · have i1 : (j : Int) < (n : Int) := by omega
            have hjl : j < R.length := by rw [HRL.out]; exact hjn
            have hxe : R[j]? = some R[j] := List.getElem?_eq_getElem hjl
            have hxl := HRM.out _ (List.getElem_mem hjl)
            generalize R[j] = x at *
            obtain ⟨hx1, hx2, hx3⟩ := HW.out.1 x hxl
            obtain ⟨hdj, hkj, hoj, hgj⟩ := HSJ.out
            obtain ⟨q0, q1⟩ := ownW_at hoj hxe
            have HXE := Lib.hid (fold_take (all := p.all) (f := f) (lim := lim) (tot := tot) (st := st1) hxe)
            have hnx : hitW lim x = false := by
              cases hh : hitW lim x
              · rfl
              · have h := HNH.out; rw [show hitC lim l = true from List.any_eq_true.2 ⟨x, hxl, hh⟩] at h; cases h
            have hmu := mu_step (lim := lim) (ws := p.all.flatten) (List.mem_flatten.2 ⟨l, HMEM.out, hxl⟩) hnx (by rw [HLEN.out]; exact hx1)
            have HMU2 := Lib.hid (show muH (lim.set x.1 x.2) p.all.flatten < f by have h := HMU.out; omega)
            have HSUM := Lib.hid (show tot + x.2 - lim.getD x.1 0 = (lim.set x.1 x.2).sum by rw [set_sum _ (by rw [HLEN.out]; exact hx1), HTOT.out])
            have HBK := Lib.hid (set_back (lim := lim) x.2 (show x.1 < lim.length by rw [HLEN.out]; exact hx1))
            obtain ⟨l0, l1⟩ := lim_at hdj.lims x.1
            have hlvj := hdj.limv
            have hdvj := hdj.deepv
            have hcu : wr.cell? ⟨p.bL, x.1, none⟩ = some (.int .i64 (lim.getD x.1 0)) := by
              refine hdj.row.1 x.1 _ ?_
              rw [List.getElem?_map, List.getD_eq_getElem?_getD, List.getElem?_eq_getElem (show x.1 < lim.length by rw [HLEN.out]; exact hx1)]
              rfl
            have hfu := hdj.row.2 x.1
            have HDJ := Lib.hid hdj
            have HOJ := Lib.hid hoj
            have hzj := hdj.size
            have i2 : (x.1 : Int) < (p.N : Int) := by omega
            clear hjl hxe hxl hnx hmu hdj hoj
            generalize hlv : lim.getD x.1 0 = lv at *
            have HLV := Lib.hid hlv
            clear hlv
            have hbx := box_below wr (.cells #[.int .i64 (x.1 : Nat), .int .i64 x.2] 61)
            go_upto_region 11 with fail
            generalize hW1 : wr.alloc _ = W1 at *
            have hd1 := HDJ.out.call ok hbx
            have hk1 := hkj.call (by omega) hbx
            have ho1 : OwnW W1 g R := ownW_below HOJ.out hbx hgj
            have hbox : Own W1 wr.heap.size [.int .i64 (x.1 : Nat), .int .i64 x.2] := by rw [← hW1]; exact own_new wr [.int .i64 (x.1 : Nat), .int .i64 x.2] 61
            have hz1 : wr.heap.size < W1.heap.size := by rw [← hW1]; simp
            have y0 := hbox.1 0 _ rfl
            have y1 := hbox.1 1 _ rfl
            have hlv1 := hd1.limv
            have hdv1 := hd1.deepv
            have hcu1 := (hbx.cell (p := ⟨p.bL, x.1, none⟩) (show p.bL < wr.heap.size by omega)).trans hcu
            have hfu1 := hd1.row.2 x.1
            clear hlvj hdvj hcu hfu hW1
            go_wp2_with fail
            have hd2 := hd1.set ok hx1 ⟨hx2, hx3⟩
            refine (HIH.out _ (tot + x.2 - lv) _ _ hd2 HMU2.out HSUM.out).mono ?_
            rintro e w3 ⟨rfl, hd3, hk3⟩
            have hz2 : (W1.setCell ⟨p.bL, x.1, none⟩ (.int .i64 x.2)).heap.size = W1.heap.size := by simp
            have hbxs : ∀ b, p.bb + 5 ≤ b → b < W1.heap.size → w3.heap[b]? = W1.heap[b]? := fun b h1 h2 => (hk3.top b h1 (by omega)).trans (Below.heap_setCell W1 ⟨p.bL, x.1, none⟩ _ b (show b ≠ p.bL by omega))
            have hbox3 := own_same hbox (hbxs _ (by omega) hz1)
            have ho3 : OwnW w3 g R := own_same ho1 (hbxs g (by omega) (by omega))
            have y0 := hbox3.1 0 _ rfl
            have y1 := hbox3.1 1 _ rfl
            have hlv3 := hd3.limv
            have hcu3 : w3.cell? ⟨p.bL, x.1, none⟩ = some (.int .i64 x.2) := by
              refine hd3.row.1 x.1 _ ?_
              rw [List.getElem?_map, List.getElem?_set_self (by rw [HLEN.out]; exact hx1)]
              rfl
            have hfu3 := hd3.row.2 x.1
            have hk3w : Kp p w w3 := (hk1.set (ad := ⟨p.bL, x.1, none⟩) (Nat.le_refl _) (show p.bL < p.bb + 5 by omega) _).trans hk3
            have hg3 : g < w3.heap.size := by have h := hk3.bel.size; omega
            have hd4 := hd3.set ok hx1 (And.intro l0 l1)
            have HD4 := Lib.hid hd4
            clear hd4 hd3 hd2 hd1 hbox hbox3 hbxs hk3 hk1 hcu1 hfu1 hlv1 hdv1 ho1
            go_wp2_with fail
            go_roundg (n - (j + 1))
            case rel =>
              refine ⟨j + 1, by omega, by go_num, ?_, hk3w.set (ad := ⟨p.bL, x.1, none⟩) (Nat.le_refl _) (show p.bL < p.bb + 5 by omega) _, own_same ho3 (Below.heap_setCell w3 ⟨p.bL, x.1, none⟩ _ g (show g ≠ p.bL by omega)), by simpa using hg3⟩
              have h := HD4.out
              rw [HBK.out] at h
              rw [HXE.out]
              exact h
            case measure => omega
          · obtain rfl : j = n := by omega
            go_wp2_with fail
            go_end0
            exact ⟨rfl, by have h := HSJ.out.1; rw [List.take_of_length_le (by rw [HRL.out]; exact Nat.le_refl _)] at h; rw [HN.out, HR.out, HST1.out]; exact h, HSJ.out.2.1⟩
/-- The closure's contract. -/
theorem deep_any (p : DPar) (ok : DOk p) : ∀ f, Deep p f
  | 0 => fun _ _ _ _ _ h _ => absurd h (Nat.not_lt_zero _)
  | f + 1 => deep_step p ok f (deep_any p ok f)
end Go.Proofs.YtmfdpdnokiidlaaDoor
