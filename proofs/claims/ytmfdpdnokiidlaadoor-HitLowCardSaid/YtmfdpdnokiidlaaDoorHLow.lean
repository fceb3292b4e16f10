/-
  Chapter 36: the walk of hit.Low. Conditions: 1 to 100 rows of 1 to 5 costs from 0 to 2^24; at most 100 cores of at most 12 terms, masks below 32; strconv's table reads as it is laid.
-/
import Derived.Test.YtmfdpdnokiidlaaDoorHLowM
import Derived.Test.YtmfdpdnokiidlaaDoorHCores
import Derived.Deep.OwnRows
namespace Go.Proofs.YtmfdpdnokiidlaaDoor
open Go.ChangeShapes Go.WideShapes Go.ChangeAt Go.RowKit Go.MapKept
set_option linter.unusedVariables false
set_option linter.unusedSimpArgs false

/-- What Low hands back. -/
def LowRet (o : Option (Int × List Int)) (e : Ending) (w' : World) : Prop := match o with
  | none => e = .returned (.tuple #[.int .i64 0, .slice none 0 0, .bool false])
  | some (n, L) => ∃ (g cap : Nat), e = .returned (.tuple #[.int .i64 n, .slice (some ⟨g, 0, none⟩) L.length cap, .bool true]) ∧ L.length ≤ cap ∧ RdI w' w'.heap.size (some ⟨g, 0, none⟩) L
/-- What stands between two rounds of Low's loop over rows. -/
def L1At (w W : World) (t : List (List Int)) (k : Nat) : Prop :=
  Below w.heap.size w W ∧ Own W w.heap.size ((limK t k).map (Value.int .i64)) ∧ Own W (w.heap.size + 1) [.slice (some ⟨w.heap.size, 0, none⟩) t.length t.length] ∧ w.heap.size + 1 < W.heap.size
/-- What stands between two rounds of Low's loop over cores. -/
def L2At (w W : World) (t : List (List Int)) (cores : List (List Tm)) (ba k : Nat) : Prop :=
  L1At w W t t.length ∧ w.heap.size + 1 < ba ∧ ba < W.heap.size ∧ (∃ v : Value, Own W ba [v] ∧ AllAt W (ba + 1) v ((cores.take k).map (raisesP t))) ∧ ∀ c ∈ cores.take k, (raisesP t c).isEmpty = false
theorem mk_zero (n : Nat) (h : n ≤ 100) : ∃ C : Array Value, C = (List.replicate n (Value.int .i64 0)).toArray ∧ ∀ w, (Instr.makeSlice 22 (.int .i64 (n : Nat)) (.int .i64 (n : Nat))).run Tryd.prog w = .ok (.slice (some ⟨w.heap.size, 0, none⟩) n n) (w.alloc (.cells C 3)) := by
  obtain ⟨j0, hj0, hy0, hy1, hy2⟩ := info_parts info_int
  refine ⟨madeCells #[.int .i64 0] n, ?_, fun w => ?_⟩
  · rw [← toList_madeCells_one]
  · exact run_make_row 22 3 j0 (.int .i64 0) Tryd.underlying22 hj0 hy0 hy1 rfl .i64 .i64 n (by rw [hy2]; omega) (by omega) w
theorem own_slice {w : World} {base n size : Nat} {e : TypeId} {v : Value} {xs : List Value} (h : w.ownsRow base e size v n xs) : ∃ A cap, v = .slice A n cap ∧ n ≤ cap := by
  rcases h.2 with ⟨e, h0⟩ | ⟨g, cap, cur, e, _, _, hcap, _⟩
  · exact ⟨none, 0, by rw [e, h0], by omega⟩
  · exact ⟨_, cap, e, hcap⟩
set_option maxRecDepth 8192 in
set_option maxHeartbeats 8000000 in
theorem low_any (A A2 : Option Addr) (c c2 B : Nat) (t : List (List Int)) (cores : List (List Tm)) (w : World) (h : RdT w B A t) (h2 : RdKK w B A2 cores) (hB : B ≤ w.heap.size) (ht0 : 0 < t.length ∧ t.length ≤ 100) (ht : TabOk t)
    (hx : ∀ k ∈ cores, (∀ x ∈ k, x.u ≤ 1000000 ∧ x.m < 32) ∧ k.length ≤ 12) (hc : cores.length ≤ 100) (htab : Tab w) :
    Calls Tryd.prog 12 #[.slice A t.length c, .slice A2 cores.length c2] w fun e w' => LowRet (lowP SRT t cores) e w' ∧ Below w.heap.size w w' := by
  obtain ⟨C, hC, hmk⟩ := mk_zero t.length ht0.2
  obtain ⟨s0, hs0, hz0, hz1, hz2⟩ := info_parts info_ways
  have HS := Lib.hid hs0
  have HZ := Lib.hid (And.intro hz0 (And.intro hz1 hz2))
  clear hs0 hz0 hz1 hz2
  have HT := Lib.hid h
  have HK := Lib.hid h2
  have HTO := Lib.hid ht
  have HX := Lib.hid hx
  have HTB := Lib.hid (fun (W : World) (hb : Below w.heap.size w W) => tab_below htab hb)
  have CR := Lib.hid (fun (W : World) (hb : Below w.heap.size w W) (k : List Tm) (hk : k ∈ cores) (A3 : Option Addr) (c3 : Nat) (h3 : RdK W B A3 k) =>
    raises_any A A3 c c3 B t k W (rdT_below h (hb.mono hB)) h3 (Nat.le_trans hB hb.size) (by omega) (fun r hr => (ht r hr).1) (hx k hk).1 (by have := (hx k hk).2; omega))
  have H10 := Lib.hid (show L1At w ((w.alloc (.cells C 3)).alloc (.cells #[.slice (some ⟨w.heap.size, 0, none⟩) t.length t.length] 22)) t 0 from by
    have b1 := box_below w (.cells C 3)
    have b2 := box_below (w.alloc (.cells C 3)) (.cells #[.slice (some ⟨w.heap.size, 0, none⟩) t.length t.length] 22)
    have s1 := alloc_size w (.cells C 3)
    refine ⟨b1.trans (b2.mono (by omega)), ?_, ?_, by rw [alloc_size, s1]; omega⟩
    · have h3 : Own (w.alloc (.cells C 3)) w.heap.size ((limK t 0).map (Value.int .i64)) := by rw [limK_0, List.map_replicate, hC]; exact own_new w _ 3
      exact own_below h3 (by omega) b2
    · rw [← s1]
      exact own_new (w.alloc (.cells C 3)) [.slice (some ⟨w.heap.size, 0, none⟩) t.length t.length] 22)
  clear h h2 ht hx htab
  obtain ⟨LP, hLP⟩ : ∃ o, lowP SRT t cores = o := ⟨_, rfl⟩
  rw [hLP]
  have HLP := Lib.hid hLP
  clear hLP hC
  generalize hn : t.length = n at *
  generalize hm : cores.length = m at *
  have HN := Lib.hid hn
  have HM := Lib.hid hm
  clear hn hm
  obtain ⟨hn0, hn1⟩ := ht0
  go_enter Tryd.func12, Tryd.ntmps12
  go_wp2_with fail
  generalize hW0 : (w.alloc _).alloc _ = W0 at *
  clear hW0 hmk
  go_loopg [8, 9, 10, 24] n (fun k2 s8 _ _ i wr => ∃ k : Nat, k + k2 = n ∧ s8 = .int .i64 (totK t k) ∧ i = .int .i64 k ∧ L1At w wr t k)
  case atStart => exact ⟨0, by omega, rfl, rfl, H10.out⟩
  case round =>
    obtain ⟨k, hk, rfl, rfl, hst⟩ := hrel
    have HST := Lib.hid hst
    clear H10 hst
    by_cases hlt : k < n
    · have i1 : (k : Int) < (n : Int) := by omega
      have hlc : k < t.length := by rw [HN.out]; exact hlt
      have hxk : t[k]? = some t[k] := List.getElem?_eq_getElem hlc
      have hmem := List.getElem_mem hlc
      generalize t[k] = row at *
      obtain ⟨hbel, hrow, hlim, hz⟩ := HST.out
      obtain ⟨b, off, Ai, ci, rfl, hb, hcell, hci, hri⟩ := rdT_at (rdT_below HT.out (hbel.mono hB)) hxk
      obtain ⟨hr0, hr5⟩ := (HTO.out row hmem).1
      obtain ⟨bi, oi, rfl, hbi, _⟩ := rdI_at hri (k := 0) hr0
      have hmb := min_bd HTO.out hmem
      have hmin : Calls Tryd.prog 22 #[.slice (some ⟨bi, oi, none⟩) row.length ci] wr.drew fun e w' => e = .returned (.int .i64 (minR row)) ∧ w' = wr.drew := by
        have hq := Tryd.slices_Min_int bi oi row.length ci row wr.drew hr0 (Nat.le_refl _) (by omega) (fun j hj => ?_)
        · rwa [List.take_length, min_of (tab_ne HTO.out row hmem)] at hq
        · obtain ⟨b2, o2, e2, _, h3⟩ := rdI_at hri hj
          cases e2
          exact h3
      have HSET := Lib.hid (limK_set hxk)
      have HTS := Lib.hid (totK_succ hxk)
      have htb := totK_bd HTO.out k (by omega)
      have hll := limK_len t k (by omega)
      rw [HN.out] at hll
      have hlv : wr.cell? ⟨w.heap.size + 1, 0, none⟩ = some (.slice (some ⟨w.heap.size, 0, none⟩) n n) := by have h := hlim.1 0 _ rfl; rwa [HN.out] at h
      have hcu : ∃ u, wr.cell? ⟨w.heap.size, k, none⟩ = some u := ⟨_, hrow.1 k _ (by rw [List.getElem?_map, List.getElem?_eq_getElem (by omega)]; rfl)⟩
      obtain ⟨u, hcu⟩ := hcu
      have hfu := hrow.2 k
      have hgl : ((0 : Int) < (row.length : Int)) = True := eq_true (by omega)
      have HRW := Lib.hid hrow
      clear hxk hmem hlc hri hrow
      generalize minR row = mr at *
      generalize row.length = rl at *
      go_wp2_with fail
      have hb3 : Below w.heap.size w (wr.drew.setCell ⟨w.heap.size, k, none⟩ (.int .i64 mr)) := hbel.drew.setCell (p := ⟨w.heap.size, k, none⟩) (Nat.le_refl w.heap.size) _
      have HL3 := Lib.hid (show L1At w (wr.drew.setCell ⟨w.heap.size, k, none⟩ (.int .i64 mr)) t (k + 1) from ⟨hb3, by rw [← HSET.out, List.map_set]; exact own_set (own_drew HRW.out) k (by rw [List.length_map, hll]; exact hlt) _, own_set_other (own_drew hlim) (by omega) _, by simpa using hz⟩)
      have hlv2 : (wr.drew.setCell ⟨w.heap.size, k, none⟩ (.int .i64 mr)).cell? ⟨w.heap.size + 1, 0, none⟩ = some (.slice (some ⟨w.heap.size, 0, none⟩) n n) := by have h := HL3.out.2.2.1.1 0 _ rfl; rwa [HN.out] at h
      clear hb3
      refine wp_region_held_drew (S := fun W => W.cell? ⟨w.heap.size + 1, 0, none⟩ = some (.slice (some ⟨w.heap.size, 0, none⟩) n n)) (by kernel_rfl) hlv (fun hHeld => ?_)
      refine takeD (i := 0) (d := some 32) (v := ?_) rfl rfl (by kernel_rfl) (by kernel_rfl) (by kernel_rfl) (fun _ _ _ h => h) (Or.inl ⟨by rfl, ?_⟩) (by assumption) ?_
      rotate_left
      · intro wS hSw; (try dsimp only at hSw); go_simp; (try with_reducible rfl)
      try simp only [Act.put, List.setIfInBounds_toArray, List.set_cons_zero, List.set_cons_succ]
      refine takeD (i := 1) (d := some 33) (v := ?_) rfl rfl (by kernel_rfl) (by kernel_rfl) (by kernel_rfl) (fun _ _ _ h => h) (Or.inl ⟨by rfl, ?_⟩) (by assumption) ?_
      rotate_left
      · intro wS hSw; (try dsimp only at hSw); go_simp; (try with_reducible rfl)
      try simp only [Act.put, List.setIfInBounds_toArray, List.set_cons_zero, List.set_cons_succ]
      refine takeD (i := 2) (d := some 34) (v := ?_) rfl rfl (by kernel_rfl) (by kernel_rfl) (by kernel_rfl) (fun _ _ _ h => h) (Or.inl ⟨by rfl, ?_⟩) (by assumption) ?_
      rotate_left
      · intro wS hSw; (try dsimp only at hSw); go_simp; (try with_reducible rfl)
      try simp only [Act.put, List.setIfInBounds_toArray, List.set_cons_zero, List.set_cons_succ]
      refine wpAnyH_ready (rs := [3]) (by kernel_rfl) (by simp) ?_
      refine consD (d := some 35) rfl rfl (fun K hK => ?_) AllReadyH.nil
      go_simp
      (go_at_call 22; (with_reducible refine hmin.mono ?_); rintro e w2 ⟨rfl, rfl⟩)
      refine hK.out _ _ hlv (fun hHeld => ?_)
      clear hK K
      try simp only [Act.put, List.setIfInBounds_toArray, List.set_cons_zero, List.set_cons_succ]
      refine takeD (i := 4) (d := some 36) (v := ?_) rfl rfl (by kernel_rfl) (by kernel_rfl) (by kernel_rfl) (fun _ _ _ h => h) (Or.inl ⟨by rfl, ?_⟩) (by assumption) ?_
      rotate_left
      · intro wS hSw; (try dsimp only at hSw); go_simp; (try with_reducible rfl)
      try simp only [Act.put, List.setIfInBounds_toArray, List.set_cons_zero, List.set_cons_succ]
      refine wpAnyH_ready (rs := [5]) (by kernel_rfl) (by simp) ?_
      refine consD (d := none) rfl rfl (fun K hK => ?_) AllReadyH.nil
      go_simp
      refine hK.out _ _ hlv2 (fun hHeld => ?_)
      clear hK K
      try simp only [Act.put, List.setIfInBounds_toArray, List.set_cons_zero, List.set_cons_succ]
      refine wpAnyH_done (by kernel_rfl) ?_ _
      go_wp2_with fail
      go_roundg (n - (k + 1))
      case rel => exact ⟨k + 1, by omega, by rw [HTS.out], by go_num, HL3.out⟩
      case measure => omega
    · obtain rfl : k = n := by omega
      obtain ⟨ba, hba⟩ : ∃ b, wr.heap.size = b := ⟨_, rfl⟩
      have HBA := Lib.hid hba
      have H20 := Lib.hid (show L2At w (wr.alloc (.cells #[.slice none 0 0] 47)) t cores ba 0 from by
        obtain ⟨hbel, hrow, hlim, hz⟩ := HST.out
        have hbx := box_below wr (.cells #[.slice none 0 0] 47)
        refine ⟨⟨hbel.trans (hbx.mono hbel.size), ?_, own_below hlim hz hbx, ?_⟩, by omega, by rw [alloc_size]; omega, ⟨.slice none 0 0, by rw [← hba]; exact own_new wr [.slice none 0 0] 47, [], World.ownsRow_nil _ _ _ _, fun i r hr => by simp at hr⟩, fun c hc => by simp at hc⟩
        · rw [HN.out]; exact own_below hrow (by omega) hbx
        · rw [alloc_size]; omega)
      clear HST
      go_wp2_with fail
      generalize hW1 : wr.alloc _ = W1 at *
      clear hW1 hba
      go_loopg [13, 14, 46] m (fun k2 _ _ i wr => ∃ k : Nat, k + k2 = m ∧ i = .int .i64 k ∧ L2At w wr t cores ba k)
      case atStart => exact ⟨0, by omega, rfl, H20.out⟩
      case round =>
        obtain ⟨q, hq, rfl, hst⟩ := hrel
        have HST := Lib.hid hst
        clear H20 hst
        obtain ⟨hL1, hba1, hba2, ⟨v, hv, hall⟩, hne⟩ := HST.out
        have HL1 := Lib.hid hL1
        have HALL := Lib.hid hall
        have HNE := Lib.hid hne
        have hbel := hL1.1
        clear hL1 hall hne
        by_cases hlt : q < m
        · have i1 : (q : Int) < (m : Int) := by omega
          have hlc : q < cores.length := by rw [HM.out]; exact hlt
          have hxk : cores[q]? = some cores[q] := List.getElem?_eq_getElem hlc
          have hmem := List.getElem_mem hlc
          have htk : cores.take (q + 1) = cores.take q ++ [cores[q]] := List.take_succ_eq_append_getElem hlc
          generalize cores[q] = x at *
          obtain ⟨b, off, Ai, ci, rfl, hb, hcell, hci, hri⟩ := rdKK_at (rdKK_below HK.out (hbel.mono hB)) hxk
          have hcr := CR.out wr hbel x hmem Ai ci hri
          have HTK := Lib.hid htk
          have HMEM := Lib.hid hmem
          have hrl := raises_len t x
          have hxl := (HX.out x hmem).2
          have HNO := Lib.hid (fun (he : (raisesP t x).isEmpty = true) => lowP_no (t := t) hmem he)

          clear hxk hmem hlc hri htk
          generalize x.length = xl at *
          obtain ⟨l, hl⟩ : ∃ l, raisesP t x = l := ⟨_, rfl⟩
          rw [hl] at hcr hrl HNO
          have HLX := Lib.hid hl
          clear hl
          go_wp2_with fail
          refine hcr.mono ?_
          rintro e w2 ⟨v2, rfl, hown2, hb2⟩
          have hbw2 := hbel.trans (hb2.mono hbel.size)
          obtain ⟨A3, cap3, rfl, hcap3, -, -⟩ := own_rdw hown2
          have HOWN2 := Lib.hid hown2
          have hv2 := own_below hv hba2 hb2
          have hba3 : ba < w2.heap.size := Nat.lt_of_lt_of_le hba2 hb2.size
          clear hcr hown2
          by_cases hl0 : l.length = 0
          · obtain rfl : LP = none := by rw [← HLP.out]; exact HNO.out (by rw [List.isEmpty_iff]; exact List.eq_nil_of_length_eq_zero hl0)
            go_wp2_with fail
            go_returns
            exact ⟨rfl, hbw2⟩
          · have hll : ((l.length : Int) = 0) = False := eq_false (by omega)
            have hall2 : AllAt w2 (ba + 1) v ((cores.take q).map (raisesP t)) := HALL.out.stay fun g _ h2 => hb2.block g h2
            obtain ⟨vs, hvs, hvr⟩ := hall2
            have HVR := Lib.hid hvr
            have hvc := hv2.1 0 _ rfl
            have hvf := hv2.2 0
            have hlq : ((cores.take q).map (raisesP t)).length = q := by rw [List.length_map, List.length_take, HM.out]; omega
            rw [hlq] at hvs
            clear hvr
            generalize hnl : l.length = nl at *
            have HNLL := Lib.hid hnl
            clear hnl
            go_wp2_with (first | (at_builtin; refine wpList_append_grow w2 rfl (.tmp 56) (.tmp 58) 47 rfl (ba + 1) 48 s0 _ 1 24 Tryd.underlying47 HS.out HZ.out.1 HZ.out.2.1 HZ.out.2.2 rfl (by omega) v q vs [.slice A3 nl cap3] rfl hvs (by intro y hy; simp at hy; subst hy; rfl) (by simp [Act.eval, go_sem]) (by simp [Act.eval, go_sem]) (by omega) (by omega) (by omega) ?_; intro v5 w5 hown5 hg5; obtain ⟨A5, cap5, rfl, hcap5⟩ := own_slice hown5; have hv5 : Own w5 ba [v] := own_same hv2 (hg5.block ba hba3 (by intro he; have := (hvs.lt ba he.symm).1; omega)); have hvc5 := hv5.1 0 _ rfl; have hvf5 := hv5.2 0) | fail)
            have hb5 : Below (ba + 1) w2 w5 := (Below.refl _ _).grown hg5 (by omega) (fun g hg => (hvs.lt g hg).1)
            obtain ⟨hbL, hrowL, hlimL, hzL⟩ := HL1.out
            have hrow2 := own_below hrowL (by omega) hb2
            have hlim2 := own_below hlimL (by omega) hb2
            have hrow5 := own_below hrow2 (by omega) hb5
            have hlim5 := own_below hlim2 (by omega) hb5
            have hz5 := hb5.size
            have hz2 := hb2.size
            have hb6 : Below w.heap.size w (w5.setCell ⟨ba, 0, none⟩ (.slice A5 (q + 1) cap5)) := Below.setCell (p := ⟨ba, 0, none⟩) (hbw2.trans (hb5.mono (by omega))) (show w.heap.size ≤ ba by omega) _
            have hall5 : AllAt w5 (ba + 1) (.slice A5 (q + 1) cap5) ((cores.take (q + 1)).map (raisesP t)) := by
              rw [HTK.out, List.map_append, List.map_singleton, HLX.out]
              refine ⟨vs ++ [.slice A3 nl cap3], by rw [List.length_append, hlq]; exact hown5, fun i r hi => ?_⟩
              have hvl : vs.length = q := by simpa using hvs.1
              by_cases hiq : i < q
              · rw [List.getElem?_append_left (by omega)] at hi
                obtain ⟨Aj, cj, g1, g2, g3⟩ := HVR.out i r hi
                exact ⟨Aj, cj, by rw [List.getElem?_append_left (by omega)]; exact g1, g2, own_other g3 hvs (by decide) hg5⟩
              · rw [List.getElem?_append_right (by omega), hlq] at hi
                have hi0 : i - q = 0 := by
                  have := (List.getElem?_eq_some_iff.1 hi).1
                  simp at this
                  omega
                rw [hi0] at hi
                simp at hi
                subst hi
                refine ⟨A3, cap3, by rw [List.getElem?_append_right (by omega), hvl, hi0, HNLL.out]; rfl, by rw [HNLL.out]; exact hcap3, ?_⟩
                have ho := own_mono HOWN2.out (show ba + 1 ≤ wr.heap.size by omega)
                rw [HNLL.out]
                exact own_other ho hvs (by decide) hg5
            have HST6 := Lib.hid (show L2At w (w5.setCell ⟨ba, 0, none⟩ (.slice A5 (q + 1) cap5)) t cores ba (q + 1) from by
              refine ⟨⟨hb6, own_set_other hrow5 (by omega) _, own_set_other hlim5 (by omega) _, by simp; omega⟩, hba1, by simp; omega, ⟨_, own_set hv5 0 (by simp) _, hall5.stay fun g h1 _ => Below.heap_setCell w5 ⟨ba, 0, none⟩ _ g (show g ≠ ba by omega)⟩, fun cc hcc => ?_⟩
              rw [HTK.out, List.mem_append, List.mem_singleton] at hcc
              rcases hcc with hcc | rfl
              · exact HNE.out cc hcc
              · rw [HLX.out]
                cases l with
                | nil => exact absurd HNLL.out (by simp; omega)
                | cons a l => rfl)
            clear hb5 hrow2 hlim2 hrow5 hlim5 hb6 hall5 hown5 hg5 hv5 hvc5 hvf5 hvs hv2 hvc hvf hb2
            go_wp2_with fail
            go_roundg (m - (q + 1))
            case rel => exact ⟨q + 1, by omega, by go_num, HST6.out⟩
            case measure => omega
        · obtain rfl : q = m := by omega
          have htq : cores.take q = cores := by rw [← HM.out]; exact List.take_length
          have hall := HALL.out
          rw [htq] at hall
          have hnb := HNE.out
          rw [htq] at hnb
          obtain ⟨Aa, ca, rfl, hca, hrdr⟩ := hall.rd
          obtain ⟨hbL, hrowL, hlimL, hzL⟩ := HL1.out
          have hlm : (cores.map (raisesP t)).length = q := by rw [List.length_map, HM.out]
          obtain ⟨b, hfb, hlp⟩ := lowP_found (tab_ne HTO.out) hnb
          have hok : DOk ⟨w.heap.size, ba, wr.heap.size, wr.heap.size, k, ca, Aa, cores.map (raisesP t)⟩ := by
            refine ⟨hba1, hba2, Nat.le_refl _, hn0, hn1, by show (cores.map (raisesP t)).length ≤ 100; omega, by show (cores.map (raisesP t)).length ≤ ca; omega, fun l hl => ?_, fun l hl => ?_⟩
            · obtain ⟨cc, hcc, rfl⟩ := List.mem_map.1 hl
              have h1 := raises_len t cc
              have h2 := (HX.out cc hcc).2
              refine ⟨fun r hr => ?_, by omega⟩
              obtain ⟨row, g1, g2⟩ := raises_mem hr
              have g3 := (List.getElem?_eq_some_iff.1 g1).1
              rw [HN.out] at g3
              exact ⟨g3, (HTO.out row (List.mem_of_getElem? g1)).2 _ g2⟩
            · obtain ⟨cc, hcc, rfl⟩ := List.mem_map.1 hl
              have h1 := raises_len t cc
              have h2 := (HX.out cc hcc).2
              have h3 := hnb cc hcc
              refine ⟨?_, by omega⟩
              cases h4 : raisesP t cc with
              | nil => rw [h4] at h3; cases h3
              | cons a l => simp
          have hds := fun t1 t2 t4 t5 => din_start ⟨w.heap.size, ba, wr.heap.size, wr.heap.size, k, ca, Aa, cores.map (raisesP t)⟩ hok wr (t.map minR) (by rw [List.length_map, HN.out]) (lim_min HTO.out) (by have h := hrowL; rwa [limK_end] at h)
            (by have h := hlimL.1 0 _ rfl; rwa [HN.out] at h) (by have h := hv.1 0 _ rfl; exact h) hrdr rfl (fun W' h' => HTB.out W' (hbel.trans h')) t1 t2 t4 t5
          have hdeep := deep_any _ hok (fuelH (cores.map (raisesP t))) (t.map minR) (t.map minR).sum ⟨[], none, 0⟩
          have HDS := Lib.hid hds
          have HDP := Lib.hid hdeep
          have HFB := Lib.hid (And.intro hfb hlp)
          have HOK := Lib.hid hok
          have hmm := @run_makeMap Tryd.prog
          have hsf := fun (w : World) (a : Addr) (f : Fn) (cs ps : Array Value) => run_store Tryd.prog w a (.func f cs ps) .plain rfl
          clear hds hdeep hfb hlp hok hnb hall htq hrdr hrowL hlimL hlm hv
          rw [show totK t k = (t.map minR).sum by unfold totK; rw [← HN.out, List.take_length]]
          go_wp2_with fail
          have hmu : muH (t.map minR) (cores.map (raisesP t)).flatten < fuelH (cores.map (raisesP t)) := by
            unfold fuelH muH
            exact Nat.lt_succ_of_le (List.length_filter_le _ _)
          have hbw := (HDS.out 22 3 50 51).2
          refine (HDP.out _ (HDS.out 22 3 50 51).1 hmu trivial).mono ?_
          rintro e w6 ⟨rfl, hd6, hk6⟩
          have hbel6 : Below w.heap.size w w6 := (hbel.trans (hbw.mono (show w.heap.size ≤ wr.heap.size by omega))).trans hk6.bel
          obtain ⟨bv6, ⟨-, -, hc6, -, hw6⟩, hbv6, -⟩ := DC_of hd6
          dsimp only at hc6 hw6 hbv6
          obtain ⟨hfb, hlp⟩ := HFB.out
          rw [hfb] at hbv6
          obtain ⟨g, cap, rfl, hcap, hg, hgs, hcell, hbl⟩ := hbv6
          dsimp only at hcap hbl
          obtain ⟨lo, hlo⟩ : ∃ x, (deeperH SRT (cores.map (raisesP t)) (fuelH (cores.map (raisesP t))) (t.map minR) (t.map minR).sum ⟨[], none, 0⟩).low = x := ⟨_, rfl⟩
          rw [hlo] at hw6 hlp
          obtain rfl : LP = some (lo, b) := by rw [← HLP.out]; exact hlp
          clear hlo
          have HRET := Lib.hid (show RdI w6 w6.heap.size (some ⟨g, 0, none⟩) b from ⟨by simp, fun _ => ⟨g, 0, rfl, hgs, fun j u hu => by rw [Nat.zero_add]; exact hcell j u hu⟩⟩)
          have HBL := Lib.hid hbl
          clear hfb hlp hd6 hk6 hbw hcell hbl
          dsimp only at hc6 hw6
          go_wp2_with fail
          go_region
          all_goals
            go_wp2_with fail
            go_returns
            exact ⟨⟨g, cap, by rw [HBL.out]; rfl, by rw [HBL.out]; exact hcap, HRET.out⟩, hbel6.drew⟩
end Go.Proofs.YtmfdpdnokiidlaaDoor
