/-
  Chapter 36: the walk of the reference's Hits. Conditions: rows of 1 to 5 costs; masks below 32; at most 1000 terms.
-/
import Derived.Test.YtmfdpdnokiidlaaDoorHRaises
import Derived.Deep.LoopGhost
namespace Go.Proofs.YtmfdpdnokiidlaaDoor
open Go.ChangeShapes Go.WideShapes Go.ChangeAt Go.RowKit
set_option linter.unusedVariables false
set_option linter.unusedSimpArgs false

def hitT (t : List (List Int)) (lim : List Int) (x : Tm) : Bool := match t[x.u]? with
  | some row => hitRow x.m (lim.getD x.u 0) row 0
  | none => false
theorem hitR_eq (t : List (List Int)) (lim : List Int) (core : List Tm) : hitsR t lim core = core.any (hitT t lim) := rfl
theorem row_drop {m k : Nat} {most : Int} {row : List Int} (hk : k < row.length) : hitRow m most (row.drop k) k = ((decide (row.getD k 0 ≤ most) && freeV m k) || hitRow m most (row.drop (k + 1)) (k + 1)) := by
  conv => lhs; rw [List.drop_eq_getElem_cons hk]; unfold hitRow
  simp only [List.getD_eq_getElem?_getD, List.getElem?_eq_getElem hk, Option.getD_some]
theorem min_free : ∀ j : Fin 5, min (IntKind.u64.wrap ((j : Nat) : Int)).toNat 64 = (j : Nat) := by decide +kernel
def RHAt (w W : World) (core : List Tm) (t : List (List Int)) (lim : List Int) (k : Nat) : Prop := (core.take k).any (hitT t lim) = false ∧ Below w.heap.size w W
set_option maxRecDepth 8192 in
set_option maxHeartbeats 8000000 in
theorem rhits_any (A A' A2 : Option Addr) (c c' c2 B : Nat) (t : List (List Int)) (lim : List Int) (core : List Tm) (w : World) (h : RdT w B A t) (h' : RdI w B A' lim) (h2 : RdK w B A2 core) (hB : B ≤ w.heap.size) (hl : t.length ≤ 1000) (hr : ∀ r ∈ t, 0 < r.length ∧ r.length ≤ 5) (hx : ∀ x ∈ core, x.u ≤ 1000000 ∧ x.m < 32) (hlim : lim.length ≤ 1000000) (hc : core.length ≤ 1000) :
    Calls Tryd.prog 55 #[.slice A t.length c, .slice A' lim.length c', .slice A2 core.length c2] w fun e w' => e = .returned (.bool (hitsR t lim core)) ∧ Below w.heap.size w w' := by
  rw [hitR_eq]
  have H := Lib.hid h
  have H' := Lib.hid h'
  have H2 := Lib.hid h2
  have HX := Lib.hid hx
  have HRR := Lib.hid hr
  have ca := fun (W : World) (hb : Below w.heap.size w W) (i : Nat) (hi : i ≤ 1000000000) => rat_any A' c' B lim i W (rdI_below h' (hb.mono hB)) (by unfold maxLen; omega) hi
  have CA := Lib.hid ca
  clear h h' h2 hx hr ca
  generalize hn : core.length = n at *
  have HN := Lib.hid hn
  clear hn
  generalize hnt : t.length = nt at *
  have HNT := Lib.hid hnt
  clear hnt
  generalize lim.length = nl at *
  go_enter Tryd.func55, Tryd.ntmps55
  go_wp2
  go_loopg [7, 8, 9] n (fun k2 i _ _ wr => ∃ k : Nat, k + k2 = n ∧ i = .int .i64 k ∧ RHAt w wr core t lim k)
  case atStart => exact ⟨0, by omega, rfl, rfl, Below.refl _ _⟩
  case round =>
    obtain ⟨k, hk, rfl, hst⟩ := hrel
    have HS := Lib.hid hst.1
    have hbel := hst.2
    clear hst
    by_cases hlt : k < n
    · have i1 : (k : Int) < (n : Int) := by omega
      have hlc : k < core.length := by rw [HN.out]; exact hlt
      have hxk : core[k]? = some core[k] := List.getElem?_eq_getElem hlc
      have hmem := List.getElem_mem hlc
      generalize core[k] = x at *
      obtain ⟨b, off, rfl, hb, hcc⟩ := rdK_below H2.out (hbel.mono hB) (by omega)
      obtain ⟨k0, k1⟩ := hcc k x hxk
      obtain ⟨hxu, hxm⟩ := HX.out x hmem
      have HT := Lib.hid (fun (hp : hitT t lim x = false) => any_tk HS.out hxk hp)
      have HY := Lib.hid (fun (hp : hitT t lim x = true) => (List.any_eq_true.2 ⟨x, hmem, hp⟩ : core.any (hitT t lim) = true))
      have HD := Lib.hid (show hitT t lim x = (match t[x.u]? with | some row => hitRow x.m (lim.getD x.u 0) row 0 | none => false) from rfl)
      generalize hitT t lim x = R at *
      clear hcc hxk hmem hlc
      have hbw : b < w.heap.size := by omega
      have caw := fun (W : World) (hb : Below w.heap.size w W) => CA.out W hb x.u (by omega)
      have CAW := Lib.hid caw
      clear caw
      have u0 : (0 : Int) ≤ (x.u : Int) := by omega
      by_cases hut : nt ≤ x.u
      · have HF : Hid (R = false) := HD.out.trans (by rw [List.getElem?_eq_none (by rw [HNT.out]; exact hut)])
        have HN2 := Lib.hid (HT.out HF.out)
        have i2 : (nt : Int) ≤ (x.u : Int) := by omega
        clear HD HT HY CAW
        generalize x.u = u at *
        generalize x.m = m at *
        go_wp2_with fail
        go_roundg (n - (k + 1))
        case rel => exact ⟨k + 1, by omega, by go_num, HN2.out, hbel⟩
        case measure => omega
      · have hul : x.u < t.length := by rw [HNT.out]; omega
        have hrow : t[x.u]? = some t[x.u] := List.getElem?_eq_getElem hul
        obtain ⟨hr0, hr5⟩ := HRR.out _ (List.getElem_mem hul)
        have i2 : (x.u : Int) < (nt : Int) := by omega
        have HTR := Lib.hid (fun (W : World) (hb : Below w.heap.size w W) => rdT_at (rdT_below H.out (hb.mono hB)) hrow)
        rw [hrow] at HD
        generalize t[x.u] = row at *
        clear hrow hul
        dsimp only at HD
        generalize lim.getD x.u 0 = lv at *
        generalize x.u = u at *
        generalize x.m = m at *
        obtain ⟨bt, ot, Ai, ci, rfl, hbt, q0, hci, hri⟩ := HTR.out wr hbel
        obtain ⟨bi, oi, rfl, hbi, _⟩ := rdI_at hri (k := 0) hr0
        clear hri
        have hrl : (row.length : Int) ≤ 5 := by omega
        have hut2 : ¬ nt ≤ u := hut
        go_wp2_with fail
        go_loopg [9] row.length (fun k3 v w3 => ∃ j : Nat, j + k3 = row.length ∧ v = .int .i64 j ∧ Hid (hitRow m lv (row.drop j) j = R) ∧ Below w.heap.size w w3)
        case atStart => exact ⟨0, by omega, rfl, Lib.hid HD.out.symm, hbel⟩
        case round =>
          obtain ⟨j, hj, rfl, HJ, hb3⟩ := hrel
          obtain ⟨bt2, ot2, Ai2, ci2, hA, _, q0b, _, hri⟩ := HTR.out _ hb3
          obtain ⟨rfl, rfl⟩ : bt = bt2 ∧ ot = ot2 := by injection hA with h1; injection h1 with h1 h2; exact ⟨h1, h2⟩
          have q0c := (hb3.cell (p := ⟨bt, ot + u, none⟩) (show bt < w.heap.size by omega)).trans ((hbel.cell (p := ⟨bt, ot + u, none⟩) (show bt < w.heap.size by omega)).symm.trans q0)
          obtain ⟨rfl, rfl⟩ : Ai2 = some ⟨bi, oi, none⟩ ∧ ci = ci2 := by have h1 := Option.some.inj (q0b.symm.trans q0c); injection h1 with h1 h2 h3; exact ⟨h1, h3.symm⟩
          clear q0b hA
          by_cases hjl : j < row.length
          · obtain ⟨bi2, oi2, hbe, _, kc⟩ := rdI_at hri hjl
            obtain ⟨rfl, rfl⟩ : bi = bi2 ∧ oi = oi2 := by injection hbe with h1; injection h1 with h1 h2; exact ⟨h1, h2⟩
            clear hbe hri
            have HJ2 := Lib.hid (HJ.out ▸ (row_drop (m := m) (most := lv) hjl).symm)
            have i3 : (j : Int) < (row.length : Int) := by omega
            have i4 : (j : Int) ≤ 16 := by omega
            have k1b := (hb3.cell (p := ⟨b, off + k * 2 + 1, none⟩) hbw).trans ((hbel.cell (p := ⟨b, off + k * 2 + 1, none⟩) hbw).symm.trans k1)
            have hmn := min_free ⟨j, by omega⟩
            dsimp only at hmn
            have hfr := bits_free ⟨m, hxm⟩ ⟨j, by omega⟩
            dsimp only at hfr
            generalize freeV m j = fr at *
            generalize row.getD j 0 = cv at *
            have j0 : (0 : Int) ≤ (j : Int) := by omega
            have hb3d := hb3.drew
            by_cases hle : cv ≤ lv
            · cases fr
              · have HN3 : Hid (hitRow m lv (row.drop (j + 1)) (j + 1) = R) := (show _ = R from by have h := HJ2.out; simpa [hle] using h)
                clear HJ2 HJ
                go_wp2_with fail
                refine wp_region_held_drew (S := fun W => W.cell? ⟨bt, ot + u, none⟩ = some (.slice (some ⟨bi, oi, none⟩) row.length ci) ∧ W.cell? ⟨bi, oi + j, none⟩ = some (.int .i64 cv) ∧ W.cell? ⟨b, off + k * 2 + 1, none⟩ = some (.int .i64 (m : Nat)) ∧ Below w.heap.size w W) (by kernel_rfl) ⟨q0c, kc, k1b, hb3d⟩ (fun hHeld => ?_)
                refine takeD (i := 0) (d := some 42) (v := ?_) rfl rfl (by kernel_rfl) (by kernel_rfl) (by kernel_rfl) (fun _ _ _ h => h) (Or.inl ⟨by rfl, ?_⟩) (by assumption) ?_
                rotate_left
                · intro wS hSw; (try dsimp only at hSw); go_simp; (try with_reducible rfl)
                try simp only [Act.put, List.setIfInBounds_toArray, List.set_cons_zero, List.set_cons_succ]
                refine takeD (i := 1) (d := some 43) (v := ?_) rfl rfl (by kernel_rfl) (by kernel_rfl) (by kernel_rfl) (fun _ _ _ h => h) (Or.inl ⟨by rfl, ?_⟩) (by assumption) ?_
                rotate_left
                · intro wS hSw; (try dsimp only at hSw); go_simp; (try with_reducible rfl)
                try simp only [Act.put, List.setIfInBounds_toArray, List.set_cons_zero, List.set_cons_succ]
                refine takeD (i := 2) (d := some 44) (v := ?_) rfl rfl (by kernel_rfl) (by kernel_rfl) (by kernel_rfl) (fun _ _ _ h => h) (Or.inl ⟨by rfl, ?_⟩) (by assumption) ?_
                rotate_left
                · intro wS hSw; (try dsimp only at hSw); go_simp; (try with_reducible rfl)
                try simp only [Act.put, List.setIfInBounds_toArray, List.set_cons_zero, List.set_cons_succ]
                refine takeD (i := 3) (d := some 45) (v := ?_) rfl rfl (by kernel_rfl) (by kernel_rfl) (by kernel_rfl) (fun _ _ _ h => h) (Or.inl ⟨by rfl, ?_⟩) (by assumption) ?_
                rotate_left
                · intro wS hSw; (try dsimp only at hSw); go_simp; (try with_reducible rfl)
                try simp only [Act.put, List.setIfInBounds_toArray, List.set_cons_zero, List.set_cons_succ]
                refine takeD (i := 4) (d := some 46) (v := ?_) rfl rfl (by kernel_rfl) (by kernel_rfl) (by kernel_rfl) (fun _ _ _ h => h) (Or.inl ⟨by rfl, ?_⟩) (by assumption) ?_
                rotate_left
                · intro wS hSw; (try dsimp only at hSw); go_simp; (try with_reducible rfl)
                try simp only [Act.put, List.setIfInBounds_toArray, List.set_cons_zero, List.set_cons_succ]
                refine takeD (i := 5) (d := some 47) (v := ?_) rfl rfl (by kernel_rfl) (by kernel_rfl) (by kernel_rfl) (fun _ _ _ h => h) (Or.inl ⟨by rfl, ?_⟩) (by assumption) ?_
                rotate_left
                · intro wS hSw; (try dsimp only at hSw); go_simp; (try with_reducible rfl)
                try simp only [Act.put, List.setIfInBounds_toArray, List.set_cons_zero, List.set_cons_succ]
                refine takeD (i := 6) (d := some 48) (v := ?_) rfl rfl (by kernel_rfl) (by kernel_rfl) (by kernel_rfl) (fun _ _ _ h => h) (Or.inl ⟨by rfl, ?_⟩) (by assumption) ?_
                rotate_left
                · intro wS hSw; (try dsimp only at hSw); go_simp; (try with_reducible rfl)
                try simp only [Act.put, List.setIfInBounds_toArray, List.set_cons_zero, List.set_cons_succ]
                refine takeD (i := 7) (d := some 49) (v := ?_) rfl rfl (by kernel_rfl) (by kernel_rfl) (by kernel_rfl) (fun _ _ _ h => h) (Or.inl ⟨by rfl, ?_⟩) (by assumption) ?_
                rotate_left
                · intro wS hSw; (try dsimp only at hSw); go_simp; (try with_reducible rfl)
                try simp only [Act.put, List.setIfInBounds_toArray, List.set_cons_zero, List.set_cons_succ]
                refine takeD (i := 8) (d := some 50) (v := ?_) rfl rfl (by kernel_rfl) (by kernel_rfl) (by kernel_rfl) (fun _ _ _ h => h) (Or.inl ⟨by rfl, ?_⟩) (by assumption) ?_
                rotate_left
                · intro wS hSw; (try dsimp only at hSw); go_simp; (try with_reducible rfl)
                try simp only [Act.put, List.setIfInBounds_toArray, List.set_cons_zero, List.set_cons_succ]
                refine wpAnyH_ready (rs := [9]) (by kernel_rfl) (by simp) ?_
                refine consD (d := some 51) rfl rfl (fun K hK => ?_) AllReadyH.nil
                go_simp
                (go_at_call 39; (with_reducible refine (CAW.out _ hHeld.2.2.2).mono ?_); rintro e w5 ⟨rfl, rfl⟩)
                refine hK.out _ _ hHeld (fun hHeld => ?_)
                clear hK K
                try simp only [Act.put, List.setIfInBounds_toArray, List.set_cons_zero, List.set_cons_succ]
                refine takeD (i := 10) (d := some 52) (v := .bool true) rfl rfl (by kernel_rfl) (by kernel_rfl) (by kernel_rfl) (fun _ _ _ h => h) (Or.inl ⟨by rfl, ?_⟩) (by assumption) ?_
                · intro wS hSw; (try dsimp only at hSw); go_simp; (try simp [hle]); (try with_reducible rfl)
                try simp only [Act.put, List.setIfInBounds_toArray, List.set_cons_zero, List.set_cons_succ]
                refine takeD (i := 11) (d := some 53) (v := ?_) rfl rfl (by kernel_rfl) (by kernel_rfl) (by kernel_rfl) (fun _ _ _ h => h) (Or.inl ⟨by rfl, ?_⟩) (by assumption) ?_
                rotate_left
                · intro wS hSw; (try dsimp only at hSw); go_simp; (try with_reducible rfl)
                try simp only [Act.put, List.setIfInBounds_toArray, List.set_cons_zero, List.set_cons_succ]
                refine takeD (i := 12) (d := some 54) (v := ?_) rfl rfl (by kernel_rfl) (by kernel_rfl) (by kernel_rfl) (fun _ _ _ h => h) (Or.inl ⟨by rfl, ?_⟩) (by assumption) ?_
                rotate_left
                · intro wS hSw; (try dsimp only at hSw); go_simp; (try with_reducible rfl)
                try simp only [Act.put, List.setIfInBounds_toArray, List.set_cons_zero, List.set_cons_succ]
                refine takeD (i := 13) (d := some 55) (v := ?_) rfl rfl (by kernel_rfl) (by kernel_rfl) (by kernel_rfl) (fun _ _ _ h => h) (Or.inl ⟨by rfl, ?_⟩) (by assumption) ?_
                rotate_left
                · intro wS hSw; (try dsimp only at hSw); go_simp; (try with_reducible rfl)
                try simp only [Act.put, List.setIfInBounds_toArray, List.set_cons_zero, List.set_cons_succ]
                refine takeD (i := 14) (d := some 56) (v := ?_) rfl rfl (by kernel_rfl) (by kernel_rfl) (by kernel_rfl) (fun _ _ _ h => h) (Or.inl ⟨by rfl, ?_⟩) (by assumption) ?_
                rotate_left
                · intro wS hSw; (try dsimp only at hSw); go_simp; (try with_reducible rfl)
                try simp only [Act.put, List.setIfInBounds_toArray, List.set_cons_zero, List.set_cons_succ]
                refine takeD (i := 15) (d := some 57) (v := ?_) rfl rfl (by kernel_rfl) (by kernel_rfl) (by kernel_rfl) (fun _ _ _ h => h) (Or.inl ⟨by rfl, ?_⟩) (by assumption) ?_
                rotate_left
                · intro wS hSw; (try dsimp only at hSw); go_simp; (try with_reducible rfl)
                try simp only [Act.put, List.setIfInBounds_toArray, List.set_cons_zero, List.set_cons_succ]
                refine takeD (i := 16) (d := some 58) (v := ?_) rfl rfl (by kernel_rfl) (by kernel_rfl) (by kernel_rfl) (fun _ _ _ h => h) (Or.inl ⟨by rfl, ?_⟩) (by assumption) ?_
                rotate_left
                · intro wS hSw; (try dsimp only at hSw); go_simp; (try with_reducible rfl)
                try simp only [Act.put, List.setIfInBounds_toArray, List.set_cons_zero, List.set_cons_succ]
                refine takeD (i := 17) (d := some 59) (v := ?_) rfl rfl (by kernel_rfl) (by kernel_rfl) (by kernel_rfl) (fun _ _ _ h => h) (Or.inl ⟨by rfl, ?_⟩) (by assumption) ?_
                rotate_left
                · intro wS hSw; (try dsimp only at hSw); go_simp; (try with_reducible rfl)
                try simp only [Act.put, List.setIfInBounds_toArray, List.set_cons_zero, List.set_cons_succ]
                refine takeD (i := 18) (d := some 60) (v := ?_) rfl rfl (by kernel_rfl) (by kernel_rfl) (by kernel_rfl) (fun _ _ _ h => h) (Or.inl ⟨by rfl, ?_⟩) (by assumption) ?_
                rotate_left
                · intro wS hSw; (try dsimp only at hSw); go_simp; (try with_reducible rfl)
                try simp only [Act.put, List.setIfInBounds_toArray, List.set_cons_zero, List.set_cons_succ]
                refine takeD (i := 19) (d := some 61) (v := ?_) rfl rfl (by kernel_rfl) (by kernel_rfl) (by kernel_rfl) (fun _ _ _ h => h) (Or.inl ⟨by rfl, ?_⟩) (by assumption) ?_
                rotate_left
                · intro wS hSw; (try dsimp only at hSw); go_simp; (try with_reducible rfl)
                try simp only [Act.put, List.setIfInBounds_toArray, List.set_cons_zero, List.set_cons_succ]
                refine takeD (i := 20) (d := some 62) (v := ?_) rfl rfl (by kernel_rfl) (by kernel_rfl) (by kernel_rfl) (fun _ _ _ h => h) (Or.inl ⟨by rfl, ?_⟩) (by assumption) ?_
                rotate_left
                · intro wS hSw; (try dsimp only at hSw); go_simp; (try with_reducible rfl)
                try simp only [Act.put, List.setIfInBounds_toArray, List.set_cons_zero, List.set_cons_succ]
                refine takeD (i := 21) (d := some 63) (v := .bool false) rfl rfl (by kernel_rfl) (by kernel_rfl) (by kernel_rfl) (fun _ _ _ h => h) (Or.inl ⟨by rfl, ?_⟩) (by assumption) ?_
                · intro wS hSw; (try dsimp only at hSw); go_simp; (try simp [hmn, hfr]); (try with_reducible rfl)
                try simp only [Act.put, List.setIfInBounds_toArray, List.set_cons_zero, List.set_cons_succ]
                refine takeD (i := 22) (d := some 64) (v := ?_) rfl rfl (by kernel_rfl) (by kernel_rfl) (by kernel_rfl) (fun _ _ _ h => h) (Or.inl ⟨by rfl, ?_⟩) (by assumption) ?_
                rotate_left
                · intro wS hSw; (try dsimp only at hSw); go_simp; (try with_reducible rfl)
                try simp only [Act.put, List.setIfInBounds_toArray, List.set_cons_zero, List.set_cons_succ]
                refine wpAnyH_done (by kernel_rfl) ?_ _
                go_wp2_with fail
                go_roundg (row.length - (j + 1))
                case rel => exact ⟨j + 1, by omega, by go_num, HN3, hHeld.2.2.2⟩
                case measure => omega
              · have HF : Hid (R = true) := HJ2.out.symm.trans (by simp [hle])
                have HN2 := Lib.hid (HY.out HF.out)
                clear HJ2 HD HT HY HJ
                go_wp2_with fail
                refine wp_region_held_drew (S := fun W => W.cell? ⟨bt, ot + u, none⟩ = some (.slice (some ⟨bi, oi, none⟩) row.length ci) ∧ W.cell? ⟨bi, oi + j, none⟩ = some (.int .i64 cv) ∧ W.cell? ⟨b, off + k * 2 + 1, none⟩ = some (.int .i64 (m : Nat)) ∧ Below w.heap.size w W) (by kernel_rfl) ⟨q0c, kc, k1b, hb3d⟩ (fun hHeld => ?_)
                refine takeD (i := 0) (d := some 42) (v := ?_) rfl rfl (by kernel_rfl) (by kernel_rfl) (by kernel_rfl) (fun _ _ _ h => h) (Or.inl ⟨by rfl, ?_⟩) (by assumption) ?_
                rotate_left
                · intro wS hSw; (try dsimp only at hSw); go_simp; (try with_reducible rfl)
                try simp only [Act.put, List.setIfInBounds_toArray, List.set_cons_zero, List.set_cons_succ]
                refine takeD (i := 1) (d := some 43) (v := ?_) rfl rfl (by kernel_rfl) (by kernel_rfl) (by kernel_rfl) (fun _ _ _ h => h) (Or.inl ⟨by rfl, ?_⟩) (by assumption) ?_
                rotate_left
                · intro wS hSw; (try dsimp only at hSw); go_simp; (try with_reducible rfl)
                try simp only [Act.put, List.setIfInBounds_toArray, List.set_cons_zero, List.set_cons_succ]
                refine takeD (i := 2) (d := some 44) (v := ?_) rfl rfl (by kernel_rfl) (by kernel_rfl) (by kernel_rfl) (fun _ _ _ h => h) (Or.inl ⟨by rfl, ?_⟩) (by assumption) ?_
                rotate_left
                · intro wS hSw; (try dsimp only at hSw); go_simp; (try with_reducible rfl)
                try simp only [Act.put, List.setIfInBounds_toArray, List.set_cons_zero, List.set_cons_succ]
                refine takeD (i := 3) (d := some 45) (v := ?_) rfl rfl (by kernel_rfl) (by kernel_rfl) (by kernel_rfl) (fun _ _ _ h => h) (Or.inl ⟨by rfl, ?_⟩) (by assumption) ?_
                rotate_left
                · intro wS hSw; (try dsimp only at hSw); go_simp; (try with_reducible rfl)
                try simp only [Act.put, List.setIfInBounds_toArray, List.set_cons_zero, List.set_cons_succ]
                refine takeD (i := 4) (d := some 46) (v := ?_) rfl rfl (by kernel_rfl) (by kernel_rfl) (by kernel_rfl) (fun _ _ _ h => h) (Or.inl ⟨by rfl, ?_⟩) (by assumption) ?_
                rotate_left
                · intro wS hSw; (try dsimp only at hSw); go_simp; (try with_reducible rfl)
                try simp only [Act.put, List.setIfInBounds_toArray, List.set_cons_zero, List.set_cons_succ]
                refine takeD (i := 5) (d := some 47) (v := ?_) rfl rfl (by kernel_rfl) (by kernel_rfl) (by kernel_rfl) (fun _ _ _ h => h) (Or.inl ⟨by rfl, ?_⟩) (by assumption) ?_
                rotate_left
                · intro wS hSw; (try dsimp only at hSw); go_simp; (try with_reducible rfl)
                try simp only [Act.put, List.setIfInBounds_toArray, List.set_cons_zero, List.set_cons_succ]
                refine takeD (i := 6) (d := some 48) (v := ?_) rfl rfl (by kernel_rfl) (by kernel_rfl) (by kernel_rfl) (fun _ _ _ h => h) (Or.inl ⟨by rfl, ?_⟩) (by assumption) ?_
                rotate_left
                · intro wS hSw; (try dsimp only at hSw); go_simp; (try with_reducible rfl)
                try simp only [Act.put, List.setIfInBounds_toArray, List.set_cons_zero, List.set_cons_succ]
                refine takeD (i := 7) (d := some 49) (v := ?_) rfl rfl (by kernel_rfl) (by kernel_rfl) (by kernel_rfl) (fun _ _ _ h => h) (Or.inl ⟨by rfl, ?_⟩) (by assumption) ?_
                rotate_left
                · intro wS hSw; (try dsimp only at hSw); go_simp; (try with_reducible rfl)
                try simp only [Act.put, List.setIfInBounds_toArray, List.set_cons_zero, List.set_cons_succ]
                refine takeD (i := 8) (d := some 50) (v := ?_) rfl rfl (by kernel_rfl) (by kernel_rfl) (by kernel_rfl) (fun _ _ _ h => h) (Or.inl ⟨by rfl, ?_⟩) (by assumption) ?_
                rotate_left
                · intro wS hSw; (try dsimp only at hSw); go_simp; (try with_reducible rfl)
                try simp only [Act.put, List.setIfInBounds_toArray, List.set_cons_zero, List.set_cons_succ]
                refine wpAnyH_ready (rs := [9]) (by kernel_rfl) (by simp) ?_
                refine consD (d := some 51) rfl rfl (fun K hK => ?_) AllReadyH.nil
                go_simp
                (go_at_call 39; (with_reducible refine (CAW.out _ hHeld.2.2.2).mono ?_); rintro e w5 ⟨rfl, rfl⟩)
                refine hK.out _ _ hHeld (fun hHeld => ?_)
                clear hK K
                try simp only [Act.put, List.setIfInBounds_toArray, List.set_cons_zero, List.set_cons_succ]
                refine takeD (i := 10) (d := some 52) (v := .bool true) rfl rfl (by kernel_rfl) (by kernel_rfl) (by kernel_rfl) (fun _ _ _ h => h) (Or.inl ⟨by rfl, ?_⟩) (by assumption) ?_
                · intro wS hSw; (try dsimp only at hSw); go_simp; (try simp [hle]); (try with_reducible rfl)
                try simp only [Act.put, List.setIfInBounds_toArray, List.set_cons_zero, List.set_cons_succ]
                refine takeD (i := 11) (d := some 53) (v := ?_) rfl rfl (by kernel_rfl) (by kernel_rfl) (by kernel_rfl) (fun _ _ _ h => h) (Or.inl ⟨by rfl, ?_⟩) (by assumption) ?_
                rotate_left
                · intro wS hSw; (try dsimp only at hSw); go_simp; (try with_reducible rfl)
                try simp only [Act.put, List.setIfInBounds_toArray, List.set_cons_zero, List.set_cons_succ]
                refine takeD (i := 12) (d := some 54) (v := ?_) rfl rfl (by kernel_rfl) (by kernel_rfl) (by kernel_rfl) (fun _ _ _ h => h) (Or.inl ⟨by rfl, ?_⟩) (by assumption) ?_
                rotate_left
                · intro wS hSw; (try dsimp only at hSw); go_simp; (try with_reducible rfl)
                try simp only [Act.put, List.setIfInBounds_toArray, List.set_cons_zero, List.set_cons_succ]
                refine takeD (i := 13) (d := some 55) (v := ?_) rfl rfl (by kernel_rfl) (by kernel_rfl) (by kernel_rfl) (fun _ _ _ h => h) (Or.inl ⟨by rfl, ?_⟩) (by assumption) ?_
                rotate_left
                · intro wS hSw; (try dsimp only at hSw); go_simp; (try with_reducible rfl)
                try simp only [Act.put, List.setIfInBounds_toArray, List.set_cons_zero, List.set_cons_succ]
                refine takeD (i := 14) (d := some 56) (v := ?_) rfl rfl (by kernel_rfl) (by kernel_rfl) (by kernel_rfl) (fun _ _ _ h => h) (Or.inl ⟨by rfl, ?_⟩) (by assumption) ?_
                rotate_left
                · intro wS hSw; (try dsimp only at hSw); go_simp; (try with_reducible rfl)
                try simp only [Act.put, List.setIfInBounds_toArray, List.set_cons_zero, List.set_cons_succ]
                refine takeD (i := 15) (d := some 57) (v := ?_) rfl rfl (by kernel_rfl) (by kernel_rfl) (by kernel_rfl) (fun _ _ _ h => h) (Or.inl ⟨by rfl, ?_⟩) (by assumption) ?_
                rotate_left
                · intro wS hSw; (try dsimp only at hSw); go_simp; (try with_reducible rfl)
                try simp only [Act.put, List.setIfInBounds_toArray, List.set_cons_zero, List.set_cons_succ]
                refine takeD (i := 16) (d := some 58) (v := ?_) rfl rfl (by kernel_rfl) (by kernel_rfl) (by kernel_rfl) (fun _ _ _ h => h) (Or.inl ⟨by rfl, ?_⟩) (by assumption) ?_
                rotate_left
                · intro wS hSw; (try dsimp only at hSw); go_simp; (try with_reducible rfl)
                try simp only [Act.put, List.setIfInBounds_toArray, List.set_cons_zero, List.set_cons_succ]
                refine takeD (i := 17) (d := some 59) (v := ?_) rfl rfl (by kernel_rfl) (by kernel_rfl) (by kernel_rfl) (fun _ _ _ h => h) (Or.inl ⟨by rfl, ?_⟩) (by assumption) ?_
                rotate_left
                · intro wS hSw; (try dsimp only at hSw); go_simp; (try with_reducible rfl)
                try simp only [Act.put, List.setIfInBounds_toArray, List.set_cons_zero, List.set_cons_succ]
                refine takeD (i := 18) (d := some 60) (v := ?_) rfl rfl (by kernel_rfl) (by kernel_rfl) (by kernel_rfl) (fun _ _ _ h => h) (Or.inl ⟨by rfl, ?_⟩) (by assumption) ?_
                rotate_left
                · intro wS hSw; (try dsimp only at hSw); go_simp; (try with_reducible rfl)
                try simp only [Act.put, List.setIfInBounds_toArray, List.set_cons_zero, List.set_cons_succ]
                refine takeD (i := 19) (d := some 61) (v := ?_) rfl rfl (by kernel_rfl) (by kernel_rfl) (by kernel_rfl) (fun _ _ _ h => h) (Or.inl ⟨by rfl, ?_⟩) (by assumption) ?_
                rotate_left
                · intro wS hSw; (try dsimp only at hSw); go_simp; (try with_reducible rfl)
                try simp only [Act.put, List.setIfInBounds_toArray, List.set_cons_zero, List.set_cons_succ]
                refine takeD (i := 20) (d := some 62) (v := ?_) rfl rfl (by kernel_rfl) (by kernel_rfl) (by kernel_rfl) (fun _ _ _ h => h) (Or.inl ⟨by rfl, ?_⟩) (by assumption) ?_
                rotate_left
                · intro wS hSw; (try dsimp only at hSw); go_simp; (try with_reducible rfl)
                try simp only [Act.put, List.setIfInBounds_toArray, List.set_cons_zero, List.set_cons_succ]
                refine takeD (i := 21) (d := some 63) (v := .bool true) rfl rfl (by kernel_rfl) (by kernel_rfl) (by kernel_rfl) (fun _ _ _ h => h) (Or.inl ⟨by rfl, ?_⟩) (by assumption) ?_
                · intro wS hSw; (try dsimp only at hSw); go_simp; (try simp [hmn, hfr]); (try with_reducible rfl)
                try simp only [Act.put, List.setIfInBounds_toArray, List.set_cons_zero, List.set_cons_succ]
                refine takeD (i := 22) (d := some 64) (v := ?_) rfl rfl (by kernel_rfl) (by kernel_rfl) (by kernel_rfl) (fun _ _ _ h => h) (Or.inl ⟨by rfl, ?_⟩) (by assumption) ?_
                rotate_left
                · intro wS hSw; (try dsimp only at hSw); go_simp; (try with_reducible rfl)
                try simp only [Act.put, List.setIfInBounds_toArray, List.set_cons_zero, List.set_cons_succ]
                refine wpAnyH_done (by kernel_rfl) ?_ _
                go_wp2_with fail
                go_ret
                exact ⟨ret_boolH HN2.out.symm, hHeld.2.2.2⟩
            · have HN3 : Hid (hitRow m lv (row.drop (j + 1)) (j + 1) = R) := (show _ = R from by have h := HJ2.out; simpa [hle] using h)
              clear HJ2 HJ
              go_wp2_with fail
              refine wp_region_held_drew (S := fun W => W.cell? ⟨bt, ot + u, none⟩ = some (.slice (some ⟨bi, oi, none⟩) row.length ci) ∧ W.cell? ⟨bi, oi + j, none⟩ = some (.int .i64 cv) ∧ W.cell? ⟨b, off + k * 2 + 1, none⟩ = some (.int .i64 (m : Nat)) ∧ Below w.heap.size w W) (by kernel_rfl) ⟨q0c, kc, k1b, hb3d⟩ (fun hHeld => ?_)
              refine takeD (i := 0) (d := some 42) (v := ?_) rfl rfl (by kernel_rfl) (by kernel_rfl) (by kernel_rfl) (fun _ _ _ h => h) (Or.inl ⟨by rfl, ?_⟩) (by assumption) ?_
              rotate_left
              · intro wS hSw; (try dsimp only at hSw); go_simp; (try with_reducible rfl)
              try simp only [Act.put, List.setIfInBounds_toArray, List.set_cons_zero, List.set_cons_succ]
              refine takeD (i := 1) (d := some 43) (v := ?_) rfl rfl (by kernel_rfl) (by kernel_rfl) (by kernel_rfl) (fun _ _ _ h => h) (Or.inl ⟨by rfl, ?_⟩) (by assumption) ?_
              rotate_left
              · intro wS hSw; (try dsimp only at hSw); go_simp; (try with_reducible rfl)
              try simp only [Act.put, List.setIfInBounds_toArray, List.set_cons_zero, List.set_cons_succ]
              refine takeD (i := 2) (d := some 44) (v := ?_) rfl rfl (by kernel_rfl) (by kernel_rfl) (by kernel_rfl) (fun _ _ _ h => h) (Or.inl ⟨by rfl, ?_⟩) (by assumption) ?_
              rotate_left
              · intro wS hSw; (try dsimp only at hSw); go_simp; (try with_reducible rfl)
              try simp only [Act.put, List.setIfInBounds_toArray, List.set_cons_zero, List.set_cons_succ]
              refine takeD (i := 3) (d := some 45) (v := ?_) rfl rfl (by kernel_rfl) (by kernel_rfl) (by kernel_rfl) (fun _ _ _ h => h) (Or.inl ⟨by rfl, ?_⟩) (by assumption) ?_
              rotate_left
              · intro wS hSw; (try dsimp only at hSw); go_simp; (try with_reducible rfl)
              try simp only [Act.put, List.setIfInBounds_toArray, List.set_cons_zero, List.set_cons_succ]
              refine takeD (i := 4) (d := some 46) (v := ?_) rfl rfl (by kernel_rfl) (by kernel_rfl) (by kernel_rfl) (fun _ _ _ h => h) (Or.inl ⟨by rfl, ?_⟩) (by assumption) ?_
              rotate_left
              · intro wS hSw; (try dsimp only at hSw); go_simp; (try with_reducible rfl)
              try simp only [Act.put, List.setIfInBounds_toArray, List.set_cons_zero, List.set_cons_succ]
              refine takeD (i := 5) (d := some 47) (v := ?_) rfl rfl (by kernel_rfl) (by kernel_rfl) (by kernel_rfl) (fun _ _ _ h => h) (Or.inl ⟨by rfl, ?_⟩) (by assumption) ?_
              rotate_left
              · intro wS hSw; (try dsimp only at hSw); go_simp; (try with_reducible rfl)
              try simp only [Act.put, List.setIfInBounds_toArray, List.set_cons_zero, List.set_cons_succ]
              refine takeD (i := 6) (d := some 48) (v := ?_) rfl rfl (by kernel_rfl) (by kernel_rfl) (by kernel_rfl) (fun _ _ _ h => h) (Or.inl ⟨by rfl, ?_⟩) (by assumption) ?_
              rotate_left
              · intro wS hSw; (try dsimp only at hSw); go_simp; (try with_reducible rfl)
              try simp only [Act.put, List.setIfInBounds_toArray, List.set_cons_zero, List.set_cons_succ]
              refine takeD (i := 7) (d := some 49) (v := ?_) rfl rfl (by kernel_rfl) (by kernel_rfl) (by kernel_rfl) (fun _ _ _ h => h) (Or.inl ⟨by rfl, ?_⟩) (by assumption) ?_
              rotate_left
              · intro wS hSw; (try dsimp only at hSw); go_simp; (try with_reducible rfl)
              try simp only [Act.put, List.setIfInBounds_toArray, List.set_cons_zero, List.set_cons_succ]
              refine takeD (i := 8) (d := some 50) (v := ?_) rfl rfl (by kernel_rfl) (by kernel_rfl) (by kernel_rfl) (fun _ _ _ h => h) (Or.inl ⟨by rfl, ?_⟩) (by assumption) ?_
              rotate_left
              · intro wS hSw; (try dsimp only at hSw); go_simp; (try with_reducible rfl)
              try simp only [Act.put, List.setIfInBounds_toArray, List.set_cons_zero, List.set_cons_succ]
              refine wpAnyH_ready (rs := [9]) (by kernel_rfl) (by simp) ?_
              refine consD (d := some 51) rfl rfl (fun K hK => ?_) AllReadyH.nil
              go_simp
              (go_at_call 39; (with_reducible refine (CAW.out _ hHeld.2.2.2).mono ?_); rintro e w5 ⟨rfl, rfl⟩)
              refine hK.out _ _ hHeld (fun hHeld => ?_)
              clear hK K
              try simp only [Act.put, List.setIfInBounds_toArray, List.set_cons_zero, List.set_cons_succ]
              refine takeD (i := 10) (d := some 52) (v := .bool false) rfl rfl (by kernel_rfl) (by kernel_rfl) (by kernel_rfl) (fun _ _ _ h => h) (Or.inl ⟨by rfl, ?_⟩) (by assumption) ?_
              · intro wS hSw; (try dsimp only at hSw); go_simp; (try simp [hle]); (try with_reducible rfl)
              try simp only [Act.put, List.setIfInBounds_toArray, List.set_cons_zero, List.set_cons_succ]
              refine takeD (i := 11) (d := some 53) (v := ?_) rfl rfl (by kernel_rfl) (by kernel_rfl) (by kernel_rfl) (fun _ _ _ h => h) (Or.inl ⟨by rfl, ?_⟩) (by assumption) ?_
              rotate_left
              · intro wS hSw; (try dsimp only at hSw); go_simp; (try with_reducible rfl)
              try simp only [Act.put, List.setIfInBounds_toArray, List.set_cons_zero, List.set_cons_succ]
              refine takeD (i := 12) (d := some 54) (v := undef) rfl rfl (by kernel_rfl) (by kernel_rfl) (by kernel_rfl) (fun _ _ _ h => h) (Or.inr ⟨by rfl, rfl⟩) (by assumption) ?_
              try simp only [Act.put, List.setIfInBounds_toArray, List.set_cons_zero, List.set_cons_succ]
              refine takeD (i := 13) (d := some 55) (v := undef) rfl rfl (by kernel_rfl) (by kernel_rfl) (by kernel_rfl) (fun _ _ _ h => h) (Or.inr ⟨by rfl, rfl⟩) (by assumption) ?_
              try simp only [Act.put, List.setIfInBounds_toArray, List.set_cons_zero, List.set_cons_succ]
              refine takeD (i := 14) (d := some 56) (v := undef) rfl rfl (by kernel_rfl) (by kernel_rfl) (by kernel_rfl) (fun _ _ _ h => h) (Or.inr ⟨by rfl, rfl⟩) (by assumption) ?_
              try simp only [Act.put, List.setIfInBounds_toArray, List.set_cons_zero, List.set_cons_succ]
              refine takeD (i := 15) (d := some 57) (v := undef) rfl rfl (by kernel_rfl) (by kernel_rfl) (by kernel_rfl) (fun _ _ _ h => h) (Or.inr ⟨by rfl, rfl⟩) (by assumption) ?_
              try simp only [Act.put, List.setIfInBounds_toArray, List.set_cons_zero, List.set_cons_succ]
              refine takeD (i := 16) (d := some 58) (v := undef) rfl rfl (by kernel_rfl) (by kernel_rfl) (by kernel_rfl) (fun _ _ _ h => h) (Or.inr ⟨by rfl, rfl⟩) (by assumption) ?_
              try simp only [Act.put, List.setIfInBounds_toArray, List.set_cons_zero, List.set_cons_succ]
              refine takeD (i := 17) (d := some 59) (v := undef) rfl rfl (by kernel_rfl) (by kernel_rfl) (by kernel_rfl) (fun _ _ _ h => h) (Or.inr ⟨by rfl, rfl⟩) (by assumption) ?_
              try simp only [Act.put, List.setIfInBounds_toArray, List.set_cons_zero, List.set_cons_succ]
              refine takeD (i := 18) (d := some 60) (v := undef) rfl rfl (by kernel_rfl) (by kernel_rfl) (by kernel_rfl) (fun _ _ _ h => h) (Or.inr ⟨by rfl, rfl⟩) (by assumption) ?_
              try simp only [Act.put, List.setIfInBounds_toArray, List.set_cons_zero, List.set_cons_succ]
              refine takeD (i := 19) (d := some 61) (v := undef) rfl rfl (by kernel_rfl) (by kernel_rfl) (by kernel_rfl) (fun _ _ _ h => h) (Or.inr ⟨by rfl, rfl⟩) (by assumption) ?_
              try simp only [Act.put, List.setIfInBounds_toArray, List.set_cons_zero, List.set_cons_succ]
              refine takeD (i := 20) (d := some 62) (v := undef) rfl rfl (by kernel_rfl) (by kernel_rfl) (by kernel_rfl) (fun _ _ _ h => h) (Or.inr ⟨by rfl, rfl⟩) (by assumption) ?_
              try simp only [Act.put, List.setIfInBounds_toArray, List.set_cons_zero, List.set_cons_succ]
              refine takeD (i := 21) (d := some 63) (v := undef) rfl rfl (by kernel_rfl) (by kernel_rfl) (by kernel_rfl) (fun _ _ _ h => h) (Or.inr ⟨by rfl, rfl⟩) (by assumption) ?_
              try simp only [Act.put, List.setIfInBounds_toArray, List.set_cons_zero, List.set_cons_succ]
              refine takeD (i := 22) (d := some 64) (v := ?_) rfl rfl (by kernel_rfl) (by kernel_rfl) (by kernel_rfl) (fun _ _ _ h => h) (Or.inl ⟨by rfl, ?_⟩) (by assumption) ?_
              rotate_left
              · intro wS hSw; (try dsimp only at hSw); go_simp; (try with_reducible rfl)
              try simp only [Act.put, List.setIfInBounds_toArray, List.set_cons_zero, List.set_cons_succ]
              refine wpAnyH_done (by kernel_rfl) ?_ _
              go_wp2_with fail
              go_roundg (row.length - (j + 1))
              case rel => exact ⟨j + 1, by omega, by go_num, HN3, hHeld.2.2.2⟩
              case measure => omega
          · obtain rfl : j = row.length := by omega
            have HF : Hid (R = false) := by have h := HJ.out; rw [List.drop_length] at h; exact h.symm
            have HN2 := Lib.hid (HT.out HF.out)
            clear HD HT HY hri
            go_wp2_with fail
            go_roundg (n - (k + 1))
            case rel => exact ⟨k + 1, by omega, by go_num, HN2.out, hb3⟩
            case measure => omega
    · obtain rfl : k = n := by omega
      have HE : Hid (core.any (hitT t lim) = false) := by
        have := HS.out
        rwa [List.take_of_length_le (by rw [HN.out]; exact Nat.le_refl _)] at this
      go_wp2_with fail
      go_ret
      exact ⟨ret_boolH HE.out.symm, hbel⟩
end Go.Proofs.YtmfdpdnokiidlaaDoor
