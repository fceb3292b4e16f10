/-
  The walk of chapter 4's reference Has. Conditions: Pre and Build of each cut and version have at most 1048576 bytes.
-/
import Derived.Test.YthaagngoefieaaaDoorCHolds
import Derived.Test.YthaagngoefieaaaDoorCIn
namespace Go.Proofs.YthaagngoefieaaaDoor
open Go.ChangeShapes Go.WideShapes Go.ChangeAt Go.RowKit
set_option linter.unusedVariables false
set_option linter.unusedSimpArgs false

def HasAt (w W : World) (l : List SpanC) (v : Ver) (L : List (Nat × List Value)) (k : Nat) : Prop := (l.take k).any (holdsC · v) = false ∧ Loc w W L
set_option maxRecDepth 8192 in
set_option maxHeartbeats 4000000 in
theorem rhas_any (A : Option Addr) (n cap B : Nat) (l : List SpanC) (va vb vc : Int) (vp vq : ByteArray) (w : World) (h : RdS w B A l) (hl : l.length = n) (hok : ∀ s ∈ l, okS s) (hB : B ≤ w.heap.size) (hn : n ≤ 1073741824) (hvp : vp.size ≤ 1048576) (hvq : vq.size ≤ 1048576) :
    Calls Tryd.prog 21 #[.slice A n cap, .agg #[.int .i64 va, .int .i64 vb, .int .i64 vc, .string vp, .string vq]] w fun e w' => e = .returned (.bool (hasR l (verS va vb vc vp vq))) ∧ Below w.heap.size w w' := by
  have H := Lib.hid h
  have HL := Lib.hid hl
  have HR : Hid (hasR l (verS va vb vc vp vq) = (mayRow l && l.any (holdsC · (verS va vb vc vp vq)))) := rfl
  have cm := fun W (h1 : RdS W B A l) (h2 : B ≤ W.heap.size) => rrowmay_any A n cap B l W h1 hl hok h2 hn
  clear h hl
  generalize hasR l (verS va vb vc vp vq) = R at *
  generalize mayRow l = rm at *
  go_enter Tryd.func21, Tryd.ntmps21
  go_wp2
  go_loopw [5] (fun i wr => ∃ k : Nat, k ≤ n ∧ i = .int .i64 k ∧ HasAt w wr l (verS va vb vc vp vq) [(w.heap.size, [.int .i64 va, .int .i64 vb, .int .i64 vc, .string vp, .string vq])] k) (fun i _ => n - (intOf i).toNat)
  case atStart => exact ⟨0, by omega, rfl, rfl, loc_new (loc_start w) w.heap.size [.int .i64 va, .int .i64 vb, .int .i64 vc, .string vp, .string vq] _⟩
  case round =>
    obtain ⟨k, hk, rfl, hst⟩ := hrel
    have HS := Lib.hid hst.1
    have hL := hst.2
    clear hst
    by_cases hlt : k < n
    · have hrd := rds_below H.out (hL.1.mono hB)
      have hge := hL.1.size
      have cm1 := cm wr hrd (by omega)
      have i1 : (k : Int) < (n : Int) := by omega
      cases rm
      · have HE : Hid (R = false) := HR.out
        clear cm HR
        go_wp2_with fail
        refine cm1.mono ?_
        rintro r w1 ⟨rfl, hb1⟩
        go_wp2_with fail
        go_ret
        exact ⟨ret_bool HE.out.symm, (loc_call hL hb1).1⟩
      · go_wp2_with fail
        refine cm1.mono ?_
        rintro r w1 ⟨rfl, hb1⟩
        have hL := loc_call hL hb1
        have hrd1 := rds_below H.out (hL.1.mono hB)
        obtain ⟨b, e, a, x, c, p, q, f, e', a', x', c', p', q', f', rfl, hbB, hs, ⟨hp, hq, hp', hq'⟩, k0, k1, k2, k3, k4, k5, k6, k7, k8, k9, k10, k11, k12, k13⟩ := rds_at hrd1 hok (k := k) (by rw [HL.out]; exact hlt)
        have hge1 := hL.1.size
        have hbw : b < w1.heap.size := by omega
        have m1 := fun W => rholds_any e a x c p q f e' a' x' c' p' q' f' va vb vc vp vq W hp hq hp' hq' hvp hvq
        have HT : Hid (∀ r : Bool, r = holdsC ⟨cutS e a x c p q f, cutS e' a' x' c' p' q' f'⟩ (verS va vb vc vp vq) → (r = true → R = true) ∧ (r = false → (l.take (k + 1)).any (holdsC · (verS va vb vc vp vq)) = false)) := by
          rintro r rfl
          exact ⟨fun h => HR.out.trans (any_hit (p := (holdsC · (verS va vb vc vp vq))) hs h), fun h => any_take_succ HS.out hs h⟩
        have HT2 := Lib.hid (HT.out _ rfl)
        generalize holdsC ⟨cutS e a x c p q f, cutS e' a' x' c' p' q' f'⟩ (verS va vb vc vp vq) = rh at *
        clear hs HT hb1 cm1
        have hLd := loc_drew hL
        obtain ⟨d0, d1, d2, d3, d4⟩ := cells5L (loc_own hL 0 rfl).1
        cases rh
        · have HN := Lib.hid (HT2.out.2 rfl)
          go_wp2_with fail
          refine wp_region_held_drew (S := fun W => (W.cell? ⟨b, k * 14, none⟩ = some (.int .i64 e) ∧ W.cell? ⟨b, k * 14 + 1, none⟩ = some (.int .i64 a) ∧ W.cell? ⟨b, k * 14 + 2, none⟩ = some (.int .i64 x) ∧ W.cell? ⟨b, k * 14 + 3, none⟩ = some (.int .i64 c) ∧ W.cell? ⟨b, k * 14 + 4, none⟩ = some (.string p) ∧ W.cell? ⟨b, k * 14 + 5, none⟩ = some (.string q) ∧ W.cell? ⟨b, k * 14 + 6, none⟩ = some (.bool f) ∧ W.cell? ⟨b, k * 14 + 7, none⟩ = some (.int .i64 e') ∧ W.cell? ⟨b, k * 14 + 8, none⟩ = some (.int .i64 a') ∧ W.cell? ⟨b, k * 14 + 9, none⟩ = some (.int .i64 x') ∧ W.cell? ⟨b, k * 14 + 10, none⟩ = some (.int .i64 c') ∧ W.cell? ⟨b, k * 14 + 11, none⟩ = some (.string p') ∧ W.cell? ⟨b, k * 14 + 12, none⟩ = some (.string q') ∧ W.cell? ⟨b, k * 14 + 13, none⟩ = some (.bool f')) ∧ (W.cell? ⟨w.heap.size, 0, none⟩ = some (.int .i64 va) ∧ W.cell? ⟨w.heap.size, 1, none⟩ = some (.int .i64 vb) ∧ W.cell? ⟨w.heap.size, 2, none⟩ = some (.int .i64 vc) ∧ W.cell? ⟨w.heap.size, 3, none⟩ = some (.string vp) ∧ W.cell? ⟨w.heap.size, 4, none⟩ = some (.string vq))) (by kernel_rfl) ⟨⟨k0, k1, k2, k3, k4, k5, k6, k7, k8, k9, k10, k11, k12, k13⟩, ⟨d0, d1, d2, d3, d4⟩⟩ (fun hHeld => ?_)
          refine takeD (i := 0) (d := some 16) (v := ?_) rfl rfl (by kernel_rfl) (by kernel_rfl) (by kernel_rfl) (fun _ _ _ h => h) (Or.inl ⟨by rfl, ?_⟩) (by assumption) ?_
          rotate_left
          · intro wS hSw; (try dsimp only at hSw); go_simp; (try with_reducible rfl)
          try simp only [Act.put, List.setIfInBounds_toArray, List.set_cons_zero, List.set_cons_succ]
          refine takeD (i := 1) (d := some 17) (v := ?_) rfl rfl (by kernel_rfl) (by kernel_rfl) (by kernel_rfl) (fun _ _ _ h => h) (Or.inl ⟨by rfl, ?_⟩) (by assumption) ?_
          rotate_left
          · intro wS hSw; (try dsimp only at hSw); go_simp; (try with_reducible rfl)
          try simp only [Act.put, List.setIfInBounds_toArray, List.set_cons_zero, List.set_cons_succ]
          refine takeD (i := 2) (d := some 18) (v := ?_) rfl rfl (by kernel_rfl) (by kernel_rfl) (by kernel_rfl) (fun _ _ _ h => h) (Or.inl ⟨by rfl, ?_⟩) (by assumption) ?_
          rotate_left
          · intro wS hSw; (try dsimp only at hSw); go_simp; (try with_reducible rfl)
          try simp only [Act.put, List.setIfInBounds_toArray, List.set_cons_zero, List.set_cons_succ]
          refine takeD (i := 3) (d := some 19) (v := ?_) rfl rfl (by kernel_rfl) (by kernel_rfl) (by kernel_rfl) (fun _ _ _ h => h) (Or.inl ⟨by rfl, ?_⟩) (by assumption) ?_
          rotate_left
          · intro wS hSw; (try dsimp only at hSw); go_simp; (try with_reducible rfl)
          try simp only [Act.put, List.setIfInBounds_toArray, List.set_cons_zero, List.set_cons_succ]
          refine takeD (i := 4) (d := some 20) (v := ?_) rfl rfl (by kernel_rfl) (by kernel_rfl) (by kernel_rfl) (fun _ _ _ h => h) (Or.inl ⟨by rfl, ?_⟩) (by assumption) ?_
          rotate_left
          · intro wS hSw; (try dsimp only at hSw); go_simp; (try with_reducible rfl)
          try simp only [Act.put, List.setIfInBounds_toArray, List.set_cons_zero, List.set_cons_succ]
          refine wpAnyH_ready (rs := [5]) (by kernel_rfl) (by simp) ?_
          refine consD (d := some 21) rfl rfl (fun K hK => ?_) AllReadyH.nil
          go_simp
          (go_at_call 53; (with_reducible refine (m1 _).mono ?_); rintro r w4 ⟨rfl, hb4⟩)
          have hM4 := loc_call hLd hb4
          refine hK.out _ _ ⟨keep14 hb4 hbw hHeld.1, cells5L (loc_own hM4 0 rfl).1⟩ (fun hHeld => ?_)
          clear hK K
          try simp only [Act.put, List.setIfInBounds_toArray, List.set_cons_zero, List.set_cons_succ]
          refine wpAnyH_done (by kernel_rfl) ?_ _
          go_wp2_with fail
          go_roundw
          case rel => exact ⟨k + 1, by omega, by go_num, HN.out, hM4⟩
          case measure => simp [intOf]; omega
        · have HE := Lib.hid (HT2.out.1 rfl)
          go_wp2_with fail
          refine wp_region_held_drew (S := fun W => (W.cell? ⟨b, k * 14, none⟩ = some (.int .i64 e) ∧ W.cell? ⟨b, k * 14 + 1, none⟩ = some (.int .i64 a) ∧ W.cell? ⟨b, k * 14 + 2, none⟩ = some (.int .i64 x) ∧ W.cell? ⟨b, k * 14 + 3, none⟩ = some (.int .i64 c) ∧ W.cell? ⟨b, k * 14 + 4, none⟩ = some (.string p) ∧ W.cell? ⟨b, k * 14 + 5, none⟩ = some (.string q) ∧ W.cell? ⟨b, k * 14 + 6, none⟩ = some (.bool f) ∧ W.cell? ⟨b, k * 14 + 7, none⟩ = some (.int .i64 e') ∧ W.cell? ⟨b, k * 14 + 8, none⟩ = some (.int .i64 a') ∧ W.cell? ⟨b, k * 14 + 9, none⟩ = some (.int .i64 x') ∧ W.cell? ⟨b, k * 14 + 10, none⟩ = some (.int .i64 c') ∧ W.cell? ⟨b, k * 14 + 11, none⟩ = some (.string p') ∧ W.cell? ⟨b, k * 14 + 12, none⟩ = some (.string q') ∧ W.cell? ⟨b, k * 14 + 13, none⟩ = some (.bool f')) ∧ (W.cell? ⟨w.heap.size, 0, none⟩ = some (.int .i64 va) ∧ W.cell? ⟨w.heap.size, 1, none⟩ = some (.int .i64 vb) ∧ W.cell? ⟨w.heap.size, 2, none⟩ = some (.int .i64 vc) ∧ W.cell? ⟨w.heap.size, 3, none⟩ = some (.string vp) ∧ W.cell? ⟨w.heap.size, 4, none⟩ = some (.string vq))) (by kernel_rfl) ⟨⟨k0, k1, k2, k3, k4, k5, k6, k7, k8, k9, k10, k11, k12, k13⟩, ⟨d0, d1, d2, d3, d4⟩⟩ (fun hHeld => ?_)
          refine takeD (i := 0) (d := some 16) (v := ?_) rfl rfl (by kernel_rfl) (by kernel_rfl) (by kernel_rfl) (fun _ _ _ h => h) (Or.inl ⟨by rfl, ?_⟩) (by assumption) ?_
          rotate_left
          · intro wS hSw; (try dsimp only at hSw); go_simp; (try with_reducible rfl)
          try simp only [Act.put, List.setIfInBounds_toArray, List.set_cons_zero, List.set_cons_succ]
          refine takeD (i := 1) (d := some 17) (v := ?_) rfl rfl (by kernel_rfl) (by kernel_rfl) (by kernel_rfl) (fun _ _ _ h => h) (Or.inl ⟨by rfl, ?_⟩) (by assumption) ?_
          rotate_left
          · intro wS hSw; (try dsimp only at hSw); go_simp; (try with_reducible rfl)
          try simp only [Act.put, List.setIfInBounds_toArray, List.set_cons_zero, List.set_cons_succ]
          refine takeD (i := 2) (d := some 18) (v := ?_) rfl rfl (by kernel_rfl) (by kernel_rfl) (by kernel_rfl) (fun _ _ _ h => h) (Or.inl ⟨by rfl, ?_⟩) (by assumption) ?_
          rotate_left
          · intro wS hSw; (try dsimp only at hSw); go_simp; (try with_reducible rfl)
          try simp only [Act.put, List.setIfInBounds_toArray, List.set_cons_zero, List.set_cons_succ]
          refine takeD (i := 3) (d := some 19) (v := ?_) rfl rfl (by kernel_rfl) (by kernel_rfl) (by kernel_rfl) (fun _ _ _ h => h) (Or.inl ⟨by rfl, ?_⟩) (by assumption) ?_
          rotate_left
          · intro wS hSw; (try dsimp only at hSw); go_simp; (try with_reducible rfl)
          try simp only [Act.put, List.setIfInBounds_toArray, List.set_cons_zero, List.set_cons_succ]
          refine takeD (i := 4) (d := some 20) (v := ?_) rfl rfl (by kernel_rfl) (by kernel_rfl) (by kernel_rfl) (fun _ _ _ h => h) (Or.inl ⟨by rfl, ?_⟩) (by assumption) ?_
          rotate_left
          · intro wS hSw; (try dsimp only at hSw); go_simp; (try with_reducible rfl)
          try simp only [Act.put, List.setIfInBounds_toArray, List.set_cons_zero, List.set_cons_succ]
          refine wpAnyH_ready (rs := [5]) (by kernel_rfl) (by simp) ?_
          refine consD (d := some 21) rfl rfl (fun K hK => ?_) AllReadyH.nil
          go_simp
          (go_at_call 53; (with_reducible refine (m1 _).mono ?_); rintro r w4 ⟨rfl, hb4⟩)
          have hM4 := loc_call hLd hb4
          refine hK.out _ _ ⟨keep14 hb4 hbw hHeld.1, cells5L (loc_own hM4 0 rfl).1⟩ (fun hHeld => ?_)
          clear hK K
          try simp only [Act.put, List.setIfInBounds_toArray, List.set_cons_zero, List.set_cons_succ]
          refine wpAnyH_done (by kernel_rfl) ?_ _
          go_wp2_with fail
          go_ret
          exact ⟨ret_bool HE.out.symm, loc_below hM4⟩
    · obtain rfl : k = n := by omega
      have HE : Hid (R = false) := by
        have h1 := HS.out
        rw [List.take_of_length_le (by rw [HL.out]; exact Nat.le_refl _)] at h1
        show R = false
        rw [HR.out, h1, Bool.and_false]
      clear cm
      go_wp2_with fail
      go_ret
      exact ⟨ret_bool HE.out.symm, loc_below hL⟩
end Go.Proofs.YthaagngoefieaaaDoor
