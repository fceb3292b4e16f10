/-
  The walks of chapter 6's reference span and Region. Conditions: the comparator may be; Pre has at most 1048576 bytes.
-/
import Derived.Test.YthaagngoefieaaaDoorCRNot
import Derived.Test.YthaagngoefieaaaDoorG6
import Derived.Test.YthaagngoefieaaaDoorCHigh
import Derived.Deep.DeepCutAuto
import Derived.IntWalk
namespace Go.Proofs.YthaagngoefieaaaDoor
open Go.ChangeShapes Go.WideShapes Go.ChangeAt Go.RowKit
set_option linter.unusedVariables false
set_option linter.unusedSimpArgs false

theorem spanR_eq (c : Cmp) : spanR c = (if c.op = 1 ∨ c.op = 2 then ⟨beforeR c.v, behindR c⟩
  else if c.op = 3 then ⟨firstC, beforeR c.v⟩
  else if c.op = 4 then ⟨firstC, behindR c⟩
  else if c.op = 5 then ⟨behindR c, lastC⟩
  else if c.op = 6 then ⟨beforeR c.v, lastC⟩
  else if c.op = 7 then ⟨beforeR c.v, highC c.v (turnsR c + 1).toNat⟩
  else if c.op = 8 then ⟨beforeR c.v, highC c.v (min (c.parts - 1) 1 + 1).toNat⟩
  else if c.parts = 0 then ⟨firstC, lastC⟩ else ⟨beforeR c.v, highC c.v c.parts.toNat⟩) := rfl
theorem turns_bd (c : Cmp) : 0 ≤ turnsR c ∧ turnsR c ≤ 2 := by
  unfold turnsR
  split
  · omega
  · split <;> omega
theorem span6_res (W : World) (tmps : Array Value) (b b' : Nat) {x0 x1 x2 x3 x4 x5 x6 y0 y1 y2 y3 y4 y5 y6 : Value} (h2 : tmps[2]?.getD undef = .pointer (some ⟨b, 0, none⟩)) (h3 : tmps[3]?.getD undef = .pointer (some ⟨b', 0, none⟩)) (h : Cells W b [x0, x1, x2, x3, x4, x5, x6]) (h' : Cells W b' [y0, y1, y2, y3, y4, y5, y6]) :
    (results Tryd.f61 tmps).run Tryd.prog W = .ok (.tuple #[.agg #[x0, x1, x2, x3, x4, x5, x6], .agg #[y0, y1, y2, y3, y4, y5, y6]]) W := by
  obtain ⟨k0, k1, k2, k3, k4, k5, k6⟩ := cells7L h
  obtain ⟨l0, l1, l2, l3, l4, l5, l6⟩ := cells7L h'
  simp [results, Tryd.results61, h2, h3, go_sem, k0, k1, k2, k3, k4, k5, k6, l0, l1, l2, l3, l4, l5, l6]

set_option maxRecDepth 8192 in
set_option maxHeartbeats 8000000 in
theorem rspan6_any (op ps a b c : Int) (p : ByteArray) (w : World) (hp : p.size ≤ 1048576) (ho1 : 1 ≤ op) (ho9 : op ≤ 9) (hp0 : 0 ≤ ps) (hp3 : ps ≤ 3) (hps : op ≠ 9 → 1 ≤ ps) :
    Calls Tryd.prog 61 #[cvV op ps a b c p ⟨#[]⟩] w fun e w' => e = .returned (.tuple #[cutV (spanR (cmpS op ps a b c p ⟨#[]⟩)).f, cutV (spanR (cmpS op ps a b c p ⟨#[]⟩)).t]) ∧ Below w.heap.size w w' := by
  have HSP := Lib.hid (spanR_eq (cmpS op ps a b c p ⟨#[]⟩))
  have HB := Lib.hid (show behindR (cmpS op ps a b c p ⟨#[]⟩) = (if ps < 3 ∧ 0 < ps then highC (verS a b c p ⟨#[]⟩) ps.toNat else ⟨0, (verS a b c p ⟨#[]⟩), true⟩) from rfl)
  have cb := fun W => before_any a b c p ⟨#[]⟩ W
  have cd := fun W => behindr_any a b c p ⟨#[]⟩ W
  unfold cutW at cb cd
  have ix : IntKind.i64.wrap (ps - 1) = ps - 1 := IntWalk.i64_in _ (by omega)
  generalize behindR (cmpS op ps a b c p ⟨#[]⟩) = Bh at *
  unfold cvV
  go_enter Tryd.func61, Tryd.ntmps61
  go_wp2_with fail
  have hL := loc_new (loc_new (loc_new (loc_start w) w.heap.size [.int .i64 op, .int .i64 ps, .int .i64 a, .int .i64 b, .int .i64 c, .string p, .string ⟨#[]⟩] 26) (w.heap.size + 1) [.int .i64 0, .int .i64 0, .int .i64 0, .int .i64 0, .string ⟨#[]⟩, .string ⟨#[]⟩, .bool false] 48) (w.heap.size + 1 + 1) [.int .i64 0, .int .i64 0, .int .i64 0, .int .i64 0, .string ⟨#[]⟩, .string ⟨#[]⟩, .bool false] 48
  generalize hW : World.alloc (World.alloc (World.alloc _ _) _) _ = W1
  have hL : Loc w W1 [(w.heap.size, [.int .i64 op, .int .i64 ps, .int .i64 a, .int .i64 b, .int .i64 c, .string p, .string ⟨#[]⟩]), (w.heap.size + 1, [.int .i64 0, .int .i64 0, .int .i64 0, .int .i64 0, .string ⟨#[]⟩, .string ⟨#[]⟩, .bool false]), (w.heap.size + 1 + 1, [.int .i64 0, .int .i64 0, .int .i64 0, .int .i64 0, .string ⟨#[]⟩, .string ⟨#[]⟩, .bool false])] := by rw [← hW]; exact hL
  clear hW
  go_cut [4, 5] (fun v4 v5 wx => ∃ b4 : Nat, v4 = .pointer (some ⟨b4, 0, none⟩) ∧ v5 = .int .i64 (ps - 1) ∧ Loc w wx [(w.heap.size, [.int .i64 op, .int .i64 ps, .int .i64 a, .int .i64 b, .int .i64 c, .string p, .string ⟨#[]⟩]), (w.heap.size + 1, [.int .i64 0, .int .i64 0, .int .i64 0, .int .i64 0, .string ⟨#[]⟩, .string ⟨#[]⟩, .bool false]), (w.heap.size + 1 + 1, [.int .i64 0, .int .i64 0, .int .i64 0, .int .i64 0, .string ⟨#[]⟩, .string ⟨#[]⟩, .bool false]), (b4, [.int .i64 0, .int .i64 a, .int .i64 b, .int .i64 c, .string p, .string ⟨#[]⟩, .bool false])])
  case first =>
    have hLd := loc_drew hL
    obtain ⟨c0, c1, c2, c3, c4, c5, c6⟩ := cells7L (loc_own hL 0 rfl).1
    refine wp_region_held_drew (S := fun W => (W.cell? ⟨w.heap.size, 0, none⟩ = some (.int .i64 op) ∧ W.cell? ⟨w.heap.size, 1, none⟩ = some (.int .i64 ps) ∧ W.cell? ⟨w.heap.size, 2, none⟩ = some (.int .i64 a) ∧ W.cell? ⟨w.heap.size, 3, none⟩ = some (.int .i64 b) ∧ W.cell? ⟨w.heap.size, 4, none⟩ = some (.int .i64 c) ∧ W.cell? ⟨w.heap.size, 5, none⟩ = some (.string p) ∧ W.cell? ⟨w.heap.size, 6, none⟩ = some (.string ⟨#[]⟩)) ∧ Loc w W [(w.heap.size, [.int .i64 op, .int .i64 ps, .int .i64 a, .int .i64 b, .int .i64 c, .string p, .string ⟨#[]⟩]), (w.heap.size + 1, [.int .i64 0, .int .i64 0, .int .i64 0, .int .i64 0, .string ⟨#[]⟩, .string ⟨#[]⟩, .bool false]), (w.heap.size + 1 + 1, [.int .i64 0, .int .i64 0, .int .i64 0, .int .i64 0, .string ⟨#[]⟩, .string ⟨#[]⟩, .bool false])]) (by kernel_rfl) ⟨⟨c0, c1, c2, c3, c4, c5, c6⟩, hLd⟩ (fun hHeld => ?_)
    refine takeD (i := 0) (d := some 7) (v := ?_) rfl rfl (by kernel_rfl) (by kernel_rfl) (by kernel_rfl) (fun _ _ _ h => h) (Or.inl ⟨by rfl, ?_⟩) (by assumption) ?_
    rotate_left
    · intro wS hSw; (try dsimp only at hSw); go_simp; (try with_reducible rfl)
    try simp only [Act.put, List.setIfInBounds_toArray, List.set_cons_zero, List.set_cons_succ]
    refine takeD (i := 1) (d := some 8) (v := ?_) rfl rfl (by kernel_rfl) (by kernel_rfl) (by kernel_rfl) (fun _ _ _ h => h) (Or.inl ⟨by rfl, ?_⟩) (by assumption) ?_
    rotate_left
    · intro wS hSw; (try dsimp only at hSw); go_simp; (try with_reducible rfl)
    try simp only [Act.put, List.setIfInBounds_toArray, List.set_cons_zero, List.set_cons_succ]
    refine takeD (i := 3) (d := some 10) (v := ?_) rfl rfl (by kernel_rfl) (by kernel_rfl) (by kernel_rfl) (fun _ _ _ h => h) (Or.inl ⟨by rfl, ?_⟩) (by assumption) ?_
    rotate_left
    · intro wS hSw; (try dsimp only at hSw); go_simp; (try with_reducible rfl)
    try simp only [Act.put, List.setIfInBounds_toArray, List.set_cons_zero, List.set_cons_succ]
    refine takeD (i := 4) (d := some 11) (v := ?_) rfl rfl (by kernel_rfl) (by kernel_rfl) (by kernel_rfl) (fun _ _ _ h => h) (Or.inl ⟨by rfl, ?_⟩) (by assumption) ?_
    rotate_left
    · intro wS hSw; (try dsimp only at hSw); go_simp; (try with_reducible rfl)
    try simp only [Act.put, List.setIfInBounds_toArray, List.set_cons_zero, List.set_cons_succ]
    refine takeD (i := 5) (d := some 12) (v := ?_) rfl rfl (by kernel_rfl) (by kernel_rfl) (by kernel_rfl) (fun _ _ _ h => h) (Or.inl ⟨by rfl, ?_⟩) (by assumption) ?_
    rotate_left
    · intro wS hSw; (try dsimp only at hSw); go_simp; (try with_reducible rfl)
    try simp only [Act.put, List.setIfInBounds_toArray, List.set_cons_zero, List.set_cons_succ]
    refine wpAnyH_ready (rs := [2, 6]) (by kernel_rfl) (by simp) ?_
    refine consD (d := some 9) rfl rfl (fun K hK => ?_) ?_
    · go_simp
      (go_at_call 63; (with_reducible refine (cb _).mono ?_); rintro r w2 ⟨rfl, hb2⟩)
      have hM := loc_call hHeld.2 hb2
      refine hK.out _ _ ⟨cells7L (loc_own hM 0 rfl).1, hM⟩ (fun hHeld => ?_)
      clear hK K
      try simp only [Act.put, List.setIfInBounds_toArray, List.set_cons_zero, List.set_cons_succ]
      refine wpAnyH_ready (rs := [6]) (by kernel_rfl) (by simp) ?_
      refine consD (d := some 4) rfl rfl (fun K hK => ?_) AllReadyH.nil
      go_simp
      have hM2 := loc_new hM w2.heap.size [.int .i64 0, .int .i64 0, .int .i64 0, .int .i64 0, .string ⟨#[]⟩, .string ⟨#[]⟩, .bool false] 48 rfl
      refine hK.out _ _ ⟨cells7L (loc_own hM2 0 rfl).1, loc_init (M := [(_, _)]) hM2⟩ (fun hHeld => ?_)
      clear hK K
      try simp only [Act.put, List.setIfInBounds_toArray, List.set_cons_zero, List.set_cons_succ]
      generalize World.alloc w2 _ = Wa at *
      obtain ⟨t0, t1, t2, t3, t4, t5, t6⟩ := cells7L (loc_own hM2 3 rfl).1
      have tf := (loc_own hM2 3 rfl).2
      refine wpAnyH_ready (rs := [7]) (by kernel_rfl) (by simp) ?_
      refine consD (d := none) rfl rfl (fun K hK => ?_) AllReadyH.nil
      go_simp
      have hM3 := loc_put hM2 3 0 [.int .i64 0, .int .i64 a, .int .i64 b, .int .i64 c, .string p, .string ⟨#[]⟩, .bool false] rfl (by simp)
      refine hK.out _ _ ⟨cells7L (loc_own hM3 0 rfl).1, loc_init (M := [(_, _)]) hM3⟩ (fun hHeld => ?_)
      clear hK K
      try simp only [Act.put, List.setIfInBounds_toArray, List.set_cons_zero, List.set_cons_succ]
      clear t0 t1 t2 t3 t4 t5 t6 tf
      refine takeD (i := 8) (d := some 5) (v := ?_) rfl rfl (by kernel_rfl) (by kernel_rfl) (by kernel_rfl) (fun _ _ _ h => h) (Or.inl ⟨by rfl, ?_⟩) (by assumption) ?_
      rotate_left
      · intro wS hSw; (try dsimp only at hSw); go_simp; (try with_reducible rfl)
      try simp only [Act.put, List.setIfInBounds_toArray, List.set_cons_zero, List.set_cons_succ]
      refine wpAnyH_done (by kernel_rfl) ?_ _
      go_wp2_with fail
      go_meet
      exact ⟨_, rfl, rfl, hM3⟩
    · refine consD (d := some 4) rfl rfl (fun K hK => ?_) AllReadyH.nil
      go_simp
      have hM1 := loc_new hHeld.2 W1.heap.size [.int .i64 0, .int .i64 0, .int .i64 0, .int .i64 0, .string ⟨#[]⟩, .string ⟨#[]⟩, .bool false] 48 rfl
      refine hK.out _ _ ⟨cells7L (loc_own hM1 0 rfl).1, loc_init (M := [(_, _)]) hM1⟩ (fun hHeld => ?_)
      clear hK K
      try simp only [Act.put, List.setIfInBounds_toArray, List.set_cons_zero, List.set_cons_succ]
      refine wpAnyH_ready (rs := [2]) (by kernel_rfl) (by simp) ?_
      refine consD (d := some 9) rfl rfl (fun K hK => ?_) AllReadyH.nil
      go_simp
      (go_at_call 63; (with_reducible refine (cb _).mono ?_); rintro r w2 ⟨rfl, hb2⟩)
      have hM2 := loc_call hM1 hb2
      refine hK.out _ _ ⟨cells7L (loc_own hM2 0 rfl).1, loc_init (M := [(_, _)]) hM2⟩ (fun hHeld => ?_)
      clear hK K
      try simp only [Act.put, List.setIfInBounds_toArray, List.set_cons_zero, List.set_cons_succ]
      obtain ⟨t0, t1, t2, t3, t4, t5, t6⟩ := cells7L (loc_own hM2 3 rfl).1
      have tf := (loc_own hM2 3 rfl).2
      refine wpAnyH_ready (rs := [7]) (by kernel_rfl) (by simp) ?_
      refine consD (d := none) rfl rfl (fun K hK => ?_) AllReadyH.nil
      go_simp
      have hM3 := loc_put hM2 3 0 [.int .i64 0, .int .i64 a, .int .i64 b, .int .i64 c, .string p, .string ⟨#[]⟩, .bool false] rfl (by simp)
      refine hK.out _ _ ⟨cells7L (loc_own hM3 0 rfl).1, loc_init (M := [(_, _)]) hM3⟩ (fun hHeld => ?_)
      clear hK K
      try simp only [Act.put, List.setIfInBounds_toArray, List.set_cons_zero, List.set_cons_succ]
      clear t0 t1 t2 t3 t4 t5 t6 tf
      refine takeD (i := 8) (d := some 5) (v := ?_) rfl rfl (by kernel_rfl) (by kernel_rfl) (by kernel_rfl) (fun _ _ _ h => h) (Or.inl ⟨by rfl, ?_⟩) (by assumption) ?_
      rotate_left
      · intro wS hSw; (try dsimp only at hSw); go_simp; (try with_reducible rfl)
      try simp only [Act.put, List.setIfInBounds_toArray, List.set_cons_zero, List.set_cons_succ]
      refine wpAnyH_done (by kernel_rfl) ?_ _
      go_wp2_with fail
      go_meet
      exact ⟨_, rfl, rfl, hM3⟩
  case rest =>
    obtain ⟨b4, rfl, rfl, hL⟩ := hcut
    obtain ⟨c0, c1, c2, c3, c4, c5, c6⟩ := cells7L (loc_own hL 0 rfl).1
    go_wp2_with fail
    refine (cd _).mono ?_
    rintro r w3 ⟨rfl, hb3⟩
    have hL := loc_new (loc_call hL hb3) w3.heap.size [.int .i64 0, .int .i64 a, .int .i64 b, .int .i64 c, .string p, .string ⟨#[]⟩, .bool true] 48
    clear hb3 c0 c1 c2 c3 c4 c5 c6 cd cb
    go_upto_region 3 with fail
    generalize hW : World.alloc w3 _ = W4
    have hL : Loc w W4 [(w.heap.size, [.int .i64 op, .int .i64 ps, .int .i64 a, .int .i64 b, .int .i64 c, .string p, .string ⟨#[]⟩]), (w.heap.size + 1, [.int .i64 0, .int .i64 0, .int .i64 0, .int .i64 0, .string ⟨#[]⟩, .string ⟨#[]⟩, .bool false]), (w.heap.size + 1 + 1, [.int .i64 0, .int .i64 0, .int .i64 0, .int .i64 0, .string ⟨#[]⟩, .string ⟨#[]⟩, .bool false]), (b4, [.int .i64 0, .int .i64 a, .int .i64 b, .int .i64 c, .string p, .string ⟨#[]⟩, .bool false]), (w3.heap.size, [.int .i64 0, .int .i64 a, .int .i64 b, .int .i64 c, .string p, .string ⟨#[]⟩, .bool true])] := by rw [← hW]; exact hL
    clear hW
    generalize w3.heap.size = b6 at *
    obtain ⟨c0, c1, c2, c3, c4, c5, c6⟩ := cells7L (loc_own hL 0 rfl).1
    obtain ⟨bA, hbA⟩ : ∃ bA : Bool, (decide (ps < 3) && decide (0 < ps)) = bA := ⟨_, rfl⟩
    have HA := Lib.hid hbA
    clear hbA
    go_cut [23] (fun v wx => v = .bool bA ∧ wx = W4)
    case first =>
      by_cases h3 : ps < 3
      · by_cases h0 : 0 < ps
        · have e : bA = true := by rw [← HA.out]; simp [h3, h0]
          subst e
          go_wp2_with fail
          go_meet
          exact ⟨rfl, rfl⟩
        · have e : bA = false := by rw [← HA.out]; simp [h0]
          subst e
          go_wp2_with fail
          go_meet
          exact ⟨rfl, rfl⟩
      · have e : bA = false := by rw [← HA.out]; simp [h3]
        subst e
        go_wp2_with fail
        go_meet
        exact ⟨rfl, rfl⟩
    case rest =>
    obtain ⟨rfl, rfl⟩ := hcut
    clear c0 c1 c2 c3 c4 c5 c6
    go_upto_if 23 with fail
    go_cut [] (fun wx => Loc w wx [(w.heap.size, [.int .i64 op, .int .i64 ps, .int .i64 a, .int .i64 b, .int .i64 c, .string p, .string ⟨#[]⟩]), (w.heap.size + 1, [.int .i64 0, .int .i64 0, .int .i64 0, .int .i64 0, .string ⟨#[]⟩, .string ⟨#[]⟩, .bool false]), (w.heap.size + 1 + 1, [.int .i64 0, .int .i64 0, .int .i64 0, .int .i64 0, .string ⟨#[]⟩, .string ⟨#[]⟩, .bool false]), (b4, [.int .i64 0, .int .i64 a, .int .i64 b, .int .i64 c, .string p, .string ⟨#[]⟩, .bool false]), (b6, [.int .i64 Bh.e, .int .i64 Bh.v.maj, .int .i64 Bh.v.min, .int .i64 Bh.v.pat, .string ⟨Bh.v.pre.toArray⟩, .string ⟨Bh.v.build.toArray⟩, .bool Bh.aft])])
    case first =>
      have hAe : bA = true ↔ ps < 3 ∧ 0 < ps := by rw [← HA.out]; simp
      obtain ⟨c0, c1, c2, c3, c4, c5, c6⟩ := cells7L (loc_own hL 0 rfl).1
      obtain ⟨k0, k1, k2, k3, k4, k5, k6⟩ := cells7L (loc_own hL 4 rfl).1
      have f6 := (loc_own hL 4 rfl).2
      cases bA
      · have hA : ¬ (ps < 3 ∧ 0 < ps) := fun h => by have := hAe.2 h; cases this
        have hBe : Bh = ⟨0, (verS a b c p ⟨#[]⟩), true⟩ := HB.out.trans (if_neg hA)
        subst hBe
        clear hA hAe
        go_wp2_with fail
        go_meet
        exact hL
      · have hA : ps < 3 ∧ 0 < ps := hAe.1 rfl
        have hBe : Bh = highC (verS a b c p ⟨#[]⟩) ps.toNat := HB.out.trans (if_pos hA)
        have ch := fun W => rhigh_any a b c p ⟨#[]⟩ ps.toNat W (by omega) hp (by decide)
        rw [show plI ps.toNat = ps - 1 from by unfold plI; omega, ← hBe] at ch
        unfold cutV cutCells at ch
        clear hA hBe hAe
        go_wp2_with fail
        refine (ch _).mono ?_
        rintro r w5 ⟨rfl, hb5⟩
        have hL := loc_call hL hb5
        clear hb5 c0 c1 c2 c3 c4 c5 c6 k0 k1 k2 k3 k4 k5 k6 f6
        obtain ⟨k0, k1, k2, k3, k4, k5, k6⟩ := cells7L (loc_own hL 4 rfl).1
        have f6 := (loc_own hL 4 rfl).2
        go_wp2_with fail
        go_meet
        exact loc_put hL 4 0 [.int .i64 Bh.e, .int .i64 Bh.v.maj, .int .i64 Bh.v.min, .int .i64 Bh.v.pat, .string ⟨Bh.v.pre.toArray⟩, .string ⟨Bh.v.build.toArray⟩, .bool Bh.aft] rfl (by simp)
    case rest =>
    have hL := hcut
    clear hcut HA
    have hops : op = 1 ∨ op = 2 ∨ op = 3 ∨ op = 4 ∨ op = 5 ∨ op = 6 ∨ op = 7 ∨ op = 8 ∨ op = 9 := by omega
    clear ho1 ho9
    rcases hops with rfl | rfl | rfl | rfl | rfl | rfl | rfl | rfl | rfl
    · have HS : Hid (spanR (cmpS 1 ps a b c p ⟨#[]⟩) = ⟨beforeR (verS a b c p ⟨#[]⟩), Bh⟩) := HSP.out
      clear HSP HB
      obtain ⟨c0, c1, c2, c3, c4, c5, c6⟩ := cells7L (loc_own hL 0 rfl).1
      obtain ⟨d0, d1, d2, d3, d4, d5, d6⟩ := cells7L (loc_own hL 3 rfl).1
      obtain ⟨k0, k1, k2, k3, k4, k5, k6⟩ := cells7L (loc_own hL 4 rfl).1
      go_wp2_with fail
      have hLd := loc_drew hL
      refine wp_region_held_drew (S := fun W => (W.cell? ⟨w.heap.size, 0, none⟩ = some (.int .i64 1) ∧ W.cell? ⟨w.heap.size, 1, none⟩ = some (.int .i64 ps) ∧ W.cell? ⟨w.heap.size, 2, none⟩ = some (.int .i64 a) ∧ W.cell? ⟨w.heap.size, 3, none⟩ = some (.int .i64 b) ∧ W.cell? ⟨w.heap.size, 4, none⟩ = some (.int .i64 c) ∧ W.cell? ⟨w.heap.size, 5, none⟩ = some (.string p) ∧ W.cell? ⟨w.heap.size, 6, none⟩ = some (.string ⟨#[]⟩)) ∧ (W.cell? ⟨b4, 0, none⟩ = some (.int .i64 0) ∧ W.cell? ⟨b4, 1, none⟩ = some (.int .i64 a) ∧ W.cell? ⟨b4, 2, none⟩ = some (.int .i64 b) ∧ W.cell? ⟨b4, 3, none⟩ = some (.int .i64 c) ∧ W.cell? ⟨b4, 4, none⟩ = some (.string p) ∧ W.cell? ⟨b4, 5, none⟩ = some (.string ⟨#[]⟩) ∧ W.cell? ⟨b4, 6, none⟩ = some (.bool false)) ∧ (W.cell? ⟨b6, 0, none⟩ = some (.int .i64 Bh.e) ∧ W.cell? ⟨b6, 1, none⟩ = some (.int .i64 Bh.v.maj) ∧ W.cell? ⟨b6, 2, none⟩ = some (.int .i64 Bh.v.min) ∧ W.cell? ⟨b6, 3, none⟩ = some (.int .i64 Bh.v.pat) ∧ W.cell? ⟨b6, 4, none⟩ = some (.string ⟨Bh.v.pre.toArray⟩) ∧ W.cell? ⟨b6, 5, none⟩ = some (.string ⟨Bh.v.build.toArray⟩) ∧ W.cell? ⟨b6, 6, none⟩ = some (.bool Bh.aft)) ∧ Below w.heap.size w W) (by kernel_rfl) ⟨⟨c0, c1, c2, c3, c4, c5, c6⟩, ⟨d0, d1, d2, d3, d4, d5, d6⟩, ⟨k0, k1, k2, k3, k4, k5, k6⟩, hLd.1⟩ (fun hHeld => ?_)
      generalize World.drew wc = Wd at *
      refine takeD (i := 0) (d := some 33) (v := ?_) rfl rfl (by kernel_rfl) (by kernel_rfl) (by kernel_rfl) (fun _ _ _ h => h) (Or.inl ⟨by rfl, ?_⟩) (by assumption) ?_
      rotate_left
      · intro wS hSw; (try dsimp only at hSw); go_simp; (try with_reducible rfl)
      try simp only [Act.put, List.setIfInBounds_toArray, List.set_cons_zero, List.set_cons_succ]
      refine takeD (i := 1) (d := some 34) (v := ?_) rfl rfl (by kernel_rfl) (by kernel_rfl) (by kernel_rfl) (fun _ _ _ h => h) (Or.inl ⟨by rfl, ?_⟩) (by assumption) ?_
      rotate_left
      · intro wS hSw; (try dsimp only at hSw); go_simp; (try with_reducible rfl)
      try simp only [Act.put, List.setIfInBounds_toArray, List.set_cons_zero, List.set_cons_succ]
      obtain ⟨t0, t1, t2, t3, t4, t5, t6⟩ := cells7L (loc_own hLd 1 rfl).1
      have tf := (loc_own hLd 1 rfl).2
      refine wpAnyH_ready (rs := [2]) (by kernel_rfl) (by simp) ?_
      refine consD (d := none) rfl rfl (fun K hK => ?_) AllReadyH.nil
      go_simp
      clear t0 t1 t2 t3 t4 t5 t6 tf
      have hZ1 := loc_put hLd 1 0 [.int .i64 0, .int .i64 a, .int .i64 b, .int .i64 c, .string p, .string ⟨#[]⟩, .bool false] rfl (by simp)
      refine hK.out _ _ ⟨cells7L (loc_own hZ1 0 rfl).1, cells7L (loc_own hZ1 3 rfl).1, cells7L (loc_own hZ1 4 rfl).1, hZ1.1⟩ (fun hHeld => ?_)
      clear hK K
      try simp only [Act.put, List.setIfInBounds_toArray, List.set_cons_zero, List.set_cons_succ]
      generalize hW : World.setCell (World.setCell _ _ _) ⟨w.heap.size + 1, 6, none⟩ _ = Z1 at *
      have hZ1 : Loc w Z1 [(w.heap.size, [.int .i64 1, .int .i64 ps, .int .i64 a, .int .i64 b, .int .i64 c, .string p, .string ⟨#[]⟩]), (w.heap.size + 1, [.int .i64 0, .int .i64 a, .int .i64 b, .int .i64 c, .string p, .string ⟨#[]⟩, .bool false]), (w.heap.size + 1 + 1, [.int .i64 0, .int .i64 0, .int .i64 0, .int .i64 0, .string ⟨#[]⟩, .string ⟨#[]⟩, .bool false]), (b4, [.int .i64 0, .int .i64 a, .int .i64 b, .int .i64 c, .string p, .string ⟨#[]⟩, .bool false]), (b6, [.int .i64 Bh.e, .int .i64 Bh.v.maj, .int .i64 Bh.v.min, .int .i64 Bh.v.pat, .string ⟨Bh.v.pre.toArray⟩, .string ⟨Bh.v.build.toArray⟩, .bool Bh.aft])] := by rw [← hW]; exact hZ1
      clear hW
      obtain ⟨t0, t1, t2, t3, t4, t5, t6⟩ := cells7L (loc_own hZ1 2 rfl).1
      have tf := (loc_own hZ1 2 rfl).2
      refine wpAnyH_ready (rs := [3]) (by kernel_rfl) (by simp) ?_
      refine consD (d := none) rfl rfl (fun K hK => ?_) AllReadyH.nil
      go_simp
      clear t0 t1 t2 t3 t4 t5 t6 tf
      have hZ2 := loc_put hZ1 2 0 [.int .i64 Bh.e, .int .i64 Bh.v.maj, .int .i64 Bh.v.min, .int .i64 Bh.v.pat, .string ⟨Bh.v.pre.toArray⟩, .string ⟨Bh.v.build.toArray⟩, .bool Bh.aft] rfl (by simp)
      refine hK.out _ _ ⟨cells7L (loc_own hZ2 0 rfl).1, cells7L (loc_own hZ2 3 rfl).1, cells7L (loc_own hZ2 4 rfl).1, hZ2.1⟩ (fun hHeld => ?_)
      clear hK K
      try simp only [Act.put, List.setIfInBounds_toArray, List.set_cons_zero, List.set_cons_succ]
      refine wpAnyH_done (by kernel_rfl) ?_ _
      go_wp2_with fail
      refine bodyPost_ret (span6_res _ _ (w.heap.size + 1) (w.heap.size + 1 + 1) rfl rfl (loc_own hZ2 1 rfl).1 (loc_own hZ2 2 rfl).1) rfl ?_
      exact ⟨by rw [HS.out]; rfl, hZ2.1⟩
    · have HS : Hid (spanR (cmpS 2 ps a b c p ⟨#[]⟩) = ⟨beforeR (verS a b c p ⟨#[]⟩), Bh⟩) := HSP.out
      clear HSP HB
      obtain ⟨c0, c1, c2, c3, c4, c5, c6⟩ := cells7L (loc_own hL 0 rfl).1
      obtain ⟨d0, d1, d2, d3, d4, d5, d6⟩ := cells7L (loc_own hL 3 rfl).1
      obtain ⟨k0, k1, k2, k3, k4, k5, k6⟩ := cells7L (loc_own hL 4 rfl).1
      go_wp2_with fail
      have hLd := loc_drew hL
      refine wp_region_held_drew (S := fun W => (W.cell? ⟨w.heap.size, 0, none⟩ = some (.int .i64 2) ∧ W.cell? ⟨w.heap.size, 1, none⟩ = some (.int .i64 ps) ∧ W.cell? ⟨w.heap.size, 2, none⟩ = some (.int .i64 a) ∧ W.cell? ⟨w.heap.size, 3, none⟩ = some (.int .i64 b) ∧ W.cell? ⟨w.heap.size, 4, none⟩ = some (.int .i64 c) ∧ W.cell? ⟨w.heap.size, 5, none⟩ = some (.string p) ∧ W.cell? ⟨w.heap.size, 6, none⟩ = some (.string ⟨#[]⟩)) ∧ (W.cell? ⟨b4, 0, none⟩ = some (.int .i64 0) ∧ W.cell? ⟨b4, 1, none⟩ = some (.int .i64 a) ∧ W.cell? ⟨b4, 2, none⟩ = some (.int .i64 b) ∧ W.cell? ⟨b4, 3, none⟩ = some (.int .i64 c) ∧ W.cell? ⟨b4, 4, none⟩ = some (.string p) ∧ W.cell? ⟨b4, 5, none⟩ = some (.string ⟨#[]⟩) ∧ W.cell? ⟨b4, 6, none⟩ = some (.bool false)) ∧ (W.cell? ⟨b6, 0, none⟩ = some (.int .i64 Bh.e) ∧ W.cell? ⟨b6, 1, none⟩ = some (.int .i64 Bh.v.maj) ∧ W.cell? ⟨b6, 2, none⟩ = some (.int .i64 Bh.v.min) ∧ W.cell? ⟨b6, 3, none⟩ = some (.int .i64 Bh.v.pat) ∧ W.cell? ⟨b6, 4, none⟩ = some (.string ⟨Bh.v.pre.toArray⟩) ∧ W.cell? ⟨b6, 5, none⟩ = some (.string ⟨Bh.v.build.toArray⟩) ∧ W.cell? ⟨b6, 6, none⟩ = some (.bool Bh.aft)) ∧ Below w.heap.size w W) (by kernel_rfl) ⟨⟨c0, c1, c2, c3, c4, c5, c6⟩, ⟨d0, d1, d2, d3, d4, d5, d6⟩, ⟨k0, k1, k2, k3, k4, k5, k6⟩, hLd.1⟩ (fun hHeld => ?_)
      generalize World.drew wc = Wd at *
      refine takeD (i := 0) (d := some 33) (v := ?_) rfl rfl (by kernel_rfl) (by kernel_rfl) (by kernel_rfl) (fun _ _ _ h => h) (Or.inl ⟨by rfl, ?_⟩) (by assumption) ?_
      rotate_left
      · intro wS hSw; (try dsimp only at hSw); go_simp; (try with_reducible rfl)
      try simp only [Act.put, List.setIfInBounds_toArray, List.set_cons_zero, List.set_cons_succ]
      refine takeD (i := 1) (d := some 34) (v := ?_) rfl rfl (by kernel_rfl) (by kernel_rfl) (by kernel_rfl) (fun _ _ _ h => h) (Or.inl ⟨by rfl, ?_⟩) (by assumption) ?_
      rotate_left
      · intro wS hSw; (try dsimp only at hSw); go_simp; (try with_reducible rfl)
      try simp only [Act.put, List.setIfInBounds_toArray, List.set_cons_zero, List.set_cons_succ]
      obtain ⟨t0, t1, t2, t3, t4, t5, t6⟩ := cells7L (loc_own hLd 1 rfl).1
      have tf := (loc_own hLd 1 rfl).2
      refine wpAnyH_ready (rs := [2]) (by kernel_rfl) (by simp) ?_
      refine consD (d := none) rfl rfl (fun K hK => ?_) AllReadyH.nil
      go_simp
      clear t0 t1 t2 t3 t4 t5 t6 tf
      have hZ1 := loc_put hLd 1 0 [.int .i64 0, .int .i64 a, .int .i64 b, .int .i64 c, .string p, .string ⟨#[]⟩, .bool false] rfl (by simp)
      refine hK.out _ _ ⟨cells7L (loc_own hZ1 0 rfl).1, cells7L (loc_own hZ1 3 rfl).1, cells7L (loc_own hZ1 4 rfl).1, hZ1.1⟩ (fun hHeld => ?_)
      clear hK K
      try simp only [Act.put, List.setIfInBounds_toArray, List.set_cons_zero, List.set_cons_succ]
      generalize hW : World.setCell (World.setCell _ _ _) ⟨w.heap.size + 1, 6, none⟩ _ = Z1 at *
      have hZ1 : Loc w Z1 [(w.heap.size, [.int .i64 2, .int .i64 ps, .int .i64 a, .int .i64 b, .int .i64 c, .string p, .string ⟨#[]⟩]), (w.heap.size + 1, [.int .i64 0, .int .i64 a, .int .i64 b, .int .i64 c, .string p, .string ⟨#[]⟩, .bool false]), (w.heap.size + 1 + 1, [.int .i64 0, .int .i64 0, .int .i64 0, .int .i64 0, .string ⟨#[]⟩, .string ⟨#[]⟩, .bool false]), (b4, [.int .i64 0, .int .i64 a, .int .i64 b, .int .i64 c, .string p, .string ⟨#[]⟩, .bool false]), (b6, [.int .i64 Bh.e, .int .i64 Bh.v.maj, .int .i64 Bh.v.min, .int .i64 Bh.v.pat, .string ⟨Bh.v.pre.toArray⟩, .string ⟨Bh.v.build.toArray⟩, .bool Bh.aft])] := by rw [← hW]; exact hZ1
      clear hW
      obtain ⟨t0, t1, t2, t3, t4, t5, t6⟩ := cells7L (loc_own hZ1 2 rfl).1
      have tf := (loc_own hZ1 2 rfl).2
      refine wpAnyH_ready (rs := [3]) (by kernel_rfl) (by simp) ?_
      refine consD (d := none) rfl rfl (fun K hK => ?_) AllReadyH.nil
      go_simp
      clear t0 t1 t2 t3 t4 t5 t6 tf
      have hZ2 := loc_put hZ1 2 0 [.int .i64 Bh.e, .int .i64 Bh.v.maj, .int .i64 Bh.v.min, .int .i64 Bh.v.pat, .string ⟨Bh.v.pre.toArray⟩, .string ⟨Bh.v.build.toArray⟩, .bool Bh.aft] rfl (by simp)
      refine hK.out _ _ ⟨cells7L (loc_own hZ2 0 rfl).1, cells7L (loc_own hZ2 3 rfl).1, cells7L (loc_own hZ2 4 rfl).1, hZ2.1⟩ (fun hHeld => ?_)
      clear hK K
      try simp only [Act.put, List.setIfInBounds_toArray, List.set_cons_zero, List.set_cons_succ]
      refine wpAnyH_done (by kernel_rfl) ?_ _
      go_wp2_with fail
      refine bodyPost_ret (span6_res _ _ (w.heap.size + 1) (w.heap.size + 1 + 1) rfl rfl (loc_own hZ2 1 rfl).1 (loc_own hZ2 2 rfl).1) rfl ?_
      exact ⟨by rw [HS.out]; rfl, hZ2.1⟩
    · have HS : Hid (spanR (cmpS 3 ps a b c p ⟨#[]⟩) = ⟨firstC, beforeR (verS a b c p ⟨#[]⟩)⟩) := HSP.out
      have cfi := fun W => first_any W
      have cla := fun W => last_any W
      dsimp only [cutV, cutCells, firstC, lastC, noVer] at cfi cla
      clear HSP HB
      obtain ⟨c0, c1, c2, c3, c4, c5, c6⟩ := cells7L (loc_own hL 0 rfl).1
      obtain ⟨d0, d1, d2, d3, d4, d5, d6⟩ := cells7L (loc_own hL 3 rfl).1
      obtain ⟨k0, k1, k2, k3, k4, k5, k6⟩ := cells7L (loc_own hL 4 rfl).1
      go_wp2_with fail
      have hLd := loc_drew hL
      refine wp_region_held_drew (S := fun W => (W.cell? ⟨w.heap.size, 0, none⟩ = some (.int .i64 3) ∧ W.cell? ⟨w.heap.size, 1, none⟩ = some (.int .i64 ps) ∧ W.cell? ⟨w.heap.size, 2, none⟩ = some (.int .i64 a) ∧ W.cell? ⟨w.heap.size, 3, none⟩ = some (.int .i64 b) ∧ W.cell? ⟨w.heap.size, 4, none⟩ = some (.int .i64 c) ∧ W.cell? ⟨w.heap.size, 5, none⟩ = some (.string p) ∧ W.cell? ⟨w.heap.size, 6, none⟩ = some (.string ⟨#[]⟩)) ∧ (W.cell? ⟨b4, 0, none⟩ = some (.int .i64 0) ∧ W.cell? ⟨b4, 1, none⟩ = some (.int .i64 a) ∧ W.cell? ⟨b4, 2, none⟩ = some (.int .i64 b) ∧ W.cell? ⟨b4, 3, none⟩ = some (.int .i64 c) ∧ W.cell? ⟨b4, 4, none⟩ = some (.string p) ∧ W.cell? ⟨b4, 5, none⟩ = some (.string ⟨#[]⟩) ∧ W.cell? ⟨b4, 6, none⟩ = some (.bool false)) ∧ (W.cell? ⟨b6, 0, none⟩ = some (.int .i64 Bh.e) ∧ W.cell? ⟨b6, 1, none⟩ = some (.int .i64 Bh.v.maj) ∧ W.cell? ⟨b6, 2, none⟩ = some (.int .i64 Bh.v.min) ∧ W.cell? ⟨b6, 3, none⟩ = some (.int .i64 Bh.v.pat) ∧ W.cell? ⟨b6, 4, none⟩ = some (.string ⟨Bh.v.pre.toArray⟩) ∧ W.cell? ⟨b6, 5, none⟩ = some (.string ⟨Bh.v.build.toArray⟩) ∧ W.cell? ⟨b6, 6, none⟩ = some (.bool Bh.aft)) ∧ Below w.heap.size w W) (by kernel_rfl) ⟨⟨c0, c1, c2, c3, c4, c5, c6⟩, ⟨d0, d1, d2, d3, d4, d5, d6⟩, ⟨k0, k1, k2, k3, k4, k5, k6⟩, hLd.1⟩ (fun hHeld => ?_)
      generalize World.drew wc = Wd at *
      refine takeD (i := 1) (d := some 38) (v := ?_) rfl rfl (by kernel_rfl) (by kernel_rfl) (by kernel_rfl) (fun _ _ _ h => h) (Or.inl ⟨by rfl, ?_⟩) (by assumption) ?_
      rotate_left
      · intro wS hSw; (try dsimp only at hSw); go_simp; (try with_reducible rfl)
      try simp only [Act.put, List.setIfInBounds_toArray, List.set_cons_zero, List.set_cons_succ]
      refine wpAnyH_ready (rs := [0]) (by kernel_rfl) (by simp) ?_
      refine consD (d := some 37) rfl rfl (fun K hK => ?_) AllReadyH.nil
      go_simp
      (go_at_call 86; (with_reducible refine (cfi _).mono ?_); rintro r x1 ⟨rfl, hx1⟩)
      have hY := loc_call hLd hx1
      refine hK.out _ _ ⟨cells7L (loc_own hY 0 rfl).1, cells7L (loc_own hY 3 rfl).1, cells7L (loc_own hY 4 rfl).1, hY.1⟩ (fun hHeld => ?_)
      clear hK K
      try simp only [Act.put, List.setIfInBounds_toArray, List.set_cons_zero, List.set_cons_succ]
      obtain ⟨t0, t1, t2, t3, t4, t5, t6⟩ := cells7L (loc_own hY 1 rfl).1
      have tf := (loc_own hY 1 rfl).2
      refine wpAnyH_ready (rs := [2]) (by kernel_rfl) (by simp) ?_
      refine consD (d := none) rfl rfl (fun K hK => ?_) AllReadyH.nil
      go_simp
      clear t0 t1 t2 t3 t4 t5 t6 tf
      have hZ1 := loc_put hY 1 0 [.int .i64 (-1), .int .i64 0, .int .i64 0, .int .i64 0, .string ⟨#[]⟩, .string ⟨#[]⟩, .bool false] rfl (by simp)
      refine hK.out _ _ ⟨cells7L (loc_own hZ1 0 rfl).1, cells7L (loc_own hZ1 3 rfl).1, cells7L (loc_own hZ1 4 rfl).1, hZ1.1⟩ (fun hHeld => ?_)
      clear hK K
      try simp only [Act.put, List.setIfInBounds_toArray, List.set_cons_zero, List.set_cons_succ]
      generalize hW : World.setCell (World.setCell _ _ _) ⟨w.heap.size + 1, 6, none⟩ _ = Z1 at *
      have hZ1 : Loc w Z1 [(w.heap.size, [.int .i64 3, .int .i64 ps, .int .i64 a, .int .i64 b, .int .i64 c, .string p, .string ⟨#[]⟩]), (w.heap.size + 1, [.int .i64 (-1), .int .i64 0, .int .i64 0, .int .i64 0, .string ⟨#[]⟩, .string ⟨#[]⟩, .bool false]), (w.heap.size + 1 + 1, [.int .i64 0, .int .i64 0, .int .i64 0, .int .i64 0, .string ⟨#[]⟩, .string ⟨#[]⟩, .bool false]), (b4, [.int .i64 0, .int .i64 a, .int .i64 b, .int .i64 c, .string p, .string ⟨#[]⟩, .bool false]), (b6, [.int .i64 Bh.e, .int .i64 Bh.v.maj, .int .i64 Bh.v.min, .int .i64 Bh.v.pat, .string ⟨Bh.v.pre.toArray⟩, .string ⟨Bh.v.build.toArray⟩, .bool Bh.aft])] := by rw [← hW]; exact hZ1
      clear hW
      obtain ⟨t0, t1, t2, t3, t4, t5, t6⟩ := cells7L (loc_own hZ1 2 rfl).1
      have tf := (loc_own hZ1 2 rfl).2
      refine wpAnyH_ready (rs := [3]) (by kernel_rfl) (by simp) ?_
      refine consD (d := none) rfl rfl (fun K hK => ?_) AllReadyH.nil
      go_simp
      clear t0 t1 t2 t3 t4 t5 t6 tf
      have hZ2 := loc_put hZ1 2 0 [.int .i64 0, .int .i64 a, .int .i64 b, .int .i64 c, .string p, .string ⟨#[]⟩, .bool false] rfl (by simp)
      refine hK.out _ _ ⟨cells7L (loc_own hZ2 0 rfl).1, cells7L (loc_own hZ2 3 rfl).1, cells7L (loc_own hZ2 4 rfl).1, hZ2.1⟩ (fun hHeld => ?_)
      clear hK K
      try simp only [Act.put, List.setIfInBounds_toArray, List.set_cons_zero, List.set_cons_succ]
      refine wpAnyH_done (by kernel_rfl) ?_ _
      go_wp2_with fail
      refine bodyPost_ret (span6_res _ _ (w.heap.size + 1) (w.heap.size + 1 + 1) rfl rfl (loc_own hZ2 1 rfl).1 (loc_own hZ2 2 rfl).1) rfl ?_
      exact ⟨by rw [HS.out]; rfl, hZ2.1⟩
    · have HS : Hid (spanR (cmpS 4 ps a b c p ⟨#[]⟩) = ⟨firstC, Bh⟩) := HSP.out
      have cfi := fun W => first_any W
      have cla := fun W => last_any W
      dsimp only [cutV, cutCells, firstC, lastC, noVer] at cfi cla
      clear HSP HB
      obtain ⟨c0, c1, c2, c3, c4, c5, c6⟩ := cells7L (loc_own hL 0 rfl).1
      obtain ⟨d0, d1, d2, d3, d4, d5, d6⟩ := cells7L (loc_own hL 3 rfl).1
      obtain ⟨k0, k1, k2, k3, k4, k5, k6⟩ := cells7L (loc_own hL 4 rfl).1
      go_wp2_with fail
      have hLd := loc_drew hL
      refine wp_region_held_drew (S := fun W => (W.cell? ⟨w.heap.size, 0, none⟩ = some (.int .i64 4) ∧ W.cell? ⟨w.heap.size, 1, none⟩ = some (.int .i64 ps) ∧ W.cell? ⟨w.heap.size, 2, none⟩ = some (.int .i64 a) ∧ W.cell? ⟨w.heap.size, 3, none⟩ = some (.int .i64 b) ∧ W.cell? ⟨w.heap.size, 4, none⟩ = some (.int .i64 c) ∧ W.cell? ⟨w.heap.size, 5, none⟩ = some (.string p) ∧ W.cell? ⟨w.heap.size, 6, none⟩ = some (.string ⟨#[]⟩)) ∧ (W.cell? ⟨b4, 0, none⟩ = some (.int .i64 0) ∧ W.cell? ⟨b4, 1, none⟩ = some (.int .i64 a) ∧ W.cell? ⟨b4, 2, none⟩ = some (.int .i64 b) ∧ W.cell? ⟨b4, 3, none⟩ = some (.int .i64 c) ∧ W.cell? ⟨b4, 4, none⟩ = some (.string p) ∧ W.cell? ⟨b4, 5, none⟩ = some (.string ⟨#[]⟩) ∧ W.cell? ⟨b4, 6, none⟩ = some (.bool false)) ∧ (W.cell? ⟨b6, 0, none⟩ = some (.int .i64 Bh.e) ∧ W.cell? ⟨b6, 1, none⟩ = some (.int .i64 Bh.v.maj) ∧ W.cell? ⟨b6, 2, none⟩ = some (.int .i64 Bh.v.min) ∧ W.cell? ⟨b6, 3, none⟩ = some (.int .i64 Bh.v.pat) ∧ W.cell? ⟨b6, 4, none⟩ = some (.string ⟨Bh.v.pre.toArray⟩) ∧ W.cell? ⟨b6, 5, none⟩ = some (.string ⟨Bh.v.build.toArray⟩) ∧ W.cell? ⟨b6, 6, none⟩ = some (.bool Bh.aft)) ∧ Below w.heap.size w W) (by kernel_rfl) ⟨⟨c0, c1, c2, c3, c4, c5, c6⟩, ⟨d0, d1, d2, d3, d4, d5, d6⟩, ⟨k0, k1, k2, k3, k4, k5, k6⟩, hLd.1⟩ (fun hHeld => ?_)
      generalize World.drew wc = Wd at *
      refine takeD (i := 1) (d := some 42) (v := ?_) rfl rfl (by kernel_rfl) (by kernel_rfl) (by kernel_rfl) (fun _ _ _ h => h) (Or.inl ⟨by rfl, ?_⟩) (by assumption) ?_
      rotate_left
      · intro wS hSw; (try dsimp only at hSw); go_simp; (try with_reducible rfl)
      try simp only [Act.put, List.setIfInBounds_toArray, List.set_cons_zero, List.set_cons_succ]
      refine wpAnyH_ready (rs := [0]) (by kernel_rfl) (by simp) ?_
      refine consD (d := some 41) rfl rfl (fun K hK => ?_) AllReadyH.nil
      go_simp
      (go_at_call 86; (with_reducible refine (cfi _).mono ?_); rintro r x1 ⟨rfl, hx1⟩)
      have hY := loc_call hLd hx1
      refine hK.out _ _ ⟨cells7L (loc_own hY 0 rfl).1, cells7L (loc_own hY 3 rfl).1, cells7L (loc_own hY 4 rfl).1, hY.1⟩ (fun hHeld => ?_)
      clear hK K
      try simp only [Act.put, List.setIfInBounds_toArray, List.set_cons_zero, List.set_cons_succ]
      obtain ⟨t0, t1, t2, t3, t4, t5, t6⟩ := cells7L (loc_own hY 1 rfl).1
      have tf := (loc_own hY 1 rfl).2
      refine wpAnyH_ready (rs := [2]) (by kernel_rfl) (by simp) ?_
      refine consD (d := none) rfl rfl (fun K hK => ?_) AllReadyH.nil
      go_simp
      clear t0 t1 t2 t3 t4 t5 t6 tf
      have hZ1 := loc_put hY 1 0 [.int .i64 (-1), .int .i64 0, .int .i64 0, .int .i64 0, .string ⟨#[]⟩, .string ⟨#[]⟩, .bool false] rfl (by simp)
      refine hK.out _ _ ⟨cells7L (loc_own hZ1 0 rfl).1, cells7L (loc_own hZ1 3 rfl).1, cells7L (loc_own hZ1 4 rfl).1, hZ1.1⟩ (fun hHeld => ?_)
      clear hK K
      try simp only [Act.put, List.setIfInBounds_toArray, List.set_cons_zero, List.set_cons_succ]
      generalize hW : World.setCell (World.setCell _ _ _) ⟨w.heap.size + 1, 6, none⟩ _ = Z1 at *
      have hZ1 : Loc w Z1 [(w.heap.size, [.int .i64 4, .int .i64 ps, .int .i64 a, .int .i64 b, .int .i64 c, .string p, .string ⟨#[]⟩]), (w.heap.size + 1, [.int .i64 (-1), .int .i64 0, .int .i64 0, .int .i64 0, .string ⟨#[]⟩, .string ⟨#[]⟩, .bool false]), (w.heap.size + 1 + 1, [.int .i64 0, .int .i64 0, .int .i64 0, .int .i64 0, .string ⟨#[]⟩, .string ⟨#[]⟩, .bool false]), (b4, [.int .i64 0, .int .i64 a, .int .i64 b, .int .i64 c, .string p, .string ⟨#[]⟩, .bool false]), (b6, [.int .i64 Bh.e, .int .i64 Bh.v.maj, .int .i64 Bh.v.min, .int .i64 Bh.v.pat, .string ⟨Bh.v.pre.toArray⟩, .string ⟨Bh.v.build.toArray⟩, .bool Bh.aft])] := by rw [← hW]; exact hZ1
      clear hW
      obtain ⟨t0, t1, t2, t3, t4, t5, t6⟩ := cells7L (loc_own hZ1 2 rfl).1
      have tf := (loc_own hZ1 2 rfl).2
      refine wpAnyH_ready (rs := [3]) (by kernel_rfl) (by simp) ?_
      refine consD (d := none) rfl rfl (fun K hK => ?_) AllReadyH.nil
      go_simp
      clear t0 t1 t2 t3 t4 t5 t6 tf
      have hZ2 := loc_put hZ1 2 0 [.int .i64 Bh.e, .int .i64 Bh.v.maj, .int .i64 Bh.v.min, .int .i64 Bh.v.pat, .string ⟨Bh.v.pre.toArray⟩, .string ⟨Bh.v.build.toArray⟩, .bool Bh.aft] rfl (by simp)
      refine hK.out _ _ ⟨cells7L (loc_own hZ2 0 rfl).1, cells7L (loc_own hZ2 3 rfl).1, cells7L (loc_own hZ2 4 rfl).1, hZ2.1⟩ (fun hHeld => ?_)
      clear hK K
      try simp only [Act.put, List.setIfInBounds_toArray, List.set_cons_zero, List.set_cons_succ]
      refine wpAnyH_done (by kernel_rfl) ?_ _
      go_wp2_with fail
      refine bodyPost_ret (span6_res _ _ (w.heap.size + 1) (w.heap.size + 1 + 1) rfl rfl (loc_own hZ2 1 rfl).1 (loc_own hZ2 2 rfl).1) rfl ?_
      exact ⟨by rw [HS.out]; rfl, hZ2.1⟩
    · have HS : Hid (spanR (cmpS 5 ps a b c p ⟨#[]⟩) = ⟨Bh, lastC⟩) := HSP.out
      have cfi := fun W => first_any W
      have cla := fun W => last_any W
      dsimp only [cutV, cutCells, firstC, lastC, noVer] at cfi cla
      clear HSP HB
      obtain ⟨c0, c1, c2, c3, c4, c5, c6⟩ := cells7L (loc_own hL 0 rfl).1
      obtain ⟨d0, d1, d2, d3, d4, d5, d6⟩ := cells7L (loc_own hL 3 rfl).1
      obtain ⟨k0, k1, k2, k3, k4, k5, k6⟩ := cells7L (loc_own hL 4 rfl).1
      go_wp2_with fail
      have hLd := loc_drew hL
      refine wp_region_held_drew (S := fun W => (W.cell? ⟨w.heap.size, 0, none⟩ = some (.int .i64 5) ∧ W.cell? ⟨w.heap.size, 1, none⟩ = some (.int .i64 ps) ∧ W.cell? ⟨w.heap.size, 2, none⟩ = some (.int .i64 a) ∧ W.cell? ⟨w.heap.size, 3, none⟩ = some (.int .i64 b) ∧ W.cell? ⟨w.heap.size, 4, none⟩ = some (.int .i64 c) ∧ W.cell? ⟨w.heap.size, 5, none⟩ = some (.string p) ∧ W.cell? ⟨w.heap.size, 6, none⟩ = some (.string ⟨#[]⟩)) ∧ (W.cell? ⟨b4, 0, none⟩ = some (.int .i64 0) ∧ W.cell? ⟨b4, 1, none⟩ = some (.int .i64 a) ∧ W.cell? ⟨b4, 2, none⟩ = some (.int .i64 b) ∧ W.cell? ⟨b4, 3, none⟩ = some (.int .i64 c) ∧ W.cell? ⟨b4, 4, none⟩ = some (.string p) ∧ W.cell? ⟨b4, 5, none⟩ = some (.string ⟨#[]⟩) ∧ W.cell? ⟨b4, 6, none⟩ = some (.bool false)) ∧ (W.cell? ⟨b6, 0, none⟩ = some (.int .i64 Bh.e) ∧ W.cell? ⟨b6, 1, none⟩ = some (.int .i64 Bh.v.maj) ∧ W.cell? ⟨b6, 2, none⟩ = some (.int .i64 Bh.v.min) ∧ W.cell? ⟨b6, 3, none⟩ = some (.int .i64 Bh.v.pat) ∧ W.cell? ⟨b6, 4, none⟩ = some (.string ⟨Bh.v.pre.toArray⟩) ∧ W.cell? ⟨b6, 5, none⟩ = some (.string ⟨Bh.v.build.toArray⟩) ∧ W.cell? ⟨b6, 6, none⟩ = some (.bool Bh.aft)) ∧ Below w.heap.size w W) (by kernel_rfl) ⟨⟨c0, c1, c2, c3, c4, c5, c6⟩, ⟨d0, d1, d2, d3, d4, d5, d6⟩, ⟨k0, k1, k2, k3, k4, k5, k6⟩, hLd.1⟩ (fun hHeld => ?_)
      generalize World.drew wc = Wd at *
      refine takeD (i := 0) (d := some 45) (v := ?_) rfl rfl (by kernel_rfl) (by kernel_rfl) (by kernel_rfl) (fun _ _ _ h => h) (Or.inl ⟨by rfl, ?_⟩) (by assumption) ?_
      rotate_left
      · intro wS hSw; (try dsimp only at hSw); go_simp; (try with_reducible rfl)
      try simp only [Act.put, List.setIfInBounds_toArray, List.set_cons_zero, List.set_cons_succ]
      refine wpAnyH_ready (rs := [1]) (by kernel_rfl) (by simp) ?_
      refine consD (d := some 46) rfl rfl (fun K hK => ?_) AllReadyH.nil
      go_simp
      (go_at_call 87; (with_reducible refine (cla _).mono ?_); rintro r x1 ⟨rfl, hx1⟩)
      have hY := loc_call hLd hx1
      refine hK.out _ _ ⟨cells7L (loc_own hY 0 rfl).1, cells7L (loc_own hY 3 rfl).1, cells7L (loc_own hY 4 rfl).1, hY.1⟩ (fun hHeld => ?_)
      clear hK K
      try simp only [Act.put, List.setIfInBounds_toArray, List.set_cons_zero, List.set_cons_succ]
      obtain ⟨t0, t1, t2, t3, t4, t5, t6⟩ := cells7L (loc_own hY 1 rfl).1
      have tf := (loc_own hY 1 rfl).2
      refine wpAnyH_ready (rs := [2]) (by kernel_rfl) (by simp) ?_
      refine consD (d := none) rfl rfl (fun K hK => ?_) AllReadyH.nil
      go_simp
      clear t0 t1 t2 t3 t4 t5 t6 tf
      have hZ1 := loc_put hY 1 0 [.int .i64 Bh.e, .int .i64 Bh.v.maj, .int .i64 Bh.v.min, .int .i64 Bh.v.pat, .string ⟨Bh.v.pre.toArray⟩, .string ⟨Bh.v.build.toArray⟩, .bool Bh.aft] rfl (by simp)
      refine hK.out _ _ ⟨cells7L (loc_own hZ1 0 rfl).1, cells7L (loc_own hZ1 3 rfl).1, cells7L (loc_own hZ1 4 rfl).1, hZ1.1⟩ (fun hHeld => ?_)
      clear hK K
      try simp only [Act.put, List.setIfInBounds_toArray, List.set_cons_zero, List.set_cons_succ]
      generalize hW : World.setCell (World.setCell _ _ _) ⟨w.heap.size + 1, 6, none⟩ _ = Z1 at *
      have hZ1 : Loc w Z1 [(w.heap.size, [.int .i64 5, .int .i64 ps, .int .i64 a, .int .i64 b, .int .i64 c, .string p, .string ⟨#[]⟩]), (w.heap.size + 1, [.int .i64 Bh.e, .int .i64 Bh.v.maj, .int .i64 Bh.v.min, .int .i64 Bh.v.pat, .string ⟨Bh.v.pre.toArray⟩, .string ⟨Bh.v.build.toArray⟩, .bool Bh.aft]), (w.heap.size + 1 + 1, [.int .i64 0, .int .i64 0, .int .i64 0, .int .i64 0, .string ⟨#[]⟩, .string ⟨#[]⟩, .bool false]), (b4, [.int .i64 0, .int .i64 a, .int .i64 b, .int .i64 c, .string p, .string ⟨#[]⟩, .bool false]), (b6, [.int .i64 Bh.e, .int .i64 Bh.v.maj, .int .i64 Bh.v.min, .int .i64 Bh.v.pat, .string ⟨Bh.v.pre.toArray⟩, .string ⟨Bh.v.build.toArray⟩, .bool Bh.aft])] := by rw [← hW]; exact hZ1
      clear hW
      obtain ⟨t0, t1, t2, t3, t4, t5, t6⟩ := cells7L (loc_own hZ1 2 rfl).1
      have tf := (loc_own hZ1 2 rfl).2
      refine wpAnyH_ready (rs := [3]) (by kernel_rfl) (by simp) ?_
      refine consD (d := none) rfl rfl (fun K hK => ?_) AllReadyH.nil
      go_simp
      clear t0 t1 t2 t3 t4 t5 t6 tf
      have hZ2 := loc_put hZ1 2 0 [.int .i64 1, .int .i64 0, .int .i64 0, .int .i64 0, .string ⟨#[]⟩, .string ⟨#[]⟩, .bool false] rfl (by simp)
      refine hK.out _ _ ⟨cells7L (loc_own hZ2 0 rfl).1, cells7L (loc_own hZ2 3 rfl).1, cells7L (loc_own hZ2 4 rfl).1, hZ2.1⟩ (fun hHeld => ?_)
      clear hK K
      try simp only [Act.put, List.setIfInBounds_toArray, List.set_cons_zero, List.set_cons_succ]
      refine wpAnyH_done (by kernel_rfl) ?_ _
      go_wp2_with fail
      refine bodyPost_ret (span6_res _ _ (w.heap.size + 1) (w.heap.size + 1 + 1) rfl rfl (loc_own hZ2 1 rfl).1 (loc_own hZ2 2 rfl).1) rfl ?_
      exact ⟨by rw [HS.out]; rfl, hZ2.1⟩
    · have HS : Hid (spanR (cmpS 6 ps a b c p ⟨#[]⟩) = ⟨beforeR (verS a b c p ⟨#[]⟩), lastC⟩) := HSP.out
      have cfi := fun W => first_any W
      have cla := fun W => last_any W
      dsimp only [cutV, cutCells, firstC, lastC, noVer] at cfi cla
      clear HSP HB
      obtain ⟨c0, c1, c2, c3, c4, c5, c6⟩ := cells7L (loc_own hL 0 rfl).1
      obtain ⟨d0, d1, d2, d3, d4, d5, d6⟩ := cells7L (loc_own hL 3 rfl).1
      obtain ⟨k0, k1, k2, k3, k4, k5, k6⟩ := cells7L (loc_own hL 4 rfl).1
      go_wp2_with fail
      have hLd := loc_drew hL
      refine wp_region_held_drew (S := fun W => (W.cell? ⟨w.heap.size, 0, none⟩ = some (.int .i64 6) ∧ W.cell? ⟨w.heap.size, 1, none⟩ = some (.int .i64 ps) ∧ W.cell? ⟨w.heap.size, 2, none⟩ = some (.int .i64 a) ∧ W.cell? ⟨w.heap.size, 3, none⟩ = some (.int .i64 b) ∧ W.cell? ⟨w.heap.size, 4, none⟩ = some (.int .i64 c) ∧ W.cell? ⟨w.heap.size, 5, none⟩ = some (.string p) ∧ W.cell? ⟨w.heap.size, 6, none⟩ = some (.string ⟨#[]⟩)) ∧ (W.cell? ⟨b4, 0, none⟩ = some (.int .i64 0) ∧ W.cell? ⟨b4, 1, none⟩ = some (.int .i64 a) ∧ W.cell? ⟨b4, 2, none⟩ = some (.int .i64 b) ∧ W.cell? ⟨b4, 3, none⟩ = some (.int .i64 c) ∧ W.cell? ⟨b4, 4, none⟩ = some (.string p) ∧ W.cell? ⟨b4, 5, none⟩ = some (.string ⟨#[]⟩) ∧ W.cell? ⟨b4, 6, none⟩ = some (.bool false)) ∧ (W.cell? ⟨b6, 0, none⟩ = some (.int .i64 Bh.e) ∧ W.cell? ⟨b6, 1, none⟩ = some (.int .i64 Bh.v.maj) ∧ W.cell? ⟨b6, 2, none⟩ = some (.int .i64 Bh.v.min) ∧ W.cell? ⟨b6, 3, none⟩ = some (.int .i64 Bh.v.pat) ∧ W.cell? ⟨b6, 4, none⟩ = some (.string ⟨Bh.v.pre.toArray⟩) ∧ W.cell? ⟨b6, 5, none⟩ = some (.string ⟨Bh.v.build.toArray⟩) ∧ W.cell? ⟨b6, 6, none⟩ = some (.bool Bh.aft)) ∧ Below w.heap.size w W) (by kernel_rfl) ⟨⟨c0, c1, c2, c3, c4, c5, c6⟩, ⟨d0, d1, d2, d3, d4, d5, d6⟩, ⟨k0, k1, k2, k3, k4, k5, k6⟩, hLd.1⟩ (fun hHeld => ?_)
      generalize World.drew wc = Wd at *
      refine takeD (i := 0) (d := some 49) (v := ?_) rfl rfl (by kernel_rfl) (by kernel_rfl) (by kernel_rfl) (fun _ _ _ h => h) (Or.inl ⟨by rfl, ?_⟩) (by assumption) ?_
      rotate_left
      · intro wS hSw; (try dsimp only at hSw); go_simp; (try with_reducible rfl)
      try simp only [Act.put, List.setIfInBounds_toArray, List.set_cons_zero, List.set_cons_succ]
      refine wpAnyH_ready (rs := [1]) (by kernel_rfl) (by simp) ?_
      refine consD (d := some 50) rfl rfl (fun K hK => ?_) AllReadyH.nil
      go_simp
      (go_at_call 87; (with_reducible refine (cla _).mono ?_); rintro r x1 ⟨rfl, hx1⟩)
      have hY := loc_call hLd hx1
      refine hK.out _ _ ⟨cells7L (loc_own hY 0 rfl).1, cells7L (loc_own hY 3 rfl).1, cells7L (loc_own hY 4 rfl).1, hY.1⟩ (fun hHeld => ?_)
      clear hK K
      try simp only [Act.put, List.setIfInBounds_toArray, List.set_cons_zero, List.set_cons_succ]
      obtain ⟨t0, t1, t2, t3, t4, t5, t6⟩ := cells7L (loc_own hY 1 rfl).1
      have tf := (loc_own hY 1 rfl).2
      refine wpAnyH_ready (rs := [2]) (by kernel_rfl) (by simp) ?_
      refine consD (d := none) rfl rfl (fun K hK => ?_) AllReadyH.nil
      go_simp
      clear t0 t1 t2 t3 t4 t5 t6 tf
      have hZ1 := loc_put hY 1 0 [.int .i64 0, .int .i64 a, .int .i64 b, .int .i64 c, .string p, .string ⟨#[]⟩, .bool false] rfl (by simp)
      refine hK.out _ _ ⟨cells7L (loc_own hZ1 0 rfl).1, cells7L (loc_own hZ1 3 rfl).1, cells7L (loc_own hZ1 4 rfl).1, hZ1.1⟩ (fun hHeld => ?_)
      clear hK K
      try simp only [Act.put, List.setIfInBounds_toArray, List.set_cons_zero, List.set_cons_succ]
      generalize hW : World.setCell (World.setCell _ _ _) ⟨w.heap.size + 1, 6, none⟩ _ = Z1 at *
      have hZ1 : Loc w Z1 [(w.heap.size, [.int .i64 6, .int .i64 ps, .int .i64 a, .int .i64 b, .int .i64 c, .string p, .string ⟨#[]⟩]), (w.heap.size + 1, [.int .i64 0, .int .i64 a, .int .i64 b, .int .i64 c, .string p, .string ⟨#[]⟩, .bool false]), (w.heap.size + 1 + 1, [.int .i64 0, .int .i64 0, .int .i64 0, .int .i64 0, .string ⟨#[]⟩, .string ⟨#[]⟩, .bool false]), (b4, [.int .i64 0, .int .i64 a, .int .i64 b, .int .i64 c, .string p, .string ⟨#[]⟩, .bool false]), (b6, [.int .i64 Bh.e, .int .i64 Bh.v.maj, .int .i64 Bh.v.min, .int .i64 Bh.v.pat, .string ⟨Bh.v.pre.toArray⟩, .string ⟨Bh.v.build.toArray⟩, .bool Bh.aft])] := by rw [← hW]; exact hZ1
      clear hW
      obtain ⟨t0, t1, t2, t3, t4, t5, t6⟩ := cells7L (loc_own hZ1 2 rfl).1
      have tf := (loc_own hZ1 2 rfl).2
      refine wpAnyH_ready (rs := [3]) (by kernel_rfl) (by simp) ?_
      refine consD (d := none) rfl rfl (fun K hK => ?_) AllReadyH.nil
      go_simp
      clear t0 t1 t2 t3 t4 t5 t6 tf
      have hZ2 := loc_put hZ1 2 0 [.int .i64 1, .int .i64 0, .int .i64 0, .int .i64 0, .string ⟨#[]⟩, .string ⟨#[]⟩, .bool false] rfl (by simp)
      refine hK.out _ _ ⟨cells7L (loc_own hZ2 0 rfl).1, cells7L (loc_own hZ2 3 rfl).1, cells7L (loc_own hZ2 4 rfl).1, hZ2.1⟩ (fun hHeld => ?_)
      clear hK K
      try simp only [Act.put, List.setIfInBounds_toArray, List.set_cons_zero, List.set_cons_succ]
      refine wpAnyH_done (by kernel_rfl) ?_ _
      go_wp2_with fail
      refine bodyPost_ret (span6_res _ _ (w.heap.size + 1) (w.heap.size + 1 + 1) rfl rfl (loc_own hZ2 1 rfl).1 (loc_own hZ2 2 rfl).1) rfl ?_
      exact ⟨by rw [HS.out]; rfl, hZ2.1⟩
    · have HS : Hid (spanR (cmpS 7 ps a b c p ⟨#[]⟩) = ⟨beforeR (verS a b c p ⟨#[]⟩), highC (verS a b c p ⟨#[]⟩) (turnsR (cmpS 7 ps a b c p ⟨#[]⟩) + 1).toNat⟩) := HSP.out
      have htb := turns_bd (cmpS 7 ps a b c p ⟨#[]⟩)
      have ct := fun W => turns_any 7 ps a b c p ⟨#[]⟩ W hp0 hp3
      unfold cvV at ct
      have ch := fun W => rhigh_any a b c p ⟨#[]⟩ (turnsR (cmpS 7 ps a b c p ⟨#[]⟩) + 1).toNat W (by omega) hp (by decide)
      rw [show plI (turnsR (cmpS 7 ps a b c p ⟨#[]⟩) + 1).toNat = turnsR (cmpS 7 ps a b c p ⟨#[]⟩) from by unfold plI; omega] at ch
      unfold cutV cutCells at ch
      generalize highC (verS a b c p ⟨#[]⟩) (turnsR (cmpS 7 ps a b c p ⟨#[]⟩) + 1).toNat = H at *
      generalize turnsR (cmpS 7 ps a b c p ⟨#[]⟩) = tn at *
      clear HSP HB
      obtain ⟨c0, c1, c2, c3, c4, c5, c6⟩ := cells7L (loc_own hL 0 rfl).1
      obtain ⟨d0, d1, d2, d3, d4, d5, d6⟩ := cells7L (loc_own hL 3 rfl).1
      obtain ⟨k0, k1, k2, k3, k4, k5, k6⟩ := cells7L (loc_own hL 4 rfl).1
      go_wp2_with fail
      have hLd := loc_drew hL
      refine wp_region_held_drew (S := fun W => (W.cell? ⟨w.heap.size, 0, none⟩ = some (.int .i64 7) ∧ W.cell? ⟨w.heap.size, 1, none⟩ = some (.int .i64 ps) ∧ W.cell? ⟨w.heap.size, 2, none⟩ = some (.int .i64 a) ∧ W.cell? ⟨w.heap.size, 3, none⟩ = some (.int .i64 b) ∧ W.cell? ⟨w.heap.size, 4, none⟩ = some (.int .i64 c) ∧ W.cell? ⟨w.heap.size, 5, none⟩ = some (.string p) ∧ W.cell? ⟨w.heap.size, 6, none⟩ = some (.string ⟨#[]⟩)) ∧ (W.cell? ⟨b4, 0, none⟩ = some (.int .i64 0) ∧ W.cell? ⟨b4, 1, none⟩ = some (.int .i64 a) ∧ W.cell? ⟨b4, 2, none⟩ = some (.int .i64 b) ∧ W.cell? ⟨b4, 3, none⟩ = some (.int .i64 c) ∧ W.cell? ⟨b4, 4, none⟩ = some (.string p) ∧ W.cell? ⟨b4, 5, none⟩ = some (.string ⟨#[]⟩) ∧ W.cell? ⟨b4, 6, none⟩ = some (.bool false)) ∧ (W.cell? ⟨b6, 0, none⟩ = some (.int .i64 Bh.e) ∧ W.cell? ⟨b6, 1, none⟩ = some (.int .i64 Bh.v.maj) ∧ W.cell? ⟨b6, 2, none⟩ = some (.int .i64 Bh.v.min) ∧ W.cell? ⟨b6, 3, none⟩ = some (.int .i64 Bh.v.pat) ∧ W.cell? ⟨b6, 4, none⟩ = some (.string ⟨Bh.v.pre.toArray⟩) ∧ W.cell? ⟨b6, 5, none⟩ = some (.string ⟨Bh.v.build.toArray⟩) ∧ W.cell? ⟨b6, 6, none⟩ = some (.bool Bh.aft)) ∧ Below w.heap.size w W) (by kernel_rfl) ⟨⟨c0, c1, c2, c3, c4, c5, c6⟩, ⟨d0, d1, d2, d3, d4, d5, d6⟩, ⟨k0, k1, k2, k3, k4, k5, k6⟩, hLd.1⟩ (fun hHeld => ?_)
      generalize World.drew wc = Wd at *
      refine takeD (i := 0) (d := some 53) (v := ?_) rfl rfl (by kernel_rfl) (by kernel_rfl) (by kernel_rfl) (fun _ _ _ h => h) (Or.inl ⟨by rfl, ?_⟩) (by assumption) ?_
      rotate_left
      · intro wS hSw; (try dsimp only at hSw); go_simp; (try with_reducible rfl)
      try simp only [Act.put, List.setIfInBounds_toArray, List.set_cons_zero, List.set_cons_succ]
      refine takeD (i := 1) (d := some 54) (v := ?_) rfl rfl (by kernel_rfl) (by kernel_rfl) (by kernel_rfl) (fun _ _ _ h => h) (Or.inl ⟨by rfl, ?_⟩) (by assumption) ?_
      rotate_left
      · intro wS hSw; (try dsimp only at hSw); go_simp; (try with_reducible rfl)
      try simp only [Act.put, List.setIfInBounds_toArray, List.set_cons_zero, List.set_cons_succ]
      refine takeD (i := 2) (d := some 55) (v := ?_) rfl rfl (by kernel_rfl) (by kernel_rfl) (by kernel_rfl) (fun _ _ _ h => h) (Or.inl ⟨by rfl, ?_⟩) (by assumption) ?_
      rotate_left
      · intro wS hSw; (try dsimp only at hSw); go_simp; (try with_reducible rfl)
      try simp only [Act.put, List.setIfInBounds_toArray, List.set_cons_zero, List.set_cons_succ]
      refine takeD (i := 3) (d := some 56) (v := ?_) rfl rfl (by kernel_rfl) (by kernel_rfl) (by kernel_rfl) (fun _ _ _ h => h) (Or.inl ⟨by rfl, ?_⟩) (by assumption) ?_
      rotate_left
      · intro wS hSw; (try dsimp only at hSw); go_simp; (try with_reducible rfl)
      try simp only [Act.put, List.setIfInBounds_toArray, List.set_cons_zero, List.set_cons_succ]
      refine wpAnyH_ready (rs := [4]) (by kernel_rfl) (by simp) ?_
      refine consD (d := some 57) rfl rfl (fun K hK => ?_) AllReadyH.nil
      go_simp
      (go_at_call 91; (with_reducible refine (ct _).mono ?_); rintro r x1 ⟨rfl, hx1⟩)
      have hY := loc_call hLd hx1
      refine hK.out _ _ ⟨cells7L (loc_own hY 0 rfl).1, cells7L (loc_own hY 3 rfl).1, cells7L (loc_own hY 4 rfl).1, hY.1⟩ (fun hHeld => ?_)
      clear hK K
      try simp only [Act.put, List.setIfInBounds_toArray, List.set_cons_zero, List.set_cons_succ]
      refine wpAnyH_ready (rs := [5]) (by kernel_rfl) (by simp) ?_
      refine consD (d := some 58) rfl rfl (fun K hK => ?_) AllReadyH.nil
      go_simp
      (go_at_call 90; (with_reducible refine (ch _).mono ?_); rintro r x2 ⟨rfl, hx2⟩)
      have hV := loc_call hY hx2
      refine hK.out _ _ ⟨cells7L (loc_own hV 0 rfl).1, cells7L (loc_own hV 3 rfl).1, cells7L (loc_own hV 4 rfl).1, hV.1⟩ (fun hHeld => ?_)
      clear hK K
      try simp only [Act.put, List.setIfInBounds_toArray, List.set_cons_zero, List.set_cons_succ]
      obtain ⟨t0, t1, t2, t3, t4, t5, t6⟩ := cells7L (loc_own hV 1 rfl).1
      have tf := (loc_own hV 1 rfl).2
      refine wpAnyH_ready (rs := [6]) (by kernel_rfl) (by simp) ?_
      refine consD (d := none) rfl rfl (fun K hK => ?_) AllReadyH.nil
      go_simp
      clear t0 t1 t2 t3 t4 t5 t6 tf
      have hZ1 := loc_put hV 1 0 [.int .i64 0, .int .i64 a, .int .i64 b, .int .i64 c, .string p, .string ⟨#[]⟩, .bool false] rfl (by simp)
      refine hK.out _ _ ⟨cells7L (loc_own hZ1 0 rfl).1, cells7L (loc_own hZ1 3 rfl).1, cells7L (loc_own hZ1 4 rfl).1, hZ1.1⟩ (fun hHeld => ?_)
      clear hK K
      try simp only [Act.put, List.setIfInBounds_toArray, List.set_cons_zero, List.set_cons_succ]
      generalize hW : World.setCell (World.setCell _ _ _) ⟨w.heap.size + 1, 6, none⟩ _ = Z1 at *
      have hZ1 : Loc w Z1 [(w.heap.size, [.int .i64 7, .int .i64 ps, .int .i64 a, .int .i64 b, .int .i64 c, .string p, .string ⟨#[]⟩]), (w.heap.size + 1, [.int .i64 0, .int .i64 a, .int .i64 b, .int .i64 c, .string p, .string ⟨#[]⟩, .bool false]), (w.heap.size + 1 + 1, [.int .i64 0, .int .i64 0, .int .i64 0, .int .i64 0, .string ⟨#[]⟩, .string ⟨#[]⟩, .bool false]), (b4, [.int .i64 0, .int .i64 a, .int .i64 b, .int .i64 c, .string p, .string ⟨#[]⟩, .bool false]), (b6, [.int .i64 Bh.e, .int .i64 Bh.v.maj, .int .i64 Bh.v.min, .int .i64 Bh.v.pat, .string ⟨Bh.v.pre.toArray⟩, .string ⟨Bh.v.build.toArray⟩, .bool Bh.aft])] := by rw [← hW]; exact hZ1
      clear hW
      obtain ⟨t0, t1, t2, t3, t4, t5, t6⟩ := cells7L (loc_own hZ1 2 rfl).1
      have tf := (loc_own hZ1 2 rfl).2
      refine wpAnyH_ready (rs := [7]) (by kernel_rfl) (by simp) ?_
      refine consD (d := none) rfl rfl (fun K hK => ?_) AllReadyH.nil
      go_simp
      clear t0 t1 t2 t3 t4 t5 t6 tf
      have hZ2 := loc_put hZ1 2 0 [.int .i64 H.e, .int .i64 H.v.maj, .int .i64 H.v.min, .int .i64 H.v.pat, .string ⟨H.v.pre.toArray⟩, .string ⟨H.v.build.toArray⟩, .bool H.aft] rfl (by simp)
      refine hK.out _ _ ⟨cells7L (loc_own hZ2 0 rfl).1, cells7L (loc_own hZ2 3 rfl).1, cells7L (loc_own hZ2 4 rfl).1, hZ2.1⟩ (fun hHeld => ?_)
      clear hK K
      try simp only [Act.put, List.setIfInBounds_toArray, List.set_cons_zero, List.set_cons_succ]
      refine wpAnyH_done (by kernel_rfl) ?_ _
      go_wp2_with fail
      refine bodyPost_ret (span6_res _ _ (w.heap.size + 1) (w.heap.size + 1 + 1) rfl rfl (loc_own hZ2 1 rfl).1 (loc_own hZ2 2 rfl).1) rfl ?_
      exact ⟨by rw [HS.out]; rfl, hZ2.1⟩
    · have h1 := hps (by omega)
      have HS : Hid (spanR (cmpS 8 ps a b c p ⟨#[]⟩) = ⟨beforeR (verS a b c p ⟨#[]⟩), highC (verS a b c p ⟨#[]⟩) (min (ps - 1) 1 + 1).toNat⟩) := HSP.out
      have ch := fun W => rhigh_any a b c p ⟨#[]⟩ (min (ps - 1) 1 + 1).toNat W (by omega) hp (by decide)
      rw [show plI (min (ps - 1) 1 + 1).toNat = min (ps - 1) 1 from by unfold plI; omega] at ch
      unfold cutV cutCells at ch
      generalize highC (verS a b c p ⟨#[]⟩) (min (ps - 1) 1 + 1).toNat = H at *
      clear HSP HB
      obtain ⟨c0, c1, c2, c3, c4, c5, c6⟩ := cells7L (loc_own hL 0 rfl).1
      obtain ⟨d0, d1, d2, d3, d4, d5, d6⟩ := cells7L (loc_own hL 3 rfl).1
      obtain ⟨k0, k1, k2, k3, k4, k5, k6⟩ := cells7L (loc_own hL 4 rfl).1
      go_wp2_with fail
      have hLd := loc_drew hL
      refine wp_region_held_drew (S := fun W => (W.cell? ⟨w.heap.size, 0, none⟩ = some (.int .i64 8) ∧ W.cell? ⟨w.heap.size, 1, none⟩ = some (.int .i64 ps) ∧ W.cell? ⟨w.heap.size, 2, none⟩ = some (.int .i64 a) ∧ W.cell? ⟨w.heap.size, 3, none⟩ = some (.int .i64 b) ∧ W.cell? ⟨w.heap.size, 4, none⟩ = some (.int .i64 c) ∧ W.cell? ⟨w.heap.size, 5, none⟩ = some (.string p) ∧ W.cell? ⟨w.heap.size, 6, none⟩ = some (.string ⟨#[]⟩)) ∧ (W.cell? ⟨b4, 0, none⟩ = some (.int .i64 0) ∧ W.cell? ⟨b4, 1, none⟩ = some (.int .i64 a) ∧ W.cell? ⟨b4, 2, none⟩ = some (.int .i64 b) ∧ W.cell? ⟨b4, 3, none⟩ = some (.int .i64 c) ∧ W.cell? ⟨b4, 4, none⟩ = some (.string p) ∧ W.cell? ⟨b4, 5, none⟩ = some (.string ⟨#[]⟩) ∧ W.cell? ⟨b4, 6, none⟩ = some (.bool false)) ∧ (W.cell? ⟨b6, 0, none⟩ = some (.int .i64 Bh.e) ∧ W.cell? ⟨b6, 1, none⟩ = some (.int .i64 Bh.v.maj) ∧ W.cell? ⟨b6, 2, none⟩ = some (.int .i64 Bh.v.min) ∧ W.cell? ⟨b6, 3, none⟩ = some (.int .i64 Bh.v.pat) ∧ W.cell? ⟨b6, 4, none⟩ = some (.string ⟨Bh.v.pre.toArray⟩) ∧ W.cell? ⟨b6, 5, none⟩ = some (.string ⟨Bh.v.build.toArray⟩) ∧ W.cell? ⟨b6, 6, none⟩ = some (.bool Bh.aft)) ∧ Below w.heap.size w W) (by kernel_rfl) ⟨⟨c0, c1, c2, c3, c4, c5, c6⟩, ⟨d0, d1, d2, d3, d4, d5, d6⟩, ⟨k0, k1, k2, k3, k4, k5, k6⟩, hLd.1⟩ (fun hHeld => ?_)
      generalize World.drew wc = Wd at *
      refine takeD (i := 0) (d := some 61) (v := ?_) rfl rfl (by kernel_rfl) (by kernel_rfl) (by kernel_rfl) (fun _ _ _ h => h) (Or.inl ⟨by rfl, ?_⟩) (by assumption) ?_
      rotate_left
      · intro wS hSw; (try dsimp only at hSw); go_simp; (try with_reducible rfl)
      try simp only [Act.put, List.setIfInBounds_toArray, List.set_cons_zero, List.set_cons_succ]
      refine takeD (i := 1) (d := some 62) (v := ?_) rfl rfl (by kernel_rfl) (by kernel_rfl) (by kernel_rfl) (fun _ _ _ h => h) (Or.inl ⟨by rfl, ?_⟩) (by assumption) ?_
      rotate_left
      · intro wS hSw; (try dsimp only at hSw); go_simp; (try with_reducible rfl)
      try simp only [Act.put, List.setIfInBounds_toArray, List.set_cons_zero, List.set_cons_succ]
      refine takeD (i := 2) (d := some 63) (v := ?_) rfl rfl (by kernel_rfl) (by kernel_rfl) (by kernel_rfl) (fun _ _ _ h => h) (Or.inl ⟨by rfl, ?_⟩) (by assumption) ?_
      rotate_left
      · intro wS hSw; (try dsimp only at hSw); go_simp; (try with_reducible rfl)
      try simp only [Act.put, List.setIfInBounds_toArray, List.set_cons_zero, List.set_cons_succ]
      refine takeD (i := 3) (d := some 64) (v := ?_) rfl rfl (by kernel_rfl) (by kernel_rfl) (by kernel_rfl) (fun _ _ _ h => h) (Or.inl ⟨by rfl, ?_⟩) (by assumption) ?_
      rotate_left
      · intro wS hSw; (try dsimp only at hSw); go_simp; (try with_reducible rfl)
      try simp only [Act.put, List.setIfInBounds_toArray, List.set_cons_zero, List.set_cons_succ]
      refine takeD (i := 4) (d := some 65) (v := ?_) rfl rfl (by kernel_rfl) (by kernel_rfl) (by kernel_rfl) (fun _ _ _ h => h) (Or.inl ⟨by rfl, ?_⟩) (by assumption) ?_
      rotate_left
      · intro wS hSw; (try dsimp only at hSw); go_simp; (try with_reducible rfl)
      try simp only [Act.put, List.setIfInBounds_toArray, List.set_cons_zero, List.set_cons_succ]
      refine wpAnyH_ready (rs := [5]) (by kernel_rfl) (by simp) ?_
      refine consD (d := some 66) rfl rfl (fun K hK => ?_) AllReadyH.nil
      go_simp
      (go_at_call 90; (with_reducible refine (ch _).mono ?_); rintro r x2 ⟨rfl, hx2⟩)
      have hV := loc_call hLd hx2
      refine hK.out _ _ ⟨cells7L (loc_own hV 0 rfl).1, cells7L (loc_own hV 3 rfl).1, cells7L (loc_own hV 4 rfl).1, hV.1⟩ (fun hHeld => ?_)
      clear hK K
      try simp only [Act.put, List.setIfInBounds_toArray, List.set_cons_zero, List.set_cons_succ]
      obtain ⟨t0, t1, t2, t3, t4, t5, t6⟩ := cells7L (loc_own hV 1 rfl).1
      have tf := (loc_own hV 1 rfl).2
      refine wpAnyH_ready (rs := [6]) (by kernel_rfl) (by simp) ?_
      refine consD (d := none) rfl rfl (fun K hK => ?_) AllReadyH.nil
      go_simp
      clear t0 t1 t2 t3 t4 t5 t6 tf
      have hZ1 := loc_put hV 1 0 [.int .i64 0, .int .i64 a, .int .i64 b, .int .i64 c, .string p, .string ⟨#[]⟩, .bool false] rfl (by simp)
      refine hK.out _ _ ⟨cells7L (loc_own hZ1 0 rfl).1, cells7L (loc_own hZ1 3 rfl).1, cells7L (loc_own hZ1 4 rfl).1, hZ1.1⟩ (fun hHeld => ?_)
      clear hK K
      try simp only [Act.put, List.setIfInBounds_toArray, List.set_cons_zero, List.set_cons_succ]
      generalize hW : World.setCell (World.setCell _ _ _) ⟨w.heap.size + 1, 6, none⟩ _ = Z1 at *
      have hZ1 : Loc w Z1 [(w.heap.size, [.int .i64 8, .int .i64 ps, .int .i64 a, .int .i64 b, .int .i64 c, .string p, .string ⟨#[]⟩]), (w.heap.size + 1, [.int .i64 0, .int .i64 a, .int .i64 b, .int .i64 c, .string p, .string ⟨#[]⟩, .bool false]), (w.heap.size + 1 + 1, [.int .i64 0, .int .i64 0, .int .i64 0, .int .i64 0, .string ⟨#[]⟩, .string ⟨#[]⟩, .bool false]), (b4, [.int .i64 0, .int .i64 a, .int .i64 b, .int .i64 c, .string p, .string ⟨#[]⟩, .bool false]), (b6, [.int .i64 Bh.e, .int .i64 Bh.v.maj, .int .i64 Bh.v.min, .int .i64 Bh.v.pat, .string ⟨Bh.v.pre.toArray⟩, .string ⟨Bh.v.build.toArray⟩, .bool Bh.aft])] := by rw [← hW]; exact hZ1
      clear hW
      obtain ⟨t0, t1, t2, t3, t4, t5, t6⟩ := cells7L (loc_own hZ1 2 rfl).1
      have tf := (loc_own hZ1 2 rfl).2
      refine wpAnyH_ready (rs := [7]) (by kernel_rfl) (by simp) ?_
      refine consD (d := none) rfl rfl (fun K hK => ?_) AllReadyH.nil
      go_simp
      clear t0 t1 t2 t3 t4 t5 t6 tf
      have hZ2 := loc_put hZ1 2 0 [.int .i64 H.e, .int .i64 H.v.maj, .int .i64 H.v.min, .int .i64 H.v.pat, .string ⟨H.v.pre.toArray⟩, .string ⟨H.v.build.toArray⟩, .bool H.aft] rfl (by simp)
      refine hK.out _ _ ⟨cells7L (loc_own hZ2 0 rfl).1, cells7L (loc_own hZ2 3 rfl).1, cells7L (loc_own hZ2 4 rfl).1, hZ2.1⟩ (fun hHeld => ?_)
      clear hK K
      try simp only [Act.put, List.setIfInBounds_toArray, List.set_cons_zero, List.set_cons_succ]
      refine wpAnyH_done (by kernel_rfl) ?_ _
      go_wp2_with fail
      refine bodyPost_ret (span6_res _ _ (w.heap.size + 1) (w.heap.size + 1 + 1) rfl rfl (loc_own hZ2 1 rfl).1 (loc_own hZ2 2 rfl).1) rfl ?_
      exact ⟨by rw [HS.out]; rfl, hZ2.1⟩
    · by_cases h0 : ps = 0
      · have HS : Hid (spanR (cmpS 9 ps a b c p ⟨#[]⟩) = ⟨firstC, lastC⟩) := HSP.out.trans (if_pos h0)
        have cfi := fun W => first_any W
        have cla := fun W => last_any W
        dsimp only [cutV, cutCells, firstC, lastC, noVer] at cfi cla
        clear HSP HB
        subst h0
        obtain ⟨c0, c1, c2, c3, c4, c5, c6⟩ := cells7L (loc_own hL 0 rfl).1
        go_wp2_with fail
        refine (cfi _).mono ?_
        rintro r x1 ⟨rfl, hx1⟩
        have hL := loc_call hL hx1
        clear hx1 c0 c1 c2 c3 c4 c5 c6
        go_wp2_with fail
        refine (cla _).mono ?_
        rintro r x2 ⟨rfl, hx2⟩
        have hL := loc_call hL hx2
        clear hx2
        obtain ⟨d0, d1, d2, d3, d4, d5, d6⟩ := cells7L (loc_own hL 1 rfl).1
        obtain ⟨k0, k1, k2, k3, k4, k5, k6⟩ := cells7L (loc_own hL 2 rfl).1
        have f1 := (loc_own hL 1 rfl).2
        have f2 := (loc_own hL 2 rfl).2
        go_wp2_with fail
        have hZ2 := loc_put (loc_put hL 1 0 [.int .i64 (-1), .int .i64 0, .int .i64 0, .int .i64 0, .string ⟨#[]⟩, .string ⟨#[]⟩, .bool false] rfl (by simp)) 2 0 [.int .i64 1, .int .i64 0, .int .i64 0, .int .i64 0, .string ⟨#[]⟩, .string ⟨#[]⟩, .bool false] rfl (by simp)
        refine bodyPost_ret (span6_res _ _ (w.heap.size + 1) (w.heap.size + 1 + 1) rfl rfl (loc_own hZ2 1 rfl).1 (loc_own hZ2 2 rfl).1) rfl ?_
        exact ⟨by rw [HS.out]; rfl, hZ2.1⟩
      · have g0 : (ps == 0) = false := by simpa using h0
        have HS : Hid (spanR (cmpS 9 ps a b c p ⟨#[]⟩) = ⟨beforeR (verS a b c p ⟨#[]⟩), highC (verS a b c p ⟨#[]⟩) ps.toNat⟩) := HSP.out.trans (if_neg h0)
        have ch := fun W => rhigh_any a b c p ⟨#[]⟩ ps.toNat W (by omega) hp (by decide)
        rw [show plI ps.toNat = ps - 1 from by unfold plI; omega] at ch
        unfold cutV cutCells at ch
        generalize highC (verS a b c p ⟨#[]⟩) ps.toNat = H at *
        clear HSP HB
        obtain ⟨c0, c1, c2, c3, c4, c5, c6⟩ := cells7L (loc_own hL 0 rfl).1
        obtain ⟨d0, d1, d2, d3, d4, d5, d6⟩ := cells7L (loc_own hL 3 rfl).1
        obtain ⟨k0, k1, k2, k3, k4, k5, k6⟩ := cells7L (loc_own hL 4 rfl).1
        go_wp2_with fail
        have hLd := loc_drew hL
        refine wp_region_held_drew (S := fun W => (W.cell? ⟨w.heap.size, 0, none⟩ = some (.int .i64 9) ∧ W.cell? ⟨w.heap.size, 1, none⟩ = some (.int .i64 ps) ∧ W.cell? ⟨w.heap.size, 2, none⟩ = some (.int .i64 a) ∧ W.cell? ⟨w.heap.size, 3, none⟩ = some (.int .i64 b) ∧ W.cell? ⟨w.heap.size, 4, none⟩ = some (.int .i64 c) ∧ W.cell? ⟨w.heap.size, 5, none⟩ = some (.string p) ∧ W.cell? ⟨w.heap.size, 6, none⟩ = some (.string ⟨#[]⟩)) ∧ (W.cell? ⟨b4, 0, none⟩ = some (.int .i64 0) ∧ W.cell? ⟨b4, 1, none⟩ = some (.int .i64 a) ∧ W.cell? ⟨b4, 2, none⟩ = some (.int .i64 b) ∧ W.cell? ⟨b4, 3, none⟩ = some (.int .i64 c) ∧ W.cell? ⟨b4, 4, none⟩ = some (.string p) ∧ W.cell? ⟨b4, 5, none⟩ = some (.string ⟨#[]⟩) ∧ W.cell? ⟨b4, 6, none⟩ = some (.bool false)) ∧ (W.cell? ⟨b6, 0, none⟩ = some (.int .i64 Bh.e) ∧ W.cell? ⟨b6, 1, none⟩ = some (.int .i64 Bh.v.maj) ∧ W.cell? ⟨b6, 2, none⟩ = some (.int .i64 Bh.v.min) ∧ W.cell? ⟨b6, 3, none⟩ = some (.int .i64 Bh.v.pat) ∧ W.cell? ⟨b6, 4, none⟩ = some (.string ⟨Bh.v.pre.toArray⟩) ∧ W.cell? ⟨b6, 5, none⟩ = some (.string ⟨Bh.v.build.toArray⟩) ∧ W.cell? ⟨b6, 6, none⟩ = some (.bool Bh.aft)) ∧ Below w.heap.size w W) (by kernel_rfl) ⟨⟨c0, c1, c2, c3, c4, c5, c6⟩, ⟨d0, d1, d2, d3, d4, d5, d6⟩, ⟨k0, k1, k2, k3, k4, k5, k6⟩, hLd.1⟩ (fun hHeld => ?_)
        generalize World.drew wc = Wd at *
        refine takeD (i := 0) (d := some 72) (v := ?_) rfl rfl (by kernel_rfl) (by kernel_rfl) (by kernel_rfl) (fun _ _ _ h => h) (Or.inl ⟨by rfl, ?_⟩) (by assumption) ?_
        rotate_left
        · intro wS hSw; (try dsimp only at hSw); go_simp; (try with_reducible rfl)
        try simp only [Act.put, List.setIfInBounds_toArray, List.set_cons_zero, List.set_cons_succ]
        refine takeD (i := 1) (d := some 73) (v := ?_) rfl rfl (by kernel_rfl) (by kernel_rfl) (by kernel_rfl) (fun _ _ _ h => h) (Or.inl ⟨by rfl, ?_⟩) (by assumption) ?_
        rotate_left
        · intro wS hSw; (try dsimp only at hSw); go_simp; (try with_reducible rfl)
        try simp only [Act.put, List.setIfInBounds_toArray, List.set_cons_zero, List.set_cons_succ]
        refine takeD (i := 2) (d := some 74) (v := ?_) rfl rfl (by kernel_rfl) (by kernel_rfl) (by kernel_rfl) (fun _ _ _ h => h) (Or.inl ⟨by rfl, ?_⟩) (by assumption) ?_
        rotate_left
        · intro wS hSw; (try dsimp only at hSw); go_simp; (try with_reducible rfl)
        try simp only [Act.put, List.setIfInBounds_toArray, List.set_cons_zero, List.set_cons_succ]
        refine takeD (i := 3) (d := some 75) (v := ?_) rfl rfl (by kernel_rfl) (by kernel_rfl) (by kernel_rfl) (fun _ _ _ h => h) (Or.inl ⟨by rfl, ?_⟩) (by assumption) ?_
        rotate_left
        · intro wS hSw; (try dsimp only at hSw); go_simp; (try with_reducible rfl)
        try simp only [Act.put, List.setIfInBounds_toArray, List.set_cons_zero, List.set_cons_succ]
        refine wpAnyH_ready (rs := [4]) (by kernel_rfl) (by simp) ?_
        refine consD (d := some 76) rfl rfl (fun K hK => ?_) AllReadyH.nil
        go_simp
        (go_at_call 90; (with_reducible refine (ch _).mono ?_); rintro r x2 ⟨rfl, hx2⟩)
        have hV := loc_call hLd hx2
        refine hK.out _ _ ⟨cells7L (loc_own hV 0 rfl).1, cells7L (loc_own hV 3 rfl).1, cells7L (loc_own hV 4 rfl).1, hV.1⟩ (fun hHeld => ?_)
        clear hK K
        try simp only [Act.put, List.setIfInBounds_toArray, List.set_cons_zero, List.set_cons_succ]
        obtain ⟨t0, t1, t2, t3, t4, t5, t6⟩ := cells7L (loc_own hV 1 rfl).1
        have tf := (loc_own hV 1 rfl).2
        refine wpAnyH_ready (rs := [5]) (by kernel_rfl) (by simp) ?_
        refine consD (d := none) rfl rfl (fun K hK => ?_) AllReadyH.nil
        go_simp
        clear t0 t1 t2 t3 t4 t5 t6 tf
        have hZ1 := loc_put hV 1 0 [.int .i64 0, .int .i64 a, .int .i64 b, .int .i64 c, .string p, .string ⟨#[]⟩, .bool false] rfl (by simp)
        refine hK.out _ _ ⟨cells7L (loc_own hZ1 0 rfl).1, cells7L (loc_own hZ1 3 rfl).1, cells7L (loc_own hZ1 4 rfl).1, hZ1.1⟩ (fun hHeld => ?_)
        clear hK K
        try simp only [Act.put, List.setIfInBounds_toArray, List.set_cons_zero, List.set_cons_succ]
        generalize hW : World.setCell (World.setCell _ _ _) ⟨w.heap.size + 1, 6, none⟩ _ = Z1 at *
        have hZ1 : Loc w Z1 [(w.heap.size, [.int .i64 9, .int .i64 ps, .int .i64 a, .int .i64 b, .int .i64 c, .string p, .string ⟨#[]⟩]), (w.heap.size + 1, [.int .i64 0, .int .i64 a, .int .i64 b, .int .i64 c, .string p, .string ⟨#[]⟩, .bool false]), (w.heap.size + 1 + 1, [.int .i64 0, .int .i64 0, .int .i64 0, .int .i64 0, .string ⟨#[]⟩, .string ⟨#[]⟩, .bool false]), (b4, [.int .i64 0, .int .i64 a, .int .i64 b, .int .i64 c, .string p, .string ⟨#[]⟩, .bool false]), (b6, [.int .i64 Bh.e, .int .i64 Bh.v.maj, .int .i64 Bh.v.min, .int .i64 Bh.v.pat, .string ⟨Bh.v.pre.toArray⟩, .string ⟨Bh.v.build.toArray⟩, .bool Bh.aft])] := by rw [← hW]; exact hZ1
        clear hW
        obtain ⟨t0, t1, t2, t3, t4, t5, t6⟩ := cells7L (loc_own hZ1 2 rfl).1
        have tf := (loc_own hZ1 2 rfl).2
        refine wpAnyH_ready (rs := [6]) (by kernel_rfl) (by simp) ?_
        refine consD (d := none) rfl rfl (fun K hK => ?_) AllReadyH.nil
        go_simp
        clear t0 t1 t2 t3 t4 t5 t6 tf
        have hZ2 := loc_put hZ1 2 0 [.int .i64 H.e, .int .i64 H.v.maj, .int .i64 H.v.min, .int .i64 H.v.pat, .string ⟨H.v.pre.toArray⟩, .string ⟨H.v.build.toArray⟩, .bool H.aft] rfl (by simp)
        refine hK.out _ _ ⟨cells7L (loc_own hZ2 0 rfl).1, cells7L (loc_own hZ2 3 rfl).1, cells7L (loc_own hZ2 4 rfl).1, hZ2.1⟩ (fun hHeld => ?_)
        clear hK K
        try simp only [Act.put, List.setIfInBounds_toArray, List.set_cons_zero, List.set_cons_succ]
        refine wpAnyH_done (by kernel_rfl) ?_ _
        go_wp2_with fail
        refine bodyPost_ret (span6_res _ _ (w.heap.size + 1) (w.heap.size + 1 + 1) rfl rfl (loc_own hZ2 1 rfl).1 (loc_own hZ2 2 rfl).1) rfl ?_
        exact ⟨by rw [HS.out]; rfl, hZ2.1⟩
end Go.Proofs.YthaagngoefieaaaDoor
