/-
  CompPairs: Lt and Ge, Gt and Le, and Eq and Ne have complementary Regions, and Eq is the intersection of Ge and Le. Conditions: strconv's and math/bits' tables start as the program's text lays them (the card ties them).
-/
import Derived.Test.YthaagngoefieaaaDoorRows
import Derived.Test.YthaagngoefieaaaDoorCLawA
import Derived.Test.YthaagngoefieaaaDoorCFam
import Derived.Test.YthaagngoefieaaaDoorCPairs
import Derived.Test.YthaagngoefieaaaDoorCParse
import Derived.Test.YthaagngoefieaaaDoorG5
import Derived.Test.YthaagngoefieaaaDoorCards
import Derived.Test.YthaagngoefieaaaDoorTie
import Derived.Test.YthaagngoefieaaaDoorTab
import Derived.LaidMore
import Derived.MakeChecks
import Derived.SevenTiedAt
import Derived.Stop.Joined
import Derived.WalkKit
import Derived.ProofKit
import Derived.OpenShut
import Derived.ShutString
import Derived.ChangeOld
import Derived.Below
namespace Go.Proofs.YthaagngoefieaaaDoor.compPairs
open Go.ChangeShapes Go.WideShapes Go.ChangeAt Go.RowKit
open Go.ChangeMaps (open_string shut_string)
set_option linter.unusedVariables false

theorem own : ownKnob Tryd.prog.godebug = none := by kernel_rfl
theorem laidOut : laidOutB Tryd.prog = true := by kernel_rfl

def IsRow (k : IntKind) (w : World) (a : Option Addr) (len cap : Nat) (zs : List Int) : Prop :=
  (a = none ∧ len = 0 ∧ cap = 0 ∧ zs = []) ∨
  ∃ x, a = some x ∧ len ≤ cap ∧ cap ≤ maxLen ∧ zs.length = cap ∧ (∀ i, i < zs.length → w.cell? (x.add i) = some (.int k (zs.getD i 0))) ∧ ∀ n ∈ zs, (Lit.int k n).wf = true

set_option maxHeartbeats 8000000 in
set_option maxRecDepth 100000 in
theorem walk (a0 : Option Addr) (len0 cap0 : Nat) (z0 : List Int) (w : World) (w0 : IsRow .i64 w a0 len0 cap0 z0) (hT : Tab w) :
    Calls Tryd.prog 6 #[.slice a0 len0 cap0] w fun e w' => e = .returned (.bool true) ∧ Below w.heap.size w w' := by
  have HT := Lib.hid hT
  clear hT
  obtain ⟨hrd, hml, hwf, hlen⟩ := row_rd w0
  generalize z0.take len0 = l at *
  subst hlen
  clear w0
  obtain ⟨op, ps, a, b, c, p, r, hm, hf, hp8, ck⟩ := comp_fam a0 cap0 w.heap.size l 0 hml hwf (by omega) (by omega)
  have HRD := Lib.hid hrd
  clear hrd hwf
  have hp := hp8
  have hp : p.size ≤ 1048576 := by omega
  by_cases h9 : op = 9
  · subst h9
    clear hm hf hp8 hp
    unfold cvV at *
    go_enter Tryd.func6, Tryd.ntmps6
    go_wp2_with fail
    refine (ck _ HRD.out (Nat.le_refl _)).mono ?_
    rintro e w0 ⟨rfl, hb⟩
    have hB := hb
    clear hb
    have hL : Loc w w0 [] := ⟨hB, List.Pairwise.nil, fun x hx => absurd hx (by simp)⟩
    clear hB
    have hL := loc_new hL w0.heap.size [.int .i64 9, .int .i64 ps, .int .i64 a, .int .i64 b, .int .i64 c, .string p, .string ⟨#[]⟩] 26
    obtain ⟨d0, d1, d2, d3, d4, d5, d6⟩ := cells7L (loc_own hL 0 rfl).1
    go_wp2_with (go_at_call 11; refine (cawake_any _ (tab_below HT.out (loc_below hL))).mono ?_; rintro e w3 ⟨rfl, hb3⟩)
    go_ret
    exact ⟨rfl, loc_below (loc_call hL hb3)⟩
  · have hop9 : (op == 9) = false := by simpa using h9
    have E1 := Lib.hid (pair_1 hm hf h9)
    have E2 := Lib.hid (pair_2 hm hf h9)
    have E3 := Lib.hid (pair_3 hm h9)
    have E4 := Lib.hid (pair_4 hm hf h9)
    have cw1 := fun W => with_any op ps a b c p ⟨#[]⟩ 1 W
    have cr1 := fun W => region_any 1 ps a b c p ⟨#[]⟩ W hp (by decide)
    have ok1 := region_ok (op := 1) (ps := ps) (a := a) (b := b) (c := c) (p := p) hp
    have cw2 := fun W => with_any op ps a b c p ⟨#[]⟩ 2 W
    have cr2 := fun W => region_any 2 ps a b c p ⟨#[]⟩ W hp (by decide)
    have ok2 := region_ok (op := 2) (ps := ps) (a := a) (b := b) (c := c) (p := p) hp
    have cw3 := fun W => with_any op ps a b c p ⟨#[]⟩ 3 W
    have cr3 := fun W => region_any 3 ps a b c p ⟨#[]⟩ W hp (by decide)
    have ok3 := region_ok (op := 3) (ps := ps) (a := a) (b := b) (c := c) (p := p) hp
    have cw4 := fun W => with_any op ps a b c p ⟨#[]⟩ 4 W
    have cr4 := fun W => region_any 4 ps a b c p ⟨#[]⟩ W hp (by decide)
    have ok4 := region_ok (op := 4) (ps := ps) (a := a) (b := b) (c := c) (p := p) hp
    have cw5 := fun W => with_any op ps a b c p ⟨#[]⟩ 5 W
    have cr5 := fun W => region_any 5 ps a b c p ⟨#[]⟩ W hp (by decide)
    have ok5 := region_ok (op := 5) (ps := ps) (a := a) (b := b) (c := c) (p := p) hp
    have cw6 := fun W => with_any op ps a b c p ⟨#[]⟩ 6 W
    have cr6 := fun W => region_any 6 ps a b c p ⟨#[]⟩ W hp (by decide)
    have ok6 := region_ok (op := 6) (ps := ps) (a := a) (b := b) (c := c) (p := p) hp
    have E1 : Hid (regionP (cmpS 3 ps a b c p ⟨#[]⟩) = notR (regionP (cmpS 6 ps a b c p ⟨#[]⟩))) := E1.out
    have E2 : Hid (regionP (cmpS 5 ps a b c p ⟨#[]⟩) = notR (regionP (cmpS 4 ps a b c p ⟨#[]⟩))) := E2.out
    have E3 : Hid (regionP (cmpS 2 ps a b c p ⟨#[]⟩) = notR (regionP (cmpS 1 ps a b c p ⟨#[]⟩))) := E3.out
    have E4 : Hid (regionP (cmpS 1 ps a b c p ⟨#[]⟩) = andR (regionP (cmpS 6 ps a b c p ⟨#[]⟩)) (regionP (cmpS 4 ps a b c p ⟨#[]⟩))) := E4.out
    generalize regionP (cmpS 1 ps a b c p ⟨#[]⟩) = L1 at *
    generalize regionP (cmpS 2 ps a b c p ⟨#[]⟩) = L2 at *
    generalize regionP (cmpS 3 ps a b c p ⟨#[]⟩) = L3 at *
    generalize regionP (cmpS 4 ps a b c p ⟨#[]⟩) = L4 at *
    generalize regionP (cmpS 5 ps a b c p ⟨#[]⟩) = L5 at *
    generalize regionP (cmpS 6 ps a b c p ⟨#[]⟩) = L6 at *
    clear hm hf hp8 hp h9
    unfold cvV at *
    have O1 := Lib.hid ok1
    have O2 := Lib.hid ok2
    have O3 := Lib.hid ok3
    have O4 := Lib.hid ok4
    have O5 := Lib.hid ok5
    have O6 := Lib.hid ok6
    clear ok1 ok2 ok3 ok4 ok5 ok6
    go_enter Tryd.func6, Tryd.ntmps6
    go_wp2_with fail
    refine (ck _ HRD.out (Nat.le_refl _)).mono ?_
    rintro e w0 ⟨rfl, hb⟩
    have hB := hb
    clear hb
    have hL : Loc w w0 [] := ⟨hB, List.Pairwise.nil, fun x hx => absurd hx (by simp)⟩
    clear hB
    have hL := loc_new hL w0.heap.size [.int .i64 op, .int .i64 ps, .int .i64 a, .int .i64 b, .int .i64 c, .string p, .string ⟨#[]⟩] 26
    obtain ⟨d0, d1, d2, d3, d4, d5, d6⟩ := cells7L (loc_own hL 0 rfl).1
    go_wp2_with fail
    have hL1 := hL
    have hLd := loc_drew hL
    obtain ⟨d0, d1, d2, d3, d4, d5, d6⟩ := cells7L (loc_own hL 0 rfl).1
    refine wp_region_held_drew (S := fun W => (W.cell? ⟨w0.heap.size, 0, none⟩ = some (.int .i64 op) ∧ W.cell? ⟨w0.heap.size, 1, none⟩ = some (.int .i64 ps) ∧ W.cell? ⟨w0.heap.size, 2, none⟩ = some (.int .i64 a) ∧ W.cell? ⟨w0.heap.size, 3, none⟩ = some (.int .i64 b) ∧ W.cell? ⟨w0.heap.size, 4, none⟩ = some (.int .i64 c) ∧ W.cell? ⟨w0.heap.size, 5, none⟩ = some (.string p) ∧ W.cell? ⟨w0.heap.size, 6, none⟩ = some (.string ⟨#[]⟩)) ∧ Loc w W [(w0.heap.size, [.int .i64 op, .int .i64 ps, .int .i64 a, .int .i64 b, .int .i64 c, .string p, .string ⟨#[]⟩])]) (by kernel_rfl) ⟨⟨d0, d1, d2, d3, d4, d5, d6⟩, hLd⟩ (fun hHeld => ?_)
    refine takeD (i := 0) (d := some 13) (v := ?_) rfl rfl (by kernel_rfl) (by kernel_rfl) (by kernel_rfl) (fun _ _ _ h => h) (Or.inl ⟨by rfl, ?_⟩) (by assumption) ?_
    rotate_left
    · intro wS hSw; (try dsimp only at hSw); go_simp; (try with_reducible rfl)
    try simp only [Act.put, List.setIfInBounds_toArray, List.set_cons_zero, List.set_cons_succ]
    refine takeD (i := 3) (d := some 16) (v := ?_) rfl rfl (by kernel_rfl) (by kernel_rfl) (by kernel_rfl) (fun _ _ _ h => h) (Or.inl ⟨by rfl, ?_⟩) (by assumption) ?_
    rotate_left
    · intro wS hSw; (try dsimp only at hSw); go_simp; (try with_reducible rfl)
    try simp only [Act.put, List.setIfInBounds_toArray, List.set_cons_zero, List.set_cons_succ]
    refine wpAnyH_ready (rs := [1]) (by kernel_rfl) (by simp) ?_
    refine consD (d := some 14) rfl rfl (fun K hK => ?_) AllReadyH.nil
    go_simp
    (go_at_call 24; (with_reducible refine (cw3 _).mono ?_); rintro e w2 ⟨rfl, hb2⟩)
    have hM2 := loc_call hHeld.2 hb2
    refine hK.out _ _ ⟨cells7L (loc_own hM2 0 rfl).1, hM2⟩ (fun hHeld => ?_)
    clear hK K
    try simp only [Act.put, List.setIfInBounds_toArray, List.set_cons_zero, List.set_cons_succ]
    refine wpAnyH_ready (rs := [2]) (by kernel_rfl) (by simp) ?_
    refine consD (d := some 15) rfl rfl (fun K hK => ?_) AllReadyH.nil
    go_simp
    (go_at_call 22; (with_reducible refine (cr3 _).mono ?_); rintro e w3 ⟨AP13, nP13, capP13, rfl, hnP13, hcP13, hrP13, hb3⟩)
    have HNP13 := Lib.hid hnP13
    clear hnP13
    have hM3 := loc_call hM2 hb3
    refine hK.out _ _ ⟨cells7L (loc_own hM3 0 rfl).1, hM3⟩ (fun hHeld => ?_)
    clear hK K
    try simp only [Act.put, List.setIfInBounds_toArray, List.set_cons_zero, List.set_cons_succ]
    refine wpAnyH_ready (rs := [4]) (by kernel_rfl) (by simp) ?_
    refine consD (d := some 17) rfl rfl (fun K hK => ?_) AllReadyH.nil
    go_simp
    (go_at_call 24; (with_reducible refine (cw6 _).mono ?_); rintro e w4 ⟨rfl, hb4⟩)
    have hM4 := loc_call hM3 hb4
    refine hK.out _ _ ⟨cells7L (loc_own hM4 0 rfl).1, hM4⟩ (fun hHeld => ?_)
    clear hK K
    try simp only [Act.put, List.setIfInBounds_toArray, List.set_cons_zero, List.set_cons_succ]
    refine wpAnyH_ready (rs := [5]) (by kernel_rfl) (by simp) ?_
    refine consD (d := some 18) rfl rfl (fun K hK => ?_) AllReadyH.nil
    go_simp
    (go_at_call 22; (with_reducible refine (cr6 _).mono ?_); rintro e w5 ⟨AQ13, nQ13, capQ13, rfl, hnQ13, hcQ13, hrQ13, hb5⟩)
    have HNQ13 := Lib.hid hnQ13
    clear hnQ13
    have hM5 := loc_call hM4 hb5
    refine hK.out _ _ ⟨cells7L (loc_own hM5 0 rfl).1, hM5⟩ (fun hHeld => ?_)
    clear hK K
    try simp only [Act.put, List.setIfInBounds_toArray, List.set_cons_zero, List.set_cons_succ]
    refine wpAnyH_ready (rs := [6]) (by kernel_rfl) (by simp) ?_
    refine consD (d := some 19) rfl rfl (fun K hK => ?_) AllReadyH.nil
    go_simp
    (go_at_call 25; (with_reducible refine (rnot_any AQ13 nQ13 capQ13 w5.heap.size L6 w5 hrQ13 HNQ13.out.symm O6.out.1 (Nat.le_refl _) (by have h1 := O6.out.2; have h2 := HNQ13.out; omega)).mono ?_); rintro e w6 ⟨AR13, nR13, capR13, rfl, hnR13, hcR13, hrR13, hb6⟩)
    have HNR13 := Lib.hid hnR13
    clear hnR13
    have hM6 := loc_call hM5 hb6
    refine hK.out _ _ ⟨cells7L (loc_own hM6 0 rfl).1, hM6⟩ (fun hHeld => ?_)
    clear hK K
    try simp only [Act.put, List.setIfInBounds_toArray, List.set_cons_zero, List.set_cons_succ]
    refine wpAnyH_ready (rs := [7]) (by kernel_rfl) (by simp) ?_
    refine consD (d := some 20) rfl rfl (fun K hK => ?_) AllReadyH.nil
    go_simp
    have hbx : Below w3.heap.size w3 w6 := (hb4.trans (hb5.mono hb4.size)).trans (hb6.mono (hb4.trans (hb5.mono hb4.size)).size)
    have nk := notR_ok O6.out.1
    have hl1 := O3.out.2
    have hl2 := O6.out.2
    have e1 := HNP13.out
    have e2 := HNR13.out
    have ms := rsame_true AP13 AR13 nP13 nR13 capP13 capR13 w3.heap.size w6.heap.size L3 (notR L6) w6 (rds_below hrP13 hbx) hrR13 e1.symm e2.symm O3.out.1 nk.1 hbx.size (Nat.le_refl _) (by omega) (by omega) E1.out
    clear nk hl1 hl2 e1 e2 hbx
    (go_at_call 23; (with_reducible refine (ms).mono ?_); rintro e w7 ⟨rfl, hb7⟩)
    have hM7 := loc_call hM6 hb7
    clear ms
    refine hK.out _ _ ⟨cells7L (loc_own hM7 0 rfl).1, hM7⟩ (fun hHeld => ?_)
    clear hK K
    try simp only [Act.put, List.setIfInBounds_toArray, List.set_cons_zero, List.set_cons_succ]
    refine takeD (i := 8) (d := some 4) (v := ?_) rfl rfl (by kernel_rfl) (by kernel_rfl) (by kernel_rfl) (fun _ _ _ h => h) (Or.inl ⟨by rfl, ?_⟩) (by assumption) ?_
    rotate_left
    · intro wS hSw; (try dsimp only at hSw); go_simp; (try with_reducible rfl)
    try simp only [Act.put, List.setIfInBounds_toArray, List.set_cons_zero, List.set_cons_succ]
    refine wpAnyH_done (by kernel_rfl) ?_ _
    have hL := hM7
    clear d0 d1 d2 d3 d4 d5 d6
    go_wp2_with fail
    have hLd := loc_drew hL
    obtain ⟨d0, d1, d2, d3, d4, d5, d6⟩ := cells7L (loc_own hL 0 rfl).1
    refine wp_region_held_drew (S := fun W => (W.cell? ⟨w0.heap.size, 0, none⟩ = some (.int .i64 op) ∧ W.cell? ⟨w0.heap.size, 1, none⟩ = some (.int .i64 ps) ∧ W.cell? ⟨w0.heap.size, 2, none⟩ = some (.int .i64 a) ∧ W.cell? ⟨w0.heap.size, 3, none⟩ = some (.int .i64 b) ∧ W.cell? ⟨w0.heap.size, 4, none⟩ = some (.int .i64 c) ∧ W.cell? ⟨w0.heap.size, 5, none⟩ = some (.string p) ∧ W.cell? ⟨w0.heap.size, 6, none⟩ = some (.string ⟨#[]⟩)) ∧ Loc w W [(w0.heap.size, [.int .i64 op, .int .i64 ps, .int .i64 a, .int .i64 b, .int .i64 c, .string p, .string ⟨#[]⟩])]) (by kernel_rfl) ⟨⟨d0, d1, d2, d3, d4, d5, d6⟩, hLd⟩ (fun hHeld => ?_)
    refine takeD (i := 0) (d := some 21) (v := ?_) rfl rfl (by kernel_rfl) (by kernel_rfl) (by kernel_rfl) (fun _ _ _ h => h) (Or.inl ⟨by rfl, ?_⟩) (by assumption) ?_
    rotate_left
    · intro wS hSw; (try dsimp only at hSw); go_simp; (try with_reducible rfl)
    try simp only [Act.put, List.setIfInBounds_toArray, List.set_cons_zero, List.set_cons_succ]
    refine takeD (i := 3) (d := some 24) (v := ?_) rfl rfl (by kernel_rfl) (by kernel_rfl) (by kernel_rfl) (fun _ _ _ h => h) (Or.inl ⟨by rfl, ?_⟩) (by assumption) ?_
    rotate_left
    · intro wS hSw; (try dsimp only at hSw); go_simp; (try with_reducible rfl)
    try simp only [Act.put, List.setIfInBounds_toArray, List.set_cons_zero, List.set_cons_succ]
    refine wpAnyH_ready (rs := [1]) (by kernel_rfl) (by simp) ?_
    refine consD (d := some 22) rfl rfl (fun K hK => ?_) AllReadyH.nil
    go_simp
    (go_at_call 24; (with_reducible refine (cw5 _).mono ?_); rintro e w8 ⟨rfl, hb8⟩)
    have hM8 := loc_call hHeld.2 hb8
    refine hK.out _ _ ⟨cells7L (loc_own hM8 0 rfl).1, hM8⟩ (fun hHeld => ?_)
    clear hK K
    try simp only [Act.put, List.setIfInBounds_toArray, List.set_cons_zero, List.set_cons_succ]
    refine wpAnyH_ready (rs := [2]) (by kernel_rfl) (by simp) ?_
    refine consD (d := some 23) rfl rfl (fun K hK => ?_) AllReadyH.nil
    go_simp
    (go_at_call 22; (with_reducible refine (cr5 _).mono ?_); rintro e w9 ⟨AP21, nP21, capP21, rfl, hnP21, hcP21, hrP21, hb9⟩)
    have HNP21 := Lib.hid hnP21
    clear hnP21
    have hM9 := loc_call hM8 hb9
    refine hK.out _ _ ⟨cells7L (loc_own hM9 0 rfl).1, hM9⟩ (fun hHeld => ?_)
    clear hK K
    try simp only [Act.put, List.setIfInBounds_toArray, List.set_cons_zero, List.set_cons_succ]
    refine wpAnyH_ready (rs := [4]) (by kernel_rfl) (by simp) ?_
    refine consD (d := some 25) rfl rfl (fun K hK => ?_) AllReadyH.nil
    go_simp
    (go_at_call 24; (with_reducible refine (cw4 _).mono ?_); rintro e w10 ⟨rfl, hb10⟩)
    have hM10 := loc_call hM9 hb10
    refine hK.out _ _ ⟨cells7L (loc_own hM10 0 rfl).1, hM10⟩ (fun hHeld => ?_)
    clear hK K
    try simp only [Act.put, List.setIfInBounds_toArray, List.set_cons_zero, List.set_cons_succ]
    refine wpAnyH_ready (rs := [5]) (by kernel_rfl) (by simp) ?_
    refine consD (d := some 26) rfl rfl (fun K hK => ?_) AllReadyH.nil
    go_simp
    (go_at_call 22; (with_reducible refine (cr4 _).mono ?_); rintro e w11 ⟨AQ21, nQ21, capQ21, rfl, hnQ21, hcQ21, hrQ21, hb11⟩)
    have HNQ21 := Lib.hid hnQ21
    clear hnQ21
    have hM11 := loc_call hM10 hb11
    refine hK.out _ _ ⟨cells7L (loc_own hM11 0 rfl).1, hM11⟩ (fun hHeld => ?_)
    clear hK K
    try simp only [Act.put, List.setIfInBounds_toArray, List.set_cons_zero, List.set_cons_succ]
    refine wpAnyH_ready (rs := [6]) (by kernel_rfl) (by simp) ?_
    refine consD (d := some 27) rfl rfl (fun K hK => ?_) AllReadyH.nil
    go_simp
    (go_at_call 25; (with_reducible refine (rnot_any AQ21 nQ21 capQ21 w11.heap.size L4 w11 hrQ21 HNQ21.out.symm O4.out.1 (Nat.le_refl _) (by have h1 := O4.out.2; have h2 := HNQ21.out; omega)).mono ?_); rintro e w12 ⟨AR21, nR21, capR21, rfl, hnR21, hcR21, hrR21, hb12⟩)
    have HNR21 := Lib.hid hnR21
    clear hnR21
    have hM12 := loc_call hM11 hb12
    refine hK.out _ _ ⟨cells7L (loc_own hM12 0 rfl).1, hM12⟩ (fun hHeld => ?_)
    clear hK K
    try simp only [Act.put, List.setIfInBounds_toArray, List.set_cons_zero, List.set_cons_succ]
    refine wpAnyH_ready (rs := [7]) (by kernel_rfl) (by simp) ?_
    refine consD (d := some 28) rfl rfl (fun K hK => ?_) AllReadyH.nil
    go_simp
    have hbx : Below w9.heap.size w9 w12 := (hb10.trans (hb11.mono hb10.size)).trans (hb12.mono (hb10.trans (hb11.mono hb10.size)).size)
    have nk := notR_ok O4.out.1
    have hl1 := O5.out.2
    have hl2 := O4.out.2
    have e1 := HNP21.out
    have e2 := HNR21.out
    have ms := rsame_true AP21 AR21 nP21 nR21 capP21 capR21 w9.heap.size w12.heap.size L5 (notR L4) w12 (rds_below hrP21 hbx) hrR21 e1.symm e2.symm O5.out.1 nk.1 hbx.size (Nat.le_refl _) (by omega) (by omega) E2.out
    clear nk hl1 hl2 e1 e2 hbx
    (go_at_call 23; (with_reducible refine (ms).mono ?_); rintro e w13 ⟨rfl, hb13⟩)
    have hM13 := loc_call hM12 hb13
    clear ms
    refine hK.out _ _ ⟨cells7L (loc_own hM13 0 rfl).1, hM13⟩ (fun hHeld => ?_)
    clear hK K
    try simp only [Act.put, List.setIfInBounds_toArray, List.set_cons_zero, List.set_cons_succ]
    refine takeD (i := 8) (d := some 5) (v := ?_) rfl rfl (by kernel_rfl) (by kernel_rfl) (by kernel_rfl) (fun _ _ _ h => h) (Or.inl ⟨by rfl, ?_⟩) (by assumption) ?_
    rotate_left
    · intro wS hSw; (try dsimp only at hSw); go_simp; (try with_reducible rfl)
    try simp only [Act.put, List.setIfInBounds_toArray, List.set_cons_zero, List.set_cons_succ]
    refine wpAnyH_done (by kernel_rfl) ?_ _
    have hL := hM13
    clear d0 d1 d2 d3 d4 d5 d6
    go_wp2_with fail
    have hLd := loc_drew hL
    obtain ⟨d0, d1, d2, d3, d4, d5, d6⟩ := cells7L (loc_own hL 0 rfl).1
    refine wp_region_held_drew (S := fun W => (W.cell? ⟨w0.heap.size, 0, none⟩ = some (.int .i64 op) ∧ W.cell? ⟨w0.heap.size, 1, none⟩ = some (.int .i64 ps) ∧ W.cell? ⟨w0.heap.size, 2, none⟩ = some (.int .i64 a) ∧ W.cell? ⟨w0.heap.size, 3, none⟩ = some (.int .i64 b) ∧ W.cell? ⟨w0.heap.size, 4, none⟩ = some (.int .i64 c) ∧ W.cell? ⟨w0.heap.size, 5, none⟩ = some (.string p) ∧ W.cell? ⟨w0.heap.size, 6, none⟩ = some (.string ⟨#[]⟩)) ∧ Loc w W [(w0.heap.size, [.int .i64 op, .int .i64 ps, .int .i64 a, .int .i64 b, .int .i64 c, .string p, .string ⟨#[]⟩])]) (by kernel_rfl) ⟨⟨d0, d1, d2, d3, d4, d5, d6⟩, hLd⟩ (fun hHeld => ?_)
    refine takeD (i := 0) (d := some 29) (v := ?_) rfl rfl (by kernel_rfl) (by kernel_rfl) (by kernel_rfl) (fun _ _ _ h => h) (Or.inl ⟨by rfl, ?_⟩) (by assumption) ?_
    rotate_left
    · intro wS hSw; (try dsimp only at hSw); go_simp; (try with_reducible rfl)
    try simp only [Act.put, List.setIfInBounds_toArray, List.set_cons_zero, List.set_cons_succ]
    refine takeD (i := 3) (d := some 32) (v := ?_) rfl rfl (by kernel_rfl) (by kernel_rfl) (by kernel_rfl) (fun _ _ _ h => h) (Or.inl ⟨by rfl, ?_⟩) (by assumption) ?_
    rotate_left
    · intro wS hSw; (try dsimp only at hSw); go_simp; (try with_reducible rfl)
    try simp only [Act.put, List.setIfInBounds_toArray, List.set_cons_zero, List.set_cons_succ]
    refine wpAnyH_ready (rs := [1]) (by kernel_rfl) (by simp) ?_
    refine consD (d := some 30) rfl rfl (fun K hK => ?_) AllReadyH.nil
    go_simp
    (go_at_call 24; (with_reducible refine (cw2 _).mono ?_); rintro e w14 ⟨rfl, hb14⟩)
    have hM14 := loc_call hHeld.2 hb14
    refine hK.out _ _ ⟨cells7L (loc_own hM14 0 rfl).1, hM14⟩ (fun hHeld => ?_)
    clear hK K
    try simp only [Act.put, List.setIfInBounds_toArray, List.set_cons_zero, List.set_cons_succ]
    refine wpAnyH_ready (rs := [2]) (by kernel_rfl) (by simp) ?_
    refine consD (d := some 31) rfl rfl (fun K hK => ?_) AllReadyH.nil
    go_simp
    (go_at_call 22; (with_reducible refine (cr2 _).mono ?_); rintro e w15 ⟨AP29, nP29, capP29, rfl, hnP29, hcP29, hrP29, hb15⟩)
    have HNP29 := Lib.hid hnP29
    clear hnP29
    have hM15 := loc_call hM14 hb15
    refine hK.out _ _ ⟨cells7L (loc_own hM15 0 rfl).1, hM15⟩ (fun hHeld => ?_)
    clear hK K
    try simp only [Act.put, List.setIfInBounds_toArray, List.set_cons_zero, List.set_cons_succ]
    refine wpAnyH_ready (rs := [4]) (by kernel_rfl) (by simp) ?_
    refine consD (d := some 33) rfl rfl (fun K hK => ?_) AllReadyH.nil
    go_simp
    (go_at_call 24; (with_reducible refine (cw1 _).mono ?_); rintro e w16 ⟨rfl, hb16⟩)
    have hM16 := loc_call hM15 hb16
    refine hK.out _ _ ⟨cells7L (loc_own hM16 0 rfl).1, hM16⟩ (fun hHeld => ?_)
    clear hK K
    try simp only [Act.put, List.setIfInBounds_toArray, List.set_cons_zero, List.set_cons_succ]
    refine wpAnyH_ready (rs := [5]) (by kernel_rfl) (by simp) ?_
    refine consD (d := some 34) rfl rfl (fun K hK => ?_) AllReadyH.nil
    go_simp
    (go_at_call 22; (with_reducible refine (cr1 _).mono ?_); rintro e w17 ⟨AQ29, nQ29, capQ29, rfl, hnQ29, hcQ29, hrQ29, hb17⟩)
    have HNQ29 := Lib.hid hnQ29
    clear hnQ29
    have hM17 := loc_call hM16 hb17
    refine hK.out _ _ ⟨cells7L (loc_own hM17 0 rfl).1, hM17⟩ (fun hHeld => ?_)
    clear hK K
    try simp only [Act.put, List.setIfInBounds_toArray, List.set_cons_zero, List.set_cons_succ]
    refine wpAnyH_ready (rs := [6]) (by kernel_rfl) (by simp) ?_
    refine consD (d := some 35) rfl rfl (fun K hK => ?_) AllReadyH.nil
    go_simp
    (go_at_call 25; (with_reducible refine (rnot_any AQ29 nQ29 capQ29 w17.heap.size L1 w17 hrQ29 HNQ29.out.symm O1.out.1 (Nat.le_refl _) (by have h1 := O1.out.2; have h2 := HNQ29.out; omega)).mono ?_); rintro e w18 ⟨AR29, nR29, capR29, rfl, hnR29, hcR29, hrR29, hb18⟩)
    have HNR29 := Lib.hid hnR29
    clear hnR29
    have hM18 := loc_call hM17 hb18
    refine hK.out _ _ ⟨cells7L (loc_own hM18 0 rfl).1, hM18⟩ (fun hHeld => ?_)
    clear hK K
    try simp only [Act.put, List.setIfInBounds_toArray, List.set_cons_zero, List.set_cons_succ]
    refine wpAnyH_ready (rs := [7]) (by kernel_rfl) (by simp) ?_
    refine consD (d := some 36) rfl rfl (fun K hK => ?_) AllReadyH.nil
    go_simp
    have hbx : Below w15.heap.size w15 w18 := (hb16.trans (hb17.mono hb16.size)).trans (hb18.mono (hb16.trans (hb17.mono hb16.size)).size)
    have nk := notR_ok O1.out.1
    have hl1 := O2.out.2
    have hl2 := O1.out.2
    have e1 := HNP29.out
    have e2 := HNR29.out
    have ms := rsame_true AP29 AR29 nP29 nR29 capP29 capR29 w15.heap.size w18.heap.size L2 (notR L1) w18 (rds_below hrP29 hbx) hrR29 e1.symm e2.symm O2.out.1 nk.1 hbx.size (Nat.le_refl _) (by omega) (by omega) E3.out
    clear nk hl1 hl2 e1 e2 hbx
    (go_at_call 23; (with_reducible refine (ms).mono ?_); rintro e w19 ⟨rfl, hb19⟩)
    have hM19 := loc_call hM18 hb19
    clear ms
    refine hK.out _ _ ⟨cells7L (loc_own hM19 0 rfl).1, hM19⟩ (fun hHeld => ?_)
    clear hK K
    try simp only [Act.put, List.setIfInBounds_toArray, List.set_cons_zero, List.set_cons_succ]
    refine takeD (i := 8) (d := some 6) (v := ?_) rfl rfl (by kernel_rfl) (by kernel_rfl) (by kernel_rfl) (fun _ _ _ h => h) (Or.inl ⟨by rfl, ?_⟩) (by assumption) ?_
    rotate_left
    · intro wS hSw; (try dsimp only at hSw); go_simp; (try with_reducible rfl)
    try simp only [Act.put, List.setIfInBounds_toArray, List.set_cons_zero, List.set_cons_succ]
    refine wpAnyH_done (by kernel_rfl) ?_ _
    have hL := hM19
    clear d0 d1 d2 d3 d4 d5 d6
    go_wp2_with fail
    have hLd := loc_drew hL
    obtain ⟨d0, d1, d2, d3, d4, d5, d6⟩ := cells7L (loc_own hL 0 rfl).1
    refine wp_region_held_drew (S := fun W => (W.cell? ⟨w0.heap.size, 0, none⟩ = some (.int .i64 op) ∧ W.cell? ⟨w0.heap.size, 1, none⟩ = some (.int .i64 ps) ∧ W.cell? ⟨w0.heap.size, 2, none⟩ = some (.int .i64 a) ∧ W.cell? ⟨w0.heap.size, 3, none⟩ = some (.int .i64 b) ∧ W.cell? ⟨w0.heap.size, 4, none⟩ = some (.int .i64 c) ∧ W.cell? ⟨w0.heap.size, 5, none⟩ = some (.string p) ∧ W.cell? ⟨w0.heap.size, 6, none⟩ = some (.string ⟨#[]⟩)) ∧ Loc w W [(w0.heap.size, [.int .i64 op, .int .i64 ps, .int .i64 a, .int .i64 b, .int .i64 c, .string p, .string ⟨#[]⟩])]) (by kernel_rfl) ⟨⟨d0, d1, d2, d3, d4, d5, d6⟩, hLd⟩ (fun hHeld => ?_)
    refine wpAnyH_ready (rs := [0]) (by kernel_rfl) (by simp) ?_
    refine consD (d := some 37) rfl rfl (fun K hK => ?_) AllReadyH.nil
    go_simp
    (go_at_call 11; (with_reducible refine (cawake_any _ (tab_below HT.out (loc_below hHeld.2))).mono ?_); rintro e w20 ⟨rfl, hb20⟩)
    have hM20 := loc_call hHeld.2 hb20
    refine hK.out _ _ ⟨cells7L (loc_own hM20 0 rfl).1, hM20⟩ (fun hHeld => ?_)
    clear hK K
    try simp only [Act.put, List.setIfInBounds_toArray, List.set_cons_zero, List.set_cons_succ]
    refine takeD (i := 1) (d := some 38) (v := ?_) rfl rfl (by kernel_rfl) (by kernel_rfl) (by kernel_rfl) (fun _ _ _ h => h) (Or.inl ⟨by rfl, ?_⟩) (by assumption) ?_
    rotate_left
    · intro wS hSw; (try dsimp only at hSw); go_simp; (try with_reducible rfl)
    try simp only [Act.put, List.setIfInBounds_toArray, List.set_cons_zero, List.set_cons_succ]
    refine takeD (i := 2) (d := some 39) (v := ?_) rfl rfl (by kernel_rfl) (by kernel_rfl) (by kernel_rfl) (fun _ _ _ h => h) (Or.inl ⟨by rfl, ?_⟩) (by assumption) ?_
    rotate_left
    · intro wS hSw; (try dsimp only at hSw); go_simp; (try with_reducible rfl)
    try simp only [Act.put, List.setIfInBounds_toArray, List.set_cons_zero, List.set_cons_succ]
    refine takeD (i := 3) (d := some 40) (v := ?_) rfl rfl (by kernel_rfl) (by kernel_rfl) (by kernel_rfl) (fun _ _ _ h => h) (Or.inl ⟨by rfl, ?_⟩) (by assumption) ?_
    rotate_left
    · intro wS hSw; (try dsimp only at hSw); go_simp; (try with_reducible rfl)
    try simp only [Act.put, List.setIfInBounds_toArray, List.set_cons_zero, List.set_cons_succ]
    refine takeD (i := 4) (d := some 41) (v := ?_) rfl rfl (by kernel_rfl) (by kernel_rfl) (by kernel_rfl) (fun _ _ _ h => h) (Or.inl ⟨by rfl, ?_⟩) (by assumption) ?_
    rotate_left
    · intro wS hSw; (try dsimp only at hSw); go_simp; (try with_reducible rfl)
    try simp only [Act.put, List.setIfInBounds_toArray, List.set_cons_zero, List.set_cons_succ]
    refine takeD (i := 5) (d := some 42) (v := ?_) rfl rfl (by kernel_rfl) (by kernel_rfl) (by kernel_rfl) (fun _ _ _ h => h) (Or.inl ⟨by rfl, ?_⟩) (by assumption) ?_
    rotate_left
    · intro wS hSw; (try dsimp only at hSw); go_simp; (try with_reducible rfl)
    try simp only [Act.put, List.setIfInBounds_toArray, List.set_cons_zero, List.set_cons_succ]
    refine takeD (i := 6) (d := some 43) (v := ?_) rfl rfl (by kernel_rfl) (by kernel_rfl) (by kernel_rfl) (fun _ _ _ h => h) (Or.inl ⟨by rfl, ?_⟩) (by assumption) ?_
    rotate_left
    · intro wS hSw; (try dsimp only at hSw); go_simp; (try with_reducible rfl)
    try simp only [Act.put, List.setIfInBounds_toArray, List.set_cons_zero, List.set_cons_succ]
    refine takeD (i := 7) (d := some 44) (v := ?_) rfl rfl (by kernel_rfl) (by kernel_rfl) (by kernel_rfl) (fun _ _ _ h => h) (Or.inl ⟨by rfl, ?_⟩) (by assumption) ?_
    rotate_left
    · intro wS hSw; (try dsimp only at hSw); go_simp; (try with_reducible rfl)
    try simp only [Act.put, List.setIfInBounds_toArray, List.set_cons_zero, List.set_cons_succ]
    refine takeD (i := 8) (d := some 45) (v := ?_) rfl rfl (by kernel_rfl) (by kernel_rfl) (by kernel_rfl) (fun _ _ _ h => h) (Or.inl ⟨by rfl, ?_⟩) (by assumption) ?_
    rotate_left
    · intro wS hSw; (try dsimp only at hSw); go_simp; (try with_reducible rfl)
    try simp only [Act.put, List.setIfInBounds_toArray, List.set_cons_zero, List.set_cons_succ]
    refine takeD (i := 9) (d := some 46) (v := ?_) rfl rfl (by kernel_rfl) (by kernel_rfl) (by kernel_rfl) (fun _ _ _ h => h) (Or.inl ⟨by rfl, ?_⟩) (by assumption) ?_
    rotate_left
    · intro wS hSw; (try dsimp only at hSw); go_simp; (try with_reducible rfl)
    try simp only [Act.put, List.setIfInBounds_toArray, List.set_cons_zero, List.set_cons_succ]
    refine takeD (i := 10) (d := some 47) (v := ?_) rfl rfl (by kernel_rfl) (by kernel_rfl) (by kernel_rfl) (fun _ _ _ h => h) (Or.inl ⟨by rfl, ?_⟩) (by assumption) ?_
    rotate_left
    · intro wS hSw; (try dsimp only at hSw); go_simp; (try with_reducible rfl)
    try simp only [Act.put, List.setIfInBounds_toArray, List.set_cons_zero, List.set_cons_succ]
    refine takeD (i := 11) (d := some 48) (v := ?_) rfl rfl (by kernel_rfl) (by kernel_rfl) (by kernel_rfl) (fun _ _ _ h => h) (Or.inl ⟨by rfl, ?_⟩) (by assumption) ?_
    rotate_left
    · intro wS hSw; (try dsimp only at hSw); go_simp; (try with_reducible rfl)
    try simp only [Act.put, List.setIfInBounds_toArray, List.set_cons_zero, List.set_cons_succ]
    refine takeD (i := 14) (d := some 51) (v := ?_) rfl rfl (by kernel_rfl) (by kernel_rfl) (by kernel_rfl) (fun _ _ _ h => h) (Or.inl ⟨by rfl, ?_⟩) (by assumption) ?_
    rotate_left
    · intro wS hSw; (try dsimp only at hSw); go_simp; (try with_reducible rfl)
    try simp only [Act.put, List.setIfInBounds_toArray, List.set_cons_zero, List.set_cons_succ]
    refine takeD (i := 17) (d := some 54) (v := ?_) rfl rfl (by kernel_rfl) (by kernel_rfl) (by kernel_rfl) (fun _ _ _ h => h) (Or.inl ⟨by rfl, ?_⟩) (by assumption) ?_
    rotate_left
    · intro wS hSw; (try dsimp only at hSw); go_simp; (try with_reducible rfl)
    try simp only [Act.put, List.setIfInBounds_toArray, List.set_cons_zero, List.set_cons_succ]
    refine wpAnyH_ready (rs := [12]) (by kernel_rfl) (by simp) ?_
    refine consD (d := some 49) rfl rfl (fun K hK => ?_) AllReadyH.nil
    go_simp
    (go_at_call 24; (with_reducible refine (cw1 _).mono ?_); rintro e w21 ⟨rfl, hb21⟩)
    have hM21 := loc_call hM20 hb21
    refine hK.out _ _ ⟨cells7L (loc_own hM21 0 rfl).1, hM21⟩ (fun hHeld => ?_)
    clear hK K
    try simp only [Act.put, List.setIfInBounds_toArray, List.set_cons_zero, List.set_cons_succ]
    refine wpAnyH_ready (rs := [13]) (by kernel_rfl) (by simp) ?_
    refine consD (d := some 50) rfl rfl (fun K hK => ?_) AllReadyH.nil
    go_simp
    (go_at_call 22; (with_reducible refine (cr1 _).mono ?_); rintro e w22 ⟨AX, nX, capX, rfl, hnX, hcX, hrX, hb22⟩)
    have HNX := Lib.hid hnX
    clear hnX
    have hM22 := loc_call hM21 hb22
    refine hK.out _ _ ⟨cells7L (loc_own hM22 0 rfl).1, hM22⟩ (fun hHeld => ?_)
    clear hK K
    try simp only [Act.put, List.setIfInBounds_toArray, List.set_cons_zero, List.set_cons_succ]
    refine wpAnyH_ready (rs := [15]) (by kernel_rfl) (by simp) ?_
    refine consD (d := some 52) rfl rfl (fun K hK => ?_) AllReadyH.nil
    go_simp
    (go_at_call 24; (with_reducible refine (cw6 _).mono ?_); rintro e w23 ⟨rfl, hb23⟩)
    have hM23 := loc_call hM22 hb23
    refine hK.out _ _ ⟨cells7L (loc_own hM23 0 rfl).1, hM23⟩ (fun hHeld => ?_)
    clear hK K
    try simp only [Act.put, List.setIfInBounds_toArray, List.set_cons_zero, List.set_cons_succ]
    refine wpAnyH_ready (rs := [16]) (by kernel_rfl) (by simp) ?_
    refine consD (d := some 53) rfl rfl (fun K hK => ?_) AllReadyH.nil
    go_simp
    (go_at_call 22; (with_reducible refine (cr6 _).mono ?_); rintro e w24 ⟨AY, nY, capY, rfl, hnY, hcY, hrY, hb24⟩)
    have HNY := Lib.hid hnY
    clear hnY
    have hM24 := loc_call hM23 hb24
    refine hK.out _ _ ⟨cells7L (loc_own hM24 0 rfl).1, hM24⟩ (fun hHeld => ?_)
    clear hK K
    try simp only [Act.put, List.setIfInBounds_toArray, List.set_cons_zero, List.set_cons_succ]
    refine wpAnyH_ready (rs := [18]) (by kernel_rfl) (by simp) ?_
    refine consD (d := some 55) rfl rfl (fun K hK => ?_) AllReadyH.nil
    go_simp
    (go_at_call 24; (with_reducible refine (cw4 _).mono ?_); rintro e w25 ⟨rfl, hb25⟩)
    have hM25 := loc_call hM24 hb25
    refine hK.out _ _ ⟨cells7L (loc_own hM25 0 rfl).1, hM25⟩ (fun hHeld => ?_)
    clear hK K
    try simp only [Act.put, List.setIfInBounds_toArray, List.set_cons_zero, List.set_cons_succ]
    refine wpAnyH_ready (rs := [19]) (by kernel_rfl) (by simp) ?_
    refine consD (d := some 56) rfl rfl (fun K hK => ?_) AllReadyH.nil
    go_simp
    (go_at_call 22; (with_reducible refine (cr4 _).mono ?_); rintro e w26 ⟨AZ, nZ, capZ, rfl, hnZ, hcZ, hrZ, hb26⟩)
    have HNZ := Lib.hid hnZ
    clear hnZ
    have hM26 := loc_call hM25 hb26
    refine hK.out _ _ ⟨cells7L (loc_own hM26 0 rfl).1, hM26⟩ (fun hHeld => ?_)
    clear hK K
    try simp only [Act.put, List.setIfInBounds_toArray, List.set_cons_zero, List.set_cons_succ]
    refine wpAnyH_ready (rs := [20]) (by kernel_rfl) (by simp) ?_
    refine consD (d := some 57) rfl rfl (fun K hK => ?_) AllReadyH.nil
    go_simp
    have hby : Below w24.heap.size w24 w26 := hb25.trans (hb26.mono hb25.size)
    have hl1 := O6.out.2
    have hl2 := O4.out.2
    have e1 := HNY.out
    have e2 := HNZ.out
    have ma := rand_any AY AZ nY nZ capY capZ w26.heap.size L6 L4 w26 (rds_more (rds_below hrY hby) hby.size) hrZ e1.symm e2.symm O6.out.1 O4.out.1 (Nat.le_refl _) (by omega)
    clear hl1 hl2 e1 e2
    (go_at_call 26; (with_reducible refine (ma).mono ?_); rintro e w27 ⟨AV, nV, capV, rfl, hnV, hcV, hrV, hb27⟩)
    have HNV := Lib.hid hnV
    clear hnV
    have hM27 := loc_call hM26 hb27
    clear ma
    refine hK.out _ _ ⟨cells7L (loc_own hM27 0 rfl).1, hM27⟩ (fun hHeld => ?_)
    clear hK K
    try simp only [Act.put, List.setIfInBounds_toArray, List.set_cons_zero, List.set_cons_succ]
    refine wpAnyH_ready (rs := [21]) (by kernel_rfl) (by simp) ?_
    refine consD (d := some 58) rfl rfl (fun K hK => ?_) AllReadyH.nil
    go_simp
    have hbz : Below w22.heap.size w22 w24 := hb23.trans (hb24.mono hb23.size)
    have hbz := hbz.trans (hby.mono hbz.size)
    have hbz := hbz.trans (hb27.mono hbz.size)
    have nk := andR_ok O6.out.1 O4.out.1
    have hl1 := O1.out.2
    have hl6 := O6.out.2
    have hl4 := O4.out.2
    have e1 := HNX.out
    have e2 := HNV.out
    have ms := rsame_true AX AV nX nV capX capV w22.heap.size w27.heap.size L1 (andR L6 L4) w27 (rds_below hrX hbz) hrV e1.symm e2.symm O1.out.1 nk.1 hbz.size (Nat.le_refl _) (by omega) (by omega) E4.out
    clear nk hl1 hl6 hl4 e1 e2 hbz hby
    (go_at_call 23; (with_reducible refine (ms).mono ?_); rintro e w28 ⟨rfl, hb28⟩)
    have hM28 := loc_call hM27 hb28
    clear ms
    refine hK.out _ _ ⟨cells7L (loc_own hM28 0 rfl).1, hM28⟩ (fun hHeld => ?_)
    clear hK K
    try simp only [Act.put, List.setIfInBounds_toArray, List.set_cons_zero, List.set_cons_succ]
    refine takeD (i := 22) (d := some 59) (v := ?_) rfl rfl (by kernel_rfl) (by kernel_rfl) (by kernel_rfl) (fun _ _ _ h => h) (Or.inl ⟨by rfl, ?_⟩) (by assumption) ?_
    rotate_left
    · intro wS hSw; (try dsimp only at hSw); go_simp; (try with_reducible rfl)
    try simp only [Act.put, List.setIfInBounds_toArray, List.set_cons_zero, List.set_cons_succ]
    refine takeD (i := 23) (d := some 2) (v := ?_) rfl rfl (by kernel_rfl) (by kernel_rfl) (by kernel_rfl) (fun _ _ _ h => h) (Or.inl ⟨by rfl, ?_⟩) (by assumption) ?_
    rotate_left
    · intro wS hSw; (try dsimp only at hSw); go_simp; (try with_reducible rfl)
    try simp only [Act.put, List.setIfInBounds_toArray, List.set_cons_zero, List.set_cons_succ]
    refine wpAnyH_done (by kernel_rfl) ?_ _
    have hL := hM28
    clear d0 d1 d2 d3 d4 d5 d6
    go_wp2_with fail
    go_ret
    exact ⟨rfl, loc_below hL⟩

set_option maxRecDepth 100000 in
theorem lifted (os : Os) (started : os.Started) (H : Type) (enc : TypeId × Value → H) :
    ReturnsInHanded {} Tryd.checked os 6 .any (fun w args => (Rows.compPairsSpec.pre enc Tryd.prog Tryd.f6 [] false w args ∧ laidMetH Tryd.prog Rows.compPairsRow.laid w) ∧ sizedMet enc Tryd.prog Tryd.f6 (OpenSpec.ofChange Rows.compPairsSpec) false w args) (Rows.compPairsSpec.post enc Tryd.prog Tryd.f6 false true false false) := by
  refine returnsInHanded_of_change_and (C := Tryd.checked) (X := fun w _ => laidMetH Tryd.prog Rows.compPairsRow.laid w) (fun _ _ _ hh h => h.of_heap hh) own started (by kernel_rfl) Tryd.func6
    (ChangeSpec.witness_shaped (enc := enc) (C := Tryd.checked) (os := os) (X := fun w _ => laidMetH Tryd.prog Rows.compPairsRow.laid w) false (World.doorLaid Tryd.prog 400 os) #[.slice none 0 0] 8 rfl (World.shaped_of_RefB (by kernel_rfl) (by kernel_rfl)) (by kernel_rfl) (by kernel_rfl) (by kernel_rfl)
      (laidMetH_of_parts3 (fuel := 8) (laidMet_of_run' 8 (by kernel_rfl) (by kernel_rfl)) (by kernel_rfl) (by kernel_rfl))) ?_
  intro W base args ds gs before hval0 hW _ _ hL _
  have hval : ∀ (j : Nat) t v, Tryd.f6.params[j]? = some t → args[j]? = some v → Value.okWide Tryd.prog W .any base t v := hval0
  have hW' := hW
  obtain ⟨p, q, hA0, hV, rfl, hfz, hnd⟩ := hW
  have hA : DataW.TrodAll enc Tryd.prog W 0 (fun _ => true) true Tryd.f6.params.toList args.toList ds p := hA0
  rw [Tryd.params6] at hA hval
  obtain ⟨v0, vs0, d0, ds0, p0, q0, hargs, rfl, rfl, h0, r0⟩ := trodAll_cons hA
  obtain ⟨rfl, rfl, rfl⟩ := trodAll_nil r0
  obtain rfl : args = #[v0] := by cases args; simp_all
  obtain ⟨rfl, rfl⟩ := trodVars_none hV
  obtain ⟨a0, len0, cap0, rfl⟩ := okWide_slice Tryd.underlying33 (hval 0 33 v0 rfl rfl)
  have k0 := h0
  have lt0 : ∀ x ∈ p0, x.block < W.heap.size := by obtain ⟨m, hm⟩ := k0; exact DataW.trod_lt m _ _ _ hm
  obtain ⟨z0, w0⟩ : ∃ zs, IsRow .i64 W a0 len0 cap0 zs := by
    obtain ⟨fuel, hf⟩ := h0
    rcases open_ints Tryd.underlying33 Tryd.underlying3 (by kernel_rfl) hf with ⟨hcs, _⟩ | ⟨x, l, c, zs, hcs, _, hl, hm, hz, _, hcell, hwz⟩
    · simp [Value.cells] at hcs
      obtain ⟨rfl, rfl, rfl⟩ := hcs
      exact ⟨[], .inl ⟨rfl, rfl, rfl, rfl⟩⟩
    · simp [Value.cells] at hcs
      obtain ⟨rfl, rfl, rfl⟩ := hcs
      exact ⟨zs, .inr ⟨_, rfl, hl, hm, by simpa using hz, hcell, hwz⟩⟩
  clear hA0 hval0
  refine (walk a0 len0 cap0 z0 W w0 (tab_of hL (by kernel_rfl) (MakeChecks.laidMetH_plain _ _ _ (by kernel_rfl)))).mono fun e W' ⟨he, bel⟩ => ?_
  subst he
  exact ⟨_, rfl, _, _, _, [], _, [], hW', trodAll_mk1 (shut_bool Tryd.underlying4 _), (trodAll_cons_mk (Below.trod laidOut (by kernel_rfl) (of_decide_eq_true (by kernel_rfl)) k0 bel lt0) trodAll_mk0), rfl, bel.frame _, fun h => by cases h⟩

theorem over : Rows.compPairsRow.holds Tryd.pinned (OpenSpec.ofChange Rows.compPairsSpec) :=
  OpenClaim.holds_of_wide 6 Tryd.f6 rfl rfl rfl rfl rfl rfl rfl ⟨rfl, rfl, rfl, rfl, rfl⟩ rfl rfl rfl rfl rfl (by kernel_rfl) Tryd.func6 (by kernel_rfl)
    (of_decide_eq_true (by kernel_rfl)) (by unfold Func.isWrapper; first | (rw [if_pos (by decide +kernel)]; kernel_rfl) | (rw [if_neg (by decide +kernel)]; exact ⟨rfl, rfl⟩))
    (fun os started H enc _ => lifted os started H enc)

theorem proved : Rows.CompPairsSaid := over
theorem plain (f : FuncId) (fn : Func) (hf : Tryd.pinned.checked.prog.funcNamed "linchpin/linchpinlaw6.CompPairs" = some f) (hfn : Tryd.pinned.checked.prog.funcs[f]? = some fn) :
    false = Tryd.pinned.checked.prog.looks [] ∧ ∀ (j : Nat) t, fn.params[j]? = some t → Tryd.pinned.checked.prog.wantsStandIn t = false := by
  obtain rfl : f = 6 := Option.some.inj ((show Tryd.prog.funcNamed "linchpin/linchpinlaw6.CompPairs" = some 6 by kernel_rfl).symm.trans hf) |>.symm
  obtain rfl : fn = Tryd.f6 := (Option.some.inj (Tryd.func6.symm.trans hfn)).symm
  refine ⟨by kernel_rfl, fun j t ht => ?_⟩
  rw [Tryd.params6] at ht
  have hm : t ∈ [33] := by simpa using Array.mem_of_getElem? ht
  have hall : ([33].all fun u => !Tryd.prog.wantsStandIn u) = true := by kernel_rfl
  exact (show Tryd.prog.wantsStandIn t = false by simpa using List.all_eq_true.1 hall t hm)

theorem card : Rows.CompPairsCardSaid :=
  Claim7.holds_tied_plain_at .later [] _ _ _ _ proved (fun _ h => by cases h) (by kernel_rfl) (fun _ h => by cases h) compPairs_row_tie rfl ⟨rfl, rfl⟩ (by kernel_rfl) rfl plain (by kernel_rfl)
#print axioms card
end Go.Proofs.YthaagngoefieaaaDoor.compPairs
