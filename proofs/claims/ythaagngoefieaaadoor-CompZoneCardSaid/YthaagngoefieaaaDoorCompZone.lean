/-
  CompZone: Zone of a comparator with a Pre contains exactly the versions with a Pre and the same three numbers; otherwise it is empty. Conditions: strconv's and math/bits' tables start as the program's text lays them (the card ties them).
-/
import Derived.Test.YthaagngoefieaaaDoorRows
import Derived.Test.YthaagngoefieaaaDoorCLawA
import Derived.Test.YthaagngoefieaaaDoorCFam
import Derived.Test.YthaagngoefieaaaDoorCSayW
import Derived.Test.YthaagngoefieaaaDoorCParse
import Derived.Test.YthaagngoefieaaaDoorG5
import Derived.Test.YthaagngoefieaaaDoorCards
import Derived.Test.YthaagngoefieaaaDoorTie
import Derived.Test.YthaagngoefieaaaDoorTab
import Derived.LaidMore
import Derived.MakeChecks
import Derived.SevenTiedAt
import Derived.Stop.Joined
import Derived.WalkKit
import Derived.ProofKit
import Derived.OpenShut
import Derived.ShutString
import Derived.ChangeOld
import Derived.Below
namespace Go.Proofs.YthaagngoefieaaaDoor.compZone
open Go.ChangeShapes Go.WideShapes Go.ChangeAt Go.RowKit
open Go.ChangeMaps (open_string shut_string)
set_option linter.unusedVariables false

theorem own : ownKnob Tryd.prog.godebug = none := by kernel_rfl
theorem laidOut : laidOutB Tryd.prog = true := by kernel_rfl

def IsRow (k : IntKind) (w : World) (a : Option Addr) (len cap : Nat) (zs : List Int) : Prop :=
  (a = none ∧ len = 0 ∧ cap = 0 ∧ zs = []) ∨
  ∃ x, a = some x ∧ len ≤ cap ∧ cap ≤ maxLen ∧ zs.length = cap ∧ (∀ i, i < zs.length → w.cell? (x.add i) = some (.int k (zs.getD i 0))) ∧ ∀ n ∈ zs, (Lit.int k n).wf = true

set_option maxHeartbeats 8000000 in
set_option maxRecDepth 100000 in
theorem walk (a0 : Option Addr) (len0 cap0 : Nat) (z0 : List Int) (w : World) (w0 : IsRow .i64 w a0 len0 cap0 z0) (hT : Tab w) :
    Calls Tryd.prog 10 #[.slice a0 len0 cap0] w fun e w' => e = .returned (.bool true) ∧ Below w.heap.size w w' := by
  have HT := Lib.hid hT
  clear hT
  obtain ⟨hrd, hml, hwf, hlen⟩ := row_rd w0
  generalize z0.take len0 = l at *
  subst hlen
  clear w0
  obtain ⟨op, ps, a, b, c, p, r, hm, hf, hp8, ck⟩ := comp_fam a0 cap0 w.heap.size l 0 hml hwf (by omega) (by omega)
  obtain ⟨m0, m1, m2, m3, m4, s, fv, s3, s4, cv⟩ := ver_fam a0 cap0 w.heap.size l 7 hml hwf (by omega) (by omega)
  have HRD := Lib.hid hrd
  clear hrd hwf
  have HE := Lib.hid (zone_has hm hf fv)
  have cz := fun W => zone_any op ps a b c p ⟨#[]⟩ W (by omega) (by decide)
  have cb := fun W => lbegins_any op ps a b c p ⟨#[]⟩ m0 m1 m2 m3 m4 3 W
  have ok := zone_ok (c := cmpS op ps a b c p ⟨#[]⟩)
  have ch := fun A n cap W h hn => rhas_any A n cap W.heap.size (zoneC (cmpS op ps a b c p ⟨#[]⟩)) m0 m1 m2 m3 m4 W h hn ok.1 (Nat.le_refl _) (by have := ok.2; omega) (by omega) (by omega)
  rw [HE.out] at ch
  generalize zoneC (cmpS op ps a b c p ⟨#[]⟩) = RL at *
  clear HE ok hm hf fv hp8 s3 s4
  by_cases hp : p.size = 0
  · have g1 := empty_str p hp
    rw [show (!decide ((cmpS op ps a b c p ⟨#[]⟩).v.pre = []) && !decide ((verS m0 m1 m2 m3 m4).pre = []) && beginsC (cmpS op ps a b c p ⟨#[]⟩) (verS m0 m1 m2 m3 m4) 3) = false by rw [decide_eq_true (show (cmpS op ps a b c p ⟨#[]⟩).v.pre = [] from size_nil hp)]; rfl] at ch
    clear hp cb
    unfold cvV at *
    go_enter Tryd.func10, Tryd.ntmps10
    go_wp2_with fail
    refine (ck _ HRD.out (Nat.le_refl _)).mono ?_
    rintro e w0 ⟨rfl, hb⟩
    have hB := hb
    clear hb
    go_wp2_with fail
    refine (cv _ (rd_below HRD.out hB) hB.size).mono ?_
    rintro e w1 ⟨rfl, hb⟩
    have hB := hB.trans (hb.mono hB.size)
    clear hb
    have hL : Loc w w1 [] := ⟨hB, List.Pairwise.nil, fun x hx => absurd hx (by simp)⟩
    clear hB
    have hL := loc_new (loc_new hL w1.heap.size [.int .i64 op, .int .i64 ps, .int .i64 a, .int .i64 b, .int .i64 c, .string p, .string ⟨#[]⟩] 26) (w1.heap.size + 1) [.int .i64 m0, .int .i64 m1, .int .i64 m2, .string m3, .string m4] 24
    obtain ⟨d0, d1, d2, d3, d4, d5, d6⟩ := cells7L (loc_own hL 0 rfl).1
    obtain ⟨e0, e1, e2, e3, e4⟩ := cells5L (loc_own hL 1 rfl).1
    go_wp2_with fail
    have hLd := loc_drew hL
    refine wp_region_held_drew (S := fun W => (W.cell? ⟨w1.heap.size, 0, none⟩ = some (.int .i64 op) ∧ W.cell? ⟨w1.heap.size, 1, none⟩ = some (.int .i64 ps) ∧ W.cell? ⟨w1.heap.size, 2, none⟩ = some (.int .i64 a) ∧ W.cell? ⟨w1.heap.size, 3, none⟩ = some (.int .i64 b) ∧ W.cell? ⟨w1.heap.size, 4, none⟩ = some (.int .i64 c) ∧ W.cell? ⟨w1.heap.size, 5, none⟩ = some (.string p) ∧ W.cell? ⟨w1.heap.size, 6, none⟩ = some (.string ⟨#[]⟩)) ∧ (W.cell? ⟨w1.heap.size + 1, 0, none⟩ = some (.int .i64 m0) ∧ W.cell? ⟨w1.heap.size + 1, 1, none⟩ = some (.int .i64 m1) ∧ W.cell? ⟨w1.heap.size + 1, 2, none⟩ = some (.int .i64 m2) ∧ W.cell? ⟨w1.heap.size + 1, 3, none⟩ = some (.string m3) ∧ W.cell? ⟨w1.heap.size + 1, 4, none⟩ = some (.string m4)) ∧ Loc w W [(w1.heap.size, [.int .i64 op, .int .i64 ps, .int .i64 a, .int .i64 b, .int .i64 c, .string p, .string ⟨#[]⟩]), (w1.heap.size + 1, [.int .i64 m0, .int .i64 m1, .int .i64 m2, .string m3, .string m4])]) (by kernel_rfl) ⟨cells7L (loc_own hLd 0 rfl).1, cells5L (loc_own hLd 1 rfl).1, hLd⟩ (fun hHeld => ?_)
    refine wpAnyH_ready (rs := [0]) (by kernel_rfl) (by simp) ?_
    refine consD (d := some 24) rfl rfl (fun K hK => ?_) AllReadyH.nil
    go_simp
    (go_at_call 11; (with_reducible refine (cawake_any _ (tab_below HT.out (loc_below hHeld.2.2))).mono ?_); rintro e w4 ⟨rfl, hb4⟩)
    have hM := loc_call hHeld.2.2 hb4
    refine hK.out _ _ ⟨cells7L (loc_own hM 0 rfl).1, cells5L (loc_own hM 1 rfl).1, hM⟩ (fun hHeld => ?_)
    clear hK K
    try simp only [Act.put, List.setIfInBounds_toArray, List.set_cons_zero, List.set_cons_succ]
    refine takeD (i := 1) (d := some 25) (v := ?_) rfl rfl (by kernel_rfl) (by kernel_rfl) (by kernel_rfl) (fun _ _ _ h => h) (Or.inl ⟨by rfl, ?_⟩) (by assumption) ?_
    rotate_left
    · intro wS hSw; (try dsimp only at hSw); go_simp; (try with_reducible rfl)
    try simp only [Act.put, List.setIfInBounds_toArray, List.set_cons_zero, List.set_cons_succ]
    refine takeD (i := 2) (d := some 26) (v := ?_) rfl rfl (by kernel_rfl) (by kernel_rfl) (by kernel_rfl) (fun _ _ _ h => h) (Or.inl ⟨by rfl, ?_⟩) (by assumption) ?_
    rotate_left
    · intro wS hSw; (try dsimp only at hSw); go_simp; (try with_reducible rfl)
    try simp only [Act.put, List.setIfInBounds_toArray, List.set_cons_zero, List.set_cons_succ]
    refine takeD (i := 4) (d := some 28) (v := ?_) rfl rfl (by kernel_rfl) (by kernel_rfl) (by kernel_rfl) (fun _ _ _ h => h) (Or.inl ⟨by rfl, ?_⟩) (by assumption) ?_
    rotate_left
    · intro wS hSw; (try dsimp only at hSw); go_simp; (try with_reducible rfl)
    try simp only [Act.put, List.setIfInBounds_toArray, List.set_cons_zero, List.set_cons_succ]
    refine takeD (i := 6) (d := some 30) (v := ?_) rfl rfl (by kernel_rfl) (by kernel_rfl) (by kernel_rfl) (fun _ _ _ h => h) (Or.inl ⟨by rfl, ?_⟩) (by assumption) ?_
    rotate_left
    · intro wS hSw; (try dsimp only at hSw); go_simp; (try with_reducible rfl)
    try simp only [Act.put, List.setIfInBounds_toArray, List.set_cons_zero, List.set_cons_succ]
    refine wpAnyH_ready (rs := [3]) (by kernel_rfl) (by simp) ?_
    refine consD (d := some 27) rfl rfl (fun K hK => ?_) AllReadyH.nil
    go_simp
    (go_at_call 29; (with_reducible refine (cz _).mono ?_); rintro e w4 ⟨A, n, cap, rfl, hn, hcap, hrd, hb4⟩)
    subst hn
    have hM := loc_call hHeld.2.2 hb4
    refine hK.out _ _ ⟨cells7L (loc_own hM 0 rfl).1, cells5L (loc_own hM 1 rfl).1, hM⟩ (fun hHeld => ?_)
    clear hK K
    try simp only [Act.put, List.setIfInBounds_toArray, List.set_cons_zero, List.set_cons_succ]
    refine wpAnyH_ready (rs := [5]) (by kernel_rfl) (by simp) ?_
    refine consD (d := some 29) rfl rfl (fun K hK => ?_) AllReadyH.nil
    go_simp
    (go_at_call 21; (with_reducible refine (ch A RL.length cap _ hrd rfl).mono ?_); rintro e w4 ⟨rfl, hb4⟩)
    have hM := loc_call hHeld.2.2 hb4
    refine hK.out _ _ ⟨cells7L (loc_own hM 0 rfl).1, cells5L (loc_own hM 1 rfl).1, hM⟩ (fun hHeld => ?_)
    clear hK K
    try simp only [Act.put, List.setIfInBounds_toArray, List.set_cons_zero, List.set_cons_succ]
    refine takeD (i := 7) (d := some 31) (v := ?_) rfl rfl (by kernel_rfl) (by kernel_rfl) (by kernel_rfl) (fun _ _ _ h => h) (Or.inl ⟨by rfl, ?_⟩) (by assumption) ?_
    rotate_left
    · intro wS hSw; (try dsimp only at hSw); go_simp; (try with_reducible rfl)
    try simp only [Act.put, List.setIfInBounds_toArray, List.set_cons_zero, List.set_cons_succ]
    refine takeD (i := 8) (d := some 32) (v := ?_) rfl rfl (by kernel_rfl) (by kernel_rfl) (by kernel_rfl) (fun _ _ _ h => h) (Or.inl ⟨by rfl, ?_⟩) (by assumption) ?_
    rotate_left
    · intro wS hSw; (try dsimp only at hSw); go_simp; (try with_reducible rfl)
    try simp only [Act.put, List.setIfInBounds_toArray, List.set_cons_zero, List.set_cons_succ]
    refine takeD (i := 9) (d := some 2) (v := ?_) rfl rfl (by kernel_rfl) (by kernel_rfl) (by kernel_rfl) (fun _ _ _ h => h) (Or.inl ⟨by rfl, ?_⟩) (by assumption) ?_
    rotate_left
    · intro wS hSw; (try dsimp only at hSw); go_simp; (try with_reducible rfl)
    try simp only [Act.put, List.setIfInBounds_toArray, List.set_cons_zero, List.set_cons_succ]
    refine wpAnyH_done (by kernel_rfl) ?_ _
    go_wp2_with fail
    go_ret
    exact ⟨rfl, loc_below hHeld.2.2⟩
  have g1 := (empty_no (s := p) (by omega)).1
  have g2 := (empty_no (s := p) (by omega)).2
  by_cases hv : m3.size = 0
  · have g3 := empty_str m3 hv
    rw [show (!decide ((cmpS op ps a b c p ⟨#[]⟩).v.pre = []) && !decide ((verS m0 m1 m2 m3 m4).pre = []) && beginsC (cmpS op ps a b c p ⟨#[]⟩) (verS m0 m1 m2 m3 m4) 3) = false by rw [decide_eq_true (show (verS m0 m1 m2 m3 m4).pre = [] from size_nil hv)]; simp] at ch
    clear hp hv cb
    unfold cvV at *
    go_enter Tryd.func10, Tryd.ntmps10
    go_wp2_with fail
    refine (ck _ HRD.out (Nat.le_refl _)).mono ?_
    rintro e w0 ⟨rfl, hb⟩
    have hB := hb
    clear hb
    go_wp2_with fail
    refine (cv _ (rd_below HRD.out hB) hB.size).mono ?_
    rintro e w1 ⟨rfl, hb⟩
    have hB := hB.trans (hb.mono hB.size)
    clear hb
    have hL : Loc w w1 [] := ⟨hB, List.Pairwise.nil, fun x hx => absurd hx (by simp)⟩
    clear hB
    have hL := loc_new (loc_new hL w1.heap.size [.int .i64 op, .int .i64 ps, .int .i64 a, .int .i64 b, .int .i64 c, .string p, .string ⟨#[]⟩] 26) (w1.heap.size + 1) [.int .i64 m0, .int .i64 m1, .int .i64 m2, .string m3, .string m4] 24
    obtain ⟨d0, d1, d2, d3, d4, d5, d6⟩ := cells7L (loc_own hL 0 rfl).1
    obtain ⟨e0, e1, e2, e3, e4⟩ := cells5L (loc_own hL 1 rfl).1
    go_wp2_with fail
    have hLd := loc_drew hL
    refine wp_region_held_drew (S := fun W => (W.cell? ⟨w1.heap.size, 0, none⟩ = some (.int .i64 op) ∧ W.cell? ⟨w1.heap.size, 1, none⟩ = some (.int .i64 ps) ∧ W.cell? ⟨w1.heap.size, 2, none⟩ = some (.int .i64 a) ∧ W.cell? ⟨w1.heap.size, 3, none⟩ = some (.int .i64 b) ∧ W.cell? ⟨w1.heap.size, 4, none⟩ = some (.int .i64 c) ∧ W.cell? ⟨w1.heap.size, 5, none⟩ = some (.string p) ∧ W.cell? ⟨w1.heap.size, 6, none⟩ = some (.string ⟨#[]⟩)) ∧ (W.cell? ⟨w1.heap.size + 1, 0, none⟩ = some (.int .i64 m0) ∧ W.cell? ⟨w1.heap.size + 1, 1, none⟩ = some (.int .i64 m1) ∧ W.cell? ⟨w1.heap.size + 1, 2, none⟩ = some (.int .i64 m2) ∧ W.cell? ⟨w1.heap.size + 1, 3, none⟩ = some (.string m3) ∧ W.cell? ⟨w1.heap.size + 1, 4, none⟩ = some (.string m4)) ∧ Loc w W [(w1.heap.size, [.int .i64 op, .int .i64 ps, .int .i64 a, .int .i64 b, .int .i64 c, .string p, .string ⟨#[]⟩]), (w1.heap.size + 1, [.int .i64 m0, .int .i64 m1, .int .i64 m2, .string m3, .string m4])]) (by kernel_rfl) ⟨cells7L (loc_own hLd 0 rfl).1, cells5L (loc_own hLd 1 rfl).1, hLd⟩ (fun hHeld => ?_)
    refine wpAnyH_ready (rs := [0]) (by kernel_rfl) (by simp) ?_
    refine consD (d := some 24) rfl rfl (fun K hK => ?_) AllReadyH.nil
    go_simp
    (go_at_call 11; (with_reducible refine (cawake_any _ (tab_below HT.out (loc_below hHeld.2.2))).mono ?_); rintro e w4 ⟨rfl, hb4⟩)
    have hM := loc_call hHeld.2.2 hb4
    refine hK.out _ _ ⟨cells7L (loc_own hM 0 rfl).1, cells5L (loc_own hM 1 rfl).1, hM⟩ (fun hHeld => ?_)
    clear hK K
    try simp only [Act.put, List.setIfInBounds_toArray, List.set_cons_zero, List.set_cons_succ]
    refine takeD (i := 1) (d := some 25) (v := ?_) rfl rfl (by kernel_rfl) (by kernel_rfl) (by kernel_rfl) (fun _ _ _ h => h) (Or.inl ⟨by rfl, ?_⟩) (by assumption) ?_
    rotate_left
    · intro wS hSw; (try dsimp only at hSw); go_simp; (try with_reducible rfl)
    try simp only [Act.put, List.setIfInBounds_toArray, List.set_cons_zero, List.set_cons_succ]
    refine takeD (i := 2) (d := some 26) (v := ?_) rfl rfl (by kernel_rfl) (by kernel_rfl) (by kernel_rfl) (fun _ _ _ h => h) (Or.inl ⟨by rfl, ?_⟩) (by assumption) ?_
    rotate_left
    · intro wS hSw; (try dsimp only at hSw); go_simp; (try with_reducible rfl)
    try simp only [Act.put, List.setIfInBounds_toArray, List.set_cons_zero, List.set_cons_succ]
    refine takeD (i := 4) (d := some 28) (v := ?_) rfl rfl (by kernel_rfl) (by kernel_rfl) (by kernel_rfl) (fun _ _ _ h => h) (Or.inl ⟨by rfl, ?_⟩) (by assumption) ?_
    rotate_left
    · intro wS hSw; (try dsimp only at hSw); go_simp; (try with_reducible rfl)
    try simp only [Act.put, List.setIfInBounds_toArray, List.set_cons_zero, List.set_cons_succ]
    refine takeD (i := 6) (d := some 30) (v := ?_) rfl rfl (by kernel_rfl) (by kernel_rfl) (by kernel_rfl) (fun _ _ _ h => h) (Or.inl ⟨by rfl, ?_⟩) (by assumption) ?_
    rotate_left
    · intro wS hSw; (try dsimp only at hSw); go_simp; (try with_reducible rfl)
    try simp only [Act.put, List.setIfInBounds_toArray, List.set_cons_zero, List.set_cons_succ]
    refine wpAnyH_ready (rs := [3]) (by kernel_rfl) (by simp) ?_
    refine consD (d := some 27) rfl rfl (fun K hK => ?_) AllReadyH.nil
    go_simp
    (go_at_call 29; (with_reducible refine (cz _).mono ?_); rintro e w4 ⟨A, n, cap, rfl, hn, hcap, hrd, hb4⟩)
    subst hn
    have hM := loc_call hHeld.2.2 hb4
    refine hK.out _ _ ⟨cells7L (loc_own hM 0 rfl).1, cells5L (loc_own hM 1 rfl).1, hM⟩ (fun hHeld => ?_)
    clear hK K
    try simp only [Act.put, List.setIfInBounds_toArray, List.set_cons_zero, List.set_cons_succ]
    refine wpAnyH_ready (rs := [5]) (by kernel_rfl) (by simp) ?_
    refine consD (d := some 29) rfl rfl (fun K hK => ?_) AllReadyH.nil
    go_simp
    (go_at_call 21; (with_reducible refine (ch A RL.length cap _ hrd rfl).mono ?_); rintro e w4 ⟨rfl, hb4⟩)
    have hM := loc_call hHeld.2.2 hb4
    refine hK.out _ _ ⟨cells7L (loc_own hM 0 rfl).1, cells5L (loc_own hM 1 rfl).1, hM⟩ (fun hHeld => ?_)
    clear hK K
    try simp only [Act.put, List.setIfInBounds_toArray, List.set_cons_zero, List.set_cons_succ]
    refine takeD (i := 7) (d := some 31) (v := ?_) rfl rfl (by kernel_rfl) (by kernel_rfl) (by kernel_rfl) (fun _ _ _ h => h) (Or.inl ⟨by rfl, ?_⟩) (by assumption) ?_
    rotate_left
    · intro wS hSw; (try dsimp only at hSw); go_simp; (try with_reducible rfl)
    try simp only [Act.put, List.setIfInBounds_toArray, List.set_cons_zero, List.set_cons_succ]
    refine takeD (i := 8) (d := some 32) (v := ?_) rfl rfl (by kernel_rfl) (by kernel_rfl) (by kernel_rfl) (fun _ _ _ h => h) (Or.inl ⟨by rfl, ?_⟩) (by assumption) ?_
    rotate_left
    · intro wS hSw; (try dsimp only at hSw); go_simp; (try with_reducible rfl)
    try simp only [Act.put, List.setIfInBounds_toArray, List.set_cons_zero, List.set_cons_succ]
    refine takeD (i := 9) (d := some 2) (v := ?_) rfl rfl (by kernel_rfl) (by kernel_rfl) (by kernel_rfl) (fun _ _ _ h => h) (Or.inl ⟨by rfl, ?_⟩) (by assumption) ?_
    rotate_left
    · intro wS hSw; (try dsimp only at hSw); go_simp; (try with_reducible rfl)
    try simp only [Act.put, List.setIfInBounds_toArray, List.set_cons_zero, List.set_cons_succ]
    refine wpAnyH_done (by kernel_rfl) ?_ _
    go_wp2_with fail
    go_ret
    exact ⟨rfl, loc_below hHeld.2.2⟩
  have g3 := (empty_no (s := m3) (by omega)).1
  have g4 := (empty_no (s := m3) (by omega)).2
  rw [decide_eq_false (show ¬ (cmpS op ps a b c p ⟨#[]⟩).v.pre = [] from fun e => hp (nil_size e)), decide_eq_false (show ¬ (verS m0 m1 m2 m3 m4).pre = [] from fun e => hv (nil_size e))] at ch
  simp only [Bool.not_false, Bool.true_and] at ch
  generalize beginsC (cmpS op ps a b c p ⟨#[]⟩) (verS m0 m1 m2 m3 m4) 3 = t at *
  clear hp hv
  unfold cvV at *
  go_enter Tryd.func10, Tryd.ntmps10
  go_wp2_with fail
  refine (ck _ HRD.out (Nat.le_refl _)).mono ?_
  rintro e w0 ⟨rfl, hb⟩
  have hB := hb
  clear hb
  go_wp2_with fail
  refine (cv _ (rd_below HRD.out hB) hB.size).mono ?_
  rintro e w1 ⟨rfl, hb⟩
  have hB := hB.trans (hb.mono hB.size)
  clear hb
  have hL : Loc w w1 [] := ⟨hB, List.Pairwise.nil, fun x hx => absurd hx (by simp)⟩
  clear hB
  have hL := loc_new (loc_new hL w1.heap.size [.int .i64 op, .int .i64 ps, .int .i64 a, .int .i64 b, .int .i64 c, .string p, .string ⟨#[]⟩] 26) (w1.heap.size + 1) [.int .i64 m0, .int .i64 m1, .int .i64 m2, .string m3, .string m4] 24
  obtain ⟨d0, d1, d2, d3, d4, d5, d6⟩ := cells7L (loc_own hL 0 rfl).1
  obtain ⟨e0, e1, e2, e3, e4⟩ := cells5L (loc_own hL 1 rfl).1
  go_wp2_with fail
  refine (cb _).mono ?_
  rintro e w2 ⟨rfl, hb⟩
  have hL := loc_call hL hb
  clear hb d0 d1 d2 d3 d4 d5 d6 e0 e1 e2 e3 e4
  go_wp2_with fail
  have hLd := loc_drew hL
  refine wp_region_held_drew (S := fun W => (W.cell? ⟨w1.heap.size, 0, none⟩ = some (.int .i64 op) ∧ W.cell? ⟨w1.heap.size, 1, none⟩ = some (.int .i64 ps) ∧ W.cell? ⟨w1.heap.size, 2, none⟩ = some (.int .i64 a) ∧ W.cell? ⟨w1.heap.size, 3, none⟩ = some (.int .i64 b) ∧ W.cell? ⟨w1.heap.size, 4, none⟩ = some (.int .i64 c) ∧ W.cell? ⟨w1.heap.size, 5, none⟩ = some (.string p) ∧ W.cell? ⟨w1.heap.size, 6, none⟩ = some (.string ⟨#[]⟩)) ∧ (W.cell? ⟨w1.heap.size + 1, 0, none⟩ = some (.int .i64 m0) ∧ W.cell? ⟨w1.heap.size + 1, 1, none⟩ = some (.int .i64 m1) ∧ W.cell? ⟨w1.heap.size + 1, 2, none⟩ = some (.int .i64 m2) ∧ W.cell? ⟨w1.heap.size + 1, 3, none⟩ = some (.string m3) ∧ W.cell? ⟨w1.heap.size + 1, 4, none⟩ = some (.string m4)) ∧ Loc w W [(w1.heap.size, [.int .i64 op, .int .i64 ps, .int .i64 a, .int .i64 b, .int .i64 c, .string p, .string ⟨#[]⟩]), (w1.heap.size + 1, [.int .i64 m0, .int .i64 m1, .int .i64 m2, .string m3, .string m4])]) (by kernel_rfl) ⟨cells7L (loc_own hLd 0 rfl).1, cells5L (loc_own hLd 1 rfl).1, hLd⟩ (fun hHeld => ?_)
  refine wpAnyH_ready (rs := [0]) (by kernel_rfl) (by simp) ?_
  refine consD (d := some 24) rfl rfl (fun K hK => ?_) AllReadyH.nil
  go_simp
  (go_at_call 11; (with_reducible refine (cawake_any _ (tab_below HT.out (loc_below hHeld.2.2))).mono ?_); rintro e w4 ⟨rfl, hb4⟩)
  have hM := loc_call hHeld.2.2 hb4
  refine hK.out _ _ ⟨cells7L (loc_own hM 0 rfl).1, cells5L (loc_own hM 1 rfl).1, hM⟩ (fun hHeld => ?_)
  clear hK K
  try simp only [Act.put, List.setIfInBounds_toArray, List.set_cons_zero, List.set_cons_succ]
  refine takeD (i := 1) (d := some 25) (v := ?_) rfl rfl (by kernel_rfl) (by kernel_rfl) (by kernel_rfl) (fun _ _ _ h => h) (Or.inl ⟨by rfl, ?_⟩) (by assumption) ?_
  rotate_left
  · intro wS hSw; (try dsimp only at hSw); go_simp; (try with_reducible rfl)
  try simp only [Act.put, List.setIfInBounds_toArray, List.set_cons_zero, List.set_cons_succ]
  refine takeD (i := 2) (d := some 26) (v := ?_) rfl rfl (by kernel_rfl) (by kernel_rfl) (by kernel_rfl) (fun _ _ _ h => h) (Or.inl ⟨by rfl, ?_⟩) (by assumption) ?_
  rotate_left
  · intro wS hSw; (try dsimp only at hSw); go_simp; (try with_reducible rfl)
  try simp only [Act.put, List.setIfInBounds_toArray, List.set_cons_zero, List.set_cons_succ]
  refine takeD (i := 4) (d := some 28) (v := ?_) rfl rfl (by kernel_rfl) (by kernel_rfl) (by kernel_rfl) (fun _ _ _ h => h) (Or.inl ⟨by rfl, ?_⟩) (by assumption) ?_
  rotate_left
  · intro wS hSw; (try dsimp only at hSw); go_simp; (try with_reducible rfl)
  try simp only [Act.put, List.setIfInBounds_toArray, List.set_cons_zero, List.set_cons_succ]
  refine takeD (i := 6) (d := some 30) (v := ?_) rfl rfl (by kernel_rfl) (by kernel_rfl) (by kernel_rfl) (fun _ _ _ h => h) (Or.inl ⟨by rfl, ?_⟩) (by assumption) ?_
  rotate_left
  · intro wS hSw; (try dsimp only at hSw); go_simp; (try with_reducible rfl)
  try simp only [Act.put, List.setIfInBounds_toArray, List.set_cons_zero, List.set_cons_succ]
  refine wpAnyH_ready (rs := [3]) (by kernel_rfl) (by simp) ?_
  refine consD (d := some 27) rfl rfl (fun K hK => ?_) AllReadyH.nil
  go_simp
  (go_at_call 29; (with_reducible refine (cz _).mono ?_); rintro e w4 ⟨A, n, cap, rfl, hn, hcap, hrd, hb4⟩)
  subst hn
  have hM := loc_call hHeld.2.2 hb4
  refine hK.out _ _ ⟨cells7L (loc_own hM 0 rfl).1, cells5L (loc_own hM 1 rfl).1, hM⟩ (fun hHeld => ?_)
  clear hK K
  try simp only [Act.put, List.setIfInBounds_toArray, List.set_cons_zero, List.set_cons_succ]
  refine wpAnyH_ready (rs := [5]) (by kernel_rfl) (by simp) ?_
  refine consD (d := some 29) rfl rfl (fun K hK => ?_) AllReadyH.nil
  go_simp
  (go_at_call 21; (with_reducible refine (ch A RL.length cap _ hrd rfl).mono ?_); rintro e w4 ⟨rfl, hb4⟩)
  have hM := loc_call hHeld.2.2 hb4
  refine hK.out _ _ ⟨cells7L (loc_own hM 0 rfl).1, cells5L (loc_own hM 1 rfl).1, hM⟩ (fun hHeld => ?_)
  clear hK K
  try simp only [Act.put, List.setIfInBounds_toArray, List.set_cons_zero, List.set_cons_succ]
  refine takeD (i := 7) (d := some 31) (v := ?_) rfl rfl (by kernel_rfl) (by kernel_rfl) (by kernel_rfl) (fun _ _ _ h => h) (Or.inl ⟨by rfl, ?_⟩) (by assumption) ?_
  rotate_left
  · intro wS hSw; (try dsimp only at hSw); go_simp; (try with_reducible rfl)
  try simp only [Act.put, List.setIfInBounds_toArray, List.set_cons_zero, List.set_cons_succ]
  refine takeD (i := 8) (d := some 32) (v := ?_) rfl rfl (by kernel_rfl) (by kernel_rfl) (by kernel_rfl) (fun _ _ _ h => h) (Or.inl ⟨by rfl, ?_⟩) (by assumption) ?_
  rotate_left
  · intro wS hSw; (try dsimp only at hSw); go_simp; (try with_reducible rfl)
  try simp only [Act.put, List.setIfInBounds_toArray, List.set_cons_zero, List.set_cons_succ]
  refine takeD (i := 9) (d := some 2) (v := ?_) rfl rfl (by kernel_rfl) (by kernel_rfl) (by kernel_rfl) (fun _ _ _ h => h) (Or.inl ⟨by rfl, ?_⟩) (by assumption) ?_
  rotate_left
  · intro wS hSw; (try dsimp only at hSw); go_simp; (try with_reducible rfl)
  try simp only [Act.put, List.setIfInBounds_toArray, List.set_cons_zero, List.set_cons_succ]
  refine wpAnyH_done (by kernel_rfl) ?_ _
  go_wp2_with fail
  go_ret
  exact ⟨rfl, loc_below hHeld.2.2⟩

set_option maxRecDepth 100000 in
theorem lifted (os : Os) (started : os.Started) (H : Type) (enc : TypeId × Value → H) :
    ReturnsInHanded {} Tryd.checked os 10 .any (fun w args => (Rows.compZoneSpec.pre enc Tryd.prog Tryd.f10 [] false w args ∧ laidMetH Tryd.prog Rows.compZoneRow.laid w) ∧ sizedMet enc Tryd.prog Tryd.f10 (OpenSpec.ofChange Rows.compZoneSpec) false w args) (Rows.compZoneSpec.post enc Tryd.prog Tryd.f10 false true false false) := by
  refine returnsInHanded_of_change_and (C := Tryd.checked) (X := fun w _ => laidMetH Tryd.prog Rows.compZoneRow.laid w) (fun _ _ _ hh h => h.of_heap hh) own started (by kernel_rfl) Tryd.func10
    (ChangeSpec.witness_shaped (enc := enc) (C := Tryd.checked) (os := os) (X := fun w _ => laidMetH Tryd.prog Rows.compZoneRow.laid w) false (World.doorLaid Tryd.prog 400 os) #[.slice none 0 0] 8 rfl (World.shaped_of_RefB (by kernel_rfl) (by kernel_rfl)) (by kernel_rfl) (by kernel_rfl) (by kernel_rfl)
      (laidMetH_of_parts3 (fuel := 8) (laidMet_of_run' 8 (by kernel_rfl) (by kernel_rfl)) (by kernel_rfl) (by kernel_rfl))) ?_
  intro W base args ds gs before hval0 hW _ _ hL _
  have hval : ∀ (j : Nat) t v, Tryd.f10.params[j]? = some t → args[j]? = some v → Value.okWide Tryd.prog W .any base t v := hval0
  have hW' := hW
  obtain ⟨p, q, hA0, hV, rfl, hfz, hnd⟩ := hW
  have hA : DataW.TrodAll enc Tryd.prog W 0 (fun _ => true) true Tryd.f10.params.toList args.toList ds p := hA0
  rw [Tryd.params10] at hA hval
  obtain ⟨v0, vs0, d0, ds0, p0, q0, hargs, rfl, rfl, h0, r0⟩ := trodAll_cons hA
  obtain ⟨rfl, rfl, rfl⟩ := trodAll_nil r0
  obtain rfl : args = #[v0] := by cases args; simp_all
  obtain ⟨rfl, rfl⟩ := trodVars_none hV
  obtain ⟨a0, len0, cap0, rfl⟩ := okWide_slice Tryd.underlying33 (hval 0 33 v0 rfl rfl)
  have k0 := h0
  have lt0 : ∀ x ∈ p0, x.block < W.heap.size := by obtain ⟨m, hm⟩ := k0; exact DataW.trod_lt m _ _ _ hm
  obtain ⟨z0, w0⟩ : ∃ zs, IsRow .i64 W a0 len0 cap0 zs := by
    obtain ⟨fuel, hf⟩ := h0
    rcases open_ints Tryd.underlying33 Tryd.underlying3 (by kernel_rfl) hf with ⟨hcs, _⟩ | ⟨x, l, c, zs, hcs, _, hl, hm, hz, _, hcell, hwz⟩
    · simp [Value.cells] at hcs
      obtain ⟨rfl, rfl, rfl⟩ := hcs
      exact ⟨[], .inl ⟨rfl, rfl, rfl, rfl⟩⟩
    · simp [Value.cells] at hcs
      obtain ⟨rfl, rfl, rfl⟩ := hcs
      exact ⟨zs, .inr ⟨_, rfl, hl, hm, by simpa using hz, hcell, hwz⟩⟩
  clear hA0 hval0
  refine (walk a0 len0 cap0 z0 W w0 (tab_of hL (by kernel_rfl) (MakeChecks.laidMetH_plain _ _ _ (by kernel_rfl)))).mono fun e W' ⟨he, bel⟩ => ?_
  subst he
  exact ⟨_, rfl, _, _, _, [], _, [], hW', trodAll_mk1 (shut_bool Tryd.underlying4 _), (trodAll_cons_mk (Below.trod laidOut (by kernel_rfl) (of_decide_eq_true (by kernel_rfl)) k0 bel lt0) trodAll_mk0), rfl, bel.frame _, fun h => by cases h⟩

theorem over : Rows.compZoneRow.holds Tryd.pinned (OpenSpec.ofChange Rows.compZoneSpec) :=
  OpenClaim.holds_of_wide 10 Tryd.f10 rfl rfl rfl rfl rfl rfl rfl ⟨rfl, rfl, rfl, rfl, rfl⟩ rfl rfl rfl rfl rfl (by kernel_rfl) Tryd.func10 (by kernel_rfl)
    (of_decide_eq_true (by kernel_rfl)) (by unfold Func.isWrapper; first | (rw [if_pos (by decide +kernel)]; kernel_rfl) | (rw [if_neg (by decide +kernel)]; exact ⟨rfl, rfl⟩))
    (fun os started H enc _ => lifted os started H enc)

theorem proved : Rows.CompZoneSaid := over
theorem plain (f : FuncId) (fn : Func) (hf : Tryd.pinned.checked.prog.funcNamed "linchpin/linchpinlaw6.CompZone" = some f) (hfn : Tryd.pinned.checked.prog.funcs[f]? = some fn) :
    false = Tryd.pinned.checked.prog.looks [] ∧ ∀ (j : Nat) t, fn.params[j]? = some t → Tryd.pinned.checked.prog.wantsStandIn t = false := by
  obtain rfl : f = 10 := Option.some.inj ((show Tryd.prog.funcNamed "linchpin/linchpinlaw6.CompZone" = some 10 by kernel_rfl).symm.trans hf) |>.symm
  obtain rfl : fn = Tryd.f10 := (Option.some.inj (Tryd.func10.symm.trans hfn)).symm
  refine ⟨by kernel_rfl, fun j t ht => ?_⟩
  rw [Tryd.params10] at ht
  have hm : t ∈ [33] := by simpa using Array.mem_of_getElem? ht
  have hall : ([33].all fun u => !Tryd.prog.wantsStandIn u) = true := by kernel_rfl
  exact (show Tryd.prog.wantsStandIn t = false by simpa using List.all_eq_true.1 hall t hm)

theorem card : Rows.CompZoneCardSaid :=
  Claim7.holds_tied_plain_at .later [] _ _ _ _ proved (fun _ h => by cases h) (by kernel_rfl) (fun _ h => by cases h) compZone_row_tie rfl ⟨rfl, rfl⟩ (by kernel_rfl) rfl plain (by kernel_rfl)
#print axioms card
end Go.Proofs.YthaagngoefieaaaDoor.compZone
