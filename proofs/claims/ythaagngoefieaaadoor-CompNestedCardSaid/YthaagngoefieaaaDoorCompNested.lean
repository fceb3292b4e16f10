/-
  CompNested: The Region of Eq lies within that of Tilde, those of Tilde and Caret within that of Ge, and that of Tilde within that of Caret if Major is not 0; a Star has the Region of Eq. Conditions: strconv's and math/bits' tables start as the program's text lays them (the card ties them).
-/
import Derived.Test.YthaagngoefieaaaDoorRows
import Derived.Test.YthaagngoefieaaaDoorCLawA
import Derived.Test.YthaagngoefieaaaDoorCFam
import Derived.Test.YthaagngoefieaaaDoorCPairs
import Derived.Test.YthaagngoefieaaaDoorCParse
import Derived.Test.YthaagngoefieaaaDoorG5
import Derived.Test.YthaagngoefieaaaDoorCards
import Derived.Test.YthaagngoefieaaaDoorTie
import Derived.Test.YthaagngoefieaaaDoorTab
import Derived.LaidMore
import Derived.MakeChecks
import Derived.SevenTiedAt
import Derived.Stop.Joined
import Derived.WalkKit
import Derived.ProofKit
import Derived.OpenShut
import Derived.ShutString
import Derived.ChangeOld
import Derived.Below
namespace Go.Proofs.YthaagngoefieaaaDoor.compNested
open Go.ChangeShapes Go.WideShapes Go.ChangeAt Go.RowKit
open Go.ChangeMaps (open_string shut_string)
set_option linter.unusedVariables false

theorem own : ownKnob Tryd.prog.godebug = none := by kernel_rfl
theorem laidOut : laidOutB Tryd.prog = true := by kernel_rfl

def IsRow (k : IntKind) (w : World) (a : Option Addr) (len cap : Nat) (zs : List Int) : Prop :=
  (a = none ∧ len = 0 ∧ cap = 0 ∧ zs = []) ∨
  ∃ x, a = some x ∧ len ≤ cap ∧ cap ≤ maxLen ∧ zs.length = cap ∧ (∀ i, i < zs.length → w.cell? (x.add i) = some (.int k (zs.getD i 0))) ∧ ∀ n ∈ zs, (Lit.int k n).wf = true

set_option maxHeartbeats 8000000 in
set_option maxRecDepth 100000 in
theorem walk (a0 : Option Addr) (len0 cap0 : Nat) (z0 : List Int) (w : World) (w0 : IsRow .i64 w a0 len0 cap0 z0) (hT : Tab w) :
    Calls Tryd.prog 7 #[.slice a0 len0 cap0] w fun e w' => e = .returned (.bool true) ∧ Below w.heap.size w w' := by
  have HT := Lib.hid hT
  clear hT
  obtain ⟨hrd, hml, hwf, hlen⟩ := row_rd w0
  generalize z0.take len0 = l at *
  subst hlen
  clear w0
  obtain ⟨op, ps, a, b, c, p, r, hm, hf, hp8, ck⟩ := comp_fam a0 cap0 w.heap.size l 0 hml hwf (by omega) (by omega)
  have HRD := Lib.hid hrd
  clear hrd hwf
  have hp := hp8
  have hp : p.size ≤ 1048576 := by omega
  by_cases h9 : op = 9
  · subst h9
    have HS := Lib.hid (star_same hm rfl)
    by_cases h0 : ps = 0
    · subst h0
      have HS : Hid (regionP (cmpS 9 0 a b c p ⟨#[]⟩) = notR []) := HS.out
      have cr := fun W => region_any 9 0 a b c p ⟨#[]⟩ W hp (by decide)
      have ok := region_ok (op := 9) (ps := 0) (a := a) (b := b) (c := c) (p := p) hp
      generalize regionP (cmpS 9 0 a b c p ⟨#[]⟩) = RL at *
      have OK := Lib.hid ok
      have cn := fun W => rnot_any none 0 0 0 [] W rds_none rfl (fun s hs => by simp at hs) (Nat.zero_le _) (by omega)
      have nk := Lib.hid (notR_ok (l := []) (fun s hs => by simp at hs))
      clear hm hf hp8 hp ok
      unfold cvV at *
      go_enter Tryd.func7, Tryd.ntmps7
      go_wp2_with fail
      refine (ck _ HRD.out (Nat.le_refl _)).mono ?_
      rintro e w0 ⟨rfl, hb⟩
      have hB := hb
      clear hb
      have hL : Loc w w0 [] := ⟨hB, List.Pairwise.nil, fun x hx => absurd hx (by simp)⟩
      clear hB
      have hL := loc_new hL w0.heap.size [.int .i64 9, .int .i64 0, .int .i64 a, .int .i64 b, .int .i64 c, .string p, .string ⟨#[]⟩] 26
      obtain ⟨d0, d1, d2, d3, d4, d5, d6⟩ := cells7L (loc_own hL 0 rfl).1
      go_wp2_with fail
      refine (cawake_any _ (tab_below HT.out (loc_below hL))).mono ?_
      rintro e w1 ⟨rfl, hb1⟩
      have hL := loc_call hL hb1
      clear d0 d1 d2 d3 d4 d5 d6 hb1
      obtain ⟨d0, d1, d2, d3, d4, d5, d6⟩ := cells7L (loc_own hL 0 rfl).1
      go_wp2_with fail
      refine (cr _).mono ?_
      rintro e w2 ⟨A1, n1, cap1, rfl, hn1, hc1, hr1, hb2⟩
      have HN1 := Lib.hid hn1
      clear hn1
      have hL := loc_call hL hb2
      go_wp2_with fail
      refine (cn _).mono ?_
      rintro e w3 ⟨A2, n2, cap2, rfl, hn2, hc2, hr2, hb3⟩
      have HN2 := Lib.hid hn2
      clear hn2
      have hL := loc_call hL hb3
      have h1 := OK.out.2
      have h2 := nk.out.2
      have e1 := HN1.out
      have e2 := HN2.out
      have ms := rsame_true A1 A2 n1 n2 cap1 cap2 w2.heap.size w3.heap.size RL (notR []) w3 (rds_below hr1 hb3) hr2 e1.symm e2.symm OK.out.1 nk.out.1 hb3.size (Nat.le_refl _) (by omega) (by simp only [List.length_nil] at h2; omega) HS.out
      clear h1 h2 e1 e2
      go_wp2_with fail
      refine ms.mono ?_
      rintro e w4 ⟨rfl, hb4⟩
      have hL := loc_call hL hb4
      go_wp2_with fail
      go_ret
      exact ⟨rfl, loc_below hL⟩
    · have HS : Hid (regionP (cmpS 9 ps a b c p ⟨#[]⟩) = regionP (cmpS 1 ps a b c p ⟨#[]⟩)) := HS.out.trans (if_neg h0)
      have g0 : (ps == 0) = false := by simpa using h0
      have cr := fun W => region_any 9 ps a b c p ⟨#[]⟩ W hp (by decide)
      have ok := region_ok (op := 9) (ps := ps) (a := a) (b := b) (c := c) (p := p) hp
      have cw1 := fun W => with_any 9 ps a b c p ⟨#[]⟩ 1 W
      have cr1 := fun W => region_any 1 ps a b c p ⟨#[]⟩ W hp (by decide)
      have ok1 := region_ok (op := 1) (ps := ps) (a := a) (b := b) (c := c) (p := p) hp
      generalize regionP (cmpS 9 ps a b c p ⟨#[]⟩) = RL at *
      generalize regionP (cmpS 1 ps a b c p ⟨#[]⟩) = RK at *
      have OK := Lib.hid ok
      have OK1 := Lib.hid ok1
      clear hm hf hp8 hp ok ok1 h0
      unfold cvV at *
      go_enter Tryd.func7, Tryd.ntmps7
      go_wp2_with fail
      refine (ck _ HRD.out (Nat.le_refl _)).mono ?_
      rintro e w0 ⟨rfl, hb⟩
      have hB := hb
      clear hb
      have hL : Loc w w0 [] := ⟨hB, List.Pairwise.nil, fun x hx => absurd hx (by simp)⟩
      clear hB
      have hL := loc_new hL w0.heap.size [.int .i64 9, .int .i64 ps, .int .i64 a, .int .i64 b, .int .i64 c, .string p, .string ⟨#[]⟩] 26
      obtain ⟨d0, d1, d2, d3, d4, d5, d6⟩ := cells7L (loc_own hL 0 rfl).1
      go_wp2_with fail
      have hLd := loc_drew hL
      obtain ⟨d0, d1, d2, d3, d4, d5, d6⟩ := cells7L (loc_own hL 0 rfl).1
      refine wp_region_held_drew (S := fun W => (W.cell? ⟨w0.heap.size, 0, none⟩ = some (.int .i64 9) ∧ W.cell? ⟨w0.heap.size, 1, none⟩ = some (.int .i64 ps) ∧ W.cell? ⟨w0.heap.size, 2, none⟩ = some (.int .i64 a) ∧ W.cell? ⟨w0.heap.size, 3, none⟩ = some (.int .i64 b) ∧ W.cell? ⟨w0.heap.size, 4, none⟩ = some (.int .i64 c) ∧ W.cell? ⟨w0.heap.size, 5, none⟩ = some (.string p) ∧ W.cell? ⟨w0.heap.size, 6, none⟩ = some (.string ⟨#[]⟩)) ∧ Loc w W [(w0.heap.size, [.int .i64 9, .int .i64 ps, .int .i64 a, .int .i64 b, .int .i64 c, .string p, .string ⟨#[]⟩])]) (by kernel_rfl) ⟨⟨d0, d1, d2, d3, d4, d5, d6⟩, hLd⟩ (fun hHeld => ?_)
      refine wpAnyH_ready (rs := [0]) (by kernel_rfl) (by simp) ?_
      refine consD (d := some 23) rfl rfl (fun K hK => ?_) AllReadyH.nil
      go_simp
      (go_at_call 11; (with_reducible refine (cawake_any _ (tab_below HT.out (loc_below hHeld.2))).mono ?_); rintro e w2 ⟨rfl, hb2⟩)
      have hM2 := loc_call hHeld.2 hb2
      refine hK.out _ _ ⟨cells7L (loc_own hM2 0 rfl).1, hM2⟩ (fun hHeld => ?_)
      clear hK K
      try simp only [Act.put, List.setIfInBounds_toArray, List.set_cons_zero, List.set_cons_succ]
      refine takeD (i := 1) (d := some 24) (v := ?_) rfl rfl (by kernel_rfl) (by kernel_rfl) (by kernel_rfl) (fun _ _ _ h => h) (Or.inl ⟨by rfl, ?_⟩) (by assumption) ?_
      rotate_left
      · intro wS hSw; (try dsimp only at hSw); go_simp; (try with_reducible rfl)
      try simp only [Act.put, List.setIfInBounds_toArray, List.set_cons_zero, List.set_cons_succ]
      refine takeD (i := 2) (d := some 25) (v := ?_) rfl rfl (by kernel_rfl) (by kernel_rfl) (by kernel_rfl) (fun _ _ _ h => h) (Or.inl ⟨by rfl, ?_⟩) (by assumption) ?_
      rotate_left
      · intro wS hSw; (try dsimp only at hSw); go_simp; (try with_reducible rfl)
      try simp only [Act.put, List.setIfInBounds_toArray, List.set_cons_zero, List.set_cons_succ]
      refine takeD (i := 4) (d := some 27) (v := ?_) rfl rfl (by kernel_rfl) (by kernel_rfl) (by kernel_rfl) (fun _ _ _ h => h) (Or.inl ⟨by rfl, ?_⟩) (by assumption) ?_
      rotate_left
      · intro wS hSw; (try dsimp only at hSw); go_simp; (try with_reducible rfl)
      try simp only [Act.put, List.setIfInBounds_toArray, List.set_cons_zero, List.set_cons_succ]
      refine wpAnyH_ready (rs := [3]) (by kernel_rfl) (by simp) ?_
      refine consD (d := some 26) rfl rfl (fun K hK => ?_) AllReadyH.nil
      go_simp
      (go_at_call 22; (with_reducible refine (cr _).mono ?_); rintro e w3 ⟨AX, nX, capX, rfl, hnX, hcX, hrX, hb3⟩)
      have HNX := Lib.hid hnX
      clear hnX
      have hM3 := loc_call hM2 hb3
      refine hK.out _ _ ⟨cells7L (loc_own hM3 0 rfl).1, hM3⟩ (fun hHeld => ?_)
      clear hK K
      try simp only [Act.put, List.setIfInBounds_toArray, List.set_cons_zero, List.set_cons_succ]
      refine wpAnyH_ready (rs := [5]) (by kernel_rfl) (by simp) ?_
      refine consD (d := some 28) rfl rfl (fun K hK => ?_) AllReadyH.nil
      go_simp
      (go_at_call 24; (with_reducible refine (cw1 _).mono ?_); rintro e w4 ⟨rfl, hb4⟩)
      have hM4 := loc_call hM3 hb4
      refine hK.out _ _ ⟨cells7L (loc_own hM4 0 rfl).1, hM4⟩ (fun hHeld => ?_)
      clear hK K
      try simp only [Act.put, List.setIfInBounds_toArray, List.set_cons_zero, List.set_cons_succ]
      refine wpAnyH_ready (rs := [6]) (by kernel_rfl) (by simp) ?_
      refine consD (d := some 29) rfl rfl (fun K hK => ?_) AllReadyH.nil
      go_simp
      (go_at_call 22; (with_reducible refine (cr1 _).mono ?_); rintro e w5 ⟨AY, nY, capY, rfl, hnY, hcY, hrY, hb5⟩)
      have HNY := Lib.hid hnY
      clear hnY
      have hM5 := loc_call hM4 hb5
      refine hK.out _ _ ⟨cells7L (loc_own hM5 0 rfl).1, hM5⟩ (fun hHeld => ?_)
      clear hK K
      try simp only [Act.put, List.setIfInBounds_toArray, List.set_cons_zero, List.set_cons_succ]
      refine wpAnyH_ready (rs := [7]) (by kernel_rfl) (by simp) ?_
      refine consD (d := some 30) rfl rfl (fun K hK => ?_) AllReadyH.nil
      go_simp
      have hbz : Below w3.heap.size w3 w5 := hb4.trans (hb5.mono hb4.size)
      have hl1 := OK.out.2
      have hl2 := OK1.out.2
      have e1 := HNX.out
      have e2 := HNY.out
      have ms := rsame_true AX AY nX nY capX capY w3.heap.size w5.heap.size RL RK w5 (rds_below hrX hbz) hrY e1.symm e2.symm OK.out.1 OK1.out.1 hbz.size (Nat.le_refl _) (by omega) (by omega) HS.out
      clear hl1 hl2 e1 e2 hbz
      (go_at_call 23; (with_reducible refine (ms).mono ?_); rintro e w6 ⟨rfl, hb6⟩)
      have hM6 := loc_call hM5 hb6
      clear ms
      refine hK.out _ _ ⟨cells7L (loc_own hM6 0 rfl).1, hM6⟩ (fun hHeld => ?_)
      clear hK K
      try simp only [Act.put, List.setIfInBounds_toArray, List.set_cons_zero, List.set_cons_succ]
      refine takeD (i := 8) (d := some 31) (v := ?_) rfl rfl (by kernel_rfl) (by kernel_rfl) (by kernel_rfl) (fun _ _ _ h => h) (Or.inl ⟨by rfl, ?_⟩) (by assumption) ?_
      rotate_left
      · intro wS hSw; (try dsimp only at hSw); go_simp; (try with_reducible rfl)
      try simp only [Act.put, List.setIfInBounds_toArray, List.set_cons_zero, List.set_cons_succ]
      refine takeD (i := 9) (d := some 2) (v := ?_) rfl rfl (by kernel_rfl) (by kernel_rfl) (by kernel_rfl) (fun _ _ _ h => h) (Or.inl ⟨by rfl, ?_⟩) (by assumption) ?_
      rotate_left
      · intro wS hSw; (try dsimp only at hSw); go_simp; (try with_reducible rfl)
      try simp only [Act.put, List.setIfInBounds_toArray, List.set_cons_zero, List.set_cons_succ]
      refine wpAnyH_done (by kernel_rfl) ?_ _
      have hL := hM6
      clear d0 d1 d2 d3 d4 d5 d6
      go_wp2_with fail
      go_ret
      exact ⟨rfl, loc_below hL⟩
  · have hop9 : (op == 9) = false := by simpa using h9
    obtain ⟨x, y, t, u, r1, r8, r7, r6, ⟨s1, s8, s7, s6⟩, n1, n2, n3, n4⟩ := nest_rows hm hf h9
    have cw1 := fun W => with_any op ps a b c p ⟨#[]⟩ 1 W
    have cr1 := fun W => region_any 1 ps a b c p ⟨#[]⟩ W hp (by decide)
    have ok1 := region_ok (op := 1) (ps := ps) (a := a) (b := b) (c := c) (p := p) hp
    have cw8 := fun W => with_any op ps a b c p ⟨#[]⟩ 8 W
    have cr8 := fun W => region_any 8 ps a b c p ⟨#[]⟩ W hp (by decide)
    have ok8 := region_ok (op := 8) (ps := ps) (a := a) (b := b) (c := c) (p := p) hp
    have cw7 := fun W => with_any op ps a b c p ⟨#[]⟩ 7 W
    have cr7 := fun W => region_any 7 ps a b c p ⟨#[]⟩ W hp (by decide)
    have ok7 := region_ok (op := 7) (ps := ps) (a := a) (b := b) (c := c) (p := p) hp
    have cw6 := fun W => with_any op ps a b c p ⟨#[]⟩ 6 W
    have cr6 := fun W => region_any 6 ps a b c p ⟨#[]⟩ W hp (by decide)
    have ok6 := region_ok (op := 6) (ps := ps) (a := a) (b := b) (c := c) (p := p) hp
    rw [show regionP (cmpS 1 ps a b c p ⟨#[]⟩) = _ from r1] at cr1 ok1
    rw [show regionP (cmpS 8 ps a b c p ⟨#[]⟩) = _ from r8] at cr8 ok8
    rw [show regionP (cmpS 7 ps a b c p ⟨#[]⟩) = _ from r7] at cr7 ok7
    rw [show regionP (cmpS 6 ps a b c p ⟨#[]⟩) = _ from r6] at cr6 ok6
    have R1 : Hid (mayRow [⟨x, y⟩] = true) := s1
    have R8 : Hid (mayRow [⟨x, t⟩] = true) := s8
    have R7 : Hid (mayRow [⟨x, u⟩] = true) := s7
    have R6 : Hid (mayRow [⟨x, lastC⟩] = true) := s6
    have N1 := Lib.hid n1
    have N2 := Lib.hid n2
    have N3 := Lib.hid n3
    have N4 : Hid (a ≠ 0 → andR [⟨x, t⟩] [⟨x, u⟩] = [⟨x, t⟩]) := n4
    clear n1 n2 n3 n4 s1 s8 s7 s6 r1 r8 r7 r6
    generalize ([⟨x, y⟩] : List SpanC) = L1 at *
    generalize ([⟨x, t⟩] : List SpanC) = L8 at *
    generalize ([⟨x, u⟩] : List SpanC) = L7 at *
    generalize ([⟨x, lastC⟩] : List SpanC) = L6 at *
    clear x y t u hm hf hp8 hp h9
    unfold cvV at *
    have O1 := Lib.hid ok1
    have O8 := Lib.hid ok8
    have O7 := Lib.hid ok7
    have O6 := Lib.hid ok6
    clear ok1 ok8 ok7 ok6
    go_enter Tryd.func7, Tryd.ntmps7
    go_wp2_with fail
    refine (ck _ HRD.out (Nat.le_refl _)).mono ?_
    rintro e w0 ⟨rfl, hb⟩
    have hB := hb
    clear hb
    have hL : Loc w w0 [] := ⟨hB, List.Pairwise.nil, fun x hx => absurd hx (by simp)⟩
    clear hB
    have hL := loc_new hL w0.heap.size [.int .i64 op, .int .i64 ps, .int .i64 a, .int .i64 b, .int .i64 c, .string p, .string ⟨#[]⟩] 26
    obtain ⟨d0, d1, d2, d3, d4, d5, d6⟩ := cells7L (loc_own hL 0 rfl).1
    go_wp2_with fail
    have hLd := loc_drew hL
    obtain ⟨d0, d1, d2, d3, d4, d5, d6⟩ := cells7L (loc_own hL 0 rfl).1
    refine wp_region_held_drew (S := fun W => (W.cell? ⟨w0.heap.size, 0, none⟩ = some (.int .i64 op) ∧ W.cell? ⟨w0.heap.size, 1, none⟩ = some (.int .i64 ps) ∧ W.cell? ⟨w0.heap.size, 2, none⟩ = some (.int .i64 a) ∧ W.cell? ⟨w0.heap.size, 3, none⟩ = some (.int .i64 b) ∧ W.cell? ⟨w0.heap.size, 4, none⟩ = some (.int .i64 c) ∧ W.cell? ⟨w0.heap.size, 5, none⟩ = some (.string p) ∧ W.cell? ⟨w0.heap.size, 6, none⟩ = some (.string ⟨#[]⟩)) ∧ Loc w W [(w0.heap.size, [.int .i64 op, .int .i64 ps, .int .i64 a, .int .i64 b, .int .i64 c, .string p, .string ⟨#[]⟩])]) (by kernel_rfl) ⟨⟨d0, d1, d2, d3, d4, d5, d6⟩, hLd⟩ (fun hHeld => ?_)
    refine takeD (i := 0) (d := some 32) (v := ?_) rfl rfl (by kernel_rfl) (by kernel_rfl) (by kernel_rfl) (fun _ _ _ h => h) (Or.inl ⟨by rfl, ?_⟩) (by assumption) ?_
    rotate_left
    · intro wS hSw; (try dsimp only at hSw); go_simp; (try with_reducible rfl)
    try simp only [Act.put, List.setIfInBounds_toArray, List.set_cons_zero, List.set_cons_succ]
    refine takeD (i := 3) (d := some 35) (v := ?_) rfl rfl (by kernel_rfl) (by kernel_rfl) (by kernel_rfl) (fun _ _ _ h => h) (Or.inl ⟨by rfl, ?_⟩) (by assumption) ?_
    rotate_left
    · intro wS hSw; (try dsimp only at hSw); go_simp; (try with_reducible rfl)
    try simp only [Act.put, List.setIfInBounds_toArray, List.set_cons_zero, List.set_cons_succ]
    refine takeD (i := 6) (d := some 38) (v := ?_) rfl rfl (by kernel_rfl) (by kernel_rfl) (by kernel_rfl) (fun _ _ _ h => h) (Or.inl ⟨by rfl, ?_⟩) (by assumption) ?_
    rotate_left
    · intro wS hSw; (try dsimp only at hSw); go_simp; (try with_reducible rfl)
    try simp only [Act.put, List.setIfInBounds_toArray, List.set_cons_zero, List.set_cons_succ]
    refine takeD (i := 9) (d := some 41) (v := ?_) rfl rfl (by kernel_rfl) (by kernel_rfl) (by kernel_rfl) (fun _ _ _ h => h) (Or.inl ⟨by rfl, ?_⟩) (by assumption) ?_
    rotate_left
    · intro wS hSw; (try dsimp only at hSw); go_simp; (try with_reducible rfl)
    try simp only [Act.put, List.setIfInBounds_toArray, List.set_cons_zero, List.set_cons_succ]
    refine wpAnyH_ready (rs := [1]) (by kernel_rfl) (by simp) ?_
    refine consD (d := some 33) rfl rfl (fun K hK => ?_) AllReadyH.nil
    go_simp
    (go_at_call 24; (with_reducible refine (cw1 _).mono ?_); rintro e w2 ⟨rfl, hb2⟩)
    have hM2 := loc_call hHeld.2 hb2
    refine hK.out _ _ ⟨cells7L (loc_own hM2 0 rfl).1, hM2⟩ (fun hHeld => ?_)
    clear hK K
    try simp only [Act.put, List.setIfInBounds_toArray, List.set_cons_zero, List.set_cons_succ]
    refine wpAnyH_ready (rs := [2]) (by kernel_rfl) (by simp) ?_
    refine consD (d := some 34) rfl rfl (fun K hK => ?_) AllReadyH.nil
    go_simp
    (go_at_call 22; (with_reducible refine (cr1 _).mono ?_); rintro e w3 ⟨A1, n1, cap1, rfl, hn1, hc1, hr1, hb3⟩)
    have HN1 := Lib.hid hn1
    clear hn1
    have hM3 := loc_call hM2 hb3
    refine hK.out _ _ ⟨cells7L (loc_own hM3 0 rfl).1, hM3⟩ (fun hHeld => ?_)
    clear hK K
    try simp only [Act.put, List.setIfInBounds_toArray, List.set_cons_zero, List.set_cons_succ]
    refine wpAnyH_ready (rs := [4]) (by kernel_rfl) (by simp) ?_
    refine consD (d := some 36) rfl rfl (fun K hK => ?_) AllReadyH.nil
    go_simp
    (go_at_call 24; (with_reducible refine (cw8 _).mono ?_); rintro e w4 ⟨rfl, hb4⟩)
    have hM4 := loc_call hM3 hb4
    refine hK.out _ _ ⟨cells7L (loc_own hM4 0 rfl).1, hM4⟩ (fun hHeld => ?_)
    clear hK K
    try simp only [Act.put, List.setIfInBounds_toArray, List.set_cons_zero, List.set_cons_succ]
    refine wpAnyH_ready (rs := [5]) (by kernel_rfl) (by simp) ?_
    refine consD (d := some 37) rfl rfl (fun K hK => ?_) AllReadyH.nil
    go_simp
    (go_at_call 22; (with_reducible refine (cr8 _).mono ?_); rintro e w5 ⟨A8, n8, cap8, rfl, hn8, hc8, hr8, hb5⟩)
    have HN8 := Lib.hid hn8
    clear hn8
    have hM5 := loc_call hM4 hb5
    refine hK.out _ _ ⟨cells7L (loc_own hM5 0 rfl).1, hM5⟩ (fun hHeld => ?_)
    clear hK K
    try simp only [Act.put, List.setIfInBounds_toArray, List.set_cons_zero, List.set_cons_succ]
    refine wpAnyH_ready (rs := [7]) (by kernel_rfl) (by simp) ?_
    refine consD (d := some 39) rfl rfl (fun K hK => ?_) AllReadyH.nil
    go_simp
    (go_at_call 24; (with_reducible refine (cw7 _).mono ?_); rintro e w6 ⟨rfl, hb6⟩)
    have hM6 := loc_call hM5 hb6
    refine hK.out _ _ ⟨cells7L (loc_own hM6 0 rfl).1, hM6⟩ (fun hHeld => ?_)
    clear hK K
    try simp only [Act.put, List.setIfInBounds_toArray, List.set_cons_zero, List.set_cons_succ]
    refine wpAnyH_ready (rs := [8]) (by kernel_rfl) (by simp) ?_
    refine consD (d := some 40) rfl rfl (fun K hK => ?_) AllReadyH.nil
    go_simp
    (go_at_call 22; (with_reducible refine (cr7 _).mono ?_); rintro e w7 ⟨A7, n7, cap7, rfl, hn7, hc7, hr7, hb7⟩)
    have HN7 := Lib.hid hn7
    clear hn7
    have hM7 := loc_call hM6 hb7
    refine hK.out _ _ ⟨cells7L (loc_own hM7 0 rfl).1, hM7⟩ (fun hHeld => ?_)
    clear hK K
    try simp only [Act.put, List.setIfInBounds_toArray, List.set_cons_zero, List.set_cons_succ]
    refine wpAnyH_ready (rs := [10]) (by kernel_rfl) (by simp) ?_
    refine consD (d := some 42) rfl rfl (fun K hK => ?_) AllReadyH.nil
    go_simp
    (go_at_call 24; (with_reducible refine (cw6 _).mono ?_); rintro e w8 ⟨rfl, hb8⟩)
    have hM8 := loc_call hM7 hb8
    refine hK.out _ _ ⟨cells7L (loc_own hM8 0 rfl).1, hM8⟩ (fun hHeld => ?_)
    clear hK K
    try simp only [Act.put, List.setIfInBounds_toArray, List.set_cons_zero, List.set_cons_succ]
    refine wpAnyH_ready (rs := [11]) (by kernel_rfl) (by simp) ?_
    refine consD (d := some 43) rfl rfl (fun K hK => ?_) AllReadyH.nil
    go_simp
    (go_at_call 22; (with_reducible refine (cr6 _).mono ?_); rintro e w9 ⟨A6, n6, cap6, rfl, hn6, hc6, hr6, hb9⟩)
    have HN6 := Lib.hid hn6
    clear hn6
    have hM9 := loc_call hM8 hb9
    refine hK.out _ _ ⟨cells7L (loc_own hM9 0 rfl).1, hM9⟩ (fun hHeld => ?_)
    clear hK K
    try simp only [Act.put, List.setIfInBounds_toArray, List.set_cons_zero, List.set_cons_succ]
    refine takeD (i := 12) (d := some 4) (v := ?_) rfl rfl (by kernel_rfl) (by kernel_rfl) (by kernel_rfl) (fun _ _ _ h => h) (Or.inl ⟨by rfl, ?_⟩) (by assumption) ?_
    rotate_left
    · intro wS hSw; (try dsimp only at hSw); go_simp; (try with_reducible rfl)
    try simp only [Act.put, List.setIfInBounds_toArray, List.set_cons_zero, List.set_cons_succ]
    refine takeD (i := 13) (d := some 5) (v := ?_) rfl rfl (by kernel_rfl) (by kernel_rfl) (by kernel_rfl) (fun _ _ _ h => h) (Or.inl ⟨by rfl, ?_⟩) (by assumption) ?_
    rotate_left
    · intro wS hSw; (try dsimp only at hSw); go_simp; (try with_reducible rfl)
    try simp only [Act.put, List.setIfInBounds_toArray, List.set_cons_zero, List.set_cons_succ]
    refine takeD (i := 14) (d := some 6) (v := ?_) rfl rfl (by kernel_rfl) (by kernel_rfl) (by kernel_rfl) (fun _ _ _ h => h) (Or.inl ⟨by rfl, ?_⟩) (by assumption) ?_
    rotate_left
    · intro wS hSw; (try dsimp only at hSw); go_simp; (try with_reducible rfl)
    try simp only [Act.put, List.setIfInBounds_toArray, List.set_cons_zero, List.set_cons_succ]
    refine takeD (i := 15) (d := some 7) (v := ?_) rfl rfl (by kernel_rfl) (by kernel_rfl) (by kernel_rfl) (fun _ _ _ h => h) (Or.inl ⟨by rfl, ?_⟩) (by assumption) ?_
    rotate_left
    · intro wS hSw; (try dsimp only at hSw); go_simp; (try with_reducible rfl)
    try simp only [Act.put, List.setIfInBounds_toArray, List.set_cons_zero, List.set_cons_succ]
    refine wpAnyH_done (by kernel_rfl) ?_ _
    have hL := hM9
    clear d0 d1 d2 d3 d4 d5 d6
    have hq1 : RdS w9 w9.heap.size A1 L1 := by
      have hbq := hb4
      have hbq := hbq.trans (hb5.mono hbq.size)
      have hbq := hbq.trans (hb6.mono hbq.size)
      have hbq := hbq.trans (hb7.mono hbq.size)
      have hbq := hbq.trans (hb8.mono hbq.size)
      have hbq := hbq.trans (hb9.mono hbq.size)
      exact rds_more (rds_below hr1 hbq) hbq.size
    have hq8 : RdS w9 w9.heap.size A8 L8 := by
      have hbq := hb6
      have hbq := hbq.trans (hb7.mono hbq.size)
      have hbq := hbq.trans (hb8.mono hbq.size)
      have hbq := hbq.trans (hb9.mono hbq.size)
      exact rds_more (rds_below hr8 hbq) hbq.size
    have hq7 : RdS w9 w9.heap.size A7 L7 := by
      have hbq := hb8
      have hbq := hbq.trans (hb9.mono hbq.size)
      exact rds_more (rds_below hr7 hbq) hbq.size
    have hq6 := hr6
    have l1 := O1.out.2
    have l8 := O8.out.2
    have l7 := O7.out.2
    have l6 := O6.out.2
    have e1 := HN1.out
    have e8 := HN8.out
    have e7 := HN7.out
    have e6 := HN6.out
    have ma := fun W (hb : Below w9.heap.size w9 W) => rwithin_true A1 A8 n1 n8 cap1 cap8 w9.heap.size L1 L8 W (rds_below hq1 hb) (rds_below hq8 hb) e1.symm e8.symm O1.out.1 O8.out.1 hb.size (by omega) R1.out R8.out N1.out
    have mb := fun W (hb : Below w9.heap.size w9 W) => rwithin_true A7 A6 n7 n6 cap7 cap6 w9.heap.size L7 L6 W (rds_below hq7 hb) (rds_below hq6 hb) e7.symm e6.symm O7.out.1 O6.out.1 hb.size (by omega) R7.out R6.out N2.out
    have mc := fun W (hb : Below w9.heap.size w9 W) => rwithin_true A8 A6 n8 n6 cap8 cap6 w9.heap.size L8 L6 W (rds_below hq8 hb) (rds_below hq6 hb) e8.symm e6.symm O8.out.1 O6.out.1 hb.size (by omega) R8.out R6.out N3.out
    have md := fun (ha : a ≠ 0) => fun W (hb : Below w9.heap.size w9 W) => rwithin_true A8 A7 n8 n7 cap8 cap7 w9.heap.size L8 L7 W (rds_below hq8 hb) (rds_below hq7 hb) e8.symm e7.symm O8.out.1 O7.out.1 hb.size (by omega) R8.out R7.out (N4.out ha)
    clear l1 l8 l7 l6 e1 e8 e7 e6
    have hbE : Below w9.heap.size w9 w9 := Below.refl _ _
    go_wp2_with fail
    refine (cawake_any _ (tab_below HT.out (loc_below hL))).mono ?_
    rintro e y0 ⟨rfl, hy0⟩
    have hL := loc_call hL hy0
    have hbE := hbE.trans (hy0.mono hbE.size)
    clear hy0
    go_wp2_with fail
    refine (ma _ hbE).mono ?_
    rintro e y1 ⟨rfl, hy1⟩
    have hL := loc_call hL hy1
    have hbE := hbE.trans (hy1.mono hbE.size)
    clear hy1
    go_wp2_with fail
    refine (mb _ hbE).mono ?_
    rintro e y2 ⟨rfl, hy2⟩
    have hL := loc_call hL hy2
    have hbE := hbE.trans (hy2.mono hbE.size)
    clear hy2
    go_wp2_with fail
    refine (mc _ hbE).mono ?_
    rintro e y3 ⟨rfl, hy3⟩
    have hL := loc_call hL hy3
    have hbE := hbE.trans (hy3.mono hbE.size)
    clear hy3
    obtain ⟨d0, d1, d2, d3, d4, d5, d6⟩ := cells7L (loc_own hL 0 rfl).1
    by_cases ha : a = 0
    · have g0 : (a == 0) = true := by simpa using ha
      clear md ha
      go_wp2_with fail
      go_ret
      exact ⟨rfl, loc_below hL⟩
    · have g0 : (a == 0) = false := by simpa using ha
      have md2 := md ha _ hbE
      clear md ha
      go_wp2_with fail
      refine md2.mono ?_
      rintro e y4 ⟨rfl, hy4⟩
      have hL := loc_call hL hy4
      go_wp2_with fail
      go_ret
      exact ⟨rfl, loc_below hL⟩

set_option maxRecDepth 100000 in
theorem lifted (os : Os) (started : os.Started) (H : Type) (enc : TypeId × Value → H) :
    ReturnsInHanded {} Tryd.checked os 7 .any (fun w args => (Rows.compNestedSpec.pre enc Tryd.prog Tryd.f7 [] false w args ∧ laidMetH Tryd.prog Rows.compNestedRow.laid w) ∧ sizedMet enc Tryd.prog Tryd.f7 (OpenSpec.ofChange Rows.compNestedSpec) false w args) (Rows.compNestedSpec.post enc Tryd.prog Tryd.f7 false true false false) := by
  refine returnsInHanded_of_change_and (C := Tryd.checked) (X := fun w _ => laidMetH Tryd.prog Rows.compNestedRow.laid w) (fun _ _ _ hh h => h.of_heap hh) own started (by kernel_rfl) Tryd.func7
    (ChangeSpec.witness_shaped (enc := enc) (C := Tryd.checked) (os := os) (X := fun w _ => laidMetH Tryd.prog Rows.compNestedRow.laid w) false (World.doorLaid Tryd.prog 400 os) #[.slice none 0 0] 8 rfl (World.shaped_of_RefB (by kernel_rfl) (by kernel_rfl)) (by kernel_rfl) (by kernel_rfl) (by kernel_rfl)
      (laidMetH_of_parts3 (fuel := 8) (laidMet_of_run' 8 (by kernel_rfl) (by kernel_rfl)) (by kernel_rfl) (by kernel_rfl))) ?_
  intro W base args ds gs before hval0 hW _ _ hL _
  have hval : ∀ (j : Nat) t v, Tryd.f7.params[j]? = some t → args[j]? = some v → Value.okWide Tryd.prog W .any base t v := hval0
  have hW' := hW
  obtain ⟨p, q, hA0, hV, rfl, hfz, hnd⟩ := hW
  have hA : DataW.TrodAll enc Tryd.prog W 0 (fun _ => true) true Tryd.f7.params.toList args.toList ds p := hA0
  rw [Tryd.params7] at hA hval
  obtain ⟨v0, vs0, d0, ds0, p0, q0, hargs, rfl, rfl, h0, r0⟩ := trodAll_cons hA
  obtain ⟨rfl, rfl, rfl⟩ := trodAll_nil r0
  obtain rfl : args = #[v0] := by cases args; simp_all
  obtain ⟨rfl, rfl⟩ := trodVars_none hV
  obtain ⟨a0, len0, cap0, rfl⟩ := okWide_slice Tryd.underlying33 (hval 0 33 v0 rfl rfl)
  have k0 := h0
  have lt0 : ∀ x ∈ p0, x.block < W.heap.size := by obtain ⟨m, hm⟩ := k0; exact DataW.trod_lt m _ _ _ hm
  obtain ⟨z0, w0⟩ : ∃ zs, IsRow .i64 W a0 len0 cap0 zs := by
    obtain ⟨fuel, hf⟩ := h0
    rcases open_ints Tryd.underlying33 Tryd.underlying3 (by kernel_rfl) hf with ⟨hcs, _⟩ | ⟨x, l, c, zs, hcs, _, hl, hm, hz, _, hcell, hwz⟩
    · simp [Value.cells] at hcs
      obtain ⟨rfl, rfl, rfl⟩ := hcs
      exact ⟨[], .inl ⟨rfl, rfl, rfl, rfl⟩⟩
    · simp [Value.cells] at hcs
      obtain ⟨rfl, rfl, rfl⟩ := hcs
      exact ⟨zs, .inr ⟨_, rfl, hl, hm, by simpa using hz, hcell, hwz⟩⟩
  clear hA0 hval0
  refine (walk a0 len0 cap0 z0 W w0 (tab_of hL (by kernel_rfl) (MakeChecks.laidMetH_plain _ _ _ (by kernel_rfl)))).mono fun e W' ⟨he, bel⟩ => ?_
  subst he
  exact ⟨_, rfl, _, _, _, [], _, [], hW', trodAll_mk1 (shut_bool Tryd.underlying4 _), (trodAll_cons_mk (Below.trod laidOut (by kernel_rfl) (of_decide_eq_true (by kernel_rfl)) k0 bel lt0) trodAll_mk0), rfl, bel.frame _, fun h => by cases h⟩

theorem over : Rows.compNestedRow.holds Tryd.pinned (OpenSpec.ofChange Rows.compNestedSpec) :=
  OpenClaim.holds_of_wide 7 Tryd.f7 rfl rfl rfl rfl rfl rfl rfl ⟨rfl, rfl, rfl, rfl, rfl⟩ rfl rfl rfl rfl rfl (by kernel_rfl) Tryd.func7 (by kernel_rfl)
    (of_decide_eq_true (by kernel_rfl)) (by unfold Func.isWrapper; first | (rw [if_pos (by decide +kernel)]; kernel_rfl) | (rw [if_neg (by decide +kernel)]; exact ⟨rfl, rfl⟩))
    (fun os started H enc _ => lifted os started H enc)

theorem proved : Rows.CompNestedSaid := over
theorem plain (f : FuncId) (fn : Func) (hf : Tryd.pinned.checked.prog.funcNamed "linchpin/linchpinlaw6.CompNested" = some f) (hfn : Tryd.pinned.checked.prog.funcs[f]? = some fn) :
    false = Tryd.pinned.checked.prog.looks [] ∧ ∀ (j : Nat) t, fn.params[j]? = some t → Tryd.pinned.checked.prog.wantsStandIn t = false := by
  obtain rfl : f = 7 := Option.some.inj ((show Tryd.prog.funcNamed "linchpin/linchpinlaw6.CompNested" = some 7 by kernel_rfl).symm.trans hf) |>.symm
  obtain rfl : fn = Tryd.f7 := (Option.some.inj (Tryd.func7.symm.trans hfn)).symm
  refine ⟨by kernel_rfl, fun j t ht => ?_⟩
  rw [Tryd.params7] at ht
  have hm : t ∈ [33] := by simpa using Array.mem_of_getElem? ht
  have hall : ([33].all fun u => !Tryd.prog.wantsStandIn u) = true := by kernel_rfl
  exact (show Tryd.prog.wantsStandIn t = false by simpa using List.all_eq_true.1 hall t hm)

theorem card : Rows.CompNestedCardSaid :=
  Claim7.holds_tied_plain_at .later [] _ _ _ _ proved (fun _ h => by cases h) (by kernel_rfl) (fun _ h => by cases h) compNested_row_tie rfl ⟨rfl, rfl⟩ (by kernel_rfl) rfl plain (by kernel_rfl)
#print axioms card
end Go.Proofs.YthaagngoefieaaaDoor.compNested
