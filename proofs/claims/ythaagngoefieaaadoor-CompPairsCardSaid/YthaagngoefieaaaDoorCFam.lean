/-
  The walks of the statements' own Comp and Release; the fields of a version and of a comparator of the family. Conditions: the list's length and the place are bounded.
-/
import Derived.Test.YthaagngoefieaaaDoorVKeys
import Derived.Test.YthaagngoefieaaaDoorG5
namespace Go.Proofs.YthaagngoefieaaaDoor
open Go.ChangeShapes Go.WideShapes Go.ChangeAt Go.RowKit
set_option linter.unusedVariables false
set_option linter.unusedSimpArgs false

theorem pre_size {k : Nat} (h : k < 14) : (preT k).size ≤ 8 := by
  have hk : k = 0 ∨ k = 1 ∨ k = 2 ∨ k = 3 ∨ k = 4 ∨ k = 5 ∨ k = 6 ∨ k = 7 ∨ k = 8 ∨ k = 9 ∨ k = 10 ∨ k = 11 ∨ k = 12 ∨ k = 13 := by omega
  rcases hk with rfl | rfl | rfl | rfl | rfl | rfl | rfl | rfl | rfl | rfl | rfl | rfl | rfl | rfl <;> decide
theorem build_size {k : Nat} (h : k < 6) : (buildT k).size ≤ 8 := by
  have hk : k = 0 ∨ k = 1 ∨ k = 2 ∨ k = 3 ∨ k = 4 ∨ k = 5 := by omega
  rcases hk with rfl | rfl | rfl | rfl | rfl | rfl <;> decide
/-- A version of the statements: its fields. -/
theorem ver_fam (A : Option Addr) (c B : Nat) (l : List Int) (i : Int) (hl : l.length ≤ maxLen) (hw : ∀ z ∈ l, (Lit.int .i64 z).wf = true) (i0 : 0 ≤ i) (i1 : i ≤ 1000) :
    ∃ (x0 x1 x2 : Int) (x3 x4 : ByteArray) (r : Int), Fam (verS x0 x1 x2 x3 x4) r ∧ x3.size ≤ 8 ∧ x4.size ≤ 8 ∧ ∀ W : World, Rd W B A l.length (l.map (Value.int .i64)) → B ≤ W.heap.size →
      Calls Tryd.prog 19 #[.slice A l.length c, .int .i64 i] W fun e w' => e = .returned (.agg #[.int .i64 x0, .int .i64 x1, .int .i64 x2, .string x3, .string x4]) ∧ Below W.heap.size W w' :=
  ⟨_, _, _, _, _, _, fam_made (place_lt _ (by omega)) (place_lt _ (by omega)) (place_lt _ (by omega)) (place_lt _ (by omega)) (place_lt _ (by omega)), pre_size (place_lt _ (by omega)), build_size (place_lt _ (by omega)), fun W h hB => version_any A c B l i W h hB hl hw i0 i1⟩
theorem fam_core {a0 a1 a2 : Int} {a3 a4 : ByteArray} {r : Int} (h : Fam (verS a0 a1 a2 a3 a4) r) : Fam (verS a0 a1 a2 a3 ⟨#[]⟩) r := by
  obtain ⟨hm, i, hp, hr⟩ := h
  refine ⟨?_, i, hp, hr⟩
  unfold mayV verS at hm ⊢
  simp only [Bool.and_eq_true] at hm ⊢
  exact ⟨hm.1, by simp⟩
theorem rel_of {a b c : Int} {p q : ByteArray} {r : Int} (h : Fam (verS a b c p q) r) : Fam (verS a b c ⟨#[]⟩ ⟨#[]⟩) 10 := by
  obtain ⟨h0, h1, h2, _⟩ := fam_bd h
  exact rel_fam (rel_may.2 ⟨h0, h1, h2⟩)
theorem release_res (W : World) (tmps : Array Value) (b : Nat) {x0 x1 x2 x3 x4 : Value} (h2 : tmps[4]?.getD undef = .pointer (some ⟨b, 0, none⟩)) (h : Cells W b [x0, x1, x2, x3, x4]) :
    (results Tryd.f31 tmps).run Tryd.prog W = .ok (.agg #[x0, x1, x2, x3, x4]) W := by
  obtain ⟨k0, k1, k2, k3, k4⟩ := cells5L h
  simp [results, Tryd.results31, h2, go_sem, k0, k1, k2, k3, k4]
set_option maxHeartbeats 1000000 in
theorem release_fam (A : Option Addr) (c B : Nat) (l : List Int) (i : Int) (hl : l.length ≤ maxLen) (hw : ∀ z ∈ l, (Lit.int .i64 z).wf = true) (i0 : 0 ≤ i) (i1 : i ≤ 1000) :
    ∃ (x0 x1 x2 : Int), Fam (verS x0 x1 x2 ⟨#[]⟩ ⟨#[]⟩) 10 ∧ ∀ W : World, Rd W B A l.length (l.map (Value.int .i64)) → B ≤ W.heap.size →
      Calls Tryd.prog 31 #[.slice A l.length c, .int .i64 i] W fun e w' => e = .returned (.agg #[.int .i64 x0, .int .i64 x1, .int .i64 x2, .string ⟨#[]⟩, .string ⟨#[]⟩]) ∧ Below W.heap.size W w' := by
  obtain ⟨x0, x1, x2, x3, x4, r, hf, h3, h4, hc⟩ := ver_fam A c B l i hl hw i0 i1
  refine ⟨x0, x1, x2, rel_of hf, fun w hrd hB => ?_⟩
  have HRD := Lib.hid hrd
  clear hf hw hrd
  generalize l.length = n at *
  go_enter Tryd.func31, Tryd.ntmps31
  go_wp2_with fail
  have hL := loc_new (loc_start w) w.heap.size [.int .i64 0, .int .i64 0, .int .i64 0, .string ⟨#[]⟩, .string ⟨#[]⟩] 24
  refine (hc _ (rd_below HRD.out (hL.1.mono hB)) (Nat.le_trans hB hL.1.size)).mono ?_
  rintro e w1 ⟨rfl, hb1⟩
  have hL := loc_call hL hb1
  clear hb1
  obtain ⟨d0, d1, d2, d3, d4⟩ := cells5L (loc_own hL 0 rfl).1
  have f0 := (loc_own hL 0 rfl).2
  have z0 := loc_lt hL 0 rfl
  go_wp2_with fail
  have hM := loc_put hL 0 0 [.int .i64 x0, .int .i64 x1, .int .i64 x2, .string ⟨#[]⟩, .string ⟨#[]⟩] rfl (by simp)
  have hM2 := loc_box hM (.cells #[.int .i64 x0, .int .i64 x1, .int .i64 x2, .string ⟨#[]⟩, .string ⟨#[]⟩] 24)
  refine bodyPost_ret (release_res _ _ w.heap.size rfl (loc_own hM2 0 rfl).1) rfl ?_
  exact ⟨rfl, hM2.1⟩
theorem compf_res (W : World) (tmps : Array Value) (b : Nat) {x0 x1 x2 x3 x4 x5 x6 : Value} (h2 : tmps[4]?.getD undef = .pointer (some ⟨b, 0, none⟩)) (h : Cells W b [x0, x1, x2, x3, x4, x5, x6]) :
    (results Tryd.f18 tmps).run Tryd.prog W = .ok (.agg #[x0, x1, x2, x3, x4, x5, x6]) W := by
  obtain ⟨k0, k1, k2, k3, k4, k5, k6⟩ := cells7L h
  simp [results, Tryd.results18, h2, go_sem, k0, k1, k2, k3, k4, k5, k6]
/-- What Comp hands back is one that may be. -/
theorem compf_may {op ps a b c : Int} {p : ByteArray} {r : Int} (h : Fam (verS a b c p ⟨#[]⟩) r) (o1 : 1 ≤ op) (o2 : op ≤ 9) (p1 : leastC op ≤ ps) (p2 : ps ≤ mostC op) (hp : p.data.toList = [] ∨ 3 ≤ ps) (q0 : 0 < ps ∨ a = 0) (q1 : 1 < ps ∨ b = 0) (q2 : 2 < ps ∨ c = 0) : mayC (cmpS op ps a b c p ⟨#[]⟩) = true := by
  unfold mayC
  simp only [Bool.and_eq_true, Bool.or_eq_true, decide_eq_true_eq, List.isEmpty_iff]
  exact ⟨⟨⟨⟨⟨⟨⟨⟨⟨o1, o2⟩, h.1⟩, rfl⟩, p1⟩, p2⟩, hp⟩, q0⟩, q1⟩, q2⟩
set_option maxRecDepth 8192 in
set_option maxHeartbeats 4000000 in
theorem comp_fam (A : Option Addr) (k B : Nat) (l : List Int) (i : Int) (hl : l.length ≤ maxLen) (hw : ∀ z ∈ l, (Lit.int .i64 z).wf = true) (i0 : 0 ≤ i) (i1 : i ≤ 900) :
    ∃ (op ps a b c : Int) (p : ByteArray) (r : Int), mayC (cmpS op ps a b c p ⟨#[]⟩) = true ∧ Fam (verS a b c p ⟨#[]⟩) r ∧ p.size ≤ 8 ∧ ∀ W : World, Rd W B A l.length (l.map (Value.int .i64)) → B ≤ W.heap.size →
      Calls Tryd.prog 18 #[.slice A l.length k, .int .i64 i] W fun e w' => e = .returned (cvV op ps a b c p ⟨#[]⟩) ∧ Below W.heap.size W w' := by
  obtain ⟨x0, x1, x2, x3, x4, r, hf, h3, h4, hc⟩ := ver_fam A k B l i hl hw i0 (by omega)
  have hfc := fam_core hf
  obtain ⟨u0, u1, u2, _⟩ := fam_bd hf
  dsimp only [verS] at u0 u1 u2
  have c5 := fun W h => from_any A k B l (i + 5) 9 W h hl hw (by omega) (by omega)
  have c6 := fun W h => from_any A k B l (i + 6) 3 W h hl hw (by omega) (by omega)
  have g5 : fromN l (i + 5) 9 < 9 := place_lt _ (by omega)
  have g6 : fromN l (i + 6) 3 < 3 := place_lt _ (by omega)
  have j5 : (0 : Int) ≤ ((fromN l (i + 5) 9 : Nat) : Int) ∧ ((fromN l (i + 5) 9 : Nat) : Int) ≤ 8 := by omega
  have j6 : ((fromN l (i + 6) 3 : Nat) : Int) = 0 ∨ ((fromN l (i + 6) 3 : Nat) : Int) = 1 ∨ ((fromN l (i + 6) 3 : Nat) : Int) = 2 := by omega
  clear g5 g6
  have s5 : IntKind.i64.wrap (i + 5) = i + 5 := IntWalk.i64_in _ (by omega)
  have s6 : IntKind.i64.wrap (i + 6) = i + 6 := IntWalk.i64_in _ (by omega)
  generalize ((fromN l (i + 5) 9 : Nat) : Int) = n5 at *
  generalize ((fromN l (i + 6) 3 : Nat) : Int) = n6 at *
  obtain ⟨j5, j5'⟩ := j5
  by_cases h8 : n5 = 8
  · subst h8
    rcases j6 with rfl | rfl | rfl
    · refine ⟨9, 0, 0, 0, 0, ⟨#[]⟩, 10, ?_, rel_fam (rel_may.2 ⟨⟨by omega, by omega⟩, ⟨by omega, by omega⟩, ⟨by omega, by omega⟩⟩), by decide, fun w hrd hB => ?_⟩
      · exact compf_may (r := 10) (rel_fam (rel_may.2 ⟨⟨by omega, by omega⟩, ⟨by omega, by omega⟩, ⟨by omega, by omega⟩⟩)) (by omega) (by omega) (by unfold leastC; split <;> omega) (by unfold mostC; split <;> omega) (.inl rfl) (by omega) (by omega) (by omega)
      have HRD := Lib.hid hrd
      clear hf hfc hrd u0 u1 u2 hw h3
      unfold cvV
      go_enter Tryd.func18, Tryd.ntmps18
      go_wp2_with fail
      have hL := loc_new (loc_start w) w.heap.size [.int .i64 0, .int .i64 0, .int .i64 0, .int .i64 0, .int .i64 0, .string ⟨#[]⟩, .string ⟨#[]⟩] 26
      refine (c5 _ (rd_below HRD.out (hL.1.mono hB))).mono ?_
      rintro e w1 ⟨rfl, rfl⟩
      go_wp2_with fail
      refine (c6 _ (rd_below HRD.out (hL.1.mono hB))).mono ?_
      rintro e w1 ⟨rfl, rfl⟩
      go_wp2_with fail
      refine (hc _ (rd_below HRD.out (hL.1.mono hB)) (Nat.le_trans hB hL.1.size)).mono ?_
      rintro e w1 ⟨rfl, hb1⟩
      have hL := loc_call hL hb1
      clear hb1
      go_upto_region 12 with fail
      have hL := loc_new hL w1.heap.size [.int .i64 9, .int .i64 0, .int .i64 0, .int .i64 0, .int .i64 0, .string ⟨#[]⟩, .string ⟨#[]⟩] 26
      generalize hW : World.alloc _ _ = W2
      have hL : Loc w W2 [(w.heap.size, [.int .i64 0, .int .i64 0, .int .i64 0, .int .i64 0, .int .i64 0, .string ⟨#[]⟩, .string ⟨#[]⟩]), (w1.heap.size, [.int .i64 9, .int .i64 0, .int .i64 0, .int .i64 0, .int .i64 0, .string ⟨#[]⟩, .string ⟨#[]⟩])] := by rw [← hW]; exact hL
      clear hW
      generalize w1.heap.size = b2 at *
      obtain ⟨d0, d1, d2, d3, d4, d5, d6⟩ := cells7L (loc_own hL 0 rfl).1
      obtain ⟨g0, g1, g2, g3, g4, g5, g6⟩ := cells7L (loc_own hL 1 rfl).1
      have f0 := (loc_own hL 0 rfl).2
      go_wp2_with fail
      have hM := loc_put hL 0 0 [.int .i64 9, .int .i64 0, .int .i64 0, .int .i64 0, .int .i64 0, .string ⟨#[]⟩, .string ⟨#[]⟩] rfl (by simp)
      refine bodyPost_ret (compf_res _ _ w.heap.size rfl (loc_own hM 0 rfl).1) rfl ?_
      exact ⟨rfl, hM.1⟩
    · refine ⟨9, 1, x0, 0, 0, ⟨#[]⟩, 10, ?_, rel_fam (rel_may.2 ⟨u0, ⟨by omega, by omega⟩, ⟨by omega, by omega⟩⟩), by decide, fun w hrd hB => ?_⟩
      · exact compf_may (r := 10) (rel_fam (rel_may.2 ⟨u0, ⟨by omega, by omega⟩, ⟨by omega, by omega⟩⟩)) (by omega) (by omega) (by unfold leastC; split <;> omega) (by unfold mostC; split <;> omega) (.inl rfl) (by omega) (by omega) (by omega)
      have HRD := Lib.hid hrd
      clear hf hfc hrd u0 u1 u2 hw h3
      unfold cvV
      go_enter Tryd.func18, Tryd.ntmps18
      go_wp2_with fail
      have hL := loc_new (loc_start w) w.heap.size [.int .i64 0, .int .i64 0, .int .i64 0, .int .i64 0, .int .i64 0, .string ⟨#[]⟩, .string ⟨#[]⟩] 26
      refine (c5 _ (rd_below HRD.out (hL.1.mono hB))).mono ?_
      rintro e w1 ⟨rfl, rfl⟩
      go_wp2_with fail
      refine (c6 _ (rd_below HRD.out (hL.1.mono hB))).mono ?_
      rintro e w1 ⟨rfl, rfl⟩
      go_wp2_with fail
      refine (hc _ (rd_below HRD.out (hL.1.mono hB)) (Nat.le_trans hB hL.1.size)).mono ?_
      rintro e w1 ⟨rfl, hb1⟩
      have hL := loc_call hL hb1
      clear hb1
      go_upto_region 12 with fail
      have hL := loc_new hL w1.heap.size [.int .i64 9, .int .i64 1, .int .i64 x0, .int .i64 0, .int .i64 0, .string ⟨#[]⟩, .string ⟨#[]⟩] 26
      generalize hW : World.alloc _ _ = W2
      have hL : Loc w W2 [(w.heap.size, [.int .i64 0, .int .i64 0, .int .i64 0, .int .i64 0, .int .i64 0, .string ⟨#[]⟩, .string ⟨#[]⟩]), (w1.heap.size, [.int .i64 9, .int .i64 1, .int .i64 x0, .int .i64 0, .int .i64 0, .string ⟨#[]⟩, .string ⟨#[]⟩])] := by rw [← hW]; exact hL
      clear hW
      generalize w1.heap.size = b2 at *
      obtain ⟨d0, d1, d2, d3, d4, d5, d6⟩ := cells7L (loc_own hL 0 rfl).1
      obtain ⟨g0, g1, g2, g3, g4, g5, g6⟩ := cells7L (loc_own hL 1 rfl).1
      have f0 := (loc_own hL 0 rfl).2
      go_wp2_with fail
      have hM := loc_put hL 0 0 [.int .i64 9, .int .i64 1, .int .i64 x0, .int .i64 0, .int .i64 0, .string ⟨#[]⟩, .string ⟨#[]⟩] rfl (by simp)
      refine bodyPost_ret (compf_res _ _ w.heap.size rfl (loc_own hM 0 rfl).1) rfl ?_
      exact ⟨rfl, hM.1⟩
    · refine ⟨9, 2, x0, x1, 0, ⟨#[]⟩, 10, ?_, rel_fam (rel_may.2 ⟨u0, u1, ⟨by omega, by omega⟩⟩), by decide, fun w hrd hB => ?_⟩
      · exact compf_may (r := 10) (rel_fam (rel_may.2 ⟨u0, u1, ⟨by omega, by omega⟩⟩)) (by omega) (by omega) (by unfold leastC; split <;> omega) (by unfold mostC; split <;> omega) (.inl rfl) (by omega) (by omega) (by omega)
      have HRD := Lib.hid hrd
      clear hf hfc hrd u0 u1 u2 hw h3
      unfold cvV
      go_enter Tryd.func18, Tryd.ntmps18
      go_wp2_with fail
      have hL := loc_new (loc_start w) w.heap.size [.int .i64 0, .int .i64 0, .int .i64 0, .int .i64 0, .int .i64 0, .string ⟨#[]⟩, .string ⟨#[]⟩] 26
      refine (c5 _ (rd_below HRD.out (hL.1.mono hB))).mono ?_
      rintro e w1 ⟨rfl, rfl⟩
      go_wp2_with fail
      refine (c6 _ (rd_below HRD.out (hL.1.mono hB))).mono ?_
      rintro e w1 ⟨rfl, rfl⟩
      go_wp2_with fail
      refine (hc _ (rd_below HRD.out (hL.1.mono hB)) (Nat.le_trans hB hL.1.size)).mono ?_
      rintro e w1 ⟨rfl, hb1⟩
      have hL := loc_call hL hb1
      clear hb1
      go_upto_region 12 with fail
      have hL := loc_new hL w1.heap.size [.int .i64 9, .int .i64 2, .int .i64 x0, .int .i64 x1, .int .i64 0, .string ⟨#[]⟩, .string ⟨#[]⟩] 26
      generalize hW : World.alloc _ _ = W2
      have hL : Loc w W2 [(w.heap.size, [.int .i64 0, .int .i64 0, .int .i64 0, .int .i64 0, .int .i64 0, .string ⟨#[]⟩, .string ⟨#[]⟩]), (w1.heap.size, [.int .i64 9, .int .i64 2, .int .i64 x0, .int .i64 x1, .int .i64 0, .string ⟨#[]⟩, .string ⟨#[]⟩])] := by rw [← hW]; exact hL
      clear hW
      generalize w1.heap.size = b2 at *
      obtain ⟨d0, d1, d2, d3, d4, d5, d6⟩ := cells7L (loc_own hL 0 rfl).1
      obtain ⟨g0, g1, g2, g3, g4, g5, g6⟩ := cells7L (loc_own hL 1 rfl).1
      have f0 := (loc_own hL 0 rfl).2
      go_wp2_with fail
      have hM := loc_put hL 0 0 [.int .i64 9, .int .i64 2, .int .i64 x0, .int .i64 x1, .int .i64 0, .string ⟨#[]⟩, .string ⟨#[]⟩] rfl (by simp)
      refine bodyPost_ret (compf_res _ _ w.heap.size rfl (loc_own hM 0 rfl).1) rfl ?_
      exact ⟨rfl, hM.1⟩
  · have s1 : IntKind.i64.wrap (1 + n5) = 1 + n5 := IntWalk.i64_in _ (by omega)
    have e9 : ((1 + n5) == 9) = false := by simp; omega
    have t1 : 1 ≤ 1 + n5 := by omega
    have t2 : 1 + n5 ≤ 8 := by omega
    clear h8
    rcases j6 with rfl | rfl | rfl
    · refine ⟨(1 + n5), 1, x0, 0, 0, ⟨#[]⟩, 10, ?_, rel_fam (rel_may.2 ⟨u0, ⟨by omega, by omega⟩, ⟨by omega, by omega⟩⟩), by decide, fun w hrd hB => ?_⟩
      · exact compf_may (r := 10) (rel_fam (rel_may.2 ⟨u0, ⟨by omega, by omega⟩, ⟨by omega, by omega⟩⟩)) (by omega) (by omega) (by unfold leastC; split <;> omega) (by unfold mostC; split <;> omega) (.inl rfl) (by omega) (by omega) (by omega)
      have HRD := Lib.hid hrd
      clear hf hfc hrd u0 u1 u2 hw h3
      unfold cvV
      go_enter Tryd.func18, Tryd.ntmps18
      go_wp2_with fail
      have hL := loc_new (loc_start w) w.heap.size [.int .i64 0, .int .i64 0, .int .i64 0, .int .i64 0, .int .i64 0, .string ⟨#[]⟩, .string ⟨#[]⟩] 26
      refine (c5 _ (rd_below HRD.out (hL.1.mono hB))).mono ?_
      rintro e w1 ⟨rfl, rfl⟩
      go_wp2_with fail
      refine (c6 _ (rd_below HRD.out (hL.1.mono hB))).mono ?_
      rintro e w1 ⟨rfl, rfl⟩
      go_wp2_with fail
      refine (hc _ (rd_below HRD.out (hL.1.mono hB)) (Nat.le_trans hB hL.1.size)).mono ?_
      rintro e w1 ⟨rfl, hb1⟩
      have hL := loc_call hL hb1
      clear hb1
      go_upto_region 12 with fail
      have hL := loc_new hL w1.heap.size [.int .i64 (1 + n5), .int .i64 1, .int .i64 x0, .int .i64 0, .int .i64 0, .string ⟨#[]⟩, .string ⟨#[]⟩] 26
      generalize hW : World.alloc _ _ = W2
      have hL : Loc w W2 [(w.heap.size, [.int .i64 0, .int .i64 0, .int .i64 0, .int .i64 0, .int .i64 0, .string ⟨#[]⟩, .string ⟨#[]⟩]), (w1.heap.size, [.int .i64 (1 + n5), .int .i64 1, .int .i64 x0, .int .i64 0, .int .i64 0, .string ⟨#[]⟩, .string ⟨#[]⟩])] := by rw [← hW]; exact hL
      clear hW
      generalize w1.heap.size = b2 at *
      obtain ⟨d0, d1, d2, d3, d4, d5, d6⟩ := cells7L (loc_own hL 0 rfl).1
      obtain ⟨g0, g1, g2, g3, g4, g5, g6⟩ := cells7L (loc_own hL 1 rfl).1
      have f0 := (loc_own hL 0 rfl).2
      go_wp2_with fail
      have hM := loc_put hL 0 0 [.int .i64 (1 + n5), .int .i64 1, .int .i64 x0, .int .i64 0, .int .i64 0, .string ⟨#[]⟩, .string ⟨#[]⟩] rfl (by simp)
      refine bodyPost_ret (compf_res _ _ w.heap.size rfl (loc_own hM 0 rfl).1) rfl ?_
      exact ⟨rfl, hM.1⟩
    · refine ⟨(1 + n5), 2, x0, x1, 0, ⟨#[]⟩, 10, ?_, rel_fam (rel_may.2 ⟨u0, u1, ⟨by omega, by omega⟩⟩), by decide, fun w hrd hB => ?_⟩
      · exact compf_may (r := 10) (rel_fam (rel_may.2 ⟨u0, u1, ⟨by omega, by omega⟩⟩)) (by omega) (by omega) (by unfold leastC; split <;> omega) (by unfold mostC; split <;> omega) (.inl rfl) (by omega) (by omega) (by omega)
      have HRD := Lib.hid hrd
      clear hf hfc hrd u0 u1 u2 hw h3
      unfold cvV
      go_enter Tryd.func18, Tryd.ntmps18
      go_wp2_with fail
      have hL := loc_new (loc_start w) w.heap.size [.int .i64 0, .int .i64 0, .int .i64 0, .int .i64 0, .int .i64 0, .string ⟨#[]⟩, .string ⟨#[]⟩] 26
      refine (c5 _ (rd_below HRD.out (hL.1.mono hB))).mono ?_
      rintro e w1 ⟨rfl, rfl⟩
      go_wp2_with fail
      refine (c6 _ (rd_below HRD.out (hL.1.mono hB))).mono ?_
      rintro e w1 ⟨rfl, rfl⟩
      go_wp2_with fail
      refine (hc _ (rd_below HRD.out (hL.1.mono hB)) (Nat.le_trans hB hL.1.size)).mono ?_
      rintro e w1 ⟨rfl, hb1⟩
      have hL := loc_call hL hb1
      clear hb1
      go_upto_region 12 with fail
      have hL := loc_new hL w1.heap.size [.int .i64 (1 + n5), .int .i64 2, .int .i64 x0, .int .i64 x1, .int .i64 0, .string ⟨#[]⟩, .string ⟨#[]⟩] 26
      generalize hW : World.alloc _ _ = W2
      have hL : Loc w W2 [(w.heap.size, [.int .i64 0, .int .i64 0, .int .i64 0, .int .i64 0, .int .i64 0, .string ⟨#[]⟩, .string ⟨#[]⟩]), (w1.heap.size, [.int .i64 (1 + n5), .int .i64 2, .int .i64 x0, .int .i64 x1, .int .i64 0, .string ⟨#[]⟩, .string ⟨#[]⟩])] := by rw [← hW]; exact hL
      clear hW
      generalize w1.heap.size = b2 at *
      obtain ⟨d0, d1, d2, d3, d4, d5, d6⟩ := cells7L (loc_own hL 0 rfl).1
      obtain ⟨g0, g1, g2, g3, g4, g5, g6⟩ := cells7L (loc_own hL 1 rfl).1
      have f0 := (loc_own hL 0 rfl).2
      go_wp2_with fail
      have hM := loc_put hL 0 0 [.int .i64 (1 + n5), .int .i64 2, .int .i64 x0, .int .i64 x1, .int .i64 0, .string ⟨#[]⟩, .string ⟨#[]⟩] rfl (by simp)
      refine bodyPost_ret (compf_res _ _ w.heap.size rfl (loc_own hM 0 rfl).1) rfl ?_
      exact ⟨rfl, hM.1⟩
    · refine ⟨(1 + n5), 3, x0, x1, x2, x3, r, ?_, hfc, h3, fun w hrd hB => ?_⟩
      · exact compf_may (r := r) hfc (by omega) (by omega) (by unfold leastC; split <;> omega) (by unfold mostC; split <;> omega) (.inr (by omega)) (by omega) (by omega) (by omega)
      have HRD := Lib.hid hrd
      clear hf hfc hrd u0 u1 u2 hw h3
      unfold cvV
      go_enter Tryd.func18, Tryd.ntmps18
      go_wp2_with fail
      have hL := loc_new (loc_start w) w.heap.size [.int .i64 0, .int .i64 0, .int .i64 0, .int .i64 0, .int .i64 0, .string ⟨#[]⟩, .string ⟨#[]⟩] 26
      refine (c5 _ (rd_below HRD.out (hL.1.mono hB))).mono ?_
      rintro e w1 ⟨rfl, rfl⟩
      go_wp2_with fail
      refine (c6 _ (rd_below HRD.out (hL.1.mono hB))).mono ?_
      rintro e w1 ⟨rfl, rfl⟩
      go_wp2_with fail
      refine (hc _ (rd_below HRD.out (hL.1.mono hB)) (Nat.le_trans hB hL.1.size)).mono ?_
      rintro e w1 ⟨rfl, hb1⟩
      have hL := loc_call hL hb1
      clear hb1
      go_upto_region 12 with fail
      have hL := loc_new hL w1.heap.size [.int .i64 (1 + n5), .int .i64 3, .int .i64 x0, .int .i64 x1, .int .i64 x2, .string x3, .string ⟨#[]⟩] 26
      generalize hW : World.alloc _ _ = W2
      have hL : Loc w W2 [(w.heap.size, [.int .i64 0, .int .i64 0, .int .i64 0, .int .i64 0, .int .i64 0, .string ⟨#[]⟩, .string ⟨#[]⟩]), (w1.heap.size, [.int .i64 (1 + n5), .int .i64 3, .int .i64 x0, .int .i64 x1, .int .i64 x2, .string x3, .string ⟨#[]⟩])] := by rw [← hW]; exact hL
      clear hW
      generalize w1.heap.size = b2 at *
      obtain ⟨d0, d1, d2, d3, d4, d5, d6⟩ := cells7L (loc_own hL 0 rfl).1
      obtain ⟨g0, g1, g2, g3, g4, g5, g6⟩ := cells7L (loc_own hL 1 rfl).1
      have f0 := (loc_own hL 0 rfl).2
      go_wp2_with fail
      have hM := loc_put hL 0 0 [.int .i64 (1 + n5), .int .i64 3, .int .i64 x0, .int .i64 x1, .int .i64 x2, .string x3, .string ⟨#[]⟩] rfl (by simp)
      refine bodyPost_ret (compf_res _ _ w.heap.size rfl (loc_own hM 0 rfl).1) rfl ?_
      exact ⟨rfl, hM.1⟩
end Go.Proofs.YthaagngoefieaaaDoor
