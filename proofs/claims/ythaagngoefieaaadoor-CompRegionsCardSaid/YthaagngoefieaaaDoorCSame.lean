/-
  Spans held against each other by '!='; the walk of chapter 4's reference Same. Conditions: Pre and Build of each cut have at most 1048576 bytes.
-/
import Derived.Test.YthaagngoefieaaaDoorCRowMay
import Derived.Laws.StructEq
import Derived.Test.YthaagngoefieaaaDoorG3
namespace Go.Proofs.YthaagngoefieaaaDoor
open Go.ChangeShapes Go.WideShapes Go.ChangeAt Go.RowKit
set_option linter.unusedVariables false
set_option linter.unusedSimpArgs false

def eqS (e a x c : Int) (p q : ByteArray) (f : Bool) (e' a' x' c' : Int) (p' q' : ByteArray) (f' : Bool) (g i j k : Int) (y z : ByteArray) (h : Bool) (g' i' j' k' : Int) (y' z' : ByteArray) (h' : Bool) : Bool := (e == g) && (a == i) && (x == j) && (c == k) && (p.toList == y.toList) && (q.toList == z.toList) && (f == h) && (e' == g') && (a' == i') && (x' == j') && (c' == k') && (p'.toList == y'.toList) && (q'.toList == z'.toList) && (f' == h')
set_option maxHeartbeats 4000000 in
theorem run_neS (e a x c : Int) (p q : ByteArray) (f : Bool) (e' a' x' c' : Int) (p' q' : ByteArray) (f' : Bool) (g i j k : Int) (y z : ByteArray) (h : Bool) (g' i' j' k' : Int) (y' z' : ByteArray) (h' : Bool) (W : World) :
    (binOp .neq 50 (.agg #[.int .i64 e, .int .i64 a, .int .i64 x, .int .i64 c, .string p, .string q, .bool f, .int .i64 e', .int .i64 a', .int .i64 x', .int .i64 c', .string p', .string q', .bool f']) (.agg #[.int .i64 g, .int .i64 i, .int .i64 j, .int .i64 k, .string y, .string z, .bool h, .int .i64 g', .int .i64 i', .int .i64 j', .int .i64 k', .string y', .string z', .bool h'])).run Tryd.prog W = .ok (.bool (!eqS e a x c p q f e' a' x' c' p' q' f' g i j k y z h g' i' j' k' y' z' h')) W := by
  unfold eqS
  cases h0 : (e == g)
  · go_simp
  cases h1 : (a == i)
  · go_simp
  cases h2 : (x == j)
  · go_simp
  cases h3 : (c == k)
  · go_simp
  cases h4 : (p.toList == y.toList)
  · go_simp
  cases h5 : (q.toList == z.toList)
  · go_simp
  cases h6 : (f == h)
  · go_simp
  cases h7 : (e' == g')
  · go_simp
  cases h8 : (a' == i')
  · go_simp
  cases h9 : (x' == j')
  · go_simp
  cases h10 : (c' == k')
  · go_simp
  cases h11 : (p'.toList == y'.toList)
  · go_simp
  cases h12 : (q'.toList == z'.toList)
  · go_simp
  cases h13 : (f' == h')
  · go_simp
  go_simp
theorem eqS_is (e a x c : Int) (p q : ByteArray) (f : Bool) (e' a' x' c' : Int) (p' q' : ByteArray) (f' : Bool) (g i j k : Int) (y z : ByteArray) (h : Bool) (g' i' j' k' : Int) (y' z' : ByteArray) (h' : Bool) : eqS e a x c p q f e' a' x' c' p' q' f' g i j k y z h g' i' j' k' y' z' h' = decide ((⟨cutS e a x c p q f, cutS e' a' x' c' p' q' f'⟩ : SpanC) = ⟨cutS g i j k y z h, cutS g' i' j' k' y' z' h'⟩) := by
  unfold eqS
  rw [bytes_beq, bytes_beq, bytes_beq, bytes_beq, Bool.eq_iff_iff]
  simp [cutS, verS, and_assoc]

theorem take_same {l l' : List SpanC} {k : Nat} {s s' : SpanC} (h : l.take k = l'.take k) (hs : l[k]? = some s) (hs' : l'[k]? = some s') (he : s = s') : l.take (k + 1) = l'.take (k + 1) := by
  obtain ⟨h1, rfl⟩ := List.getElem?_eq_some_iff.1 hs
  obtain ⟨h2, rfl⟩ := List.getElem?_eq_some_iff.1 hs'
  rw [List.take_succ_eq_append_getElem h1, List.take_succ_eq_append_getElem h2, h, he]
set_option maxRecDepth 8192 in
set_option maxHeartbeats 4000000 in
theorem rsame_any (A A' : Option Addr) (n n' cap cap' B B' : Nat) (l l' : List SpanC) (w : World) (h : RdS w B A l) (h' : RdS w B' A' l') (hl : l.length = n) (hl' : l'.length = n') (hok : ∀ s ∈ l, okS s) (hok' : ∀ s ∈ l', okS s) (hB : B ≤ w.heap.size) (hB' : B' ≤ w.heap.size) (hn : n ≤ 1073741824) (hn' : n' ≤ 1073741824) :
    Calls Tryd.prog 23 #[.slice A n cap, .slice A' n' cap'] w fun e w' => e = .returned (.bool (decide (l = l'))) ∧ Below w.heap.size w w' := by
  by_cases hnn : n = n'
  · subst hnn
    have H := Lib.hid h
    have H' := Lib.hid h'
    have HL := Lib.hid hl
    have HL' := Lib.hid hl'
    clear h h' hl hl'
    go_enter Tryd.func23, Tryd.ntmps23
    go_wp2
    go_loopw [5] (fun i wr => ∃ k : Nat, k ≤ n ∧ i = .int .i64 k ∧ Hid (l.take k = l'.take k) ∧ Below w.heap.size w wr) (fun i _ => n - (intOf i).toNat)
    case atStart => exact ⟨0, by omega, rfl, Lib.hid rfl, Below.refl _ _⟩
    case round =>
      obtain ⟨k, hk, rfl, HS, hbel⟩ := hrel
      by_cases hlt : k < n
      · obtain ⟨b, e, a, x, c, p, q, f, e2, a2, x2, c2, p2, q2, f2, rfl, hb1, hs, -, k0, k1, k2, k3, k4, k5, k6, k7, k8, k9, k10, k11, k12, k13⟩ := rds_at (rds_below H.out (hbel.mono hB)) hok (k := k) (by rw [HL.out]; exact hlt)
        obtain ⟨b2, g1, g2, g3, g4, y, z, g, o1, o2, o3, o4, y2, z2, o5, rfl, hb2, hs2, -, j0, j1, j2, j3, j4, j5, j6, j7, j8, j9, j10, j11, j12, j13⟩ := rds_at (rds_below H'.out (hbel.mono hB')) hok' (k := k) (by rw [HL'.out]; exact hlt)
        have hne := fun W => run_neS e a x c p q f e2 a2 x2 c2 p2 q2 f2 g1 g2 g3 g4 y z g o1 o2 o3 o4 y2 z2 o5 W
        have heq := eqS_is e a x c p q f e2 a2 x2 c2 p2 q2 f2 g1 g2 g3 g4 y z g o1 o2 o3 o4 y2 z2 o5
        have i1 : (k : Int) < (n : Int) := by omega
        generalize eqS e a x c p q f e2 a2 x2 c2 p2 q2 f2 g1 g2 g3 g4 y z g o1 o2 o3 o4 y2 z2 o5 = r at *
        cases r
        · have HE : Hid (decide (l = l') = false) := decide_eq_false (fun hll => by
            have h0 : (⟨cutS e a x c p q f, cutS e2 a2 x2 c2 p2 q2 f2⟩ : SpanC) = ⟨cutS g1 g2 g3 g4 y z g, cutS o1 o2 o3 o4 y2 z2 o5⟩ := by rw [hll, hs2] at hs; exact (Option.some.inj hs).symm
            rw [h0] at heq
            simp at heq)
          clear hs hs2 heq
          go_wp2_with fail

          refine wp_region_held_drew (S := fun W => (W.cell? ⟨b, k * 14, none⟩ = some (.int .i64 e) ∧ W.cell? ⟨b, k * 14 + 1, none⟩ = some (.int .i64 a) ∧ W.cell? ⟨b, k * 14 + 2, none⟩ = some (.int .i64 x) ∧ W.cell? ⟨b, k * 14 + 3, none⟩ = some (.int .i64 c) ∧ W.cell? ⟨b, k * 14 + 4, none⟩ = some (.string p) ∧ W.cell? ⟨b, k * 14 + 5, none⟩ = some (.string q) ∧ W.cell? ⟨b, k * 14 + 6, none⟩ = some (.bool f) ∧ W.cell? ⟨b, k * 14 + 7, none⟩ = some (.int .i64 e2) ∧ W.cell? ⟨b, k * 14 + 8, none⟩ = some (.int .i64 a2) ∧ W.cell? ⟨b, k * 14 + 9, none⟩ = some (.int .i64 x2) ∧ W.cell? ⟨b, k * 14 + 10, none⟩ = some (.int .i64 c2) ∧ W.cell? ⟨b, k * 14 + 11, none⟩ = some (.string p2) ∧ W.cell? ⟨b, k * 14 + 12, none⟩ = some (.string q2) ∧ W.cell? ⟨b, k * 14 + 13, none⟩ = some (.bool f2)) ∧ (W.cell? ⟨b2, k * 14, none⟩ = some (.int .i64 g1) ∧ W.cell? ⟨b2, k * 14 + 1, none⟩ = some (.int .i64 g2) ∧ W.cell? ⟨b2, k * 14 + 2, none⟩ = some (.int .i64 g3) ∧ W.cell? ⟨b2, k * 14 + 3, none⟩ = some (.int .i64 g4) ∧ W.cell? ⟨b2, k * 14 + 4, none⟩ = some (.string y) ∧ W.cell? ⟨b2, k * 14 + 5, none⟩ = some (.string z) ∧ W.cell? ⟨b2, k * 14 + 6, none⟩ = some (.bool g) ∧ W.cell? ⟨b2, k * 14 + 7, none⟩ = some (.int .i64 o1) ∧ W.cell? ⟨b2, k * 14 + 8, none⟩ = some (.int .i64 o2) ∧ W.cell? ⟨b2, k * 14 + 9, none⟩ = some (.int .i64 o3) ∧ W.cell? ⟨b2, k * 14 + 10, none⟩ = some (.int .i64 o4) ∧ W.cell? ⟨b2, k * 14 + 11, none⟩ = some (.string y2) ∧ W.cell? ⟨b2, k * 14 + 12, none⟩ = some (.string z2) ∧ W.cell? ⟨b2, k * 14 + 13, none⟩ = some (.bool o5))) (by kernel_rfl) ⟨⟨k0, k1, k2, k3, k4, k5, k6, k7, k8, k9, k10, k11, k12, k13⟩, ⟨j0, j1, j2, j3, j4, j5, j6, j7, j8, j9, j10, j11, j12, j13⟩⟩ (fun hHeld => ?_)
          refine takeD (i := 0) (d := some 17) (v := ?_) rfl rfl (by kernel_rfl) (by kernel_rfl) (by kernel_rfl) (fun _ _ _ h => h) (Or.inl ⟨by rfl, ?_⟩) (by assumption) ?_
          rotate_left
          · intro wS hSw; (try dsimp only at hSw); go_simp; (try with_reducible rfl)
          try simp only [Act.put, List.setIfInBounds_toArray, List.set_cons_zero, List.set_cons_succ]
          refine takeD (i := 1) (d := some 18) (v := ?_) rfl rfl (by kernel_rfl) (by kernel_rfl) (by kernel_rfl) (fun _ _ _ h => h) (Or.inl ⟨by rfl, ?_⟩) (by assumption) ?_
          rotate_left
          · intro wS hSw; (try dsimp only at hSw); go_simp; (try with_reducible rfl)
          try simp only [Act.put, List.setIfInBounds_toArray, List.set_cons_zero, List.set_cons_succ]
          refine takeD (i := 2) (d := some 19) (v := ?_) rfl rfl (by kernel_rfl) (by kernel_rfl) (by kernel_rfl) (fun _ _ _ h => h) (Or.inl ⟨by rfl, ?_⟩) (by assumption) ?_
          rotate_left
          · intro wS hSw; (try dsimp only at hSw); go_simp; (try with_reducible rfl)
          try simp only [Act.put, List.setIfInBounds_toArray, List.set_cons_zero, List.set_cons_succ]
          refine takeD (i := 3) (d := some 20) (v := ?_) rfl rfl (by kernel_rfl) (by kernel_rfl) (by kernel_rfl) (fun _ _ _ h => h) (Or.inl ⟨by rfl, ?_⟩) (by assumption) ?_
          rotate_left
          · intro wS hSw; (try dsimp only at hSw); go_simp; (try with_reducible rfl)
          try simp only [Act.put, List.setIfInBounds_toArray, List.set_cons_zero, List.set_cons_succ]
          refine takeD (i := 4) (d := some 21) (v := ?_) rfl rfl (by kernel_rfl) (by kernel_rfl) (by kernel_rfl) (fun _ _ _ h => h) (Or.inl ⟨by rfl, ?_⟩) (by assumption) ?_
          rotate_left
          · intro wS hSw; (try dsimp only at hSw); go_simp; (try with_reducible rfl)
          try simp only [Act.put, List.setIfInBounds_toArray, List.set_cons_zero, List.set_cons_succ]
          refine takeD (i := 5) (d := some 22) (v := ?_) rfl rfl (by kernel_rfl) (by kernel_rfl) (by kernel_rfl) (fun _ _ _ h => h) (Or.inl ⟨by rfl, ?_⟩) (by assumption) ?_
          rotate_left
          · intro wS hSw; (try dsimp only at hSw); go_simp; (try with_reducible rfl)
          try simp only [Act.put, List.setIfInBounds_toArray, List.set_cons_zero, List.set_cons_succ]
          refine takeD (i := 6) (d := some 23) (v := ?_) rfl rfl (by kernel_rfl) (by kernel_rfl) (by kernel_rfl) (fun _ _ _ h => h) (Or.inl ⟨by rfl, ?_⟩) (by assumption) ?_
          rotate_left
          · intro wS hSw; (try dsimp only at hSw); go_simp; (try with_reducible rfl)
          try simp only [Act.put, List.setIfInBounds_toArray, List.set_cons_zero, List.set_cons_succ]
          refine takeD (i := 7) (d := some 24) (v := ?_) rfl rfl (by kernel_rfl) (by kernel_rfl) (by kernel_rfl) (fun _ _ _ h => h) (Or.inl ⟨by rfl, ?_⟩) (by assumption) ?_
          rotate_left
          · intro wS hSw; (try dsimp only at hSw); go_simp; (try with_reducible rfl)
          try simp only [Act.put, List.setIfInBounds_toArray, List.set_cons_zero, List.set_cons_succ]
          refine takeD (i := 8) (d := some 25) (v := ?_) rfl rfl (by kernel_rfl) (by kernel_rfl) (by kernel_rfl) (fun _ _ _ h => h) (Or.inl ⟨by rfl, ?_⟩) (by assumption) ?_
          rotate_left
          · intro wS hSw; (try dsimp only at hSw); go_simp; (try with_reducible rfl)
          try simp only [Act.put, List.setIfInBounds_toArray, List.set_cons_zero, List.set_cons_succ]
          refine wpAnyH_done (by kernel_rfl) ?_ _
          go_wp2_with fail
          go_ret
          exact ⟨ret_bool HE.out.symm, below_drewN hbel 1⟩
        · have HN := Lib.hid (take_same HS.out hs hs2 (of_decide_eq_true heq.symm))
          clear hs hs2 heq
          go_wp2_with fail
          refine wp_region_held_drew (S := fun W => (W.cell? ⟨b, k * 14, none⟩ = some (.int .i64 e) ∧ W.cell? ⟨b, k * 14 + 1, none⟩ = some (.int .i64 a) ∧ W.cell? ⟨b, k * 14 + 2, none⟩ = some (.int .i64 x) ∧ W.cell? ⟨b, k * 14 + 3, none⟩ = some (.int .i64 c) ∧ W.cell? ⟨b, k * 14 + 4, none⟩ = some (.string p) ∧ W.cell? ⟨b, k * 14 + 5, none⟩ = some (.string q) ∧ W.cell? ⟨b, k * 14 + 6, none⟩ = some (.bool f) ∧ W.cell? ⟨b, k * 14 + 7, none⟩ = some (.int .i64 e2) ∧ W.cell? ⟨b, k * 14 + 8, none⟩ = some (.int .i64 a2) ∧ W.cell? ⟨b, k * 14 + 9, none⟩ = some (.int .i64 x2) ∧ W.cell? ⟨b, k * 14 + 10, none⟩ = some (.int .i64 c2) ∧ W.cell? ⟨b, k * 14 + 11, none⟩ = some (.string p2) ∧ W.cell? ⟨b, k * 14 + 12, none⟩ = some (.string q2) ∧ W.cell? ⟨b, k * 14 + 13, none⟩ = some (.bool f2)) ∧ (W.cell? ⟨b2, k * 14, none⟩ = some (.int .i64 g1) ∧ W.cell? ⟨b2, k * 14 + 1, none⟩ = some (.int .i64 g2) ∧ W.cell? ⟨b2, k * 14 + 2, none⟩ = some (.int .i64 g3) ∧ W.cell? ⟨b2, k * 14 + 3, none⟩ = some (.int .i64 g4) ∧ W.cell? ⟨b2, k * 14 + 4, none⟩ = some (.string y) ∧ W.cell? ⟨b2, k * 14 + 5, none⟩ = some (.string z) ∧ W.cell? ⟨b2, k * 14 + 6, none⟩ = some (.bool g) ∧ W.cell? ⟨b2, k * 14 + 7, none⟩ = some (.int .i64 o1) ∧ W.cell? ⟨b2, k * 14 + 8, none⟩ = some (.int .i64 o2) ∧ W.cell? ⟨b2, k * 14 + 9, none⟩ = some (.int .i64 o3) ∧ W.cell? ⟨b2, k * 14 + 10, none⟩ = some (.int .i64 o4) ∧ W.cell? ⟨b2, k * 14 + 11, none⟩ = some (.string y2) ∧ W.cell? ⟨b2, k * 14 + 12, none⟩ = some (.string z2) ∧ W.cell? ⟨b2, k * 14 + 13, none⟩ = some (.bool o5))) (by kernel_rfl) ⟨⟨k0, k1, k2, k3, k4, k5, k6, k7, k8, k9, k10, k11, k12, k13⟩, ⟨j0, j1, j2, j3, j4, j5, j6, j7, j8, j9, j10, j11, j12, j13⟩⟩ (fun hHeld => ?_)
          refine takeD (i := 0) (d := some 17) (v := ?_) rfl rfl (by kernel_rfl) (by kernel_rfl) (by kernel_rfl) (fun _ _ _ h => h) (Or.inl ⟨by rfl, ?_⟩) (by assumption) ?_
          rotate_left
          · intro wS hSw; (try dsimp only at hSw); go_simp; (try with_reducible rfl)
          try simp only [Act.put, List.setIfInBounds_toArray, List.set_cons_zero, List.set_cons_succ]
          refine takeD (i := 1) (d := some 18) (v := ?_) rfl rfl (by kernel_rfl) (by kernel_rfl) (by kernel_rfl) (fun _ _ _ h => h) (Or.inl ⟨by rfl, ?_⟩) (by assumption) ?_
          rotate_left
          · intro wS hSw; (try dsimp only at hSw); go_simp; (try with_reducible rfl)
          try simp only [Act.put, List.setIfInBounds_toArray, List.set_cons_zero, List.set_cons_succ]
          refine takeD (i := 2) (d := some 19) (v := ?_) rfl rfl (by kernel_rfl) (by kernel_rfl) (by kernel_rfl) (fun _ _ _ h => h) (Or.inl ⟨by rfl, ?_⟩) (by assumption) ?_
          rotate_left
          · intro wS hSw; (try dsimp only at hSw); go_simp; (try with_reducible rfl)
          try simp only [Act.put, List.setIfInBounds_toArray, List.set_cons_zero, List.set_cons_succ]
          refine takeD (i := 3) (d := some 20) (v := ?_) rfl rfl (by kernel_rfl) (by kernel_rfl) (by kernel_rfl) (fun _ _ _ h => h) (Or.inl ⟨by rfl, ?_⟩) (by assumption) ?_
          rotate_left
          · intro wS hSw; (try dsimp only at hSw); go_simp; (try with_reducible rfl)
          try simp only [Act.put, List.setIfInBounds_toArray, List.set_cons_zero, List.set_cons_succ]
          refine takeD (i := 4) (d := some 21) (v := ?_) rfl rfl (by kernel_rfl) (by kernel_rfl) (by kernel_rfl) (fun _ _ _ h => h) (Or.inl ⟨by rfl, ?_⟩) (by assumption) ?_
          rotate_left
          · intro wS hSw; (try dsimp only at hSw); go_simp; (try with_reducible rfl)
          try simp only [Act.put, List.setIfInBounds_toArray, List.set_cons_zero, List.set_cons_succ]
          refine takeD (i := 5) (d := some 22) (v := ?_) rfl rfl (by kernel_rfl) (by kernel_rfl) (by kernel_rfl) (fun _ _ _ h => h) (Or.inl ⟨by rfl, ?_⟩) (by assumption) ?_
          rotate_left
          · intro wS hSw; (try dsimp only at hSw); go_simp; (try with_reducible rfl)
          try simp only [Act.put, List.setIfInBounds_toArray, List.set_cons_zero, List.set_cons_succ]
          refine takeD (i := 6) (d := some 23) (v := ?_) rfl rfl (by kernel_rfl) (by kernel_rfl) (by kernel_rfl) (fun _ _ _ h => h) (Or.inl ⟨by rfl, ?_⟩) (by assumption) ?_
          rotate_left
          · intro wS hSw; (try dsimp only at hSw); go_simp; (try with_reducible rfl)
          try simp only [Act.put, List.setIfInBounds_toArray, List.set_cons_zero, List.set_cons_succ]
          refine takeD (i := 7) (d := some 24) (v := ?_) rfl rfl (by kernel_rfl) (by kernel_rfl) (by kernel_rfl) (fun _ _ _ h => h) (Or.inl ⟨by rfl, ?_⟩) (by assumption) ?_
          rotate_left
          · intro wS hSw; (try dsimp only at hSw); go_simp; (try with_reducible rfl)
          try simp only [Act.put, List.setIfInBounds_toArray, List.set_cons_zero, List.set_cons_succ]
          refine takeD (i := 8) (d := some 25) (v := ?_) rfl rfl (by kernel_rfl) (by kernel_rfl) (by kernel_rfl) (fun _ _ _ h => h) (Or.inl ⟨by rfl, ?_⟩) (by assumption) ?_
          rotate_left
          · intro wS hSw; (try dsimp only at hSw); go_simp; (try with_reducible rfl)
          try simp only [Act.put, List.setIfInBounds_toArray, List.set_cons_zero, List.set_cons_succ]
          refine wpAnyH_done (by kernel_rfl) ?_ _
          go_wp2_with fail
          go_roundw
          case rel => exact ⟨k + 1, by omega, by go_num, HN, below_drewN hbel 1⟩
          case measure => simp [intOf]; omega
      · obtain rfl : k = n := by omega
        have HE : Hid (decide (l = l') = true) := decide_eq_true (by
          have := HS.out
          rwa [List.take_of_length_le (by rw [HL.out]; exact Nat.le_refl _), List.take_of_length_le (by rw [HL'.out]; exact Nat.le_refl _)] at this)
        go_wp2_with fail
        go_ret
        exact ⟨ret_bool HE.out.symm, hbel⟩
  · have HE : Hid (decide (l = l') = false) := decide_eq_false (fun e => hnn (by rw [← hl, ← hl', e]))
    have i1 : ((n : Int) == (n' : Int)) = false := by simp; omega
    have i2 : ((n : Int) != (n' : Int)) = true := by simp; omega
    clear h h' hl hl' hnn
    go_enter Tryd.func23, Tryd.ntmps23
    go_wp2
    go_ret
    exact ⟨ret_bool HE.out.symm, Below.refl _ _⟩
end Go.Proofs.YthaagngoefieaaaDoor
