/-
  The walk of the statements' own Release. Conditions: the list's length and the place are bounded.
-/
import Derived.Test.YtabcpbmnemfnbaaDoorVLawC
namespace Go.Proofs.YtabcpbmnemfnbaaDoor
open Go.ChangeShapes Go.WideShapes Go.ChangeAt Go.RowKit
set_option linter.unusedVariables false

theorem rel_of {a b c : Int} {p q : ByteArray} {r : Int} (h : Fam (verS a b c p q) r) : Fam (verS a b c ⟨#[]⟩ ⟨#[]⟩) 10 := by
  obtain ⟨h0, h1, h2, _⟩ := fam_bd h
  exact rel_fam (rel_may.2 ⟨h0, h1, h2⟩)
theorem release_res (W : World) (tmps : Array Value) (b : Nat) {x0 x1 x2 x3 x4 : Value} (h2 : tmps[4]?.getD undef = .pointer (some ⟨b, 0, none⟩)) (h : Five W b x0 x1 x2 x3 x4) :
    (results Tryd.f29 tmps).run Tryd.prog W = .ok (.agg #[x0, x1, x2, x3, x4]) W := by
  obtain ⟨k0, k1, k2, k3, k4⟩ := h
  simp [results, Tryd.results29, h2, go_sem, k0, k1, k2, k3, k4]
set_option maxHeartbeats 1000000 in
theorem release_fam (A : Option Addr) (c B : Nat) (l : List Int) (i : Int) (hl : l.length ≤ maxLen) (hw : ∀ z ∈ l, (Lit.int .i64 z).wf = true) (i0 : 0 ≤ i) (i1 : i ≤ 1000) :
    ∃ (x0 x1 x2 : Int), Fam (verS x0 x1 x2 ⟨#[]⟩ ⟨#[]⟩) 10 ∧ ∀ W : World, Rd W B A l.length (l.map (Value.int .i64)) → B ≤ W.heap.size →
      Calls Tryd.prog 29 #[.slice A l.length c, .int .i64 i] W fun e w' => e = .returned (.agg #[.int .i64 x0, .int .i64 x1, .int .i64 x2, .string ⟨#[]⟩, .string ⟨#[]⟩]) ∧ Below W.heap.size W w' := by
  obtain ⟨x0, x1, x2, x3, x4, r, hf, h3, h4, hc⟩ := ver_fam A c B l i hl hw i0 i1
  refine ⟨x0, x1, x2, rel_of hf, fun w hrd hB => ?_⟩
  have HRD := Lib.hid hrd
  clear hf hw hrd
  generalize l.length = n at *
  go_enter Tryd.func29, Tryd.ntmps29
  go_wp2_with fail
  refine (hc _ (rd_below HRD.out ((box_below w _).mono hB)) (by simp; omega)).mono ?_
  rintro e w1 ⟨rfl, hb1⟩
  have hR := room_below (room_new w _ _ _ _ _ _) (by simp) hb1
  have hbB := (box_below w _).trans (hb1.mono (by simp))
  have hz : w.heap.size < w1.heap.size := by have := hb1.size; simp at this; omega
  clear hb1
  obtain ⟨⟨l0, l1, l2, l3, l4⟩, lf⟩ := id hR
  have f0 := lf 0
  have f1 := lf 1
  have f2 := lf 2
  have f3 := lf 3
  have f4 := lf 4
  go_wp2_with fail
  have hput := room_put hR (.int .i64 x0) (.int .i64 x1) (.int .i64 x2) (.string ⟨#[]⟩) (.string ⟨#[]⟩)
  refine bodyPost_ret (release_res _ _ w.heap.size rfl (five_alloc hput.1 (by simpa [World.put5] using hz) _)) rfl ?_
  refine ⟨rfl, ?_⟩
  go_grown
end Go.Proofs.YtabcpbmnemfnbaaDoor
