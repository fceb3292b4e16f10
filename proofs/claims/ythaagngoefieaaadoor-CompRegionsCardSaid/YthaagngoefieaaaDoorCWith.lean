/-
  The walks of chapter 4's reference Within and of the statement's own with; the sizes of what Not and And hand back. Conditions: at most 1000 spans; Pre and Build have at most 1048576 bytes.
-/
import Derived.Test.YthaagngoefieaaaDoorCRAnd
import Derived.Test.YthaagngoefieaaaDoorCSame
import Derived.Test.YthaagngoefieaaaDoorG4
namespace Go.Proofs.YthaagngoefieaaaDoor
open Go.ChangeShapes Go.WideShapes Go.ChangeAt Go.RowKit
set_option linter.unusedVariables false
set_option linter.unusedSimpArgs false

theorem stretch_bd {test : CutC → CutC → Bool} : ∀ (cs : List CutC) (out : List SpanC), (∀ s ∈ out, okS s) → (∀ x ∈ cs, okC x) → (∀ s ∈ stretch test out cs, okS s) ∧ (stretch test out cs).length ≤ out.length + cs.length
  | [], out, h, _ => ⟨h, by simp [stretch]⟩
  | [x], out, h, _ => ⟨h, by simp [stretch]⟩
  | a :: b :: l, out, h, hc => by
    rw [stretch]
    have ha := hc a (by simp)
    have hb := hc b (by simp)
    have hl : ∀ x ∈ b :: l, okC x := fun x hx => hc x (List.mem_cons_of_mem _ hx)
    by_cases ht : test a b = true
    · rw [if_pos ht]
      obtain ⟨h1, h2⟩ := stretch_bd (b :: l) (growC out a b) (grow_ok ha hb h) hl
      have := grow_len out a b
      refine ⟨h1, ?_⟩
      simp only [List.length_cons] at h2 ⊢
      omega
    · rw [if_neg ht]
      obtain ⟨h1, h2⟩ := stretch_bd (b :: l) out h hl
      refine ⟨h1, ?_⟩
      simp only [List.length_cons] at h2 ⊢
      omega
theorem cuts_all {l : List SpanC} (hok : ∀ s ∈ l, okS s) : (∀ x ∈ cutsC l, okC x) ∧ (cutsC l).length ≤ 2 + 2 * l.length := by
  obtain ⟨h1, _, h3⟩ := cuts_bd hok l.length (Nat.le_refl _)
  rw [List.take_of_length_le (Nat.le_refl _)] at h1 h3
  exact ⟨h1, h3⟩
theorem notR_ok {l : List SpanC} (hok : ∀ s ∈ l, okS s) : (∀ s ∈ notR l, okS s) ∧ (notR l).length ≤ 2 + 2 * l.length := by
  rw [notR_eq]
  split
  · obtain ⟨h1, h2⟩ := cuts_all hok
    obtain ⟨g1, g2⟩ := stretch_bd (test := tNot l) (cutsC l) [] (fun s hs => by simp at hs) h1
    exact ⟨g1, by simp only [List.length_nil] at g2; omega⟩
  · exact ⟨fun s hs => by simp at hs, by simp⟩
theorem andR_ok {la lb : List SpanC} (hok : ∀ s ∈ la, okS s) (hok' : ∀ s ∈ lb, okS s) : (∀ s ∈ andR la lb, okS s) ∧ (andR la lb).length ≤ 2 + 2 * (la.length + lb.length) := by
  rw [andR_eq]
  split
  · have hok3 : ∀ s ∈ la ++ lb, okS s := fun s hs => (List.mem_append.1 hs).elim (hok s) (hok' s)
    obtain ⟨h1, h2⟩ := cuts_all hok3
    obtain ⟨g1, g2⟩ := stretch_bd (test := tAnd la lb) (cutsC (la ++ lb)) [] (fun s hs => by simp at hs) h1
    rw [List.length_append] at h2
    exact ⟨g1, by simp only [List.length_nil] at g2; omega⟩
  · exact ⟨fun s hs => by simp at hs, by simp⟩
set_option maxHeartbeats 4000000 in
theorem rwithin_any (A A' : Option Addr) (n n' cap cap' B : Nat) (la lb : List SpanC) (w : World) (h : RdS w B A la) (h' : RdS w B A' lb) (hl : la.length = n) (hl' : lb.length = n') (hok : ∀ s ∈ la, okS s) (hok' : ∀ s ∈ lb, okS s) (hB : B ≤ w.heap.size) (hn : n + n' ≤ 1000)
    (hma : mayRow la = true) (hmb : mayRow lb = true) :
    Calls Tryd.prog 27 #[.slice A n cap, .slice A' n' cap'] w fun e w' => e = .returned (.bool (decide (andR la lb = la))) ∧ Below w.heap.size w w' := by
  have H := Lib.hid h
  have H' := Lib.hid h'
  have HL := Lib.hid hl
  have HL' := Lib.hid hl'
  have hm1 := rrowmay_any A n cap B la w h hl hok hB (by omega)
  have hm2 := fun W (h1 : RdS W B A' lb) (h2 : B ≤ W.heap.size) => rrowmay_any A' n' cap' B lb W h1 hl' hok' h2 (by omega)
  have ha := fun W (h1 : RdS W B A la) (h2 : RdS W B A' lb) (h3 : B ≤ W.heap.size) => rand_any A A' n n' cap cap' B la lb W h1 h2 hl hl' hok hok' h3 hn
  have hao := andR_ok hok hok'
  rw [hl, hl'] at hao
  have hs := fun A1 n1 cap1 W (h1 : RdS W W.heap.size A1 (andR la lb)) (h2 : (andR la lb).length = n1) (h3 : RdS W B A la) (h4 : B ≤ W.heap.size) => rsame_any A1 A n1 n cap1 cap W.heap.size B (andR la lb) la W h1 h3 h2 hl hao.1 hok (Nat.le_refl _) h4 (by omega) (by omega)
  rw [hma] at hm1
  rw [hmb] at hm2
  clear h h' hl hl' hma hmb
  generalize decide (andR la lb = la) = R at *
  generalize andR la lb = lc at *
  go_enter Tryd.func27, Tryd.ntmps27
  go_wp2_with fail
  refine hm1.mono ?_
  rintro e w1 ⟨rfl, hb1⟩
  have hm3 := hm2 w1 (rds_below H'.out (hb1.mono hB)) (Nat.le_trans hB hb1.size)
  clear hm1 hm2
  go_wp2_with fail
  refine hm3.mono ?_
  rintro e w2 ⟨rfl, hb2⟩
  have hb12 := hb1.trans (hb2.mono hb1.size)
  have ha2 := ha w2 (rds_below H.out (hb12.mono hB)) (rds_below H'.out (hb12.mono hB)) (Nat.le_trans hB hb12.size)
  clear hm3 ha hb1 hb2
  go_wp2_with fail
  refine ha2.mono ?_
  rintro e w3 ⟨A1, n1, cap1, rfl, hn1, hc1, hr1, hb3⟩
  have hb13 := hb12.trans (hb3.mono hb12.size)
  have hs3 := hs A1 n1 cap1 w3 hr1 hn1.symm (rds_below H.out (hb13.mono hB)) (Nat.le_trans hB hb13.size)
  clear ha2 hs hn1 hr1 hb3 hb12
  go_wp2_with fail
  refine hs3.mono ?_
  rintro e w4 ⟨rfl, hb4⟩
  go_wp2_with fail
  go_ret
  exact ⟨rfl, hb13.trans (hb4.mono hb13.size)⟩
set_option maxHeartbeats 1000000 in
theorem with_any (op ps a b c : Int) (p q : ByteArray) (k : Int) (w : World) :
    Calls Tryd.prog 24 #[cvV op ps a b c p q, .int .i64 k] w fun e w' => e = .returned (cvV k ps a b c p q) ∧ Below w.heap.size w w' := by
  unfold cvV
  go_enter Tryd.func24, Tryd.ntmps24
  go_wp2
  go_returns
  exact ⟨rfl, (loc_box (loc_box (loc_start w) _) _).1⟩
end Go.Proofs.YthaagngoefieaaaDoor
