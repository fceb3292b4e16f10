/-
  What the laws of chapter 6 want of the regions' and the zones' rows: their sizes. Conditions: none.
-/
import Derived.Test.YthaagngoefieaaaDoorCMeans
import Derived.Test.YthaagngoefieaaaDoorCHas
namespace Go.Proofs.YthaagngoefieaaaDoor
open Go.ChangeShapes Go.WideShapes Go.ChangeAt Go.RowKit
set_option linter.unusedSimpArgs false

theorem spanP_ok {op ps a b c : Int} {p : ByteArray} (hp : p.size ≤ 1048576) : okS (spanP (cmpS op ps a b c p ⟨#[]⟩)) := by
  have hq : (⟨#[]⟩ : ByteArray).size ≤ 1048576 := by decide
  have h1 := okC_low (op := op) (ps := ps) (a := a) (b := b) (c := c) hp hq
  have h2 := okC_behind (op := op) (ps := ps) (a := a) (b := b) (c := c) hp hq
  unfold spanP
  repeat' split
  · exact ⟨h1, h2⟩
  · exact ⟨okC_first, h1⟩
  · exact ⟨okC_first, h2⟩
  · exact ⟨h2, okC_last⟩
  · exact ⟨h1, okC_last⟩
  · exact ⟨h1, okC_high _ _⟩
  · exact ⟨h1, okC_high _ _⟩
  · exact ⟨h1, okC_high _ _⟩
  · exact ⟨okC_first, okC_last⟩
theorem spans_ok2 {s : SpanC} (h : okS s) : (∀ x ∈ spansC s, okS x) ∧ (spansC s).length ≤ 2 := by
  unfold spansC
  split
  · exact ⟨fun x hx => by simp at hx; subst hx; exact h, by simp⟩
  · exact ⟨fun x hx => by simp at hx, by simp⟩
theorem nots_ok {s : SpanC} (h : okS s) (hf : mayCut s.f = true) (ht : mayCut s.t = true) : (∀ x ∈ notP (spansC s), okS x) ∧ (notP (spansC s)).length ≤ 2 := by
  unfold spansC
  split
  · rename_i hc
    have hm : mayS s = true := by unfold mayS; rw [hf, ht]; simpa using hc
    rw [notP_one hm]
    unfold not1
    have e1 : okS ⟨firstC, s.f⟩ := ⟨okC_first, h.1⟩
    have e2 : okS ⟨s.t, lastC⟩ := ⟨h.2, okC_last⟩
    split <;> split
    · exact ⟨fun x hx => by simp at hx, by simp⟩
    · exact ⟨fun x hx => by simp at hx; subst hx; exact e2, by simp⟩
    · exact ⟨fun x hx => by simp at hx; subst hx; exact e1, by simp⟩
    · exact ⟨fun x hx => by simp at hx; rcases hx with rfl | rfl; exact e1; exact e2, by simp⟩
  · rw [notP_nil]
    exact ⟨fun x hx => by simp at hx; subst hx; exact ⟨okC_first, okC_last⟩, by simp⟩
theorem region_ok {op ps a b c : Int} {p : ByteArray} (hp : p.size ≤ 1048576) : (∀ x ∈ regionP (cmpS op ps a b c p ⟨#[]⟩), okS x) ∧ (regionP (cmpS op ps a b c p ⟨#[]⟩)).length ≤ 2 := by
  have h := spanP_ok (op := op) (ps := ps) (a := a) (b := b) (c := c) hp
  unfold regionP
  split
  · rename_i hm
    split
    · rename_i h2
      have hs := spanP_2 h2
      exact nots_ok h (by rw [hs]; exact may_low hm) (by rw [hs]; exact may_behind hm)
    · exact spans_ok2 h
  · exact ⟨fun x hx => by simp at hx, by simp⟩
theorem zone_ok {c : Cmp} : (∀ x ∈ zoneC c, okS x) ∧ (zoneC c).length ≤ 2 := by
  unfold zoneC
  split
  · exact ⟨fun x hx => by simp at hx; subst hx; exact ⟨⟨by simp, by simp⟩, by simp [relV], by simp [relV]⟩, by simp⟩
  · exact ⟨fun x hx => by simp at hx, by simp⟩
theorem fam_10 {v : Ver} {r : Int} (h : Fam v r) (hp : v.pre = []) : r = 10 := by
  obtain ⟨_, i, hi, rfl⟩ := h
  exact (rank_top i).2 (by rw [← hi]; exact hp)
end Go.Proofs.YthaagngoefieaaaDoor
