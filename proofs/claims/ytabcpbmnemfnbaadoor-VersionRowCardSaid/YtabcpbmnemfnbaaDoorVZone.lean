/-
  What the walk of VersionZone holds behind its two copies. Conditions: none.
-/
import Derived.Test.YtabcpbmnemfnbaaDoorVRel
namespace Go.Proofs.YtabcpbmnemfnbaaDoor
open Go.ChangeShapes Go.WideShapes Go.ChangeAt Go.RowKit
set_option linter.unusedVariables false

theorem five_other {W : World} {b b' o : Nat} {x0 x1 x2 x3 x4 : Value} (h : Five W b x0 x1 x2 x3 x4) (hb : b ≠ b') (y : Value) : Five (W.setCell ⟨b', o, none⟩ y) b x0 x1 x2 x3 x4 := by
  obtain ⟨h0, h1, h2, h3, h4⟩ := h
  refine ⟨?_, ?_, ?_, ?_, ?_⟩
  all_goals simp [go_sem, h0, h1, h2, h3, h4]
/-- Two copies in blocks of their own, beside two versions. -/
def ZoneSt (w W : World) (x y : Value) (b0 : Nat) (x00 x01 x02 x03 x04 : Value) (b1 : Nat) (x10 x11 x12 x13 x14 : Value) : Prop :=
  ∃ b2 b3, x = .pointer (some ⟨b2, 0, none⟩) ∧ y = .pointer (some ⟨b3, 0, none⟩) ∧ Five W b0 x00 x01 x02 x03 x04 ∧ Five W b1 x10 x11 x12 x13 x14 ∧ Room W b2 x00 x01 x02 x03 x04 ∧ Room W b3 x00 x01 x02 x03 x04 ∧
    b0 < W.heap.size ∧ b1 < W.heap.size ∧ b2 < W.heap.size ∧ b3 < W.heap.size ∧ b2 ≠ b3 ∧ b0 ≠ b2 ∧ b0 ≠ b3 ∧ b1 ≠ b2 ∧ b1 ≠ b3 ∧ w.heap.size ≤ b2 ∧ w.heap.size ≤ b3 ∧ Below w.heap.size w W
theorem room_drew {W : World} {b : Nat} {x0 x1 x2 x3 x4 : Value} (h : Room W b x0 x1 x2 x3 x4) : Room W.drew b x0 x1 x2 x3 x4 := h
theorem zone_new {w W : World} {t : TypeId} {b0 : Nat} {x00 x01 x02 x03 x04 : Value} {b1 : Nat} {x10 x11 x12 x13 x14 : Value} (h0 : Five W b0 x00 x01 x02 x03 x04) (h1 : Five W b1 x10 x11 x12 x13 x14) (z0 : b0 < W.heap.size) (z1 : b1 < W.heap.size) (hB : Below w.heap.size w W) :
    ZoneSt w ((W.alloc (.cells #[x00, x01, x02, x03, x04] t)).alloc (.cells #[x00, x01, x02, x03, x04] t)).drew (.pointer (some ⟨W.heap.size, 0, none⟩)) (.pointer (some ⟨W.heap.size + 1, 0, none⟩)) b0 x00 x01 x02 x03 x04 b1 x10 x11 x12 x13 x14 ∧
    ZoneSt w ((W.alloc (.cells #[x00, x01, x02, x03, x04] t)).alloc (.cells #[x00, x01, x02, x03, x04] t)).drew (.pointer (some ⟨W.heap.size + 1, 0, none⟩)) (.pointer (some ⟨W.heap.size, 0, none⟩)) b0 x00 x01 x02 x03 x04 b1 x10 x11 x12 x13 x14 := by
  have hb : Below W.heap.size W ((W.alloc (.cells #[x00, x01, x02, x03, x04] t)).alloc (.cells #[x00, x01, x02, x03, x04] t)) := two_below W _ _
  have r0 := five_below h0 z0 hb
  have r1 := five_below h1 z1 hb
  have r2 : Room ((W.alloc (.cells #[x00, x01, x02, x03, x04] t)).alloc (.cells #[x00, x01, x02, x03, x04] t)) W.heap.size x00 x01 x02 x03 x04 := room_below (room_new W x00 x01 x02 x03 x04 t) (by simp) (box_below _ _)
  have r3 := room_new (W.alloc (.cells #[x00, x01, x02, x03, x04] t)) x00 x01 x02 x03 x04 t
  simp only [World.size_alloc] at r3
  have hB2 : Below w.heap.size w ((W.alloc (.cells #[x00, x01, x02, x03, x04] t)).alloc (.cells #[x00, x01, x02, x03, x04] t)).drew := below_drewN (hB.trans (hb.mono hB.size)) 1
  have hs : ((W.alloc (.cells #[x00, x01, x02, x03, x04] t)).alloc (.cells #[x00, x01, x02, x03, x04] t)).drew.heap.size = W.heap.size + 2 := by
    show ((W.alloc (.cells #[x00, x01, x02, x03, x04] t)).alloc (.cells #[x00, x01, x02, x03, x04] t)).heap.size = _
    simp
  have hw := hB.size
  constructor
  · exact ⟨_, _, rfl, rfl, r0, r1, r2, r3, by omega, by omega, by omega, by omega, by omega, by omega, by omega, by omega, by omega, by omega, by omega, hB2⟩
  · exact ⟨_, _, rfl, rfl, r0, r1, r3, r2, by omega, by omega, by omega, by omega, by omega, by omega, by omega, by omega, by omega, by omega, by omega, hB2⟩
/-- Another Pre of the family's. -/
theorem fam_pre {a b c : Int} {p q : ByteArray} {r : Int} (h : Fam (verS a b c p q) r) (i : Fin 14) : Fam (verS a b c (preT i) q) (rankT i) := by
  obtain ⟨hm, _⟩ := h
  refine ⟨?_, i, rfl, rfl⟩
  have e3 := pre_may i
  unfold mayV verS at hm ⊢
  simp only [Bool.and_eq_true] at hm ⊢
  exact ⟨⟨hm.1.1, e3⟩, hm.2⟩
theorem fam_has {a b c : Int} {p q : ByteArray} {r : Int} (h : Fam (verS a b c p q) r) (hp : p.size ≠ 0) : r ≤ 9 := by
  obtain ⟨_, _, _, r0, r1⟩ := fam_bd h
  obtain ⟨_, i, h1, rfl⟩ := h
  have ht := (rank_top i).1
  rw [← h1] at ht
  have : rankT i ≠ 10 := fun e => hp (nil_size (ht e))
  omega
end Go.Proofs.YtabcpbmnemfnbaaDoor
