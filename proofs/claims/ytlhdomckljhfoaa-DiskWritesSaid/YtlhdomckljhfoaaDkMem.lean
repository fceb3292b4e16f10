/-
  Bytes in memory, cell by cell: a block whose first cells are given bytes, each of which may be written. Conditions: none.
-/
import Derived.Test.YtlhdomckljhfoaaDkForm
import Derived.Lib.LazyBuf
import Derived.Lib.ConvBytes
import Derived.Lib.AppendZerosOnto
namespace Go.Proofs.Ytlhdomckljhfoaa
open Go.ChangeShapes Go.WideShapes Go.ChangeAt Go.RowKit
set_option linter.unusedVariables false

theorem info_u8 : (Try.prog.info? 5).map (fun i => (i.zero, i.size, i.bytes)) = some (some (.int .u8 0), 1, 1) := by kernel_rfl

theorem b8_at (l : List UInt8) (j : Nat) : (B8 l)[j]? = (l[j]?).map fun c => Value.int .u8 (bi c) := by simp [B8]
theorem b8_len (l : List UInt8) : (B8 l).length = l.length := by simp [B8]
theorem b8_one (l : List UInt8) : ∀ u ∈ B8 l, u.oneCell' = true := by
  intro u hu
  simp [B8] at hu
  obtain ⟨c, _, rfl⟩ := hu
  rfl

/-- Block g begins with the bytes l, each of which may be written. -/
structure Byt (w : World) (g : Nat) (l : List UInt8) : Prop where
  lt : g < w.heap.size
  cell : ∀ (j : Nat) x, l[j]? = some x → w.cell? ⟨g, j, none⟩ = some (.int .u8 (bi x))
  free : ∀ j, j < l.length → w.frozen? ⟨g, j, none⟩ = false

section
variable {w w' : World} {g : Nat} {l : List UInt8}
theorem Byt.at_ (h : Byt w g l) {j : Nat} (hj : j < l.length) : w.cell? ⟨g, j, none⟩ = some (.int .u8 (bi l[j])) := h.cell j _ (List.getElem?_eq_getElem hj)
theorem Byt.some_ (h : Byt w g l) {j : Nat} (hj : j < l.length) : (w.cell? ⟨g, j, none⟩).isSome = true := by rw [h.at_ hj]; rfl
theorem Byt.kept (h : Byt w g l) (hs : w.heap.size ≤ w'.heap.size) (hb : w'.heap[g]? = w.heap[g]?) : Byt w' g l :=
  ⟨Nat.lt_of_lt_of_le h.lt hs, fun j x hx => (World.cell?_of_block (a := ⟨g, j, none⟩) hb).trans (h.cell j x hx), fun j hj => (World.frozen?_of_block (a := ⟨g, j, none⟩) hb).trans (h.free j hj)⟩
theorem Byt.below {B : Nat} (h : Byt w g l) (hb : Below B w w') (hg : g < B) : Byt w' g l := h.kept hb.size (hb.block g hg)
theorem Byt.grown {row : Option Nat} (h : Byt w g l) (hb : w.grownBy w' row) (hg : some g ≠ row) : Byt w' g l := h.kept hb.size (hb.block g h.lt hg)
theorem Byt.drewN (h : Byt w g l) (n : Nat) : Byt (w.drewN n) g l := ⟨h.lt, h.cell, h.free⟩
theorem Byt.drew (h : Byt w g l) : Byt w.drew g l := ⟨h.lt, h.cell, h.free⟩
theorem Byt.alloc (h : Byt w g l) (o : Obj) : Byt (w.alloc o) g l := h.kept (by simp) (Below.heap_alloc w o g h.lt)
theorem Byt.far (h : Byt w g l) {p : Addr} (hp : g ≠ p.block) (u : Value) : Byt (w.setCell p u) g l := h.kept (by simp [World.setCell]) (Below.heap_setCell w p u g hp)
theorem Byt.take (h : Byt w g l) (k : Nat) : Byt w g (l.take k) :=
  ⟨h.lt, fun j x hx => h.cell j x (by rw [List.getElem?_take] at hx; split at hx; exact hx; cases hx), fun j hj => h.free j (by simp at hj; omega)⟩
theorem Byt.set_ (h : Byt w g l) {k : Nat} (hk : k < l.length) (c : UInt8) : Byt (w.setCell ⟨g, k, none⟩ (.int .u8 (bi c))) g (l.set k c) := by
  refine ⟨by simpa [World.setCell] using h.lt, fun j x hx => ?_, fun j hj => ?_⟩
  · rw [List.getElem?_set] at hx
    by_cases e : k = j
    · subst e
      rw [if_pos rfl, if_pos hk] at hx
      injection hx with hx
      subst hx
      exact World.cell?_setCell_same w _ _ (by rw [h.at_ hk])
    · rw [if_neg e] at hx
      rw [World.cell?_setCell_other w _ _ _ (by intro e2; injection e2 with _ e2; exact e e2)]
      exact h.cell j x hx
  · rw [World.frozen?_setCell]
    exact h.free j (by simpa using hj)
theorem Byt.conv {P : Program} (h : Byt w g l) (src dst : TypeId) (hs : P.underlying src = some (.slice 5)) (he : P.underlying 5 = some (.int .u8)) (hd : P.underlying dst = some .string) (o n cap : Nat) (x : List UInt8)
    (hx : x.length = n) (hox : ∀ j, j < n → l[o + j]? = x[j]?) : (convert src dst (.slice (some ⟨g, o, none⟩) n cap)).run P w = .ok (.string ⟨x.toArray⟩) w := by
  subst hx
  refine run_convert_bytes_back w src dst 5 ⟨g, o, none⟩ cap x hs he hd fun j hj => ?_
  rw [add_plain]
  exact h.cell _ _ ((hox j hj).trans (List.getElem?_eq_getElem hj))
end

theorem over_len_le (b : List UInt8) (p : Nat) (x : List UInt8) : (over b p x).length = b.length := over_len b p x
theorem over_cons (b : List UInt8) (p : Nat) (c : UInt8) (x : List UInt8) (h : p + (c :: x).length ≤ b.length) : over (b.set p c) (p + 1) x = over b p (c :: x) := by
  simp only [List.length_cons] at h
  apply List.ext_getElem?; intro j
  by_cases hj : j < b.length
  · rw [over_at _ _ _ _ (by simpa using hj), over_at _ _ _ _ hj]
    congr 1
    by_cases e : j = p
    · subst e
      rw [if_neg (by omega), if_pos (by simp)]
      simp [List.getD, hj]
    · by_cases h1 : p + 1 ≤ j ∧ j < p + 1 + x.length
      · rw [if_pos h1, if_pos (by simp; omega)]
        rw [show j - p = (j - (p + 1)) + 1 from by omega]
        simp [List.getD]
      · rw [if_neg h1, if_neg (by simp; omega)]
        simp [List.getD, show ¬ p = j from fun e2 => e e2.symm]
  · rw [List.getElem?_eq_none (by rw [over_len]; simp; omega), List.getElem?_eq_none (by rw [over_len]; omega)]
theorem Byt.setCells_ {g : Nat} : ∀ (x : List UInt8) (o : Nat) {w : World} {l : List UInt8}, Byt w g l → o + x.length ≤ l.length → Byt (w.setCells g o (B8 x)) g (over l o x)
  | [], o, w, l, h, _ => by rw [over_nil]; exact h
  | c :: x, o, w, l, h, hl => by
    have h1 := Byt.setCells_ x (o + 1) (h.set_ (k := o) (by simp at hl; omega) c) (by simp at hl ⊢; omega)
    rw [over_cons l o c x hl] at h1
    exact h1
theorem grown_setCells {w : World} {g : Nat} : ∀ (vs : List Value) (o : Nat) {w' : World}, w.grownBy w' (some g) → w.grownBy (w'.setCells g o vs) (some g)
  | [], _, _, h => h
  | v :: r, o, _, h => grown_setCells r (o + 1) (only_setCell h (.inl rfl) v)

/-- A new row of bytes. -/
theorem byt_new (w : World) (l : List UInt8) (C : Array Value) (t : TypeId) (a b : Nat) (hC : ∀ (j : Nat) (x : UInt8), l[j]? = some x → C[j]? = some (Value.int .u8 (bi x))) (hm : ∀ j, j < l.length → ¬ (a ≤ j ∧ j < b)) :
    Byt (w.alloc (.cells C t (a, b))) w.heap.size l := by
  refine ⟨by simp, fun j x hx => ?_, fun j hj => ?_⟩
  · rw [World.cell?_alloc_mark]; exact hC j x hx
  · have h := World.frozen?_alloc_mark w C t a b j
    rw [h]
    have := hm j hj
    simp
    intro h1
    omega
end Go.Proofs.Ytlhdomckljhfoaa
