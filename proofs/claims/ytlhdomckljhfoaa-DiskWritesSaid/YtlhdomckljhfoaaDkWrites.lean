/-
  A slice of writes that comes in, opened: it reads as a list. Conditions: none. (The first lemma is the guide's, extra-structs.md, 1.)
-/
import Derived.Test.YtlhdomckljhfoaaDkBent
import Derived.Deep.Slices
import Derived.Deep.Fields
import Derived.ChangeSame
namespace Go.Proofs.Ytlhdomckljhfoaa
open Go.ChangeShapes Go.WideShapes Go.ChangeAt Go.RowKit Go.Deep
set_option linter.unusedVariables false

section
variable {H : Type} {enc : TypeId × Value → H} {P : Program} {w : World} {base : Nat} {spare : Nat → Bool} {held : Bool}
theorem open_slice_fields {t e : TypeId} {fs : Array Field} {fuel : Nat} {cs : List Value} {x : DataW H × List MemPlace} (ht : P.underlying t = some (.slice e)) (he : P.underlying e = some (.struct fs))
    (hone : oneCellFields P fs = true) (hC : P.cellsOf e = fs.size) (h : DataW.trod enc P w base spare held fuel t cs = some x) :
    (cs = [.slice none 0 0] ∧ x = (.nil, [])) ∨
    ∃ (a : Addr) (len cap m : Nat) (D : Nat → DataW H) (Pl : Nat → List MemPlace), cs = [.slice (some a) len cap] ∧ base ≤ a.block ∧ len ≤ cap ∧ cap ≤ maxLen ∧ m = (if spare a.block then cap else len) ∧
      x = (.slice ((List.range len).map D) ((List.range (m - len)).map fun j => D (len + j)), MemPlace.row a (m * fs.size) ++ (List.range m).flatMap Pl) ∧
      ∀ i, i < m → ∃ (ys : List (DataW H × List MemPlace)) (n : Nat), D i = .agg (ys.map (·.1)) ∧ Pl i = ys.flatMap (·.2) ∧ ys.length = fs.size ∧
        ∀ (j : Nat) (f : Field), fs[j]? = some f → ∃ (v : Value) (y : DataW H × List MemPlace), w.cell? (a.add (i * fs.size + j)) = some v ∧ ys[j]? = some y ∧ DataW.trod enc P w base spare held n f.type [v] = some y := by
  rcases open_slice ht h with h0 | ⟨a, len, cap, m, n, D, Pl, hcs, hb, hl, hm, hmm, hx, hi⟩
  · exact .inl h0
  · refine .inr ⟨a, len, cap, m, D, Pl, hcs, hb, hl, hm, hmm, by rw [hC] at hx; exact hx, fun i him => ?_⟩
    obtain ⟨cs', hc, ht'⟩ := hi i him
    rw [hC] at hc
    obtain ⟨ys, n', hn', hy, hlen, hyl, hf⟩ := DataW.trod_struct he ht'
    obtain ⟨_, hcl, hat⟩ := World.cells?_some hc
    simp only [Prod.mk.injEq] at hy
    refine ⟨ys, n', hy.1, hy.2, hyl, fun j f hj => ?_⟩
    obtain ⟨ho, hk⟩ := hone_of hone j f hj
    have hjl : j < fs.size := (Array.getElem?_eq_some_iff.1 hj).1
    have hcell := hat j hjl
    have hv : cs'[j]? = some (cs'[j]'(by omega)) := List.getElem?_eq_getElem (by omega)
    have h1 := hf j f hj
    rw [ho, hk] at h1
    have hone' : (cs'.drop j).take 1 = [cs'[j]'(by omega)] := by
      rw [List.drop_eq_getElem_cons (by omega)]
      rfl
    rw [hone'] at h1
    have hys : ys[j]? = some (ys[j]'(by omega)) := List.getElem?_eq_getElem (by omega)
    refine ⟨_, _, ?_, hys, h1.trans hys⟩
    rw [← Go.Deep.add_add, hcell, hv]
end

/-- A slice of writes reads as a list, whatever the sizes of their bytes. -/
structure RdWA (w : World) (B : Nat) (A : Option Addr) (n : Nat) (L : List Wr) : Prop where
  len : L.length = n
  bd : ∀ x, x ∈ L → (-9223372036854775808 ≤ x.1 ∧ x.1 ≤ 9223372036854775807) ∧ x.2.length ≤ maxLen
  cells : 0 < n → ∃ b off, A = some ⟨b, off, none⟩ ∧ b < B ∧ ∀ (j : Nat) x, L[j]? = some x → w.cell? ⟨b, off + j * 2, none⟩ = some (.int .i64 x.1) ∧ w.cell? ⟨b, off + j * 2 + 1, none⟩ = some (.string ⟨x.2.toArray⟩)
theorem RdWA.below {w w' : World} {B n : Nat} {A : Option Addr} {l : List Wr} (h : RdWA w B A n l) (hb : Below B w w') : RdWA w' B A n l := by
  refine ⟨h.len, h.bd, fun hn => ?_⟩
  obtain ⟨b, off, e, hlt, hc⟩ := h.cells hn
  exact ⟨b, off, e, hlt, fun j x hx => ⟨(hb.cell (p := ⟨b, off + j * 2, none⟩) hlt).trans (hc j x hx).1, (hb.cell (p := ⟨b, off + j * 2 + 1, none⟩) hlt).trans (hc j x hx).2⟩⟩
theorem RdWA.rd {w : World} {B n : Nat} {A : Option Addr} {l : List Wr} (h : RdWA w B A n l) (hs : ∀ x, x ∈ l → x.2.length ≤ 1073741824) : RdW w B A n l := ⟨h.len, hs, h.cells⟩
theorem RdWA.one {w : World} {B n : Nat} {A : Option Addr} {l : List Wr} (h : RdWA w B A n l) {k : Nat} (hk : k < n) :
    ∃ b off a x, A = some ⟨b, off, none⟩ ∧ b < B ∧ l[k]? = some (a, x) ∧ (-9223372036854775808 ≤ a ∧ a ≤ 9223372036854775807) ∧ x.length ≤ maxLen ∧ w.cell? ⟨b, off + k * 2, none⟩ = some (.int .i64 a) ∧ w.cell? ⟨b, off + k * 2 + 1, none⟩ = some (.string ⟨x.toArray⟩) := by
  obtain ⟨b, off, e, hlt, hc⟩ := h.cells (by omega)
  have hl : k < l.length := by rw [h.len]; exact hk
  have hx : l[k]? = some l[k] := List.getElem?_eq_getElem hl
  obtain ⟨h1, h2⟩ := h.bd _ (List.getElem_mem hl)
  exact ⟨b, off, l[k].1, l[k].2, e, hlt, hx, h1, h2, (hc k _ hx).1, (hc k _ hx).2⟩

section
variable {H : Type} {enc : TypeId × Value → H} {w : World} {base : Nat} {spare : Nat → Bool} {held : Bool}
theorem open_writes {a : Option Addr} {len cap : Nat} {d : DataW H} {p : List MemPlace} (h : DataW.Trod enc Try.prog w base spare held 29 (.slice a len cap) d p) :
    ∃ L : List Wr, RdWA w w.heap.size a len L ∧ len ≤ cap ∧ cap ≤ maxLen := by
  obtain ⟨fuel, hf⟩ := h
  rcases open_slice_fields Try.underlying29 Try.underlying41 (by kernel_rfl) (by kernel_rfl) hf with ⟨hcs, _⟩ | ⟨x, l, c, m, D, Pl, hcs, _, hl, hm, hmm, _, hi⟩
  · simp [Value.cells] at hcs
    obtain ⟨rfl, rfl, rfl⟩ := hcs
    exact ⟨[], ⟨rfl, fun x hx => by simp at hx, fun h => absurd h (by omega)⟩, Nat.le_refl _, by unfold maxLen; omega⟩
  · simp [Value.cells] at hcs
    obtain ⟨rfl, rfl, rfl⟩ := hcs
    have hlm : len ≤ m := by rw [hmm]; split <;> omega
    have hone : ∀ i, i < len → ∃ (n : Int) (s : ByteArray), w.cell? (x.add (i * 2 + 0)) = some (.int .i64 n) ∧ w.cell? (x.add (i * 2 + 1)) = some (.string s) ∧ (Lit.int .i64 n).wf = true ∧ s.size ≤ maxLen := by
      intro i hil
      obtain ⟨ys, n, _, _, _, hj⟩ := hi i (by omega)
      obtain ⟨v0, y0, hc0, _, ht0⟩ := hj 0 _ rfl
      obtain ⟨v1, y1, hc1, _, ht1⟩ := hj 1 _ rfl
      obtain ⟨z, e0, _, w0⟩ := DataW.trod_int Try.underlying3 ht0
      obtain ⟨s, e1, _, w1⟩ := DataW.trod_string Try.underlying9 ht1
      cases e0
      cases e1
      exact ⟨z, s, hc0, hc1, w0, w1⟩
    have hall : ∀ i, ∃ ns : Int × ByteArray, i < len → (w.cell? (x.add (i * 2 + 0)) = some (.int .i64 ns.1) ∧ w.cell? (x.add (i * 2 + 1)) = some (.string ns.2) ∧ (Lit.int .i64 ns.1).wf = true ∧ ns.2.size ≤ maxLen) := by
      intro i
      by_cases hil : i < len
      · obtain ⟨n, s, h⟩ := hone i hil
        exact ⟨(n, s), fun _ => h⟩
      · exact ⟨(0, ByteArray.empty), fun h => absurd h hil⟩
    obtain ⟨F, hF⟩ := Classical.axiomOfChoice hall
    refine ⟨(List.range len).map fun i => ((F i).1, (F i).2.data.toList), ⟨by simp, fun y hy => ?_, fun h0 => ?_⟩, hl, hm⟩
    · rw [List.mem_map] at hy
      obtain ⟨i, hi', rfl⟩ := hy
      obtain ⟨_, _, h3, h4⟩ := hF i (by simpa using hi')
      exact ⟨bounds_i64 h3, by show (F i).2.data.toList.length ≤ _; rw [len_size]; exact h4⟩
    · obtain ⟨b, off, spot⟩ := x
      have hspot : spot = none := by
        have hc0 := (hF 0 h0).1
        simpa [Addr.add] using World.cell?_spot hc0
      subst hspot
      refine ⟨b, off, rfl, ?_, fun j y hy => ?_⟩
      · have hc0 := (hF 0 h0).1
        exact World.block_lt_of_cell? w ⟨b, off, none⟩ (by simpa [Addr.add] using hc0)
      · have hjl : j < len := by
          have := (List.getElem?_eq_some_iff.1 hy).1
          simpa using this
        rw [List.getElem?_map, List.getElem?_range hjl, Option.map_some] at hy
        injection hy with hy
        subst hy
        obtain ⟨h1, h2, _, _⟩ := hF j hjl
        rw [add_plain] at h1 h2
        exact ⟨h1, by rw [toArr, Nat.add_assoc]; exact h2⟩
end

/-- The near writes of DiskWrites. -/
def nearOf (x : Wr) : Wr := (placeI x.1 330 - 5, x.2)
def nearL (l : List Wr) (k : Nat) : List Wr := (l.take k).map nearOf
theorem nearL_succ (l : List Wr) (k : Nat) (a : Int) (x : List UInt8) (h : l[k]? = some (a, x)) : WS (nearL l k) ++ [Value.int .i64 (placeI a 330 - 5), Value.string ⟨x.toArray⟩] = WS (nearL l (k + 1)) := by
  obtain ⟨hk, he⟩ := List.getElem?_eq_some_iff.1 h
  unfold nearL
  rw [List.take_succ_eq_append_getElem hk, List.map_append, he, ws_snoc]
  rfl
theorem nearL_small (l : List Wr) (n : Nat) (hl : l.length = n) (h : ∀ j x, j < n → l[j]? = some x → x.2.length ≤ 300) : (∀ x, x ∈ l → x.2.length ≤ 1073741824) ∧ (∀ x, x ∈ nearL l n → x.2.length ≤ 1073741824) := by
  have h1 : ∀ x, x ∈ l → x.2.length ≤ 300 := fun x hx => by
    obtain ⟨j, hj, he⟩ := List.getElem_of_mem hx
    exact h j x (by omega) (by rw [List.getElem?_eq_getElem hj, he])
  refine ⟨fun x hx => by have := h1 x hx; omega, fun x hx => ?_⟩
  unfold nearL at hx
  rw [List.mem_map] at hx
  obtain ⟨y, hy, rfl⟩ := hx
  have := h1 y (List.mem_of_mem_take hy)
  show y.2.length ≤ _
  omega
section
variable {w : World} {g : Nat} {S : ByteArray} {n m : Nat} {L L2 : List Wr} {A1 A2 A3 A4 : Option Addr}
theorem tell_do3 (hs : S.size = 20480) (hn : m ≤ 1000) (c : Nat) (hc : m ≤ c) (wh tn : Int) (W : World) (h : TellSt w g S n m L L2 A1 A2 A3 A4 W) :
    Calls Try.prog 19 #[.agg #[.string S], .slice A3 m c, .int .i64 wh, .int .i64 tn] W fun e w' => e = .returned (.agg #[.string (doS S L2 wh tn)]) ∧ TellSt w g S n m L L2 A1 A2 A3 A4 w' :=
  (do_any S A3 m c _ L2 wh tn W hs h.r3 (by omega) hc (Nat.le_refl _)).mono fun e w' ⟨h1, h2⟩ => ⟨h1, h.next h2⟩
theorem tell_rdo4 (hs : S.size = 20480) (hn : m ≤ 1000) (c : Nat) (wh tn : Int) (W : World) (h : TellSt w g S n m L L2 A1 A2 A3 A4 W) :
    Calls Try.prog 20 #[.agg #[.string S], .slice A4 m c, .int .i64 wh, .int .i64 tn] W fun e w' => e = .returned (.agg #[.string (doS S L2 wh tn)]) ∧ TellSt w g S n m L L2 A1 A2 A3 A4 w' :=
  (rdo_any S A4 m c _ L2 wh tn W hs h.r4 (by omega) (Nat.le_refl _)).mono fun e w' ⟨h1, h2⟩ => ⟨h1, h.next h2⟩
end
/-- 'out = append(out, u)', u of two cells, as one step of a region that draws. -/
theorem step_append_two {P : Program} (w : World) {ops : Array Oper} {o : Oper} {a : Act} {K : Act → World → Prop} {Q : Exit → Act → World → Prop} {E : Prop} (hgd : o.guard = none) (s x : Operand) (t : TypeId)
    (ho : o.op = .call { callee := .builtin .append, args := #[s, x], argTypes := #[t, t] })
    (base : Nat) (e : TypeId) (i : TypeInfo) (z : Value) (bytes : Nat) (ht : P.underlying t = some (.slice e)) (hi : P.info? e = some i) (hz : i.zero = some z)
    (hsize : i.size = 2) (hby : i.bytes = bytes) (hzs : z.cells.size = 2)
    (v : Value) (n : Nat) (xs : List Value) (u1 u2 : Value) (hown : w.ownsRow base e 2 v n xs) (h1 : u1.oneCell' = true) (h2 : u2.oneCell' = true)
    (hs : a.eval s = v) (hx : a.eval x = .slice (some ⟨w.heap.size, 0, none⟩) 1 1)
    (hn : n ≤ 4294967296) (hbytes : bytes ≤ 16384) (hbase : base ≤ w.heap.size)
    (h : ∀ v' w', w'.ownsRow base e 2 v' (n + 1) (xs ++ [u1, u2]) → Below base w w' → K (a.put o.dst v') w') :
    if Region.wanted o (yielded ops a.tmps) = true then Oper.wp P o a (w.alloc (.cells #[u1, u2] e)) K Q else E := by
  have hw : Region.wanted o (yielded ops a.tmps) = true := by simp [Region.wanted, hgd]
  rw [if_pos hw]
  have hmul : (n + 1) * bytes ≤ 140737488355328 := Nat.le_trans (Nat.mul_le_mul (show n + 1 ≤ 4294967297 by omega) hbytes) (by omega)
  refine wp_append_own _ s x t ho base e i z 2 bytes ht hi hz hsize hby hzs (by omega) v n xs hs (hown.alloc _) ⟨w.heap.size, 0, none⟩ 1 1 [u1, u2] hx rfl (fun j u hu => ?_) (fun y hy => by simp at hy; rcases hy with rfl | rfl <;> assumption)
    (by unfold maxLen; omega) hmul (Nat.le_trans hbase (by simp)) ?_
  · rw [add_plain, cell_of_row (w.alloc (.cells #[u1, u2] e)) w.heap.size (0 + j) #[u1, u2] e (0, 0) (heap_alloc_new w _)]
    simpa using hu
  · intro v' w' hown' hgrow _
    exact h v' w' hown' (((Below.refl base w).alloc hbase _).grown hgrow (Nat.le_trans hbase (by simp)) fun j hj => (hown.lt j hj).1)
end Go.Proofs.Ytlhdomckljhfoaa
