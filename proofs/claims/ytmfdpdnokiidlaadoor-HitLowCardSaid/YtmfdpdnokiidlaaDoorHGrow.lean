/-
  Chapter 36: rows of the call's own that grow: the append laws with what stays; the G of linchpinmade in memory and its Next. Conditions: none of a run's own.
-/
import Derived.Test.YtmfdpdnokiidlaaDoorHRaises
import Derived.Deep.LoopGhost
namespace Go.Proofs.YtmfdpdnokiidlaaDoor
open Go.ChangeShapes Go.WideShapes Go.ChangeAt Go.RowKit
set_option linter.unusedVariables false
set_option linter.unusedSimpArgs false

theorem own_mono {w : World} {base base' n size : Nat} {e : TypeId} {v : Value} {xs : List Value} (h : w.ownsRow base e size v n xs) (hb : base' ≤ base) : w.ownsRow base' e size v n xs := by
  refine ⟨h.1, ?_⟩
  rcases h.2 with hn | ⟨g, cap, cur, hv, hg, rest⟩
  · exact .inl hn
  · exact .inr ⟨g, cap, cur, hv, Nat.le_trans hb hg, rest⟩
theorem own_same2 {W W' : World} {b : Nat} {xs : List Value} (h : Own W b xs) (he : W'.heap[b]? = W.heap[b]?) : Own W' b xs :=
  ⟨fun i u hu => (World.cell?_of_block (w := W) (a := ⟨b, i, none⟩) he).trans (h.1 i u hu), fun o => (World.frozen?_of_block (w := W) (a := ⟨b, o, none⟩) he).trans (h.2 o)⟩
/-- A row stays where its block does. -/
theorem own_stay {w w' : World} {base n size : Nat} {e : TypeId} {v : Value} {xs : List Value} (h : w.ownsRow base e size v n xs) (hk : ∀ g, v.ownBlock = some g → base ≤ g → g < w.heap.size → w'.heap[g]? = w.heap[g]?) : w'.ownsRow base e size v n xs := by
  refine ⟨h.1, ?_⟩
  rcases h.2 with hn | ⟨g, cap, cur, hv, hg, hh, rest⟩
  · exact .inl hn
  · exact .inr ⟨g, cap, cur, hv, hg, (hk g (by rw [hv]; rfl) hg (Array.getElem?_eq_some_iff.1 hh).1).trans hh, rest⟩
/-- A row of one type stays while one of another type grows. -/
theorem own_other {w w' : World} {base n size base2 n2 size2 : Nat} {e e2 : TypeId} {v v2 : Value} {xs xs2 : List Value} (h : w.ownsRow base e size v n xs) (k : w.ownsRow base2 e2 size2 v2 n2 xs2) (hne : e ≠ e2) (hg : w.grownBy w' v2.ownBlock) : w'.ownsRow base e size v n xs := by
  refine ⟨h.1, ?_⟩
  rcases h.2 with hn | ⟨g, cap, cur, hv, hgb, hh, rest⟩
  · exact .inl hn
  · refine .inr ⟨g, cap, cur, hv, hgb, (hg.block g (Array.getElem?_eq_some_iff.1 hh).1 (fun he => ?_)).trans hh, rest⟩
    rcases k.2 with ⟨hn, _⟩ | ⟨g2, cap2, cur2, hv2, _, hh2, _⟩
    · rw [hn] at he; cases he
    · rw [hv2] at he
      cases he
      rw [hh] at hh2
      cases hh2
      exact hne rfl
theorem grown_on {a b c : World} {bg : Nat} {row : Option Nat} (h : a.grownBy b (some bg)) (k : b.grownBy c row) (hr : ∀ g, row = some g → a.heap.size ≤ g) : a.grownBy c (some bg) :=
  ⟨k.os.trans h.os, k.tape.trans h.tape, k.output.trans h.output, Nat.le_trans h.size k.size, fun i hi hn => (k.block i (Nat.lt_of_lt_of_le hi h.size) (fun he => by have := hr i he.symm; omega)).trans (h.block i hi hn)⟩
theorem grown_self (a : World) (row : Option Nat) : a.grownBy a row := ⟨rfl, rfl, rfl, Nat.le_refl _, fun _ _ _ => rfl⟩
theorem grown_below {a b c : World} {row : Option Nat} (h : a.grownBy b row) (k : Below b.heap.size b c) : a.grownBy c row :=
  ⟨k.os.trans h.os, k.tape.trans h.tape, k.output.trans h.output, Nat.le_trans h.size k.size, fun i hi hn => (k.block i (Nat.lt_of_lt_of_le hi h.size)).trans (h.block i hi hn)⟩
/-- 'out = append(out, x)', out nil or the call's own: only out's block may turn. -/
theorem wpList_append_grow {P : Program} (w : World) {ops : Array Oper} {rest : List Oper} {o : Oper} {a : Act} {Q : Exit → Act → World → Prop} (hgd : o.guard = none) (s x : Operand) (t : TypeId)
    (ho : o.op = .call { callee := .builtin .append, args := #[s, x], argTypes := #[t, t] })
    (base : Nat) (e : TypeId) (i : TypeInfo) (z : Value) (size bytes : Nat) (ht : P.underlying t = some (.slice e)) (hi : P.info? e = some i) (hz : i.zero = some z)
    (hsize : i.size = size) (hby : i.bytes = bytes) (hzs : z.cells.size = size) (h0 : 0 < size)
    (v : Value) (n : Nat) (xs us : List Value) (hus : us.length = size) (hown : w.ownsRow base e size v n xs) (h1 : ∀ u ∈ us, u.oneCell' = true)
    (hs : a.eval s = v) (hx : a.eval x = .slice (some ⟨w.heap.size, 0, none⟩) 1 1)
    (hn : n ≤ 4294967296) (hbytes : bytes ≤ 16384) (hbase : base ≤ w.heap.size)
    (h : ∀ v' w', w'.ownsRow base e size v' (n + 1) (xs ++ us) → w.grownBy w' v.ownBlock → wpList P ops Q rest (a.put o.dst v') w') : wpList P ops Q (o :: rest) a (w.alloc (.cells us.toArray e)) := by
  have hmul : (n + 1) * bytes ≤ 140737488355328 := Nat.le_trans (Nat.mul_le_mul (show n + 1 ≤ 4294967297 by omega) hbytes) (by omega)
  refine wpList_append_own _ hgd s x t ho base e i z size bytes ht hi hz hsize hby hzs h0 v n xs hs (hown.alloc _) ⟨w.heap.size, 0, none⟩ 1 1 us hx (by rw [hus, Nat.one_mul]) (fun j u hu => ?_) h1
    (by unfold maxLen; omega) hmul (Nat.le_trans hbase (by simp)) ?_
  · rw [add_plain, cell_of_row (w.alloc (.cells us.toArray e)) w.heap.size (0 + j) us.toArray e (0, 0) (heap_alloc_new w _)]
    simpa using hu
  · intro v' w' hown' hgrow _
    refine h v' w' hown' ?_
    have hb := box_below w (.cells us.toArray e)
    exact ⟨hgrow.os.trans hb.os, hgrow.tape.trans hb.tape, hgrow.output.trans hb.output, Nat.le_trans hb.size hgrow.size, fun k hk hne => (hgrow.block k (Nat.lt_of_lt_of_le hk hb.size) hne).trans (hb.block k hk)⟩

/-! The G: a list's numbers, one by one. -/
structure GAt (w W : World) (A : Option Addr) (c : Nat) (l : List Int) (i : Nat) : Prop where
  rd : RdI W w.heap.size A l
  own : Own W w.heap.size [.slice A l.length c, .int .i64 (i : Nat)]
  lt : w.heap.size < W.heap.size
  bel : Below w.heap.size w W
theorem GAt.call {w W W' : World} {A : Option Addr} {c i : Nat} {l : List Int} (h : GAt w W A c l i) (hb : Below W.heap.size W W') : GAt w W' A c l i :=
  ⟨rdI_below h.rd (hb.mono (Nat.le_of_lt h.lt)), own_below h.own h.lt hb, Nat.lt_of_lt_of_le h.lt hb.size, h.bel.trans (hb.mono (Nat.le_of_lt h.lt))⟩
theorem GAt.start {w : World} {A : Option Addr} {c : Nat} {l : List Int} (h : RdI w w.heap.size A l) (t : TypeId) : GAt w (w.alloc (.cells #[.slice A l.length c, .int .i64 0] t)) A c l 0 :=
  ⟨rdI_below h (box_below _ _), own_new w [.slice A l.length c, .int .i64 0] t, by simp, box_below _ _⟩
theorem GAt.next {w W : World} {A : Option Addr} {c i : Nat} {l : List Int} (h : GAt w W A c l i) : GAt w ((W.setCell ⟨w.heap.size, 1, none⟩ (.int .i64 ((i : Int) + 1))).drew) A c l (i + 1) := by
  have hb : Below w.heap.size W (W.setCell ⟨w.heap.size, 1, none⟩ (.int .i64 ((i : Int) + 1))) := Below.setCell (p := ⟨w.heap.size, 1, none⟩) (Below.refl _ _) (Nat.le_refl w.heap.size) _
  refine ⟨rdI_below h.rd hb.drew, own_drew (own_set h.own 1 (by simp) _), by show _ < (W.setCell _ _).heap.size; simpa using h.lt, (h.bel.trans hb).drew⟩
/-- What Next hands back. -/
theorem gnext_any {w W : World} {A : Option Addr} {c i : Nat} {l : List Int} (h : GAt w W A c l i) (n : Nat) (hl : l.length ≤ maxLen) (hw : ∀ z ∈ l, (Lit.int .i64 z).wf = true) (hi : i ≤ 1000000) (h0 : 0 < n) (h1 : n ≤ 1048576) :
    Calls Tryd.prog 21 #[.pointer (some ⟨w.heap.size, 0, none⟩), .int .i64 n] W fun e w' => e = .returned (.int .i64 (nextN l i n : Nat)) ∧ GAt w w' A c l (i + 1) ∧ W.grownBy w' (some w.heap.size) := by
  refine (next_any A c w.heap.size w.heap.size l i n W w h.rd hl hw hi h0 h1 h.own (Nat.le_refl _)).mono ?_
  rintro e w' ⟨rfl, rfl⟩
  refine ⟨rfl, h.next, ?_⟩
  have hg : W.grownBy (W.setCell ⟨w.heap.size, 1, none⟩ (.int .i64 ((i : Int) + 1))) (some w.heap.size) := only_setCell (grown_self W _) (.inl rfl) _
  exact only_drew hg
end Go.Proofs.YtmfdpdnokiidlaaDoor
