/-
  Chapter 36: two rows of the call's own that grow by turns, two tables that grow by turns. Conditions: none.
-/
import Derived.Test.YtmfdpdnokiidlaaDoorHJoin
import Derived.Test.YtmfdpdnokiidlaaDoorDrawn
namespace Go.Proofs.YtmfdpdnokiidlaaDoor
open Go.ChangeShapes Go.WideShapes Go.ChangeAt Go.RowKit
set_option linter.unusedVariables false
set_option linter.unusedSimpArgs false

/-- Two rows of one type, in blocks of their own. -/
structure AB (e : TypeId) (wz W : World) (va : Value) (na : Nat) (xa : List Value) (vb : Value) (nb : Nat) (xb : List Value) : Prop where
  bel : Below wz.heap.size wz W
  oa : W.ownsRow wz.heap.size e 1 va na xa
  ob : W.ownsRow wz.heap.size e 1 vb nb xb
  ne : ∀ g, va.ownBlock = some g → vb.ownBlock ≠ some g
section
variable {e : TypeId} {wz W W' : World} {va vb : Value} {na nb : Nat} {xa xb : List Value}
theorem AB.call (h : AB e wz W va na xa vb nb xb) (hb : Below W.heap.size W W') : AB e wz W' va na xa vb nb xb :=
  ⟨h.bel.trans (hb.mono h.bel.size), own_keep h.oa hb, own_keep h.ob hb, h.ne⟩
theorem AB.appA (h : AB e wz W va na xa vb nb xb) {va' : Value} {na' : Nat} {xa' : List Value} (ho : W'.ownsRow wz.heap.size e 1 va' na' xa') (hg : W.grownBy W' va.ownBlock) (hv : va'.ownBlock = va.ownBlock ∨ va'.ownBlock = some W.heap.size) : AB e wz W' va' na' xa' vb nb xb := by
  refine ⟨h.bel.trans ((Below.refl _ _).grown hg h.bel.size fun g hk => (h.oa.lt g hk).1), ho, own_stay h.ob fun g hk _ h2 => hg.block g h2 (fun he => h.ne g he.symm hk), fun g hk => ?_⟩
  rcases hv with hv | hv
  · rw [hv] at hk; exact h.ne g hk
  · rw [hv] at hk
    intro hb
    have := (h.ob.lt g hb).2
    cases hk
    omega
theorem AB.swap (h : AB e wz W va na xa vb nb xb) : AB e wz W vb nb xb va na xa := ⟨h.bel, h.ob, h.oa, fun g hb ha => h.ne g ha hb⟩
theorem AB.appB (h : AB e wz W va na xa vb nb xb) {vb' : Value} {nb' : Nat} {xb' : List Value} (ho : W'.ownsRow wz.heap.size e 1 vb' nb' xb') (hg : W.grownBy W' vb.ownBlock) (hv : vb'.ownBlock = vb.ownBlock ∨ vb'.ownBlock = some W.heap.size) : AB e wz W' va na xa vb' nb' xb' := (h.swap.appA ho hg hv).swap
theorem AB.nil (e : TypeId) (w : World) : AB e w w (.slice none 0 0) 0 [] (.slice none 0 0) 0 [] := ⟨Below.refl _ _, World.ownsRow_nil _ _ _ _, World.ownsRow_nil _ _ _ _, fun g h => by cases h⟩
end
theorem reads_box {W : World} {g : Nat} {x : Value} (h : Own W g [x]) (hg : g < W.heap.size) : Reads W W.heap.size 1 (some ⟨g, 0, none⟩) 1 [x] :=
  ⟨rfl, fun _ => ⟨⟨g, 0, none⟩, rfl, hg, fun j u hu => by rw [add_plain]; exact (by rw [Nat.zero_add]; exact h.1 j u hu)⟩⟩
/-- 'out = append(out, x)', x of one cell: where the row lies then. -/
theorem wpList_append_grow2 {P : Program} (w : World) {ops : Array Oper} {rest : List Oper} {o : Oper} {a : Act} {Q : Exit → Act → World → Prop} (hgd : o.guard = none) (s x : Operand) (t : TypeId)
    (ho : o.op = .call { callee := .builtin .append, args := #[s, x], argTypes := #[t, t] })
    (base : Nat) (e : TypeId) (i : TypeInfo) (z : Value) (bytes : Nat) (ht : P.underlying t = some (.slice e)) (hi : P.info? e = some i) (hz : i.zero = some z)
    (hsize : i.size = 1) (hby : i.bytes = bytes) (hzs : z.cells.size = 1)
    (v : Value) (n : Nat) (xs : List Value) (u : Value) (hown : w.ownsRow base e 1 v n xs) (h1 : u.oneCell' = true)
    (hs : a.eval s = v) (hx : a.eval x = .slice (some ⟨w.heap.size, 0, none⟩) 1 1)
    (hn : n ≤ 4294967296) (hbytes : bytes ≤ 16384) (hbase : base ≤ w.heap.size)
    (h : ∀ v' w', w'.ownsRow base e 1 v' (n + 1) (xs ++ [u]) → (w.alloc (.cells #[u] e)).grownBy w' v.ownBlock → (v'.ownBlock = v.ownBlock ∨ v'.ownBlock = some (w.alloc (.cells #[u] e)).heap.size) → wpList P ops Q rest (a.put o.dst v') w') : wpList P ops Q (o :: rest) a (w.alloc (.cells #[u] e)) := by
  have hmul : (n + 1) * bytes ≤ 140737488355328 := Nat.le_trans (Nat.mul_le_mul (show n + 1 ≤ 4294967297 by omega) hbytes) (by omega)
  have hb := box_below w (.cells #[u] e)
  refine wpList_append_any (w := w.alloc (.cells #[u] e)) hgd s x t ho base e i z 1 bytes ht hi hz hsize hby hzs (by omega) v n xs hs (own_keep hown hb) (w.alloc (.cells #[u] e)).heap.size (some ⟨w.heap.size, 0, none⟩) 1 1 [u] hx (reads_box (own_new w [u] e) (by simp)) (fun y hy => by simp at hy; subst hy; exact h1)
    (by unfold maxLen; omega) hmul (Nat.le_trans hbase hb.size) h

/-! Two tables. -/
def TabR (W : World) (base : Nat) (vs : List Value) (rows : List (List Int)) : Prop :=
  ∀ (i : Nat) (r : List Int), rows[i]? = some r → ∃ Ai ci, vs[i]? = some (.slice Ai r.length ci) ∧ r.length ≤ ci ∧ W.ownsRow base 3 1 (.slice Ai r.length ci) r.length (r.map (Value.int .i64))
theorem TabR.stay {W W' : World} {base : Nat} {vs : List Value} {rows : List (List Int)} (h : TabR W base vs rows) (hk : ∀ g, base ≤ g → g < W.heap.size → W'.heap[g]? = W.heap[g]?) : TabR W' base vs rows := fun i r hr => by
  obtain ⟨Ai, ci, g1, g2, g3⟩ := h i r hr
  exact ⟨Ai, ci, g1, g2, own_stay g3 fun g _ => hk g⟩
theorem TabR.other {W W' : World} {base base2 n2 : Nat} {v2 : Value} {xs2 : List Value} {vs : List Value} {rows : List (List Int)} (h : TabR W base vs rows) (k : W.ownsRow base2 22 1 v2 n2 xs2) (hg : W.grownBy W' v2.ownBlock) : TabR W' base vs rows := fun i r hr => by
  obtain ⟨Ai, ci, g1, g2, g3⟩ := h i r hr
  exact ⟨Ai, ci, g1, g2, own_other g3 k (by decide) hg⟩
theorem TabR.snoc {W : World} {base : Nat} {vs : List Value} {rows : List (List Int)} (h : TabR W base vs rows) (hl : vs.length = rows.length) {r : List Int} {A : Option Addr} {n c : Nat} (hn : n = r.length) (hc : n ≤ c) (ho : W.ownsRow base 3 1 (.slice A n c) n (r.map (Value.int .i64))) : TabR W base (vs ++ [.slice A n c]) (rows ++ [r]) := fun q s hq => by
  by_cases hqr : q < rows.length
  · rw [List.getElem?_append_left hqr] at hq
    obtain ⟨Ai, ci, g1, g2, g3⟩ := h q s hq
    exact ⟨Ai, ci, by rw [List.getElem?_append_left (by omega)]; exact g1, g2, g3⟩
  · rw [List.getElem?_append_right (by omega)] at hq
    have hq0 : q - rows.length = 0 := by
      have := (List.getElem?_eq_some_iff.1 hq).1
      simp at this
      omega
    rw [hq0] at hq
    simp at hq
    subst hq
    subst hn
    exact ⟨A, c, by rw [List.getElem?_append_right (by omega), hl, hq0]; rfl, hc, ho⟩
/-- Two tables under way. -/
structure TT2 (wz W : World) (va : Value) (ra : List (List Int)) (vb : Value) (rb : List (List Int)) : Prop where
  ex : ∃ xa xb : List Value, AB 22 wz W va ra.length xa vb rb.length xb ∧ TabR W wz.heap.size xa ra ∧ TabR W wz.heap.size xb rb
theorem TT2.call {wz W W' : World} {va vb : Value} {ra rb : List (List Int)} (h : TT2 wz W va ra vb rb) (hb : Below W.heap.size W W') : TT2 wz W' va ra vb rb := by
  obtain ⟨xa, xb, h1, h2, h3⟩ := h.ex
  exact ⟨xa, xb, h1.call hb, h2.stay fun g _ h2 => hb.block g h2, h3.stay fun g _ h2 => hb.block g h2⟩
theorem TT2.rd {wz W : World} {va vb : Value} {ra rb : List (List Int)} (h : TT2 wz W va ra vb rb) : TabAt W wz.heap.size va ra ∧ TabAt W wz.heap.size vb rb := by
  obtain ⟨xa, xb, h1, h2, h3⟩ := h.ex
  exact ⟨⟨xa, h1.oa, h2⟩, ⟨xb, h1.ob, h3⟩⟩
/-! The turned tables, row by row. -/
def mulF (k : Nat) (_ : Nat) (c : Int) : Int := c * (k : Int)
def upK (f : Nat → Int → Int) (T : List (List Int)) (i : Nat) : List (List Int) := (turnT f 0 T).take i
theorem upK_succ {f : Nat → Int → Int} {T : List (List Int)} {i : Nat} {row : List Int} (h : T[i]? = some row) : upK f T (i + 1) = upK f T i ++ [row.map (f i)] := by
  have h1 : (turnT f 0 T)[i]? = some (row.map (f i)) := by rw [turn_at, h, Nat.zero_add]; rfl
  obtain ⟨hlt, he⟩ := List.getElem?_eq_some_iff.1 h1
  unfold upK
  rw [List.take_succ_eq_append_getElem hlt, he]
theorem turn_len (f : Nat → Int → Int) : ∀ (T : List (List Int)) (i : Nat), (turnT f i T).length = T.length
  | [], _ => rfl
  | r :: T, i => by rw [turnT, List.length_cons, List.length_cons, turn_len f T]
theorem upK_len {f : Nat → Int → Int} {T : List (List Int)} {i : Nat} (h : i ≤ T.length) : (upK f T i).length = i := by
  unfold upK
  rw [List.length_take, turn_len]
  omega
theorem upK_end {f : Nat → Int → Int} {T : List (List Int)} : upK f T T.length = turnT f 0 T := by
  unfold upK
  rw [← turn_len f T 0, List.take_length]
theorem turn_ok {f : Nat → Int → Int} {b : Int} : ∀ {T : List (List Int)} {i : Nat}, (∀ r ∈ T, (0 < r.length ∧ r.length ≤ 5) ∧ ∀ x ∈ r, 0 ≤ x ∧ x ≤ b) → (∀ i x, 0 ≤ x → x ≤ b → 0 ≤ f i x ∧ f i x ≤ 16777216) → TabOk (turnT f i T)
  | [], _, _, _ => fun r hr => by simp [turnT] at hr
  | s :: T, i, h, hf => fun r hr => by
    rw [turnT, List.mem_cons] at hr
    rcases hr with rfl | hr
    · obtain ⟨h1, h2⟩ := h s (by simp)
      refine ⟨by simpa using h1, fun x hx => ?_⟩
      obtain ⟨y, hy, rfl⟩ := List.mem_map.1 hx
      exact hf i y (h2 y hy).1 (h2 y hy).2
    · exact turn_ok (fun q hq => h q (List.mem_cons_of_mem _ hq)) hf r hr
theorem map_take {f : Int → Int} {row : List Int} {v : Nat} (hv : v < row.length) : (row.take (v + 1)).map f = (row.take v).map f ++ [f (row.getD v 0)] := by
  rw [List.take_succ_eq_append_getElem hv, List.map_append, List.getD_eq_getElem?_getD, List.getElem?_eq_getElem hv]
  rfl
end Go.Proofs.YtmfdpdnokiidlaaDoor
