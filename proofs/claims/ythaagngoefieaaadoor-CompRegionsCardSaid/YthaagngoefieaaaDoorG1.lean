/-
  Merged parts, one behind another; each says ahead what it proves: Mem IdPlain IdBase IdNumFacts VPlain IdLaws CBase CPlain.
-/
import Derived.Below
import Derived.Calls
import Derived.Laws.OwnMore
import Derived.Deep.AppendLies
import Derived.Deep.Draws
import Derived.Deep.OwnRows
import Derived.Deep.QuietTactic
import Derived.Laws.Rows
import Derived.Maps.AppendAt
import Derived.RegionTactic
import Derived.OwnWalk
import Derived.Lib.Hide
import Derived.Laws.BytesArg
import Derived.ChangeSame
import Derived.Lib.ItoaNum
import Derived.Test.YthaagngoefieaaaDoorRows
import Derived.WalkKit
import Derived.ProofKit
import Derived.WalkSpells
import Derived.WalkLawsBesides
import Derived.Outline
import Derived.Laws.RangeAny
import Derived.Lib.Strings

/-
  Plain words for memory: a slice that reads as a list, a block known whole, an append from whatever source. Conditions: none. (Turned from the guide's pages of lemmas to copy.)
-/
section
namespace Go.Proofs.YthaagngoefieaaaDoor
open Go.RowKit

theorem block_of_add (a : Addr) (n : Nat) : (a.add n).block = a.block := by unfold Addr.add; split <;> rfl
theorem add_of_add (a : Addr) (i j : Nat) : (a.add i).add j = a.add (i + j) := by
  unfold Addr.add
  by_cases hi : i = 0 <;> by_cases hj : j = 0 <;> simp [hi, hj, Nat.add_assoc]

def Reads (w : World) (B size : Nat) (A : Option Addr) (n : Nat) (xs : List Value) : Prop :=
  xs.length = n * size ∧ (0 < n → ∃ ad, A = some ad ∧ ad.block < B ∧ ∀ j u, xs[j]? = some u → w.cell? (ad.add j) = some u)

section
variable {w w' : World} {B B' size n : Nat} {A : Option Addr} {xs : List Value}
theorem Reads.none_ : Reads w B size A 0 [] := ⟨by simp, fun h => absurd h (by omega)⟩
theorem Reads.at_ {k : Nat} (h : Reads w B 1 A n xs) (hk : k < n) : ∃ ad u, A = some ad ∧ ad.block < B ∧ xs[k]? = some u ∧ w.cell? (ad.add k) = some u := by
  obtain ⟨ad, e, hb, hc⟩ := h.2 (by omega)
  have hl : k < xs.length := by have := h.1; omega
  exact ⟨ad, xs[k], e, hb, List.getElem?_eq_getElem hl, hc k _ (List.getElem?_eq_getElem hl)⟩
theorem Reads.keep (h : Reads w B size A n xs) (hk : ∀ p : Addr, p.block < B → w'.cell? p = w.cell? p) : Reads w' B size A n xs :=
  ⟨h.1, fun hn => by
    obtain ⟨ad, e, hb, hc⟩ := h.2 hn
    exact ⟨ad, e, hb, fun j u hu => (hk _ (by rw [block_of_add]; exact hb)).trans (hc j u hu)⟩⟩
theorem Reads.more (h : Reads w B size A n xs) (hB : B ≤ B') : Reads w B' size A n xs :=
  ⟨h.1, fun hn => by
    obtain ⟨ad, e, hb, hc⟩ := h.2 hn
    exact ⟨ad, e, by omega, hc⟩⟩
theorem Reads.below (h : Reads w B size A n xs) (hb : Below B w w') : Reads w' B size A n xs := h.keep fun _ hp => hb.cell hp
theorem Reads.drew (h : Reads w B size A n xs) : Reads w.drew B size A n xs := h
theorem Reads.drewN (h : Reads w B size A n xs) (k : Nat) : Reads (w.drewN k) B size A n xs := h
theorem Reads.alloc (h : Reads w B size A n xs) (hB : B ≤ w.heap.size) (o : Obj) : Reads (w.alloc o) B size A n xs := h.keep fun p hp => World.cell?_alloc_lt w o p (by omega)
theorem Reads.setCell (h : Reads w B size A n xs) {p : Addr} (hB : B ≤ p.block) (u : Value) : Reads (w.setCell p u) B size A n xs :=
  h.keep fun q hq => World.cell?_setCell_other w p q u (fun e => by subst e; omega)
theorem Reads.grown (h : Reads w B size A n xs) {row : Option Nat} (hg : w.grownBy w' row) (hB : B ≤ w.heap.size) (hr : ∀ g, row = some g → B ≤ g) : Reads w' B size A n xs :=
  h.keep fun p hp => World.cell?_of_block (hg.block p.block (by omega) (fun e => by have := hr _ e.symm; omega))
theorem Reads.cut (h : Reads w B size A n xs) {k cap : Nat} (hk : k ≤ n) (hc : n ≤ cap) :
    Reads w B size (if cap = k then A else A.map (·.add (k * size))) (n - k) (xs.drop (k * size)) := by
  refine ⟨by rw [List.length_drop, h.1, Nat.sub_mul], fun hn => ?_⟩
  obtain ⟨ad, rfl, hb, hcell⟩ := h.2 (by omega)
  rw [if_neg (by omega)]
  refine ⟨ad.add (k * size), rfl, by rw [block_of_add]; exact hb, fun j u hu => ?_⟩
  rw [add_of_add]
  exact hcell _ u (by rw [← hu, List.getElem?_drop])
theorem Reads.of_own {base : Nat} {e : TypeId} {c : Nat} (h : w.ownsRow base e size (.slice A n c) n xs) : Reads w w.heap.size size A n xs := by
  refine ⟨h.1, fun hn => ?_⟩
  obtain ⟨g, cap, hv, _, hlt⟩ := h.form hn
  have hA : A = some ⟨g, 0, none⟩ := by injection hv
  subst hA
  exact ⟨_, rfl, hlt, h.cells (g := g) rfl⟩
end

def Blk (w : World) (g : Nat) (t : TypeId) (cs : Array Value) : Prop := w.heap[g]? = some (.cells cs t (0, 0))

section
variable {w w' : World} {g : Nat} {t : TypeId} {cs : Array Value}
theorem Blk.lt (h : Blk w g t cs) : g < w.heap.size := by
  rcases Nat.lt_or_ge g w.heap.size with hlt | hge
  · exact hlt
  · unfold Blk at h; rw [Array.getElem?_eq_none hge] at h; cases h
theorem Blk.cell (h : Blk w g t cs) (i : Nat) : w.cell? ⟨g, i, none⟩ = cs[i]? := cell_of_row w g i cs t (0, 0) h
theorem Blk.frozen (h : Blk w g t cs) (i : Nat) : w.frozen? ⟨g, i, none⟩ = false := by
  unfold Blk at h
  simp [World.frozen?, h]
theorem Blk.new (w : World) (t : TypeId) (cs : Array Value) : Blk (w.alloc (.cells cs t)) w.heap.size t cs := heap_alloc_new w _
theorem Blk.drew (h : Blk w g t cs) : Blk w.drew g t cs := h
theorem Blk.drewN (h : Blk w g t cs) (n : Nat) : Blk (w.drewN n) g t cs := h
theorem Blk.alloc (h : Blk w g t cs) (o : Obj) : Blk (w.alloc o) g t cs := (Below.heap_alloc w o g h.lt).trans h
theorem Blk.set_ (h : Blk w g t cs) (i : Nat) (u : Value) : Blk (w.setCell ⟨g, i, none⟩ u) g t (cs.setIfInBounds i u) := by
  unfold Blk at h ⊢
  simp [World.setCell, Array.getElem?_modify, h]
theorem Blk.far (h : Blk w g t cs) {p : Addr} (hp : g ≠ p.block) (u : Value) : Blk (w.setCell p u) g t cs := (Below.heap_setCell w p u g hp).trans h
theorem Blk.below {B : Nat} (h : Blk w g t cs) (hb : Below B w w') (hg : g < B) : Blk w' g t cs := (hb.block g hg).trans h
theorem Blk.grown {row : Option Nat} (h : Blk w g t cs) (hb : w.grownBy w' row) (hg : some g ≠ row) : Blk w' g t cs := (hb.block g h.lt hg).trans h
theorem Blk.ne_ {g' : Nat} {t' : TypeId} {cs' : Array Value} (h : Blk w g t cs) (h' : Blk w g' t' cs') (hne : t ≠ t') : g ≠ g' := by
  rintro rfl
  unfold Blk at h h'
  rw [h] at h'
  injection h' with h'
  injection h' with _ ht
  exact hne ht
theorem own_blk_ne {base : Nat} {e : TypeId} {size n : Nat} {v : Value} {xs : List Value} (h : w.ownsRow base e size v n xs) (hg : Blk w g t cs) (hne : e ≠ t) : v.ownBlock ≠ some g := by
  rcases h.2 with ⟨rfl, _⟩ | ⟨g', cap, cur, rfl, _, hh, _⟩
  · simp [Value.ownBlock]
  · intro he
    have : g' = g := by simpa [Value.ownBlock] using he
    subst this
    exact Blk.ne_ (t := e) hh hg hne rfl
end

section
variable {P : Program} (w : World)

theorem run_append_of_nil (base : Nat) (t ty e : TypeId) (i : TypeInfo) (size : Nat) (ht : P.underlying t = some (.slice e)) (hi : P.info? e = some i)
    (v : Value) (n : Nat) (xs : List Value) (hown : w.ownsRow base e size v n xs) (c : Nat) : (Builtin.append_ #[t, t] ty #[v, .slice none 0 c]).run P w = .ok v w := by
  rcases hown.2 with ⟨rfl, rfl⟩ | ⟨g, cap, cur, rfl, _, _, hnc, _⟩
  · simp [Builtin.append_, run_underlying ht, sizeOf, typeInfo, hi, Builtin.lenOf, Builtin.firstCells]
  · simp [Builtin.append_, run_underlying ht, sizeOf, typeInfo, hi, Builtin.lenOf, Builtin.firstCells, hnc, storeCells]

theorem run_append_any (base : Nat) (t ty e : TypeId) (i : TypeInfo) (z : Value) (size bytes : Nat) (ht : P.underlying t = some (.slice e)) (hi : P.info? e = some i) (hz : i.zero = some z)
    (hsize : i.size = size) (hby : i.bytes = bytes) (hzs : z.cells.size = size) (hsz : 0 < size)
    (v : Value) (n : Nat) (xs : List Value) (hown : w.ownsRow base e size v n xs)
    (B : Nat) (A : Option Addr) (m c : Nat) (news : List Value) (hr : Reads w B size A m news) (h1 : ∀ u ∈ news, u.oneCell' = true)
    (h63 : n + m ≤ maxLen) (hbytes : (n + m) * bytes ≤ 140737488355328) (hbase : base ≤ w.heap.size) :
    ∃ v' w', (Builtin.append_ #[t, t] ty #[v, .slice A m c]).run P w = .ok v' w' ∧ w'.ownsRow base e size v' (n + m) (xs ++ news) ∧ w.grownBy w' v.ownBlock ∧
      (v'.ownBlock = v.ownBlock ∨ v'.ownBlock = some w.heap.size) := by
  rcases A with _ | ad
  · have hm : m = 0 := by
      rcases Nat.eq_zero_or_pos m with h0 | h0
      · exact h0
      · obtain ⟨ad, h, _⟩ := hr.2 h0
        cases h
    subst hm
    have hn : news = [] := List.eq_nil_of_length_eq_zero (by simpa using hr.1)
    subst hn
    exact ⟨v, w, run_append_of_nil w base t ty e i size ht hi v n xs hown c, by simpa using hown, World.grownBy.refl w _, .inl rfl⟩
  · have hcells : ∀ j u, news[j]? = some u → w.cell? (ad.add j) = some u := by
      intro j u hu
      rcases Nat.eq_zero_or_pos m with h0 | h0
      · subst h0
        have hn : news = [] := List.eq_nil_of_length_eq_zero (by simpa using hr.1)
        subst hn
        simp at hu
      · obtain ⟨ad', h, _, hc⟩ := hr.2 h0
        injection h with h
        subst h
        exact hc j u hu
    obtain ⟨v', w', hrun, h2, h3, _, h5⟩ := run_append_own_at (P := P) w base t ty e i z size bytes ht hi hz hsize hby hzs hsz v n xs hown ad m c news hr.1 hcells h1 h63 hbytes hbase
    exact ⟨v', w', hrun, h2, h3, h5⟩

theorem wp_append_any {o : Oper} {a : Act} {K : Act → World → Prop} {Q : Exit → Act → World → Prop} (s x : Operand) (t : TypeId)
    (ho : o.op = .call { callee := .builtin .append, args := #[s, x], argTypes := #[t, t] })
    (base : Nat) (e : TypeId) (i : TypeInfo) (z : Value) (size bytes : Nat) (ht : P.underlying t = some (.slice e)) (hi : P.info? e = some i) (hz : i.zero = some z)
    (hsize : i.size = size) (hby : i.bytes = bytes) (hzs : z.cells.size = size) (hsz : 0 < size)
    (v : Value) (n : Nat) (xs : List Value) (hs : a.eval s = v) (hown : w.ownsRow base e size v n xs)
    (B : Nat) (A : Option Addr) (m c : Nat) (news : List Value) (hx : a.eval x = .slice A m c) (hr : Reads w B size A m news) (h1 : ∀ u ∈ news, u.oneCell' = true)
    (h63 : n + m ≤ maxLen) (hbytes : (n + m) * bytes ≤ 140737488355328) (hbase : base ≤ w.heap.size)
    (h : ∀ v' w', w'.ownsRow base e size v' (n + m) (xs ++ news) → w.grownBy w' v.ownBlock → (v'.ownBlock = v.ownBlock ∨ v'.ownBlock = some w.heap.size) → K (a.put o.dst v') w') : o.wp P a w K Q := by
  obtain ⟨v', w', hrun, h2, h3, h4⟩ := run_append_any (P := P) w base t o.type e i z size bytes ht hi hz hsize hby hzs hsz v n xs hown B A m c news hr h1 h63 hbytes hbase
  unfold Oper.wp execOp
  simp only [ho, resolve, invoke, builtin, Sem.run_bind, Sem.run_pure, Result.andThen_ok, List.map_toArray, List.map_cons, List.map_nil, hs, hx, hrun]
  exact h v' w' h2 h3 h4

theorem wpList_append_any {ops : Array Oper} {rest : List Oper} {o : Oper} {a : Act} {Q : Exit → Act → World → Prop} (hgd : o.guard = none) (s x : Operand) (t : TypeId)
    (ho : o.op = .call { callee := .builtin .append, args := #[s, x], argTypes := #[t, t] })
    (base : Nat) (e : TypeId) (i : TypeInfo) (z : Value) (size bytes : Nat) (ht : P.underlying t = some (.slice e)) (hi : P.info? e = some i) (hz : i.zero = some z)
    (hsize : i.size = size) (hby : i.bytes = bytes) (hzs : z.cells.size = size) (hsz : 0 < size)
    (v : Value) (n : Nat) (xs : List Value) (hs : a.eval s = v) (hown : w.ownsRow base e size v n xs)
    (B : Nat) (A : Option Addr) (m c : Nat) (news : List Value) (hx : a.eval x = .slice A m c) (hr : Reads w B size A m news) (h1 : ∀ u ∈ news, u.oneCell' = true)
    (h63 : n + m ≤ maxLen) (hbytes : (n + m) * bytes ≤ 140737488355328) (hbase : base ≤ w.heap.size)
    (h : ∀ v' w', w'.ownsRow base e size v' (n + m) (xs ++ news) → w.grownBy w' v.ownBlock → (v'.ownBlock = v.ownBlock ∨ v'.ownBlock = some w.heap.size) → wpList P ops Q rest (a.put o.dst v') w') : wpList P ops Q (o :: rest) a w :=
  wpList_plain hgd fun _ hK => wp_append_any w s x t ho base e i z size bytes ht hi hz hsize hby hzs hsz v n xs hs hown B A m c news hx hr h1 h63 hbytes hbase fun v' w' h2 h3 h4 => hK _ _ (h v' w' h2 h3 h4)

theorem step_append_any {ops : Array Oper} {o : Oper} {a : Act} {K : Act → World → Prop} {Q : Exit → Act → World → Prop} {E : Prop} (hgd : o.guard = none) (s x : Operand) (t : TypeId)
    (ho : o.op = .call { callee := .builtin .append, args := #[s, x], argTypes := #[t, t] })
    (base : Nat) (e : TypeId) (i : TypeInfo) (z : Value) (size bytes : Nat) (ht : P.underlying t = some (.slice e)) (hi : P.info? e = some i) (hz : i.zero = some z)
    (hsize : i.size = size) (hby : i.bytes = bytes) (hzs : z.cells.size = size) (hsz : 0 < size)
    (v : Value) (n : Nat) (xs : List Value) (hs : a.eval s = v) (hown : w.ownsRow base e size v n xs)
    (B : Nat) (A : Option Addr) (m c : Nat) (news : List Value) (hx : a.eval x = .slice A m c) (hr : Reads w B size A m news) (h1 : ∀ u ∈ news, u.oneCell' = true)
    (h63 : n + m ≤ maxLen) (hbytes : (n + m) * bytes ≤ 140737488355328) (hbase : base ≤ w.heap.size)
    (h : ∀ v' w', w'.ownsRow base e size v' (n + m) (xs ++ news) → w.grownBy w' v.ownBlock → (v'.ownBlock = v.ownBlock ∨ v'.ownBlock = some w.heap.size) → K (a.put o.dst v') w') :
    if Region.wanted o (yielded ops a.tmps) = true then Oper.wp P o a w K Q else E := by
  have hw : Region.wanted o (yielded ops a.tmps) = true := by simp [Region.wanted, hgd]
  rw [if_pos hw]
  exact wp_append_any w s x t ho base e i z size bytes ht hi hz hsize hby hzs hsz v n xs hs hown B A m c news hx hr h1 h63 hbytes hbase h
end

theorem hide {p : Prop} (h : p) : Hid p := h
theorem unhide {p : Prop} (h : Hid p) : p := h

theorem quiet_add {P : Program} {f : FuncId} {args : Array Value} {w : World} {a n : Nat} {v : Value}
    (h : Calls P f args (w.drewN (a + n)) fun e w' => e = .returned v ∧ ∃ m, w' = (w.drewN (a + n)).drewN m) :
    Calls P f args (w.drewN (a + n)) fun e w'' => e = .returned v ∧ ∃ m, w'' = w.drewN (a + m) :=
  h.mono fun _ _ ⟨he, m, hm⟩ => ⟨he, n + m, by rw [hm, World.drewN_drewN, Nat.add_assoc]⟩
theorem quiet_add_same {P : Program} {f : FuncId} {args : Array Value} {w : World} {a n : Nat} {v : Value}
    (h : Calls P f args (w.drewN (a + n)) fun e w' => e = .returned v ∧ w' = w.drewN (a + n)) :
    Calls P f args (w.drewN (a + n)) fun e w'' => e = .returned v ∧ ∃ m, w'' = w.drewN (a + m) :=
  h.mono fun _ _ ⟨he, hm⟩ => ⟨he, n, hm⟩
theorem quiet_add_left {P : Program} {f : FuncId} {args : Array Value} {w : World} {a n : Nat} {v : Value}
    (h : Calls P f args (w.drewN (a + n)) fun e w' => e = .returned v ∧ w.drewN (a + n) = w') :
    Calls P f args (w.drewN (a + n)) fun e w'' => e = .returned v ∧ ∃ m, w'' = w.drewN (a + m) :=
  h.mono fun _ _ ⟨he, hm⟩ => ⟨he, n, hm.symm⟩
theorem quiet_left {P : Program} {f : FuncId} {args : Array Value} {w : World} {n : Nat} {v : Value}
    (h : Calls P f args (w.drewN n) fun e w' => e = .returned v ∧ w.drewN n = w') : Calls P f args (w.drewN n) fun e w'' => e = .returned v ∧ ∃ m, w'' = w.drewN m :=
  h.mono fun _ _ ⟨he, hm⟩ => ⟨he, n, hm.symm⟩

theorem results_tmp4 {fn : Func} {t u v x : Tmp} (h : fn.results = #[.tmp t, .tmp u, .tmp v, .tmp x]) (tmps : Array Value) (P : Program) (w : World) :
    (results fn tmps).run P w = .ok (.tuple #[tmps.getD t undef, tmps.getD u undef, tmps.getD v undef, tmps.getD x undef]) w := by simp [results, h]
theorem results_tmp5 {fn : Func} {t u v x y : Tmp} (h : fn.results = #[.tmp t, .tmp u, .tmp v, .tmp x, .tmp y]) (tmps : Array Value) (P : Program) (w : World) :
    (results fn tmps).run P w = .ok (.tuple #[tmps.getD t undef, tmps.getD u undef, tmps.getD v undef, tmps.getD x undef, tmps.getD y undef]) w := by simp [results, h]

theorem below_drewN {B : Nat} {a w : World} (h : Below B a w) (n : Nat) : Below B a (w.drewN n) := ⟨h.os, h.tape, h.output, h.size, h.block⟩
theorem rowIs_drewN {w : World} {b : Nat} {t : TypeId} {n : Nat} {f : Nat → Value} (h : w.rowIs b t n f) (k : Nat) : (w.drewN k).rowIs b t n f := h
theorem grown_trans {a b c : World} (h : Grown a b) (k : Grown b c) : Grown a c :=
  ⟨World.keptBut_trans h.1 k.1, fun x => (k.2.1 x).trans (h.2.1 x), Nat.le_trans h.2.2 k.2.2⟩

theorem only_drewN {a w : World} {row : Option Nat} (h : a.grownBy w row) (n : Nat) : a.grownBy (w.drewN n) row := ⟨h.os, h.tape, h.output, h.size, h.block⟩
theorem only_drew {a w : World} {row : Option Nat} (h : a.grownBy w row) : a.grownBy w.drew row := ⟨h.os, h.tape, h.output, h.size, h.block⟩
theorem only_alloc {a w : World} {row : Option Nat} (h : a.grownBy w row) (o : Obj) : a.grownBy (w.alloc o) row :=
  ⟨h.os, h.tape, h.output, Nat.le_trans h.size (by simp), fun i hi hne => (Below.heap_alloc w o i (Nat.lt_of_lt_of_le hi h.size)).trans (h.block i hi hne)⟩
theorem only_setCell {a w : World} {g : Nat} (h : a.grownBy w (some g)) {p : Addr} (hp : p.block = g ∨ a.heap.size ≤ p.block) (u : Value) : a.grownBy (w.setCell p u) (some g) :=
  ⟨h.os, h.tape, h.output, by simpa [World.setCell] using h.size, fun i hi hne => (Below.heap_setCell w p u i (by
    rintro rfl
    rcases hp with hp | hp
    · exact hne (by rw [hp])
    · omega)).trans (h.block i hi hne)⟩
theorem only_of_below {a w : World} (h : Below a.heap.size a w) (row : Option Nat) : a.grownBy w row := ⟨h.os, h.tape, h.output, h.size, fun i hi _ => h.block i hi⟩

/-- 'string(b)' of a row of bytes of the call's own. -/
theorem own_convert {P : Program} {w : World} {base n : Nat} {e : TypeId} {v : Value} {xs : List Int} (hown : w.ownsRow base e 1 v n (xs.map (Value.int .u8)))
    (src dst : TypeId) (hs : P.underlying src = some (.slice e)) (he : P.underlying e = some (.int .u8)) (hd : P.underlying dst = some .string) :
    (convert src dst v).run P w = .ok (.string (strOfNums xs)) w := by
  have hl : xs.length = n := by have := hown.1; simpa using this
  rcases hown.2 with ⟨rfl, h0⟩ | ⟨g, cap, cur, rfl, _⟩
  · subst h0
    have hx : xs = [] := List.eq_nil_of_length_eq_zero hl
    subst hx
    exact run_convert_bytes_nil w src e hs he 0 0 dst hd
  · refine run_convert_bytes_arg w src e hs he g 0 n cap xs hl (fun i hi => ?_) dst hd
    have hc := hown.cells (g := g) rfl i (.int .u8 (xs.getD i 0)) (by simp [List.getElem?_eq_getElem (show i < xs.length by omega), List.getD])
    have ha : (⟨g, 0, none⟩ : Addr).add i = ⟨g, 0 + i, none⟩ := by unfold Addr.add; split <;> simp_all
    rw [ha] at hc
    exact hc

/-- 'out = append(out, u)', out nil or the call's own, u of one cell. -/
theorem wpList_append_one {P : Program} (w : World) {ops : Array Oper} {rest : List Oper} {o : Oper} {a : Act} {Q : Exit → Act → World → Prop} (hgd : o.guard = none) (s x : Operand) (t : TypeId)
    (ho : o.op = .call { callee := .builtin .append, args := #[s, x], argTypes := #[t, t] })
    (base : Nat) (e : TypeId) (i : TypeInfo) (z : Value) (bytes : Nat) (ht : P.underlying t = some (.slice e)) (hi : P.info? e = some i) (hz : i.zero = some z)
    (hsize : i.size = 1) (hby : i.bytes = bytes) (hzs : z.cells.size = 1)
    (v : Value) (n : Nat) (xs : List Value) (u : Value) (hown : w.ownsRow base e 1 v n xs) (h1 : u.oneCell' = true)
    (hs : a.eval s = v) (hx : a.eval x = .slice (some ⟨w.heap.size, 0, none⟩) 1 1)
    (hn : n ≤ 4294967296) (hbytes : bytes ≤ 16384) (hbase : base ≤ w.heap.size)
    (h : ∀ v' w', w'.ownsRow base e 1 v' (n + 1) (xs ++ [u]) → Below base w w' → wpList P ops Q rest (a.put o.dst v') w') : wpList P ops Q (o :: rest) a (w.alloc (.cells #[u] e)) := by
  have hmul : (n + 1) * bytes ≤ 140737488355328 := Nat.le_trans (Nat.mul_le_mul (show n + 1 ≤ 4294967297 by omega) hbytes) (by omega)
  refine wpList_append_own _ hgd s x t ho base e i z 1 bytes ht hi hz hsize hby hzs (by omega) v n xs hs (hown.alloc _) ⟨w.heap.size, 0, none⟩ 1 1 [u] hx rfl (cell_one_new _ _ _) (fun y hy => by simp at hy; subst hy; exact h1)
    (by unfold maxLen; omega) hmul (Nat.le_trans hbase (by simp)) ?_
  intro v' w' hown' hgrow _
  exact h v' w' hown' (((Below.refl base w).alloc hbase _).grown hgrow (Nat.le_trans hbase (by simp)) fun j hj => (hown.lt j hj).1)

theorem add_plain (b off j : Nat) : (⟨b, off, none⟩ : Addr).add j = ⟨b, off + j, none⟩ := by unfold Addr.add; split <;> simp_all

/-- 'out = append(out, u1, u2, ..)', out nil or the call's own, each of one cell. -/
theorem wpList_append_list {P : Program} (w : World) {ops : Array Oper} {rest : List Oper} {o : Oper} {a : Act} {Q : Exit → Act → World → Prop} (hgd : o.guard = none) (s x : Operand) (t : TypeId)
    (ho : o.op = .call { callee := .builtin .append, args := #[s, x], argTypes := #[t, t] })
    (base : Nat) (e : TypeId) (i : TypeInfo) (z : Value) (bytes : Nat) (ht : P.underlying t = some (.slice e)) (hi : P.info? e = some i) (hz : i.zero = some z)
    (hsize : i.size = 1) (hby : i.bytes = bytes) (hzs : z.cells.size = 1)
    (v : Value) (n : Nat) (xs : List Value) (us : List Value) (m : Nat) (hm : us.length = m) (hown : w.ownsRow base e 1 v n xs) (h1 : ∀ u ∈ us, u.oneCell' = true)
    (hs : a.eval s = v) (c : Nat) (hx : a.eval x = .slice (some ⟨w.heap.size, 0, none⟩) m c)
    (hn : n + m ≤ 4294967296) (hbytes : bytes ≤ 16384) (hbase : base ≤ w.heap.size)
    (h : ∀ v' w', w'.ownsRow base e 1 v' (n + m) (xs ++ us) → Below base w w' → wpList P ops Q rest (a.put o.dst v') w') : wpList P ops Q (o :: rest) a (w.alloc (.cells us.toArray e)) := by
  have hmul : (n + m) * bytes ≤ 140737488355328 := Nat.le_trans (Nat.mul_le_mul hn hbytes) (by omega)
  refine wpList_append_own _ hgd s x t ho base e i z 1 bytes ht hi hz hsize hby hzs (by omega) v n xs hs (hown.alloc _) ⟨w.heap.size, 0, none⟩ m c us hx (by omega) (fun j u hu => ?_) h1
    (by unfold maxLen; omega) hmul (Nat.le_trans hbase (by simp)) ?_
  · rw [add_plain, cell_of_row (w.alloc (.cells us.toArray e)) w.heap.size (0 + j) us.toArray e (0, 0) (heap_alloc_new w _)]
    simpa using hu
  · intro v' w' hown' hgrow _
    exact h v' w' hown' (((Below.refl base w).alloc hbase _).grown hgrow (Nat.le_trans hbase (by simp)) fun j hj => (hown.lt j hj).1)

/-- 'append([]T(nil), src...)': a row of the call's own that reads as the source. -/
theorem wpList_append_fresh {P : Program} (w : World) {ops : Array Oper} {rest : List Oper} {o : Oper} {a : Act} {Q : Exit → Act → World → Prop} (hgd : o.guard = none) (s x : Operand) (t : TypeId)
    (ho : o.op = .call { callee := .builtin .append, args := #[s, x], argTypes := #[t, t] })
    (base : Nat) (e : TypeId) (i : TypeInfo) (z : Value) (bytes : Nat) (ht : P.underlying t = some (.slice e)) (hi : P.info? e = some i) (hz : i.zero = some z)
    (hsize : i.size = 1) (hby : i.bytes = bytes) (hzs : z.cells.size = 1)
    (hs : a.eval s = .slice none 0 0) (B : Nat) (A : Option Addr) (n c : Nat) (xs : List Value) (hx : a.eval x = .slice A n c) (hr : Reads w B 1 A n xs) (h1 : ∀ u ∈ xs, u.oneCell' = true)
    (hn : n ≤ 4294967296) (hbytes : bytes ≤ 16384) (hbase : base ≤ w.heap.size)
    (h : ∀ v' w', w'.ownsRow base e 1 v' n xs → Below w.heap.size w w' → wpList P ops Q rest (a.put o.dst v') w') : wpList P ops Q (o :: rest) a w := by
  have hmul : (0 + n) * bytes ≤ 140737488355328 := by
    rw [Nat.zero_add]
    exact Nat.le_trans (Nat.mul_le_mul hn hbytes) (by omega)
  refine wpList_append_any w hgd s x t ho base e i z 1 bytes ht hi hz hsize hby hzs (by omega) (.slice none 0 0) 0 [] hs (World.ownsRow_nil _ _ _ _) B A n c xs hx hr h1 (by unfold maxLen; omega) hmul hbase ?_
  intro v' w' hown' hgrow _
  rw [Nat.zero_add, List.nil_append] at hown'
  exact h v' w' hown' ((Below.refl _ w).grown hgrow (Nat.le_refl _) fun j hj => by simp [Value.ownBlock] at hj)

section
open Go.WideShapes Go.ChangeShapes
variable {H : Type} {enc : TypeId × Value → H} {P : Program}
theorem post_of_below {f : Func} {s : ChangeSpec} {apart fresh handsOn again : Bool} {W W' : World} {args : Array Value} {v : Value} {ds gs : List (DataW H)} {before pa pv : List MemPlace}
    (hW : DataW.Whole enc P f.params.toList s.vars apart W args.toList ds gs before)
    (hres : ∀ (b : Nat) (sp : Nat → Bool) (hd : Bool), DataW.TrodAll enc P W' b sp hd f.resultTypes.toList (v.resultList f.resultTypes.size) (s.fn H (ds ++ gs)).results [])
    (hargs : ∀ sp : Nat → Bool, (∀ p ∈ before, sp p.block = true) → DataW.TrodAll enc P W' 0 sp true f.params.toList args.toList (s.fn H (ds ++ gs)).args pa)
    (hvars : ∀ sp : Nat → Bool, (∀ p ∈ before, sp p.block = true) → DataW.TrodVars enc P W' sp s.vars (s.fn H (ds ++ gs)).vars pv)
    (hps : before = pa ++ pv) (hb : Below W.heap.size W W')
    (hok : ∀ (j : Nat) (t : TypeId) (r : Value), f.resultTypes[j]? = some t → (v.resultList f.resultTypes.size)[j]? = some r → Value.okWide P W' .any 0 t r) :
    s.post enc P f apart fresh handsOn again W args v W' := by
  have hlt : ∀ p ∈ before, p.block < W.heap.size := fun p hp => hW.lt p hp
  have hold : ∀ p ∈ before, (fun b => decide (b < W.heap.size)) p.block = true := fun p hp => by simpa using hlt p hp
  refine ⟨ds, gs, before, [], pa, pv, hW, hres _ _ _, hargs _ hold, hvars _ hold, World.keptBut_mono (fun p hp => ⟨hp, ?_⟩) (hb.frame (· ∈ before)), fun _ => ?_⟩
  · rw [hps, List.mem_append] at hp
    exact Or.inr hp
  · obtain ⟨_, _, _, _, _, hz, hn⟩ := hW
    refine ⟨hok, _, _, ([] ++ pa) ++ pv, ⟨[] ++ pa, pv, trodAll_append (hargs _ (fun _ _ => rfl)) (hres _ _ _), hvars _ (fun _ _ => rfl), rfl, ?_, ?_⟩, ?_⟩
    · intro b off hp
      have hin : MemPlace.cell b off ∈ before := by rw [hps]; simpa using hp
      rw [hb.frozen (hlt _ hin)]
      exact hz b off hin
    · intro ha
      have := hn ha
      rw [hps] at this
      simpa using this
    · intro p hp _
      rw [hps]
      simpa using hp
end

end Go.Proofs.YthaagngoefieaaaDoor
end

/-
  Plain law of chapter 1: names, words, decimal numbers, cutting and joining, on lists of bytes. Conditions: none.
-/
section
namespace Go.Proofs.YthaagngoefieaaaDoor

def lowB (c : UInt8) : Bool := 97 ≤ c.toNat && c.toNat ≤ 122
def digB (c : UInt8) : Bool := 48 ≤ c.toNat && c.toNat ≤ 57

/-! Names and words. -/
/-- A name's byte c behind the byte p. -/
def nameOk (p c : UInt8) : Bool := (lowB c || digB c || c == 45) && !(c == 45 && p == 45)
/-- The bytes from place 1 to place k - 1 are a name's. -/
def nameTo (l : List UInt8) : Nat → Bool
  | 0 => true
  | k + 1 => nameTo l k && (k == 0 || nameOk (l.getD (k - 1) 0) (l.getD k 0))
def nameB (l : List UInt8) : Bool := decide (1 ≤ l.length) && decide (l.length ≤ 16) && lowB (l.getD 0 0) && !(l.getD (l.length - 1) 0 == 45) && nameTo l l.length
def wordOk (c : UInt8) : Bool := lowB c || digB c || c == 95
def wordB (l : List UInt8) : Bool := decide (1 ≤ l.length) && decide (l.length ≤ 12) && l.all wordOk

theorem nameTo_false {l : List UInt8} {k n : Nat} (hkn : k ≤ n) (h : nameTo l k = false) : nameTo l n = false := by
  induction n with
  | zero => obtain rfl : k = 0 := by omega
            exact h
  | succ n ih =>
    by_cases e : k = n + 1
    · subst e; exact h
    · rw [nameTo, ih (by omega)]; rfl
theorem nameTo_stop {l : List UInt8} {k n : Nat} (hk : 0 < k) (hkn : k < n) (h : nameOk (l.getD (k - 1) 0) (l.getD k 0) = false) : nameTo l n = false := by
  refine nameTo_false (k := k + 1) (by omega) ?_
  rw [nameTo, h]
  simp
  omega
theorem nameTo_step {l : List UInt8} {k : Nat} (h0 : nameTo l k = true) (h : k = 0 ∨ nameOk (l.getD (k - 1) 0) (l.getD k 0) = true) : nameTo l (k + 1) = true := by
  rw [nameTo, h0]
  rcases h with h | h
  · rw [h]; rfl
  · rw [h, Bool.or_true]; rfl

/-! Numbers. -/
def valL (l : List UInt8) : Nat := l.foldl (fun n c => 10 * n + (c.toNat - 48)) 0
def numOk (l : List UInt8) : Bool := decide (1 ≤ l.length) && decide (l.length ≤ 4) && !(l.getD 0 0 == 48 && decide (1 < l.length)) && l.all digB
def numB (l : List UInt8) : Nat × Bool := if numOk l = true then (valL l, true) else (0, false)

theorem valL_take (l : List UInt8) (k : Nat) (c : UInt8) (h : l[k]? = some c) : valL (l.take (k + 1)) = 10 * valL (l.take k) + (c.toNat - 48) := by
  obtain ⟨hlt, rfl⟩ := List.getElem?_eq_some_iff.1 h
  rw [List.take_succ_eq_append_getElem hlt]
  unfold valL; rw [List.foldl_append]; rfl
theorem all_take_succ {p : UInt8 → Bool} {l : List UInt8} {k : Nat} {c : UInt8} (h : l[k]? = some c) (h0 : (l.take k).all p = true) (hc : p c = true) : (l.take (k + 1)).all p = true := by
  obtain ⟨hlt, rfl⟩ := List.getElem?_eq_some_iff.1 h
  rw [List.take_succ_eq_append_getElem hlt, List.all_append, h0]
  simp [hc]
theorem all_stop {p : UInt8 → Bool} {l : List UInt8} {k : Nat} {c : UInt8} (h : l[k]? = some c) (hc : p c = false) : l.all p = false := by
  obtain ⟨hlt, rfl⟩ := List.getElem?_eq_some_iff.1 h
  rw [Bool.eq_false_iff]
  intro ha
  have := List.all_eq_true.1 ha l[k] (List.getElem_mem hlt)
  rw [hc] at this
  cases this
theorem dig_le9 {c : UInt8} (h : digB c = true) : c.toNat - 48 ≤ 9 := by
  unfold digB at h
  simp at h
  omega
theorem valL_lt (l : List UInt8) (h : l.all digB = true) : ∀ k, k ≤ l.length → valL (l.take k) < 10 ^ k := by
  intro k
  induction k with
  | zero => intro _; simp [valL]
  | succ k ih =>
    intro hk
    have hc : l[k]? = some (l[k]'(by omega)) := List.getElem?_eq_getElem (by omega)
    rw [valL_take l k _ hc]
    have := ih (by omega)
    have h9 := dig_le9 (List.all_eq_true.1 h (l[k]'(by omega)) (List.getElem_mem _))
    rw [Nat.pow_succ]
    omega
theorem valL_ge (l : List UInt8) (h : l.all digB = true) (h0 : l.getD 0 0 ≠ 48) : ∀ k, k < l.length → 10 ^ k ≤ valL (l.take (k + 1)) := by
  intro k
  induction k with
  | zero =>
    intro hk
    have hc : l[0]? = some (l[0]'hk) := List.getElem?_eq_getElem hk
    rw [valL_take l 0 _ hc]
    have hd := List.all_eq_true.1 h (l[0]'hk) (List.getElem_mem _)
    unfold digB at hd
    simp at hd
    have h1 : l.getD 0 0 = l[0]'hk := by simp [List.getD, hc]
    rw [h1] at h0
    have : (l[0]'hk).toNat ≠ 48 := fun e => h0 (UInt8.toNat_inj.1 e)
    simp [valL]
    omega
  | succ k ih =>
    intro hk
    have hc : l[k + 1]? = some (l[k + 1]'hk) := List.getElem?_eq_getElem hk
    rw [valL_take l (k + 1) _ hc, Nat.pow_succ]
    have := ih (by omega)
    omega

/-! Cutting and joining. -/
/-- After k bytes: the pieces, and where the next one begins. -/
def splitF (l : List UInt8) (b : UInt8) : Nat → List (List UInt8) × Nat
  | 0 => ([], 0)
  | k + 1 => if l.getD k 0 = b then ((splitF l b k).1 ++ [(l.take k).drop (splitF l b k).2], k + 1) else splitF l b k
def splitL (l : List UInt8) (b : UInt8) : List (List UInt8) := (splitF l b l.length).1 ++ [l.drop (splitF l b l.length).2]
def joinL (ps : List (List UInt8)) (b : UInt8) : List UInt8 :=
  match ps with
  | [] => []
  | p :: r => p ++ r.flatMap fun q => b :: q

theorem joinL_snoc (ps : List (List UInt8)) (q : List UInt8) (b : UInt8) : joinL (ps ++ [q]) b = if ps = [] then q else joinL ps b ++ b :: q := by
  cases ps with
  | nil => simp [joinL]
  | cons p r => simp [joinL]
theorem splitF_from (l : List UInt8) (b : UInt8) (k : Nat) : (splitF l b k).2 ≤ k := by
  induction k with
  | zero => exact Nat.le_refl _
  | succ k ih =>
    unfold splitF
    split
    · exact Nat.le_refl _
    · omega
theorem drop_take_succ (l : List UInt8) (k f : Nat) (hf : f ≤ k) (hk : k < l.length) : (l.take (k + 1)).drop f = (l.take k).drop f ++ [l.getD k 0] := by
  rw [List.take_succ_eq_append_getElem hk, List.drop_append_of_le_length (by simp; omega)]
  simp [List.getD, List.getElem?_eq_getElem hk]
/-- What was cut, with what is left, joined again: the bytes so far; no piece holds b; one piece more than there are such bytes. -/
theorem split_inv (l : List UInt8) (b : UInt8) (k : Nat) (hk : k ≤ l.length) :
    joinL ((splitF l b k).1 ++ [(l.take k).drop (splitF l b k).2]) b = l.take k ∧
    (∀ p ∈ (splitF l b k).1 ++ [(l.take k).drop (splitF l b k).2], b ∉ p) ∧ (splitF l b k).1.length = (l.take k).count b := by
  induction k with
  | zero => simp [splitF, joinL]
  | succ k ih =>
    obtain ⟨h1, h2, h3⟩ := ih (by omega)
    have hf := splitF_from l b k
    have hlt : k < l.length := by omega
    have hc : l.take (k + 1) = l.take k ++ [l.getD k 0] := by
      rw [List.take_succ_eq_append_getElem hlt]
      simp [List.getD, List.getElem?_eq_getElem hlt]
    unfold splitF
    by_cases hb : l.getD k 0 = b
    · rw [if_pos hb]
      have e : (l.take (k + 1)).drop (k + 1) = [] := List.drop_of_length_le (by simp; omega)
      refine ⟨?_, ?_, ?_⟩
      · simp only
        rw [e, joinL_snoc, if_neg (by simp), h1, hc, hb]
      · simp only
        rw [e]
        intro p hp
        rw [List.mem_append] at hp
        rcases hp with hp | hp
        · exact h2 p hp
        · simp at hp; subst hp; simp
      · simp only
        rw [List.length_append, h3, hc, hb, List.count_append]
        simp
    · rw [if_neg hb]
      have e := drop_take_succ l k _ hf hlt
      refine ⟨?_, ?_, ?_⟩
      · rw [e, joinL_snoc]
        rw [joinL_snoc] at h1
        by_cases hn : (splitF l b k).1 = []
        · rw [if_pos hn] at h1 ⊢
          rw [h1, hc]
        · rw [if_neg hn] at h1 ⊢
          rw [hc]
          conv => rhs; rw [← h1]
          simp
      · rw [e]
        intro p hp
        rw [List.mem_append] at hp
        rcases hp with hp | hp
        · exact h2 p (List.mem_append.2 (Or.inl hp))
        · simp only [List.mem_singleton] at hp
          subst hp
          have := h2 _ (List.mem_append.2 (Or.inr (List.mem_singleton.2 rfl)))
          simp only [List.mem_append, List.mem_singleton, not_or]
          exact ⟨this, fun e => hb e.symm⟩
      · rw [h3, hc, List.count_append, List.count_singleton, beq_eq_false_iff_ne.2 hb]
        rfl
theorem split_join (l : List UInt8) (b : UInt8) : joinL (splitL l b) b = l := by
  have := (split_inv l b l.length (Nat.le_refl _)).1
  rwa [List.take_length] at this
theorem split_free (l : List UInt8) (b : UInt8) : ∀ p ∈ splitL l b, b ∉ p := by
  have := (split_inv l b l.length (Nat.le_refl _)).2.1
  rwa [List.take_length] at this
theorem split_count (l : List UInt8) (b : UInt8) : (splitL l b).length = l.count b + 1 := by
  have := (split_inv l b l.length (Nat.le_refl _)).2.2
  rw [List.take_length] at this
  simp [splitL, this]
end Go.Proofs.YthaagngoefieaaaDoor
end

/-
  Facts on bytes and names for the walks of chapter 1. Conditions: none.
-/
section
namespace Go.Proofs.YthaagngoefieaaaDoor
open Go.ChangeShapes Go.WideShapes Go.ChangeAt Go.RowKit
set_option linter.unusedVariables false

theorem at_get (s : ByteArray) (k : Nat) (h : k < s.size) : s.data.toList.getD k 0 = s[k] := by
  have : s.data.toList[k]? = some s[k] := by rw [List.getElem?_eq_getElem (by simpa using h)]; rfl
  rw [List.getD, this]; rfl
theorem len_size (s : ByteArray) : s.data.toList.length = s.size := by simp
theorem iter_below (w : World) (s : ByteArray) (k : Nat) : Below w.heap.size w (w.iter s k) := (Below.refl _ _).alloc (Nat.le_refl _) _
theorem empty_no {s : ByteArray} (h : 0 < s.size) : s.toList.isEmpty = false ∧ (!s.toList.isEmpty) = true := by
  rw [Lib.toList_data]
  have hl := len_size s
  cases hd : s.data.toList with
  | nil => rw [hd] at hl; simp at hl; omega
  | cons a l => exact ⟨rfl, rfl⟩
theorem empty_is {s : ByteArray} (h : s.size = 0) : s = ⟨#[]⟩ := by
  apply ByteArray.ext
  apply Array.toList_inj.1
  exact List.eq_nil_of_length_eq_zero (by rw [len_size]; exact h)

theorem getD_nat (s : ByteArray) (k : Nat) (h : k < s.size) : (s.data.toList.getD k 0).toNat = s[k].toNat := by rw [at_get s k h]

/-- What the loop has shown after k bytes. -/
def NameP (l : List UInt8) (k : Nat) : Prop := nameTo l k = true ∧ (0 < k → lowB (l.getD 0 0) = true) ∧ (k = l.length → 0 < k → l.getD (k - 1) 0 ≠ 45)
theorem nameP_end {l : List UInt8} (h : NameP l l.length) (h1 : 1 ≤ l.length) (h2 : l.length ≤ 16) : nameB l = true := by
  obtain ⟨a, b, c⟩ := h
  have c := c rfl (by omega)
  unfold nameB
  rw [a, b (by omega), beq_eq_false_iff_ne.2 c]
  simp [h1, h2]
theorem nameP_low {l : List UInt8} {k : Nat} (h : NameP l k) (hk : k < l.length) (hc : lowB (l.getD k 0) = true) : NameP l (k + 1) := by
  obtain ⟨a, b, _⟩ := h
  refine ⟨nameTo_step a (Or.inr ?_), fun _ => ?_, fun _ _ => ?_⟩
  · unfold nameOk
    rw [hc]
    unfold lowB at hc
    simp at hc
    have : (l.getD k 0 == 45) = false := by
      rw [beq_eq_false_iff_ne]
      intro e
      have h45 : (45 : UInt8).toNat = 45 := rfl
      have := congrArg UInt8.toNat e
      simp [List.getD] at this hc
      omega
    rw [this]
    rfl
  · by_cases e : k = 0
    · subst e; exact hc
    · exact b (by omega)
  · intro e
    unfold lowB at hc
    simp at hc e
    rw [e] at hc
    exact absurd hc.1 (by decide)
theorem low_iff (c : UInt8) : lowB c = true ↔ 97 ≤ c.toNat ∧ c.toNat ≤ 122 := by unfold lowB; simp
theorem dig_iff (c : UInt8) : digB c = true ↔ 48 ≤ c.toNat ∧ c.toNat ≤ 57 := by unfold digB; simp
theorem dash_iff (c : UInt8) : c = 45 ↔ c.toNat = 45 := ⟨fun h => by rw [h]; rfl, fun h => UInt8.toNat_inj.1 h⟩
theorem low_not {c : UInt8} (h : ¬ (97 ≤ c.toNat ∧ c.toNat ≤ 122)) : lowB c = false := by
  rw [Bool.eq_false_iff]; exact fun e => h ((low_iff c).1 e)
theorem dig_not {c : UInt8} (h : ¬ (48 ≤ c.toNat ∧ c.toNat ≤ 57)) : digB c = false := by
  rw [Bool.eq_false_iff]; exact fun e => h ((dig_iff c).1 e)
theorem nameP_dig {l : List UInt8} {k : Nat} (h : NameP l k) (hk0 : 0 < k) (h1 : 48 ≤ (l.getD k 0).toNat) (h2 : (l.getD k 0).toNat ≤ 57) : NameP l (k + 1) := by
  obtain ⟨a, b, _⟩ := h
  refine ⟨nameTo_step a (Or.inr ?_), fun _ => b hk0, fun _ _ => ?_⟩
  · unfold nameOk
    rw [(dig_iff _).2 ⟨h1, h2⟩, beq_eq_false_iff_ne.2 (fun e => by have := (dash_iff _).1 e; omega)]
    simp
  · rw [Nat.add_sub_cancel]
    exact fun e => by have := (dash_iff _).1 e; omega
theorem nameP_dash {l : List UInt8} {k : Nat} (h : NameP l k) (hk0 : 0 < k) (hk1 : k + 1 < l.length) (h1 : (l.getD k 0).toNat = 45) (h2 : (l.getD (k - 1) 0).toNat ≠ 45) : NameP l (k + 1) := by
  obtain ⟨a, b, _⟩ := h
  refine ⟨nameTo_step a (Or.inr ?_), fun _ => b hk0, fun e _ => absurd e (by omega)⟩
  unfold nameOk
  rw [(dash_iff _).2 h1, beq_eq_false_iff_ne.2 (fun e => h2 ((dash_iff _).1 e))]
  rfl
theorem name_first {l : List UInt8} (h : ¬ (97 ≤ (l.getD 0 0).toNat ∧ (l.getD 0 0).toNat ≤ 122)) : nameB l = false := by
  unfold nameB
  rw [low_not h]
  simp
theorem name_last {l : List UInt8} {k : Nat} (hk : k + 1 = l.length) (h : (l.getD k 0).toNat = 45) : nameB l = false := by
  unfold nameB
  rw [show l.length - 1 = k from by omega, (dash_iff _).2 h]
  simp
theorem name_stop {l : List UInt8} {k : Nat} (hk : k < l.length) (hk0 : 0 < k) (h : nameOk (l.getD (k - 1) 0) (l.getD k 0) = false) : nameB l = false := by
  unfold nameB
  rw [nameTo_stop hk0 hk h, Bool.and_false]
theorem name_other {l : List UInt8} {k : Nat} (hk : k < l.length) (h1 : ¬ (97 ≤ (l.getD k 0).toNat ∧ (l.getD k 0).toNat ≤ 122)) (h2 : ¬ (48 ≤ (l.getD k 0).toNat ∧ (l.getD k 0).toNat ≤ 57)) (h3 : (l.getD k 0).toNat ≠ 45) : nameB l = false := by
  by_cases hk0 : k = 0
  · subst hk0; exact name_first h1
  · refine name_stop hk (by omega) ?_
    unfold nameOk
    rw [low_not h1, dig_not h2, beq_eq_false_iff_ne.2 (fun e => h3 ((dash_iff _).1 e))]
    rfl
theorem name_prev {l : List UInt8} {k : Nat} (hk : k < l.length) (hk0 : 0 < k) (h1 : (l.getD k 0).toNat = 45) (h2 : (l.getD (k - 1) 0).toNat = 45) : nameB l = false := by
  refine name_stop hk hk0 ?_
  unfold nameOk
  rw [(dash_iff _).2 h1, (dash_iff _).2 h2]
  rfl
theorem name_len {l : List UInt8} (h : l.length = 0 ∨ 16 < l.length) : nameB l = false := by
  unfold nameB
  rcases h with h | h
  · simp [h]
  · have : decide (l.length ≤ 16) = false := by simp; omega
    rw [this]; simp

theorem ret_bool {a b : Bool} (h : a = b) : Ending.returned (.bool a) = .returned (.bool b) := by rw [h]

theorem byte_some (s : ByteArray) (k : Nat) (h : k < s.size) : s.data.toList[k]? = some s[k] := by
  rw [List.getElem?_eq_getElem (by simpa using h)]; rfl

end Go.Proofs.YthaagngoefieaaaDoor
end

/-
  Facts on decimal numbers for the walks of chapter 1. Conditions: none.
-/
section
namespace Go.Proofs.YthaagngoefieaaaDoor

theorem num_yes {l : List UInt8} (h1 : 1 ≤ l.length) (h2 : l.length ≤ 4) (h3 : l.length = 1 ∨ (l.getD 0 0).toNat ≠ 48) (h4 : l.all digB = true) : numB l = (valL l, true) := by
  have : numOk l = true := by
    unfold numOk
    rw [h4]
    rcases h3 with h3 | h3
    · simp [h3]
    · rw [beq_eq_false_iff_ne.2 (fun e => h3 (by rw [e]; rfl))]
      simp [h1, h2]
  unfold numB
  rw [if_pos this]
theorem num_no {l : List UInt8} (h : l.length = 0 ∨ 4 < l.length ∨ (1 < l.length ∧ (l.getD 0 0).toNat = 48) ∨ l.all digB = false) : numB l = (0, false) := by
  have : numOk l = false := by
    unfold numOk
    rcases h with h | h | h | h
    · simp [h]
    · have : decide (l.length ≤ 4) = false := by simp; omega
      rw [this]; simp
    · have e : l.getD 0 0 = 48 := UInt8.toNat_inj.1 h.2
      rw [e]
      simp
      omega
    · rw [h, Bool.and_false]
  unfold numB
  rw [this]
  simp
theorem num_stop {s : ByteArray} {k : Nat} (h : k < s.size) (hc : ¬ (48 ≤ s[k].toNat ∧ s[k].toNat ≤ 57)) : numB s.data.toList = (0, false) :=
  num_no (Or.inr (Or.inr (Or.inr (all_stop (byte_some s k h) (dig_not hc)))))
theorem num_step {s : ByteArray} {k : Nat} (h : k < s.size) (hp : (s.data.toList.take k).all digB = true) (h1 : 48 ≤ s[k].toNat) (h2 : s[k].toNat ≤ 57) :
    (s.data.toList.take (k + 1)).all digB = true ∧ 10 * (valL (s.data.toList.take k) : Int) + ((s[k].toNat : Int) - 48) = (valL (s.data.toList.take (k + 1)) : Int) := by
  refine ⟨all_take_succ (byte_some s k h) hp ((dig_iff _).2 ⟨h1, h2⟩), ?_⟩
  rw [valL_take _ k _ (byte_some s k h)]
  omega
theorem val_bd {l : List UInt8} {k : Nat} (hk : k ≤ l.length) (h : (l.take k).all digB = true) : valL (l.take k) < 10 ^ k := by
  have := valL_lt (l.take k) h k (by simp; omega)
  rwa [List.take_take, Nat.min_self] at this
end Go.Proofs.YthaagngoefieaaaDoor
end

/-
  Plain law of chapter 2: versions on lists of bytes: what may be, its text, its reading, its order, its next. Conditions: none.
-/
section
namespace Go.Proofs.YthaagngoefieaaaDoor

/-- A version. -/
structure Ver where
  maj : Int
  min : Int
  pat : Int
  pre : List UInt8
  build : List UInt8
deriving DecidableEq
def noVer : Ver := ⟨0, 0, 0, [], []⟩

/-! What may be. -/
def tagOk (c : UInt8) : Bool := lowB c || digB c || c == 45
def tagB (t : List UInt8) : Bool := decide (1 ≤ t.length) && decide (t.length ≤ 8) && t.all tagOk
def tagsB (s : List UInt8) : Bool := decide ((splitL s 46).length ≤ 4) && (splitL s 46).all tagB
def numericB (t : List UInt8) : Bool := decide (1 ≤ t.length) && t.all digB
def ntagB (t : List UInt8) : Bool := !(numericB t && !(numB t).2)
def preB (s : List UInt8) : Bool := tagsB s && (splitL s 46).all ntagB
def fitsB (n : Int) : Bool := decide (0 ≤ n) && decide (n ≤ 9999)
def mayV (v : Ver) : Bool := fitsB v.maj && fitsB v.min && fitsB v.pat && (v.pre.isEmpty || preB v.pre) && (v.build.isEmpty || tagsB v.build)

/-! The text. -/
def numsV (v : Ver) : List UInt8 := Lib.itoa v.maj ++ 46 :: (Lib.itoa v.min ++ 46 :: Lib.itoa v.pat)
def segB (c : UInt8) (t : List UInt8) : List UInt8 := if t = [] then [] else c :: t
def printV (v : Ver) : List UInt8 := if mayV v = true then numsV v ++ segB 45 v.pre ++ segB 43 v.build else []

/-! The reading. -/
/-- What stands ahead of the first byte c, and what from it on. -/
def aheadL (s : List UInt8) (c : UInt8) : List UInt8 := s.takeWhile (· != c)
def fromL (s : List UInt8) (c : UInt8) : List UInt8 := s.dropWhile (· != c)
def threeL (l : List (List UInt8)) : Option (Int × Int × Int) :=
  match l with
  | [a, b, c] => if ((numB a).2 && (numB b).2 && (numB c).2) = true then some ((numB a).1, (numB b).1, (numB c).1) else none
  | _ => none
def parseV (s : List UInt8) : Option Ver :=
  match threeL (splitL (aheadL (aheadL s 43) 45) 46) with
  | none => none
  | some (a, b, c) =>
    if (fromL (aheadL s 43) 45).length = 1 ∨ (fromL s 43).length = 1 then none
    else if mayV ⟨a, b, c, (fromL (aheadL s 43) 45).tail, (fromL s 43).tail⟩ = true then some ⟨a, b, c, (fromL (aheadL s 43) 45).tail, (fromL s 43).tail⟩ else none

/-! The order. -/
def intsI (a b : Int) : Int := if a < b then -1 else if b < a then 1 else 0
/-- Bytes, one behind the other; a beginning is less. -/
def lessL : List UInt8 → List UInt8 → Bool
  | _, [] => false
  | [], _ :: _ => true
  | a :: l, b :: m => decide (a.toNat < b.toNat) || (a == b && lessL l m)
def textsI (a b : List UInt8) : Int := if lessL a b = true then -1 else if lessL b a = true then 1 else 0
def oneI (a b : List UInt8) : Int :=
  if numericB a = true then (if numericB b = true then intsI (numB a).1 (numB b).1 else -1)
  else if numericB b = true then 1 else textsI a b
def rowI : List (List UInt8) → List (List UInt8) → Int
  | [], [] => 0
  | [], _ :: _ => -1
  | _ :: _, [] => 1
  | a :: l, b :: m => if oneI a b = 0 then rowI l m else oneI a b
def presI (a b : List UInt8) : Int :=
  if a = b then 0 else if a = [] then 1 else if b = [] then -1 else rowI (splitL a 46) (splitL b 46)
def orI (a b : Int) : Int := if a = 0 then b else a
def compV (a b : Ver) : Int :=
  if mayV a = true ∧ mayV b = true then orI (intsI a.maj b.maj) (orI (intsI a.min b.min) (orI (intsI a.pat b.pat) (presI a.pre b.pre))) else 0
def coreV (v : Ver) : Ver := { v with build := [] }

/-! One more. -/
def relV (a b c : Int) : Ver := ⟨a, b, c, [], []⟩
def ifMay (v : Ver) : Option Ver := if mayV v = true then some v else none
def bumpV (v : Ver) (part : Int) : Option Ver :=
  if mayV v = true then
    if part = 0 then ifMay (relV (v.maj + 1) 0 0)
    else if part = 1 then ifMay (relV v.maj (v.min + 1) 0)
    else if part = 2 then ifMay (relV v.maj v.min (v.pat + 1))
    else none
  else none
def nextV (v : Ver) : Option Ver :=
  if mayV v = true then
    if v.pre ≠ [] then some (relV v.maj v.min v.pat)
    else match bumpV v 2 with
      | some r => some r
      | none => match bumpV v 1 with
        | some r => some r
        | none => bumpV v 0
  else none

theorem fits_iff (n : Int) : fitsB n = true ↔ 0 ≤ n ∧ n ≤ 9999 := by unfold fitsB; simp
theorem fits_not {n : Int} (h : n < 0 ∨ 9999 < n) : fitsB n = false := by
  rw [Bool.eq_false_iff]; intro e; have := (fits_iff n).1 e; omega
theorem tag_iff (c : UInt8) : tagOk c = true ↔ (97 ≤ c.toNat ∧ c.toNat ≤ 122) ∨ (48 ≤ c.toNat ∧ c.toNat ≤ 57) ∨ c.toNat = 45 := by
  unfold tagOk lowB digB
  simp
  rw [show (c = 45) ↔ c.toNat = 45 from ⟨fun h => by rw [h]; rfl, fun h => UInt8.toNat_inj.1 h⟩, or_assoc]
theorem tagb_no {t : List UInt8} (h : t.length < 1 ∨ 8 < t.length) : tagB t = false := by
  unfold tagB
  rcases h with h | h
  · simp; omega
  · have : decide (t.length ≤ 8) = false := by simp; omega
    rw [this]; simp
theorem tagb_yes {t : List UInt8} (h1 : 1 ≤ t.length) (h2 : t.length ≤ 8) (h3 : t.all tagOk = true) : tagB t = true := by
  unfold tagB
  rw [h3]; simp [h1, h2]
theorem tagb_stop {t : List UInt8} (h : t.all tagOk = false) : tagB t = false := by
  unfold tagB
  rw [h, Bool.and_false]
theorem tags_len {s : List UInt8} (h : 4 < (splitL s 46).length) : tagsB s = false := by
  unfold tagsB
  have : decide ((splitL s 46).length ≤ 4) = false := by simp; omega
  rw [this]; rfl
end Go.Proofs.YthaagngoefieaaaDoor
end

/-
  Plain laws of chapter 1: a number is read back from its digits; names joined by a dash. Conditions: none.
-/
section
namespace Go.Proofs.YthaagngoefieaaaDoor

theorem dec_snoc (m : Nat) (h : ¬ m < 10) : Lib.decDigits m = Lib.decDigits (m / 10) ++ [UInt8.ofNat (48 + m % 10)] := by
  rw [Lib.decDigits, dif_neg h]
theorem dec_one (m : Nat) (h : m < 10) : Lib.decDigits m = [UInt8.ofNat (48 + m)] := by
  rw [Lib.decDigits, dif_pos h]
theorem dig_of_nat (d : Nat) (h : d < 10) : (UInt8.ofNat (48 + d)).toNat = 48 + d := by
  rw [UInt8.toNat_ofNat']; omega
theorem dec_all (k : Nat) : ∀ m, m ≤ k → (Lib.decDigits m).all digB = true ∧ valL (Lib.decDigits m) = m ∧ 1 ≤ (Lib.decDigits m).length ∧ ((Lib.decDigits m).length = 1 ∨ ((Lib.decDigits m).getD 0 0).toNat ≠ 48) ∧ (1 ≤ m → ((Lib.decDigits m).getD 0 0).toNat ≠ 48) := by
  induction k with
  | zero =>
    intro m hm
    obtain rfl : m = 0 := by omega
    rw [dec_one 0 (by omega)]
    decide
  | succ k ih =>
    intro m hm
    by_cases h : m < 10
    · rw [dec_one m h]
      have hd := dig_of_nat m h
      refine ⟨?_, ?_, by simp, by simp, fun h1 => ?_⟩
      · have hq := (dig_iff (UInt8.ofNat (48 + m))).2 ⟨by omega, by omega⟩
        rw [List.all_cons, hq]
        rfl
      · simp [valL]
        omega
      · simp
        omega
    · obtain ⟨h1, h2, h3, h4, h5⟩ := ih (m / 10) (by omega)
      have hd := dig_of_nat (m % 10) (by omega)
      rw [dec_snoc m h]
      have hg : ((Lib.decDigits (m / 10) ++ [UInt8.ofNat (48 + m % 10)]).getD 0 0) = (Lib.decDigits (m / 10)).getD 0 0 := by
        rw [List.getD, List.getD, List.getElem?_append_left (by omega)]
      refine ⟨?_, ?_, by simp, Or.inr ?_, fun _ => ?_⟩
      · rw [List.all_append, h1]
        have hq := (dig_iff (UInt8.ofNat (48 + m % 10))).2 ⟨by omega, by omega⟩
        rw [List.all_cons, hq]
        rfl
      · have := valL_take (Lib.decDigits (m / 10) ++ [UInt8.ofNat (48 + m % 10)]) (Lib.decDigits (m / 10)).length (UInt8.ofNat (48 + m % 10)) (by simp)
        rw [List.take_of_length_le (by simp), List.take_left, h2, hd] at this
        rw [this]
        omega
      · rw [hg]; exact h5 (by omega)
      · rw [hg]; exact h5 (by omega)
theorem num_itoa (n : Int) : numB (Lib.itoa n) = if 0 ≤ n ∧ n ≤ 9999 then (n.toNat, true) else (0, false) := by
  unfold Lib.itoa
  by_cases hn : n < 0
  · rw [if_pos hn, if_neg (by omega)]
    refine num_no (Or.inr (Or.inr (Or.inr ?_)))
    rfl
  · rw [if_neg hn]
    obtain ⟨h1, h2, h3, h4, h5⟩ := dec_all n.toNat n.toNat (Nat.le_refl _)
    by_cases hb : n ≤ 9999
    · rw [if_pos ⟨by omega, hb⟩]
      have hlen : (Lib.decDigits n.toNat).length ≤ 4 := by
        by_cases hl : (Lib.decDigits n.toNat).length ≤ 4
        · exact hl
        · have h6 : ((Lib.decDigits n.toNat).getD 0 0).toNat ≠ 48 := by
            rcases h4 with h4 | h4
            · omega
            · exact h4
          have := valL_ge _ h1 (fun e => h6 (by rw [e]; rfl)) ((Lib.decDigits n.toNat).length - 1) (by omega)
          rw [show (Lib.decDigits n.toNat).length - 1 + 1 = (Lib.decDigits n.toNat).length from by omega, List.take_length, h2] at this
          have h7 : 10 ^ 4 ≤ 10 ^ ((Lib.decDigits n.toNat).length - 1) := Nat.pow_le_pow_right (by omega) (by omega)
          omega
      rw [num_yes h3 hlen h4 h1, h2]
    · rw [if_neg (by omega)]
      refine num_no (Or.inr (Or.inl ?_))
      have := valL_lt _ h1 (Lib.decDigits n.toNat).length (Nat.le_refl _)
      rw [List.take_length, h2] at this
      by_cases hl : 4 < (Lib.decDigits n.toNat).length
      · exact hl
      · have h7 : 10 ^ (Lib.decDigits n.toNat).length ≤ 10 ^ 4 := Nat.pow_le_pow_right (by omega) (by omega)
        omega

/-! Names joined. -/
theorem nameTo_iff (l : List UInt8) (n : Nat) : nameTo l n = true ↔ ∀ k, 0 < k → k < n → nameOk (l.getD (k - 1) 0) (l.getD k 0) = true := by
  induction n with
  | zero => exact ⟨fun _ k _ hk => absurd hk (by omega), fun _ => rfl⟩
  | succ n ih =>
    rw [nameTo, Bool.and_eq_true, ih, Bool.or_eq_true, beq_iff_eq]
    constructor
    · rintro ⟨h1, h2⟩ k hk0 hk
      by_cases e : k = n
      · subst e
        rcases h2 with h2 | h2
        · omega
        · exact h2
      · exact h1 k hk0 (by omega)
    · intro h
      refine ⟨fun k hk0 hk => h k hk0 (by omega), ?_⟩
      by_cases e : n = 0
      · exact Or.inl e
      · exact Or.inr (h n (by omega) (by omega))
theorem nameB_iff (l : List UInt8) : nameB l = true ↔ 1 ≤ l.length ∧ l.length ≤ 16 ∧ lowB (l.getD 0 0) = true ∧ l.getD (l.length - 1) 0 ≠ 45 ∧ ∀ k, 0 < k → k < l.length → nameOk (l.getD (k - 1) 0) (l.getD k 0) = true := by
  unfold nameB
  rw [Bool.and_eq_true, Bool.and_eq_true, Bool.and_eq_true, Bool.and_eq_true, nameTo_iff]
  simp [and_assoc]
theorem getD_left (a b : List UInt8) (k : Nat) (h : k < a.length) : (a ++ b).getD k 0 = a.getD k 0 := by
  rw [List.getD, List.getD, List.getElem?_append_left h]
theorem getD_right (a b : List UInt8) (k : Nat) (h : a.length ≤ k) : (a ++ b).getD k 0 = b.getD (k - a.length) 0 := by
  rw [List.getD, List.getD, List.getElem?_append_right h]
theorem low_ne45 {c : UInt8} (h : lowB c = true) : c ≠ 45 := by
  intro e; subst e; exact absurd h (by decide)
theorem join_one (a b : List UInt8) (ha : nameB a = true) (hb : nameB b = true) : nameB (a ++ 45 :: b) = decide (a.length + b.length + 1 ≤ 16) := by
  obtain ⟨a1, a2, a3, a4, a5⟩ := (nameB_iff a).1 ha
  obtain ⟨b1, b2, b3, b4, b5⟩ := (nameB_iff b).1 hb
  have hl : (a ++ 45 :: b).length = a.length + b.length + 1 := by simp; omega
  rw [Bool.eq_iff_iff, decide_eq_true_iff, nameB_iff, hl]
  constructor
  · exact fun h => h.2.1
  · intro h
    refine ⟨by omega, h, by rw [getD_left a _ 0 (by omega)]; exact a3, ?_, ?_⟩
    · rw [getD_right a _ _ (by omega), show a.length + b.length + 1 - 1 - a.length = (b.length - 1) + 1 from by omega]
      exact b4
    · intro k hk0 hk
      by_cases h1 : k < a.length
      · rw [getD_left a _ k h1, getD_left a _ (k - 1) (by omega)]
        exact a5 k hk0 h1
      · rw [getD_right a _ k (by omega)]
        by_cases h2 : k = a.length
        · subst h2
          rw [getD_left a _ _ (by omega), Nat.sub_self]
          show nameOk (a.getD (a.length - 1) 0) 45 = true
          unfold nameOk
          rw [beq_eq_false_iff_ne.2 a4]
          rfl
        · rw [getD_right a _ (k - 1) (by omega)]
          obtain ⟨j, rfl⟩ : ∃ j, k = a.length + 1 + j := ⟨k - a.length - 1, by omega⟩
          rw [show a.length + 1 + j - a.length = j + 1 from by omega, show a.length + 1 + j - 1 - a.length = j from by omega]
          show nameOk ((45 :: b).getD j 0) (b.getD j 0) = true
          by_cases hj : j = 0
          · subst hj
            show nameOk 45 (b.getD 0 0) = true
            unfold nameOk
            rw [b3, beq_eq_false_iff_ne.2 (low_ne45 b3)]
            rfl
          · obtain ⟨i, rfl⟩ : ∃ i, j = i + 1 := ⟨j - 1, by omega⟩
            exact b5 (i + 1) (by omega) (by omega)
theorem join_two (a b : List UInt8) (ha : 0 < a.length) : nameB (a ++ 45 :: 45 :: b) = false := by
  rw [Bool.eq_false_iff]
  intro h
  obtain ⟨_, _, _, _, h5⟩ := (nameB_iff _).1 h
  have := h5 (a.length + 1) (by omega) (by simp)
  rw [getD_right a _ _ (by omega), getD_right a _ _ (by omega), Nat.add_sub_cancel, Nat.sub_self, show a.length + 1 - a.length = 1 from by omega] at this
  have h45 : nameOk 45 45 = true := this
  exact absurd h45 (by decide)
theorem join_end (a : List UInt8) : nameB (a ++ [45]) = false := by
  rw [Bool.eq_false_iff]
  intro h
  obtain ⟨_, _, _, h4, _⟩ := (nameB_iff _).1 h
  apply h4
  rw [List.length_append, List.length_singleton, getD_right a _ _ (by omega), Nat.add_sub_cancel, Nat.sub_self]
  rfl
end Go.Proofs.YthaagngoefieaaaDoor
end

/-
  Plain facts of chapters 1 and 2 that chapter 6's plain law takes (the same texts stand in XVPrint, XVParts, XVBack, XVLawC beside walks that this seat's program has not). Conditions: none.
-/
section
namespace Go.Proofs.YthaagngoefieaaaDoor

theorem may_parts {v : Ver} (h : mayV v = true) : (0 ≤ v.maj ∧ v.maj ≤ 9999) ∧ (0 ≤ v.min ∧ v.min ≤ 9999) ∧ (0 ≤ v.pat ∧ v.pat ≤ 9999) := by
  unfold mayV at h
  simp only [Bool.and_eq_true] at h
  exact ⟨(fits_iff _).1 h.1.1.1.1, (fits_iff _).1 h.1.1.1.2, (fits_iff _).1 h.1.1.2⟩
theorem cut_none {l : List UInt8} {c : UInt8} (h0 : l.all (· != c) = true) : aheadL l c = l ∧ fromL l c = [] := by
  induction l with
  | nil => simp [aheadL, fromL]
  | cons x l ih =>
    rw [List.all_cons, Bool.and_eq_true] at h0
    obtain ⟨a, b⟩ := ih h0.2
    unfold aheadL fromL at *
    rw [List.takeWhile_cons, List.dropWhile_cons, h0.1]
    simp [a, b]
theorem cut_first {b : UInt8} : ∀ {a a' r r' : List UInt8}, b ∉ a → b ∉ a' → a ++ b :: r = a' ++ b :: r' → a = a' ∧ r = r'
  | [], [], r, r', _, _, h => ⟨rfl, by simpa using h⟩
  | [], x :: a', r, r', _, h2, h => by simp at h; exact absurd h.1 (fun e => h2 (by rw [e]; simp))
  | x :: a, [], r, r', h1, _, h => by simp at h; exact absurd h.1 (fun e => h1 (by rw [e]; simp))
  | x :: a, y :: a', r, r', h1, h2, h => by
    simp at h
    obtain ⟨rfl, h⟩ := h
    obtain ⟨rfl, rfl⟩ := cut_first (fun e => h1 (by simp [e])) (fun e => h2 (by simp [e])) h
    exact ⟨rfl, rfl⟩
theorem itoa_digs {n : Int} (h : 0 ≤ n) : (Lib.itoa n).all digB = true := by
  unfold Lib.itoa
  rw [if_neg (by omega)]
  exact (dec_all _ _ (Nat.le_refl _)).1
theorem digs_no {l : List UInt8} (h : l.all digB = true) {c : UInt8} (hc : digB c = false) : c ∉ l := by
  intro hm
  have := List.all_eq_true.1 h c hm
  rw [hc] at this
  cases this
theorem ahead_app {A t : List UInt8} {c : UInt8} (h : c ∉ A) : aheadL (A ++ segB c t) c = A ∧ fromL (A ++ segB c t) c = segB c t := by
  unfold aheadL fromL
  have hA : ∀ x ∈ A, (x != c) = true := fun x hx => by simp; intro e; subst e; exact h hx
  rw [List.takeWhile_append_of_pos hA, List.dropWhile_append_of_pos hA]
  unfold segB
  split
  · simp
  · simp
theorem join_not {ps : List (List UInt8)} {b c : UInt8} (hbc : b ≠ c) (h : ∀ p ∈ ps, c ∉ p) : c ∉ joinL ps b := by
  unfold joinL
  cases ps with
  | nil => simp
  | cons p r =>
    simp only [List.mem_append, List.mem_flatMap, not_or]
    refine ⟨h p (by simp), ?_⟩
    rintro ⟨q, hq, hc⟩
    rcases List.mem_cons.1 hc with hc | hc
    · exact hbc hc.symm
    · exact h q (by simp [hq]) hc
theorem tags_not {s : List UInt8} (h : tagsB s = true) : (43 : UInt8) ∉ s := by
  unfold tagsB at h
  rw [Bool.and_eq_true] at h
  rw [← split_join s 46]
  refine join_not (by decide) fun p hp hc => ?_
  have h2 := List.all_eq_true.1 h.2 p hp
  unfold tagB at h2
  rw [Bool.and_eq_true] at h2
  have := List.all_eq_true.1 h2.2 43 hc
  revert this
  decide
theorem pre_not {v : Ver} (h : mayV v = true) : (43 : UInt8) ∉ v.pre := by
  unfold mayV at h
  simp only [Bool.and_eq_true, Bool.or_eq_true] at h
  rcases h.1.2 with h | h
  · rw [List.isEmpty_iff.1 h]; simp
  · unfold preB at h
    rw [Bool.and_eq_true] at h
    exact tags_not h.1
theorem seg_not {c d : UInt8} {t : List UInt8} (h : d ≠ c) (ht : d ∉ t) : d ∉ segB c t := by
  unfold segB
  split
  · simp
  · simp [h, ht]
theorem seg_tail (c : UInt8) (t : List UInt8) : (segB c t).tail = t := by
  unfold segB
  split
  · rename_i h; rw [h]; rfl
  · rfl
theorem itoa_pos {n : Int} (h : 0 ≤ n) : 1 ≤ (Lib.itoa n).length := by
  unfold Lib.itoa
  rw [if_neg (by omega)]
  exact (dec_all _ _ (Nat.le_refl _)).2.2.1
end Go.Proofs.YthaagngoefieaaaDoor
end

/-
  Plain law of chapter 6: comparators on lists of bytes: what may be, its text, its reading, the program's and the reference's. Conditions: none.
-/
section
namespace Go.Proofs.YthaagngoefieaaaDoor

/-- A comparator. -/
structure Cmp where
  op : Int
  parts : Int
  v : Ver
deriving DecidableEq

/-! What may be. -/
def leastC (op : Int) : Int := if op = 9 then 0 else 1
def mostC (op : Int) : Int := if op = 9 then 2 else 3
def mayC (c : Cmp) : Bool :=
  decide (1 ≤ c.op) && decide (c.op ≤ 9) && mayV c.v && c.v.build.isEmpty && decide (leastC c.op ≤ c.parts) && decide (c.parts ≤ mostC c.op) && (c.v.pre.isEmpty || decide (3 ≤ c.parts)) &&
    (decide (0 < c.parts) || decide (c.v.maj = 0)) && (decide (1 < c.parts) || decide (c.v.min = 0)) && (decide (2 < c.parts) || decide (c.v.pat = 0))

/-! The text. -/
def signL (op : Int) : List UInt8 :=
  if op = 1 then [61] else if op = 2 then [33, 61] else if op = 3 then [60] else if op = 4 then [60, 61] else if op = 5 then [62] else if op = 6 then [62, 61] else if op = 7 then [94] else if op = 8 then [126] else []
/-- The numbers that are told, as texts. -/
def toldL (c : Cmp) : List (List UInt8) := [Lib.itoa c.v.maj, Lib.itoa c.v.min, Lib.itoa c.v.pat].take c.parts.toNat
def bodyC (c : Cmp) : List UInt8 := joinL (toldL c) 46 ++ segB 45 c.v.pre
def starC (c : Cmp) : List UInt8 := joinL (toldL c ++ [[42]]) 46
def printC (c : Cmp) : List UInt8 := if mayC c = true then (if c.op = 9 then starC c else signL c.op ++ bodyC c) else []

/-! The reading. -/
/-- The first sign that a text begins with, in the program's order; 9: none. -/
def signOf (s : List UInt8) : Int :=
  if [33, 61].isPrefixOf s then 2 else if [60, 61].isPrefixOf s then 4 else if [62, 61].isPrefixOf s then 6 else if [61].isPrefixOf s then 1
  else if [60].isPrefixOf s then 3 else if [62].isPrefixOf s then 5 else if [94].isPrefixOf s then 7 else if [126].isPrefixOf s then 8 else 9
/-- The numbers of at most three texts. -/
def numsL (l : List (List UInt8)) : Option (Int × Int × Int) :=
  match l with
  | [] => some (0, 0, 0)
  | [a] => if (numB a).2 = true then some ((numB a).1, 0, 0) else none
  | [a, b] => if ((numB a).2 && (numB b).2) = true then some ((numB a).1, (numB b).1, 0) else none
  | [a, b, c] => if ((numB a).2 && (numB b).2 && (numB c).2) = true then some ((numB a).1, (numB b).1, (numB c).1) else none
  | _ => none
/-- A comparator of an Op, of pieces and a Pre. -/
def madeC (op : Int) (l : List (List UInt8)) (p : List UInt8) : Option Cmp :=
  match numsL l with
  | some (a, b, c) => some ⟨op, l.length, ⟨a, b, c, p, []⟩⟩
  | none => none
/-- The pieces of a Star: all but the last, which is the star itself. -/
def offStar (l : List (List UInt8)) : Option (List (List UInt8)) := if l.getLast? = some [42] then some l.dropLast else none
/-- What the program reads ahead of its look at May and Print. -/
def rawP (s : List UInt8) : Option Cmp :=
  if signOf s = 9 then
    match offStar (splitL (aheadL s 45) 46) with
    | some l => madeC 9 l (fromL s 45).tail
    | none => none
  else madeC (signOf s) (splitL (aheadL (s.drop (signL (signOf s)).length) 45) 46) (fromL (s.drop (signL (signOf s)).length) 45).tail
def readC (s : List UInt8) : Option Cmp :=
  match rawP s with
  | some c => if mayC c = true ∧ printC c = s then some c else none
  | none => none
/-- The program's Parse. -/
def parseP (s : List UInt8) : Option Cmp :=
  match readC s with
  | some c => some c
  | none => readC (94 :: s)
/-- What the reference reads ahead of its look at Print. -/
def rawR (s : List UInt8) : Option Cmp :=
  if signOf s = 9 then
    if s.getLast? = some 42 then madeC 9 (splitL (aheadL s 45) 46).dropLast (fromL s 45).tail
    else madeC 7 (splitL (aheadL s 45) 46) (fromL s 45).tail
  else madeC (signOf s) (splitL (aheadL (s.drop (signL (signOf s)).length) 45) 46) (fromL (s.drop (signL (signOf s)).length) 45).tail
def parseR (s : List UInt8) : Option Cmp :=
  match rawR s with
  | some c => if printC c ≠ [] ∧ (printC c = s ∨ printC c = 94 :: s) then some c else none
  | none => none

theorem may_c {c : Cmp} (h : mayC c = true) : (1 ≤ c.op ∧ c.op ≤ 9) ∧ mayV c.v = true ∧ c.v.build = [] ∧ (leastC c.op ≤ c.parts ∧ c.parts ≤ mostC c.op) ∧ (c.v.pre = [] ∨ 3 ≤ c.parts) ∧ (0 < c.parts ∨ c.v.maj = 0) ∧ (1 < c.parts ∨ c.v.min = 0) ∧ (2 < c.parts ∨ c.v.pat = 0) := by
  unfold mayC at h
  simp only [Bool.and_eq_true, Bool.or_eq_true, decide_eq_true_eq, List.isEmpty_iff] at h
  obtain ⟨⟨⟨⟨⟨⟨⟨⟨⟨h1, h2⟩, h3⟩, h4⟩, h5⟩, h6⟩, h7⟩, h8⟩, h9⟩, h10⟩ := h
  exact ⟨⟨h1, h2⟩, h3, h4, ⟨h5, h6⟩, h7, h8, h9, h10⟩
theorem joinL_cons (p q : List UInt8) (r : List (List UInt8)) (b : UInt8) : joinL (p :: q :: r) b = p ++ b :: joinL (q :: r) b := by simp [joinL]
theorem join_inj {b : UInt8} : ∀ (ps qs : List (List UInt8)), ps ≠ [] → qs ≠ [] → (∀ p ∈ ps, b ∉ p) → (∀ q ∈ qs, b ∉ q) → joinL ps b = joinL qs b → ps = qs
  | [], _, h, _, _, _, _ => absurd rfl h
  | _, [], _, h, _, _, _ => absurd rfl h
  | [p], [q], _, _, _, _, h => by simp [joinL] at h; rw [h]
  | [p], q :: q2 :: t, _, _, hp, _, h => by
    rw [joinL_cons] at h
    have h1 : joinL [p] b = p := by simp [joinL]
    rw [h1] at h
    exact absurd (show b ∈ p by rw [h]; simp) (hp p (by simp))
  | p :: p2 :: r, [q], _, _, _, hq, h => by
    rw [joinL_cons] at h
    have h1 : joinL [q] b = q := by simp [joinL]
    rw [h1] at h
    exact absurd (show b ∈ q by rw [← h]; simp) (hq q (by simp))
  | p :: p2 :: r, q :: q2 :: t, _, _, hp, hq, h => by
    rw [joinL_cons, joinL_cons] at h
    obtain ⟨rfl, h2⟩ := cut_first (hp p (by simp)) (hq q (by simp)) h
    rw [join_inj (p2 :: r) (q2 :: t) (by simp) (by simp) (fun x hx => hp x (by simp at hx ⊢; exact .inr hx)) (fun x hx => hq x (by simp at hx ⊢; exact .inr hx)) h2]
/-- A split of joined pieces that hold no mark: the pieces. -/
theorem split_joined {ps : List (List UInt8)} {b : UInt8} (hne : ps ≠ []) (hf : ∀ p ∈ ps, b ∉ p) : splitL (joinL ps b) b = ps := by
  refine join_inj _ _ ?_ hne (split_free _ _) hf (split_join _ _)
  intro e
  have := split_count (joinL ps b) b
  rw [e] at this
  simp at this
theorem itoa_first {n : Int} (h : 0 ≤ n) : ∃ d t, Lib.itoa n = d :: t ∧ digB d = true := by
  have hp := itoa_pos h
  have hd := itoa_digs h
  cases he : Lib.itoa n with
  | nil => rw [he] at hp; simp at hp
  | cons d t => rw [he] at hd; simp at hd; exact ⟨d, t, rfl, by simpa using hd.1⟩
theorem told_len {c : Cmp} (h : mayC c = true) : ((toldL c).length : Int) = c.parts := by
  obtain ⟨⟨o1, o2⟩, _, _, ⟨p1, p2⟩, _⟩ := may_c h
  unfold leastC at p1
  unfold mostC at p2
  unfold toldL
  rw [List.length_take]
  simp only [List.length_cons, List.length_nil]
  split at p1 <;> split at p2 <;> omega
theorem told_all {c : Cmp} (h : mayC c = true) : ∀ p ∈ toldL c, p.all digB = true ∧ ∃ d t, p = d :: t ∧ digB d = true := by
  obtain ⟨_, hm, _⟩ := may_c h
  obtain ⟨⟨a0, _⟩, ⟨b0, _⟩, ⟨c0, _⟩⟩ := may_parts hm
  intro p hp
  have hp := List.mem_of_mem_take hp
  simp at hp
  rcases hp with rfl | rfl | rfl
  · exact ⟨itoa_digs a0, itoa_first a0⟩
  · exact ⟨itoa_digs b0, itoa_first b0⟩
  · exact ⟨itoa_digs c0, itoa_first c0⟩
/-- The numbers that are told are read back. -/
theorem nums_told {c : Cmp} (h : mayC c = true) : numsL (toldL c) = some (c.v.maj, c.v.min, c.v.pat) := by
  obtain ⟨⟨o1, o2⟩, hm, _, ⟨p1, p2⟩, _, q0, q1, q2⟩ := may_c h
  obtain ⟨⟨a0, a1⟩, ⟨b0, b1⟩, ⟨c0, c1⟩⟩ := may_parts hm
  have n1 := num_itoa c.v.maj
  have n2 := num_itoa c.v.min
  have n3 := num_itoa c.v.pat
  rw [if_pos ⟨a0, a1⟩] at n1
  rw [if_pos ⟨b0, b1⟩] at n2
  rw [if_pos ⟨c0, c1⟩] at n3
  have hp : c.parts = 0 ∨ c.parts = 1 ∨ c.parts = 2 ∨ c.parts = 3 := by
    unfold leastC at p1
    unfold mostC at p2
    split at p1 <;> split at p2 <;> omega
  unfold toldL
  rcases hp with hp | hp | hp | hp
  · rw [hp] at q0 q1 q2 ⊢
    have e0 : c.v.maj = 0 := by omega
    have e1 : c.v.min = 0 := by omega
    have e2 : c.v.pat = 0 := by omega
    rw [e0, e1, e2]; rfl
  · rw [hp] at q0 q1 q2 ⊢
    have e1 : c.v.min = 0 := by omega
    have e2 : c.v.pat = 0 := by omega
    rw [e1, e2]
    show numsL [Lib.itoa c.v.maj] = _
    simp only [numsL, n1, if_true, Int.toNat_of_nonneg a0]
  · rw [hp] at q0 q1 q2 ⊢
    have e2 : c.v.pat = 0 := by omega
    rw [e2]
    show numsL [Lib.itoa c.v.maj, Lib.itoa c.v.min] = _
    simp only [numsL, n1, n2, Bool.and_self, if_true, Int.toNat_of_nonneg a0, Int.toNat_of_nonneg b0]
  · rw [hp]
    show numsL [Lib.itoa c.v.maj, Lib.itoa c.v.min, Lib.itoa c.v.pat] = _
    simp only [numsL, n1, n2, n3, Bool.and_self, if_true, Int.toNat_of_nonneg a0, Int.toNat_of_nonneg b0, Int.toNat_of_nonneg c0]
theorem made_told {c : Cmp} (h : mayC c = true) : madeC c.op (toldL c) c.v.pre = some c := by
  unfold madeC
  rw [nums_told h]
  have hl := told_len h
  obtain ⟨_, _, hb, _⟩ := may_c h
  obtain ⟨op, parts, ⟨a, b, d, p, q⟩⟩ := c
  dsimp only at hb hl ⊢
  rw [hl, hb]
theorem join_digs_not {ps : List (List UInt8)} (h : ∀ p ∈ ps, p.all digB = true) {x : UInt8} (hx : digB x = false) (h46 : x ≠ 46) : x ∉ joinL ps 46 :=
  join_not (fun e => h46 e.symm) fun p hp => digs_no (h p hp) hx
/-- What stands behind the sign, taken apart. -/
theorem body_apart {c : Cmp} (h : mayC c = true) (hs : c.op ≠ 9) : splitL (aheadL (bodyC c) 45) 46 = toldL c ∧ (fromL (bodyC c) 45).tail = c.v.pre := by
  have ha := told_all h
  obtain ⟨e1, e2⟩ := ahead_app (A := joinL (toldL c) 46) (t := c.v.pre) (c := 45) (join_digs_not (fun p hp => (ha p hp).1) (by decide) (by decide))
  have hne : toldL c ≠ [] := by
    intro e
    have hl := told_len h
    obtain ⟨_, _, _, ⟨p1, _⟩, _⟩ := may_c h
    rw [e] at hl
    unfold leastC at p1
    rw [if_neg hs] at p1
    simp at hl
    omega
  unfold bodyC
  rw [e1, e2, seg_tail]
  exact ⟨split_joined hne fun p hp => digs_no (ha p hp).1 (by decide), rfl⟩
theorem body_first {c : Cmp} (h : mayC c = true) (hs : c.op ≠ 9) : ∃ d t, bodyC c = d :: t ∧ digB d = true := by
  have ha := told_all h
  have hl := told_len h
  obtain ⟨_, _, _, ⟨p1, _⟩, _⟩ := may_c h
  unfold leastC at p1
  rw [if_neg hs] at p1
  unfold bodyC
  cases he : toldL c with
  | nil => rw [he] at hl; simp at hl; omega
  | cons p r =>
    obtain ⟨_, d, t, rfl, hd⟩ := ha p (by rw [he]; simp)
    exact ⟨d, t ++ (List.flatMap (fun q => 46 :: q) r ++ segB 45 c.v.pre), by simp [joinL], hd⟩
theorem sign_none {d : UInt8} {t : List UInt8} (h : digB d = true ∨ d = 42) : signOf (d :: t) = 9 := by
  have hn : ∀ x : UInt8, digB x = false → x ≠ 42 → (x == d) = false := by
    intro x hx h42
    simp only [beq_eq_false_iff_ne]
    intro e
    subst e
    rcases h with h | h
    · rw [hx] at h; cases h
    · exact h42 h
  unfold signOf
  simp [List.isPrefixOf, hn 33 (by decide) (by decide), hn 60 (by decide) (by decide), hn 61 (by decide) (by decide), hn 62 (by decide) (by decide), hn 94 (by decide) (by decide), hn 126 (by decide) (by decide)]
theorem sign_own {op : Int} (h1 : 1 ≤ op) (h2 : op ≤ 8) {d : UInt8} {t : List UInt8} (h : digB d = true) : signOf (signL op ++ d :: t) = op ∧ (signL op ++ d :: t).drop (signL op).length = d :: t := by
  refine ⟨?_, by simp⟩
  have hd : ((61 : UInt8) == d) = false := by
    simp only [beq_eq_false_iff_ne]
    intro e
    subst e
    revert h
    decide
  have ho : op = 1 ∨ op = 2 ∨ op = 3 ∨ op = 4 ∨ op = 5 ∨ op = 6 ∨ op = 7 ∨ op = 8 := by omega
  rcases ho with rfl | rfl | rfl | rfl | rfl | rfl | rfl | rfl
  all_goals simp [signOf, signL, List.isPrefixOf, hd]
theorem star_apart {c : Cmp} (h : mayC c = true) (hs : c.op = 9) : signOf (starC c) = 9 ∧ aheadL (starC c) 45 = starC c ∧ fromL (starC c) 45 = [] ∧ splitL (starC c) 46 = toldL c ++ [[42]] ∧ (starC c).getLast? = some 42 ∧ c.v.pre = [] := by
  have ha := told_all h
  obtain ⟨_, _, _, ⟨p1, p2⟩, hp, _⟩ := may_c h
  unfold mostC at p2
  rw [if_pos hs] at p2
  have hno : (45 : UInt8) ∉ starC c := by
    unfold starC
    refine join_not (by decide) fun p hp => ?_
    rcases List.mem_append.1 hp with hp | hp
    · exact digs_no (ha p hp).1 (by decide)
    · simp at hp; subst hp; decide
  obtain ⟨e1, e2⟩ := cut_none (l := starC c) (c := 45) (by rw [List.all_eq_true]; intro x hx; simp; intro e; subst e; exact hno hx)
  refine ⟨?_, e1, e2, split_joined (by simp) (fun p hp => ?_), ?_, by rcases hp with hp | hp; exact hp; omega⟩
  · unfold starC
    cases he : toldL c with
    | nil => decide
    | cons p r =>
      obtain ⟨_, d, t, rfl, hd⟩ := ha p (by rw [he]; simp)
      have : joinL ((d :: t) :: r ++ [[42]]) 46 = d :: (t ++ (r ++ [[42]]).flatMap fun q => 46 :: q) := by simp [joinL]
      rw [this]
      exact sign_none (.inl hd)
  · rcases List.mem_append.1 hp with hp | hp
    · exact digs_no (ha p hp).1 (by decide)
    · simp at hp; subst hp; decide
  · unfold starC
    rw [joinL_snoc]
    split
    · rfl
    · simp
/-- The text of a comparator that may be is read as that comparator, ahead of the looks. -/
theorem rawP_print {c : Cmp} (h : mayC c = true) : rawP (printC c) = some c := by
  unfold printC rawP
  rw [if_pos h]
  by_cases hs : c.op = 9
  · obtain ⟨e1, e2, e3, e4, _, e6⟩ := star_apart h hs
    rw [if_pos hs, e1, if_pos rfl, e2, e3, e4]
    unfold offStar
    rw [if_pos (by simp)]
    have := made_told h
    rw [hs, e6] at this
    simpa using this
  · obtain ⟨d, t, hb, hd⟩ := body_first h hs
    obtain ⟨e1, e2⟩ := body_apart h hs
    obtain ⟨⟨o1, o2⟩, _⟩ := may_c h
    rw [if_neg hs]
    rw [hb] at e1 e2 ⊢
    obtain ⟨g1, g2⟩ := sign_own o1 (show c.op ≤ 8 by omega) (t := t) hd
    rw [g1, if_neg hs, g2, e1, e2]
    exact made_told h
theorem rawR_print {c : Cmp} (h : mayC c = true) : rawR (printC c) = some c := by
  unfold printC rawR
  rw [if_pos h]
  by_cases hs : c.op = 9
  · obtain ⟨e1, e2, e3, e4, e5, e6⟩ := star_apart h hs
    rw [if_pos hs, e1, if_pos rfl, if_pos e5, e2, e3, e4]
    have := made_told h
    rw [hs, e6] at this
    simpa using this
  · obtain ⟨d, t, hb, hd⟩ := body_first h hs
    obtain ⟨e1, e2⟩ := body_apart h hs
    obtain ⟨⟨o1, o2⟩, _⟩ := may_c h
    rw [if_neg hs]
    rw [hb] at e1 e2 ⊢
    obtain ⟨g1, g2⟩ := sign_own o1 (show c.op ≤ 8 by omega) (t := t) hd
    rw [g1, if_neg hs, g2, e1, e2]
    exact made_told h
theorem read_iff {s : List UInt8} {c : Cmp} : readC s = some c ↔ mayC c = true ∧ printC c = s := by
  unfold readC
  constructor
  · intro h
    split at h
    · split at h
      · rename_i hc
        cases h
        exact hc
      · cases h
    · cases h
  · rintro ⟨hm, rfl⟩
    rw [rawP_print hm]
    simp [hm]
theorem print_may {c : Cmp} (h : printC c ≠ []) : mayC c = true := by
  unfold printC at h
  split at h
  · assumption
  · exact absurd rfl h
theorem print_some {c : Cmp} (h : mayC c = true) : printC c ≠ [] := by
  unfold printC
  rw [if_pos h]
  split
  · rename_i hs
    obtain ⟨_, _, _, _, e, _⟩ := star_apart h hs
    intro h0
    rw [h0] at e
    cases e
  · rename_i hs
    obtain ⟨d, t, hb, _⟩ := body_first h hs
    rw [hb]
    simp
theorem tags_no {s : List UInt8} (h : tagsB s = true) {x : UInt8} (hx : tagOk x = false) (h46 : x ≠ 46) : x ∉ s := by
  unfold tagsB at h
  rw [Bool.and_eq_true] at h
  rw [← split_join s 46]
  refine join_not (fun e => h46 e.symm) fun p hp hc => ?_
  have h2 := List.all_eq_true.1 h.2 p hp
  unfold tagB at h2
  rw [Bool.and_eq_true] at h2
  have := List.all_eq_true.1 h2.2 x hc
  rw [hx] at this
  cases this
theorem pre_no {v : Ver} (h : mayV v = true) {x : UInt8} (hx : tagOk x = false) (h46 : x ≠ 46) : x ∉ v.pre := by
  unfold mayV at h
  simp only [Bool.and_eq_true, Bool.or_eq_true] at h
  rcases h.1.2 with h | h
  · rw [List.isEmpty_iff.1 h]; simp
  · unfold preB at h
    rw [Bool.and_eq_true] at h
    exact tags_no h.1 hx h46
theorem sign_caret (s : List UInt8) : signOf (94 :: s) = 7 := by simp [signOf, List.isPrefixOf]
theorem print_caret {c : Cmp} (h : mayC c = true) {s : List UInt8} (hp : printC c = 94 :: s) : c.op = 7 ∧ s = bodyC c := by
  unfold printC at hp
  rw [if_pos h] at hp
  by_cases hs : c.op = 9
  · rw [if_pos hs] at hp
    obtain ⟨e, _⟩ := star_apart h hs
    rw [hp, sign_caret] at e
    omega
  · rw [if_neg hs] at hp
    obtain ⟨d, t, hb, hd⟩ := body_first h hs
    obtain ⟨⟨o1, o2⟩, _⟩ := may_c h
    obtain ⟨g1, _⟩ := sign_own o1 (show c.op ≤ 8 by omega) (t := t) hd
    rw [← hb, hp, sign_caret] at g1
    refine ⟨g1.symm, ?_⟩
    rw [← g1] at hp
    simp [signL] at hp
    exact hp.symm
theorem rawR_caret {c : Cmp} (h : mayC c = true) {s : List UInt8} (hp : printC c = 94 :: s) : rawR s = some c := by
  obtain ⟨ho, rfl⟩ := print_caret h hp
  have hs : c.op ≠ 9 := by omega
  obtain ⟨d, t, hb, hd⟩ := body_first h hs
  obtain ⟨e1, e2⟩ := body_apart h hs
  obtain ⟨_, hm, _⟩ := may_c h
  have hno : (42 : UInt8) ∉ bodyC c := by
    unfold bodyC
    rw [List.mem_append, not_or]
    exact ⟨join_digs_not (fun p hp => (told_all h p hp).1) (by decide) (by decide), seg_not (by decide) (pre_no hm (by decide) (by decide))⟩
  unfold rawR
  rw [if_pos (by rw [hb]; exact sign_none (.inl hd)), if_neg (fun e => hno (List.mem_of_getLast? e)), e1, e2, ← ho]
  exact made_told h
/-- The program's Parse is the reference's. -/
theorem parse_same (s : List UInt8) : parseP s = parseR s := by
  unfold parseP
  cases h : readC s with
  | some c =>
    obtain ⟨hm, hp⟩ := read_iff.1 h
    show some c = parseR s
    unfold parseR
    rw [← hp, rawR_print hm]
    show some c = if _ then _ else _
    rw [if_pos ⟨print_some hm, .inl rfl⟩]
  | none =>
    show readC (94 :: s) = parseR s
    cases h2 : readC (94 :: s) with
    | some c =>
      obtain ⟨hm, hp⟩ := read_iff.1 h2
      unfold parseR
      rw [rawR_caret hm hp]
      show some c = if _ then _ else _
      rw [if_pos ⟨print_some hm, .inr hp⟩]
    | none =>
      unfold parseR
      split
      · rename_i c _
        split
        · rename_i hc
          rcases hc.2 with e | e
          · rw [read_iff.2 ⟨print_may hc.1, e⟩] at h; cases h
          · rw [read_iff.2 ⟨print_may hc.1, e⟩] at h2; cases h2
        · rfl
      · rfl
/-- The text of a comparator that may be is read back. -/
theorem parse_print_c {c : Cmp} (h : mayC c = true) : parseP (printC c) = some c := by
  unfold parseP
  rw [read_iff.2 ⟨h, rfl⟩]
end Go.Proofs.YthaagngoefieaaaDoor
end
