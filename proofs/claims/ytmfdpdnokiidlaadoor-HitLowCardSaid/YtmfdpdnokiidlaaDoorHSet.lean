/-
  Chapter 36: sets in memory: a map to bools that the call made, all true: made, asked, put into; laws at the operations. Conditions: keys of one plain type.
-/
import Derived.Test.YtmfdpdnokiidlaaDoorHHitW
import Derived.Maps.Own
import Derived.Maps.OwnOps
namespace Go.Proofs.YtmfdpdnokiidlaaDoor
open Go.ChangeShapes Go.WideShapes Go.ChangeAt Go.RowKit Go.MapKept
set_option linter.unusedVariables false
set_option linter.unusedSimpArgs false

/-- Block b is a set with just the keys of ks. -/
def SetB (d : TypeDesc) (w : World) (b : Nat) (ks : List Value) : Prop :=
  ∃ es clock, w.heap[b]? = some (.map es clock) ∧ (∀ x ∈ es.toList, IsKey d x.key ∧ x.val = .bool true) ∧ ∀ k, (∃ x ∈ es.toList, x.key = k) ↔ k ∈ ks
theorem setB_made (d : TypeDesc) (w : World) : SetB d (w.alloc (.map #[] 0)) w.heap.size [] :=
  ⟨#[], 0, (MapKept.heap_alloc w _).1, by simp, by simp⟩
theorem SetB.lt {d : TypeDesc} {w : World} {b : Nat} {ks : List Value} (h : SetB d w b ks) : b < w.heap.size := by
  obtain ⟨es, clock, hb, _⟩ := h
  exact (Array.getElem?_eq_some_iff.1 hb).1
theorem SetB.kept {d : TypeDesc} {w w' : World} {b : Nat} {ks : List Value} (h : SetB d w b ks) (hb : w'.heap[b]? = w.heap[b]?) : SetB d w' b ks := by
  obtain ⟨es, clock, h1, h2⟩ := h
  exact ⟨es, clock, hb.trans h1, h2⟩
theorem SetB.below {d : TypeDesc} {w w' : World} {b B : Nat} {ks : List Value} (h : SetB d w b ks) (hb : Below B w w') (hlt : b < B) : SetB d w' b ks := h.kept (hb.block b hlt)
theorem SetB.look {d : TypeDesc} {P : Program} {w : World} {b : Nat} {ks : List Value} (h : SetB d w b ks) {t k e : TypeId} (ht : P.underlying t = some (.map k e)) (hk : P.underlying k = some d) (hz : (zeroValue e).run P w = .ok (.bool false) w)
    {key : Value} (hkey : IsKey d key) {r : Bool} (hr : r = true ↔ key ∈ ks) : (Instr.lookup t (.map (some b)) key false).run P w = .ok (.bool r) w := by
  obtain ⟨es, clock, hb, h2, h3⟩ := h
  rcases findNow_spec hkey es.toList 0 (fun x hx => (h2 x hx).1) with ⟨h4, h5⟩ | ⟨j, y, h4, h5, h6⟩
  · have : r = false := by
      cases r
      · rfl
      · obtain ⟨x, hx, e1⟩ := (h3 key).2 (hr.1 rfl)
        exact absurd e1 (h5 x hx)
    subst this
    simp [Instr.lookup, run_underlying ht, MapKept.run_getObj_map hb, run_checkKey hk hkey, run_findKey hk h4, hz, Result.andThen]
  · have hy : y ∈ es.toList := List.mem_of_getElem? h5
    have : r = true := hr.2 ((h3 key).1 ⟨y, hy, h6⟩)
    subst this
    simp [Instr.lookup, run_underlying ht, MapKept.run_getObj_map hb, run_checkKey hk hkey, run_findKey hk h4, (h2 y hy).2, Result.andThen]
theorem SetB.put {d : TypeDesc} {P : Program} {w : World} {b : Nat} {ks : List Value} (h : SetB d w b ks) {t k e : TypeId} (ht : P.underlying t = some (.map k e)) (hk : P.underlying k = some d)
    {key : Value} (hkey : IsKey d key) : ∃ w', (Instr.mapUpdate t (.map (some b)) key (.bool true)).run P w = .ok () w' ∧ SetB d w' b (key :: ks) ∧ w.grownBy w' (some b) := by
  obtain ⟨es, clock, hb, h2, h3⟩ := h
  have hlt : b < w.heap.size := (Array.getElem?_eq_some_iff.1 hb).1
  rcases findNow_spec hkey es.toList 0 (fun x hx => (h2 x hx).1) with ⟨h4, h5⟩ | ⟨j, y, h4, h5, h6⟩
  · refine ⟨{ w with heap := w.heap.setIfInBounds b (.map (es.push { key, val := .bool true, born := clock }) (clock + 1)) }, by simp [Instr.mapUpdate, run_underlying ht, MapKept.run_getObj_map hb, run_checkKey hk hkey, run_findKey hk h4, run_setObj_map _ hb, Result.andThen],
      ⟨_, _, (heap_set hb).1, ?_, ?_⟩, ⟨rfl, rfl, rfl, by simp, fun i _ hi => (heap_set hb).2 i (fun e => hi (by rw [e]))⟩⟩
    · intro x hx
      simp only [Array.toList_push, List.mem_append, List.mem_singleton] at hx
      rcases hx with hx | rfl
      · exact h2 x hx
      · exact ⟨hkey, rfl⟩
    · intro q
      simp only [Array.toList_push, List.mem_append, List.mem_cons]
      rw [← h3 q]
      constructor
      · rintro ⟨x, hx | rfl | hx, rfl⟩
        · exact .inr ⟨x, hx, rfl⟩
        · exact .inl rfl
        · exact absurd hx (by simp)
      · rintro (rfl | ⟨x, hx, rfl⟩)
        · exact ⟨_, .inr (.inl rfl), rfl⟩
        · exact ⟨x, .inl hx, rfl⟩
  · have hj : es[j]? = some y := by simpa using h5
    have hy : y ∈ es.toList := List.mem_of_getElem? h5
    have hkk : ∀ e', es[j]? = some e' → ({ e' with key := key, val := .bool true } : MapEntry).key = e'.key := fun e' he' => by rw [hj] at he'; cases he'; exact h6.symm
    have hks := modify_keys (es := es) j (fun e => { e with key := key, val := .bool true }) hkk
    refine ⟨{ w with heap := w.heap.setIfInBounds b (.map (es.modify j fun e => { e with key := key, val := .bool true }) clock) }, by simp [Instr.mapUpdate, run_underlying ht, MapKept.run_getObj_map hb, run_checkKey hk hkey, run_findKey hk h4, hj, h6, run_keyThatStays hkey, run_setObj_map _ hb, Result.andThen],
      ⟨_, _, (heap_set hb).1, ?_, ?_⟩, ⟨rfl, rfl, rfl, by simp, fun i _ hi => (heap_set hb).2 i (fun e => hi (by rw [e]))⟩⟩
    · intro x hx
      rcases MapFrom.mem_modify hx with hx | ⟨e', he', rfl⟩
      · exact h2 x hx
      · exact ⟨hkey, rfl⟩
    · intro q
      have e1 : (∃ x ∈ (es.modify j fun e => { e with key := key, val := .bool true }).toList, x.key = q) ↔ ∃ x ∈ es.toList, x.key = q := by
        have a1 := List.mem_map (f := fun x : MapEntry => x.key) (b := q) (l := (es.modify j fun e => { e with key := key, val := .bool true }).toList)
        have a2 := List.mem_map (f := fun x : MapEntry => x.key) (b := q) (l := es.toList)
        rw [← a1, ← a2, hks]
      rw [e1, h3 q, List.mem_cons]
      constructor
      · exact .inr
      · rintro (rfl | hq)
        · exact (h3 _).1 ⟨y, hy, h6⟩
        · exact hq
/-- 'm[k] = true' at the operation. -/
theorem wpList_put_set {P : Program} {d : TypeDesc} (w : World) {ops : Array Oper} {rest : List Oper} {o : Oper} {a : Act} {Q : Exit → Act → World → Prop}
    (hg : o.guard = none) (m x v : Operand) (t : TypeId) (hop : o.op = Op.mapUpdate t m x v)
    (k e : TypeId) (ht : P.underlying t = some (.map k e)) (hk : P.underlying k = some d) (b : Nat) (ks : List Value)
    (hm : a.eval m = .map (some b)) (hown : SetB d w b ks) (key : Value) (hx : a.eval x = key) (hv : a.eval v = .bool true) (hkey : IsKey d key)
    (hK : ∀ w', SetB d w' b (key :: ks) → w.grownBy w' (some b) → wpList P ops Q rest (a.put o.dst undef) w') :
    wpList P ops Q (o :: rest) a w := by
  refine wpList_plain hg fun K' hK' => ?_
  obtain ⟨w', hrun, r1, r2⟩ := hown.put ht hk hkey
  unfold Oper.wp
  simp [execOp, hop, hm, hx, hv, hrun, Result.andThen]
  exact hK' _ _ (hK w' r1 r2)
/-- 'm[k]' at the operation. -/
theorem wpList_look_set {P : Program} {d : TypeDesc} (w : World) {ops : Array Oper} {rest : List Oper} {o : Oper} {a : Act} {Q : Exit → Act → World → Prop}
    (hg : o.guard = none) (m x : Operand) (t : TypeId) (hop : o.op = Op.lookup t m x false)
    (k e : TypeId) (ht : P.underlying t = some (.map k e)) (hk : P.underlying k = some d) (hz : (zeroValue e).run P w = .ok (.bool false) w) (b : Nat) (ks : List Value)
    (hm : a.eval m = .map (some b)) (hown : SetB d w b ks) (key : Value) (hx : a.eval x = key) (hkey : IsKey d key) (r : Bool) (hr : r = true ↔ key ∈ ks)
    (hK : wpList P ops Q rest (a.put o.dst (.bool r)) w) :
    wpList P ops Q (o :: rest) a w := by
  refine wpList_plain hg fun K' hK' => ?_
  have hrun := hown.look ht hk hz hkey hr
  unfold Oper.wp
  simp [execOp, hop, hm, hx, hrun, Result.andThen]
  exact hK' _ _ hK
end Go.Proofs.YtmfdpdnokiidlaaDoor
