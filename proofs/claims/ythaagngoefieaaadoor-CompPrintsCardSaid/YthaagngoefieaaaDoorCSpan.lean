/-
  Rows of spans in memory; the walks of chapter 3's SpanMay, the program's and the reference's, and of chapter 6's spans. Conditions: Pre and Build have at most 1048576 bytes.
-/
import Derived.Test.YthaagngoefieaaaDoorCCut
namespace Go.Proofs.YthaagngoefieaaaDoor
open Go.ChangeShapes Go.WideShapes Go.ChangeAt Go.RowKit
set_option linter.unusedVariables false
set_option linter.unusedSimpArgs false

def cutCells (c : CutC) : List Value := [.int .i64 c.e, .int .i64 c.v.maj, .int .i64 c.v.min, .int .i64 c.v.pat, .string ⟨c.v.pre.toArray⟩, .string ⟨c.v.build.toArray⟩, .bool c.aft]
def spanCells (s : SpanC) : List Value := cutCells s.f ++ cutCells s.t
def cutV (c : CutC) : Value := .agg (cutCells c).toArray
def spanV (s : SpanC) : Value := .agg (spanCells s).toArray
theorem cut_of (c : CutC) : ∃ (e a b d : Int) (p q : ByteArray) (f : Bool), c = cutS e a b d p q f ∧ cutV c = cutW e a b d p q f ∧ cutCells c = [.int .i64 e, .int .i64 a, .int .i64 b, .int .i64 d, .string p, .string q, .bool f] ∧ p.size = c.v.pre.length ∧ q.size = c.v.build.length := by
  obtain ⟨e, ⟨a, b, d, p, q⟩, f⟩ := c
  refine ⟨e, a, b, d, ⟨p.toArray⟩, ⟨q.toArray⟩, f, ?_, rfl, rfl, str_size p, str_size q⟩
  simp [cutS, verS]
/-- A cut whose texts are not too long. -/
def okC (c : CutC) : Prop := c.v.pre.length ≤ 1048576 ∧ c.v.build.length ≤ 1048576
def okS (s : SpanC) : Prop := okC s.f ∧ okC s.t
/-- A slice value of spans with address A reads as l; it lies below block B. -/
def RdS (w : World) (B : Nat) (A : Option Addr) (l : List SpanC) : Prop :=
  0 < l.length → ∃ b, A = some ⟨b, 0, none⟩ ∧ b < B ∧ Cells w b (l.flatMap spanCells)
theorem rds_none {w : World} {B : Nat} {A : Option Addr} : RdS w B A [] := fun h => absurd h (by simp)
theorem rds_below {w w' : World} {B : Nat} {A : Option Addr} {l : List SpanC} (h : RdS w B A l) (hb : Below B w w') : RdS w' B A l := fun hn => by
  obtain ⟨b, e, hlt, hc⟩ := h hn
  exact ⟨b, e, hlt, cells_below hc hlt hb⟩
theorem rds_more {w : World} {B B' : Nat} {A : Option Addr} {l : List SpanC} (h : RdS w B A l) (hB : B ≤ B') : RdS w B' A l := fun hn => by
  obtain ⟨b, e, hlt, hc⟩ := h hn
  exact ⟨b, e, by omega, hc⟩
theorem rds_one {w : World} {s : SpanC} (t : TypeId) : RdS (w.alloc (.cells (spanCells s).toArray t)) (w.heap.size + 1) (some ⟨w.heap.size, 0, none⟩) [s] := fun _ => by
  refine ⟨w.heap.size, rfl, by omega, ?_⟩
  have := cells_new w (spanCells s) t
  simpa using this
theorem span_len (s : SpanC) : (spanCells s).length = 14 := rfl
theorem flat_span : ∀ (l : List SpanC) (k m : Nat) (s : SpanC), l[k]? = some s → m < 14 → (l.flatMap spanCells)[k * 14 + m]? = (spanCells s)[m]?
  | [], k, m, s, h, _ => by simp at h
  | x :: l, 0, m, s, h, hm => by
    simp at h
    subst h
    rw [List.flatMap_cons, Nat.zero_mul, Nat.zero_add, List.getElem?_append_left (by rw [span_len]; exact hm)]
  | x :: l, k + 1, m, s, h, hm => by
    rw [List.flatMap_cons, List.getElem?_append_right (by rw [span_len]; omega), span_len, show (k + 1) * 14 + m - 14 = k * 14 + m from by omega]
    exact flat_span l k m s (by simpa using h) hm
theorem mayS_eq (x y : CutC) : mayS ⟨x, y⟩ = (mayCut x && mayCut y && decide (compCut x y < 0)) := rfl
def spansC (s : SpanC) : List SpanC := if compCut s.f s.t < 0 then [s] else []
theorem spans_eq (x y : CutC) : spansC ⟨x, y⟩ = if compCut x y < 0 then [⟨x, y⟩] else [] := rfl

set_option maxRecDepth 8192 in
set_option maxHeartbeats 4000000 in
theorem spanmay_any (e a b c : Int) (p q : ByteArray) (f : Bool) (e' a' b' c' : Int) (p' q' : ByteArray) (f' : Bool) (w : World) (hp : p.size ≤ 1048576) (hq : q.size ≤ 1048576) (hp' : p'.size ≤ 1048576) (hq' : q'.size ≤ 1048576) :
    Calls Tryd.prog 102 #[.agg #[.int .i64 e, .int .i64 a, .int .i64 b, .int .i64 c, .string p, .string q, .bool f, .int .i64 e', .int .i64 a', .int .i64 b', .int .i64 c', .string p', .string q', .bool f']] w fun r w' => r = .returned (.bool (mayS ⟨cutS e a b c p q f, cutS e' a' b' c' p' q' f'⟩)) ∧ Below w.heap.size w w' := by
  rw [mayS_eq]
  have m1 := fun W => cutmay_any e a b c p q f W hp hq
  have m2 := fun W => cutmay_any e' a' b' c' p' q' f' W hp' hq'
  have m3 := fun W => cutcomp_any e a b c p q f e' a' b' c' p' q' f' W hp hq hp' hq'
  unfold cutW at *
  generalize mayCut (cutS e a b c p q f) = r1 at *
  generalize mayCut (cutS e' a' b' c' p' q' f') = r2 at *
  generalize compCut (cutS e a b c p q f) (cutS e' a' b' c' p' q' f') = k at *
  cases r1
  · go_enter Tryd.func102, Tryd.ntmps102
    go_wp2_with fail
    refine (m1 _).mono ?_
    rintro r w1 ⟨rfl, hb1⟩
    have hL := loc_call (loc_new (loc_start w) w.heap.size [.int .i64 e, .int .i64 a, .int .i64 b, .int .i64 c, .string p, .string q, .bool f, .int .i64 e', .int .i64 a', .int .i64 b', .int .i64 c', .string p', .string q', .bool f'] 50) hb1
    clear hb1
    obtain ⟨c0, c1, c2, c3, c4, c5, c6, c7, c8, c9, c10, c11, c12, c13⟩ := cells14L (loc_own hL 0 rfl).1
    go_wp2
    go_ret
    exact ⟨rfl, hL.1⟩
  cases r2
  · go_enter Tryd.func102, Tryd.ntmps102
    go_wp2_with fail
    refine (m1 _).mono ?_
    rintro r w1 ⟨rfl, hb1⟩
    have hL := loc_call (loc_new (loc_start w) w.heap.size [.int .i64 e, .int .i64 a, .int .i64 b, .int .i64 c, .string p, .string q, .bool f, .int .i64 e', .int .i64 a', .int .i64 b', .int .i64 c', .string p', .string q', .bool f'] 50) hb1
    clear hb1
    obtain ⟨c0, c1, c2, c3, c4, c5, c6, c7, c8, c9, c10, c11, c12, c13⟩ := cells14L (loc_own hL 0 rfl).1
    go_wp2_with fail
    refine (m2 _).mono ?_
    rintro r w2 ⟨rfl, hb2⟩
    have hL := loc_call hL hb2
    clear hb2
    clear c0 c1 c2 c3 c4 c5 c6 c7 c8 c9 c10 c11 c12 c13
    obtain ⟨c0, c1, c2, c3, c4, c5, c6, c7, c8, c9, c10, c11, c12, c13⟩ := cells14L (loc_own hL 0 rfl).1
    go_wp2
    go_ret
    exact ⟨rfl, hL.1⟩
  · go_enter Tryd.func102, Tryd.ntmps102
    go_wp2_with fail
    refine (m1 _).mono ?_
    rintro r w1 ⟨rfl, hb1⟩
    have hL := loc_call (loc_new (loc_start w) w.heap.size [.int .i64 e, .int .i64 a, .int .i64 b, .int .i64 c, .string p, .string q, .bool f, .int .i64 e', .int .i64 a', .int .i64 b', .int .i64 c', .string p', .string q', .bool f'] 50) hb1
    clear hb1
    obtain ⟨c0, c1, c2, c3, c4, c5, c6, c7, c8, c9, c10, c11, c12, c13⟩ := cells14L (loc_own hL 0 rfl).1
    go_wp2_with fail
    refine (m2 _).mono ?_
    rintro r w2 ⟨rfl, hb2⟩
    have hL := loc_call hL hb2
    clear hb2
    clear c0 c1 c2 c3 c4 c5 c6 c7 c8 c9 c10 c11 c12 c13
    obtain ⟨c0, c1, c2, c3, c4, c5, c6, c7, c8, c9, c10, c11, c12, c13⟩ := cells14L (loc_own hL 0 rfl).1
    go_wp2_with fail
    refine (m3 _).mono ?_
    rintro r w3 ⟨rfl, hb3⟩
    have hL := loc_call hL hb3
    clear hb3
    clear c0 c1 c2 c3 c4 c5 c6 c7 c8 c9 c10 c11 c12 c13
    obtain ⟨c0, c1, c2, c3, c4, c5, c6, c7, c8, c9, c10, c11, c12, c13⟩ := cells14L (loc_own hL 0 rfl).1
    go_wp2_with fail
    go_ret
    exact ⟨rfl, hL.1⟩
set_option maxRecDepth 8192 in
set_option maxHeartbeats 4000000 in
theorem rspanmay_any (e a b c : Int) (p q : ByteArray) (f : Bool) (e' a' b' c' : Int) (p' q' : ByteArray) (f' : Bool) (w : World) (hp : p.size ≤ 1048576) (hq : q.size ≤ 1048576) (hp' : p'.size ≤ 1048576) (hq' : q'.size ≤ 1048576) :
    Calls Tryd.prog 81 #[.agg #[.int .i64 e, .int .i64 a, .int .i64 b, .int .i64 c, .string p, .string q, .bool f, .int .i64 e', .int .i64 a', .int .i64 b', .int .i64 c', .string p', .string q', .bool f']] w fun r w' => r = .returned (.bool (mayS ⟨cutS e a b c p q f, cutS e' a' b' c' p' q' f'⟩)) ∧ Below w.heap.size w w' := by
  rw [mayS_eq]
  have m1 := fun W => rcutmay_any e a b c p q f W hp hq
  have m2 := fun W => rcutmay_any e' a' b' c' p' q' f' W hp' hq'
  have m3 := fun W => rcutcomp_any e a b c p q f e' a' b' c' p' q' f' W hp hq hp' hq'
  unfold cutW at *
  generalize mayCut (cutS e a b c p q f) = r1 at *
  generalize mayCut (cutS e' a' b' c' p' q' f') = r2 at *
  generalize compCut (cutS e a b c p q f) (cutS e' a' b' c' p' q' f') = k at *
  cases r1
  · go_enter Tryd.func81, Tryd.ntmps81
    go_wp2_with fail
    refine (m1 _).mono ?_
    rintro r w1 ⟨rfl, hb1⟩
    have hL := loc_call (loc_new (loc_start w) w.heap.size [.int .i64 e, .int .i64 a, .int .i64 b, .int .i64 c, .string p, .string q, .bool f, .int .i64 e', .int .i64 a', .int .i64 b', .int .i64 c', .string p', .string q', .bool f'] 50) hb1
    clear hb1
    obtain ⟨c0, c1, c2, c3, c4, c5, c6, c7, c8, c9, c10, c11, c12, c13⟩ := cells14L (loc_own hL 0 rfl).1
    go_wp2
    go_ret
    exact ⟨rfl, hL.1⟩
  cases r2
  · go_enter Tryd.func81, Tryd.ntmps81
    go_wp2_with fail
    refine (m1 _).mono ?_
    rintro r w1 ⟨rfl, hb1⟩
    have hL := loc_call (loc_new (loc_start w) w.heap.size [.int .i64 e, .int .i64 a, .int .i64 b, .int .i64 c, .string p, .string q, .bool f, .int .i64 e', .int .i64 a', .int .i64 b', .int .i64 c', .string p', .string q', .bool f'] 50) hb1
    clear hb1
    obtain ⟨c0, c1, c2, c3, c4, c5, c6, c7, c8, c9, c10, c11, c12, c13⟩ := cells14L (loc_own hL 0 rfl).1
    go_wp2_with fail
    refine (m2 _).mono ?_
    rintro r w2 ⟨rfl, hb2⟩
    have hL := loc_call hL hb2
    clear hb2
    clear c0 c1 c2 c3 c4 c5 c6 c7 c8 c9 c10 c11 c12 c13
    obtain ⟨c0, c1, c2, c3, c4, c5, c6, c7, c8, c9, c10, c11, c12, c13⟩ := cells14L (loc_own hL 0 rfl).1
    go_wp2
    go_ret
    exact ⟨rfl, hL.1⟩
  · go_enter Tryd.func81, Tryd.ntmps81
    go_wp2_with fail
    refine (m1 _).mono ?_
    rintro r w1 ⟨rfl, hb1⟩
    have hL := loc_call (loc_new (loc_start w) w.heap.size [.int .i64 e, .int .i64 a, .int .i64 b, .int .i64 c, .string p, .string q, .bool f, .int .i64 e', .int .i64 a', .int .i64 b', .int .i64 c', .string p', .string q', .bool f'] 50) hb1
    clear hb1
    obtain ⟨c0, c1, c2, c3, c4, c5, c6, c7, c8, c9, c10, c11, c12, c13⟩ := cells14L (loc_own hL 0 rfl).1
    go_wp2_with fail
    refine (m2 _).mono ?_
    rintro r w2 ⟨rfl, hb2⟩
    have hL := loc_call hL hb2
    clear hb2
    clear c0 c1 c2 c3 c4 c5 c6 c7 c8 c9 c10 c11 c12 c13
    obtain ⟨c0, c1, c2, c3, c4, c5, c6, c7, c8, c9, c10, c11, c12, c13⟩ := cells14L (loc_own hL 0 rfl).1
    go_wp2_with fail
    refine (m3 _).mono ?_
    rintro r w3 ⟨rfl, hb3⟩
    have hL := loc_call hL hb3
    clear hb3
    clear c0 c1 c2 c3 c4 c5 c6 c7 c8 c9 c10 c11 c12 c13
    obtain ⟨c0, c1, c2, c3, c4, c5, c6, c7, c8, c9, c10, c11, c12, c13⟩ := cells14L (loc_own hL 0 rfl).1
    go_wp2_with fail
    go_ret
    exact ⟨rfl, hL.1⟩
set_option maxRecDepth 8192 in
set_option maxHeartbeats 4000000 in
/-- The row of a span, if it is one. -/
theorem spans_any (e a b c : Int) (p q : ByteArray) (f : Bool) (e' a' b' c' : Int) (p' q' : ByteArray) (f' : Bool) (w : World) (hp : p.size ≤ 1048576) (hq : q.size ≤ 1048576) (hp' : p'.size ≤ 1048576) (hq' : q'.size ≤ 1048576) :
    Calls Tryd.prog 56 #[.agg #[.int .i64 e, .int .i64 a, .int .i64 b, .int .i64 c, .string p, .string q, .bool f, .int .i64 e', .int .i64 a', .int .i64 b', .int .i64 c', .string p', .string q', .bool f']] w fun r w' => (∃ A n cap, r = .returned (.slice A n cap) ∧ n = (spansC ⟨cutS e a b c p q f, cutS e' a' b' c' p' q' f'⟩).length ∧ n ≤ cap ∧ RdS w' w'.heap.size A (spansC ⟨cutS e a b c p q f, cutS e' a' b' c' p' q' f'⟩)) ∧ Below w.heap.size w w' := by
  have m3 := fun W => cutcomp_any e a b c p q f e' a' b' c' p' q' f' W hp hq hp' hq'
  rw [spans_eq]
  unfold cutW at *
  have hsc : spanCells ⟨cutS e a b c p q f, cutS e' a' b' c' p' q' f'⟩ = [.int .i64 e, .int .i64 a, .int .i64 b, .int .i64 c, .string p, .string q, .bool f, .int .i64 e', .int .i64 a', .int .i64 b', .int .i64 c', .string p', .string q', .bool f'] := by simp [spanCells, cutCells, cutS, verS, back]
  generalize (⟨cutS e a b c p q f, cutS e' a' b' c' p' q' f'⟩ : SpanC) = S at *
  have HSC := Lib.hid hsc
  clear hsc
  generalize compCut (cutS e a b c p q f) (cutS e' a' b' c' p' q' f') = k at *
  by_cases hk : k < 0
  · rw [if_pos hk]
    have hk2 : ¬ 0 ≤ k := by omega
    clear hk
    go_enter Tryd.func56, Tryd.ntmps56

    go_wp2_with fail
    refine (m3 _).mono ?_
    rintro r w1 ⟨rfl, hb1⟩
    have hL := loc_call (loc_new (loc_start w) w.heap.size [.int .i64 e, .int .i64 a, .int .i64 b, .int .i64 c, .string p, .string q, .bool f, .int .i64 e', .int .i64 a', .int .i64 b', .int .i64 c', .string p', .string q', .bool f'] 50) hb1
    clear hb1
    obtain ⟨c0, c1, c2, c3, c4, c5, c6, c7, c8, c9, c10, c11, c12, c13⟩ := cells14L (loc_own hL 0 rfl).1
    go_wp2_with fail
    go_ret
    refine ⟨⟨_, _, _, rfl, rfl, by omega, ?_⟩, (loc_box hL _).1⟩
    have h := rds_one (w := w1) (s := S) 50
    rw [HSC.out] at h
    simpa using h
  · rw [if_neg hk]
    have hk2 : 0 ≤ k := by omega
    clear hk
    go_enter Tryd.func56, Tryd.ntmps56
    go_wp2_with fail
    refine (m3 _).mono ?_
    rintro r w1 ⟨rfl, hb1⟩
    go_wp2_with fail
    go_ret
    exact ⟨⟨_, _, _, rfl, rfl, by simp, rds_none⟩, (box_below w _).trans (hb1.mono (by simp))⟩
end Go.Proofs.YthaagngoefieaaaDoor
