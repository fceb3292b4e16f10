/-
  Plain law of chapters 3 and 4: cuts, spans, rows of at most one span. Conditions: none.
-/
import Derived.Test.YthaagngoefieaaaDoorCPlain
namespace Go.Proofs.YthaagngoefieaaaDoor
set_option linter.unusedSimpArgs false

/-- A cut; a span. -/
structure CutC where
  e : Int
  v : Ver
  aft : Bool
deriving DecidableEq
structure SpanC where
  f : CutC
  t : CutC
deriving DecidableEq
def firstC : CutC := ⟨-1, noVer, false⟩
def lastC : CutC := ⟨1, noVer, false⟩

def mayCut (c : CutC) : Bool := if c.e = 0 then mayV c.v && c.v.build.isEmpty else (decide (c.e = -1) || decide (c.e = 1)) && decide (c.v = noVer) && !c.aft
def aftI (a b : Bool) : Int := if a = b then 0 else if b = true then -1 else 1
def compCut (a b : CutC) : Int := if mayCut a = true ∧ mayCut b = true then (if a.e ≠ 0 ∨ b.e ≠ 0 then intsI a.e b.e else orI (compV a.v b.v) (aftI a.aft b.aft)) else 0
def mayS (s : SpanC) : Bool := mayCut s.f && mayCut s.t && decide (compCut s.f s.t < 0)
def aheadC (c : CutC) (v : Ver) : Bool :=
  if mayCut c = true ∧ mayV v = true then (if c.e ≠ 0 then decide (c.e < 0) else decide (compV c.v v < 0) || (decide (compV c.v v = 0) && !c.aft)) else false
def holdsC (s : SpanC) (v : Ver) : Bool := mayS s && mayV v && aheadC s.f v && !aheadC s.t v
/-- A row that may be. -/
def mayRow : List SpanC → Bool
  | [] => true
  | [s] => mayS s
  | s :: t :: l => mayS s && decide (compCut s.t t.f < 0) && mayRow (t :: l)
def hasR (l : List SpanC) (v : Ver) : Bool := mayRow l && l.any (holdsC · v)

/-! The program's Not. -/
def notGo : CutC → List SpanC → List SpanC
  | from_, [] => if from_.e < 1 then [⟨from_, lastC⟩] else []
  | from_, s :: l => (if compCut from_ s.f < 0 then [⟨from_, s.f⟩] else []) ++ notGo s.t l
def notP (l : List SpanC) : List SpanC := if mayRow l = true then notGo firstC l else []

/-! The reference's cuts, Not, And, Within. -/
def putC : List CutC → CutC → List CutC
  | [], c => [c]
  | x :: l, c => if compCut x c < 0 then x :: putC l c else if compCut x c = 0 then x :: l else c :: x :: l
def cutsC (l : List SpanC) : List CutC := l.foldl (fun out s => putC (putC out s.f) s.t) [firstC, lastC]
def inC (l : List SpanC) (f t : CutC) : Bool := l.any fun s => decide (compCut s.f f ≤ 0) && decide (compCut t s.t ≤ 0)
def growC (l : List SpanC) (f t : CutC) : List SpanC :=
  match l.getLast? with
  | some s => if compCut s.t f = 0 then l.dropLast ++ [⟨s.f, t⟩] else l ++ [⟨f, t⟩]
  | none => [⟨f, t⟩]
/-- The stretches between cuts, one behind the other, that a test takes, grown together. -/
def stretch (test : CutC → CutC → Bool) : List SpanC → List CutC → List SpanC
  | out, a :: b :: l => stretch test (if test a b = true then growC out a b else out) (b :: l)
  | out, _ => out
def notR (l : List SpanC) : List SpanC := if mayRow l = true then stretch (fun f t => !inC l f t) [] (cutsC l) else []
def andR (a b : List SpanC) : List SpanC := if mayRow a = true ∧ mayRow b = true then stretch (fun f t => inC a f t && inC b f t) [] (cutsC (a ++ b)) else []
def withinR (a b : List SpanC) : Bool := mayRow a && mayRow b && decide (andR a b = a)

/-! Facts. -/
theorem may_first : mayCut firstC = true := by decide
theorem may_last : mayCut lastC = true := by decide
theorem compv_self (v : Ver) : compV v v = 0 := by
  unfold compV
  split
  · simp [intsI, orI, presI]
  · rfl
theorem comp_self (c : CutC) : compCut c c = 0 := by
  unfold compCut
  split
  · split
    · simp [intsI]
    · simp [compv_self, orI, aftI]
  · rfl
theorem comp_of {a b : CutC} (ha : mayCut a = true) (hb : mayCut b = true) : compCut a b = if a.e ≠ 0 ∨ b.e ≠ 0 then intsI a.e b.e else orI (compV a.v b.v) (aftI a.aft b.aft) := by
  unfold compCut
  rw [if_pos ⟨ha, hb⟩]
theorem may_e {c : CutC} (h : mayCut c = true) : c.e = -1 ∨ c.e = 0 ∨ c.e = 1 := by
  unfold mayCut at h
  split at h
  · exact .inr (.inl ‹_›)
  · simp only [Bool.and_eq_true, Bool.or_eq_true, decide_eq_true_eq] at h
    rcases h.1.1 with h | h
    · exact .inl h
    · exact .inr (.inr h)
theorem end_is {c : CutC} (h : mayCut c = true) : (c.e = -1 → c = firstC) ∧ (c.e = 1 → c = lastC) := by
  unfold mayCut at h
  obtain ⟨e, v, f⟩ := c
  dsimp only at h ⊢
  constructor
  · rintro rfl
    simp at h
    obtain ⟨rfl, rfl⟩ := h
    rfl
  · rintro rfl
    simp at h
    obtain ⟨rfl, rfl⟩ := h
    rfl
theorem comp_ends {a b : CutC} (ha : mayCut a = true) (hb : mayCut b = true) (h : a.e ≠ 0 ∨ b.e ≠ 0) : compCut a b = intsI a.e b.e := by rw [comp_of ha hb, if_pos h]
theorem ints_1 {a b : Int} (h : a < b) : intsI a b = -1 := by unfold intsI; rw [if_pos h]
theorem ints_2 {a b : Int} (h : b < a) : intsI a b = 1 := by unfold intsI; rw [if_neg (by omega), if_pos h]
theorem ints_0 (a : Int) : intsI a a = 0 := by unfold intsI; rw [if_neg (by omega), if_neg (by omega)]

/-- The complement of one span. -/
def not1 (s : SpanC) : List SpanC := (if s.f.e = -1 then [] else [⟨firstC, s.f⟩]) ++ (if s.t.e = 1 then [] else [⟨s.t, lastC⟩])
theorem span_ends {s : SpanC} (h : mayS s = true) : mayCut s.f = true ∧ mayCut s.t = true ∧ compCut s.f s.t < 0 ∧ (s.f.e = -1 ∨ s.f.e = 0) ∧ (s.t.e = 0 ∨ s.t.e = 1) := by
  unfold mayS at h
  simp only [Bool.and_eq_true, decide_eq_true_eq] at h
  obtain ⟨⟨h1, h2⟩, h3⟩ := h
  refine ⟨h1, h2, h3, ?_, ?_⟩
  · rcases may_e h1 with e | e | e
    · exact .inl e
    · exact .inr e
    · exfalso
      rw [comp_ends h1 h2 (by omega)] at h3
      rcases may_e h2 with e2 | e2 | e2 <;> rw [e, e2] at h3 <;> revert h3 <;> decide
  · rcases may_e h2 with e | e | e
    · exfalso
      rw [comp_ends h1 h2 (by omega)] at h3
      rcases may_e h1 with e2 | e2 | e2 <;> rw [e, e2] at h3 <;> revert h3 <;> decide
    · exact .inl e
    · exact .inr e
theorem notP_nil : notP [] = [⟨firstC, lastC⟩] := by decide
theorem notR_nil : notR [] = [⟨firstC, lastC⟩] := by decide
theorem notP_one {s : SpanC} (h : mayS s = true) : notP [s] = not1 s := by
  obtain ⟨h1, h2, h3, h4, h5⟩ := span_ends h
  unfold notP not1
  rw [if_pos (show mayRow [s] = true from h)]
  simp only [notGo]
  congr 1
  · rw [comp_ends may_first h1 (by left; decide)]
    rcases h4 with e | e
    · rw [e]; rfl
    · rw [e]; rfl
  · rcases h5 with e | e
    · rw [e]; rfl
    · rw [e]; rfl
theorem notR_one {s : SpanC} (h : mayS s = true) : notR [s] = not1 s := by
  obtain ⟨h1, h2, h3, h4, h5⟩ := span_ends h
  have hff := comp_self s.f
  have htt := comp_self s.t
  have c1 := comp_ends may_first h1 (.inl (by decide))
  have c2 := comp_ends h1 may_first (.inr (by decide))
  have c3 := comp_ends may_first h2 (.inl (by decide))
  have c5 := comp_ends may_last h1 (.inl (by decide))
  have c7 := comp_ends may_last h2 (.inl (by decide))
  have hfl : compCut firstC lastC = -1 := by decide
  have hl1 : compCut lastC firstC = 1 := by decide
  have hf0 : compCut firstC firstC = 0 := by decide
  have hl0 : compCut lastC lastC = 0 := by decide
  have e1 : firstC.e = -1 := rfl
  have e2 : lastC.e = 1 := rfl
  have hr : mayRow [s] = true := h
  obtain ⟨f, t⟩ := s
  dsimp only at *
  rcases h4 with e | e <;> rcases h5 with g | g
  · obtain rfl := (end_is h1).1 e
    simp [g, e1, e2, intsI] at c3 c7
    simp [notR, not1, cutsC, hr, putC, stretch, inC, growC, hf0, htt, c3, c7, h3, e1, g]
  · obtain rfl := (end_is h1).1 e
    obtain rfl := (end_is h2).2 g
    decide
  · simp [e, e1, e2, intsI] at c1 c2 c5
    simp [g, e1, e2, intsI] at c3 c7
    simp [notR, not1, cutsC, hr, putC, stretch, inC, growC, hff, htt, c1, c2, c3, c5, c7, h3, e, g]
    omega
  · obtain rfl := (end_is h2).2 g
    simp [e, e1, e2, intsI] at c1 c2 c5
    simp [notR, not1, cutsC, hr, putC, stretch, inC, growC, hff, hl0, c1, c2, c5, hfl, h3, e, e2]
end Go.Proofs.YthaagngoefieaaaDoor
