/-
  Plain law of chapter 6: the region and the zone of a comparator, the program's and the reference's. Conditions: none.
-/
import Derived.Test.YthaagngoefieaaaDoorCSpan
import Derived.Test.YthaagngoefieaaaDoorCCaret
namespace Go.Proofs.YthaagngoefieaaaDoor

/-! The region and the zone. -/
/-- The cut behind all with the same numbers up to a place: so many places are tried. -/
def highC (v : Ver) : Nat → CutC
  | 0 => lastC
  | n + 1 => match bumpV v n with
    | some r => ⟨0, r, false⟩
    | none => highC v n
def lowC (c : Cmp) : CutC := ⟨0, c.v, false⟩
def behindC (c : Cmp) : CutC := if c.parts < 3 ∧ c.op ≠ 9 then highC c.v c.parts.toNat else ⟨0, c.v, true⟩
def spanP (c : Cmp) : SpanC :=
  if c.op = 1 ∨ c.op = 2 then ⟨lowC c, behindC c⟩
  else if c.op = 3 then ⟨firstC, lowC c⟩
  else if c.op = 4 then ⟨firstC, behindC c⟩
  else if c.op = 5 then ⟨behindC c, lastC⟩
  else if c.op = 6 then ⟨lowC c, lastC⟩
  else if c.op = 7 then ⟨lowC c, highC c.v (caretP c + 1).toNat⟩
  else if c.op = 8 then ⟨lowC c, highC c.v (min (c.parts - 1) 1 + 1).toNat⟩
  else if 0 < c.parts then ⟨lowC c, highC c.v c.parts.toNat⟩ else ⟨firstC, lastC⟩
def regionP (c : Cmp) : List SpanC := if mayC c = true then (if c.op = 2 then notP (spansC (spanP c)) else spansC (spanP c)) else []
def beforeR (v : Ver) : CutC := ⟨0, coreV v, false⟩
def behindR (c : Cmp) : CutC := if c.parts < 3 ∧ 0 < c.parts then highC c.v c.parts.toNat else ⟨0, coreV c.v, true⟩
def spanR (c : Cmp) : SpanC :=
  if c.op = 1 ∨ c.op = 2 then ⟨beforeR c.v, behindR c⟩
  else if c.op = 3 then ⟨firstC, beforeR c.v⟩
  else if c.op = 4 then ⟨firstC, behindR c⟩
  else if c.op = 5 then ⟨behindR c, lastC⟩
  else if c.op = 6 then ⟨beforeR c.v, lastC⟩
  else if c.op = 7 then ⟨beforeR c.v, highC c.v (turnsR c + 1).toNat⟩
  else if c.op = 8 then ⟨beforeR c.v, highC c.v (min (c.parts - 1) 1 + 1).toNat⟩
  else if c.parts = 0 then ⟨firstC, lastC⟩ else ⟨beforeR c.v, highC c.v c.parts.toNat⟩
def regionR (c : Cmp) : List SpanC := if mayC c = true then (if c.op = 2 then notR (spansC (spanR c)) else spansC (spanR c)) else []
def zoneC (c : Cmp) : List SpanC :=
  if mayC c = true ∧ c.v.pre ≠ [] then [⟨⟨0, ⟨c.v.maj, c.v.min, c.v.pat, [48], []⟩, false⟩, ⟨0, relV c.v.maj c.v.min c.v.pat, false⟩⟩] else []

end Go.Proofs.YthaagngoefieaaaDoor
