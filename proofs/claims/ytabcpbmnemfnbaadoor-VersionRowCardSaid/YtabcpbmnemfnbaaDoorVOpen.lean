/-
  A version that comes in, by value: opened to its five fields and shut again. (The first lemma is the guide's page of lemmas to copy.) Conditions: none.
-/
import Derived.Test.YtabcpbmnemfnbaaDoorVLens
import Derived.Lib.SmallJoins
namespace Go.Proofs.YtabcpbmnemfnbaaDoor
open Go.Joins Go.ChangeShapes Go.WideShapes Go.RowKit Go.Deep
set_option linter.unusedVariables false

section
variable {H : Type} {enc : TypeId × Value → H} {P : Program} {w : World} {base : Nat} {spare : Nat → Bool} {held : Bool}
theorem open_agg5 {r : Reach} {b0 : Nat} {t : TypeId} {f0 f1 f2 f3 f4 : Field} {v : Value} {d : DataW H} {p : List MemPlace} (hs : P.underlying t = some (.struct #[f0, f1, f2, f3, f4])) (hone : oneCellFields P #[f0, f1, f2, f3, f4] = true) (hC : P.cellsOf t = 5)
    (hv : Value.okWide P w r b0 t v) (h : DataW.Trod enc P w base spare held t v d p) :
    ∃ (v0 v1 v2 v3 v4 : Value) (y0 y1 y2 y3 y4 : DataW H × List MemPlace) (n : Nat), v = .agg #[v0, v1, v2, v3, v4] ∧ d = .agg [y0.1, y1.1, y2.1, y3.1, y4.1] ∧ p = y0.2 ++ (y1.2 ++ (y2.2 ++ (y3.2 ++ y4.2))) ∧
      DataW.trod enc P w base spare held n f0.type [v0] = some y0 ∧ DataW.trod enc P w base spare held n f1.type [v1] = some y1 ∧ DataW.trod enc P w base spare held n f2.type [v2] = some y2 ∧ DataW.trod enc P w base spare held n f3.type [v3] = some y3 ∧ DataW.trod enc P w base spare held n f4.type [v4] = some y4 := by
  obtain ⟨cs, rfl, hsz⟩ := okWide_struct hs hv
  obtain ⟨l⟩ := cs
  match l, hsz.trans hC with
  | [c0, c1, c2, c3, c4], _ =>
    obtain ⟨fuel, hf⟩ := h
    obtain ⟨xs, n, _, hx, _, hlen, hg⟩ := DataW.trod_struct hs hf
    obtain ⟨o0, k0⟩ := hone_of hone 0 f0 rfl
    obtain ⟨o1, k1⟩ := hone_of hone 1 f1 rfl
    obtain ⟨o2, k2⟩ := hone_of hone 2 f2 rfl
    obtain ⟨o3, k3⟩ := hone_of hone 3 f3 rfl
    obtain ⟨o4, k4⟩ := hone_of hone 4 f4 rfl
    match xs, hlen with
    | [y0, y1, y2, y3, y4], _ =>
      simp only [Prod.mk.injEq] at hx
      exact ⟨c0, c1, c2, c3, c4, y0, y1, y2, y3, y4, n, rfl, by simpa using hx.1, by simpa using hx.2, by simpa [Value.cells, o0, k0] using hg 0 f0 rfl, by simpa [Value.cells, o1, k1] using hg 1 f1 rfl, by simpa [Value.cells, o2, k2] using hg 2 f2 rfl, by simpa [Value.cells, o3, k3] using hg 3 f3 rfl, by simpa [Value.cells, o4, k4] using hg 4 f4 rfl⟩
end

/-- The fields fit their types. -/
def VerWf (a b c : Int) (p q : ByteArray) : Prop := (Lit.int .i64 a).wf = true ∧ (Lit.int .i64 b).wf = true ∧ (Lit.int .i64 c).wf = true ∧ p.size ≤ maxLen ∧ q.size ≤ maxLen
section
variable {H : Type} {enc : TypeId × Value → H} {w : World} {base : Nat} {spare : Nat → Bool} {held : Bool}
theorem open_ver {r : Reach} {b0 : Nat} {v : Value} {d : DataW H} {ps : List MemPlace} (hv : Value.okWide Tryd.prog w r b0 24 v) (h : DataW.Trod enc Tryd.prog w base spare held 24 v d ps) :
    ∃ (a b c : Int) (p q : ByteArray), v = .agg #[.int .i64 a, .int .i64 b, .int .i64 c, .string p, .string q] ∧ d = .agg [.lit (.int .i64 a), .lit (.int .i64 b), .lit (.int .i64 c), .lit (.string p.data.toList), .lit (.string q.data.toList)] ∧ ps = [] ∧ VerWf a b c p q := by
  obtain ⟨v0, v1, v2, v3, v4, y0, y1, y2, y3, y4, n, rfl, rfl, rfl, h0, h1, h2, h3, h4⟩ := open_agg5 Tryd.underlying24 (by kernel_rfl) (by kernel_rfl) hv h
  obtain ⟨a, e0, rfl, w0⟩ := DataW.trod_int Tryd.underlying3 h0
  obtain ⟨b, e1, rfl, w1⟩ := DataW.trod_int Tryd.underlying3 h1
  obtain ⟨c, e2, rfl, w2⟩ := DataW.trod_int Tryd.underlying3 h2
  obtain ⟨p, e3, rfl, w3⟩ := DataW.trod_string Tryd.underlying9 h3
  obtain ⟨q, e4, rfl, w4⟩ := DataW.trod_string Tryd.underlying9 h4
  cases e0
  cases e1
  cases e2
  cases e3
  cases e4
  exact ⟨a, b, c, p, q, rfl, rfl, rfl, w0, w1, w2, w3, w4⟩
theorem shut_ver {a b c : Int} {p q : ByteArray} (h : VerWf a b c p q) :
    DataW.Trod enc Tryd.prog w base spare held 24 (.agg #[.int .i64 a, .int .i64 b, .int .i64 c, .string p, .string q]) (.agg [.lit (.int .i64 a), .lit (.int .i64 b), .lit (.int .i64 c), .lit (.string p.data.toList), .lit (.string q.data.toList)]) [] := by
  obtain ⟨w0, w1, w2, w3, w4⟩ := h
  have hi : ∀ x : Int, (Lit.int .i64 x).wf = true → DataW.trod enc Tryd.prog w base spare held 1 3 [.int .i64 x] = some (.lit (.int .i64 x), []) := fun x hx => by simp [DataW.trod, Tryd.underlying3, hx]
  have hs : ∀ x : ByteArray, x.size ≤ maxLen → DataW.trod enc Tryd.prog w base spare held 1 9 [.string x] = some (.lit (.string x.data.toList), []) := fun x hx => by simp [DataW.trod, Tryd.underlying9, hx]
  refine ⟨2, ?_⟩
  have := trod_struct_mk (enc := enc) (P := Tryd.prog) (w := w) (base := base) (spare := spare) (held := held) (n := 1) (cs := [.int .i64 a, .int .i64 b, .int .i64 c, .string p, .string q])
    (xs := [(.lit (.int .i64 a), []), (.lit (.int .i64 b), []), (.lit (.int .i64 c), []), (.lit (.string p.data.toList), []), (.lit (.string q.data.toList), [])]) Tryd.underlying24 (by rw [show Tryd.prog.cellsOf 24 = 5 from by kernel_rfl]; rfl)
    (by
      have k1 : Tryd.prog.cellsOf 3 = 1 := by kernel_rfl
      have k2 : Tryd.prog.cellsOf 9 = 1 := by kernel_rfl
      simp [k1, k2, hi _ w0, hi _ w1, hi _ w2, hs _ w3, hs _ w4])
  simpa [Value.cells] using this
end
end Go.Proofs.YtabcpbmnemfnbaaDoor
