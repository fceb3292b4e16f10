/-
  The walk of chapter 6's Parse, the program's, and of the statements' awake; a comparator that comes in, opened and shut. Conditions: the text's size; strconv's table reads as it is laid.
-/
import Derived.Test.YthaagngoefieaaaDoorCRead
import Derived.Test.YthaagngoefieaaaDoorCReg7
import Derived.Lib.SmallJoins
namespace Go.Proofs.YthaagngoefieaaaDoor
open Go.ChangeShapes Go.WideShapes Go.ChangeAt Go.RowKit
set_option linter.unusedVariables false
set_option linter.unusedSimpArgs false

theorem parse6_res (W : World) (tmps : Array Value) (b : Nat) {x0 x1 x2 x3 x4 x5 x6 : Value} (h2 : tmps[2]?.getD undef = .pointer (some ⟨b, 0, none⟩)) (h : Cells W b [x0, x1, x2, x3, x4, x5, x6]) :
    (results Tryd.f12 tmps).run Tryd.prog W = .ok (.tuple #[.agg #[x0, x1, x2, x3, x4, x5, x6], tmps[3]?.getD undef]) W := by
  obtain ⟨k0, k1, k2, k3, k4, k5, k6⟩ := cells7L h
  simp [results, Tryd.results12, h2, go_sem, k0, k1, k2, k3, k4, k5, k6]
def cvL (c : Cmp) : List Value := [.int .i64 c.op, .int .i64 c.parts, .int .i64 c.v.maj, .int .i64 c.v.min, .int .i64 c.v.pat, .string ⟨c.v.pre.toArray⟩, .string ⟨c.v.build.toArray⟩]
theorem caret_data (s : ByteArray) : ((⟨#[94]⟩ : ByteArray) ++ s).data.toList = 94 :: s.data.toList := by rw [app_list]; rfl

set_option maxRecDepth 8192 in
set_option maxHeartbeats 4000000 in
theorem parse6_any (s : ByteArray) (w : World) (hT : Tab w) (hs : s.size ≤ 300000) :
    Calls Tryd.prog 12 #[.string s] w fun e w' => e = .returned (parse6V (parseP s.data.toList)) ∧ Below w.heap.size w w' := by
  have HT := Lib.hid hT
  clear hT
  have c1 := fun W (h : Tab W) => read6_any s W h (by omega)
  have hsz : ((⟨#[94]⟩ : ByteArray) ++ s).size ≤ 300001 := by rw [ByteArray.size_append]; show 1 + s.size ≤ _; omega
  have c2 := fun W (h : Tab W) => read6_any ((⟨#[94]⟩ : ByteArray) ++ s) W h hsz
  rw [caret_data] at c2
  clear hsz
  cases h1 : readC s.data.toList with
  | some c =>
    have HF : Hid (parseP s.data.toList = some c) := by show parseP _ = _; unfold parseP; rw [h1]
    rw [h1] at c1
    clear h1 c2
    go_enter Tryd.func12, Tryd.ntmps12
    go_wp2_with fail
    have hL := loc_new (loc_start w) w.heap.size nil7 26
    refine (c1 _ (tab_below HT.out hL.1)).mono ?_
    rintro e w1 ⟨rfl, hb1⟩
    have hL := loc_new (loc_call hL hb1) w1.heap.size (cvL c) 26
    clear hb1
    obtain ⟨d0, d1, d2, d3, d4, d5, d6⟩ := cells7L (loc_own hL 0 rfl).1
    have f0 := (loc_own hL 0 rfl).2
    dsimp only [read6V, cvC, cvL] at *
    go_wp2_with fail
    have hL2 := loc_put hL 0 0 (cvL c) rfl (by simp [nil7, cvL])
    refine bodyPost_ret (parse6_res _ _ w.heap.size rfl (loc_own hL2 0 rfl).1) rfl ?_
    exact ⟨by rw [HF.out]; rfl, hL2.1⟩
  | none =>
    cases h2 : readC (94 :: s.data.toList) with
    | some c =>
      have HF : Hid (parseP s.data.toList = some c) := by show parseP _ = _; unfold parseP; rw [h1]; exact h2
      rw [h1] at c1
      rw [h2] at c2
      clear h1 h2
      go_enter Tryd.func12, Tryd.ntmps12
      go_wp2_with fail
      have hL := loc_new (loc_start w) w.heap.size nil7 26
      refine (c1 _ (tab_below HT.out hL.1)).mono ?_
      rintro e w1 ⟨rfl, hb1⟩
      have hL := loc_new (loc_call hL hb1) w1.heap.size nil7 26
      clear hb1
      dsimp only [read6V]
      go_wp2_with fail
      refine (c2 _ (tab_below HT.out hL.1)).mono ?_
      rintro e w2 ⟨rfl, hb2⟩
      have hL := loc_new (loc_call hL hb2) w2.heap.size (cvL c) 26
      clear hb2
      obtain ⟨d0, d1, d2, d3, d4, d5, d6⟩ := cells7L (loc_own hL 0 rfl).1
      have f0 := (loc_own hL 0 rfl).2
      dsimp only [read6V, cvC, cvL] at *
      go_wp2_with fail
      have hL2 := loc_put hL 0 0 (cvL c) rfl (by simp [nil7, cvL])
      refine bodyPost_ret (parse6_res _ _ w.heap.size rfl (loc_own hL2 0 rfl).1) rfl ?_
      exact ⟨by rw [HF.out]; rfl, hL2.1⟩
    | none =>
      have HF : Hid (parseP s.data.toList = none) := by show parseP _ = _; unfold parseP; rw [h1]; exact h2
      rw [h1] at c1
      rw [h2] at c2
      clear h1 h2
      go_enter Tryd.func12, Tryd.ntmps12
      go_wp2_with fail
      have hL := loc_new (loc_start w) w.heap.size nil7 26
      refine (c1 _ (tab_below HT.out hL.1)).mono ?_
      rintro e w1 ⟨rfl, hb1⟩
      have hL := loc_new (loc_call hL hb1) w1.heap.size nil7 26
      clear hb1
      dsimp only [read6V]
      go_wp2_with fail
      refine (c2 _ (tab_below HT.out hL.1)).mono ?_
      rintro e w2 ⟨rfl, hb2⟩
      have hL := loc_new (loc_call hL hb2) w2.heap.size nil7 26
      clear hb2
      obtain ⟨d0, d1, d2, d3, d4, d5, d6⟩ := cells7L (loc_own hL 0 rfl).1
      have f0 := (loc_own hL 0 rfl).2
      dsimp only [read6V]
      dsimp only [nil7] at d0 d1 d2 d3 d4 d5 d6 f0
      go_wp2_with fail
      have hL2 := loc_put hL 0 0 nil7 rfl (by simp [nil7])
      refine bodyPost_ret (parse6_res _ _ w.heap.size rfl (loc_own hL2 0 rfl).1) rfl ?_
      exact ⟨by rw [HF.out]; rfl, hL2.1⟩

theorem aw_p1 : parseP (⟨#[94, 49, 46, 50]⟩ : ByteArray).data.toList = some (cmpS 7 2 1 2 0 ⟨#[]⟩ ⟨#[]⟩) := by decide +kernel
theorem aw_p2 : parseP (⟨#[49, 46, 50]⟩ : ByteArray).data.toList = some (cmpS 7 2 1 2 0 ⟨#[]⟩ ⟨#[]⟩) := by decide +kernel
theorem aw_p3 : parseP (⟨#[94, 49, 46, 50, 46, 51, 46, 52]⟩ : ByteArray).data.toList = none := by decide +kernel
theorem aw_may : mayC (cmpS 7 2 1 2 0 ⟨#[]⟩ ⟨#[]⟩) = true := by decide +kernel
theorem aw_print : printC (cmpS 7 2 1 2 0 ⟨#[]⟩ ⟨#[]⟩) = [94, 49, 46, 50] := by decide +kernel
theorem aw_region : regionP (cmpS 7 2 1 2 0 ⟨#[]⟩ ⟨#[]⟩) = [⟨⟨0, relV 1 2 0, false⟩, ⟨0, relV 2 0 0, false⟩⟩] := by decide +kernel

def awC : List Value := [.int .i64 7, .int .i64 2, .int .i64 1, .int .i64 2, .int .i64 0, .string ⟨#[]⟩, .string ⟨#[]⟩]
set_option maxRecDepth 8192 in
set_option maxHeartbeats 4000000 in
theorem cawake_any (w : World) (hT : Tab w) :
    Calls Tryd.prog 11 #[] w fun e w' => e = .returned (.bool true) ∧ Below w.heap.size w w' := by
  have c1 : ∀ W : World, Tab W → Calls Tryd.prog 12 #[.string ⟨#[94, 49, 46, 50]⟩] W fun e w' => e = .returned (.tuple #[.agg #[.int .i64 7, .int .i64 2, .int .i64 1, .int .i64 2, .int .i64 0, .string ⟨#[]⟩, .string ⟨#[]⟩], .int .i64 0]) ∧ Below W.heap.size W w' := by
    intro W h
    have := parse6_any ⟨#[94, 49, 46, 50]⟩ W h (by decide)
    rw [aw_p1] at this
    exact this
  have c2 : ∀ W : World, Tab W → Calls Tryd.prog 12 #[.string ⟨#[49, 46, 50]⟩] W fun e w' => e = .returned (.tuple #[.agg #[.int .i64 7, .int .i64 2, .int .i64 1, .int .i64 2, .int .i64 0, .string ⟨#[]⟩, .string ⟨#[]⟩], .int .i64 0]) ∧ Below W.heap.size W w' := by
    intro W h
    have := parse6_any ⟨#[49, 46, 50]⟩ W h (by decide)
    rw [aw_p2] at this
    exact this
  have c3 : ∀ W : World, Tab W → Calls Tryd.prog 12 #[.string ⟨#[94, 49, 46, 50, 46, 51, 46, 52]⟩] W fun e w' => e = .returned (.tuple #[.agg #[.int .i64 0, .int .i64 0, .int .i64 0, .int .i64 0, .int .i64 0, .string ⟨#[]⟩, .string ⟨#[]⟩], .int .i64 6]) ∧ Below W.heap.size W w' := by
    intro W h
    have := parse6_any ⟨#[94, 49, 46, 50, 46, 51, 46, 52]⟩ W h (by decide)
    rw [aw_p3] at this
    exact this
  have c4 : ∀ W : World, Calls Tryd.prog 22 #[.agg #[.int .i64 7, .int .i64 2, .int .i64 1, .int .i64 2, .int .i64 0, .string ⟨#[]⟩, .string ⟨#[]⟩]] W (Row4 [⟨⟨0, relV 1 2 0, false⟩, ⟨0, relV 2 0 0, false⟩⟩] W) := by
    intro W
    have := region_7 7 2 1 2 0 ⟨#[]⟩ ⟨#[]⟩ W (by decide) (by decide) aw_may rfl
    rw [aw_region] at this
    exact this
  have c5 : ∀ W : World, Tab W → Calls Tryd.prog 14 #[.agg #[.int .i64 7, .int .i64 2, .int .i64 1, .int .i64 2, .int .i64 0, .string ⟨#[]⟩, .string ⟨#[]⟩]] W fun e w' => e = .returned (.string ⟨#[94, 49, 46, 50]⟩) ∧ Below W.heap.size W w' := by
    intro W h
    have := cprint_any 7 2 1 2 0 ⟨#[]⟩ ⟨#[]⟩ W h (by decide) (by decide)
    rw [aw_print] at this
    exact this
  have HT := Lib.hid hT
  clear hT
  go_enter Tryd.func11, Tryd.ntmps11
  go_wp2_with fail
  refine (c1 _ HT.out).mono ?_
  rintro e w1 ⟨rfl, hb⟩
  have hL := loc_new (loc_call (loc_start w) hb) w1.heap.size awC 26
  clear hb
  go_wp2_with fail
  generalize hW : World.alloc _ _ = W1
  have hL : Loc w W1 [(w1.heap.size, awC)] := by rw [← hW]; exact hL
  clear hW
  refine (c2 _ (tab_below HT.out hL.1)).mono ?_
  rintro e w2 ⟨rfl, hb⟩
  have hL := loc_new (loc_call hL hb) w2.heap.size awC 26
  clear hb
  go_wp2_with fail
  generalize hW : World.alloc _ _ = W2
  have hL : Loc w W2 [(w1.heap.size, awC), (w2.heap.size, awC)] := by rw [← hW]; exact hL
  clear hW
  refine (c3 _ (tab_below HT.out hL.1)).mono ?_
  rintro e w3 ⟨rfl, hb⟩
  have hL := loc_new (loc_call hL hb) w3.heap.size nil7 26
  clear hb
  obtain ⟨d0, d1, d2, d3, d4, d5, d6⟩ := cells7L (loc_own hL 0 rfl).1
  dsimp only [nil7] at d0 d1 d2 d3 d4 d5 d6
  go_wp2_with fail
  clear d0 d1 d2 d3 d4 d5 d6
  generalize hW : World.alloc _ _ = W3
  have hL : Loc w W3 [(w1.heap.size, awC), (w2.heap.size, awC), (w3.heap.size, nil7)] := by rw [← hW]; exact hL
  clear hW
  refine (c4 _).mono ?_
  rintro e w4 ⟨A, n, cap, rfl, hn, hcap, hrd, hb⟩
  obtain ⟨g, rfl, hg, hc⟩ := hrd (by simp)
  obtain rfl : n = 1 := hn
  have hc : Cells w4 g [.int .i64 0, .int .i64 1, .int .i64 2, .int .i64 0, .string ⟨#[]⟩, .string ⟨#[]⟩, .bool false, .int .i64 0, .int .i64 2, .int .i64 0, .int .i64 0, .string ⟨#[]⟩, .string ⟨#[]⟩, .bool false] := hc
  have hL := loc_call hL hb
  clear hb hrd
  obtain ⟨d0, d1, d2, d3, d4, d5, d6⟩ := cells7L (loc_own hL 0 rfl).1
  obtain ⟨e0, e1, e2, e3, e4, e5, e6⟩ := cells7L (loc_own hL 1 rfl).1
  go_wp2_with fail
  clear d0 d1 d2 d3 d4 d5 d6 e0 e1 e2 e3 e4 e5 e6
  refine (c5 _ (tab_below HT.out hL.1)).mono ?_
  rintro e w5 ⟨rfl, hb⟩
  have hc5 := cells_below hc hg hb
  have hL := loc_call hL hb
  clear hb hc
  obtain ⟨k0, k1, k2, k3, k4, k5, k6, k7, k8, k9, k10, k11, k12, k13⟩ := cells14L hc5
  go_wp2_with fail
  go_ret
  exact ⟨rfl, hL.1⟩
section
open Go.Joins Go.Deep

/-- The fields fit their types. -/
def VerWf (a b c : Int) (p q : ByteArray) : Prop := (Lit.int .i64 a).wf = true ∧ (Lit.int .i64 b).wf = true ∧ (Lit.int .i64 c).wf = true ∧ p.size ≤ maxLen ∧ q.size ≤ maxLen
def CmpWf (op ps a b c : Int) (p q : ByteArray) : Prop := (Lit.int .i64 op).wf = true ∧ (Lit.int .i64 ps).wf = true ∧ VerWf a b c p q
section
variable {H : Type} {enc : TypeId × Value → H} {w : World} {base : Nat} {spare : Nat → Bool} {held : Bool}
def verD (a b c : Int) (p q : ByteArray) : DataW H := .agg [.lit (.int .i64 a), .lit (.int .i64 b), .lit (.int .i64 c), .lit (.string p.data.toList), .lit (.string q.data.toList)]
set_option maxRecDepth 8192 in
theorem trod_ver {n : Nat} {cs : List Value} {y : DataW H × List MemPlace} (h : DataW.trod enc Tryd.prog w base spare held n 24 cs = some y) (hl : cs.length = 5) :
    ∃ (a b c : Int) (p q : ByteArray), cs = [.int .i64 a, .int .i64 b, .int .i64 c, .string p, .string q] ∧ y = (verD a b c p q, []) ∧ VerWf a b c p q := by
  match cs, hl with
  | [c0, c1, c2, c3, c4], _ =>
    obtain ⟨xs, n', _, hx, _, hlen, hg⟩ := DataW.trod_struct Tryd.underlying24 h
    have k1 : Tryd.prog.cellsOf 3 = 1 := by kernel_rfl
    have k2 : Tryd.prog.cellsOf 9 = 1 := by kernel_rfl
    match xs, hlen with
    | [y0, y1, y2, y3, y4], _ =>
      have h0 := hg 0 _ rfl
      have h1 := hg 1 _ rfl
      have h2 := hg 2 _ rfl
      have h3 := hg 3 _ rfl
      have h4 := hg 4 _ rfl
      simp [k1, k2] at h0 h1 h2 h3 h4
      obtain ⟨a, e0, rfl, w0⟩ := DataW.trod_int Tryd.underlying3 h0
      obtain ⟨b, e1, rfl, w1⟩ := DataW.trod_int Tryd.underlying3 h1
      obtain ⟨c, e2, rfl, w2⟩ := DataW.trod_int Tryd.underlying3 h2
      obtain ⟨p, e3, rfl, w3⟩ := DataW.trod_string Tryd.underlying9 h3
      obtain ⟨q, e4, rfl, w4⟩ := DataW.trod_string Tryd.underlying9 h4
      cases e0
      cases e1
      cases e2
      cases e3
      cases e4
      exact ⟨a, b, c, p, q, rfl, by simpa [verD] using hx, w0, w1, w2, w3, w4⟩
set_option maxRecDepth 8192 in
theorem open_comp {r : Reach} {b0 : Nat} {v : Value} {d : DataW H} {pl : List MemPlace} (hv : Value.okWide Tryd.prog w r b0 26 v) (h : DataW.Trod enc Tryd.prog w base spare held 26 v d pl) :
    ∃ (op ps a b c : Int) (p q : ByteArray), v = cvV op ps a b c p q ∧ d = .agg [.lit (.int .i64 op), .lit (.int .i64 ps), verD a b c p q] ∧ pl = [] ∧ CmpWf op ps a b c p q := by
  obtain ⟨cs, rfl, hsz⟩ := okWide_struct Tryd.underlying26 hv
  obtain ⟨l⟩ := cs
  match l, hsz.trans (show Tryd.prog.cellsOf 26 = 7 from by kernel_rfl) with
  | [c0, c1, c2, c3, c4, c5, c6], _ =>
    obtain ⟨fuel, hf⟩ := h
    obtain ⟨xs, n, _, hx, _, hlen, hg⟩ := DataW.trod_struct Tryd.underlying26 hf
    have k1 : Tryd.prog.cellsOf 3 = 1 := by kernel_rfl
    have k3 : Tryd.prog.cellsOf 24 = 5 := by kernel_rfl
    match xs, hlen with
    | [y0, y1, y2], _ =>
      have h0 := hg 0 _ rfl
      have h1 := hg 1 _ rfl
      have h2 := hg 2 _ rfl
      simp [k1, k3, Value.cells] at h0 h1 h2
      obtain ⟨op, e0, rfl, w0⟩ := DataW.trod_int Tryd.underlying3 h0
      obtain ⟨ps, e1, rfl, w1⟩ := DataW.trod_int Tryd.underlying3 h1
      obtain ⟨a, b, c, p, q, e2, rfl, w2⟩ := trod_ver h2 rfl
      cases e0
      cases e1
      cases e2
      simp at hx
      exact ⟨op, ps, a, b, c, p, q, rfl, hx.1, hx.2, w0, w1, w2⟩
theorem shut_ver_cells {a b c : Int} {p q : ByteArray} (h : VerWf a b c p q) :
    DataW.trod enc Tryd.prog w base spare held 2 24 [.int .i64 a, .int .i64 b, .int .i64 c, .string p, .string q] = some (verD a b c p q, []) := by
  obtain ⟨w0, w1, w2, w3, w4⟩ := h
  have hi : ∀ x : Int, (Lit.int .i64 x).wf = true → DataW.trod enc Tryd.prog w base spare held 1 3 [.int .i64 x] = some (.lit (.int .i64 x), []) := fun x hx => by simp [DataW.trod, Tryd.underlying3, hx]
  have hs : ∀ x : ByteArray, x.size ≤ maxLen → DataW.trod enc Tryd.prog w base spare held 1 9 [.string x] = some (.lit (.string x.data.toList), []) := fun x hx => by simp [DataW.trod, Tryd.underlying9, hx]
  have := trod_struct_mk (enc := enc) (P := Tryd.prog) (w := w) (base := base) (spare := spare) (held := held) (n := 1) (cs := [.int .i64 a, .int .i64 b, .int .i64 c, .string p, .string q])
    (xs := [(.lit (.int .i64 a), []), (.lit (.int .i64 b), []), (.lit (.int .i64 c), []), (.lit (.string p.data.toList), []), (.lit (.string q.data.toList), [])]) Tryd.underlying24 (by rw [show Tryd.prog.cellsOf 24 = 5 from by kernel_rfl]; rfl)
    (by
      have k1 : Tryd.prog.cellsOf 3 = 1 := by kernel_rfl
      have k2 : Tryd.prog.cellsOf 9 = 1 := by kernel_rfl
      simp [k1, k2, hi _ w0, hi _ w1, hi _ w2, hs _ w3, hs _ w4])
  simpa [verD] using this
set_option maxRecDepth 8192 in
theorem shut_comp {op ps a b c : Int} {p q : ByteArray} (h : CmpWf op ps a b c p q) :
    DataW.Trod enc Tryd.prog w base spare held 26 (cvV op ps a b c p q) (.agg [.lit (.int .i64 op), .lit (.int .i64 ps), verD a b c p q]) [] := by
  obtain ⟨w0, w1, w2⟩ := h
  have hi : ∀ x : Int, (Lit.int .i64 x).wf = true → DataW.trod enc Tryd.prog w base spare held 2 3 [.int .i64 x] = some (.lit (.int .i64 x), []) := fun x hx => by simp [DataW.trod, Tryd.underlying3, hx]
  have hv := shut_ver_cells (enc := enc) (w := w) (base := base) (spare := spare) (held := held) w2
  refine ⟨3, ?_⟩
  have := trod_struct_mk (enc := enc) (P := Tryd.prog) (w := w) (base := base) (spare := spare) (held := held) (n := 2) (cs := [.int .i64 op, .int .i64 ps, .int .i64 a, .int .i64 b, .int .i64 c, .string p, .string q])
    (xs := [(.lit (.int .i64 op), []), (.lit (.int .i64 ps), []), (verD a b c p q, [])]) Tryd.underlying26 (by rw [show Tryd.prog.cellsOf 26 = 7 from by kernel_rfl]; rfl)
    (by
      have k1 : Tryd.prog.cellsOf 3 = 1 := by kernel_rfl
      have k3 : Tryd.prog.cellsOf 24 = 5 := by kernel_rfl
      simp [k1, k3, hi _ w0, hi _ w1, hv])
  simpa [Value.cells, cvV] using this
end
end
/-- The text of a comparator that may be is not long. -/
theorem printC_len {c : Cmp} (hm : mayC c = true) (hp : c.v.pre.length ≤ 60) : (printC c).length ≤ 200 := by
  have hb := may_parts (may_c hm).2.1
  have hT : (toldL c).length ≤ 3 := by unfold toldL; rw [List.length_take]; exact Nat.le_trans (Nat.min_le_right _ _) (Nat.le_refl _)
  have hall : ∀ x ∈ toldL c, x.length ≤ 20 := by
    intro x hx
    have := List.mem_of_mem_take hx
    simp at this
    rcases this with rfl | rfl | rfl
    · exact itoa_len hb.1.1 hb.1.2
    · exact itoa_len hb.2.1.1 hb.2.1.2
    · exact itoa_len hb.2.2.1 hb.2.2.2
  have hseg : (segB 45 c.v.pre).length ≤ 61 := by unfold segB; split <;> simp; omega
  have hsg : (signL c.op).length ≤ 2 := by have := sign_size c.op; unfold signS at this; rwa [str_size] at this
  unfold printC
  rw [if_pos hm]
  split
  · unfold starC
    have := join_small 46 (toldL c ++ [[42]]) (by
      intro x hx
      rcases List.mem_append.1 hx with hx | hx
      · exact hall x hx
      · rw [List.mem_singleton] at hx; subst hx; simp)
    rw [List.length_append] at this
    simp at this
    omega
  · unfold bodyC
    have := join_small 46 (toldL c) hall
    rw [List.length_append, List.length_append]
    omega
end Go.Proofs.YthaagngoefieaaaDoor
