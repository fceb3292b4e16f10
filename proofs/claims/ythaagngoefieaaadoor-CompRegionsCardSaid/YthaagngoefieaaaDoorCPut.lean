/-
  Rows of cuts in memory; the walk of chapter 4's reference put. Conditions: the row is not empty; Pre and Build of each cut have at most 1048576 bytes.
-/
import Derived.Test.YthaagngoefieaaaDoorCNot
import Derived.Test.YthaagngoefieaaaDoorG5
namespace Go.Proofs.YthaagngoefieaaaDoor
open Go.ChangeShapes Go.WideShapes Go.ChangeAt Go.RowKit
set_option linter.unusedVariables false
set_option linter.unusedSimpArgs false

/-! The plain law. -/
theorem put_take {c : CutC} : ∀ (l : List CutC) (k : Nat), (∀ x ∈ l.take k, compCut x c < 0) → putC l c = l.take k ++ putC (l.drop k) c
  | l, 0, _ => rfl
  | [], k + 1, _ => rfl
  | x :: l, k + 1, h => by
    rw [List.take_succ_cons, List.drop_succ_cons, List.cons_append, putC, if_pos (h x (by simp))]
    rw [put_take l k fun y hy => h y (by rw [List.take_succ_cons]; exact List.mem_cons_of_mem _ hy)]
theorem lt_succ {l : List CutC} {c x : CutC} {k : Nat} (h : ∀ y ∈ l.take k, compCut y c < 0) (hs : l[k]? = some x) (hx : compCut x c < 0) : ∀ y ∈ l.take (k + 1), compCut y c < 0 := by
  obtain ⟨hlt, rfl⟩ := List.getElem?_eq_some_iff.1 hs
  intro y hy
  rw [List.take_succ_eq_append_getElem hlt, List.mem_append] at hy
  rcases hy with hy | hy
  · exact h y hy
  · simp at hy; subst hy; exact hx
theorem put_end {l : List CutC} {c : CutC} (h : ∀ y ∈ l.take l.length, compCut y c < 0) : putC l c = l.take l.length ++ c :: l.drop l.length := by
  rw [put_take l _ h, List.drop_length]; rfl
theorem put_same {l : List CutC} {c x : CutC} {k : Nat} (h : ∀ y ∈ l.take k, compCut y c < 0) (hs : l[k]? = some x) (hx : compCut x c = 0) : putC l c = l := by
  obtain ⟨hlt, rfl⟩ := List.getElem?_eq_some_iff.1 hs
  rw [put_take l k h, List.drop_eq_getElem_cons hlt, putC, if_neg (by omega), if_pos hx, ← List.drop_eq_getElem_cons hlt, List.take_append_drop]
theorem put_mid {l : List CutC} {c x : CutC} {k : Nat} (h : ∀ y ∈ l.take k, compCut y c < 0) (hs : l[k]? = some x) (h1 : ¬ compCut x c < 0) (h2 : ¬ compCut x c = 0) : putC l c = l.take k ++ c :: l.drop k := by
  obtain ⟨hlt, rfl⟩ := List.getElem?_eq_some_iff.1 hs
  rw [put_take l k h, List.drop_eq_getElem_cons hlt, putC, if_neg h1, if_neg h2]

/-! Rows of cuts. -/
/-- A slice value of cuts with address A reads as l; it lies below block B. -/
def RdC (w : World) (B : Nat) (A : Option Addr) (l : List CutC) : Prop :=
  0 < l.length → ∃ b, A = some ⟨b, 0, none⟩ ∧ b < B ∧ Cells w b (l.flatMap cutCells)
theorem rdc_below {w w' : World} {B : Nat} {A : Option Addr} {l : List CutC} (h : RdC w B A l) (hb : Below B w w') : RdC w' B A l := fun hn => by
  obtain ⟨b, e, hlt, hc⟩ := h hn
  exact ⟨b, e, hlt, cells_below hc hlt hb⟩
theorem rdc_more {w : World} {B B' : Nat} {A : Option Addr} {l : List CutC} (h : RdC w B A l) (hB : B ≤ B') : RdC w B' A l := fun hn => by
  obtain ⟨b, e, hlt, hc⟩ := h hn
  exact ⟨b, e, by omega, hc⟩
theorem cut_len (s : CutC) : (cutCells s).length = 7 := rfl
theorem flat_len : ∀ l : List CutC, (l.flatMap cutCells).length = l.length * 7
  | [] => rfl
  | s :: l => by rw [List.flatMap_cons, List.length_append, flat_len l, cut_len, List.length_cons]; omega
theorem flat_cut : ∀ (l : List CutC) (k m : Nat) (s : CutC), l[k]? = some s → m < 7 → (l.flatMap cutCells)[k * 7 + m]? = (cutCells s)[m]?
  | [], k, m, s, h, _ => by simp at h
  | x :: l, 0, m, s, h, hm => by
    simp at h
    subst h
    rw [List.flatMap_cons, Nat.zero_mul, Nat.zero_add, List.getElem?_append_left (by rw [cut_len]; exact hm)]
  | x :: l, k + 1, m, s, h, hm => by
    rw [List.flatMap_cons, List.getElem?_append_right (by rw [cut_len]; omega), cut_len, show (k + 1) * 7 + m - 7 = k * 7 + m from by omega]
    exact flat_cut l k m s (by simpa using h) hm
theorem rdc_at {w : World} {B : Nat} {A : Option Addr} {l : List CutC} {k : Nat} (h : RdC w B A l) (hok : ∀ s ∈ l, okC s) (hk : k < l.length) :
    ∃ (b : Nat) (e a x c : Int) (p q : ByteArray) (f : Bool), A = some ⟨b, 0, none⟩ ∧ b < B ∧ l[k]? = some (cutS e a x c p q f) ∧ (p.size ≤ 1048576 ∧ q.size ≤ 1048576) ∧ (w.cell? ⟨b, k * 7, none⟩ = some (.int .i64 e) ∧ w.cell? ⟨b, k * 7 + 1, none⟩ = some (.int .i64 a) ∧ w.cell? ⟨b, k * 7 + 2, none⟩ = some (.int .i64 x) ∧ w.cell? ⟨b, k * 7 + 3, none⟩ = some (.int .i64 c) ∧ w.cell? ⟨b, k * 7 + 4, none⟩ = some (.string p) ∧ w.cell? ⟨b, k * 7 + 5, none⟩ = some (.string q) ∧ w.cell? ⟨b, k * 7 + 6, none⟩ = some (.bool f)) := by
  obtain ⟨b, rfl, hb, hc⟩ := h (by omega)
  have hg : l[k]? = some l[k] := List.getElem?_eq_getElem hk
  have ho := hok _ (List.getElem_mem hk)
  generalize l[k] = F at *
  obtain ⟨e, a, x, c, p, q, f, hF, _, hFc, hp, hq⟩ := cut_of F
  refine ⟨b, e, a, x, c, p, q, f, rfl, hb, by rw [hg, hF], ⟨by rw [hp]; exact ho.1, by rw [hq]; exact ho.2⟩, ?_⟩
  have fs : ∀ m u, m < 7 → (cutCells F)[m]? = some u → w.cell? ⟨b, k * 7 + m, none⟩ = some u := fun m u hm hu => hc _ _ ((flat_cut l k m _ hg hm).trans hu)
  rw [hFc] at fs
  exact ⟨fs 0 _ (by omega) rfl, fs 1 _ (by omega) rfl, fs 2 _ (by omega) rfl, fs 3 _ (by omega) rfl, fs 4 _ (by omega) rfl, fs 5 _ (by omega) rfl, fs 6 _ (by omega) rfl⟩
theorem own_rdc {w : World} {base n : Nat} {e : TypeId} {v : Value} {l : List CutC} (h : w.ownsRow base e 7 v n (l.flatMap cutCells)) : ∃ A cap, v = .slice A n cap ∧ n ≤ cap ∧ l.length = n ∧ RdC w w.heap.size A l := by
  have hln : l.length = n := by have h1 := h.1; rw [flat_len] at h1; omega
  rcases h.2 with ⟨rfl, rfl⟩ | ⟨g, cap, cur, rfl, _, hh, hnc, _⟩
  · exact ⟨none, 0, rfl, Nat.le_refl _, hln, fun h0 => absurd h0 (by omega)⟩
  · refine ⟨_, cap, rfl, hnc, hln, fun _ => ⟨g, rfl, (Array.getElem?_eq_some_iff.1 hh).1, fun j u hu => ?_⟩⟩
    have hc := h.cells (g := g) rfl j u hu
    rw [add_plain, Nat.zero_add] at hc
    exact hc
theorem cut_one (s : CutC) : ∀ u ∈ cutCells s, u.oneCell' = true := by
  intro u hu
  simp [cutCells] at hu
  rcases hu with rfl | rfl | rfl | rfl | rfl | rfl | rfl <;> rfl
theorem cuts_one (l : List CutC) : ∀ u ∈ l.flatMap cutCells, u.oneCell' = true := by
  intro u hu
  obtain ⟨s, _, hs⟩ := List.mem_flatMap.1 hu
  exact cut_one s u hs
theorem flat_split (l : List CutC) (k : Nat) : l.flatMap cutCells = (l.take k).flatMap cutCells ++ (l.drop k).flatMap cutCells := by
  rw [← List.flatMap_append, List.take_append_drop]
/-- The first k cuts as a source of an append. -/
theorem rdc_pre {w : World} {b B : Nat} {l : List CutC} (h : Cells w b (l.flatMap cutCells)) (hb : b < B) {k : Nat} (hk : k ≤ l.length) : Reads w B 7 (some ⟨b, 0, none⟩) k ((l.take k).flatMap cutCells) := by
  refine ⟨by rw [flat_len, List.length_take, Nat.min_eq_left hk], fun _ => ⟨_, rfl, hb, fun j u hu => ?_⟩⟩
  rw [add_plain, Nat.zero_add]
  refine h j u ?_
  rw [flat_split l k, List.getElem?_append_left (List.getElem?_eq_some_iff.1 hu).1]
  exact hu
/-- The cuts from the place k on, likewise. -/
theorem rdc_suf {w : World} {b B : Nat} {l : List CutC} (h : Cells w b (l.flatMap cutCells)) (hb : b < B) {k m : Nat} (hk : k ≤ l.length) (hm : m = l.length - k) : Reads w B 7 (some ⟨b, k * 7, none⟩) m ((l.drop k).flatMap cutCells) := by
  refine ⟨by rw [flat_len, List.length_drop, hm], fun _ => ⟨_, rfl, hb, fun j u hu => ?_⟩⟩
  rw [add_plain]
  refine h _ u ?_
  have hp : ((l.take k).flatMap cutCells).length = k * 7 := by rw [flat_len, List.length_take, Nat.min_eq_left hk]
  rw [flat_split l k, List.getElem?_append_right (by omega), hp, Nat.add_sub_cancel_left]
  exact hu
theorem rdc_new (w : World) (c : CutC) (t : TypeId) : Reads (w.alloc (.cells (cutCells c).toArray t)) (w.heap.size + 1) 7 (some ⟨w.heap.size, 0, none⟩) 1 (cutCells c) := by
  refine ⟨by rw [cut_len], fun _ => ⟨_, rfl, by show w.heap.size < _; omega, fun j u hu => ?_⟩⟩
  rw [add_plain, Nat.zero_add]
  exact cells_new w _ t j u hu
theorem grown_below {B : Nat} {w w' : World} {row : Option Nat} (hg : w.grownBy w' row) (hB : B ≤ w.heap.size) (hr : ∀ g, row = some g → B ≤ g) : Below B w w' := (Below.refl B w).grown hg hB hr
/-- What put and cuts hand back: a slice that reads as a row of cuts. -/
def RowC (l : List CutC) (w : World) (r : Ending) (w' : World) : Prop :=
  ∃ A n cap, r = .returned (.slice A n cap) ∧ n = l.length ∧ n ≤ cap ∧ RdC w' w'.heap.size A l ∧ Below w.heap.size w w'
theorem row_slice {A : Option Addr} {n cap : Nat} {v : Value} (h : v = .slice A n cap) : Ending.returned v = .returned (.slice A n cap) := by rw [h]
theorem grown_of_drew {w w' : World} {row : Option Nat} (h : w.drew.grownBy w' row) : w.grownBy w' row := by cases h; constructor <;> assumption
theorem loc_upto {w W W' : World} {L : List (Nat × List Value)} {B : Nat} (h : Loc w W L) (hb : Below B W W') (hB : w.heap.size ≤ B) (hL : ∀ x ∈ L, x.1 < B) : Loc w W' L :=
  ⟨h.1.trans (hb.mono hB), h.2.1, fun x hx => ⟨(h.2.2 x hx).1, Nat.lt_of_lt_of_le (h.2.2 x hx).2.1 hb.size, own_below (h.2.2 x hx).2.2 (hL x hx) hb⟩⟩
theorem cutS_cells (e a b c : Int) (p q : ByteArray) (f : Bool) : cutCells (cutS e a b c p q f) = [.int .i64 e, .int .i64 a, .int .i64 b, .int .i64 c, .string p, .string q, .bool f] := rfl
def PutAt (w W : World) (l : List CutC) (c : CutC) (L : List (Nat × List Value)) (k : Nat) : Prop := (∀ y ∈ l.take k, compCut y c < 0) ∧ Loc w W L

set_option maxRecDepth 8192 in
set_option maxHeartbeats 8000000 in
theorem rput_any (A : Option Addr) (n cap B : Nat) (l : List CutC) (ge ga gb gc : Int) (gp gq : ByteArray) (gf : Bool) (w : World) (h : RdC w B A l) (hl : l.length = n) (hok : ∀ s ∈ l, okC s) (hB : B ≤ w.heap.size) (hn0 : 0 < n) (hn : n ≤ 1048576) (hcap : n ≤ cap)
    (hgp : gp.size ≤ 1048576) (hgq : gq.size ≤ 1048576) :
    Calls Tryd.prog 88 #[.slice A n cap, cutW ge ga gb gc gp gq gf] w (RowC (putC l (cutS ge ga gb gc gp gq gf)) w) := by
  obtain ⟨j0, hj0, hy0, hy1, hy2⟩ := info_parts info_cut
  have HI := Lib.hid hj0
  have HY := Lib.hid (And.intro hy0 (And.intro hy1 hy2))
  clear hj0 hy0 hy1 hy2
  have H := Lib.hid h
  have HL := Lib.hid hl
  obtain ⟨b, rfl, hbB, hcs⟩ := h (by omega)
  have HC := Lib.hid hcs
  clear hcs
  clear h hl
  unfold cutW
  go_enter Tryd.func88, Tryd.ntmps88
  go_wp2
  go_loopw [5] (fun i wr => ∃ k : Nat, k ≤ n ∧ i = .int .i64 k ∧ PutAt w wr l (cutS ge ga gb gc gp gq gf) [(w.heap.size, [.int .i64 ge, .int .i64 ga, .int .i64 gb, .int .i64 gc, .string gp, .string gq, .bool gf])] k) (fun i _ => n - (intOf i).toNat)
  case atStart => exact ⟨0, by omega, rfl, fun y hy => by simp at hy, loc_new (loc_start w) w.heap.size [.int .i64 ge, .int .i64 ga, .int .i64 gb, .int .i64 gc, .string gp, .string gq, .bool gf] _⟩
  case round =>
    obtain ⟨k, hk, rfl, hst⟩ := hrel
    have HS := Lib.hid hst.1
    have hL := hst.2
    clear hst
    have hge := hL.1.size
    have hLd := loc_drew hL
    obtain ⟨u0, u1, u2, u3, u4, u5, u6⟩ := cells7L (loc_own hL 0 rfl).1
    have hkc : (k : Int) ≤ (cap : Int) := by omega
    have hkn : (k : Int) ≤ (n : Int) := by omega
    have hnc : (n : Int) ≤ (cap : Int) := by omega
    by_cases hlt : k < n
    · have hrd := rdc_below H.out (hL.1.mono hB)
      obtain ⟨b1, e, a, x, c, p, q, f, hb1, _, hs, ⟨hp, hq⟩, k0, k1, k2, k3, k4, k5, k6⟩ := rdc_at hrd hok (k := k) (by rw [HL.out]; exact hlt)
      obtain rfl : b = b1 := by injection hb1 with h1; injection h1
      clear hb1 hrd
      have hbW : b < wr.drew.heap.size := by show b < wr.heap.size; omega
      have m1 := fun W => rcutcomp_any e a x c p q f ge ga gb gc gp gq gf W hp hq hgp hgq
      unfold cutW at m1
      have i1 : (k : Int) < (n : Int) := by omega
      have HP := Lib.hid (And.intro (fun h1 => lt_succ (x := cutS e a x c p q f) HS.out hs h1) (And.intro (fun h1 => put_same (x := cutS e a x c p q f) HS.out hs h1) (fun h1 h2 => put_mid (x := cutS e a x c p q f) HS.out hs h1 h2)))
      generalize compCut (cutS e a x c p q f) (cutS ge ga gb gc gp gq gf) = d at *
      clear hs
      by_cases h1 : d < 0
      · have HN := Lib.hid (HP.out.1 h1)
        clear HP
        go_wp2_with fail
        refine wp_region_held_drew (S := fun W => (W.cell? ⟨b, k * 7, none⟩ = some (.int .i64 e) ∧ W.cell? ⟨b, k * 7 + 1, none⟩ = some (.int .i64 a) ∧ W.cell? ⟨b, k * 7 + 2, none⟩ = some (.int .i64 x) ∧ W.cell? ⟨b, k * 7 + 3, none⟩ = some (.int .i64 c) ∧ W.cell? ⟨b, k * 7 + 4, none⟩ = some (.string p) ∧ W.cell? ⟨b, k * 7 + 5, none⟩ = some (.string q) ∧ W.cell? ⟨b, k * 7 + 6, none⟩ = some (.bool f)) ∧ (W.cell? ⟨w.heap.size, 0, none⟩ = some (.int .i64 ge) ∧ W.cell? ⟨w.heap.size, 1, none⟩ = some (.int .i64 ga) ∧ W.cell? ⟨w.heap.size, 2, none⟩ = some (.int .i64 gb) ∧ W.cell? ⟨w.heap.size, 3, none⟩ = some (.int .i64 gc) ∧ W.cell? ⟨w.heap.size, 4, none⟩ = some (.string gp) ∧ W.cell? ⟨w.heap.size, 5, none⟩ = some (.string gq) ∧ W.cell? ⟨w.heap.size, 6, none⟩ = some (.bool gf)) ∧ Loc w W [(w.heap.size, [.int .i64 ge, .int .i64 ga, .int .i64 gb, .int .i64 gc, .string gp, .string gq, .bool gf])]) (by kernel_rfl) ⟨⟨k0, k1, k2, k3, k4, k5, k6⟩, ⟨u0, u1, u2, u3, u4, u5, u6⟩, hLd⟩ (fun hHeld => ?_)
        refine takeD (i := 0) (d := some 6) (v := ?_) rfl rfl (by kernel_rfl) (by kernel_rfl) (by kernel_rfl) (fun _ _ _ h => h) (Or.inl ⟨by rfl, ?_⟩) (by assumption) ?_
        rotate_left
        · intro wS hSw; (try dsimp only at hSw); go_simp; (try with_reducible rfl)
        try simp only [Act.put, List.setIfInBounds_toArray, List.set_cons_zero, List.set_cons_succ]
        refine takeD (i := 1) (d := some 7) (v := ?_) rfl rfl (by kernel_rfl) (by kernel_rfl) (by kernel_rfl) (fun _ _ _ h => h) (Or.inl ⟨by rfl, ?_⟩) (by assumption) ?_
        rotate_left
        · intro wS hSw; (try dsimp only at hSw); go_simp; (try with_reducible rfl)
        try simp only [Act.put, List.setIfInBounds_toArray, List.set_cons_zero, List.set_cons_succ]
        refine takeD (i := 2) (d := some 8) (v := ?_) rfl rfl (by kernel_rfl) (by kernel_rfl) (by kernel_rfl) (fun _ _ _ h => h) (Or.inl ⟨by rfl, ?_⟩) (by assumption) ?_
        rotate_left
        · intro wS hSw; (try dsimp only at hSw); go_simp; (try with_reducible rfl)
        try simp only [Act.put, List.setIfInBounds_toArray, List.set_cons_zero, List.set_cons_succ]
        refine takeD (i := 3) (d := some 9) (v := .bool true) rfl rfl (by kernel_rfl) (by kernel_rfl) (by kernel_rfl) (fun _ _ _ h => h) (Or.inl ⟨by rfl, ?_⟩) (by assumption) ?_
        · intro wS hSw; (try dsimp only at hSw); go_simp; (try simp [i1]); (try with_reducible rfl)
        try simp only [Act.put, List.setIfInBounds_toArray, List.set_cons_zero, List.set_cons_succ]
        refine takeD (i := 4) (d := some 10) (v := ?_) rfl rfl (by kernel_rfl) (by kernel_rfl) (by kernel_rfl) (fun _ _ _ h => h) (Or.inl ⟨by rfl, ?_⟩) (by assumption) ?_
        rotate_left
        · intro wS hSw; (try dsimp only at hSw); go_simp; (try with_reducible rfl)
        try simp only [Act.put, List.setIfInBounds_toArray, List.set_cons_zero, List.set_cons_succ]
        refine takeD (i := 5) (d := some 11) (v := ?_) rfl rfl (by kernel_rfl) (by kernel_rfl) (by kernel_rfl) (fun _ _ _ h => h) (Or.inl ⟨by rfl, ?_⟩) (by assumption) ?_
        rotate_left
        · intro wS hSw; (try dsimp only at hSw); go_simp; (try with_reducible rfl)
        try simp only [Act.put, List.setIfInBounds_toArray, List.set_cons_zero, List.set_cons_succ]
        refine takeD (i := 6) (d := some 12) (v := ?_) rfl rfl (by kernel_rfl) (by kernel_rfl) (by kernel_rfl) (fun _ _ _ h => h) (Or.inl ⟨by rfl, ?_⟩) (by assumption) ?_
        rotate_left
        · intro wS hSw; (try dsimp only at hSw); go_simp; (try with_reducible rfl)
        try simp only [Act.put, List.setIfInBounds_toArray, List.set_cons_zero, List.set_cons_succ]
        refine takeD (i := 7) (d := some 13) (v := ?_) rfl rfl (by kernel_rfl) (by kernel_rfl) (by kernel_rfl) (fun _ _ _ h => h) (Or.inl ⟨by rfl, ?_⟩) (by assumption) ?_
        rotate_left
        · intro wS hSw; (try dsimp only at hSw); go_simp; (try with_reducible rfl)
        try simp only [Act.put, List.setIfInBounds_toArray, List.set_cons_zero, List.set_cons_succ]
        refine takeD (i := 8) (d := some 14) (v := ?_) rfl rfl (by kernel_rfl) (by kernel_rfl) (by kernel_rfl) (fun _ _ _ h => h) (Or.inl ⟨by rfl, ?_⟩) (by assumption) ?_
        rotate_left
        · intro wS hSw; (try dsimp only at hSw); go_simp; (try with_reducible rfl)
        try simp only [Act.put, List.setIfInBounds_toArray, List.set_cons_zero, List.set_cons_succ]
        refine takeD (i := 9) (d := some 15) (v := ?_) rfl rfl (by kernel_rfl) (by kernel_rfl) (by kernel_rfl) (fun _ _ _ h => h) (Or.inl ⟨by rfl, ?_⟩) (by assumption) ?_
        rotate_left
        · intro wS hSw; (try dsimp only at hSw); go_simp; (try with_reducible rfl)
        try simp only [Act.put, List.setIfInBounds_toArray, List.set_cons_zero, List.set_cons_succ]
        refine wpAnyH_ready (rs := [10]) (by kernel_rfl) (by simp) ?_
        refine consD (d := some 16) rfl rfl (fun K hK => ?_) AllReadyH.nil
        go_simp
        (go_at_call 62; (with_reducible refine (m1 _).mono ?_); rintro r w4 ⟨rfl, hb4⟩)
        have hM := loc_call hHeld.2.2 hb4
        have hbw4 : b < w4.heap.size := Nat.lt_of_lt_of_le (Nat.lt_of_lt_of_le hbB hB) hM.1.size
        refine hK.out _ _ ⟨keep7 hb4 hbW hHeld.1, cells7L (loc_own hM 0 rfl).1, hM⟩ (fun hHeld => ?_)
        clear hK K
        try simp only [Act.put, List.setIfInBounds_toArray, List.set_cons_zero, List.set_cons_succ]
        refine takeD (i := 11) (d := some 17) (v := ?_) rfl rfl (by kernel_rfl) (by kernel_rfl) (by kernel_rfl) (fun _ _ _ h => h) (Or.inl ⟨by rfl, ?_⟩) (by assumption) ?_
        rotate_left
        · intro wS hSw; (try dsimp only at hSw); go_simp; (try with_reducible rfl)
        try simp only [Act.put, List.setIfInBounds_toArray, List.set_cons_zero, List.set_cons_succ]
        refine takeD (i := 12) (d := some 18) (v := ?_) rfl rfl (by kernel_rfl) (by kernel_rfl) (by kernel_rfl) (fun _ _ _ h => h) (Or.inl ⟨by rfl, ?_⟩) (by assumption) ?_
        rotate_left
        · intro wS hSw; (try dsimp only at hSw); go_simp; (try with_reducible rfl)
        try simp only [Act.put, List.setIfInBounds_toArray, List.set_cons_zero, List.set_cons_succ]
        refine wpAnyH_done (by kernel_rfl) ?_ _
        go_wp2_with fail
        go_roundw
        case rel => exact ⟨k + 1, by omega, by go_num, HN.out, hM⟩
        case measure => simp [intOf]; omega
      · by_cases h2 : d = 0
        · have HE := Lib.hid (HP.out.2.1 h2)
          have g0 : (d == 0) = true := by simpa using h2
          clear HP h2
          go_wp2_with fail
          refine wp_region_held_drew (S := fun W => (W.cell? ⟨b, k * 7, none⟩ = some (.int .i64 e) ∧ W.cell? ⟨b, k * 7 + 1, none⟩ = some (.int .i64 a) ∧ W.cell? ⟨b, k * 7 + 2, none⟩ = some (.int .i64 x) ∧ W.cell? ⟨b, k * 7 + 3, none⟩ = some (.int .i64 c) ∧ W.cell? ⟨b, k * 7 + 4, none⟩ = some (.string p) ∧ W.cell? ⟨b, k * 7 + 5, none⟩ = some (.string q) ∧ W.cell? ⟨b, k * 7 + 6, none⟩ = some (.bool f)) ∧ (W.cell? ⟨w.heap.size, 0, none⟩ = some (.int .i64 ge) ∧ W.cell? ⟨w.heap.size, 1, none⟩ = some (.int .i64 ga) ∧ W.cell? ⟨w.heap.size, 2, none⟩ = some (.int .i64 gb) ∧ W.cell? ⟨w.heap.size, 3, none⟩ = some (.int .i64 gc) ∧ W.cell? ⟨w.heap.size, 4, none⟩ = some (.string gp) ∧ W.cell? ⟨w.heap.size, 5, none⟩ = some (.string gq) ∧ W.cell? ⟨w.heap.size, 6, none⟩ = some (.bool gf)) ∧ Loc w W [(w.heap.size, [.int .i64 ge, .int .i64 ga, .int .i64 gb, .int .i64 gc, .string gp, .string gq, .bool gf])]) (by kernel_rfl) ⟨⟨k0, k1, k2, k3, k4, k5, k6⟩, ⟨u0, u1, u2, u3, u4, u5, u6⟩, hLd⟩ (fun hHeld => ?_)
          refine takeD (i := 0) (d := some 6) (v := ?_) rfl rfl (by kernel_rfl) (by kernel_rfl) (by kernel_rfl) (fun _ _ _ h => h) (Or.inl ⟨by rfl, ?_⟩) (by assumption) ?_
          rotate_left
          · intro wS hSw; (try dsimp only at hSw); go_simp; (try with_reducible rfl)
          try simp only [Act.put, List.setIfInBounds_toArray, List.set_cons_zero, List.set_cons_succ]
          refine takeD (i := 1) (d := some 7) (v := ?_) rfl rfl (by kernel_rfl) (by kernel_rfl) (by kernel_rfl) (fun _ _ _ h => h) (Or.inl ⟨by rfl, ?_⟩) (by assumption) ?_
          rotate_left
          · intro wS hSw; (try dsimp only at hSw); go_simp; (try with_reducible rfl)
          try simp only [Act.put, List.setIfInBounds_toArray, List.set_cons_zero, List.set_cons_succ]
          refine takeD (i := 2) (d := some 8) (v := ?_) rfl rfl (by kernel_rfl) (by kernel_rfl) (by kernel_rfl) (fun _ _ _ h => h) (Or.inl ⟨by rfl, ?_⟩) (by assumption) ?_
          rotate_left
          · intro wS hSw; (try dsimp only at hSw); go_simp; (try with_reducible rfl)
          try simp only [Act.put, List.setIfInBounds_toArray, List.set_cons_zero, List.set_cons_succ]
          refine takeD (i := 3) (d := some 9) (v := .bool true) rfl rfl (by kernel_rfl) (by kernel_rfl) (by kernel_rfl) (fun _ _ _ h => h) (Or.inl ⟨by rfl, ?_⟩) (by assumption) ?_
          · intro wS hSw; (try dsimp only at hSw); go_simp; (try simp [i1]); (try with_reducible rfl)
          try simp only [Act.put, List.setIfInBounds_toArray, List.set_cons_zero, List.set_cons_succ]
          refine takeD (i := 4) (d := some 10) (v := ?_) rfl rfl (by kernel_rfl) (by kernel_rfl) (by kernel_rfl) (fun _ _ _ h => h) (Or.inl ⟨by rfl, ?_⟩) (by assumption) ?_
          rotate_left
          · intro wS hSw; (try dsimp only at hSw); go_simp; (try with_reducible rfl)
          try simp only [Act.put, List.setIfInBounds_toArray, List.set_cons_zero, List.set_cons_succ]
          refine takeD (i := 5) (d := some 11) (v := ?_) rfl rfl (by kernel_rfl) (by kernel_rfl) (by kernel_rfl) (fun _ _ _ h => h) (Or.inl ⟨by rfl, ?_⟩) (by assumption) ?_
          rotate_left
          · intro wS hSw; (try dsimp only at hSw); go_simp; (try with_reducible rfl)
          try simp only [Act.put, List.setIfInBounds_toArray, List.set_cons_zero, List.set_cons_succ]
          refine takeD (i := 6) (d := some 12) (v := ?_) rfl rfl (by kernel_rfl) (by kernel_rfl) (by kernel_rfl) (fun _ _ _ h => h) (Or.inl ⟨by rfl, ?_⟩) (by assumption) ?_
          rotate_left
          · intro wS hSw; (try dsimp only at hSw); go_simp; (try with_reducible rfl)
          try simp only [Act.put, List.setIfInBounds_toArray, List.set_cons_zero, List.set_cons_succ]
          refine takeD (i := 7) (d := some 13) (v := ?_) rfl rfl (by kernel_rfl) (by kernel_rfl) (by kernel_rfl) (fun _ _ _ h => h) (Or.inl ⟨by rfl, ?_⟩) (by assumption) ?_
          rotate_left
          · intro wS hSw; (try dsimp only at hSw); go_simp; (try with_reducible rfl)
          try simp only [Act.put, List.setIfInBounds_toArray, List.set_cons_zero, List.set_cons_succ]
          refine takeD (i := 8) (d := some 14) (v := ?_) rfl rfl (by kernel_rfl) (by kernel_rfl) (by kernel_rfl) (fun _ _ _ h => h) (Or.inl ⟨by rfl, ?_⟩) (by assumption) ?_
          rotate_left
          · intro wS hSw; (try dsimp only at hSw); go_simp; (try with_reducible rfl)
          try simp only [Act.put, List.setIfInBounds_toArray, List.set_cons_zero, List.set_cons_succ]
          refine takeD (i := 9) (d := some 15) (v := ?_) rfl rfl (by kernel_rfl) (by kernel_rfl) (by kernel_rfl) (fun _ _ _ h => h) (Or.inl ⟨by rfl, ?_⟩) (by assumption) ?_
          rotate_left
          · intro wS hSw; (try dsimp only at hSw); go_simp; (try with_reducible rfl)
          try simp only [Act.put, List.setIfInBounds_toArray, List.set_cons_zero, List.set_cons_succ]
          refine wpAnyH_ready (rs := [10]) (by kernel_rfl) (by simp) ?_
          refine consD (d := some 16) rfl rfl (fun K hK => ?_) AllReadyH.nil
          go_simp
          (go_at_call 62; (with_reducible refine (m1 _).mono ?_); rintro r w4 ⟨rfl, hb4⟩)
          have hM := loc_call hHeld.2.2 hb4
          have hbw4 : b < w4.heap.size := Nat.lt_of_lt_of_le (Nat.lt_of_lt_of_le hbB hB) hM.1.size
          refine hK.out _ _ ⟨keep7 hb4 hbW hHeld.1, cells7L (loc_own hM 0 rfl).1, hM⟩ (fun hHeld => ?_)
          clear hK K
          try simp only [Act.put, List.setIfInBounds_toArray, List.set_cons_zero, List.set_cons_succ]
          refine takeD (i := 11) (d := some 17) (v := ?_) rfl rfl (by kernel_rfl) (by kernel_rfl) (by kernel_rfl) (fun _ _ _ h => h) (Or.inl ⟨by rfl, ?_⟩) (by assumption) ?_
          rotate_left
          · intro wS hSw; (try dsimp only at hSw); go_simp; (try with_reducible rfl)
          try simp only [Act.put, List.setIfInBounds_toArray, List.set_cons_zero, List.set_cons_succ]
          refine takeD (i := 12) (d := some 18) (v := ?_) rfl rfl (by kernel_rfl) (by kernel_rfl) (by kernel_rfl) (fun _ _ _ h => h) (Or.inl ⟨by rfl, ?_⟩) (by assumption) ?_
          rotate_left
          · intro wS hSw; (try dsimp only at hSw); go_simp; (try with_reducible rfl)
          try simp only [Act.put, List.setIfInBounds_toArray, List.set_cons_zero, List.set_cons_succ]
          refine wpAnyH_done (by kernel_rfl) ?_ _
          have hL2 := hM
          have hbW : b < w4.drew.heap.size := hbw4
          have hLd2 := loc_drew hL2
          obtain ⟨u0, u1, u2, u3, u4, u5, u6⟩ := cells7L (loc_own hL2 0 rfl).1
          obtain ⟨k0, k1, k2, k3, k4, k5, k6⟩ := hHeld.1
          go_wp2_with fail
          refine wp_region_held_drew (S := fun W => (W.cell? ⟨b, k * 7, none⟩ = some (.int .i64 e) ∧ W.cell? ⟨b, k * 7 + 1, none⟩ = some (.int .i64 a) ∧ W.cell? ⟨b, k * 7 + 2, none⟩ = some (.int .i64 x) ∧ W.cell? ⟨b, k * 7 + 3, none⟩ = some (.int .i64 c) ∧ W.cell? ⟨b, k * 7 + 4, none⟩ = some (.string p) ∧ W.cell? ⟨b, k * 7 + 5, none⟩ = some (.string q) ∧ W.cell? ⟨b, k * 7 + 6, none⟩ = some (.bool f)) ∧ (W.cell? ⟨w.heap.size, 0, none⟩ = some (.int .i64 ge) ∧ W.cell? ⟨w.heap.size, 1, none⟩ = some (.int .i64 ga) ∧ W.cell? ⟨w.heap.size, 2, none⟩ = some (.int .i64 gb) ∧ W.cell? ⟨w.heap.size, 3, none⟩ = some (.int .i64 gc) ∧ W.cell? ⟨w.heap.size, 4, none⟩ = some (.string gp) ∧ W.cell? ⟨w.heap.size, 5, none⟩ = some (.string gq) ∧ W.cell? ⟨w.heap.size, 6, none⟩ = some (.bool gf)) ∧ Loc w W [(w.heap.size, [.int .i64 ge, .int .i64 ga, .int .i64 gb, .int .i64 gc, .string gp, .string gq, .bool gf])]) (by kernel_rfl) ⟨⟨k0, k1, k2, k3, k4, k5, k6⟩, ⟨u0, u1, u2, u3, u4, u5, u6⟩, hLd2⟩ (fun hHeld => ?_)
          refine takeD (i := 0) (d := some 21) (v := ?_) rfl rfl (by kernel_rfl) (by kernel_rfl) (by kernel_rfl) (fun _ _ _ h => h) (Or.inl ⟨by rfl, ?_⟩) (by assumption) ?_
          rotate_left
          · intro wS hSw; (try dsimp only at hSw); go_simp; (try with_reducible rfl)
          try simp only [Act.put, List.setIfInBounds_toArray, List.set_cons_zero, List.set_cons_succ]
          refine takeD (i := 1) (d := some 22) (v := ?_) rfl rfl (by kernel_rfl) (by kernel_rfl) (by kernel_rfl) (fun _ _ _ h => h) (Or.inl ⟨by rfl, ?_⟩) (by assumption) ?_
          rotate_left
          · intro wS hSw; (try dsimp only at hSw); go_simp; (try with_reducible rfl)
          try simp only [Act.put, List.setIfInBounds_toArray, List.set_cons_zero, List.set_cons_succ]
          refine takeD (i := 2) (d := some 23) (v := ?_) rfl rfl (by kernel_rfl) (by kernel_rfl) (by kernel_rfl) (fun _ _ _ h => h) (Or.inl ⟨by rfl, ?_⟩) (by assumption) ?_
          rotate_left
          · intro wS hSw; (try dsimp only at hSw); go_simp; (try with_reducible rfl)
          try simp only [Act.put, List.setIfInBounds_toArray, List.set_cons_zero, List.set_cons_succ]
          refine takeD (i := 3) (d := some 24) (v := .bool true) rfl rfl (by kernel_rfl) (by kernel_rfl) (by kernel_rfl) (fun _ _ _ h => h) (Or.inl ⟨by rfl, ?_⟩) (by assumption) ?_
          · intro wS hSw; (try dsimp only at hSw); go_simp; (try simp [i1]); (try with_reducible rfl)
          try simp only [Act.put, List.setIfInBounds_toArray, List.set_cons_zero, List.set_cons_succ]
          refine takeD (i := 4) (d := some 25) (v := ?_) rfl rfl (by kernel_rfl) (by kernel_rfl) (by kernel_rfl) (fun _ _ _ h => h) (Or.inl ⟨by rfl, ?_⟩) (by assumption) ?_
          rotate_left
          · intro wS hSw; (try dsimp only at hSw); go_simp; (try with_reducible rfl)
          try simp only [Act.put, List.setIfInBounds_toArray, List.set_cons_zero, List.set_cons_succ]
          refine takeD (i := 5) (d := some 26) (v := ?_) rfl rfl (by kernel_rfl) (by kernel_rfl) (by kernel_rfl) (fun _ _ _ h => h) (Or.inl ⟨by rfl, ?_⟩) (by assumption) ?_
          rotate_left
          · intro wS hSw; (try dsimp only at hSw); go_simp; (try with_reducible rfl)
          try simp only [Act.put, List.setIfInBounds_toArray, List.set_cons_zero, List.set_cons_succ]
          refine takeD (i := 6) (d := some 27) (v := ?_) rfl rfl (by kernel_rfl) (by kernel_rfl) (by kernel_rfl) (fun _ _ _ h => h) (Or.inl ⟨by rfl, ?_⟩) (by assumption) ?_
          rotate_left
          · intro wS hSw; (try dsimp only at hSw); go_simp; (try with_reducible rfl)
          try simp only [Act.put, List.setIfInBounds_toArray, List.set_cons_zero, List.set_cons_succ]
          refine takeD (i := 7) (d := some 28) (v := ?_) rfl rfl (by kernel_rfl) (by kernel_rfl) (by kernel_rfl) (fun _ _ _ h => h) (Or.inl ⟨by rfl, ?_⟩) (by assumption) ?_
          rotate_left
          · intro wS hSw; (try dsimp only at hSw); go_simp; (try with_reducible rfl)
          try simp only [Act.put, List.setIfInBounds_toArray, List.set_cons_zero, List.set_cons_succ]
          refine takeD (i := 8) (d := some 29) (v := ?_) rfl rfl (by kernel_rfl) (by kernel_rfl) (by kernel_rfl) (fun _ _ _ h => h) (Or.inl ⟨by rfl, ?_⟩) (by assumption) ?_
          rotate_left
          · intro wS hSw; (try dsimp only at hSw); go_simp; (try with_reducible rfl)
          try simp only [Act.put, List.setIfInBounds_toArray, List.set_cons_zero, List.set_cons_succ]
          refine takeD (i := 9) (d := some 30) (v := ?_) rfl rfl (by kernel_rfl) (by kernel_rfl) (by kernel_rfl) (fun _ _ _ h => h) (Or.inl ⟨by rfl, ?_⟩) (by assumption) ?_
          rotate_left
          · intro wS hSw; (try dsimp only at hSw); go_simp; (try with_reducible rfl)
          try simp only [Act.put, List.setIfInBounds_toArray, List.set_cons_zero, List.set_cons_succ]
          refine wpAnyH_ready (rs := [10]) (by kernel_rfl) (by simp) ?_
          refine consD (d := some 31) rfl rfl (fun K hK => ?_) AllReadyH.nil
          go_simp
          (go_at_call 62; (with_reducible refine (m1 _).mono ?_); rintro r w4 ⟨rfl, hb4⟩)
          have hM := loc_call hHeld.2.2 hb4
          have hbw4 : b < w4.heap.size := Nat.lt_of_lt_of_le (Nat.lt_of_lt_of_le hbB hB) hM.1.size
          refine hK.out _ _ ⟨keep7 hb4 hbW hHeld.1, cells7L (loc_own hM 0 rfl).1, hM⟩ (fun hHeld => ?_)
          clear hK K
          try simp only [Act.put, List.setIfInBounds_toArray, List.set_cons_zero, List.set_cons_succ]
          refine takeD (i := 11) (d := some 32) (v := ?_) rfl rfl (by kernel_rfl) (by kernel_rfl) (by kernel_rfl) (fun _ _ _ h => h) (Or.inl ⟨by rfl, ?_⟩) (by assumption) ?_
          rotate_left
          · intro wS hSw; (try dsimp only at hSw); go_simp; (try with_reducible rfl)
          try simp only [Act.put, List.setIfInBounds_toArray, List.set_cons_zero, List.set_cons_succ]
          refine takeD (i := 12) (d := some 33) (v := ?_) rfl rfl (by kernel_rfl) (by kernel_rfl) (by kernel_rfl) (fun _ _ _ h => h) (Or.inl ⟨by rfl, ?_⟩) (by assumption) ?_
          rotate_left
          · intro wS hSw; (try dsimp only at hSw); go_simp; (try with_reducible rfl)
          try simp only [Act.put, List.setIfInBounds_toArray, List.set_cons_zero, List.set_cons_succ]
          refine wpAnyH_done (by kernel_rfl) ?_ _
          go_wp2_with fail
          go_ret
          rw [HE.out]
          exact ⟨_, n, cap, rfl, HL.out.symm, hcap, rdc_more (rdc_below H.out (hM.1.mono hB)) (Nat.le_trans hB hM.1.size), loc_below hM⟩
        · have HE := Lib.hid (HP.out.2.2 h1 h2)
          have g0 : (d == 0) = false := by simpa using h2
          clear HP h2
          go_wp2_with fail
          refine wp_region_held_drew (S := fun W => (W.cell? ⟨b, k * 7, none⟩ = some (.int .i64 e) ∧ W.cell? ⟨b, k * 7 + 1, none⟩ = some (.int .i64 a) ∧ W.cell? ⟨b, k * 7 + 2, none⟩ = some (.int .i64 x) ∧ W.cell? ⟨b, k * 7 + 3, none⟩ = some (.int .i64 c) ∧ W.cell? ⟨b, k * 7 + 4, none⟩ = some (.string p) ∧ W.cell? ⟨b, k * 7 + 5, none⟩ = some (.string q) ∧ W.cell? ⟨b, k * 7 + 6, none⟩ = some (.bool f)) ∧ (W.cell? ⟨w.heap.size, 0, none⟩ = some (.int .i64 ge) ∧ W.cell? ⟨w.heap.size, 1, none⟩ = some (.int .i64 ga) ∧ W.cell? ⟨w.heap.size, 2, none⟩ = some (.int .i64 gb) ∧ W.cell? ⟨w.heap.size, 3, none⟩ = some (.int .i64 gc) ∧ W.cell? ⟨w.heap.size, 4, none⟩ = some (.string gp) ∧ W.cell? ⟨w.heap.size, 5, none⟩ = some (.string gq) ∧ W.cell? ⟨w.heap.size, 6, none⟩ = some (.bool gf)) ∧ Loc w W [(w.heap.size, [.int .i64 ge, .int .i64 ga, .int .i64 gb, .int .i64 gc, .string gp, .string gq, .bool gf])]) (by kernel_rfl) ⟨⟨k0, k1, k2, k3, k4, k5, k6⟩, ⟨u0, u1, u2, u3, u4, u5, u6⟩, hLd⟩ (fun hHeld => ?_)
          refine takeD (i := 0) (d := some 6) (v := ?_) rfl rfl (by kernel_rfl) (by kernel_rfl) (by kernel_rfl) (fun _ _ _ h => h) (Or.inl ⟨by rfl, ?_⟩) (by assumption) ?_
          rotate_left
          · intro wS hSw; (try dsimp only at hSw); go_simp; (try with_reducible rfl)
          try simp only [Act.put, List.setIfInBounds_toArray, List.set_cons_zero, List.set_cons_succ]
          refine takeD (i := 1) (d := some 7) (v := ?_) rfl rfl (by kernel_rfl) (by kernel_rfl) (by kernel_rfl) (fun _ _ _ h => h) (Or.inl ⟨by rfl, ?_⟩) (by assumption) ?_
          rotate_left
          · intro wS hSw; (try dsimp only at hSw); go_simp; (try with_reducible rfl)
          try simp only [Act.put, List.setIfInBounds_toArray, List.set_cons_zero, List.set_cons_succ]
          refine takeD (i := 2) (d := some 8) (v := ?_) rfl rfl (by kernel_rfl) (by kernel_rfl) (by kernel_rfl) (fun _ _ _ h => h) (Or.inl ⟨by rfl, ?_⟩) (by assumption) ?_
          rotate_left
          · intro wS hSw; (try dsimp only at hSw); go_simp; (try with_reducible rfl)
          try simp only [Act.put, List.setIfInBounds_toArray, List.set_cons_zero, List.set_cons_succ]
          refine takeD (i := 3) (d := some 9) (v := .bool true) rfl rfl (by kernel_rfl) (by kernel_rfl) (by kernel_rfl) (fun _ _ _ h => h) (Or.inl ⟨by rfl, ?_⟩) (by assumption) ?_
          · intro wS hSw; (try dsimp only at hSw); go_simp; (try simp [i1]); (try with_reducible rfl)
          try simp only [Act.put, List.setIfInBounds_toArray, List.set_cons_zero, List.set_cons_succ]
          refine takeD (i := 4) (d := some 10) (v := ?_) rfl rfl (by kernel_rfl) (by kernel_rfl) (by kernel_rfl) (fun _ _ _ h => h) (Or.inl ⟨by rfl, ?_⟩) (by assumption) ?_
          rotate_left
          · intro wS hSw; (try dsimp only at hSw); go_simp; (try with_reducible rfl)
          try simp only [Act.put, List.setIfInBounds_toArray, List.set_cons_zero, List.set_cons_succ]
          refine takeD (i := 5) (d := some 11) (v := ?_) rfl rfl (by kernel_rfl) (by kernel_rfl) (by kernel_rfl) (fun _ _ _ h => h) (Or.inl ⟨by rfl, ?_⟩) (by assumption) ?_
          rotate_left
          · intro wS hSw; (try dsimp only at hSw); go_simp; (try with_reducible rfl)
          try simp only [Act.put, List.setIfInBounds_toArray, List.set_cons_zero, List.set_cons_succ]
          refine takeD (i := 6) (d := some 12) (v := ?_) rfl rfl (by kernel_rfl) (by kernel_rfl) (by kernel_rfl) (fun _ _ _ h => h) (Or.inl ⟨by rfl, ?_⟩) (by assumption) ?_
          rotate_left
          · intro wS hSw; (try dsimp only at hSw); go_simp; (try with_reducible rfl)
          try simp only [Act.put, List.setIfInBounds_toArray, List.set_cons_zero, List.set_cons_succ]
          refine takeD (i := 7) (d := some 13) (v := ?_) rfl rfl (by kernel_rfl) (by kernel_rfl) (by kernel_rfl) (fun _ _ _ h => h) (Or.inl ⟨by rfl, ?_⟩) (by assumption) ?_
          rotate_left
          · intro wS hSw; (try dsimp only at hSw); go_simp; (try with_reducible rfl)
          try simp only [Act.put, List.setIfInBounds_toArray, List.set_cons_zero, List.set_cons_succ]
          refine takeD (i := 8) (d := some 14) (v := ?_) rfl rfl (by kernel_rfl) (by kernel_rfl) (by kernel_rfl) (fun _ _ _ h => h) (Or.inl ⟨by rfl, ?_⟩) (by assumption) ?_
          rotate_left
          · intro wS hSw; (try dsimp only at hSw); go_simp; (try with_reducible rfl)
          try simp only [Act.put, List.setIfInBounds_toArray, List.set_cons_zero, List.set_cons_succ]
          refine takeD (i := 9) (d := some 15) (v := ?_) rfl rfl (by kernel_rfl) (by kernel_rfl) (by kernel_rfl) (fun _ _ _ h => h) (Or.inl ⟨by rfl, ?_⟩) (by assumption) ?_
          rotate_left
          · intro wS hSw; (try dsimp only at hSw); go_simp; (try with_reducible rfl)
          try simp only [Act.put, List.setIfInBounds_toArray, List.set_cons_zero, List.set_cons_succ]
          refine wpAnyH_ready (rs := [10]) (by kernel_rfl) (by simp) ?_
          refine consD (d := some 16) rfl rfl (fun K hK => ?_) AllReadyH.nil
          go_simp
          (go_at_call 62; (with_reducible refine (m1 _).mono ?_); rintro r w4 ⟨rfl, hb4⟩)
          have hM := loc_call hHeld.2.2 hb4
          have hbw4 : b < w4.heap.size := Nat.lt_of_lt_of_le (Nat.lt_of_lt_of_le hbB hB) hM.1.size
          refine hK.out _ _ ⟨keep7 hb4 hbW hHeld.1, cells7L (loc_own hM 0 rfl).1, hM⟩ (fun hHeld => ?_)
          clear hK K
          try simp only [Act.put, List.setIfInBounds_toArray, List.set_cons_zero, List.set_cons_succ]
          refine takeD (i := 11) (d := some 17) (v := ?_) rfl rfl (by kernel_rfl) (by kernel_rfl) (by kernel_rfl) (fun _ _ _ h => h) (Or.inl ⟨by rfl, ?_⟩) (by assumption) ?_
          rotate_left
          · intro wS hSw; (try dsimp only at hSw); go_simp; (try with_reducible rfl)
          try simp only [Act.put, List.setIfInBounds_toArray, List.set_cons_zero, List.set_cons_succ]
          refine takeD (i := 12) (d := some 18) (v := ?_) rfl rfl (by kernel_rfl) (by kernel_rfl) (by kernel_rfl) (fun _ _ _ h => h) (Or.inl ⟨by rfl, ?_⟩) (by assumption) ?_
          rotate_left
          · intro wS hSw; (try dsimp only at hSw); go_simp; (try with_reducible rfl)
          try simp only [Act.put, List.setIfInBounds_toArray, List.set_cons_zero, List.set_cons_succ]
          refine wpAnyH_done (by kernel_rfl) ?_ _
          have hL2 := hM
          have hbW : b < w4.drew.heap.size := hbw4
          have hLd2 := loc_drew hL2
          obtain ⟨u0, u1, u2, u3, u4, u5, u6⟩ := cells7L (loc_own hL2 0 rfl).1
          obtain ⟨k0, k1, k2, k3, k4, k5, k6⟩ := hHeld.1
          go_wp2_with fail
          refine wp_region_held_drew (S := fun W => (W.cell? ⟨b, k * 7, none⟩ = some (.int .i64 e) ∧ W.cell? ⟨b, k * 7 + 1, none⟩ = some (.int .i64 a) ∧ W.cell? ⟨b, k * 7 + 2, none⟩ = some (.int .i64 x) ∧ W.cell? ⟨b, k * 7 + 3, none⟩ = some (.int .i64 c) ∧ W.cell? ⟨b, k * 7 + 4, none⟩ = some (.string p) ∧ W.cell? ⟨b, k * 7 + 5, none⟩ = some (.string q) ∧ W.cell? ⟨b, k * 7 + 6, none⟩ = some (.bool f)) ∧ (W.cell? ⟨w.heap.size, 0, none⟩ = some (.int .i64 ge) ∧ W.cell? ⟨w.heap.size, 1, none⟩ = some (.int .i64 ga) ∧ W.cell? ⟨w.heap.size, 2, none⟩ = some (.int .i64 gb) ∧ W.cell? ⟨w.heap.size, 3, none⟩ = some (.int .i64 gc) ∧ W.cell? ⟨w.heap.size, 4, none⟩ = some (.string gp) ∧ W.cell? ⟨w.heap.size, 5, none⟩ = some (.string gq) ∧ W.cell? ⟨w.heap.size, 6, none⟩ = some (.bool gf)) ∧ Loc w W [(w.heap.size, [.int .i64 ge, .int .i64 ga, .int .i64 gb, .int .i64 gc, .string gp, .string gq, .bool gf])]) (by kernel_rfl) ⟨⟨k0, k1, k2, k3, k4, k5, k6⟩, ⟨u0, u1, u2, u3, u4, u5, u6⟩, hLd2⟩ (fun hHeld => ?_)
          refine takeD (i := 0) (d := some 21) (v := ?_) rfl rfl (by kernel_rfl) (by kernel_rfl) (by kernel_rfl) (fun _ _ _ h => h) (Or.inl ⟨by rfl, ?_⟩) (by assumption) ?_
          rotate_left
          · intro wS hSw; (try dsimp only at hSw); go_simp; (try with_reducible rfl)
          try simp only [Act.put, List.setIfInBounds_toArray, List.set_cons_zero, List.set_cons_succ]
          refine takeD (i := 1) (d := some 22) (v := ?_) rfl rfl (by kernel_rfl) (by kernel_rfl) (by kernel_rfl) (fun _ _ _ h => h) (Or.inl ⟨by rfl, ?_⟩) (by assumption) ?_
          rotate_left
          · intro wS hSw; (try dsimp only at hSw); go_simp; (try with_reducible rfl)
          try simp only [Act.put, List.setIfInBounds_toArray, List.set_cons_zero, List.set_cons_succ]
          refine takeD (i := 2) (d := some 23) (v := ?_) rfl rfl (by kernel_rfl) (by kernel_rfl) (by kernel_rfl) (fun _ _ _ h => h) (Or.inl ⟨by rfl, ?_⟩) (by assumption) ?_
          rotate_left
          · intro wS hSw; (try dsimp only at hSw); go_simp; (try with_reducible rfl)
          try simp only [Act.put, List.setIfInBounds_toArray, List.set_cons_zero, List.set_cons_succ]
          refine takeD (i := 3) (d := some 24) (v := .bool true) rfl rfl (by kernel_rfl) (by kernel_rfl) (by kernel_rfl) (fun _ _ _ h => h) (Or.inl ⟨by rfl, ?_⟩) (by assumption) ?_
          · intro wS hSw; (try dsimp only at hSw); go_simp; (try simp [i1]); (try with_reducible rfl)
          try simp only [Act.put, List.setIfInBounds_toArray, List.set_cons_zero, List.set_cons_succ]
          refine takeD (i := 4) (d := some 25) (v := ?_) rfl rfl (by kernel_rfl) (by kernel_rfl) (by kernel_rfl) (fun _ _ _ h => h) (Or.inl ⟨by rfl, ?_⟩) (by assumption) ?_
          rotate_left
          · intro wS hSw; (try dsimp only at hSw); go_simp; (try with_reducible rfl)
          try simp only [Act.put, List.setIfInBounds_toArray, List.set_cons_zero, List.set_cons_succ]
          refine takeD (i := 5) (d := some 26) (v := ?_) rfl rfl (by kernel_rfl) (by kernel_rfl) (by kernel_rfl) (fun _ _ _ h => h) (Or.inl ⟨by rfl, ?_⟩) (by assumption) ?_
          rotate_left
          · intro wS hSw; (try dsimp only at hSw); go_simp; (try with_reducible rfl)
          try simp only [Act.put, List.setIfInBounds_toArray, List.set_cons_zero, List.set_cons_succ]
          refine takeD (i := 6) (d := some 27) (v := ?_) rfl rfl (by kernel_rfl) (by kernel_rfl) (by kernel_rfl) (fun _ _ _ h => h) (Or.inl ⟨by rfl, ?_⟩) (by assumption) ?_
          rotate_left
          · intro wS hSw; (try dsimp only at hSw); go_simp; (try with_reducible rfl)
          try simp only [Act.put, List.setIfInBounds_toArray, List.set_cons_zero, List.set_cons_succ]
          refine takeD (i := 7) (d := some 28) (v := ?_) rfl rfl (by kernel_rfl) (by kernel_rfl) (by kernel_rfl) (fun _ _ _ h => h) (Or.inl ⟨by rfl, ?_⟩) (by assumption) ?_
          rotate_left
          · intro wS hSw; (try dsimp only at hSw); go_simp; (try with_reducible rfl)
          try simp only [Act.put, List.setIfInBounds_toArray, List.set_cons_zero, List.set_cons_succ]
          refine takeD (i := 8) (d := some 29) (v := ?_) rfl rfl (by kernel_rfl) (by kernel_rfl) (by kernel_rfl) (fun _ _ _ h => h) (Or.inl ⟨by rfl, ?_⟩) (by assumption) ?_
          rotate_left
          · intro wS hSw; (try dsimp only at hSw); go_simp; (try with_reducible rfl)
          try simp only [Act.put, List.setIfInBounds_toArray, List.set_cons_zero, List.set_cons_succ]
          refine takeD (i := 9) (d := some 30) (v := ?_) rfl rfl (by kernel_rfl) (by kernel_rfl) (by kernel_rfl) (fun _ _ _ h => h) (Or.inl ⟨by rfl, ?_⟩) (by assumption) ?_
          rotate_left
          · intro wS hSw; (try dsimp only at hSw); go_simp; (try with_reducible rfl)
          try simp only [Act.put, List.setIfInBounds_toArray, List.set_cons_zero, List.set_cons_succ]
          refine wpAnyH_ready (rs := [10]) (by kernel_rfl) (by simp) ?_
          refine consD (d := some 31) rfl rfl (fun K hK => ?_) AllReadyH.nil
          go_simp
          (go_at_call 62; (with_reducible refine (m1 _).mono ?_); rintro r w4 ⟨rfl, hb4⟩)
          have hM := loc_call hHeld.2.2 hb4
          have hbw4 : b < w4.heap.size := Nat.lt_of_lt_of_le (Nat.lt_of_lt_of_le hbB hB) hM.1.size
          refine hK.out _ _ ⟨keep7 hb4 hbW hHeld.1, cells7L (loc_own hM 0 rfl).1, hM⟩ (fun hHeld => ?_)
          clear hK K
          try simp only [Act.put, List.setIfInBounds_toArray, List.set_cons_zero, List.set_cons_succ]
          refine takeD (i := 11) (d := some 32) (v := ?_) rfl rfl (by kernel_rfl) (by kernel_rfl) (by kernel_rfl) (fun _ _ _ h => h) (Or.inl ⟨by rfl, ?_⟩) (by assumption) ?_
          rotate_left
          · intro wS hSw; (try dsimp only at hSw); go_simp; (try with_reducible rfl)
          try simp only [Act.put, List.setIfInBounds_toArray, List.set_cons_zero, List.set_cons_succ]
          refine takeD (i := 12) (d := some 33) (v := ?_) rfl rfl (by kernel_rfl) (by kernel_rfl) (by kernel_rfl) (fun _ _ _ h => h) (Or.inl ⟨by rfl, ?_⟩) (by assumption) ?_
          rotate_left
          · intro wS hSw; (try dsimp only at hSw); go_simp; (try with_reducible rfl)
          try simp only [Act.put, List.setIfInBounds_toArray, List.set_cons_zero, List.set_cons_succ]
          refine wpAnyH_done (by kernel_rfl) ?_ _
          go_wp2_with fail
          have hoffE : ∃ off : Nat, (if cap = k then some (⟨b, 0, none⟩ : Addr) else some ⟨b, k * 7, none⟩) = some ⟨b, off, none⟩ ∧ ∀ W : World, Cells W b (l.flatMap cutCells) → Reads W B 7 (some ⟨b, off, none⟩) (n - k) ((l.drop k).flatMap cutCells) := by
            by_cases hck : cap = k
            · refine ⟨0, if_pos hck, fun W hW => ⟨?_, fun h0 => absurd h0 (by omega)⟩⟩
              have := HL.out
              rw [flat_len, List.length_drop]
              omega
            · exact ⟨k * 7, if_neg hck, fun W hW => rdc_suf hW hbB (by rw [HL.out]; exact hk) (by have := HL.out; omega)⟩
          obtain ⟨off, hoff, hrs⟩ := hoffE
          have HRS := Lib.hid hrs
          clear hrs
          have hLz := loc_drew hM
          obtain ⟨z0, z1, z2, z3, z4, z5, z6⟩ := cells7L (loc_own hM 0 rfl).1
          refine wp_region_held_drew (S := fun W => (W.cell? ⟨w.heap.size, 0, none⟩ = some (.int .i64 ge) ∧ W.cell? ⟨w.heap.size, 1, none⟩ = some (.int .i64 ga) ∧ W.cell? ⟨w.heap.size, 2, none⟩ = some (.int .i64 gb) ∧ W.cell? ⟨w.heap.size, 3, none⟩ = some (.int .i64 gc) ∧ W.cell? ⟨w.heap.size, 4, none⟩ = some (.string gp) ∧ W.cell? ⟨w.heap.size, 5, none⟩ = some (.string gq) ∧ W.cell? ⟨w.heap.size, 6, none⟩ = some (.bool gf)) ∧ Loc w W [(w.heap.size, [.int .i64 ge, .int .i64 ga, .int .i64 gb, .int .i64 gc, .string gp, .string gq, .bool gf])]) (by kernel_rfl) ⟨⟨z0, z1, z2, z3, z4, z5, z6⟩, hLz⟩ (fun hHeld => ?_)
          refine takeD (i := 0) (d := some 35) (v := ?_) rfl rfl (by kernel_rfl) (by kernel_rfl) (by kernel_rfl) (fun _ _ _ h => h) (Or.inl ⟨by rfl, ?_⟩) (by assumption) ?_
          rotate_left
          · intro wS hSw; (try dsimp only at hSw); go_simp; (try with_reducible rfl)
          try simp only [Act.put, List.setIfInBounds_toArray, List.set_cons_zero, List.set_cons_succ]
          refine takeD (i := 1) (d := some 36) (v := ?_) rfl rfl (by kernel_rfl) (by kernel_rfl) (by kernel_rfl) (fun _ _ _ h => h) (Or.inl ⟨by rfl, ?_⟩) (by assumption) ?_
          rotate_left
          · intro wS hSw; (try dsimp only at hSw); go_simp; (try with_reducible rfl)
          try simp only [Act.put, List.setIfInBounds_toArray, List.set_cons_zero, List.set_cons_succ]
          refine takeD (i := 2) (d := some 37) (v := ?_) rfl rfl (by kernel_rfl) (by kernel_rfl) (by kernel_rfl) (fun _ _ _ h => h) (Or.inl ⟨by rfl, ?_⟩) (by assumption) ?_
          rotate_left
          · intro wS hSw; (try dsimp only at hSw); go_simp; (try with_reducible rfl)
          try simp only [Act.put, List.setIfInBounds_toArray, List.set_cons_zero, List.set_cons_succ]
          refine takeD (i := 4) (d := some 39) (v := ?_) rfl rfl (by kernel_rfl) (by kernel_rfl) (by kernel_rfl) (fun _ _ _ h => h) (Or.inl ⟨by rfl, ?_⟩) (by assumption) ?_
          rotate_left
          · intro wS hSw; (try dsimp only at hSw); go_simp; (try with_reducible rfl)
          try simp only [Act.put, List.setIfInBounds_toArray, List.set_cons_zero, List.set_cons_succ]
          refine takeD (i := 7) (d := some 42) (v := ?_) rfl rfl (by kernel_rfl) (by kernel_rfl) (by kernel_rfl) (fun _ _ _ h => h) (Or.inl ⟨by rfl, ?_⟩) (by assumption) ?_
          rotate_left
          · intro wS hSw; (try dsimp only at hSw); go_simp; (try with_reducible rfl)
          try simp only [Act.put, List.setIfInBounds_toArray, List.set_cons_zero, List.set_cons_succ]
          refine takeD (i := 8) (d := some 43) (v := ?_) rfl rfl (by kernel_rfl) (by kernel_rfl) (by kernel_rfl) (fun _ _ _ h => h) (Or.inl ⟨by rfl, ?_⟩) (by assumption) ?_
          rotate_left
          · intro wS hSw; (try dsimp only at hSw); go_simp; (try with_reducible rfl)
          try simp only [Act.put, List.setIfInBounds_toArray, List.set_cons_zero, List.set_cons_succ]
          refine takeD (i := 9) (d := some 44) (v := ?_) rfl rfl (by kernel_rfl) (by kernel_rfl) (by kernel_rfl) (fun _ _ _ h => h) (Or.inl ⟨by rfl, ?_⟩) (by assumption) ?_
          rotate_left
          · intro wS hSw; (try dsimp only at hSw); go_simp; (try with_reducible rfl)
          try simp only [Act.put, List.setIfInBounds_toArray, List.set_cons_zero, List.set_cons_succ]
          have hM0 := hHeld.2
          clear hoff
          refine wpAnyH_ready (rs := [3, 5]) (by kernel_rfl) (by simp) ?_
          refine consD (d := some 38) rfl rfl (fun K hK => ?_) ?_
          · refine step_append_any _ rfl (.const (.slice none 0 0)) (.tmp 37) 78 rfl (w.heap.size + 1) 48 j0 _ 7 72 Tryd.underlying78 HI.out HY.out.1 HY.out.2.1 HY.out.2.2 rfl (by omega) (.slice none 0 0) 0 [] rfl (World.ownsRow_nil _ _ _ _) B (some ⟨b, 0, none⟩) k cap ((l.take k).flatMap cutCells) rfl (rdc_pre (cells_below HC.out hbB (hM0.1.mono hB)) hbB (by rw [HL.out]; exact hk)) (cuts_one _) (by unfold maxLen; omega) (by omega) (loc_lt hM0 0 rfl) (fun v1 w1 ho1 hg1 _ => ?_)
            go_simp
            have hM1 := loc_upto hM0 (grown_below hg1 (loc_lt hM0 0 rfl) fun g hg => by cases hg) (by omega) (by simp)
            refine hK.out _ _ ⟨cells7L (loc_own hM1 0 rfl).1, hM1⟩ (fun hHeld => ?_)
            clear hK K
            try simp only [Act.put, List.setIfInBounds_toArray, List.set_cons_zero, List.set_cons_succ]
            refine wpAnyH_ready (rs := [5]) (by kernel_rfl) (by simp) ?_
            refine consD (d := some 40) rfl rfl (fun K hK => ?_) AllReadyH.nil
            go_simp
            have hM2 := loc_box hM1 (.cells #[.int .i64 ge, .int .i64 ga, .int .i64 gb, .int .i64 gc, .string gp, .string gq, .bool gf] 48)
            have ho1 := ho1.alloc (.cells #[.int .i64 ge, .int .i64 ga, .int .i64 gb, .int .i64 gc, .string gp, .string gq, .bool gf] 48)
            have hrc := rdc_new w1 (cutS ge ga gb gc gp gq gf) 48
            refine hK.out _ _ ⟨cells7L (loc_own hM2 0 rfl).1, hM2⟩ (fun hHeld => ?_)
            clear hK K
            try simp only [Act.put, List.setIfInBounds_toArray, List.set_cons_zero, List.set_cons_succ]
            refine wpAnyH_ready (rs := [6]) (by kernel_rfl) (by simp) ?_
            refine consD (d := some 41) rfl rfl (fun K hK => ?_) AllReadyH.nil
            refine step_append_any _ rfl (.tmp 38) (.tmp 40) 78 rfl (w.heap.size + 1) 48 j0 _ 7 72 Tryd.underlying78 HI.out HY.out.1 HY.out.2.1 HY.out.2.2 rfl (by omega) v1 (0 + k) ([] ++ ((l.take k).flatMap cutCells)) rfl ho1 (w1.heap.size + 1) (some ⟨w1.heap.size, 0, none⟩) 1 1 (cutCells (cutS ge ga gb gc gp gq gf)) rfl hrc (cut_one _) (by unfold maxLen; omega) (by omega) (loc_lt hM2 0 rfl) (fun v2 w2 ho2 hg2 _ => ?_)
            go_simp
            have hM3 := loc_upto hM2 (grown_below hg2 (loc_lt hM2 0 rfl) fun g hg => (ho1.lt g hg).1) (by omega) (by simp)
            refine hK.out _ _ ⟨cells7L (loc_own hM3 0 rfl).1, hM3⟩ (fun hHeld => ?_)
            clear hK K
            try simp only [Act.put, List.setIfInBounds_toArray, List.set_cons_zero, List.set_cons_succ]
            refine wpAnyH_ready (rs := [10]) (by kernel_rfl) (by simp) ?_
            refine consD (d := some 45) rfl rfl (fun K hK => ?_) AllReadyH.nil
            refine step_append_any _ rfl (.tmp 41) (.tmp 44) 78 rfl (w.heap.size + 1) 48 j0 _ 7 72 Tryd.underlying78 HI.out HY.out.1 HY.out.2.1 HY.out.2.2 rfl (by omega) v2 (0 + k + 1) ([] ++ ((l.take k).flatMap cutCells) ++ cutCells (cutS ge ga gb gc gp gq gf)) rfl ho2 B (some ⟨b, off, none⟩) (n - k) (cap - k) ((l.drop k).flatMap cutCells) rfl (HRS.out _ (cells_below HC.out hbB (hM3.1.mono hB))) (cuts_one _) (by unfold maxLen; omega) (by omega) (loc_lt hM3 0 rfl) (fun v3 w3 ho3 hg3 _ => ?_)
            go_simp
            have hM4 := loc_upto hM3 (grown_below hg3 (loc_lt hM3 0 rfl) fun g hg => (ho2.lt g hg).1) (by omega) (by simp)
            refine hK.out _ _ ⟨cells7L (loc_own hM4 0 rfl).1, hM4⟩ (fun hHeld => ?_)
            clear hK K
            try simp only [Act.put, List.setIfInBounds_toArray, List.set_cons_zero, List.set_cons_succ]
            refine takeD (i := 11) (d := some 4) (v := ?_) rfl rfl (by kernel_rfl) (by kernel_rfl) (by kernel_rfl) (fun _ _ _ h => h) (Or.inl ⟨by rfl, ?_⟩) (by assumption) ?_
            rotate_left
            · intro wS hSw; (try dsimp only at hSw); go_simp; (try with_reducible rfl)
            try simp only [Act.put, List.setIfInBounds_toArray, List.set_cons_zero, List.set_cons_succ]
            refine wpAnyH_done (by kernel_rfl) ?_ _
            go_wp2_with fail
            go_ret
            rw [HE.out]
            obtain ⟨A3, cap3, hv3, hc3, hl3, hr3⟩ := own_rdc (l := l.take k ++ (cutS ge ga gb gc gp gq gf) :: l.drop k) (by simpa using ho3)
            exact ⟨A3, _, cap3, row_slice hv3, hl3.symm, hc3, hr3, loc_below hM4⟩
          · refine consD (d := some 40) rfl rfl (fun K hK => ?_) AllReadyH.nil
            go_simp
            have hM1 := loc_box hM0 (.cells #[.int .i64 ge, .int .i64 ga, .int .i64 gb, .int .i64 gc, .string gp, .string gq, .bool gf] 48)
            refine hK.out _ _ ⟨cells7L (loc_own hM1 0 rfl).1, hM1⟩ (fun hHeld => ?_)
            clear hK K
            try simp only [Act.put, List.setIfInBounds_toArray, List.set_cons_zero, List.set_cons_succ]
            refine wpAnyH_ready (rs := [3]) (by kernel_rfl) (by simp) ?_
            refine consD (d := some 38) rfl rfl (fun K hK => ?_) AllReadyH.nil
            refine step_append_any _ rfl (.const (.slice none 0 0)) (.tmp 37) 78 rfl (w.heap.size + 1) 48 j0 _ 7 72 Tryd.underlying78 HI.out HY.out.1 HY.out.2.1 HY.out.2.2 rfl (by omega) (.slice none 0 0) 0 [] rfl (World.ownsRow_nil _ _ _ _) B (some ⟨b, 0, none⟩) k cap ((l.take k).flatMap cutCells) rfl (rdc_pre (cells_below HC.out hbB (hM1.1.mono hB)) hbB (by rw [HL.out]; exact hk)) (cuts_one _) (by unfold maxLen; omega) (by omega) (loc_lt hM1 0 rfl) (fun v1 w1 ho1 hg1 _ => ?_)
            go_simp
            have hM2 := loc_upto hM1 (grown_below hg1 (loc_lt hM1 0 rfl) fun g hg => by cases hg) (by omega) (by simp)
            have hgx : (World.alloc w4 (.cells #[.int .i64 ge, .int .i64 ga, .int .i64 gb, .int .i64 gc, .string gp, .string gq, .bool gf] 48)).grownBy w1 none := by first | exact hg1 | exact grown_of_drew hg1 | exact grown_of_drew (grown_of_drew hg1) | exact grown_of_drew (grown_of_drew (grown_of_drew hg1))
            have hrc := (rdc_new w4 (cutS ge ga gb gc gp gq gf) 48).below (grown_below (B := w4.heap.size + 1) (w := w4.alloc (.cells (cutCells (cutS ge ga gb gc gp gq gf)).toArray 48)) (w' := w1) (row := none) hgx (by simp) fun g hg => by cases hg)
            refine hK.out _ _ ⟨cells7L (loc_own hM2 0 rfl).1, hM2⟩ (fun hHeld => ?_)
            clear hK K
            try simp only [Act.put, List.setIfInBounds_toArray, List.set_cons_zero, List.set_cons_succ]
            refine wpAnyH_ready (rs := [6]) (by kernel_rfl) (by simp) ?_
            refine consD (d := some 41) rfl rfl (fun K hK => ?_) AllReadyH.nil
            refine step_append_any _ rfl (.tmp 38) (.tmp 40) 78 rfl (w.heap.size + 1) 48 j0 _ 7 72 Tryd.underlying78 HI.out HY.out.1 HY.out.2.1 HY.out.2.2 rfl (by omega) v1 (0 + k) ([] ++ ((l.take k).flatMap cutCells)) rfl ho1 _ (some ⟨_, 0, none⟩) 1 1 (cutCells (cutS ge ga gb gc gp gq gf)) rfl hrc (cut_one _) (by unfold maxLen; omega) (by omega) (loc_lt hM2 0 rfl) (fun v2 w2 ho2 hg2 _ => ?_)
            go_simp
            have hM3 := loc_upto hM2 (grown_below hg2 (loc_lt hM2 0 rfl) fun g hg => (ho1.lt g hg).1) (by omega) (by simp)
            refine hK.out _ _ ⟨cells7L (loc_own hM3 0 rfl).1, hM3⟩ (fun hHeld => ?_)
            clear hK K
            try simp only [Act.put, List.setIfInBounds_toArray, List.set_cons_zero, List.set_cons_succ]
            refine wpAnyH_ready (rs := [10]) (by kernel_rfl) (by simp) ?_
            refine consD (d := some 45) rfl rfl (fun K hK => ?_) AllReadyH.nil
            refine step_append_any _ rfl (.tmp 41) (.tmp 44) 78 rfl (w.heap.size + 1) 48 j0 _ 7 72 Tryd.underlying78 HI.out HY.out.1 HY.out.2.1 HY.out.2.2 rfl (by omega) v2 (0 + k + 1) ([] ++ ((l.take k).flatMap cutCells) ++ cutCells (cutS ge ga gb gc gp gq gf)) rfl ho2 B (some ⟨b, off, none⟩) (n - k) (cap - k) ((l.drop k).flatMap cutCells) rfl (HRS.out _ (cells_below HC.out hbB (hM3.1.mono hB))) (cuts_one _) (by unfold maxLen; omega) (by omega) (loc_lt hM3 0 rfl) (fun v3 w3 ho3 hg3 _ => ?_)
            go_simp
            have hM4 := loc_upto hM3 (grown_below hg3 (loc_lt hM3 0 rfl) fun g hg => (ho2.lt g hg).1) (by omega) (by simp)
            refine hK.out _ _ ⟨cells7L (loc_own hM4 0 rfl).1, hM4⟩ (fun hHeld => ?_)
            clear hK K
            try simp only [Act.put, List.setIfInBounds_toArray, List.set_cons_zero, List.set_cons_succ]
            refine takeD (i := 11) (d := some 4) (v := ?_) rfl rfl (by kernel_rfl) (by kernel_rfl) (by kernel_rfl) (fun _ _ _ h => h) (Or.inl ⟨by rfl, ?_⟩) (by assumption) ?_
            rotate_left
            · intro wS hSw; (try dsimp only at hSw); go_simp; (try with_reducible rfl)
            try simp only [Act.put, List.setIfInBounds_toArray, List.set_cons_zero, List.set_cons_succ]
            refine wpAnyH_done (by kernel_rfl) ?_ _
            go_wp2_with fail
            go_ret
            rw [HE.out]
            obtain ⟨A3, cap3, hv3, hc3, hl3, hr3⟩ := own_rdc (l := l.take k ++ (cutS ge ga gb gc gp gq gf) :: l.drop k) (by simpa using ho3)
            exact ⟨A3, _, cap3, row_slice hv3, hl3.symm, hc3, hr3, loc_below hM4⟩
    · obtain rfl : k = n := by omega
      have HE : Hid (putC l (cutS ge ga gb gc gp gq gf) = l.take k ++ cutS ge ga gb gc gp gq gf :: l.drop k) := by have := put_end (l := l) (c := cutS ge ga gb gc gp gq gf) (by rw [HL.out]; exact HS.out); rwa [HL.out] at this
      go_wp2_with fail
      refine wp_region_held_drew (S := fun W => (W.cell? ⟨w.heap.size, 0, none⟩ = some (.int .i64 ge) ∧ W.cell? ⟨w.heap.size, 1, none⟩ = some (.int .i64 ga) ∧ W.cell? ⟨w.heap.size, 2, none⟩ = some (.int .i64 gb) ∧ W.cell? ⟨w.heap.size, 3, none⟩ = some (.int .i64 gc) ∧ W.cell? ⟨w.heap.size, 4, none⟩ = some (.string gp) ∧ W.cell? ⟨w.heap.size, 5, none⟩ = some (.string gq) ∧ W.cell? ⟨w.heap.size, 6, none⟩ = some (.bool gf)) ∧ Loc w W [(w.heap.size, [.int .i64 ge, .int .i64 ga, .int .i64 gb, .int .i64 gc, .string gp, .string gq, .bool gf])]) (by kernel_rfl) ⟨⟨u0, u1, u2, u3, u4, u5, u6⟩, hLd⟩ (fun hHeld => ?_)
      refine takeD (i := 0) (d := some 6) (v := ?_) rfl rfl (by kernel_rfl) (by kernel_rfl) (by kernel_rfl) (fun _ _ _ h => h) (Or.inl ⟨by rfl, ?_⟩) (by assumption) ?_
      rotate_left
      · intro wS hSw; (try dsimp only at hSw); go_simp; (try with_reducible rfl)
      try simp only [Act.put, List.setIfInBounds_toArray, List.set_cons_zero, List.set_cons_succ]
      refine takeD (i := 1) (d := some 7) (v := ?_) rfl rfl (by kernel_rfl) (by kernel_rfl) (by kernel_rfl) (fun _ _ _ h => h) (Or.inl ⟨by rfl, ?_⟩) (by assumption) ?_
      rotate_left
      · intro wS hSw; (try dsimp only at hSw); go_simp; (try with_reducible rfl)
      try simp only [Act.put, List.setIfInBounds_toArray, List.set_cons_zero, List.set_cons_succ]
      refine takeD (i := 2) (d := some 8) (v := ?_) rfl rfl (by kernel_rfl) (by kernel_rfl) (by kernel_rfl) (fun _ _ _ h => h) (Or.inl ⟨by rfl, ?_⟩) (by assumption) ?_
      rotate_left
      · intro wS hSw; (try dsimp only at hSw); go_simp; (try with_reducible rfl)
      try simp only [Act.put, List.setIfInBounds_toArray, List.set_cons_zero, List.set_cons_succ]
      refine takeD (i := 3) (d := some 9) (v := .bool false) rfl rfl (by kernel_rfl) (by kernel_rfl) (by kernel_rfl) (fun _ _ _ h => h) (Or.inl ⟨by rfl, ?_⟩) (by assumption) ?_
      · intro wS hSw; (try dsimp only at hSw); go_simp; (try simp []); (try with_reducible rfl)
      try simp only [Act.put, List.setIfInBounds_toArray, List.set_cons_zero, List.set_cons_succ]
      refine takeD (i := 4) (d := some 10) (v := ?_) rfl rfl (by kernel_rfl) (by kernel_rfl) (by kernel_rfl) (fun _ _ _ h => h) (Or.inl ⟨by rfl, ?_⟩) (by assumption) ?_
      rotate_left
      · intro wS hSw; (try dsimp only at hSw); go_simp; (try with_reducible rfl)
      try simp only [Act.put, List.setIfInBounds_toArray, List.set_cons_zero, List.set_cons_succ]
      refine takeD (i := 5) (d := some 11) (v := undef) rfl rfl (by kernel_rfl) (by kernel_rfl) (by kernel_rfl) (fun _ _ _ h => h) (Or.inr ⟨by rfl, rfl⟩) (by assumption) ?_
      try simp only [Act.put, List.setIfInBounds_toArray, List.set_cons_zero, List.set_cons_succ]
      refine takeD (i := 6) (d := some 12) (v := undef) rfl rfl (by kernel_rfl) (by kernel_rfl) (by kernel_rfl) (fun _ _ _ h => h) (Or.inr ⟨by rfl, rfl⟩) (by assumption) ?_
      try simp only [Act.put, List.setIfInBounds_toArray, List.set_cons_zero, List.set_cons_succ]
      refine takeD (i := 7) (d := some 13) (v := undef) rfl rfl (by kernel_rfl) (by kernel_rfl) (by kernel_rfl) (fun _ _ _ h => h) (Or.inr ⟨by rfl, rfl⟩) (by assumption) ?_
      try simp only [Act.put, List.setIfInBounds_toArray, List.set_cons_zero, List.set_cons_succ]
      refine takeD (i := 8) (d := some 14) (v := undef) rfl rfl (by kernel_rfl) (by kernel_rfl) (by kernel_rfl) (fun _ _ _ h => h) (Or.inr ⟨by rfl, rfl⟩) (by assumption) ?_
      try simp only [Act.put, List.setIfInBounds_toArray, List.set_cons_zero, List.set_cons_succ]
      refine takeD (i := 9) (d := some 15) (v := undef) rfl rfl (by kernel_rfl) (by kernel_rfl) (by kernel_rfl) (fun _ _ _ h => h) (Or.inr ⟨by rfl, rfl⟩) (by assumption) ?_
      try simp only [Act.put, List.setIfInBounds_toArray, List.set_cons_zero, List.set_cons_succ]
      refine takeD (i := 10) (d := some 16) (v := undef) rfl rfl (by kernel_rfl) (by kernel_rfl) (by kernel_rfl) (fun _ _ _ h => h) (Or.inr ⟨by rfl, rfl⟩) (by assumption) ?_
      try simp only [Act.put, List.setIfInBounds_toArray, List.set_cons_zero, List.set_cons_succ]
      refine takeD (i := 11) (d := some 17) (v := undef) rfl rfl (by kernel_rfl) (by kernel_rfl) (by kernel_rfl) (fun _ _ _ h => h) (Or.inr ⟨by rfl, rfl⟩) (by assumption) ?_
      try simp only [Act.put, List.setIfInBounds_toArray, List.set_cons_zero, List.set_cons_succ]
      refine takeD (i := 12) (d := some 18) (v := ?_) rfl rfl (by kernel_rfl) (by kernel_rfl) (by kernel_rfl) (fun _ _ _ h => h) (Or.inl ⟨by rfl, ?_⟩) (by assumption) ?_
      rotate_left
      · intro wS hSw; (try dsimp only at hSw); go_simp; (try with_reducible rfl)
      try simp only [Act.put, List.setIfInBounds_toArray, List.set_cons_zero, List.set_cons_succ]
      refine wpAnyH_done (by kernel_rfl) ?_ _
      have hL2 := hHeld.2
      have hLd2 := loc_drew hL2
      go_wp2_with fail
      refine wp_region_held_drew (S := fun W => (W.cell? ⟨w.heap.size, 0, none⟩ = some (.int .i64 ge) ∧ W.cell? ⟨w.heap.size, 1, none⟩ = some (.int .i64 ga) ∧ W.cell? ⟨w.heap.size, 2, none⟩ = some (.int .i64 gb) ∧ W.cell? ⟨w.heap.size, 3, none⟩ = some (.int .i64 gc) ∧ W.cell? ⟨w.heap.size, 4, none⟩ = some (.string gp) ∧ W.cell? ⟨w.heap.size, 5, none⟩ = some (.string gq) ∧ W.cell? ⟨w.heap.size, 6, none⟩ = some (.bool gf)) ∧ Loc w W [(w.heap.size, [.int .i64 ge, .int .i64 ga, .int .i64 gb, .int .i64 gc, .string gp, .string gq, .bool gf])]) (by kernel_rfl) ⟨⟨u0, u1, u2, u3, u4, u5, u6⟩, hLd2⟩ (fun hHeld => ?_)
      refine takeD (i := 0) (d := some 21) (v := ?_) rfl rfl (by kernel_rfl) (by kernel_rfl) (by kernel_rfl) (fun _ _ _ h => h) (Or.inl ⟨by rfl, ?_⟩) (by assumption) ?_
      rotate_left
      · intro wS hSw; (try dsimp only at hSw); go_simp; (try with_reducible rfl)
      try simp only [Act.put, List.setIfInBounds_toArray, List.set_cons_zero, List.set_cons_succ]
      refine takeD (i := 1) (d := some 22) (v := ?_) rfl rfl (by kernel_rfl) (by kernel_rfl) (by kernel_rfl) (fun _ _ _ h => h) (Or.inl ⟨by rfl, ?_⟩) (by assumption) ?_
      rotate_left
      · intro wS hSw; (try dsimp only at hSw); go_simp; (try with_reducible rfl)
      try simp only [Act.put, List.setIfInBounds_toArray, List.set_cons_zero, List.set_cons_succ]
      refine takeD (i := 2) (d := some 23) (v := ?_) rfl rfl (by kernel_rfl) (by kernel_rfl) (by kernel_rfl) (fun _ _ _ h => h) (Or.inl ⟨by rfl, ?_⟩) (by assumption) ?_
      rotate_left
      · intro wS hSw; (try dsimp only at hSw); go_simp; (try with_reducible rfl)
      try simp only [Act.put, List.setIfInBounds_toArray, List.set_cons_zero, List.set_cons_succ]
      refine takeD (i := 3) (d := some 24) (v := .bool false) rfl rfl (by kernel_rfl) (by kernel_rfl) (by kernel_rfl) (fun _ _ _ h => h) (Or.inl ⟨by rfl, ?_⟩) (by assumption) ?_
      · intro wS hSw; (try dsimp only at hSw); go_simp; (try simp []); (try with_reducible rfl)
      try simp only [Act.put, List.setIfInBounds_toArray, List.set_cons_zero, List.set_cons_succ]
      refine takeD (i := 4) (d := some 25) (v := ?_) rfl rfl (by kernel_rfl) (by kernel_rfl) (by kernel_rfl) (fun _ _ _ h => h) (Or.inl ⟨by rfl, ?_⟩) (by assumption) ?_
      rotate_left
      · intro wS hSw; (try dsimp only at hSw); go_simp; (try with_reducible rfl)
      try simp only [Act.put, List.setIfInBounds_toArray, List.set_cons_zero, List.set_cons_succ]
      refine takeD (i := 5) (d := some 26) (v := undef) rfl rfl (by kernel_rfl) (by kernel_rfl) (by kernel_rfl) (fun _ _ _ h => h) (Or.inr ⟨by rfl, rfl⟩) (by assumption) ?_
      try simp only [Act.put, List.setIfInBounds_toArray, List.set_cons_zero, List.set_cons_succ]
      refine takeD (i := 6) (d := some 27) (v := undef) rfl rfl (by kernel_rfl) (by kernel_rfl) (by kernel_rfl) (fun _ _ _ h => h) (Or.inr ⟨by rfl, rfl⟩) (by assumption) ?_
      try simp only [Act.put, List.setIfInBounds_toArray, List.set_cons_zero, List.set_cons_succ]
      refine takeD (i := 7) (d := some 28) (v := undef) rfl rfl (by kernel_rfl) (by kernel_rfl) (by kernel_rfl) (fun _ _ _ h => h) (Or.inr ⟨by rfl, rfl⟩) (by assumption) ?_
      try simp only [Act.put, List.setIfInBounds_toArray, List.set_cons_zero, List.set_cons_succ]
      refine takeD (i := 8) (d := some 29) (v := undef) rfl rfl (by kernel_rfl) (by kernel_rfl) (by kernel_rfl) (fun _ _ _ h => h) (Or.inr ⟨by rfl, rfl⟩) (by assumption) ?_
      try simp only [Act.put, List.setIfInBounds_toArray, List.set_cons_zero, List.set_cons_succ]
      refine takeD (i := 9) (d := some 30) (v := undef) rfl rfl (by kernel_rfl) (by kernel_rfl) (by kernel_rfl) (fun _ _ _ h => h) (Or.inr ⟨by rfl, rfl⟩) (by assumption) ?_
      try simp only [Act.put, List.setIfInBounds_toArray, List.set_cons_zero, List.set_cons_succ]
      refine takeD (i := 10) (d := some 31) (v := undef) rfl rfl (by kernel_rfl) (by kernel_rfl) (by kernel_rfl) (fun _ _ _ h => h) (Or.inr ⟨by rfl, rfl⟩) (by assumption) ?_
      try simp only [Act.put, List.setIfInBounds_toArray, List.set_cons_zero, List.set_cons_succ]
      refine takeD (i := 11) (d := some 32) (v := undef) rfl rfl (by kernel_rfl) (by kernel_rfl) (by kernel_rfl) (fun _ _ _ h => h) (Or.inr ⟨by rfl, rfl⟩) (by assumption) ?_
      try simp only [Act.put, List.setIfInBounds_toArray, List.set_cons_zero, List.set_cons_succ]
      refine takeD (i := 12) (d := some 33) (v := ?_) rfl rfl (by kernel_rfl) (by kernel_rfl) (by kernel_rfl) (fun _ _ _ h => h) (Or.inl ⟨by rfl, ?_⟩) (by assumption) ?_
      rotate_left
      · intro wS hSw; (try dsimp only at hSw); go_simp; (try with_reducible rfl)
      try simp only [Act.put, List.setIfInBounds_toArray, List.set_cons_zero, List.set_cons_succ]
      refine wpAnyH_done (by kernel_rfl) ?_ _
      have hM := hHeld.2
      go_wp2_with fail
      have hoffE : ∃ off : Nat, (if cap = k then some (⟨b, 0, none⟩ : Addr) else some ⟨b, k * 7, none⟩) = some ⟨b, off, none⟩ ∧ ∀ W : World, Cells W b (l.flatMap cutCells) → Reads W B 7 (some ⟨b, off, none⟩) 0 ((l.drop k).flatMap cutCells) := by
        by_cases hck : cap = k
        · refine ⟨0, if_pos hck, fun W hW => ⟨?_, fun h0 => absurd h0 (by omega)⟩⟩
          have := HL.out
          rw [flat_len, List.length_drop]
          omega
        · exact ⟨k * 7, if_neg hck, fun W hW => rdc_suf hW hbB (by rw [HL.out]; exact hk) (by have := HL.out; omega)⟩
      obtain ⟨off, hoff, hrs⟩ := hoffE
      have HRS := Lib.hid hrs
      clear hrs
      have hLz := loc_drew hM
      obtain ⟨z0, z1, z2, z3, z4, z5, z6⟩ := cells7L (loc_own hM 0 rfl).1
      refine wp_region_held_drew (S := fun W => (W.cell? ⟨w.heap.size, 0, none⟩ = some (.int .i64 ge) ∧ W.cell? ⟨w.heap.size, 1, none⟩ = some (.int .i64 ga) ∧ W.cell? ⟨w.heap.size, 2, none⟩ = some (.int .i64 gb) ∧ W.cell? ⟨w.heap.size, 3, none⟩ = some (.int .i64 gc) ∧ W.cell? ⟨w.heap.size, 4, none⟩ = some (.string gp) ∧ W.cell? ⟨w.heap.size, 5, none⟩ = some (.string gq) ∧ W.cell? ⟨w.heap.size, 6, none⟩ = some (.bool gf)) ∧ Loc w W [(w.heap.size, [.int .i64 ge, .int .i64 ga, .int .i64 gb, .int .i64 gc, .string gp, .string gq, .bool gf])]) (by kernel_rfl) ⟨⟨z0, z1, z2, z3, z4, z5, z6⟩, hLz⟩ (fun hHeld => ?_)
      refine takeD (i := 0) (d := some 35) (v := ?_) rfl rfl (by kernel_rfl) (by kernel_rfl) (by kernel_rfl) (fun _ _ _ h => h) (Or.inl ⟨by rfl, ?_⟩) (by assumption) ?_
      rotate_left
      · intro wS hSw; (try dsimp only at hSw); go_simp; (try with_reducible rfl)
      try simp only [Act.put, List.setIfInBounds_toArray, List.set_cons_zero, List.set_cons_succ]
      refine takeD (i := 1) (d := some 36) (v := ?_) rfl rfl (by kernel_rfl) (by kernel_rfl) (by kernel_rfl) (fun _ _ _ h => h) (Or.inl ⟨by rfl, ?_⟩) (by assumption) ?_
      rotate_left
      · intro wS hSw; (try dsimp only at hSw); go_simp; (try with_reducible rfl)
      try simp only [Act.put, List.setIfInBounds_toArray, List.set_cons_zero, List.set_cons_succ]
      refine takeD (i := 2) (d := some 37) (v := ?_) rfl rfl (by kernel_rfl) (by kernel_rfl) (by kernel_rfl) (fun _ _ _ h => h) (Or.inl ⟨by rfl, ?_⟩) (by assumption) ?_
      rotate_left
      · intro wS hSw; (try dsimp only at hSw); go_simp; (try with_reducible rfl)
      try simp only [Act.put, List.setIfInBounds_toArray, List.set_cons_zero, List.set_cons_succ]
      refine takeD (i := 4) (d := some 39) (v := ?_) rfl rfl (by kernel_rfl) (by kernel_rfl) (by kernel_rfl) (fun _ _ _ h => h) (Or.inl ⟨by rfl, ?_⟩) (by assumption) ?_
      rotate_left
      · intro wS hSw; (try dsimp only at hSw); go_simp; (try with_reducible rfl)
      try simp only [Act.put, List.setIfInBounds_toArray, List.set_cons_zero, List.set_cons_succ]
      refine takeD (i := 7) (d := some 42) (v := ?_) rfl rfl (by kernel_rfl) (by kernel_rfl) (by kernel_rfl) (fun _ _ _ h => h) (Or.inl ⟨by rfl, ?_⟩) (by assumption) ?_
      rotate_left
      · intro wS hSw; (try dsimp only at hSw); go_simp; (try with_reducible rfl)
      try simp only [Act.put, List.setIfInBounds_toArray, List.set_cons_zero, List.set_cons_succ]
      refine takeD (i := 8) (d := some 43) (v := ?_) rfl rfl (by kernel_rfl) (by kernel_rfl) (by kernel_rfl) (fun _ _ _ h => h) (Or.inl ⟨by rfl, ?_⟩) (by assumption) ?_
      rotate_left
      · intro wS hSw; (try dsimp only at hSw); go_simp; (try with_reducible rfl)
      try simp only [Act.put, List.setIfInBounds_toArray, List.set_cons_zero, List.set_cons_succ]
      refine takeD (i := 9) (d := some 44) (v := ?_) rfl rfl (by kernel_rfl) (by kernel_rfl) (by kernel_rfl) (fun _ _ _ h => h) (Or.inl ⟨by rfl, ?_⟩) (by assumption) ?_
      rotate_left
      · intro wS hSw; (try dsimp only at hSw); go_simp; (try with_reducible rfl)
      try simp only [Act.put, List.setIfInBounds_toArray, List.set_cons_zero, List.set_cons_succ]
      have hM0 := hHeld.2
      clear hoff
      refine wpAnyH_ready (rs := [3, 5]) (by kernel_rfl) (by simp) ?_
      refine consD (d := some 38) rfl rfl (fun K hK => ?_) ?_
      · refine step_append_any _ rfl (.const (.slice none 0 0)) (.tmp 37) 78 rfl (w.heap.size + 1) 48 j0 _ 7 72 Tryd.underlying78 HI.out HY.out.1 HY.out.2.1 HY.out.2.2 rfl (by omega) (.slice none 0 0) 0 [] rfl (World.ownsRow_nil _ _ _ _) B (some ⟨b, 0, none⟩) k cap ((l.take k).flatMap cutCells) rfl (rdc_pre (cells_below HC.out hbB (hM0.1.mono hB)) hbB (by rw [HL.out]; exact hk)) (cuts_one _) (by unfold maxLen; omega) (by omega) (loc_lt hM0 0 rfl) (fun v1 w1 ho1 hg1 _ => ?_)
        go_simp
        have hM1 := loc_upto hM0 (grown_below hg1 (loc_lt hM0 0 rfl) fun g hg => by cases hg) (by omega) (by simp)
        refine hK.out _ _ ⟨cells7L (loc_own hM1 0 rfl).1, hM1⟩ (fun hHeld => ?_)
        clear hK K
        try simp only [Act.put, List.setIfInBounds_toArray, List.set_cons_zero, List.set_cons_succ]
        refine wpAnyH_ready (rs := [5]) (by kernel_rfl) (by simp) ?_
        refine consD (d := some 40) rfl rfl (fun K hK => ?_) AllReadyH.nil
        go_simp
        have hM2 := loc_box hM1 (.cells #[.int .i64 ge, .int .i64 ga, .int .i64 gb, .int .i64 gc, .string gp, .string gq, .bool gf] 48)
        have ho1 := ho1.alloc (.cells #[.int .i64 ge, .int .i64 ga, .int .i64 gb, .int .i64 gc, .string gp, .string gq, .bool gf] 48)
        have hrc := rdc_new w1 (cutS ge ga gb gc gp gq gf) 48
        refine hK.out _ _ ⟨cells7L (loc_own hM2 0 rfl).1, hM2⟩ (fun hHeld => ?_)
        clear hK K
        try simp only [Act.put, List.setIfInBounds_toArray, List.set_cons_zero, List.set_cons_succ]
        refine wpAnyH_ready (rs := [6]) (by kernel_rfl) (by simp) ?_
        refine consD (d := some 41) rfl rfl (fun K hK => ?_) AllReadyH.nil
        refine step_append_any _ rfl (.tmp 38) (.tmp 40) 78 rfl (w.heap.size + 1) 48 j0 _ 7 72 Tryd.underlying78 HI.out HY.out.1 HY.out.2.1 HY.out.2.2 rfl (by omega) v1 (0 + k) ([] ++ ((l.take k).flatMap cutCells)) rfl ho1 (w1.heap.size + 1) (some ⟨w1.heap.size, 0, none⟩) 1 1 (cutCells (cutS ge ga gb gc gp gq gf)) rfl hrc (cut_one _) (by unfold maxLen; omega) (by omega) (loc_lt hM2 0 rfl) (fun v2 w2 ho2 hg2 _ => ?_)
        go_simp
        have hM3 := loc_upto hM2 (grown_below hg2 (loc_lt hM2 0 rfl) fun g hg => (ho1.lt g hg).1) (by omega) (by simp)
        refine hK.out _ _ ⟨cells7L (loc_own hM3 0 rfl).1, hM3⟩ (fun hHeld => ?_)
        clear hK K
        try simp only [Act.put, List.setIfInBounds_toArray, List.set_cons_zero, List.set_cons_succ]
        refine wpAnyH_ready (rs := [10]) (by kernel_rfl) (by simp) ?_
        refine consD (d := some 45) rfl rfl (fun K hK => ?_) AllReadyH.nil
        refine step_append_any _ rfl (.tmp 41) (.tmp 44) 78 rfl (w.heap.size + 1) 48 j0 _ 7 72 Tryd.underlying78 HI.out HY.out.1 HY.out.2.1 HY.out.2.2 rfl (by omega) v2 (0 + k + 1) ([] ++ ((l.take k).flatMap cutCells) ++ cutCells (cutS ge ga gb gc gp gq gf)) rfl ho2 B (some ⟨b, off, none⟩) 0 (cap - k) ((l.drop k).flatMap cutCells) rfl (HRS.out _ (cells_below HC.out hbB (hM3.1.mono hB))) (cuts_one _) (by unfold maxLen; omega) (by omega) (loc_lt hM3 0 rfl) (fun v3 w3 ho3 hg3 _ => ?_)
        go_simp
        have hM4 := loc_upto hM3 (grown_below hg3 (loc_lt hM3 0 rfl) fun g hg => (ho2.lt g hg).1) (by omega) (by simp)
        refine hK.out _ _ ⟨cells7L (loc_own hM4 0 rfl).1, hM4⟩ (fun hHeld => ?_)
        clear hK K
        try simp only [Act.put, List.setIfInBounds_toArray, List.set_cons_zero, List.set_cons_succ]
        refine takeD (i := 11) (d := some 4) (v := ?_) rfl rfl (by kernel_rfl) (by kernel_rfl) (by kernel_rfl) (fun _ _ _ h => h) (Or.inl ⟨by rfl, ?_⟩) (by assumption) ?_
        rotate_left
        · intro wS hSw; (try dsimp only at hSw); go_simp; (try with_reducible rfl)
        try simp only [Act.put, List.setIfInBounds_toArray, List.set_cons_zero, List.set_cons_succ]
        refine wpAnyH_done (by kernel_rfl) ?_ _
        go_wp2_with fail
        go_ret
        rw [HE.out]
        obtain ⟨A3, cap3, hv3, hc3, hl3, hr3⟩ := own_rdc (l := l.take k ++ (cutS ge ga gb gc gp gq gf) :: l.drop k) (by simpa using ho3)
        exact ⟨A3, _, cap3, row_slice hv3, hl3.symm, hc3, hr3, loc_below hM4⟩
      · refine consD (d := some 40) rfl rfl (fun K hK => ?_) AllReadyH.nil
        go_simp
        have hM1 := loc_box hM0 (.cells #[.int .i64 ge, .int .i64 ga, .int .i64 gb, .int .i64 gc, .string gp, .string gq, .bool gf] 48)
        refine hK.out _ _ ⟨cells7L (loc_own hM1 0 rfl).1, hM1⟩ (fun hHeld => ?_)
        clear hK K
        try simp only [Act.put, List.setIfInBounds_toArray, List.set_cons_zero, List.set_cons_succ]
        refine wpAnyH_ready (rs := [3]) (by kernel_rfl) (by simp) ?_
        refine consD (d := some 38) rfl rfl (fun K hK => ?_) AllReadyH.nil
        refine step_append_any _ rfl (.const (.slice none 0 0)) (.tmp 37) 78 rfl (w.heap.size + 1) 48 j0 _ 7 72 Tryd.underlying78 HI.out HY.out.1 HY.out.2.1 HY.out.2.2 rfl (by omega) (.slice none 0 0) 0 [] rfl (World.ownsRow_nil _ _ _ _) B (some ⟨b, 0, none⟩) k cap ((l.take k).flatMap cutCells) rfl (rdc_pre (cells_below HC.out hbB (hM1.1.mono hB)) hbB (by rw [HL.out]; exact hk)) (cuts_one _) (by unfold maxLen; omega) (by omega) (loc_lt hM1 0 rfl) (fun v1 w1 ho1 hg1 _ => ?_)
        go_simp
        have hM2 := loc_upto hM1 (grown_below hg1 (loc_lt hM1 0 rfl) fun g hg => by cases hg) (by omega) (by simp)
        have hgx : (World.alloc wr (.cells #[.int .i64 ge, .int .i64 ga, .int .i64 gb, .int .i64 gc, .string gp, .string gq, .bool gf] 48)).grownBy w1 none := by first | exact hg1 | exact grown_of_drew hg1 | exact grown_of_drew (grown_of_drew hg1) | exact grown_of_drew (grown_of_drew (grown_of_drew hg1))
        have hrc := (rdc_new wr (cutS ge ga gb gc gp gq gf) 48).below (grown_below (B := wr.heap.size + 1) (w := wr.alloc (.cells (cutCells (cutS ge ga gb gc gp gq gf)).toArray 48)) (w' := w1) (row := none) hgx (by simp) fun g hg => by cases hg)
        refine hK.out _ _ ⟨cells7L (loc_own hM2 0 rfl).1, hM2⟩ (fun hHeld => ?_)
        clear hK K
        try simp only [Act.put, List.setIfInBounds_toArray, List.set_cons_zero, List.set_cons_succ]
        refine wpAnyH_ready (rs := [6]) (by kernel_rfl) (by simp) ?_
        refine consD (d := some 41) rfl rfl (fun K hK => ?_) AllReadyH.nil
        refine step_append_any _ rfl (.tmp 38) (.tmp 40) 78 rfl (w.heap.size + 1) 48 j0 _ 7 72 Tryd.underlying78 HI.out HY.out.1 HY.out.2.1 HY.out.2.2 rfl (by omega) v1 (0 + k) ([] ++ ((l.take k).flatMap cutCells)) rfl ho1 _ (some ⟨_, 0, none⟩) 1 1 (cutCells (cutS ge ga gb gc gp gq gf)) rfl hrc (cut_one _) (by unfold maxLen; omega) (by omega) (loc_lt hM2 0 rfl) (fun v2 w2 ho2 hg2 _ => ?_)
        go_simp
        have hM3 := loc_upto hM2 (grown_below hg2 (loc_lt hM2 0 rfl) fun g hg => (ho1.lt g hg).1) (by omega) (by simp)
        refine hK.out _ _ ⟨cells7L (loc_own hM3 0 rfl).1, hM3⟩ (fun hHeld => ?_)
        clear hK K
        try simp only [Act.put, List.setIfInBounds_toArray, List.set_cons_zero, List.set_cons_succ]
        refine wpAnyH_ready (rs := [10]) (by kernel_rfl) (by simp) ?_
        refine consD (d := some 45) rfl rfl (fun K hK => ?_) AllReadyH.nil
        refine step_append_any _ rfl (.tmp 41) (.tmp 44) 78 rfl (w.heap.size + 1) 48 j0 _ 7 72 Tryd.underlying78 HI.out HY.out.1 HY.out.2.1 HY.out.2.2 rfl (by omega) v2 (0 + k + 1) ([] ++ ((l.take k).flatMap cutCells) ++ cutCells (cutS ge ga gb gc gp gq gf)) rfl ho2 B (some ⟨b, off, none⟩) 0 (cap - k) ((l.drop k).flatMap cutCells) rfl (HRS.out _ (cells_below HC.out hbB (hM3.1.mono hB))) (cuts_one _) (by unfold maxLen; omega) (by omega) (loc_lt hM3 0 rfl) (fun v3 w3 ho3 hg3 _ => ?_)
        go_simp
        have hM4 := loc_upto hM3 (grown_below hg3 (loc_lt hM3 0 rfl) fun g hg => (ho2.lt g hg).1) (by omega) (by simp)
        refine hK.out _ _ ⟨cells7L (loc_own hM4 0 rfl).1, hM4⟩ (fun hHeld => ?_)
        clear hK K
        try simp only [Act.put, List.setIfInBounds_toArray, List.set_cons_zero, List.set_cons_succ]
        refine takeD (i := 11) (d := some 4) (v := ?_) rfl rfl (by kernel_rfl) (by kernel_rfl) (by kernel_rfl) (fun _ _ _ h => h) (Or.inl ⟨by rfl, ?_⟩) (by assumption) ?_
        rotate_left
        · intro wS hSw; (try dsimp only at hSw); go_simp; (try with_reducible rfl)
        try simp only [Act.put, List.setIfInBounds_toArray, List.set_cons_zero, List.set_cons_succ]
        refine wpAnyH_done (by kernel_rfl) ?_ _
        go_wp2_with fail
        go_ret
        rw [HE.out]
        obtain ⟨A3, cap3, hv3, hc3, hl3, hr3⟩ := own_rdc (l := l.take k ++ (cutS ge ga gb gc gp gq gf) :: l.drop k) (by simpa using ho3)
        exact ⟨A3, _, cap3, row_slice hv3, hl3.symm, hc3, hr3, loc_below hM4⟩
end Go.Proofs.YthaagngoefieaaaDoor
