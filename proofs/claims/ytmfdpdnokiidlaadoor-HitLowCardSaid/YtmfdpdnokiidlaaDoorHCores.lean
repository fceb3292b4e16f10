/-
  Chapter 36: the walk of the statements' cores: up to five cores of 1 to 4 terms. Conditions: 1 to 1000 rows; the list's numbers are of their kind.
-/
import Derived.Test.YtmfdpdnokiidlaaDoorHTab
import Derived.Test.YtmfdpdnokiidlaaDoorHAll
namespace Go.Proofs.YtmfdpdnokiidlaaDoor
open Go.ChangeShapes Go.WideShapes Go.ChangeAt Go.RowKit
set_option linter.unusedVariables false
set_option linter.unusedSimpArgs false

/-! The plain cores. -/
def termGo (l : List Int) (rows i k : Nat) : List Tm := (List.range k).map fun j => ⟨nextN l (i + 2 * j) rows, nextN l (i + 2 * j + 1) 32⟩
def coresGo (l : List Int) (rows : Nat) : Nat → Nat → List (List Tm)
  | _, 0 => []
  | i, n + 1 => termGo l rows (i + 1) (1 + nextN l i 4) :: coresGo l rows (i + 1 + 2 * (1 + nextN l i 4)) n
def coresP (l : List Int) (rows : Nat) : List (List Tm) := coresGo l rows 1 (nextN l 0 6)
theorem term_succ (l : List Int) (rows i k : Nat) : termGo l rows i (k + 1) = termGo l rows i k ++ [⟨nextN l (i + 2 * k) rows, nextN l (i + 2 * k + 1) 32⟩] := by
  unfold termGo
  rw [List.range_succ, List.map_append]
  rfl
theorem term_len (l : List Int) (rows i k : Nat) : (termGo l rows i k).length = k := by simp [termGo]
theorem cores_ok (l : List Int) {rows : Nat} (h0 : 0 < rows) : ∀ (n i : Nat), (coresGo l rows i n).length = n ∧ ∀ k ∈ coresGo l rows i n, (0 < k.length ∧ k.length ≤ 4) ∧ ∀ x ∈ k, x.u < rows ∧ x.m < 32
  | 0, i => ⟨rfl, fun r hr => by simp [coresGo] at hr⟩
  | n + 1, i => by
    obtain ⟨h1, h2⟩ := cores_ok l h0 n (i + 1 + 2 * (1 + nextN l i 4))
    refine ⟨by rw [coresGo, List.length_cons, h1], fun r hr => ?_⟩
    rw [coresGo, List.mem_cons] at hr
    rcases hr with rfl | hr
    · have h3 := next_lt l i (n := 4) (by omega)
      refine ⟨by rw [term_len]; omega, fun x hx => ?_⟩
      unfold termGo at hx
      rw [List.mem_map] at hx
      obtain ⟨j, _, rfl⟩ := hx
      exact ⟨next_lt l _ h0, next_lt l _ (by omega)⟩
    · exact h2 r hr
theorem coresP_ok (l : List Int) {rows : Nat} (h0 : 0 < rows) : (coresP l rows).length ≤ 5 ∧ ∀ k ∈ coresP l rows, (0 < k.length ∧ k.length ≤ 4) ∧ ∀ x ∈ k, x.u < rows ∧ x.m < 32 := by
  obtain ⟨h1, h2⟩ := cores_ok l h0 (nextN l 0 6) 1
  have h3 := next_lt l 0 (n := 6) (by omega)
  exact ⟨by unfold coresP; rw [h1]; omega, h2⟩

/-! In memory: the cores so far. -/
def tmCells (x : Tm) : List Value := [.int .i64 (x.u : Nat), .int .i64 (x.m : Nat)]
theorem tm_flat : ∀ l : List Tm, (l.flatMap tmCells).length = l.length * 2
  | [] => rfl
  | x :: l => by rw [List.flatMap_cons, List.length_append, tm_flat l, List.length_cons]; simp [tmCells]; omega
theorem flat_tm : ∀ (l : List Tm) (k m : Nat) (s : Tm), l[k]? = some s → m < 2 → (l.flatMap tmCells)[k * 2 + m]? = (tmCells s)[m]?
  | [], k, m, s, h, _ => by simp at h
  | x :: l, 0, m, s, h, hm => by
    simp at h
    subst h
    rw [List.flatMap_cons, Nat.zero_mul, Nat.zero_add, List.getElem?_append_left (by simpa [tmCells] using hm)]
  | x :: l, k + 1, m, s, h, hm => by
    have e : (tmCells x).length = 2 := rfl
    rw [List.flatMap_cons, List.getElem?_append_right (by rw [e]; omega), e, show (k + 1) * 2 + m - 2 = k * 2 + m from by omega]
    exact flat_tm l k m s (by simpa using h) hm
theorem own_rdk {w : World} {base n : Nat} {e : TypeId} {v : Value} {l : List Tm} (h : w.ownsRow base e 2 v n (l.flatMap tmCells)) : ∃ A cap, v = .slice A n cap ∧ n ≤ cap ∧ l.length = n ∧ RdK w w.heap.size A l := by
  have hln : l.length = n := by have := h.1; rw [tm_flat] at this; omega
  rcases h.2 with ⟨rfl, h0⟩ | ⟨g, cap, cur, rfl, _, hh, hnc, _⟩
  · exact ⟨none, 0, by rw [h0], by omega, hln, fun h1 => absurd h1 (by omega)⟩
  · refine ⟨_, cap, rfl, hnc, hln, fun _ => ⟨g, 0, rfl, (Array.getElem?_eq_some_iff.1 hh).1, fun j r hr => ?_⟩⟩
    have hc := h.cells (g := g) rfl
    have c0 := hc (j * 2 + 0) _ ((flat_tm l j 0 r hr (by omega)).trans rfl)
    have c1 := hc (j * 2 + 1) _ ((flat_tm l j 1 r hr (by omega)).trans rfl)
    rw [add_plain, Nat.zero_add] at c0 c1
    rw [Nat.zero_add]
    exact ⟨c0, c1⟩
def CorAt (W : World) (base : Nat) (v : Value) (rows : List (List Tm)) : Prop :=
  ∃ vs : List Value, W.ownsRow base 33 1 v rows.length vs ∧ ∀ (i : Nat) (r : List Tm), rows[i]? = some r → ∃ Ai ci, vs[i]? = some (.slice Ai r.length ci) ∧ r.length ≤ ci ∧ W.ownsRow base 39 2 (.slice Ai r.length ci) r.length (r.flatMap tmCells)
theorem CorAt.stay {W W' : World} {base : Nat} {v : Value} {rows : List (List Tm)} (h : CorAt W base v rows) (hk : ∀ g, base ≤ g → g < W.heap.size → W'.heap[g]? = W.heap[g]?) : CorAt W' base v rows := by
  obtain ⟨vs, h1, h2⟩ := h
  refine ⟨vs, own_stay h1 fun g _ => hk g, fun i r hr => ?_⟩
  obtain ⟨Ai, ci, g1, g2, g3⟩ := h2 i r hr
  exact ⟨Ai, ci, g1, g2, own_stay g3 fun g _ => hk g⟩
theorem CorAt.rd {W : World} {base : Nat} {v : Value} {rows : List (List Tm)} (h : CorAt W base v rows) : ∃ A cap, v = .slice A rows.length cap ∧ rows.length ≤ cap ∧ RdKK W W.heap.size A rows := by
  obtain ⟨vs, h1, h2⟩ := h
  have hl : vs.length = rows.length := by simpa using h1.1
  have hc : ∃ A cap, v = .slice A rows.length cap ∧ rows.length ≤ cap := by
    rcases h1.2 with ⟨e, h0⟩ | ⟨g, cap, cur, e, _, _, hcap, _⟩
    · exact ⟨none, 0, by rw [e, h0], by omega⟩
    · exact ⟨_, cap, e, hcap⟩
  obtain ⟨A, cap, rfl, hcap⟩ := hc
  obtain ⟨A2, cap2, e, hr⟩ := rd_own h1
  injection e with e1 _ e3
  subst e1
  refine ⟨A, cap, rfl, hcap, vs, hr, fun i r hi => ?_⟩
  obtain ⟨Ai, ci, g1, g2, g3⟩ := h2 i r hi
  refine ⟨Ai, ci, g1, g2, ?_⟩
  obtain ⟨A3, cap3, e, _, _, hr3⟩ := own_rdk g3
  injection e with e1 _ e3
  subst e1
  exact hr3
theorem info_term : (Tryd.prog.info? 39).map (fun i => (i.zero, i.size, i.bytes)) = some (some (.agg #[.int .i64 0, .int .i64 0]), 2, 16) := by kernel_rfl
theorem info_terms : (Tryd.prog.info? 33).map (fun i => (i.zero, i.size, i.bytes)) = some (some (.slice none 0 0), 1, 24) := by kernel_rfl
/-- What stands between two rounds of cores' loop over cores. -/
def CbAt (w W : World) (A : Option Addr) (c : Nat) (l : List Int) (nr : Nat) (v : Value) (n : Nat) : Prop :=
  ∃ (rows : List (List Tm)) (i : Nat), rows ++ coresGo l nr i n = coresP l nr ∧ rows.length + n ≤ 5 ∧ i ≤ 1 + rows.length * 10 ∧ GAt w W A c l i ∧ CorAt W (w.heap.size + 1) v rows
def TmAt (w Wz W : World) (A : Option Addr) (c : Nat) (l : List Int) (nr i : Nat) (v : Value) (j : Nat) : Prop :=
  Wz.grownBy W (some w.heap.size) ∧ W.ownsRow Wz.heap.size 39 2 v j ((termGo l nr i j).flatMap tmCells) ∧ GAt w W A c l (i + 2 * j)
set_option maxRecDepth 8192 in
set_option maxHeartbeats 8000000 in
theorem cores_anyX (A : Option Addr) (c : Nat) (l : List Int) (nr : Nat) (hnr : 0 < nr ∧ nr ≤ 1000) (w : World) (h : RdI w w.heap.size A l) (hl : l.length ≤ maxLen) (hw : ∀ z ∈ l, (Lit.int .i64 z).wf = true) :
    Calls Tryd.prog 11 #[.slice A l.length c, .int .i64 (nr : Nat)] w fun e w' => (∃ v : Value, e = .returned v ∧ CorAt w' (w.heap.size + 1) v (coresP l nr)) ∧ Below w.heap.size w w' := by
  obtain ⟨j0, hj0, hy0, hy1, hy2⟩ := info_parts info_term
  obtain ⟨s0, hs0, hz0, hz1, hz2⟩ := info_parts info_terms
  have HI := Lib.hid hj0
  have HY := Lib.hid (And.intro hy0 (And.intro hy1 hy2))
  have HS := Lib.hid hs0
  have HZ := Lib.hid (And.intro hz0 (And.intro hz1 hz2))
  clear hj0 hy0 hy1 hy2 hs0 hz0 hz1 hz2
  have HG0 := Lib.hid (GAt.start (c := c) h 44)
  have CN := Lib.hid (fun (W : World) (i n : Nat) (hg : GAt w W A c l i) (hi : i ≤ 1000000) (h0 : 0 < n) (h1 : n ≤ 1048576) => gnext_any hg n hl hw hi h0 h1)
  have NL := Lib.hid (fun (i n : Nat) (h : 0 < n) => next_lt l i h)
  clear h hl hw
  obtain ⟨TT, hTT⟩ : ∃ T, coresP l nr = T := ⟨_, rfl⟩
  rw [hTT]
  have HTT0 := Lib.hid hTT
  clear hTT
  generalize hln : l.length = nl at *
  clear hln
  go_enter Tryd.func11, Tryd.ntmps11
  go_wp2_with fail
  generalize hW0 : w.alloc _ = W0 at *
  clear hW0
  refine (CN.out W0 0 6 HG0.out (by omega) (by omega) (by omega)).mono ?_
  rintro e w1 ⟨rfl, hG1, -⟩
  have hn0 := NL.out 0 6 (by omega)
  have HT0 := Lib.hid (show coresP l nr = coresGo l nr 1 (nextN l 0 6) from rfl)
  generalize nextN l 0 6 = n0 at *
  have hst0 : CbAt w w1 A c l nr (.slice none 0 0) n0 := ⟨[], 1, by rw [HT0.out]; rfl, by simp; omega, by simp, hG1, [], World.ownsRow_nil _ _ _ _, fun i r hr => by simp at hr⟩
  have HST0 := Lib.hid hst0
  clear hst0 hG1 HG0
  go_wp2_with fail
  go_loopg [6, 7, 8, 9] n0 (fun k2 s4 s5 _ _ wr => ∃ v : Value, v = s4 ∧ s5 = .int .i64 (k2 : Nat) ∧ CbAt w wr A c l nr v k2)
  case atStart => exact ⟨.slice none 0 0, rfl, by go_num, HST0.out⟩
  case round =>
    obtain ⟨v, rfl, rfl, hst⟩ := hrel
    clear HST0
    obtain ⟨rows, i, hrows, hr5, hi, hG, hT⟩ := hst
    cases gk with
    | zero =>
      rw [coresGo, List.append_nil, HTT0.out] at hrows
      subst hrows
      have hG2 := hG.bel
      have HTE := Lib.hid hT
      clear hT
      go_wp2_with fail
      go_ret
      exact ⟨⟨v, rfl, HTE.out⟩, hG2⟩
    | succ m =>
      have hi2 : i ≤ 41 := by omega
      have HR := Lib.hid hrows
      have HTT := Lib.hid hT
      have hn1 := NL.out i 4 (by omega)
      have i1 : (0 : Int) < ((m + 1 : Nat) : Int) := by omega
      clear hrows hT
      go_wp2_with fail
      refine (CN.out wr i 4 hG (by omega) (by omega) (by omega)).mono ?_
      rintro e w2 ⟨rfl, hG2, hg2⟩
      have hT2 : CorAt w2 (w.heap.size + 1) v rows := HTT.out.stay fun g h1 h2 => hg2.block g h2 (by intro he; cases he; omega)
      have HT2 := Lib.hid hT2
      have HTG := Lib.hid (show coresGo l nr i (m + 1) = termGo l nr (i + 1) (1 + nextN l i 4) :: coresGo l nr (i + 1 + 2 * (1 + nextN l i 4)) m from rfl)
      generalize nextN l i 4 = n1 at *
      clear hT2 hg2 HTT hG
      have HR0 := Lib.hid (show TmAt w w2 w2 A c l nr (i + 1) (.slice none 0 0) 0 from ⟨grown_self _ _, World.ownsRow_nil _ _ _ _, hG2⟩)
      go_wp2_with fail
      go_loopg [8, 9] (1 + n1) (fun k3 s6 s7 w3 => ∃ (u : Value) (j : Nat), u = s6 ∧ s7 = .int .i64 (k3 : Nat) ∧ j + k3 = 1 + n1 ∧ TmAt w w2 w3 A c l nr (i + 1) u j)
      case atStart => exact ⟨.slice none 0 0, 0, rfl, by go_num, by omega, HR0.out⟩
      case round =>
        obtain ⟨u, j, rfl, rfl, hj, hgr, hrow, hG3⟩ := hrel
        clear HR0
        cases gk with
        | zero =>
          obtain rfl : j = 1 + n1 := by omega
          have hlr := term_len l nr (i + 1) (1 + n1)
          have hT3 : CorAt wr (w.heap.size + 1) v rows := HT2.out.stay fun g h1 h2 => hgr.block g h2 (by intro he; cases he; omega)
          have hrow2 : wr.ownsRow (w.heap.size + 1) 39 2 u (1 + n1) ((termGo l nr (i + 1) (1 + n1)).flatMap tmCells) := own_mono hrow (by have := hG2.lt; omega)
          obtain ⟨vs, hvs, hvr⟩ := hT3
          have HVR := Lib.hid hvr
          have HRW := Lib.hid hrow2
          have hu1 : u.oneCell' = true := by
            rcases hrow2.2 with ⟨rfl, _⟩ | ⟨g, cap, cur, rfl, _⟩ <;> rfl
          have hzz := hG3.lt
          have HTD := Lib.hid (show rows ++ coresGo l nr i (m + 1) = (rows ++ [termGo l nr (i + 1) (1 + n1)]) ++ coresGo l nr (i + 1 + 2 * (1 + n1)) m by rw [HTG.out]; simp)
          have hus : ∃ Au cu, u = .slice Au (1 + n1) cu ∧ 1 + n1 ≤ cu := by
            rcases hrow2.2 with ⟨e, h0⟩ | ⟨g, cap, cur, e, _, _, hcap, _⟩
            · exact ⟨none, 0, by rw [e, h0], by omega⟩
            · exact ⟨_, cap, e, hcap⟩
          clear hvr hrow hrow2 hgr
          obtain ⟨Au, cu, rfl, hcu⟩ := hus
          go_wp2_with (first | (at_builtin; go_loud (refine wpList_append_grow wr rfl (.tmp 35) (.tmp 37) 26 rfl (w.heap.size + 1) 33 s0 _ 1 24 Tryd.underlying26 HS.out HZ.out.1 HZ.out.2.1 HZ.out.2.2 rfl (by omega) v rows.length vs [.slice Au (1 + n1) cu] rfl hvs (by intro y hy; simp at hy; subst hy; rfl) (by simp [Act.eval, go_sem]) (by simp [Act.eval, go_sem]) (by omega) (by omega) (by omega) ?_); intro v5 w5 hown5 hg5) | fail)
          have hb5 : Below (w.heap.size + 1) wr w5 := (Below.refl _ _).grown hg5 (by omega) (fun k hk => (hvs.lt k hk).1)
          have hG5 : GAt w w5 A c l (i + 1 + 2 * (1 + n1)) := ⟨rdI_below hG3.rd (hb5.mono (by omega)), own_below hG3.own (by omega) hb5, Nat.lt_of_lt_of_le hG3.lt hb5.size, hG3.bel.trans (hb5.mono (by omega))⟩
          have hT5 : CorAt w5 (w.heap.size + 1) v5 (rows ++ [termGo l nr (i + 1) (1 + n1)]) := by
            refine ⟨vs ++ [.slice Au (1 + n1) cu], by rw [List.length_append]; exact hown5, fun q r hq => ?_⟩
            have hvl : vs.length = rows.length := by simpa using hvs.1
            by_cases hqr : q < rows.length
            · rw [List.getElem?_append_left hqr] at hq
              obtain ⟨Ai, ci, g1, g2, g3⟩ := HVR.out q r hq
              exact ⟨Ai, ci, by rw [List.getElem?_append_left (by omega)]; exact g1, g2, own_other g3 hvs (by decide) hg5⟩
            · rw [List.getElem?_append_right (by omega)] at hq
              have hq0 : q - rows.length = 0 := by
                have := (List.getElem?_eq_some_iff.1 hq).1
                simp at this
                omega
              rw [hq0] at hq
              simp at hq
              subst hq
              refine ⟨Au, cu, by rw [List.getElem?_append_right (by omega), hvl, hq0, hlr]; rfl, by rw [hlr]; exact hcu, ?_⟩
              rw [hlr]
              exact own_other HRW.out hvs (by decide) hg5
          have HT5 := Lib.hid hT5
          have HG5 := Lib.hid hG5
          clear hT5 hG5 hown5 hg5 hb5 hu1 hvs
          go_wp2_with fail
          go_roundg m
          case rel => exact ⟨v5, rfl, by go_num, rows ++ [termGo l nr (i + 1) (1 + n1)], i + 1 + 2 * (1 + n1), by rw [← HTD.out]; exact HR.out, by simp; omega, by simp; omega, HG5.out, HT5.out⟩
          case measure => omega
        | succ q =>
          have i2 : (0 : Int) < ((q + 1 : Nat) : Int) := by omega
          have hz3 := hG3.lt
          have HRX := Lib.hid hrow
          have HGX := Lib.hid hgr
          have HRS := Lib.hid (term_succ l nr (i + 1) j)
          clear hrow hgr
          go_wp2_with fail
          refine (CN.out wr (i + 1 + 2 * j) nr hG3 (by omega) (by omega) (by omega)).mono ?_
          rintro e w4 ⟨rfl, hG4, hg4⟩
          have hzg := hG4.lt
          clear hG3
          go_wp2_with fail
          refine (CN.out w4 (i + 1 + 2 * j + 1) 32 hG4 (by omega) (by omega) (by omega)).mono ?_
          rintro e w5 ⟨rfl, hG5, hg5⟩
          have hzg5 := hG5.lt
          clear hG4
          obtain ⟨nu, hnu⟩ : ∃ x, nextN l (i + 1 + 2 * j) nr = x := ⟨_, rfl⟩
          obtain ⟨nm, hnm⟩ : ∃ x, nextN l (i + 1 + 2 * j + 1) 32 = x := ⟨_, rfl⟩
          rw [hnu, hnm] at HRS
          rw [hnu]
          rw [hnm]
          clear hnu hnm
          have hrow4 : w5.ownsRow w2.heap.size 39 2 u j ((termGo l nr (i + 1) j).flatMap tmCells) := own_stay (own_stay HRX.out fun g _ h1 h2 => hg4.block g h2 (by intro he; injection he with he; have := hG2.lt; omega)) fun g _ h1 h2 => hg5.block g h2 (by intro he; injection he with he; have := hG2.lt; omega)
          have hgr4 : w2.grownBy w5 (some w.heap.size) := (HGX.out.trans hg4).trans hg5
          have hz24 := hgr4.size
          clear hg4 hg5
          go_wp2_with (first | (at_builtin; refine wpList_append_grow w5 rfl (.tmp 26) (.tmp 33) 33 rfl w2.heap.size 39 j0 _ 2 16 Tryd.underlying33 HI.out HY.out.1 HY.out.2.1 HY.out.2.2 rfl (by omega) u j _ [.int .i64 (nu : Nat), .int .i64 (nm : Nat)] rfl hrow4 (by simp; exact ⟨rfl, rfl⟩) (by simp [Act.eval, go_sem]) (by simp [Act.eval, go_sem]) (by omega) (by omega) (by omega) ?_; intro v6 w6 hown6 hg6) | fail)
          have hb6 : Below w2.heap.size w5 w6 := (Below.refl _ _).grown hg6 (by omega) (fun k hk => (hrow4.lt k hk).1)
          have hG6 : GAt w w6 A c l (i + 1 + 2 * (j + 1)) := ⟨rdI_below hG5.rd (hb6.mono (by have := hG2.lt; omega)), own_below hG5.own hG2.lt hb6, Nat.lt_of_lt_of_le hG5.lt hb6.size, hG5.bel.trans (hb6.mono (by have := hG2.lt; omega))⟩
          have hgr6 : w2.grownBy w6 (some w.heap.size) := grown_on hgr4 hg6 fun g hg => (hrow4.lt g hg).1
          have hrow6 : w6.ownsRow w2.heap.size 39 2 v6 (j + 1) ((termGo l nr (i + 1) (j + 1)).flatMap tmCells) := by rw [HRS.out, List.flatMap_append]; exact hown6
          have HR6 := Lib.hid (And.intro hgr6 (And.intro hrow6 hG6))
          clear hb6 hG6 hgr6 hrow6 hown6 hg6 hrow4 hgr4 hG5
          go_wp2_with fail
          go_roundg q
          case rel => exact ⟨v6, j + 1, rfl, by go_num, by omega, HR6.out⟩
          case measure => omega
theorem cores_any (A : Option Addr) (c : Nat) (l : List Int) (nr : Nat) (hnr : 0 < nr ∧ nr ≤ 1000) (w : World) (h : RdI w w.heap.size A l) (hl : l.length ≤ maxLen) (hw : ∀ z ∈ l, (Lit.int .i64 z).wf = true) :
    Calls Tryd.prog 11 #[.slice A l.length c, .int .i64 (nr : Nat)] w fun e w' => (∃ A' c', e = .returned (.slice A' (coresP l nr).length c') ∧ (coresP l nr).length ≤ c' ∧ RdKK w' w'.heap.size A' (coresP l nr)) ∧ Below w.heap.size w w' := by
  refine (cores_anyX A c l nr hnr w h hl hw).mono ?_
  rintro e w' ⟨⟨v, rfl, h3⟩, h4⟩
  obtain ⟨A', c', rfl, h1, h2⟩ := h3.rd
  exact ⟨⟨A', c', rfl, h1, h2⟩, h4⟩
end Go.Proofs.YtmfdpdnokiidlaaDoor
