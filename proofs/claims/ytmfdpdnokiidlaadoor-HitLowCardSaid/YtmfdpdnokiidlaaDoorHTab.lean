/-
  Chapter 36: the walk of the statements' table: a table of 1 to 5 rows of 1 to 5 costs. Conditions: the list's numbers are of their kind.
-/
import Derived.Test.YtmfdpdnokiidlaaDoorHGrow
namespace Go.Proofs.YtmfdpdnokiidlaaDoor
open Go.ChangeShapes Go.WideShapes Go.ChangeAt Go.RowKit
set_option linter.unusedVariables false
set_option linter.unusedSimpArgs false

/-! The plain table. -/
def costK (k : Nat) : Int := [0, 1, 2, 4, 7, 1048576].getD k 0
def rowGo (l : List Int) (i k : Nat) : List Int := (List.range k).map fun j => costK (nextN l (i + j) 6)
def tableGo (l : List Int) : Nat → Nat → List (List Int)
  | _, 0 => []
  | i, n + 1 => rowGo l (i + 1) (1 + nextN l i 5) :: tableGo l (i + 1 + (1 + nextN l i 5)) n
def tableP (l : List Int) : List (List Int) := tableGo l 1 (1 + nextN l 0 5)
theorem row_succ (l : List Int) (i k : Nat) : rowGo l i (k + 1) = rowGo l i k ++ [costK (nextN l (i + k) 6)] := by
  unfold rowGo
  rw [List.range_succ, List.map_append]
  rfl
theorem row_len (l : List Int) (i k : Nat) : (rowGo l i k).length = k := by simp [rowGo]
theorem next_lt (l : List Int) (i : Nat) {n : Nat} (h : 0 < n) : nextN l i n < n := place_lt _ h
theorem cost_in (k : Nat) : 0 ≤ costK k ∧ costK k ≤ 1048576 := by
  unfold costK
  match k with
  | 0 => decide
  | 1 => decide
  | 2 => decide
  | 3 => decide
  | 4 => decide
  | 5 => decide
  | k + 6 => simp
theorem table_ok (l : List Int) : ∀ (n i : Nat), (tableGo l i n).length = n ∧ ∀ r ∈ tableGo l i n, (0 < r.length ∧ r.length ≤ 5) ∧ ∀ x ∈ r, 0 ≤ x ∧ x ≤ 1048576
  | 0, i => ⟨rfl, fun r hr => by simp [tableGo] at hr⟩
  | n + 1, i => by
    obtain ⟨h1, h2⟩ := table_ok l n (i + 1 + (1 + nextN l i 5))
    refine ⟨by rw [tableGo, List.length_cons, h1], fun r hr => ?_⟩
    rw [tableGo, List.mem_cons] at hr
    rcases hr with rfl | hr
    · have h3 := next_lt l i (n := 5) (by omega)
      refine ⟨by rw [row_len]; omega, fun x hx => ?_⟩
      unfold rowGo at hx
      rw [List.mem_map] at hx
      obtain ⟨j, _, rfl⟩ := hx
      exact cost_in _
    · exact h2 r hr
theorem tableP_ok (l : List Int) : (0 < (tableP l).length ∧ (tableP l).length ≤ 5) ∧ ∀ r ∈ tableP l, (0 < r.length ∧ r.length ≤ 5) ∧ ∀ x ∈ r, 0 ≤ x ∧ x ≤ 1048576 := by
  obtain ⟨h1, h2⟩ := table_ok l (1 + nextN l 0 5) 1
  have h3 := next_lt l 0 (n := 5) (by omega)
  exact ⟨by unfold tableP; rw [h1]; omega, h2⟩

/-! In memory: the rows so far. -/
def TabAt (W : World) (base : Nat) (v : Value) (rows : List (List Int)) : Prop :=
  ∃ vs : List Value, W.ownsRow base 22 1 v rows.length vs ∧ ∀ (i : Nat) (r : List Int), rows[i]? = some r → ∃ Ai ci, vs[i]? = some (.slice Ai r.length ci) ∧ r.length ≤ ci ∧ W.ownsRow base 3 1 (.slice Ai r.length ci) r.length (r.map (Value.int .i64))
theorem TabAt.stay {W W' : World} {base : Nat} {v : Value} {rows : List (List Int)} (h : TabAt W base v rows) (hk : ∀ g, base ≤ g → g < W.heap.size → W'.heap[g]? = W.heap[g]?) : TabAt W' base v rows := by
  obtain ⟨vs, h1, h2⟩ := h
  refine ⟨vs, own_stay h1 fun g _ => hk g, fun i r hr => ?_⟩
  obtain ⟨Ai, ci, g1, g2, g3⟩ := h2 i r hr
  exact ⟨Ai, ci, g1, g2, own_stay g3 fun g _ => hk g⟩
theorem TabAt.rd {W : World} {base : Nat} {v : Value} {rows : List (List Int)} (h : TabAt W base v rows) : ∃ A cap, v = .slice A rows.length cap ∧ rows.length ≤ cap ∧ RdT W W.heap.size A rows := by
  obtain ⟨vs, h1, h2⟩ := h
  have hl : vs.length = rows.length := by simpa using h1.1
  have hc : ∃ A cap, v = .slice A rows.length cap ∧ rows.length ≤ cap := by
    rcases h1.2 with ⟨e, h0⟩ | ⟨g, cap, cur, e, _, _, hcap, _⟩
    · exact ⟨none, 0, by rw [e, h0], by omega⟩
    · exact ⟨_, cap, e, hcap⟩
  obtain ⟨A, cap, rfl, hcap⟩ := hc
  obtain ⟨A2, cap2, e, hr⟩ := rd_own h1
  injection e with e1 _ e3
  subst e1
  refine ⟨A, cap, rfl, hcap, vs, hr, fun i r hi => ?_⟩
  obtain ⟨Ai, ci, g1, g2, g3⟩ := h2 i r hi
  refine ⟨Ai, ci, g1, g2, ?_⟩
  obtain ⟨A3, cap3, e, hr3⟩ := rd_own g3
  injection e with e1 _ e3
  subst e1
  exact hr3
theorem info_int : (Tryd.prog.info? 3).map (fun i => (i.zero, i.size, i.bytes)) = some (some (.int .i64 0), 1, 8) := by kernel_rfl
theorem info_ints : (Tryd.prog.info? 22).map (fun i => (i.zero, i.size, i.bytes)) = some (some (.slice none 0 0), 1, 24) := by kernel_rfl
/-- What stands between two rounds of table's loop over rows. -/
def TbAt (w W : World) (A : Option Addr) (c : Nat) (l : List Int) (v : Value) (n : Nat) : Prop :=
  ∃ (rows : List (List Int)) (i : Nat), rows ++ tableGo l i n = tableP l ∧ rows.length + n ≤ 5 ∧ i ≤ 1 + rows.length * 10 ∧ GAt w W A c l i ∧ TabAt W (w.heap.size + 1) v rows
def RwAt (w Wz W : World) (A : Option Addr) (c : Nat) (l : List Int) (i : Nat) (v : Value) (j : Nat) : Prop :=
  Wz.grownBy W (some w.heap.size) ∧ W.ownsRow Wz.heap.size 3 1 v j ((rowGo l i j).map (Value.int .i64)) ∧ GAt w W A c l (i + j)
set_option maxRecDepth 8192 in
set_option maxHeartbeats 8000000 in
theorem table_any (A : Option Addr) (c : Nat) (l : List Int) (w : World) (h : RdI w w.heap.size A l) (hl : l.length ≤ maxLen) (hw : ∀ z ∈ l, (Lit.int .i64 z).wf = true) :
    Calls Tryd.prog 10 #[.slice A l.length c] w fun e w' => (∃ A' c', e = .returned (.slice A' (tableP l).length c') ∧ (tableP l).length ≤ c' ∧ RdT w' w'.heap.size A' (tableP l)) ∧ Below w.heap.size w w' := by
  obtain ⟨j0, hj0, hy0, hy1, hy2⟩ := info_parts info_int
  obtain ⟨s0, hs0, hz0, hz1, hz2⟩ := info_parts info_ints
  have HI := Lib.hid hj0
  have HY := Lib.hid (And.intro hy0 (And.intro hy1 hy2))
  have HS := Lib.hid hs0
  have HZ := Lib.hid (And.intro hz0 (And.intro hz1 hz2))
  clear hj0 hy0 hy1 hy2 hs0 hz0 hz1 hz2
  have HG0 := Lib.hid (GAt.start (c := c) h 44)
  have CN := Lib.hid (fun (W : World) (i n : Nat) (hg : GAt w W A c l i) (hi : i ≤ 1000000) (h0 : 0 < n) (h1 : n ≤ 1048576) => gnext_any hg n hl hw hi h0 h1)
  have NL := Lib.hid (fun (i n : Nat) (h : 0 < n) => next_lt l i h)
  clear h hl hw
  obtain ⟨TT, hTT⟩ : ∃ T, tableP l = T := ⟨_, rfl⟩
  rw [hTT]
  have HTT0 := Lib.hid hTT
  clear hTT
  generalize hln : l.length = nl at *
  clear hln
  go_enter Tryd.func10, Tryd.ntmps10
  go_wp2_with fail
  generalize hW0 : w.alloc _ = W0 at *
  clear hW0
  refine (CN.out W0 0 5 HG0.out (by omega) (by omega) (by omega)).mono ?_
  rintro e w1 ⟨rfl, hG1, -⟩
  have hn0 := NL.out 0 5 (by omega)
  have HT0 := Lib.hid (show tableP l = tableGo l 1 (1 + nextN l 0 5) from rfl)
  generalize nextN l 0 5 = n0 at *
  have hst0 : TbAt w w1 A c l (.slice none 0 0) (1 + n0) := ⟨[], 1, by rw [HT0.out]; rfl, by simp; omega, by simp, hG1, [], World.ownsRow_nil _ _ _ _, fun i r hr => by simp at hr⟩
  have HST0 := Lib.hid hst0
  clear hst0 hG1 HG0
  go_wp2_with fail
  go_loopg [4, 5, 6, 7] (1 + n0) (fun k2 s4 s5 _ _ wr => ∃ v : Value, v = s4 ∧ s5 = .int .i64 (k2 : Nat) ∧ TbAt w wr A c l v k2)
  case atStart => exact ⟨.slice none 0 0, rfl, by go_num, HST0.out⟩
  case round =>
    obtain ⟨v, rfl, rfl, hst⟩ := hrel
    clear HST0
    obtain ⟨rows, i, hrows, hr5, hi, hG, hT⟩ := hst
    cases gk with
    | zero =>
      rw [tableGo, List.append_nil, HTT0.out] at hrows
      subst hrows
      obtain ⟨A2, cap2, rfl, hcap2, hrd2⟩ := hT.rd
      have hG2 := hG.bel
      clear hT
      go_wp2_with fail
      go_ret
      exact ⟨⟨A2, cap2, rfl, hcap2, hrd2⟩, hG2⟩
    | succ m =>
      have hi2 : i ≤ 41 := by omega
      have HR := Lib.hid hrows
      have HTT := Lib.hid hT
      have hn1 := NL.out i 5 (by omega)
      have i1 : (0 : Int) < ((m + 1 : Nat) : Int) := by omega
      clear hrows hT
      go_wp2_with fail
      refine (CN.out wr i 5 hG (by omega) (by omega) (by omega)).mono ?_
      rintro e w2 ⟨rfl, hG2, hg2⟩
      have hT2 : TabAt w2 (w.heap.size + 1) v rows := HTT.out.stay fun g h1 h2 => hg2.block g h2 (by intro he; cases he; omega)
      have HT2 := Lib.hid hT2
      have HTG := Lib.hid (show tableGo l i (m + 1) = rowGo l (i + 1) (1 + nextN l i 5) :: tableGo l (i + 1 + (1 + nextN l i 5)) m from rfl)
      generalize nextN l i 5 = n1 at *
      clear hT2 hg2 HTT hG
      have HR0 := Lib.hid (show RwAt w w2 w2 A c l (i + 1) (.slice none 0 0) 0 from ⟨grown_self _ _, World.ownsRow_nil _ _ _ _, hG2⟩)
      go_wp2_with fail
      go_loopg [6, 7] (1 + n1) (fun k3 s6 s7 w3 => ∃ (u : Value) (j : Nat), u = s6 ∧ s7 = .int .i64 (k3 : Nat) ∧ j + k3 = 1 + n1 ∧ RwAt w w2 w3 A c l (i + 1) u j)
      case atStart => exact ⟨.slice none 0 0, 0, rfl, by go_num, by omega, HR0.out⟩
      case round =>
        obtain ⟨u, j, rfl, rfl, hj, hgr, hrow, hG3⟩ := hrel
        clear HR0
        cases gk with
        | zero =>
          obtain rfl : j = 1 + n1 := by omega
          have hlr := row_len l (i + 1) (1 + n1)
          have hT3 : TabAt wr (w.heap.size + 1) v rows := HT2.out.stay fun g h1 h2 => hgr.block g h2 (by intro he; cases he; omega)
          have hrow2 : wr.ownsRow (w.heap.size + 1) 3 1 u (1 + n1) ((rowGo l (i + 1) (1 + n1)).map (Value.int .i64)) := own_mono hrow (by have := hG2.lt; omega)
          obtain ⟨vs, hvs, hvr⟩ := hT3
          have HVR := Lib.hid hvr
          have HRW := Lib.hid hrow2
          have hu1 : u.oneCell' = true := by
            rcases hrow2.2 with ⟨rfl, _⟩ | ⟨g, cap, cur, rfl, _⟩ <;> rfl
          have hzz := hG3.lt
          have HTD := Lib.hid (show rows ++ tableGo l i (m + 1) = (rows ++ [rowGo l (i + 1) (1 + n1)]) ++ tableGo l (i + 1 + (1 + n1)) m by rw [HTG.out]; simp)
          have hus : ∃ Au cu, u = .slice Au (1 + n1) cu ∧ 1 + n1 ≤ cu := by
            rcases hrow2.2 with ⟨e, h0⟩ | ⟨g, cap, cur, e, _, _, hcap, _⟩
            · exact ⟨none, 0, by rw [e, h0], by omega⟩
            · exact ⟨_, cap, e, hcap⟩
          clear hvr hrow hrow2 hgr
          obtain ⟨Au, cu, rfl, hcu⟩ := hus
          go_wp2_with (first | (at_builtin; go_loud (refine wpList_append_grow wr rfl (.tmp 33) (.tmp 35) 24 rfl (w.heap.size + 1) 22 s0 _ 1 24 Tryd.underlying24 HS.out HZ.out.1 HZ.out.2.1 HZ.out.2.2 rfl (by omega) v rows.length vs [.slice Au (1 + n1) cu] rfl hvs (by intro y hy; simp at hy; subst hy; rfl) (by simp [Act.eval, go_sem]) (by simp [Act.eval, go_sem]) (by omega) (by omega) (by omega) ?_); intro v5 w5 hown5 hg5) | fail)
          have hb5 : Below (w.heap.size + 1) wr w5 := (Below.refl _ _).grown hg5 (by omega) (fun k hk => (hvs.lt k hk).1)
          have hG5 : GAt w w5 A c l (i + 1 + (1 + n1)) := ⟨rdI_below hG3.rd (hb5.mono (by omega)), own_below hG3.own (by omega) hb5, Nat.lt_of_lt_of_le hG3.lt hb5.size, hG3.bel.trans (hb5.mono (by omega))⟩
          have hT5 : TabAt w5 (w.heap.size + 1) v5 (rows ++ [rowGo l (i + 1) (1 + n1)]) := by
            refine ⟨vs ++ [.slice Au (1 + n1) cu], by rw [List.length_append]; exact hown5, fun q r hq => ?_⟩
            have hvl : vs.length = rows.length := by simpa using hvs.1
            by_cases hqr : q < rows.length
            · rw [List.getElem?_append_left hqr] at hq
              obtain ⟨Ai, ci, g1, g2, g3⟩ := HVR.out q r hq
              exact ⟨Ai, ci, by rw [List.getElem?_append_left (by omega)]; exact g1, g2, own_other g3 hvs (by decide) hg5⟩
            · rw [List.getElem?_append_right (by omega)] at hq
              have hq0 : q - rows.length = 0 := by
                have := (List.getElem?_eq_some_iff.1 hq).1
                simp at this
                omega
              rw [hq0] at hq
              simp at hq
              subst hq
              refine ⟨Au, cu, by rw [List.getElem?_append_right (by omega), hvl, hq0, hlr]; rfl, by rw [hlr]; exact hcu, ?_⟩
              rw [hlr]
              exact own_other HRW.out hvs (by decide) hg5
          have HT5 := Lib.hid hT5
          have HG5 := Lib.hid hG5
          clear hT5 hG5 hown5 hg5 hb5 hu1 hvs
          go_wp2_with fail
          go_roundg m
          case rel => exact ⟨v5, rfl, by go_num, rows ++ [rowGo l (i + 1) (1 + n1)], i + 1 + (1 + n1), by rw [← HTD.out]; exact HR.out, by simp; omega, by simp; omega, HG5.out, HT5.out⟩
          case measure => omega
        | succ q =>
          have i2 : (0 : Int) < ((q + 1 : Nat) : Int) := by omega
          have hbx := box_below wr (.cells #[.int .i64 0, .int .i64 1, .int .i64 2, .int .i64 4, .int .i64 7, .int .i64 1048576] 3)
          have hGx := hG3.call hbx
          have hox : Own (wr.alloc (.cells #[.int .i64 0, .int .i64 1, .int .i64 2, .int .i64 4, .int .i64 7, .int .i64 1048576] 3)) wr.heap.size [.int .i64 0, .int .i64 1, .int .i64 2, .int .i64 4, .int .i64 7, .int .i64 1048576] := own_new wr [.int .i64 0, .int .i64 1, .int .i64 2, .int .i64 4, .int .i64 7, .int .i64 1048576] 3
          have hzx : wr.heap.size < (wr.alloc (.cells #[.int .i64 0, .int .i64 1, .int .i64 2, .int .i64 4, .int .i64 7, .int .i64 1048576] 3)).heap.size := by simp
          have hrowx := own_stay hrow fun g _ _ h2 => hbx.block g h2
          have hgx := grown_below hgr hbx
          have hz3 := hG3.lt
          have HRX := Lib.hid hrowx
          have HGX := Lib.hid hgx
          have HRS := Lib.hid (row_succ l (i + 1) j)
          clear hrow hgr hG3 hrowx hgx
          go_wp2_with fail
          generalize hWx : wr.alloc _ = Wx at *
          clear hWx
          refine (CN.out Wx (i + 1 + j) 6 hGx (by omega) (by omega) (by omega)).mono ?_
          rintro e w4 ⟨rfl, hG4, hg4⟩
          have hn6 := NL.out (i + 1 + j) 6 (by omega)
          generalize nextN l (i + 1 + j) 6 = n6 at *
          have hzg := hGx.lt
          have ho4 := own_same2 hox (hg4.block wr.heap.size hzx (by intro he; injection he with he; omega))
          have hc4 : w4.cell? ⟨wr.heap.size, n6, none⟩ = some (.int .i64 (costK n6)) := by
            refine ho4.1 n6 _ ?_
            match n6, hn6 with
            | 0, _ => rfl
            | 1, _ => rfl
            | 2, _ => rfl
            | 3, _ => rfl
            | 4, _ => rfl
            | 5, _ => rfl
          have hrow4 : w4.ownsRow w2.heap.size 3 1 u j ((rowGo l (i + 1) j).map (Value.int .i64)) := own_stay HRX.out fun g _ h1 h2 => hg4.block g h2 (by intro he; cases he; have := hG2.lt; omega)
          have hgr4 : w2.grownBy w4 (some w.heap.size) := HGX.out.trans hg4
          have hz4 := hG4.lt
          have hz24 := hgr4.size
          have i3 : (n6 : Int) < 6 := by omega
          clear hox ho4 hg4 hGx
          generalize costK n6 = cc at *
          go_wp2_with (first | (at_builtin; refine wpList_append_grow w4 rfl (.tmp 25) (.tmp 31) 22 rfl w2.heap.size 3 j0 _ 1 8 Tryd.underlying22 HI.out HY.out.1 HY.out.2.1 HY.out.2.2 rfl (by omega) u j _ [.int .i64 cc] rfl hrow4 (by simp; rfl) (by simp [Act.eval, go_sem]) (by simp [Act.eval, go_sem]) (by omega) (by omega) (by omega) ?_; intro v5 w5 hown5 hg5) | fail)
          have hb5 : Below w2.heap.size w4 w5 := (Below.refl _ _).grown hg5 (by omega) (fun k hk => (hrow4.lt k hk).1)
          have hG5 : GAt w w5 A c l (i + 1 + (j + 1)) := ⟨rdI_below hG4.rd (hb5.mono (by have := hG2.lt; omega)), own_below hG4.own hG2.lt hb5, Nat.lt_of_lt_of_le hG4.lt hb5.size, hG4.bel.trans (hb5.mono (by have := hG2.lt; omega))⟩
          have hgr5 : w2.grownBy w5 (some w.heap.size) := grown_on hgr4 hg5 fun g hg => (hrow4.lt g hg).1
          have hrow5 : w5.ownsRow w2.heap.size 3 1 v5 (j + 1) ((rowGo l (i + 1) (j + 1)).map (Value.int .i64)) := by rw [HRS.out, List.map_append]; exact hown5
          have HR5 := Lib.hid (And.intro hgr5 (And.intro hrow5 hG5))
          clear hb5 hG5 hgr5 hrow5 hown5 hg5 hrow4 hgr4 hG4
          go_wp2_with fail
          go_roundg q
          case rel => exact ⟨v5, j + 1, rfl, by go_num, by omega, HR5.out⟩
          case measure => omega
end Go.Proofs.YtmfdpdnokiidlaaDoor
