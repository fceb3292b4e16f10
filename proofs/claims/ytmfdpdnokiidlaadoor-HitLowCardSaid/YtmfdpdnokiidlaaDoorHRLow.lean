/-
  Chapter 36: the walks of the reference's low and Low. Conditions: rows of 1 to 5 costs from 0 to 2^20, at most 5 rows; masks below 32.
-/
import Derived.Test.YtmfdpdnokiidlaaDoorHLev
import Derived.Test.YtmfdpdnokiidlaaDoorHAll
import Derived.Deep.LoopGhost
import Derived.Deep.CutRange
import Derived.Deep.DeepCutAuto
namespace Go.Proofs.YtmfdpdnokiidlaaDoor
open Go.ChangeShapes Go.WideShapes Go.ChangeAt Go.RowKit
set_option linter.unusedVariables false
set_option linter.unusedSimpArgs false

theorem own_empty {w W : World} {t : TypeId} (h : w.heap.size ≤ W.heap.size) : (W.alloc (.cells #[] t)).ownsRow w.heap.size t 1 (.slice (some ⟨W.heap.size, 0, none⟩) 0 0) 0 [] :=
  ⟨rfl, .inr ⟨W.heap.size, 0, #[], rfl, h, heap_alloc_new W _, Nat.le_refl _, by unfold maxLen; omega, by simp, rfl⟩⟩
theorem rd_reads {w : World} {B n : Nat} {A : Option Addr} {l : List Int} (h : RdI w B A l) (hn : l.length = n := by rfl) : Reads w B 1 A n (l.map (Value.int .i64)) := by
  subst hn
  refine ⟨by simp, fun h0 => ?_⟩
  obtain ⟨b, off, e, hb, hc⟩ := h.2 h0
  exact ⟨⟨b, off, none⟩, e, hb, fun j u hu => by rw [add_plain]; exact hc j u hu⟩
theorem one_int (l : List Int) : ∀ u ∈ l.map (Value.int .i64), u.oneCell' = true := fun u hu => by
  rw [List.mem_map] at hu
  obtain ⟨z, _, rfl⟩ := hu
  rfl
theorem own_rdI {w : World} {base n cap : Nat} {A : Option Addr} {l : List Int} {xs : List Value} (h : w.ownsRow base 3 1 (.slice A n cap) n xs) (he : xs = l.map (Value.int .i64) ∧ l.length = n) : RdI w w.heap.size A l := by
  obtain ⟨rfl, rfl⟩ := he
  obtain ⟨A2, c2, e, hr⟩ := rd_own h
  cases e
  exact hr
theorem limApp {l : List Int} {x : Int} (h : Lim l) (hx : 0 ≤ x ∧ x ≤ 16777216) : Lim (l ++ [x]) := fun y hy => by
  rcases List.mem_append.1 hy with hy | hy
  · exact h y hy
  · simp at hy; subst hy; exact hx
/-- The best limit so far as a value. -/
def BestV2 (w : World) (o : Option (List Int)) (v : Value) : Prop := match o with
  | none => v = .slice none 0 0
  | some b => ∃ g off cap, v = .slice (some ⟨g, off, none⟩) b.length cap ∧ b.length ≤ cap ∧ RdI w w.heap.size (some ⟨g, off, none⟩) b
theorem best_below {w w' : World} {o : Option (List Int)} {v : Value} (h : BestV2 w o v) (hb : Below w.heap.size w w') : BestV2 w' o v := by
  cases o with
  | none => exact h
  | some b =>
    obtain ⟨g, off, cap, h1, h2, h3⟩ := h
    exact ⟨g, off, cap, h1, h2, rdI_more (rdI_below h3 hb) hb.size⟩
def rlStop (tot : Int) (st : Option (List Int) × Int) : Bool := st.1.isSome && decide (st.2 ≤ tot)
theorem rl_stop {t : List (List Int)} {cores : List (List Tm)} {rows : List (List Int)} {pre : List Int} {tot : Int} {st : Option (List Int) × Int} (h : rlStop tot st = true) : lowGo t cores rows pre tot st = st := by
  unfold rlStop at h
  cases rows <;> rw [lowGo, if_pos (by simpa using h)]
theorem rl_nil {t : List (List Int)} {cores : List (List Tm)} {pre : List Int} {tot : Int} {st : Option (List Int) × Int} (h : rlStop tot st = false) : lowGo t cores [] pre tot st = if (cores.all fun c => hitsR t pre c) = true then (some pre, tot) else st := by
  unfold rlStop at h
  rw [lowGo, if_neg (fun hc => by simp [hc] at h)]
def rlStep (t : List (List Int)) (cores : List (List Tm)) (rest : List (List Int)) (pre : List Int) (tot : Int) (s : Option (List Int) × Int) (c : Int) : Option (List Int) × Int := lowGo t cores rest (pre ++ [c]) (tot + c) s
theorem rl_cons {t : List (List Int)} {cores : List (List Tm)} {r : List Int} {rest : List (List Int)} {pre : List Int} {tot : Int} {st : Option (List Int) × Int} (h : rlStop tot st = false) : lowGo t cores (r :: rest) pre tot st = (levR cores pre.length r).foldl (rlStep t cores rest pre tot) st := by
  unfold rlStop at h
  rw [lowGo, if_neg (fun hc => by simp [hc] at h)]
  rfl
theorem rl_take {t : List (List Int)} {cores : List (List Tm)} {rest : List (List Int)} {pre : List Int} {tot : Int} {st : Option (List Int) × Int} {l : List Int} {i : Nat} {x : Int} (hx : l[i]? = some x) : (l.take (i + 1)).foldl (rlStep t cores rest pre tot) st = lowGo t cores rest (pre ++ [x]) (tot + x) ((l.take i).foldl (rlStep t cores rest pre tot) st) := by
  obtain ⟨hlt, rfl⟩ := List.getElem?_eq_some_iff.1 hx
  rw [List.take_succ_eq_append_getElem hlt, List.foldl_append]
  rfl
def RLow (t : List (List Int)) (cores : List (List Tm)) (A A2 : Option Addr) (c c2 : Nat) (w0 : World) (rows : List (List Int)) : Prop :=
  ∀ (pre : List Int) (tot : Int) (st : Option (List Int) × Int) (W : World) (Al : Option Addr) (cl : Nat) (bv : Value), Below w0.heap.size w0 W → t.drop pre.length = rows → pre.length ≤ t.length → Lim pre → tot = pre.sum → RdI W W.heap.size Al pre → BestV2 W st.1 bv →
    Calls Tryd.prog 35 #[.slice A t.length c, .slice A2 cores.length c2, .slice Al pre.length cl, .int .i64 tot, bv, .int .i64 st.2] W fun e w' => (∃ bv', e = .returned (.tuple #[bv', .int .i64 (lowGo t cores rows pre tot st).2]) ∧ BestV2 w' (lowGo t cores rows pre tot st).1 bv') ∧ Below W.heap.size W w'
set_option maxRecDepth 8192 in
set_option maxHeartbeats 16000000 in
theorem rlow_step (t : List (List Int)) (cores : List (List Tm)) (A A2 : Option Addr) (c c2 B : Nat) (w0 : World) (h : RdT w0 B A t) (h2 : RdKK w0 B A2 cores) (hB : B ≤ w0.heap.size) (ht : TabOk t) (htl : 0 < t.length ∧ t.length ≤ 100)
    (hx : ∀ k ∈ cores, (∀ x ∈ k, x.u ≤ 1000000 ∧ x.m < 32) ∧ k.length ≤ 1000) (hc : cores.length ≤ 1000) (rows : List (List Int)) (IH : ∀ r rest, rows = r :: rest → RLow t cores A A2 c c2 w0 rest) : RLow t cores A A2 c c2 w0 rows := by
  intro pre tot st w Al cl bv hbel hdr hple hlm htot hrl hbv
  have HIH0 := Lib.hid IH
  clear IH
  have HT := Lib.hid (rdT_below h (hbel.mono hB))
  have HK := Lib.hid (rdKK_below h2 (hbel.mono hB))
  have hBw : B ≤ w.heap.size := Nat.le_trans hB hbel.size
  have CHA := Lib.hid (hitsall_any A Al A2 c cl c2 w.heap.size t pre cores w (rdT_more HT.out hBw) hrl (rdKK_more HK.out hBw) (Nat.le_refl _) (by omega) (fun r hr => (ht r hr).1) hx)
  have CAS := Lib.hid (fun (W : World) (hb : Below w.heap.size w W) (u : Nat) => asked_any A2 c2 B cores u W (rdKK_below HK.out (hb.mono hBw)) (Nat.le_trans hBw hb.size) (fun k hk => (hx k hk).2) hc)
  have HX := Lib.hid ht
  have HRL := Lib.hid hrl
  have HBV := Lib.hid hbv
  have HLM := Lib.hid hlm
  have HTOT := Lib.hid htot
  have HB0 := Lib.hid hbel
  have hpl := congrArg List.length hdr
  rw [List.length_drop] at hpl
  have HDR0 := Lib.hid hdr
  have hsb := sum_bd hlm
  obtain ⟨R, hR⟩ : ∃ R, lowGo t cores rows pre tot st = R := ⟨_, rfl⟩
  rw [hR]
  have HR := Lib.hid hR
  clear h h2 ht hrl hbv hlm hR hdr hx hbel
  obtain ⟨sb, sl⟩ := st
  obtain ⟨sp, hsp⟩ : ∃ b, rlStop tot (sb, sl) = b := ⟨_, rfl⟩
  have HSP := Lib.hid hsp
  clear hsp
  generalize hnn : t.length = N at *
  have HN := Lib.hid hnn
  clear hnn
  generalize hmm : cores.length = m at *
  have HM := Lib.hid hmm
  clear hmm
  generalize hpp : pre.length = pl at *
  have HPL := Lib.hid hpp
  clear hpp
  obtain ⟨s0, hs0, hz0, hz1, hz2⟩ := info_parts info_int
  have HS := Lib.hid hs0
  have HZ := Lib.hid (And.intro hz0 (And.intro hz1 hz2))
  clear hs0 hz0 hz1 hz2
  have ht0 : 0 ≤ tot ∧ tot ≤ 1677721600 := by rw [htot]; omega
  clear htot hsb
  dsimp only
  go_enter Tryd.func35, Tryd.ntmps35
  go_upto_region 1 with fail
  go_cut [23] from 17 to 23 (fun v wx => v = .bool sp ∧ w = wx)
  case first =>
    cases sb with
    | none =>
      obtain rfl : bv = .slice none 0 0 := HBV.out
      obtain rfl : sp = false := by rw [← HSP.out]; rfl
      go_wp2_with fail
      go_meet
      exact ⟨rfl, rfl⟩
    | some b =>
      obtain ⟨gb, ob, cb, rfl, _, _⟩ := HBV.out
      by_cases hle : sl ≤ tot
      · obtain rfl : sp = true := by rw [← HSP.out]; simp [rlStop, hle]
        go_wp2_with fail
        go_meet
        exact ⟨rfl, rfl⟩
      · obtain rfl : sp = false := by rw [← HSP.out]; simp [rlStop, hle]
        go_wp2_with fail
        go_meet
        exact ⟨rfl, rfl⟩
  case rest =>
    obtain ⟨rfl, rfl⟩ := hcut
    cases sp with
    | true =>
      obtain rfl : R = (sb, sl) := by rw [← HR.out]; exact rl_stop HSP.out
      go_wp2_with fail
      go_returns
      exact ⟨⟨bv, rfl, HBV.out⟩, Below.refl _ _⟩
    | false =>
      cases rows with
      | nil =>
        have hlen : pl = N := by simp at hpl; omega
        subst hlen
        have HRN := Lib.hid (rl_nil (t := t) (cores := cores) (pre := pre) (tot := tot) (st := (sb, sl)) HSP.out)
        rw [HR.out] at HRN
        generalize (cores.all fun c => hitsR t pre c) = al at *
        go_wp2_with fail
        refine (CHA.out (by omega) hc).mono ?_
        rintro e w1 ⟨rfl, hb1⟩
        cases al with
        | false =>
          obtain rfl : R = (sb, sl) := by rw [HRN.out]; rfl
          have hbb := best_below HBV.out hb1
          go_wp2_with fail
          go_returns
          exact ⟨⟨bv, rfl, hbb⟩, hb1⟩
        | true =>
          obtain rfl : R = (some pre, tot) := by rw [HRN.out]; rfl
          have bx := box_below w1 (.cells #[] 3)
          have oe : (w1.alloc (.cells #[] 3)).ownsRow w.heap.size 3 1 (.slice (some ⟨w1.heap.size, 0, none⟩) 0 0) 0 [] := own_empty hb1.size
          have hrd := rd_reads (rdI_below HRL.out (hb1.trans (bx.mono hb1.size))) HPL.out
          have hz1 := (hb1.trans (bx.mono hb1.size)).size
          go_wp2_with (first | (at_builtin; refine wpList_append_any (w := w1.alloc (.cells #[] 3)) rfl (.tmp 36) (.tmp 37) 22 rfl w.heap.size 3 s0 _ 1 8 Tryd.underlying22 HS.out HZ.out.1 HZ.out.2.1 HZ.out.2.2 rfl (by omega) (.slice (some ⟨w1.heap.size, 0, none⟩) 0 0) 0 [] (by simp [Act.eval, go_sem]) oe w.heap.size Al pl cl (pre.map (Value.int .i64)) (by simp [Act.eval, go_sem]) hrd (one_int pre) (by unfold maxLen; omega) (by omega) hz1 ?_; intro v5 w5 o5 g5 _; obtain ⟨A5, c5, rfl, hc5⟩ := own_slice o5; rw [Nat.zero_add, List.nil_append] at o5) | fail)
          have b5 : Below w.heap.size w w5 := (hb1.trans (bx.mono hb1.size)).trans ((Below.refl _ _).grown g5 hz1 (fun gg hgg => (oe.lt gg hgg).1))
          have hA5 : ∃ g, A5 = some ⟨g, 0, none⟩ := by
            rcases o5.2 with ⟨e, h0⟩ | ⟨g, cap, cur, e, _⟩
            · omega
            · cases e; exact ⟨g, rfl⟩
          obtain ⟨g, rfl⟩ := hA5
          have HR5 := Lib.hid (own_rdI (l := pre) o5 ⟨rfl, by have := HPL.out; omega⟩)
          clear o5 oe hrd g5
          go_wp2_with fail
          go_returns
          exact ⟨⟨_, rfl, ⟨g, 0, c5, by simp [HPL.out], by have := HPL.out; omega, HR5.out⟩⟩, b5⟩
      | cons r rest =>
        have hlt : pl < N := by simp at hpl; omega
        have i1 : ¬ (pl : Int) = (N : Int) := by omega
        have i2 : (pl : Int) < (N : Int) := by omega
        have hdd : t.drop pl = t[pl]'(by rw [HN.out]; exact hlt) :: t.drop (pl + 1) := List.drop_eq_getElem_cons _
        have hdr : t.drop pl = r :: rest := HDR0.out
        rw [hdd] at hdr
        injection hdr with hr hrest
        have hxk : t[pl]? = some r := by rw [List.getElem?_eq_getElem (by rw [HN.out]; exact hlt), hr]
        have hmem : r ∈ t := List.mem_of_getElem? hxk
        have HDR : ∀ x : Int, Hid (t.drop (pre ++ [x]).length = rest ∧ (pre ++ [x]).length ≤ t.length) := fun x => Lib.hid (by rw [List.length_append, HPL.out]; exact ⟨hrest, by rw [HN.out]; simp; omega⟩)
        have HIH := Lib.hid (HIH0.out r rest rfl)
        have HRC := Lib.hid (rl_cons (t := t) (cores := cores) (r := r) (rest := rest) (pre := pre) (tot := tot) (st := (sb, sl)) HSP.out)
        rw [HR.out, HPL.out] at HRC
        obtain ⟨b, off, Ai, ci, rfl, hb, hcell, hci, hri⟩ := rdT_at HT.out hxk
        obtain ⟨⟨hr0, hr5⟩, hrb⟩ := HX.out r hmem
        have HXR := Lib.hid hrb
        have hlv := levels_any Ai ci B r w hri hBw hr0 hr5
        have hlok := levels_ok (row := r) (by intro e; rw [e] at hr0; simp at hr0)
        have hlevm := (lev_ok (cores := cores) (u := pl) (row := r) (by intro e; rw [e] at hr0; simp at hr0)).2.1
        have HLEVM := Lib.hid hlevm
        have hl0 : 0 < (levelsR r).length := by
          have h1 := (hlok.2 (r[0]'hr0)).2 (List.getElem_mem hr0)
          exact List.length_pos_of_mem h1
        have hl5 : (levelsR r).length ≤ 5 := by
          have e : levelsR r = lvK r r.length := by unfold levelsR lvK; rw [if_neg (fun e => by rw [e] at hr0; simp at hr0), List.take_length]
          rw [e]
          have := lvK_len r r.length
          omega
        have HLEV := Lib.hid (show levR cores pl r = if askedR cores pl = true then levelsR r else (levelsR r).take 1 from rfl)
        clear hdd hr hrest hxk hmem hri hrb hlok hlevm
        generalize r.length = rl at *
        generalize levelsR r = LV at *
        generalize levR cores pl r = lev at *
        generalize hLVn : LV.length = nv at *
        go_wp2_with fail
        refine hlv.mono ?_
        rintro e w1 ⟨⟨v1, rfl, ho1⟩, hb1⟩
        obtain ⟨Av, cv, rfl, hcv⟩ := own_slice ho1
        have HO1 := Lib.hid ho1
        have has := CAS.out w1 hb1 pl
        generalize askedR cores pl = ask at *
        clear hlv ho1
        go_wp2_with fail
        refine has.mono ?_
        rintro e w2 ⟨rfl, rfl⟩
        go_upto_if 50 with fail
        go_cut [15] (fun v wx => ∃ (nl : Nat), nl = lev.length ∧ v = .slice Av nl cv ∧ nl ≤ 5 ∧ Hid (w1.ownsRow w.heap.size 3 1 (.slice Av nl cv) nl (lev.map (Value.int .i64))) ∧ w1 = wx)
        case first =>
          cases ask with
          | true =>
            obtain rfl : lev = LV := by rw [HLEV.out]; rfl
            go_wp2_with fail
            go_meet
            exact ⟨nv, hLVn.symm, rfl, hl5, HO1, rfl⟩
          | false =>
            obtain rfl : lev = LV.take 1 := by rw [HLEV.out]; rfl
            have i3 : (1 : Int) ≤ (cv : Int) := by omega
            go_wp2_with fail
            go_meet
            exact ⟨1, by rw [List.length_take]; omega, rfl, by omega, Lib.hid (by rw [List.map_take]; exact own_cut HO1.out (by omega)), rfl⟩
        case rest =>
          obtain ⟨nl, hnl, rfl, hnl5, HOL, rfl⟩ := hcut
          have HNL := Lib.hid hnl.symm
          clear hnl
          have hb01 : Below w0.heap.size w0 w1 := HB0.out.trans (hb1.mono HB0.out.size)
          have H0 := Lib.hid (show BestV2 w1 sb bv from best_below HBV.out hb1)
          go_wp2_with fail
          go_loopg [4, 5, 16, 59] nl (fun k2 s4 s5 s16 _ wr => ∃ (i : Nat) (sti : Option (List Int) × Int) (bvi : Value), i + k2 = nl ∧ bvi = s4 ∧ s5 = .int .i64 sti.2 ∧ s16 = .int .i64 i ∧ sti = (lev.take i).foldl (rlStep t cores rest pre tot) (sb, sl) ∧ BestV2 wr sti.1 bvi ∧ Below w1.heap.size w1 wr)
          case atStart => exact ⟨0, (sb, sl), bv, by omega, rfl, rfl, rfl, rfl, H0.out, Below.refl _ _⟩
          case round =>
            obtain ⟨i, sti, bvi, hi, rfl, rfl, rfl, hsti, hbi, hbw2⟩ := hrel
            have HBI := Lib.hid hbi
            have HSTI := Lib.hid hsti
            clear H0 hbi hsti
            by_cases hil : i < nl
            · have i5 : (i : Int) < (nl : Int) := by omega
              obtain ⟨x, hxi⟩ : ∃ x, lev[i]? = some x := ⟨_, List.getElem?_eq_getElem (by rw [HNL.out]; exact hil)⟩
              have HFS := Lib.hid (rl_take (t := t) (cores := cores) (rest := rest) (pre := pre) (tot := tot) (st := (sb, sl)) hxi)
              rw [← HSTI.out] at HFS
              have hxr := HXR.out x (HLEVM.out x (List.mem_of_getElem? hxi))
              have HXB := Lib.hid hxr
              have hwr : IntKind.i64.wrap (tot + x) = tot + x := IntWalk.i64_in _ (by omega)
              have hgl : ∃ gl, Av = some ⟨gl, 0, none⟩ ∧ gl < w1.heap.size ∧ w1.cell? ⟨gl, i, none⟩ = some (.int .i64 x) := by
                rcases HOL.out.2 with ⟨e, h0⟩ | ⟨gl, cap, cur, e, _, hh, _⟩
                · omega
                · cases e
                  refine ⟨gl, rfl, (Array.getElem?_eq_some_iff.1 hh).1, ?_⟩
                  have h := HOL.out.cells (g := gl) rfl i (.int .i64 x) (by rw [List.getElem?_map, hxi]; rfl)
                  rwa [add_plain, Nat.zero_add] at h
              obtain ⟨gl, rfl, hgl1, x00⟩ := hgl
              have x0 := (hbw2.cell (p := ⟨gl, i, none⟩) hgl1).trans x00
              have hgl : gl < wr.heap.size := Nat.lt_of_lt_of_le hgl1 hbw2.size
              have hb0r : Below w0.heap.size w0 wr := hb01.trans (hbw2.mono hb01.size)
              have hzz := (hb1.trans (hbw2.mono hb1.size)).size
              have HRLR := Lib.hid (rdI_more (rdI_below HRL.out (hb1.trans (hbw2.mono hb1.size))) hzz)
              have HDR := HDR x
              clear hxi hxr x00
              go_wp2_with fail
              refine wp_region_held_drew (S := fun W => W.cell? ⟨gl, i, none⟩ = some (.int .i64 x)) (by kernel_rfl) x0 (fun hHeld => ?_)
              refine takeD (i := 0) (d := some 60) (v := ?_) rfl rfl (by kernel_rfl) (by kernel_rfl) (by kernel_rfl) (fun _ _ _ h => h) (Or.inl ⟨by rfl, ?_⟩) (by assumption) ?_
              rotate_left
              · intro wS hSw; (try dsimp only at hSw); go_simp; (try with_reducible rfl)
              try simp only [Act.put, List.setIfInBounds_toArray, List.set_cons_zero, List.set_cons_succ]
              refine takeD (i := 1) (d := some 61) (v := ?_) rfl rfl (by kernel_rfl) (by kernel_rfl) (by kernel_rfl) (fun _ _ _ h => h) (Or.inl ⟨by rfl, ?_⟩) (by assumption) ?_
              rotate_left
              · intro wS hSw; (try dsimp only at hSw); go_simp; (try with_reducible rfl)
              try simp only [Act.put, List.setIfInBounds_toArray, List.set_cons_zero, List.set_cons_succ]
              refine takeD (i := 3) (d := some 63) (v := ?_) rfl rfl (by kernel_rfl) (by kernel_rfl) (by kernel_rfl) (fun _ _ _ h => h) (Or.inl ⟨by rfl, ?_⟩) (by assumption) ?_
              rotate_left
              · intro wS hSw; (try dsimp only at hSw); go_simp; (try with_reducible rfl)
              try simp only [Act.put, List.setIfInBounds_toArray, List.set_cons_zero, List.set_cons_succ]
              refine takeD (i := 5) (d := some 65) (v := ?_) rfl rfl (by kernel_rfl) (by kernel_rfl) (by kernel_rfl) (fun _ _ _ h => h) (Or.inl ⟨by rfl, ?_⟩) (by assumption) ?_
              rotate_left
              · intro wS hSw; (try dsimp only at hSw); go_simp; (try with_reducible rfl)
              try simp only [Act.put, List.setIfInBounds_toArray, List.set_cons_zero, List.set_cons_succ]
              refine takeD (i := 6) (d := some 66) (v := ?_) rfl rfl (by kernel_rfl) (by kernel_rfl) (by kernel_rfl) (fun _ _ _ h => h) (Or.inl ⟨by rfl, ?_⟩) (by assumption) ?_
              rotate_left
              · intro wS hSw; (try dsimp only at hSw); go_simp; (try with_reducible rfl)
              try simp only [Act.put, List.setIfInBounds_toArray, List.set_cons_zero, List.set_cons_succ]
              refine takeD (i := 7) (d := some 67) (v := ?_) rfl rfl (by kernel_rfl) (by kernel_rfl) (by kernel_rfl) (fun _ _ _ h => h) (Or.inl ⟨by rfl, ?_⟩) (by assumption) ?_
              rotate_left
              · intro wS hSw; (try dsimp only at hSw); go_simp; (try with_reducible rfl)
              try simp only [Act.put, List.setIfInBounds_toArray, List.set_cons_zero, List.set_cons_succ]
              refine takeD (i := 8) (d := some 68) (v := ?_) rfl rfl (by kernel_rfl) (by kernel_rfl) (by kernel_rfl) (fun _ _ _ h => h) (Or.inl ⟨by rfl, ?_⟩) (by assumption) ?_
              rotate_left
              · intro wS hSw; (try dsimp only at hSw); go_simp; (try with_reducible rfl)
              try simp only [Act.put, List.setIfInBounds_toArray, List.set_cons_zero, List.set_cons_succ]
              refine takeD (i := 11) (d := some 71) (v := ?_) rfl rfl (by kernel_rfl) (by kernel_rfl) (by kernel_rfl) (fun _ _ _ h => h) (Or.inl ⟨by rfl, ?_⟩) (by assumption) ?_
              rotate_left
              · intro wS hSw; (try dsimp only at hSw); go_simp; (try with_reducible rfl)
              try simp only [Act.put, List.setIfInBounds_toArray, List.set_cons_zero, List.set_cons_succ]
              refine takeD (i := 12) (d := some 72) (v := ?_) rfl rfl (by kernel_rfl) (by kernel_rfl) (by kernel_rfl) (fun _ _ _ h => h) (Or.inl ⟨by rfl, ?_⟩) (by assumption) ?_
              rotate_left
              · intro wS hSw; (try dsimp only at hSw); go_simp; (try with_reducible rfl)
              try simp only [Act.put, List.setIfInBounds_toArray, List.set_cons_zero, List.set_cons_succ]
              refine takeD (i := 13) (d := some 73) (v := ?_) rfl rfl (by kernel_rfl) (by kernel_rfl) (by kernel_rfl) (fun _ _ _ h => h) (Or.inl ⟨by rfl, ?_⟩) (by assumption) ?_
              rotate_left
              · intro wS hSw; (try dsimp only at hSw); go_simp; (try with_reducible rfl)
              try simp only [Act.put, List.setIfInBounds_toArray, List.set_cons_zero, List.set_cons_succ]
              refine takeD (i := 14) (d := some 74) (v := ?_) rfl rfl (by kernel_rfl) (by kernel_rfl) (by kernel_rfl) (fun _ _ _ h => h) (Or.inl ⟨by rfl, ?_⟩) (by assumption) ?_
              rotate_left
              · intro wS hSw; (try dsimp only at hSw); go_simp; (try with_reducible rfl)
              try simp only [Act.put, List.setIfInBounds_toArray, List.set_cons_zero, List.set_cons_succ]
              refine takeD (i := 15) (d := some 75) (v := ?_) rfl rfl (by kernel_rfl) (by kernel_rfl) (by kernel_rfl) (fun _ _ _ h => h) (Or.inl ⟨by rfl, ?_⟩) (by assumption) ?_
              rotate_left
              · intro wS hSw; (try dsimp only at hSw); go_simp; (try with_reducible rfl)
              try simp only [Act.put, List.setIfInBounds_toArray, List.set_cons_zero, List.set_cons_succ]
              refine takeD (i := 16) (d := some 76) (v := .int .i64 (tot + x)) rfl rfl (by kernel_rfl) (by kernel_rfl) (by kernel_rfl) (fun _ _ _ h => h) (Or.inl ⟨by rfl, ?_⟩) (by assumption) ?_
              · intro wS hSw; (try dsimp only at hSw); go_simp; (try simp [hwr]); (try with_reducible rfl)
              try simp only [Act.put, List.setIfInBounds_toArray, List.set_cons_zero, List.set_cons_succ]
              refine takeD (i := 17) (d := some 77) (v := ?_) rfl rfl (by kernel_rfl) (by kernel_rfl) (by kernel_rfl) (fun _ _ _ h => h) (Or.inl ⟨by rfl, ?_⟩) (by assumption) ?_
              rotate_left
              · intro wS hSw; (try dsimp only at hSw); go_simp; (try with_reducible rfl)
              try simp only [Act.put, List.setIfInBounds_toArray, List.set_cons_zero, List.set_cons_succ]
              refine takeD (i := 18) (d := some 78) (v := ?_) rfl rfl (by kernel_rfl) (by kernel_rfl) (by kernel_rfl) (fun _ _ _ h => h) (Or.inl ⟨by rfl, ?_⟩) (by assumption) ?_
              rotate_left
              · intro wS hSw; (try dsimp only at hSw); go_simp; (try with_reducible rfl)
              try simp only [Act.put, List.setIfInBounds_toArray, List.set_cons_zero, List.set_cons_succ]
              have bw0 : Below wr.heap.size wr wr.drew := (Below.refl _ _).drew
              have x0 : wr.drew.cell? ⟨gl, i, none⟩ = some (.int .i64 x) := x0
              have hgl0 : gl < wr.drew.heap.size := hgl
              generalize wr.drew = W0 at *
              refine wpAnyH_ready (rs := [2, 9]) (by kernel_rfl) (by simp) ?_
              refine consD (d := some 62) rfl rfl (fun KK hKK => ?_) (consD (d := some 69) rfl rfl (fun KK hKK => ?_) AllReadyH.nil)
              · go_simp
                have bx0 : Below W0.heap.size W0 (W0.alloc (.cells #[] 3)) := box_below _ _
                have oe : (W0.alloc (.cells #[] 3)).ownsRow wr.heap.size 3 1 (.slice (some ⟨W0.heap.size, 0, none⟩) 0 0) 0 [] := own_empty bw0.size
                have zz0 : W0.heap.size < (W0.alloc (.cells #[] 3)).heap.size := by simp
                have bw1 := bw0.trans (bx0.mono bw0.size)
                have x1 := (bx0.cell (p := ⟨gl, i, none⟩) (show gl < _ by have := bw0.size; omega)).trans x0
                generalize hWW : W0.alloc _ = W1 at *
                clear hWW
                refine hKK.out _ _ x1 (fun hHeld => ?_)
                clear hKK KK
                try simp only [Act.put, List.setIfInBounds_toArray, List.set_cons_zero, List.set_cons_succ]
                refine wpAnyH_ready (rs := [4, 9]) (by kernel_rfl) (by simp) ?_
                refine consD (d := some 64) rfl rfl (fun KK hKK => ?_) (consD (d := some 69) rfl rfl (fun KK hKK => ?_) AllReadyH.nil)
                · refine step_append_any (w := W1) (P := Tryd.prog) rfl (.tmp 62) (.tmp 63) 22 rfl wr.heap.size 3 s0 _ 1 8 Tryd.underlying22 HS.out HZ.out.1 HZ.out.2.1 HZ.out.2.2 rfl (by omega) (.slice (some ⟨W0.heap.size, 0, none⟩) 0 0) 0 [] rfl oe wr.heap.size Al pl cl (pre.map (Value.int .i64)) rfl (rd_reads (rdI_below HRLR.out bw1) HPL.out) (one_int pre) (by unfold maxLen; omega) (by omega) bw1.size ?_
                  intro v4 W2 o4 g4 k4
                  rw [Nat.zero_add, List.nil_append] at o4
                  have b4 : Below wr.heap.size W1 W2 := (Below.refl _ _).grown g4 bw1.size (fun gg hgg => (oe.lt gg hgg).1)
                  have bw2 := bw1.trans b4
                  have x2 := (b4.cell (p := ⟨gl, i, none⟩) (show gl < _ by omega)).trans x1
                  clear b4 g4 oe
                  refine hKK.out _ _ x2 (fun hHeld => ?_)
                  clear hKK KK
                  try simp only [Act.put, List.setIfInBounds_toArray, List.set_cons_zero, List.set_cons_succ]
                  refine wpAnyH_ready (rs := [9]) (by kernel_rfl) (by simp) ?_
                  refine consD (d := some 69) rfl rfl (fun KK hKK => ?_) AllReadyH.nil
                  go_simp
                  have bx2 : Below W2.heap.size W2 (W2.alloc (.cells #[.int .i64 x] 3)) := box_below _ _
                  have ox : Own (W2.alloc (.cells #[.int .i64 x] 3)) W2.heap.size [.int .i64 x] := own_new W2 [.int .i64 x] 3
                  have zx : W2.heap.size < (W2.alloc (.cells #[.int .i64 x] 3)).heap.size := by simp
                  have zz2 : W2.heap.size < (W2.alloc (.cells #[.int .i64 x] 3)).heap.size := by simp
                  have bw3 := bw2.trans (bx2.mono bw2.size)
                  have x3 := (bx2.cell (p := ⟨gl, i, none⟩) (show gl < _ by have := bw2.size; omega)).trans x2
                  have o4 := own_keep o4 bx2
                  generalize hWW : W2.alloc _ = W3 at *
                  clear hWW
                  refine hKK.out _ _ x3 (fun hHeld => ?_)
                  clear hKK KK
                  try simp only [Act.put, List.setIfInBounds_toArray, List.set_cons_zero, List.set_cons_succ]
                  refine wpAnyH_ready (rs := [10]) (by kernel_rfl) (by simp) ?_
                  refine consD (d := some 70) rfl rfl (fun KK hKK => ?_) AllReadyH.nil
                  refine step_append_any (w := W3) (P := Tryd.prog) rfl (.tmp 64) (.tmp 69) 22 rfl wr.heap.size 3 s0 _ 1 8 Tryd.underlying22 HS.out HZ.out.1 HZ.out.2.1 HZ.out.2.2 rfl (by omega) v4 pl _ rfl o4 W3.heap.size (some ⟨W2.heap.size, 0, none⟩) 1 1 [.int .i64 x] rfl (reads_box ox zx) (by intro yy hy; simp at hy; subst hy; rfl) (by unfold maxLen; omega) (by omega) bw3.size ?_
                  intro v5 W4 o5 g5 _
                  have b5 : Below wr.heap.size W3 W4 := (Below.refl _ _).grown g5 bw3.size (fun gg hgg => (o4.lt gg hgg).1)
                  have bw4 := bw3.trans b5
                  have x4 := (b5.cell (p := ⟨gl, i, none⟩) (show gl < _ by omega)).trans x3
                  obtain ⟨A5, c5, rfl, hc5⟩ := own_slice o5
                  clear b5 g5 ox zx
                  refine hKK.out _ _ x4 (fun hHeld => ?_)
                  clear hKK KK
                  try simp only [Act.put, List.setIfInBounds_toArray, List.set_cons_zero, List.set_cons_succ]
                  have hih := HIH.out (pre ++ [x]) (tot + x) sti W4 A5 c5 bvi (hb0r.trans (bw4.mono hb0r.size)) HDR.out.1 HDR.out.2 (limApp HLM.out HXB.out) (by rw [HTOT.out]; simp) (own_rdI o5 (by simp [HPL.out])) (best_below HBI.out bw4)
                  rw [show (pre ++ [x]).length = pl + 1 by simp [HPL.out], HN.out, HM.out] at hih
                  refine wpAnyH_ready (rs := [19]) (by kernel_rfl) (by simp) ?_
                  refine consD (d := some 79) rfl rfl (fun KK hKK => ?_) AllReadyH.nil
                  go_simp
                  (go_at_call 35; (with_reducible refine hih.mono ?_); rintro e W9 ⟨⟨bv9, rfl, hb9⟩, bw9⟩)
                  have bwr9 := bw4.trans (bw9.mono bw4.size)
                  have x9 := (bw9.cell (p := ⟨gl, i, none⟩) (show gl < _ by have := bw4.size; omega)).trans x4
                  refine hKK.out _ _ x9 (fun hHeld => ?_)
                  clear hKK KK
                  try simp only [Act.put, List.setIfInBounds_toArray, List.set_cons_zero, List.set_cons_succ]
                  refine takeD (i := 20) (d := some 59) (v := ?_) rfl rfl (by kernel_rfl) (by kernel_rfl) (by kernel_rfl) (fun _ _ _ h => h) (Or.inl ⟨by rfl, ?_⟩) (by assumption) ?_
                  rotate_left
                  · intro wS hSw; (try dsimp only at hSw); go_simp; (try with_reducible rfl)
                  try simp only [Act.put, List.setIfInBounds_toArray, List.set_cons_zero, List.set_cons_succ]
                  refine takeD (i := 21) (d := some 80) (v := ?_) rfl rfl (by kernel_rfl) (by kernel_rfl) (by kernel_rfl) (fun _ _ _ h => h) (Or.inl ⟨by rfl, ?_⟩) (by assumption) ?_
                  rotate_left
                  · intro wS hSw; (try dsimp only at hSw); go_simp; (try with_reducible rfl)
                  try simp only [Act.put, List.setIfInBounds_toArray, List.set_cons_zero, List.set_cons_succ]
                  refine takeD (i := 22) (d := some 81) (v := ?_) rfl rfl (by kernel_rfl) (by kernel_rfl) (by kernel_rfl) (fun _ _ _ h => h) (Or.inl ⟨by rfl, ?_⟩) (by assumption) ?_
                  rotate_left
                  · intro wS hSw; (try dsimp only at hSw); go_simp; (try with_reducible rfl)
                  try simp only [Act.put, List.setIfInBounds_toArray, List.set_cons_zero, List.set_cons_succ]
                  refine takeD (i := 23) (d := some 4) (v := ?_) rfl rfl (by kernel_rfl) (by kernel_rfl) (by kernel_rfl) (fun _ _ _ h => h) (Or.inl ⟨by rfl, ?_⟩) (by assumption) ?_
                  rotate_left
                  · intro wS hSw; (try dsimp only at hSw); go_simp; (try with_reducible rfl)
                  try simp only [Act.put, List.setIfInBounds_toArray, List.set_cons_zero, List.set_cons_succ]
                  refine takeD (i := 24) (d := some 5) (v := ?_) rfl rfl (by kernel_rfl) (by kernel_rfl) (by kernel_rfl) (fun _ _ _ h => h) (Or.inl ⟨by rfl, ?_⟩) (by assumption) ?_
                  rotate_left
                  · intro wS hSw; (try dsimp only at hSw); go_simp; (try with_reducible rfl)
                  try simp only [Act.put, List.setIfInBounds_toArray, List.set_cons_zero, List.set_cons_succ]
                  refine wpAnyH_done (by kernel_rfl) ?_ _
                  have HB9 := Lib.hid hb9
                  clear hih
                  go_wp2_with fail
                  go_roundg (nl - (i + 1))
                  case rel => exact ⟨i + 1, _, bv9, by omega, rfl, rfl, by go_num, by rw [HFS.out], HB9.out, hbw2.trans (bwr9.mono hbw2.size)⟩
                  case measure => omega
                · go_simp
                  have bx1 : Below W1.heap.size W1 (W1.alloc (.cells #[.int .i64 x] 3)) := box_below _ _
                  have ox : Own (W1.alloc (.cells #[.int .i64 x] 3)) W1.heap.size [.int .i64 x] := own_new W1 [.int .i64 x] 3
                  have zx : W1.heap.size < (W1.alloc (.cells #[.int .i64 x] 3)).heap.size := by simp
                  have zz1 : W1.heap.size < (W1.alloc (.cells #[.int .i64 x] 3)).heap.size := by simp
                  have bw2 := bw1.trans (bx1.mono bw1.size)
                  have x2 := (bx1.cell (p := ⟨gl, i, none⟩) (show gl < _ by have := bw1.size; omega)).trans x1
                  have oe := own_keep oe bx1
                  generalize hWW : W1.alloc _ = W2 at *
                  clear hWW
                  refine hKK.out _ _ x2 (fun hHeld => ?_)
                  clear hKK KK
                  try simp only [Act.put, List.setIfInBounds_toArray, List.set_cons_zero, List.set_cons_succ]
                  refine wpAnyH_ready (rs := [4]) (by kernel_rfl) (by simp) ?_
                  refine consD (d := some 64) rfl rfl (fun KK hKK => ?_) AllReadyH.nil
                  refine step_append_any (w := W2) (P := Tryd.prog) rfl (.tmp 62) (.tmp 63) 22 rfl wr.heap.size 3 s0 _ 1 8 Tryd.underlying22 HS.out HZ.out.1 HZ.out.2.1 HZ.out.2.2 rfl (by omega) (.slice (some ⟨W0.heap.size, 0, none⟩) 0 0) 0 [] rfl oe wr.heap.size Al pl cl (pre.map (Value.int .i64)) rfl (rd_reads (rdI_below HRLR.out bw2) HPL.out) (one_int pre) (by unfold maxLen; omega) (by omega) bw2.size ?_
                  intro v4 W3 o4 g4 k4
                  rw [Nat.zero_add, List.nil_append] at o4
                  have b4 : Below wr.heap.size W2 W3 := (Below.refl _ _).grown g4 bw2.size (fun gg hgg => (oe.lt gg hgg).1)
                  have bw3 := bw2.trans b4
                  have x3 := (b4.cell (p := ⟨gl, i, none⟩) (show gl < _ by omega)).trans x2
                  have ox := own_same ox (g4.block _ zx (fun he => by have hh : W1.heap.size = W0.heap.size := Option.some.inj he; omega))
                  have zx := Nat.lt_of_lt_of_le zx g4.size
                  clear b4 g4 oe
                  refine hKK.out _ _ x3 (fun hHeld => ?_)
                  clear hKK KK
                  try simp only [Act.put, List.setIfInBounds_toArray, List.set_cons_zero, List.set_cons_succ]
                  refine wpAnyH_ready (rs := [10]) (by kernel_rfl) (by simp) ?_
                  refine consD (d := some 70) rfl rfl (fun KK hKK => ?_) AllReadyH.nil
                  refine step_append_any (w := W3) (P := Tryd.prog) rfl (.tmp 64) (.tmp 69) 22 rfl wr.heap.size 3 s0 _ 1 8 Tryd.underlying22 HS.out HZ.out.1 HZ.out.2.1 HZ.out.2.2 rfl (by omega) v4 pl _ rfl o4 W3.heap.size (some ⟨W1.heap.size, 0, none⟩) 1 1 [.int .i64 x] rfl (reads_box ox zx) (by intro yy hy; simp at hy; subst hy; rfl) (by unfold maxLen; omega) (by omega) bw3.size ?_
                  intro v5 W4 o5 g5 _
                  have b5 : Below wr.heap.size W3 W4 := (Below.refl _ _).grown g5 bw3.size (fun gg hgg => (o4.lt gg hgg).1)
                  have bw4 := bw3.trans b5
                  have x4 := (b5.cell (p := ⟨gl, i, none⟩) (show gl < _ by omega)).trans x3
                  obtain ⟨A5, c5, rfl, hc5⟩ := own_slice o5
                  clear b5 g5 ox zx
                  refine hKK.out _ _ x4 (fun hHeld => ?_)
                  clear hKK KK
                  try simp only [Act.put, List.setIfInBounds_toArray, List.set_cons_zero, List.set_cons_succ]
                  have hih := HIH.out (pre ++ [x]) (tot + x) sti W4 A5 c5 bvi (hb0r.trans (bw4.mono hb0r.size)) HDR.out.1 HDR.out.2 (limApp HLM.out HXB.out) (by rw [HTOT.out]; simp) (own_rdI o5 (by simp [HPL.out])) (best_below HBI.out bw4)
                  rw [show (pre ++ [x]).length = pl + 1 by simp [HPL.out], HN.out, HM.out] at hih
                  refine wpAnyH_ready (rs := [19]) (by kernel_rfl) (by simp) ?_
                  refine consD (d := some 79) rfl rfl (fun KK hKK => ?_) AllReadyH.nil
                  go_simp
                  (go_at_call 35; (with_reducible refine hih.mono ?_); rintro e W9 ⟨⟨bv9, rfl, hb9⟩, bw9⟩)
                  have bwr9 := bw4.trans (bw9.mono bw4.size)
                  have x9 := (bw9.cell (p := ⟨gl, i, none⟩) (show gl < _ by have := bw4.size; omega)).trans x4
                  refine hKK.out _ _ x9 (fun hHeld => ?_)
                  clear hKK KK
                  try simp only [Act.put, List.setIfInBounds_toArray, List.set_cons_zero, List.set_cons_succ]
                  refine takeD (i := 20) (d := some 59) (v := ?_) rfl rfl (by kernel_rfl) (by kernel_rfl) (by kernel_rfl) (fun _ _ _ h => h) (Or.inl ⟨by rfl, ?_⟩) (by assumption) ?_
                  rotate_left
                  · intro wS hSw; (try dsimp only at hSw); go_simp; (try with_reducible rfl)
                  try simp only [Act.put, List.setIfInBounds_toArray, List.set_cons_zero, List.set_cons_succ]
                  refine takeD (i := 21) (d := some 80) (v := ?_) rfl rfl (by kernel_rfl) (by kernel_rfl) (by kernel_rfl) (fun _ _ _ h => h) (Or.inl ⟨by rfl, ?_⟩) (by assumption) ?_
                  rotate_left
                  · intro wS hSw; (try dsimp only at hSw); go_simp; (try with_reducible rfl)
                  try simp only [Act.put, List.setIfInBounds_toArray, List.set_cons_zero, List.set_cons_succ]
                  refine takeD (i := 22) (d := some 81) (v := ?_) rfl rfl (by kernel_rfl) (by kernel_rfl) (by kernel_rfl) (fun _ _ _ h => h) (Or.inl ⟨by rfl, ?_⟩) (by assumption) ?_
                  rotate_left
                  · intro wS hSw; (try dsimp only at hSw); go_simp; (try with_reducible rfl)
                  try simp only [Act.put, List.setIfInBounds_toArray, List.set_cons_zero, List.set_cons_succ]
                  refine takeD (i := 23) (d := some 4) (v := ?_) rfl rfl (by kernel_rfl) (by kernel_rfl) (by kernel_rfl) (fun _ _ _ h => h) (Or.inl ⟨by rfl, ?_⟩) (by assumption) ?_
                  rotate_left
                  · intro wS hSw; (try dsimp only at hSw); go_simp; (try with_reducible rfl)
                  try simp only [Act.put, List.setIfInBounds_toArray, List.set_cons_zero, List.set_cons_succ]
                  refine takeD (i := 24) (d := some 5) (v := ?_) rfl rfl (by kernel_rfl) (by kernel_rfl) (by kernel_rfl) (fun _ _ _ h => h) (Or.inl ⟨by rfl, ?_⟩) (by assumption) ?_
                  rotate_left
                  · intro wS hSw; (try dsimp only at hSw); go_simp; (try with_reducible rfl)
                  try simp only [Act.put, List.setIfInBounds_toArray, List.set_cons_zero, List.set_cons_succ]
                  refine wpAnyH_done (by kernel_rfl) ?_ _
                  have HB9 := Lib.hid hb9
                  clear hih
                  go_wp2_with fail
                  go_roundg (nl - (i + 1))
                  case rel => exact ⟨i + 1, _, bv9, by omega, rfl, rfl, by go_num, by rw [HFS.out], HB9.out, hbw2.trans (bwr9.mono hbw2.size)⟩
                  case measure => omega
              · go_simp
                have bx0 : Below W0.heap.size W0 (W0.alloc (.cells #[.int .i64 x] 3)) := box_below _ _
                have ox : Own (W0.alloc (.cells #[.int .i64 x] 3)) W0.heap.size [.int .i64 x] := own_new W0 [.int .i64 x] 3
                have zx : W0.heap.size < (W0.alloc (.cells #[.int .i64 x] 3)).heap.size := by simp
                have zz0 : W0.heap.size < (W0.alloc (.cells #[.int .i64 x] 3)).heap.size := by simp
                have bw1 := bw0.trans (bx0.mono bw0.size)
                have x1 := (bx0.cell (p := ⟨gl, i, none⟩) (show gl < _ by have := bw0.size; omega)).trans x0
                generalize hWW : W0.alloc _ = W1 at *
                clear hWW
                refine hKK.out _ _ x1 (fun hHeld => ?_)
                clear hKK KK
                try simp only [Act.put, List.setIfInBounds_toArray, List.set_cons_zero, List.set_cons_succ]
                refine wpAnyH_ready (rs := [2]) (by kernel_rfl) (by simp) ?_
                refine consD (d := some 62) rfl rfl (fun KK hKK => ?_) AllReadyH.nil
                go_simp
                have bx1 : Below W1.heap.size W1 (W1.alloc (.cells #[] 3)) := box_below _ _
                have oe : (W1.alloc (.cells #[] 3)).ownsRow wr.heap.size 3 1 (.slice (some ⟨W1.heap.size, 0, none⟩) 0 0) 0 [] := own_empty bw1.size
                have zz1 : W1.heap.size < (W1.alloc (.cells #[] 3)).heap.size := by simp
                have bw2 := bw1.trans (bx1.mono bw1.size)
                have x2 := (bx1.cell (p := ⟨gl, i, none⟩) (show gl < _ by have := bw1.size; omega)).trans x1
                have ox := own_below ox zx bx1
                have zx := Nat.lt_of_lt_of_le zx bx1.size
                generalize hWW : W1.alloc _ = W2 at *
                clear hWW
                refine hKK.out _ _ x2 (fun hHeld => ?_)
                clear hKK KK
                try simp only [Act.put, List.setIfInBounds_toArray, List.set_cons_zero, List.set_cons_succ]
                refine wpAnyH_ready (rs := [4]) (by kernel_rfl) (by simp) ?_
                refine consD (d := some 64) rfl rfl (fun KK hKK => ?_) AllReadyH.nil
                refine step_append_any (w := W2) (P := Tryd.prog) rfl (.tmp 62) (.tmp 63) 22 rfl wr.heap.size 3 s0 _ 1 8 Tryd.underlying22 HS.out HZ.out.1 HZ.out.2.1 HZ.out.2.2 rfl (by omega) (.slice (some ⟨W1.heap.size, 0, none⟩) 0 0) 0 [] rfl oe wr.heap.size Al pl cl (pre.map (Value.int .i64)) rfl (rd_reads (rdI_below HRLR.out bw2) HPL.out) (one_int pre) (by unfold maxLen; omega) (by omega) bw2.size ?_
                intro v4 W3 o4 g4 k4
                rw [Nat.zero_add, List.nil_append] at o4
                have b4 : Below wr.heap.size W2 W3 := (Below.refl _ _).grown g4 bw2.size (fun gg hgg => (oe.lt gg hgg).1)
                have bw3 := bw2.trans b4
                have x3 := (b4.cell (p := ⟨gl, i, none⟩) (show gl < _ by omega)).trans x2
                have ox := own_same ox (g4.block _ zx (fun he => by have hh : W0.heap.size = W1.heap.size := Option.some.inj he; omega))
                have zx := Nat.lt_of_lt_of_le zx g4.size
                clear b4 g4 oe
                refine hKK.out _ _ x3 (fun hHeld => ?_)
                clear hKK KK
                try simp only [Act.put, List.setIfInBounds_toArray, List.set_cons_zero, List.set_cons_succ]
                refine wpAnyH_ready (rs := [10]) (by kernel_rfl) (by simp) ?_
                refine consD (d := some 70) rfl rfl (fun KK hKK => ?_) AllReadyH.nil
                refine step_append_any (w := W3) (P := Tryd.prog) rfl (.tmp 64) (.tmp 69) 22 rfl wr.heap.size 3 s0 _ 1 8 Tryd.underlying22 HS.out HZ.out.1 HZ.out.2.1 HZ.out.2.2 rfl (by omega) v4 pl _ rfl o4 W3.heap.size (some ⟨W0.heap.size, 0, none⟩) 1 1 [.int .i64 x] rfl (reads_box ox zx) (by intro yy hy; simp at hy; subst hy; rfl) (by unfold maxLen; omega) (by omega) bw3.size ?_
                intro v5 W4 o5 g5 _
                have b5 : Below wr.heap.size W3 W4 := (Below.refl _ _).grown g5 bw3.size (fun gg hgg => (o4.lt gg hgg).1)
                have bw4 := bw3.trans b5
                have x4 := (b5.cell (p := ⟨gl, i, none⟩) (show gl < _ by omega)).trans x3
                obtain ⟨A5, c5, rfl, hc5⟩ := own_slice o5
                clear b5 g5 ox zx
                refine hKK.out _ _ x4 (fun hHeld => ?_)
                clear hKK KK
                try simp only [Act.put, List.setIfInBounds_toArray, List.set_cons_zero, List.set_cons_succ]
                have hih := HIH.out (pre ++ [x]) (tot + x) sti W4 A5 c5 bvi (hb0r.trans (bw4.mono hb0r.size)) HDR.out.1 HDR.out.2 (limApp HLM.out HXB.out) (by rw [HTOT.out]; simp) (own_rdI o5 (by simp [HPL.out])) (best_below HBI.out bw4)
                rw [show (pre ++ [x]).length = pl + 1 by simp [HPL.out], HN.out, HM.out] at hih
                refine wpAnyH_ready (rs := [19]) (by kernel_rfl) (by simp) ?_
                refine consD (d := some 79) rfl rfl (fun KK hKK => ?_) AllReadyH.nil
                go_simp
                (go_at_call 35; (with_reducible refine hih.mono ?_); rintro e W9 ⟨⟨bv9, rfl, hb9⟩, bw9⟩)
                have bwr9 := bw4.trans (bw9.mono bw4.size)
                have x9 := (bw9.cell (p := ⟨gl, i, none⟩) (show gl < _ by have := bw4.size; omega)).trans x4
                refine hKK.out _ _ x9 (fun hHeld => ?_)
                clear hKK KK
                try simp only [Act.put, List.setIfInBounds_toArray, List.set_cons_zero, List.set_cons_succ]
                refine takeD (i := 20) (d := some 59) (v := ?_) rfl rfl (by kernel_rfl) (by kernel_rfl) (by kernel_rfl) (fun _ _ _ h => h) (Or.inl ⟨by rfl, ?_⟩) (by assumption) ?_
                rotate_left
                · intro wS hSw; (try dsimp only at hSw); go_simp; (try with_reducible rfl)
                try simp only [Act.put, List.setIfInBounds_toArray, List.set_cons_zero, List.set_cons_succ]
                refine takeD (i := 21) (d := some 80) (v := ?_) rfl rfl (by kernel_rfl) (by kernel_rfl) (by kernel_rfl) (fun _ _ _ h => h) (Or.inl ⟨by rfl, ?_⟩) (by assumption) ?_
                rotate_left
                · intro wS hSw; (try dsimp only at hSw); go_simp; (try with_reducible rfl)
                try simp only [Act.put, List.setIfInBounds_toArray, List.set_cons_zero, List.set_cons_succ]
                refine takeD (i := 22) (d := some 81) (v := ?_) rfl rfl (by kernel_rfl) (by kernel_rfl) (by kernel_rfl) (fun _ _ _ h => h) (Or.inl ⟨by rfl, ?_⟩) (by assumption) ?_
                rotate_left
                · intro wS hSw; (try dsimp only at hSw); go_simp; (try with_reducible rfl)
                try simp only [Act.put, List.setIfInBounds_toArray, List.set_cons_zero, List.set_cons_succ]
                refine takeD (i := 23) (d := some 4) (v := ?_) rfl rfl (by kernel_rfl) (by kernel_rfl) (by kernel_rfl) (fun _ _ _ h => h) (Or.inl ⟨by rfl, ?_⟩) (by assumption) ?_
                rotate_left
                · intro wS hSw; (try dsimp only at hSw); go_simp; (try with_reducible rfl)
                try simp only [Act.put, List.setIfInBounds_toArray, List.set_cons_zero, List.set_cons_succ]
                refine takeD (i := 24) (d := some 5) (v := ?_) rfl rfl (by kernel_rfl) (by kernel_rfl) (by kernel_rfl) (fun _ _ _ h => h) (Or.inl ⟨by rfl, ?_⟩) (by assumption) ?_
                rotate_left
                · intro wS hSw; (try dsimp only at hSw); go_simp; (try with_reducible rfl)
                try simp only [Act.put, List.setIfInBounds_toArray, List.set_cons_zero, List.set_cons_succ]
                refine wpAnyH_done (by kernel_rfl) ?_ _
                have HB9 := Lib.hid hb9
                clear hih
                go_wp2_with fail
                go_roundg (nl - (i + 1))
                case rel => exact ⟨i + 1, _, bv9, by omega, rfl, rfl, by go_num, by rw [HFS.out], HB9.out, hbw2.trans (bwr9.mono hbw2.size)⟩
                case measure => omega
            · obtain rfl : i = nl := by omega
              obtain rfl : R = sti := by rw [HRC.out, HSTI.out, List.take_of_length_le (by rw [HNL.out]; exact Nat.le_refl _)]
              have hbz := hb1.trans (hbw2.mono hb1.size)
              go_wp2_with fail
              go_returns
              exact ⟨⟨bvi, rfl, HBI.out⟩, hbz⟩
theorem rlow_any (t : List (List Int)) (cores : List (List Tm)) (A A2 : Option Addr) (c c2 B : Nat) (w0 : World) (h : RdT w0 B A t) (h2 : RdKK w0 B A2 cores) (hB : B ≤ w0.heap.size) (ht : TabOk t) (htl : 0 < t.length ∧ t.length ≤ 100)
    (hx : ∀ k ∈ cores, (∀ x ∈ k, x.u ≤ 1000000 ∧ x.m < 32) ∧ k.length ≤ 1000) (hc : cores.length ≤ 1000) : ∀ rows, RLow t cores A A2 c c2 w0 rows
  | [] => rlow_step t cores A A2 c c2 B w0 h h2 hB ht htl hx hc [] (fun r rest e => by cases e)
  | r :: rest => rlow_step t cores A A2 c c2 B w0 h h2 hB ht htl hx hc (r :: rest) (fun r' rest' e => by cases e; exact rlow_any t cores A A2 c c2 B w0 h h2 hB ht htl hx hc rest)
/-- What the reference's Low hands back. -/
def LowRetR (o : Option (Int × List Int)) (e : Ending) (w' : World) : Prop := match o with
  | none => e = .returned (.tuple #[.int .i64 0, .slice none 0 0, .bool false])
  | some (n, L) => ∃ (g off cap : Nat), e = .returned (.tuple #[.int .i64 n, .slice (some ⟨g, off, none⟩) L.length cap, .bool true]) ∧ RdI w' w'.heap.size (some ⟨g, off, none⟩) L
set_option maxRecDepth 8192 in
set_option maxHeartbeats 4000000 in
theorem rLow_any (A A2 : Option Addr) (c c2 B : Nat) (t : List (List Int)) (cores : List (List Tm)) (w : World) (h : RdT w B A t) (h2 : RdKK w B A2 cores) (hB : B ≤ w.heap.size) (ht : TabOk t) (htl : 0 < t.length ∧ t.length ≤ 100)
    (hx : ∀ k ∈ cores, (∀ x ∈ k, x.u ≤ 1000000 ∧ x.m < 32) ∧ k.length ≤ 1000) (hc : cores.length ≤ 1000) :
    Calls Tryd.prog 13 #[.slice A t.length c, .slice A2 cores.length c2] w fun e w' => LowRetR (lowR t cores) e w' ∧ Below w.heap.size w w' := by
  have hcl := rlow_any t cores A A2 c c2 B w h h2 hB ht htl hx hc t [] 0 (none, 0) w none 0 (.slice none 0 0) (Below.refl _ _) rfl (Nat.zero_le _) (fun x hx => by simp at hx) rfl ⟨rfl, fun h => absurd h (by decide)⟩ rfl
  have HLR := Lib.hid (show lowR t cores = (match (lowGo t cores t [] 0 (none, 0)).1 with | some b => some ((lowGo t cores t [] 0 (none, 0)).2, b) | none => none) from rfl)
  obtain ⟨R, hR⟩ : ∃ R, lowGo t cores t [] 0 (none, 0) = R := ⟨_, rfl⟩
  rw [hR] at hcl HLR
  obtain ⟨o, ho⟩ : ∃ o, lowR t cores = o := ⟨_, rfl⟩
  rw [ho] at HLR
  rw [ho]
  clear h h2 hx ht hR ho
  rw [show ([] : List Int).length = 0 from rfl] at hcl
  dsimp only at hcl
  generalize t.length = N at *
  generalize cores.length = m at *
  obtain ⟨sb, sl⟩ := R
  dsimp only at hcl HLR
  go_enter Tryd.func13, Tryd.ntmps13
  go_wp2_with fail
  refine hcl.mono ?_
  rintro e w1 ⟨⟨bv, rfl, hbv⟩, hb1⟩
  cases sb with
  | none =>
    obtain rfl : bv = .slice none 0 0 := hbv
    obtain rfl : o = none := HLR.out
    go_wp2_with fail
    try (rw [Lib.run_eql_slice_nil _ 22 3 _ _ _ _ _ Tryd.underlying22]; go_wp2_with fail)
    go_returns
    exact ⟨rfl, hb1⟩
  | some b =>
    obtain ⟨g, off, cap, rfl, _, hrd⟩ := hbv
    obtain rfl : o = some (sl, b) := HLR.out
    have HRD := Lib.hid hrd
    clear hrd
    go_wp2_with fail
    try (rw [Lib.run_eql_slice_nil _ 22 3 _ _ _ _ _ Tryd.underlying22]; go_wp2_with fail)
    go_returns
    exact ⟨⟨g, off, cap, rfl, HRD.out⟩, hb1⟩
end Go.Proofs.YtmfdpdnokiidlaaDoor
