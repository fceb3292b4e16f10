/-
  HitLeast: values of each row that make no core hold cost at least what Low tells; if Low tells nothing there are none. Conditions: strconv's table starts as the program's text lays it (the card ties it).
-/
import Derived.Test.YtmfdpdnokiidlaaDoorRows
import Derived.Test.YtmfdpdnokiidlaaDoorHDig
import Derived.Test.YtmfdpdnokiidlaaDoorHHeld
import Derived.Deep.LoopGhost
import Derived.Test.YtmfdpdnokiidlaaDoorCards
import Derived.Test.YtmfdpdnokiidlaaDoorTie
import Derived.Test.YtmfdpdnokiidlaaDoorTab
import Derived.LaidMore
import Derived.MakeChecks
import Derived.SevenTiedAt
import Derived.Stop.Joined
import Derived.WalkKit
import Derived.ProofKit
import Derived.OpenShut
import Derived.ShutString
import Derived.ChangeOld
import Derived.Below
namespace Go.Proofs.YtmfdpdnokiidlaaDoor.hitLeast
open Go.ChangeShapes Go.WideShapes Go.ChangeAt Go.RowKit
open Go.ChangeMaps (open_string shut_string)
set_option linter.unusedVariables false

theorem own : ownKnob Tryd.prog.godebug = none := by kernel_rfl
theorem laidOut : laidOutB Tryd.prog = true := by kernel_rfl

def IsRow (k : IntKind) (w : World) (a : Option Addr) (len cap : Nat) (zs : List Int) : Prop :=
  (a = none ∧ len = 0 ∧ cap = 0 ∧ zs = []) ∨
  ∃ x, a = some x ∧ len ≤ cap ∧ cap ≤ maxLen ∧ zs.length = cap ∧ (∀ i, i < zs.length → w.cell? (x.add i) = some (.int k (zs.getD i 0))) ∧ ∀ n ∈ zs, (Lit.int k n).wf = true

set_option maxHeartbeats 8000000 in
set_option maxRecDepth 8192 in
theorem walk (a0 : Option Addr) (len0 cap0 : Nat) (z0 : List Int) (a1 : Option Addr) (len1 cap1 : Nat) (z1 : List Int) (w : World) (w0 : IsRow .i64 w a0 len0 cap0 z0) (w1 : IsRow .i64 w a1 len1 cap1 z1) (hT : Tab w) :
    Calls Tryd.prog 4 #[.slice a0 len0 cap0, .slice a1 len1 cap1] w fun e w' => e = .returned (.bool true) ∧ Below w.heap.size w w' := by
  have HTAB := Lib.hid (fun (W : World) (hb : Below w.heap.size w W) => tab_below hT hb)
  clear hT
  by_cases hlen : 60 < len0 ∨ 60 < len1
  · have ca := awake_any w (HTAB.out w (Below.refl _ _))
    clear w0 w1
    by_cases h0 : 60 < len0
    · have i0 : (60 : Int) < (len0 : Int) := by omega
      go_enter Tryd.func4, Tryd.ntmps4
      go_wp2_with fail
      refine ca.mono ?_
      rintro e w1 ⟨rfl, hb1⟩
      go_wp2_with fail
      go_ret
      exact ⟨rfl, hb1⟩
    · have i0 : ¬ (60 : Int) < (len0 : Int) := by omega
      have i1 : (60 : Int) < (len1 : Int) := by omega
      go_enter Tryd.func4, Tryd.ntmps4
      go_wp2_with fail
      refine ca.mono ?_
      rintro e w1 ⟨rfl, hb1⟩
      go_wp2_with fail
      go_ret
      exact ⟨rfl, hb1⟩
  · have i0 : ¬ (60 : Int) < (len0 : Int) := by omega
    have i1 : ¬ (60 : Int) < (len1 : Int) := by omega
    obtain ⟨l0, hl0, hrd0, hml0, hwf0⟩ := arg_ints w0
    obtain ⟨l1, hl1, hrd1, hml1, hwf1⟩ := arg_ints w1
    have ct := table_ret a0 cap0 len0 l0 w hrd0 hl0 hml0 hwf0
    have hTok := @tab_ok l0
    have hTn := (tableP_ok l0).1
    clear w0 w1 hrd0 hwf0
    obtain ⟨s0, hs0, hz0, hz1, hz2⟩ := info_parts info_int
    have HS := Lib.hid hs0
    have HZ := Lib.hid (And.intro hz0 (And.intro hz1 hz2))
    clear hs0 hz0 hz1 hz2
    have HR1 := Lib.hid hrd1
    have HW1 := Lib.hid hwf1
    have HL1 := Lib.hid hl1
    clear hl0 hml0 hrd1 hwf1 hl1
    generalize tableP l0 = T at *
    have HTO := Lib.hid hTok
    clear hTok
    generalize hN : T.length = N at *
    have HN := Lib.hid hN
    clear hN
    go_enter Tryd.func4, Tryd.ntmps4
    go_wp2_with fail
    refine ct.mono ?_
    rintro e w1 ⟨⟨A', c', rfl, hc', hrT⟩, hb1⟩
    have HRT := Lib.hid hrT
    have cc := cores_any a1 cap1 l1 N ⟨by omega, by omega⟩ w1 (rdI_more (rdI_below HR1.out hb1) hb1.size) (by rw [HL1.out]; exact hml1) HW1.out
    rw [HL1.out] at cc
    have hk1 := coresP_ok l1 (rows := N) (by omega)
    generalize coresP l1 N = K at *
    clear ct hrT
    go_wp2_with fail
    refine cc.mono ?_
    rintro e w2 ⟨⟨Ak, ck, rfl, hck, hrK⟩, hb2⟩
    have hb2w := hb1.trans (hb2.mono hb1.size)
    have hRT2 := rdT_more (rdT_below HRT.out hb2) hb2.size
    have hml : K.length ≤ 5 := hk1.1
    have cl1 := low_any A' Ak c' ck w2.heap.size T K w2 hRT2 hrK (Nat.le_refl _) (by rw [HN.out]; omega) HTO.out (fun k hk => ⟨fun x hx => by have := (hk1.2 k hk).2 x hx; omega, by have := (hk1.2 k hk).1; omega⟩) (by omega) (HTAB.out w2 hb2w)
    have HX1 := Lib.hid hk1.2
    have HRT2 := Lib.hid hRT2
    have HK2 := Lib.hid hrK
    rw [HN.out] at cl1
    generalize hm1 : K.length = m1 at *
    have HM1 := Lib.hid hm1
    clear hm1 cc hRT2 hrK hk1
    go_wp2_with fail
    refine cl1.mono ?_
    rintro e w3 ⟨hlr, hb3⟩
    obtain ⟨n, A3, k3, c3, okb, rfl, ho1, ho2⟩ := low_parts2 hlr
    have HO := Lib.hid (And.intro ho1 ho2)
    have hb3w := hb2w.trans (hb3.mono hb2w.size)
    have HRT3 := Lib.hid (rdT_below HRT2.out hb3)
    have HK3 := Lib.hid (rdKK_below HK2.out hb3)
    have hz3 := hb3.size
    clear cl1 hlr ho1 ho2
    go_wp2_with fail
    go_loopg [10, 11] N (fun k2 s10 s11 wr => ∃ (k s : Nat), k + k2 = N ∧ s10 = .int .i64 s ∧ s11 = .int .i64 k ∧ s ≤ 5 ^ k ∧ w3 = wr)
    case atStart => exact ⟨0, 1, by omega, rfl, rfl, by omega, rfl⟩
    case round =>
      obtain ⟨k, s, hk, rfl, rfl, hs, rfl⟩ := hrel
      have hk5 : 5 ^ k ≤ 5 ^ 5 := Nat.pow_le_pow_right (by omega) (by omega)
      by_cases hlt : k < N
      · have i3 : (k : Int) < (N : Int) := by omega
        have hlc : k < T.length := by rw [HN.out]; exact hlt
        have hxk : T[k]? = some T[k] := List.getElem?_eq_getElem hlc
        have hmem := List.getElem_mem hlc
        generalize T[k] = row at *
        obtain ⟨b, off, Ai, ci, rfl, hb, hcell, hci, hri⟩ := rdT_at HRT3.out hxk
        obtain ⟨hr0, hr5⟩ := (HTO.out row hmem).1
        have hsl : s * row.length ≤ 5 ^ (k + 1) := by rw [Nat.pow_succ]; exact Nat.mul_le_mul hs hr5
        have hsl2 : s * row.length ≤ 15625 := Nat.le_trans (Nat.mul_le_mul (Nat.le_trans hs hk5) hr5) (by omega)
        clear hxk hmem hlc hri
        generalize row.length = rl at *
        have hmul : IntKind.i64.wrap ((s : Int) * (rl : Int)) = ((s * rl : Nat) : Int) := by rw [← Int.natCast_mul]; exact IntWalk.i64_in _ (by omega)
        go_wp2_with fail
        go_roundg (N - (k + 1))
        case rel => exact ⟨k + 1, s * rl, by omega, by go_num, by go_num, hsl, rfl⟩
        case measure => omega
      · obtain rfl : k = N := by omega
        have hs2 : s ≤ 3125 := by omega
        clear hs hk5
        go_wp2_with fail
        go_loopg [12, 13, 14, 15, 16] s (fun k2 s12 _ _ _ _ wr => ∃ i : Nat, i + k2 = s ∧ s12 = .int .i64 i ∧ Below w3.heap.size w3 wr)
        case atStart => exact ⟨0, by omega, rfl, Below.refl _ _⟩
        case round =>
          obtain ⟨i, hi, rfl, hbel⟩ := hrel
          by_cases hil : i < s
          · have i4 : (i : Int) < (s : Int) := by omega
            have HD0 := Lib.hid (dig_0 T i)
            go_wp2_with fail
            go_loopg [13, 14, 15, 16] k (fun k3 s13 s14 s15 s16 w5 => ∃ (u kk : Nat) (pre : List Nat) (tot : Int), u + k3 = k ∧ s13 = .int .i64 kk ∧ s14 = .int .i64 tot ∧ s16 = .int .i64 u ∧ DgAt T i u pre kk tot ∧ Below w3.heap.size w3 w5 ∧ w5.ownsRow w3.heap.size 3 1 s15 u ((ints pre).map (Value.int .i64)))
            case atStart => exact ⟨0, i, [], 0, by omega, rfl, rfl, rfl, HD0.out, hbel, World.ownsRow_nil _ _ _ _⟩
            case round =>
              obtain ⟨u, kk, pre, tot, hu, rfl, rfl, rfl, hdg, hb5, hown⟩ := hrel
              obtain ⟨Av, cv, rfl, hcv⟩ := own_slice hown
              have HDG := Lib.hid hdg
              have HOWN := Lib.hid hown
              obtain ⟨-, -, -, t0, t1, k1⟩ := hdg
              by_cases hul : u < k
              · have i5 : (u : Int) < (k : Int) := by omega
                have hlc : u < T.length := by rw [HN.out]; exact hul
                have hxk : T[u]? = some T[u] := List.getElem?_eq_getElem hlc
                have hmem := List.getElem_mem hlc
                generalize T[u] = row at *
                have hz5 := hb5.size
                have hz33 : w2.heap.size ≤ w3.heap.size := hz3
                obtain ⟨b, off, Ai, ci, rfl, hb, hcell, hci, hri⟩ := rdT_at (rdT_below HRT3.out (hb5.mono hz33)) hxk
                obtain ⟨hr0, hr5⟩ := (HTO.out row hmem).1
                have hmod := Nat.mod_lt kk hr0
                obtain ⟨bi, oi, rfl, hbi, hcst⟩ := rdI_at hri (k := kk % row.length) hmod
                have hcb := (HTO.out row hmem).2 (row.getD (kk % row.length) 0) (by rw [List.getD_eq_getElem?_getD, List.getElem?_eq_getElem hmod]; exact List.getElem_mem _)
                have HDS := Lib.hid (dig_step HTO.out hxk HDG.out)
                clear hxk hmem hlc hri
                generalize row.getD (kk % row.length) 0 = cst at *
                generalize row.length = rl at *
                have hrem : ((kk : Int).tmod (rl : Int)) = ((kk % rl : Nat) : Int) := by rw [Int.tmod_eq_emod_of_nonneg (by omega)]; rfl
                have hquo0 : ((kk : Int).tdiv (rl : Int)) = ((kk / rl : Nat) : Int) := by rw [Int.tdiv_eq_ediv_of_nonneg (by omega)]; rfl
                have hq1 : kk / rl ≤ kk := Nat.div_le_self _ _
                generalize hqq : kk / rl = qq at *
                have hquo : IntKind.i64.wrap ((kk : Int).tdiv (rl : Int)) = ((qq : Nat) : Int) := by rw [hquo0]; exact IntWalk.i64_in _ (by omega)
                have hremw : IntKind.i64.wrap ((kk : Int).tmod (rl : Int)) = ((kk % rl : Nat) : Int) := by rw [hrem]; exact IntWalk.i64_in _ (by omega)
                have hwrm : IntKind.i64.wrap (((kk % rl : Nat) : Int)) = ((kk % rl : Nat) : Int) := IntWalk.i64_in _ (by omega)
                have hrz : ((rl : Int) == 0) = false := by simp; omega
                have hrz2 : ¬ (rl : Int) = 0 := by omega
                have hqw : IntKind.i64.wrap ((qq : Nat) : Int) = ((qq : Nat) : Int) := IntWalk.i64_in _ (by omega)
                have hrn : (rl = 0) = False := eq_false (by omega)
                have huu : ((u : Int) < (u : Int) + 1) = True := eq_true (by omega)
                have hwr : IntKind.i64.wrap (tot + cst) = tot + cst := IntWalk.i64_in _ (by omega)
                have i6 : ((kk % rl : Nat) : Int) < (rl : Int) := by omega
                have HREM := Lib.hid hrem
                generalize hkm : kk % rl = km at *
                go_wp2_with (first | (at_builtin; refine wpList_append_grow wr rfl (.tmp 64) (.tmp 72) 22 rfl w3.heap.size 3 s0 _ 1 8 Tryd.underlying22 HS.out HZ.out.1 HZ.out.2.1 HZ.out.2.2 rfl (by omega) (.slice Av u cv) u _ [.int .i64 (km : Nat)] rfl hown (by simp; rfl) (by simp [Act.eval, go_sem]) (by simp [Act.eval, go_sem]) (by omega) (by omega) (by omega) ?_; intro v6 w6 hown6 hg6) | fail)
                obtain ⟨Aw, cw, rfl, hcw⟩ := own_slice hown6
                have hb6 : Below w3.heap.size wr w6 := (Below.refl _ _).grown hg6 (by omega) (fun k hk => (hown.lt k hk).1)
                have hb36 := hb5.trans hb6
                have hpl : (ints pre).length = u := by rw [ints, List.length_map]; exact HDG.out.2.1
                have hown7 : w6.ownsRow w3.heap.size 3 1 (.slice Aw (u + 1) cw) (u + 1) ((ints (pre ++ [km])).map (Value.int .i64)) := by
                  have e1 : (ints (pre ++ [km])).map (Value.int .i64) = (ints pre).map (Value.int .i64) ++ [.int .i64 (km : Nat)] := by simp [ints]
                  rw [e1]; exact hown6
                have HOWN7 := Lib.hid hown7
                have hvc : ∃ gv, Aw = some ⟨gv, 0, none⟩ ∧ w6.cell? ⟨gv, u, none⟩ = some (.int .i64 (km : Nat)) := by
                  rcases hown6.2 with ⟨e, h0⟩ | ⟨gv, cap, cur, e, _⟩
                  · omega
                  · cases e
                    refine ⟨gv, rfl, ?_⟩
                    have hc := hown6.cells (g := gv) rfl u (.int .i64 (km : Nat)) (by rw [List.getElem?_append_right (by rw [List.length_map, hpl]; exact Nat.le_refl _), List.length_map, hpl, Nat.sub_self]; rfl)
                    rwa [add_plain, Nat.zero_add] at hc
                obtain ⟨gv, rfl, v5⟩ := hvc
                have q5 := (hb6.cell (p := ⟨b, off + u, none⟩) (show b < w3.heap.size by omega)).trans hcell
                have r5 := (hb6.cell (p := ⟨bi, oi + km, none⟩) (show bi < w3.heap.size by omega)).trans hcst
                clear hown6 hg6 hown7 hb6 hown hpl hcell hcst
                go_wp2_with fail
                refine wp_region_held_drew (S := fun W => W.cell? ⟨b, off + u, none⟩ = some (.slice (some ⟨bi, oi, none⟩) rl ci) ∧ W.cell? ⟨gv, u, none⟩ = some (.int .i64 ((km : Nat) : Int)) ∧ W.cell? ⟨bi, oi + km, none⟩ = some (.int .i64 cst)) (by kernel_rfl) ⟨q5, v5, r5⟩ (fun hHeld => ?_)
                refine takeD (i := 0) (d := some 74) (v := ?_) rfl rfl (by kernel_rfl) (by kernel_rfl) (by kernel_rfl) (fun _ _ _ h => h) (Or.inl ⟨by rfl, ?_⟩) (by assumption) ?_
                rotate_left
                · intro wS hSw; (try dsimp only at hSw); go_simp; (try with_reducible rfl)
                try simp only [Act.put, List.setIfInBounds_toArray, List.set_cons_zero, List.set_cons_succ]
                refine takeD (i := 1) (d := some 75) (v := ?_) rfl rfl (by kernel_rfl) (by kernel_rfl) (by kernel_rfl) (fun _ _ _ h => h) (Or.inl ⟨by rfl, ?_⟩) (by assumption) ?_
                rotate_left
                · intro wS hSw; (try dsimp only at hSw); go_simp; (try with_reducible rfl)
                try simp only [Act.put, List.setIfInBounds_toArray, List.set_cons_zero, List.set_cons_succ]
                refine takeD (i := 2) (d := some 76) (v := ?_) rfl rfl (by kernel_rfl) (by kernel_rfl) (by kernel_rfl) (fun _ _ _ h => h) (Or.inl ⟨by rfl, ?_⟩) (by assumption) ?_
                rotate_left
                · intro wS hSw; (try dsimp only at hSw); go_simp; (try with_reducible rfl)
                try simp only [Act.put, List.setIfInBounds_toArray, List.set_cons_zero, List.set_cons_succ]
                refine takeD (i := 3) (d := some 77) (v := ?_) rfl rfl (by kernel_rfl) (by kernel_rfl) (by kernel_rfl) (fun _ _ _ h => h) (Or.inl ⟨by rfl, ?_⟩) (by assumption) ?_
                rotate_left
                · intro wS hSw; (try dsimp only at hSw); go_simp; (try with_reducible rfl)
                try simp only [Act.put, List.setIfInBounds_toArray, List.set_cons_zero, List.set_cons_succ]
                refine takeD (i := 4) (d := some 78) (v := ?_) rfl rfl (by kernel_rfl) (by kernel_rfl) (by kernel_rfl) (fun _ _ _ h => h) (Or.inl ⟨by rfl, ?_⟩) (by assumption) ?_
                rotate_left
                · intro wS hSw; (try dsimp only at hSw); go_simp; (try with_reducible rfl)
                try simp only [Act.put, List.setIfInBounds_toArray, List.set_cons_zero, List.set_cons_succ]
                refine takeD (i := 5) (d := some 79) (v := ?_) rfl rfl (by kernel_rfl) (by kernel_rfl) (by kernel_rfl) (fun _ _ _ h => h) (Or.inl ⟨by rfl, ?_⟩) (by assumption) ?_
                rotate_left
                · intro wS hSw; (try dsimp only at hSw); go_simp; (try with_reducible rfl)
                try simp only [Act.put, List.setIfInBounds_toArray, List.set_cons_zero, List.set_cons_succ]
                refine takeD (i := 6) (d := some 80) (v := ?_) rfl rfl (by kernel_rfl) (by kernel_rfl) (by kernel_rfl) (fun _ _ _ h => h) (Or.inl ⟨by rfl, ?_⟩) (by assumption) ?_
                rotate_left
                · intro wS hSw; (try dsimp only at hSw); go_simp; (try with_reducible rfl)
                try simp only [Act.put, List.setIfInBounds_toArray, List.set_cons_zero, List.set_cons_succ]
                refine takeD (i := 7) (d := some 81) (v := .pointer (some ⟨gv, u, none⟩)) rfl rfl (by kernel_rfl) (by kernel_rfl) (by kernel_rfl) (fun _ _ _ h => h) (Or.inl ⟨by rfl, ?_⟩) (by assumption) ?_
                · intro wS hSw; (try dsimp only at hSw); go_simp; (try simp [huu]); (try with_reducible rfl)
                try simp only [Act.put, List.setIfInBounds_toArray, List.set_cons_zero, List.set_cons_succ]
                refine takeD (i := 8) (d := some 82) (v := ?_) rfl rfl (by kernel_rfl) (by kernel_rfl) (by kernel_rfl) (fun _ _ _ h => h) (Or.inl ⟨by rfl, ?_⟩) (by assumption) ?_
                rotate_left
                · intro wS hSw; (try dsimp only at hSw); go_simp; (try with_reducible rfl)
                try simp only [Act.put, List.setIfInBounds_toArray, List.set_cons_zero, List.set_cons_succ]
                refine takeD (i := 9) (d := some 83) (v := ?_) rfl rfl (by kernel_rfl) (by kernel_rfl) (by kernel_rfl) (fun _ _ _ h => h) (Or.inl ⟨by rfl, ?_⟩) (by assumption) ?_
                rotate_left
                · intro wS hSw; (try dsimp only at hSw); go_simp; (try with_reducible rfl)
                try simp only [Act.put, List.setIfInBounds_toArray, List.set_cons_zero, List.set_cons_succ]
                refine takeD (i := 10) (d := some 84) (v := ?_) rfl rfl (by kernel_rfl) (by kernel_rfl) (by kernel_rfl) (fun _ _ _ h => h) (Or.inl ⟨by rfl, ?_⟩) (by assumption) ?_
                rotate_left
                · intro wS hSw; (try dsimp only at hSw); go_simp; (try with_reducible rfl)
                try simp only [Act.put, List.setIfInBounds_toArray, List.set_cons_zero, List.set_cons_succ]
                refine takeD (i := 11) (d := some 85) (v := .int .i64 (tot + cst)) rfl rfl (by kernel_rfl) (by kernel_rfl) (by kernel_rfl) (fun _ _ _ h => h) (Or.inl ⟨by rfl, ?_⟩) (by assumption) ?_
                · intro wS hSw; (try dsimp only at hSw); go_simp; (try simp [hwr]); (try with_reducible rfl)
                try simp only [Act.put, List.setIfInBounds_toArray, List.set_cons_zero, List.set_cons_succ]
                refine takeD (i := 12) (d := some 86) (v := ?_) rfl rfl (by kernel_rfl) (by kernel_rfl) (by kernel_rfl) (fun _ _ _ h => h) (Or.inl ⟨by rfl, ?_⟩) (by assumption) ?_
                rotate_left
                · intro wS hSw; (try dsimp only at hSw); go_simp; (try with_reducible rfl)
                try simp only [Act.put, List.setIfInBounds_toArray, List.set_cons_zero, List.set_cons_succ]
                refine takeD (i := 13) (d := some 87) (v := ?_) rfl rfl (by kernel_rfl) (by kernel_rfl) (by kernel_rfl) (fun _ _ _ h => h) (Or.inl ⟨by rfl, ?_⟩) (by assumption) ?_
                rotate_left
                · intro wS hSw; (try dsimp only at hSw); go_simp; (try with_reducible rfl)
                try simp only [Act.put, List.setIfInBounds_toArray, List.set_cons_zero, List.set_cons_succ]
                refine takeD (i := 14) (d := some 88) (v := ?_) rfl rfl (by kernel_rfl) (by kernel_rfl) (by kernel_rfl) (fun _ _ _ h => h) (Or.inl ⟨by rfl, ?_⟩) (by assumption) ?_
                rotate_left
                · intro wS hSw; (try dsimp only at hSw); go_simp; (try with_reducible rfl)
                try simp only [Act.put, List.setIfInBounds_toArray, List.set_cons_zero, List.set_cons_succ]
                refine takeD (i := 15) (d := some 89) (v := ?_) rfl rfl (by kernel_rfl) (by kernel_rfl) (by kernel_rfl) (fun _ _ _ h => h) (Or.inl ⟨by rfl, ?_⟩) (by assumption) ?_
                rotate_left
                · intro wS hSw; (try dsimp only at hSw); go_simp; (try with_reducible rfl)
                try simp only [Act.put, List.setIfInBounds_toArray, List.set_cons_zero, List.set_cons_succ]
                refine takeD (i := 16) (d := some 90) (v := ?_) rfl rfl (by kernel_rfl) (by kernel_rfl) (by kernel_rfl) (fun _ _ _ h => h) (Or.inl ⟨by rfl, ?_⟩) (by assumption) ?_
                rotate_left
                · intro wS hSw; (try dsimp only at hSw); go_simp; (try with_reducible rfl)
                try simp only [Act.put, List.setIfInBounds_toArray, List.set_cons_zero, List.set_cons_succ]
                refine takeD (i := 17) (d := some 91) (v := ?_) rfl rfl (by kernel_rfl) (by kernel_rfl) (by kernel_rfl) (fun _ _ _ h => h) (Or.inl ⟨by rfl, ?_⟩) (by assumption) ?_
                rotate_left
                · intro wS hSw; (try dsimp only at hSw); go_simp; (try with_reducible rfl)
                try simp only [Act.put, List.setIfInBounds_toArray, List.set_cons_zero, List.set_cons_succ]
                refine takeD (i := 18) (d := some 92) (v := .int .i64 ((qq : Nat) : Int)) rfl rfl (by kernel_rfl) (by kernel_rfl) (by kernel_rfl) (fun _ _ _ h => h) (Or.inl ⟨by rfl, ?_⟩) (by assumption) ?_
                · intro wS hSw; (try dsimp only at hSw); go_simp; (try simp [hrn, hqw, hquo0]); (try with_reducible rfl)
                try simp only [Act.put, List.setIfInBounds_toArray, List.set_cons_zero, List.set_cons_succ]
                refine takeD (i := 19) (d := some 14) (v := ?_) rfl rfl (by kernel_rfl) (by kernel_rfl) (by kernel_rfl) (fun _ _ _ h => h) (Or.inl ⟨by rfl, ?_⟩) (by assumption) ?_
                rotate_left
                · intro wS hSw; (try dsimp only at hSw); go_simp; (try with_reducible rfl)
                try simp only [Act.put, List.setIfInBounds_toArray, List.set_cons_zero, List.set_cons_succ]
                refine takeD (i := 20) (d := some 13) (v := ?_) rfl rfl (by kernel_rfl) (by kernel_rfl) (by kernel_rfl) (fun _ _ _ h => h) (Or.inl ⟨by rfl, ?_⟩) (by assumption) ?_
                rotate_left
                · intro wS hSw; (try dsimp only at hSw); go_simp; (try with_reducible rfl)
                try simp only [Act.put, List.setIfInBounds_toArray, List.set_cons_zero, List.set_cons_succ]
                refine wpAnyH_done (by kernel_rfl) ?_ _
                go_wp2_with fail
                go_roundg (k - (u + 1))
                case rel => exact ⟨u + 1, qq, pre ++ [km], tot + cst, by omega, rfl, rfl, by go_num, HDS.out, hb36.drew, HOWN7.out⟩
                case measure => omega
              · obtain rfl : u = k := by omega
                have hde : pre = digR T i ∧ tot = (costV T (digR T i)).sum := by have h := HDG.out; rw [← HN.out] at h; exact dig_end h
                obtain ⟨rfl, rfl⟩ := hde
                have hz5 := hb5.size
                have hvr : RdI wr wr.heap.size Av (ints (digR T i)) := by
                  obtain ⟨A9, c9, e9, hr9⟩ := rd_own HOWN.out
                  cases e9
                  unfold RdI
                  rw [show (ints (digR T i)).length = u by rw [ints, List.length_map, dig_len, HN.out]]
                  exact hr9
                have hdl : (digR T i).length = u := by rw [dig_len, HN.out]
                have ch := held_any Ak Av ck cv wr.heap.size K (digR T i) wr (rdKK_more (rdKK_below HK3.out (hb5.mono hz3)) (by omega)) hvr (Nat.le_refl _) (fun k hk => ⟨fun x hx => by rw [hdl]; exact (HX1.out k hk).2 x hx, by have := (HX1.out k hk).1; omega⟩) (dig_lt HTO.out i) (by rw [HM1.out]; omega) (by rw [hdl]; omega)
                rw [hdl, HM1.out] at ch
                have HLA := Lib.hid (fun (hh : K.any (heldC (digR T i)) = false) => least_at HTO.out (K := K) (fun cc hcc x hx => by rw [HN.out]; exact ((HX1.out cc hcc).2 x hx).1) hh HO.out.1 HO.out.2)
                generalize (costV T (digR T i)).sum = S at *
                generalize K.any (heldC (digR T i)) = hd at *
                clear hvr hdl hown
                cases hd with
                | true =>
                  go_wp2_with fail
                  refine ch.mono ?_
                  rintro e w6 ⟨rfl, hb6⟩
                  go_wp2_with fail
                  go_roundg (s - (i + 1))
                  case rel => exact ⟨i + 1, by omega, by go_num, hb5.trans (hb6.mono hb5.size)⟩
                  case measure => omega
                | false =>
                  obtain ⟨rfl, hle⟩ := HLA.out rfl
                  have hle2 : ¬ S < n := by omega
                  go_wp2_with fail
                  refine ch.mono ?_
                  rintro e w6 ⟨rfl, hb6⟩
                  go_wp2_with fail
                  go_roundg (s - (i + 1))
                  case rel => exact ⟨i + 1, by omega, by go_num, hb5.trans (hb6.mono hb5.size)⟩
                  case measure => omega
          · obtain rfl : i = s := by omega
            have hbz := hb3w.trans (hbel.mono hb3w.size)
            have cw := awake_any wr (HTAB.out _ hbz)
            go_wp2_with fail
            refine cw.mono ?_
            rintro e w9 ⟨rfl, hb9⟩
            go_wp2_with fail
            go_ret
            exact ⟨rfl, hbz.trans (hb9.mono hbz.size)⟩

set_option maxRecDepth 100000 in
theorem lifted (os : Os) (started : os.Started) (H : Type) (enc : TypeId × Value → H) :
    ReturnsInHanded {} Tryd.checked os 4 .any (fun w args => (Rows.hitLeastSpec.pre enc Tryd.prog Tryd.f4 [] false w args ∧ laidMetH Tryd.prog Rows.hitLeastRow.laid w) ∧ sizedMet enc Tryd.prog Tryd.f4 (OpenSpec.ofChange Rows.hitLeastSpec) false w args) (Rows.hitLeastSpec.post enc Tryd.prog Tryd.f4 false true false false) := by
  refine returnsInHanded_of_change_and (C := Tryd.checked) (X := fun w _ => laidMetH Tryd.prog Rows.hitLeastRow.laid w) (fun _ _ _ hh h => h.of_heap hh) own started (by kernel_rfl) Tryd.func4
    (ChangeSpec.witness_shaped (enc := enc) (C := Tryd.checked) (os := os) (X := fun w _ => laidMetH Tryd.prog Rows.hitLeastRow.laid w) false (World.doorLaid Tryd.prog 400 os) #[.slice none 0 0, .slice none 0 0] 8 rfl (World.shaped_of_RefB (by kernel_rfl) (by kernel_rfl)) (by kernel_rfl) (by kernel_rfl) (by kernel_rfl)
      (laidMetH_of_parts3 (fuel := 8) (laidMet_of_run' 8 (by kernel_rfl) (by kernel_rfl)) (by kernel_rfl) (by kernel_rfl))) ?_
  intro W base args ds gs before hval0 hW _ _ hL _
  have hval : ∀ (j : Nat) t v, Tryd.f4.params[j]? = some t → args[j]? = some v → Value.okWide Tryd.prog W .any base t v := hval0
  have hW' := hW
  obtain ⟨p, q, hA0, hV, rfl, hfz, hnd⟩ := hW
  have hA : DataW.TrodAll enc Tryd.prog W 0 (fun _ => true) true Tryd.f4.params.toList args.toList ds p := hA0
  rw [Tryd.params4] at hA hval
  obtain ⟨v0, vs0, d0, ds0, p0, q0, hargs, rfl, rfl, h0, r0⟩ := trodAll_cons hA
  obtain ⟨v1, vs1, d1, ds1, p1, q1, rfl, rfl, rfl, h1, r1⟩ := trodAll_cons r0
  obtain ⟨rfl, rfl, rfl⟩ := trodAll_nil r1
  obtain rfl : args = #[v0, v1] := by cases args; simp_all
  obtain ⟨rfl, rfl⟩ := trodVars_none hV
  obtain ⟨a0, len0, cap0, rfl⟩ := okWide_slice Tryd.underlying22 (hval 0 22 v0 rfl rfl)
  have k0 := h0
  have lt0 : ∀ x ∈ p0, x.block < W.heap.size := by obtain ⟨m, hm⟩ := k0; exact DataW.trod_lt m _ _ _ hm
  obtain ⟨z0, w0⟩ : ∃ zs, IsRow .i64 W a0 len0 cap0 zs := by
    obtain ⟨fuel, hf⟩ := h0
    rcases open_ints Tryd.underlying22 Tryd.underlying3 (by kernel_rfl) hf with ⟨hcs, _⟩ | ⟨x, l, c, zs, hcs, _, hl, hm, hz, _, hcell, hwz⟩
    · simp [Value.cells] at hcs
      obtain ⟨rfl, rfl, rfl⟩ := hcs
      exact ⟨[], .inl ⟨rfl, rfl, rfl, rfl⟩⟩
    · simp [Value.cells] at hcs
      obtain ⟨rfl, rfl, rfl⟩ := hcs
      exact ⟨zs, .inr ⟨_, rfl, hl, hm, by simpa using hz, hcell, hwz⟩⟩
  obtain ⟨a1, len1, cap1, rfl⟩ := okWide_slice Tryd.underlying22 (hval 1 22 v1 rfl rfl)
  have k1 := h1
  have lt1 : ∀ x ∈ p1, x.block < W.heap.size := by obtain ⟨m, hm⟩ := k1; exact DataW.trod_lt m _ _ _ hm
  obtain ⟨z1, w1⟩ : ∃ zs, IsRow .i64 W a1 len1 cap1 zs := by
    obtain ⟨fuel, hf⟩ := h1
    rcases open_ints Tryd.underlying22 Tryd.underlying3 (by kernel_rfl) hf with ⟨hcs, _⟩ | ⟨x, l, c, zs, hcs, _, hl, hm, hz, _, hcell, hwz⟩
    · simp [Value.cells] at hcs
      obtain ⟨rfl, rfl, rfl⟩ := hcs
      exact ⟨[], .inl ⟨rfl, rfl, rfl, rfl⟩⟩
    · simp [Value.cells] at hcs
      obtain ⟨rfl, rfl, rfl⟩ := hcs
      exact ⟨zs, .inr ⟨_, rfl, hl, hm, by simpa using hz, hcell, hwz⟩⟩
  clear hA0 hval0
  refine (walk a0 len0 cap0 z0 a1 len1 cap1 z1 W w0 w1 (tab_of hL (by kernel_rfl) (MakeChecks.laidMetH_plain _ _ _ (by kernel_rfl)))).mono fun e W' ⟨he, bel⟩ => ?_
  subst he
  exact ⟨_, rfl, _, _, _, [], _, [], hW', trodAll_mk1 (shut_bool Tryd.underlying4 _), (trodAll_cons_mk (Below.trod laidOut (by kernel_rfl) (of_decide_eq_true (by kernel_rfl)) k0 bel lt0) (trodAll_cons_mk (Below.trod laidOut (by kernel_rfl) (of_decide_eq_true (by kernel_rfl)) k1 bel lt1) trodAll_mk0)), rfl, bel.frame _, fun h => by cases h⟩

theorem over : Rows.hitLeastRow.holds Tryd.pinned (OpenSpec.ofChange Rows.hitLeastSpec) :=
  OpenClaim.holds_of_wide 4 Tryd.f4 rfl rfl rfl rfl rfl rfl rfl ⟨rfl, rfl, rfl, rfl, rfl⟩ rfl rfl rfl rfl rfl (by kernel_rfl) Tryd.func4 (by kernel_rfl)
    (of_decide_eq_true (by kernel_rfl)) (by unfold Func.isWrapper; first | (rw [if_pos (by decide +kernel)]; kernel_rfl) | (rw [if_neg (by decide +kernel)]; exact ⟨rfl, rfl⟩))
    (fun os started H enc _ => lifted os started H enc)

theorem proved : Rows.HitLeastSaid := over
theorem plain (f : FuncId) (fn : Func) (hf : Tryd.pinned.checked.prog.funcNamed "linchpin/linchpinlaw36.HitLeast" = some f) (hfn : Tryd.pinned.checked.prog.funcs[f]? = some fn) :
    false = Tryd.pinned.checked.prog.looks [] ∧ ∀ (j : Nat) t, fn.params[j]? = some t → Tryd.pinned.checked.prog.wantsStandIn t = false := by
  obtain rfl : f = 4 := Option.some.inj ((show Tryd.prog.funcNamed "linchpin/linchpinlaw36.HitLeast" = some 4 by kernel_rfl).symm.trans hf) |>.symm
  obtain rfl : fn = Tryd.f4 := (Option.some.inj (Tryd.func4.symm.trans hfn)).symm
  refine ⟨by kernel_rfl, fun j t ht => ?_⟩
  rw [Tryd.params4] at ht
  have hm : t ∈ [22, 22] := by simpa using Array.mem_of_getElem? ht
  have hall : ([22, 22].all fun u => !Tryd.prog.wantsStandIn u) = true := by kernel_rfl
  exact (show Tryd.prog.wantsStandIn t = false by simpa using List.all_eq_true.1 hall t hm)

theorem card : Rows.HitLeastCardSaid :=
  Claim7.holds_tied_plain_at .later [] _ _ _ _ proved (fun _ h => by cases h) (by kernel_rfl) (fun _ h => by cases h) hitLeast_row_tie rfl ⟨rfl, rfl⟩ (by kernel_rfl) rfl plain (by kernel_rfl)
#print axioms card
end Go.Proofs.YtmfdpdnokiidlaaDoor.hitLeast
