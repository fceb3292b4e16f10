/-
  Chapter 36: the walk of hit.more and its closure. Conditions: limits and ways from 0 to 2^24, rows within the limit; at most 1000 cores of at most 1000 ways.
-/
import Derived.Test.YtmfdpdnokiidlaaDoorHSet
import Derived.Test.YtmfdpdnokiidlaaDoorHAll
namespace Go.Proofs.YtmfdpdnokiidlaaDoor
open Go.ChangeShapes Go.WideShapes Go.ChangeAt Go.RowKit Go.MapKept
set_option linter.unusedVariables false
set_option linter.unusedSimpArgs false

def ksN (l : List Nat) : List Value := l.map fun n => .int .i64 (n : Nat)
theorem ksN_mem (l : List Nat) (u : Nat) : l.contains u = true ↔ Value.int .i64 (u : Nat) ∈ ksN l := by
  unfold ksN
  simp only [List.contains_eq_mem, decide_eq_true_eq, List.mem_map]
  constructor
  · intro h; exact ⟨u, h, rfl⟩
  · rintro ⟨v, hv, e⟩
    injection e with _ e
    have : v = u := by omega
    rwa [← this]
theorem SetB.congr {d : TypeDesc} {w : World} {b : Nat} {ks ks' : List Value} (h : SetB d w b ks) (e : ∀ k, k ∈ ks ↔ k ∈ ks') : SetB d w b ks' := by
  obtain ⟨es, clock, hb, h2, h3⟩ := h
  exact ⟨es, clock, hb, h2, fun k => (h3 k).trans (e k)⟩
theorem zeroB (w : World) : (zeroValue 4).run Tryd.prog w = .ok (.bool false) w := by kernel_rfl
/-- A row of rows of ways. -/
def RdWW (w : World) (B : Nat) (A : Option Addr) (all : List (List Way)) : Prop :=
  ∃ vs : List Value, Rd w B A all.length vs ∧ ∀ (i : Nat) (r : List Way), all[i]? = some r → ∃ Ai ci, vs[i]? = some (Value.slice Ai r.length ci) ∧ r.length ≤ ci ∧ RdW w B Ai r
theorem rdWW_below {w w' : World} {B : Nat} {A : Option Addr} {all : List (List Way)} (h : RdWW w B A all) (hb : Below B w w') : RdWW w' B A all := by
  obtain ⟨vs, h1, h2⟩ := h
  refine ⟨vs, rd_below h1 hb, fun i r hr => ?_⟩
  obtain ⟨Ai, ci, g1, g2, g3⟩ := h2 i r hr
  exact ⟨Ai, ci, g1, g2, rdW_below g3 hb⟩
theorem rdWW_at {w : World} {B : Nat} {A : Option Addr} {all : List (List Way)} (h : RdWW w B A all) {k : Nat} {r : List Way} (hr : all[k]? = some r) : ∃ b off Ai ci, A = some ⟨b, off, none⟩ ∧ b < B ∧ w.cell? ⟨b, off + k, none⟩ = some (.slice Ai r.length ci) ∧ r.length ≤ ci ∧ RdW w B Ai r := by
  obtain ⟨vs, h1, h2⟩ := h
  obtain ⟨Ai, ci, g1, g2, g3⟩ := h2 k r hr
  obtain ⟨b, off, e, hb, hc⟩ := h1.2 (by have := (List.getElem?_eq_some_iff.1 hr).1; omega)
  exact ⟨b, off, Ai, ci, e, hb, hc k _ g1, g2, g3⟩
/-- The set 'seen' of more: its map and the variable that holds it. -/
def SeenN (W : World) (b : Nat) (seen : List Nat) : Prop := SetB (.int .i64) W b (ksN seen) ∧ W.cell? ⟨b + 1, 0, none⟩ = some (.map (some b)) ∧ b + 1 < W.heap.size
theorem SeenN.below {W W' : World} {b B : Nat} {seen : List Nat} (h : SeenN W b seen) (hb : Below B W W') (hB : b + 1 < B) : SeenN W' b seen :=
  ⟨h.1.below hb (by omega), (hb.cell (p := ⟨b + 1, 0, none⟩) hB).trans h.2.1, Nat.lt_of_lt_of_le h.2.2 hb.size⟩
theorem SeenN.call {W W' : World} {b : Nat} {seen : List Nat} (h : SeenN W b seen) (hb : Below W.heap.size W W') : SeenN W' b seen := h.below hb h.2.2
set_option maxHeartbeats 1000000 in
theorem morec_any (b : Nat) (seen : List Nat) (x : Way) (w : World) (h : SeenN w b seen) :
    Calls Tryd.prog 42 #[.agg #[.int .i64 (x.1 : Nat), .int .i64 x.2], .pointer (some ⟨b + 1, 0, none⟩)] w fun e w' => e = .returned (.bool (seen.contains x.1)) ∧ Below w.heap.size w w' := by
  have hbx := box_below w (.cells #[.int .i64 (x.1 : Nat), .int .i64 x.2] 61)
  have h1 := h.call hbx
  have hc := h1.2.1
  have hS := Lib.hid h1.1
  have HM := Lib.hid (ksN_mem seen x.1)
  clear h h1
  generalize seen.contains x.1 = R at *
  obtain ⟨u, q⟩ := x
  dsimp only at *
  go_enter Tryd.func42, Tryd.ntmps42
  go_wp2_with (first | (at_lookup; refine wpList_look_set _ rfl _ _ 73 rfl 3 4 Tryd.underlying73 Tryd.underlying3 (zeroB _) _ _ rfl hS.out _ rfl rfl R HM.out ?_) | fail)
  go_wp2_with fail
  go_ret
  exact ⟨rfl, hbx⟩
theorem more_drop {lim : List Int} {all : List (List Way)} {k : Nat} {l : List Way} (hx : all[k]? = some l) (seen : List Nat) (n : Int) :
    moreGo lim (all.drop k) seen n = if hitC lim l = true ∨ (l.any fun r => seen.contains r.1) = true then moreGo lim (all.drop (k + 1)) seen n else moreGo lim (all.drop (k + 1)) (seen ++ l.map Prod.fst) (n + max (l.foldl (oneW lim) (-1)) 0) := by
  obtain ⟨hlt, rfl⟩ := List.getElem?_eq_some_iff.1 hx
  conv => lhs; rw [List.drop_eq_getElem_cons hlt, moreGo]
/-- What stands between two rounds of more. -/
def MoAt (w W : World) (lim : List Int) (all : List (List Way)) (k : Nat) (seen : List Nat) (n : Int) : Prop :=
  moreGo lim (all.drop k) seen n = moreL lim all ∧ 0 ≤ n ∧ n ≤ k * 33554432 ∧ Below w.heap.size w W ∧ SeenN W w.heap.size seen
theorem one_take {lim : List Int} {l : List Way} {k : Nat} {x : Way} (hx : l[k]? = some x) (one : Int) : (l.take (k + 1)).foldl (oneW lim) one = oneW lim ((l.take k).foldl (oneW lim) one) x := by
  obtain ⟨hlt, rfl⟩ := List.getElem?_eq_some_iff.1 hx
  rw [List.take_succ_eq_append_getElem hlt, List.foldl_append]
  rfl
theorem seen_take {l : List Way} {k : Nat} {x : Way} (hx : l[k]? = some x) (seen : List Nat) (q : Value) : q ∈ .int .i64 (x.1 : Nat) :: ksN (seen ++ (l.take k).map Prod.fst) ↔ q ∈ ksN (seen ++ (l.take (k + 1)).map Prod.fst) := by
  obtain ⟨hlt, rfl⟩ := List.getElem?_eq_some_iff.1 hx
  rw [List.take_succ_eq_append_getElem hlt]
  unfold ksN
  simp only [List.map_append, List.mem_cons, List.mem_append, List.map_cons, List.map_nil, List.not_mem_nil, or_false]
  constructor
  · rintro (h | h | h)
    · exact .inr (.inr h)
    · exact .inl h
    · exact .inr (.inl h)
  · rintro (h | h | h)
    · exact .inr (.inl h)
    · exact .inr (.inr h)
    · exact .inl h
/-- Limits of this chapter. -/
def Lim (lim : List Int) : Prop := ∀ x ∈ lim, 0 ≤ x ∧ x ≤ 16777216
theorem lim_at {lim : List Int} (h : Lim lim) (u : Nat) : 0 ≤ lim.getD u 0 ∧ lim.getD u 0 ≤ 16777216 := by
  by_cases hu : u < lim.length
  · rw [List.getD_eq_getElem?_getD, List.getElem?_eq_getElem hu]
    exact h _ (List.getElem_mem hu)
  · rw [List.getD_eq_getElem?_getD, List.getElem?_eq_none (by omega)]
    exact ⟨Int.le_refl _, by decide⟩
/-- Ways of this chapter. -/
def Ways (N : Nat) (l : List Way) : Prop := (∀ r ∈ l, r.1 < N ∧ 0 ≤ r.2 ∧ r.2 ≤ 16777216) ∧ l.length ≤ 1000
def SeAt (w W : World) (lim : List Int) (l : List Way) (seen : List Nat) (j : Nat) (one : Int) : Prop :=
  (l.take j).foldl (oneW lim) (-1) = one ∧ -33554432 ≤ one ∧ one ≤ 33554432 ∧ Below w.heap.size w W ∧ SeenN W w.heap.size (seen ++ (l.take j).map Prod.fst)
set_option maxRecDepth 8192 in
set_option maxHeartbeats 8000000 in
theorem more_any (A' A2 : Option Addr) (c' c2 B : Nat) (lim : List Int) (all : List (List Way)) (w : World) (h' : RdI w B A' lim) (h2 : RdWW w B A2 all) (hB : B ≤ w.heap.size) (hlm : Lim lim) (hlim : lim.length ≤ 1000000) (hall : ∀ l ∈ all, Ways lim.length l) (hal : all.length ≤ 1000) :
    Calls Tryd.prog 26 #[.slice A' lim.length c', .slice A2 all.length c2] w fun e w' => e = .returned (.int .i64 (moreL lim all)) ∧ Below w.heap.size w w' := by
  have H' := Lib.hid h'
  have H2 := Lib.hid h2
  have HL := Lib.hid (lim_at hlm)
  have HA := Lib.hid hall
  have CH := Lib.hid (fun (W : World) (hb : Below w.heap.size w W) (l : List Way) (hl : l ∈ all) (Al : Option Addr) (cl : Nat) (hr : RdW W B Al l) => hitsl_any A' Al c' cl B lim l W (rdI_below h' (hb.mono hB)) hr (Nat.le_trans hB hb.size) (fun x hx => (hall l hl |>.1 x hx).1) hlim (hall l hl).2)
  clear h' h2 hlm hall
  generalize hn : all.length = n at *
  have HN := Lib.hid hn
  clear hn
  generalize hnl : lim.length = nl at *
  have HNL := Lib.hid hnl
  clear hnl
  have hmm := @run_makeMap Tryd.prog
  have hs0 : SeenN ((w.alloc (.map #[] 0)).alloc (.cells #[.map (some w.heap.size)] 73)) w.heap.size [] := by
    refine ⟨((setB_made (.int .i64) w).below (box_below _ _) (by simp)), ?_, by simp⟩
    have e : w.heap.size + 1 = (w.alloc (.map #[] 0)).heap.size := by simp
    rw [e]
    exact (loc_own (loc_new (loc_start _) _ [.map (some w.heap.size)] _ rfl) 0 rfl).1 0 _ rfl
  have hb0 : Below w.heap.size w ((w.alloc (.map #[] 0)).alloc (.cells #[.map (some w.heap.size)] 73)) := (box_below _ _).trans ((box_below _ _).mono (by simp))
  have hst0 := Lib.hid (show MoAt w _ lim all 0 [] 0 from ⟨rfl, by omega, by omega, hb0, hs0⟩)
  clear hs0 hb0
  go_enter Tryd.func26, Tryd.ntmps26
  go_wp2_with fail
  go_loopg [6, 8, 9, 11, 12, 16] n (fun k2 s6 _ _ _ _ s16 wr => ∃ (k : Nat) (seen : List Nat) (m : Int), k + k2 = n ∧ s6 = .int .i64 m ∧ s16 = .int .i64 k ∧ MoAt w wr lim all k seen m)
  case atStart => exact ⟨0, [], 0, by omega, rfl, rfl, hst0.out⟩
  case round =>
    obtain ⟨k, seen, m, hk, rfl, rfl, hst⟩ := hrel
    have HST := Lib.hid hst
    obtain ⟨_, m0, m1, hbel, hseen⟩ := hst
    have HS := Lib.hid hseen
    clear hst0 hseen
    by_cases hlt : k < n
    · have i1 : (k : Int) < (n : Int) := by omega
      have hlc : k < all.length := by rw [HN.out]; exact hlt
      have hxk : all[k]? = some all[k] := List.getElem?_eq_getElem hlc
      have hmem := List.getElem_mem hlc
      generalize all[k] = l at *
      obtain ⟨b, off, Al, cl, rfl, hb, q0, hcl, hK⟩ := rdWW_at (rdWW_below H2.out (hbel.mono hB)) hxk
      have hcx := CH.out wr hbel l hmem Al cl hK
      have hdrop := more_drop (lim := lim) hxk seen m
      rw [HST.out.1] at hdrop
      have HD := Lib.hid hdrop
      have HWL := Lib.hid (HA.out l hmem)
      have hll := (HA.out l hmem).2
      have HK := Lib.hid hK
      clear hdrop hxk hmem hlc hK
      have hcc := fun (W : World) (hb2 : Below wr.heap.size wr W) => containswM Al cl B (w.heap.size + 1) l (fun r => seen.contains r.1) W (rdW_below HK.out (hb2.mono (Nat.le_trans hB hbel.size))) (Nat.le_trans hB (Nat.le_trans hbel.size hb2.size)) hll (fun x _ W2 hb3 => morec_any w.heap.size seen x W2 ((HS.out.call hb2).call hb3))
      have HCC := Lib.hid hcc
      clear hcc
      generalize hnx : l.length = nx at *
      have HNX := Lib.hid hnx
      clear hnx
      generalize hitC lim l = R1 at *
      generalize l.any (fun r => seen.contains r.1) = R2 at *
      cases R1
      · go_wp2_with fail
        refine hcx.mono ?_
        rintro e w1 ⟨rfl, hb1⟩
        have hb1w := hbel.trans (hb1.mono hbel.size)
        have hcc := HCC.out w1 hb1
        clear HCC hcx
        go_wp2_with fail
        refine hcc.mono ?_
        rintro e w2 ⟨rfl, hb2⟩
        have hb2w := hb1w.trans (hb2.mono hb1w.size)
        have hs2 := (HS.out.call hb1).call hb2
        clear hcc
        cases R2
        · have HD2 : Hid (moreGo lim (all.drop (k + 1)) (seen ++ l.map Prod.fst) (m + max (l.foldl (oneW lim) (-1)) 0) = moreL lim all) := Lib.hid (by have h := HD.out.symm; simpa using h)
          have hK2 := rdW_below HK.out ((hb1.mono (Nat.le_trans hB hbel.size)).trans (hb2.mono (Nat.le_trans hB hb1w.size)))
          have HK2 := Lib.hid hK2
          clear HD HK hK2
          go_wp2_with fail
          have hst2 : SeAt w w2 lim l seen 0 (-1) := ⟨rfl, by omega, by omega, hb2w, by simpa using hs2⟩
          have HST2 := Lib.hid hst2
          clear hst2 HST HA CH HN hs2 hb1 hb2
          go_loopg [9, 11, 12, 30] nx (fun k3 s9 _ _ s30 w3 => ∃ (j : Nat) (one : Int), j + k3 = nx ∧ s9 = .int .i64 one ∧ s30 = .int .i64 j ∧ SeAt w w3 lim l seen j one ∧ Below w.heap.size w2 w3)
          case atStart => exact ⟨0, -1, by omega, rfl, rfl, HST2.out, Below.refl _ _⟩
          case round =>
            obtain ⟨j, one, hj, rfl, rfl, hst, hb3⟩ := hrel
            clear HST2
            have HSE := Lib.hid hst
            obtain ⟨_, o0, o1, hbel3, hseen3⟩ := hst
            have HS3 := Lib.hid hseen3
            clear hseen3
            by_cases hjl : j < nx
            · have i2 : (j : Int) < (nx : Int) := by omega
              have hjc : j < l.length := by rw [HNX.out]; exact hjl
              have hyj : l[j]? = some l[j] := List.getElem?_eq_getElem hjc
              have hym := List.getElem_mem hjc
              generalize l[j] = y at *
              obtain ⟨hy1, hy2, hy3⟩ := HWL.out.1 y hym
              obtain ⟨bi, rfl, hbi, hyc⟩ := rdW_below HK2.out (hb3.mono hB) (by omega)
              obtain ⟨y0, y1⟩ := hyc j y hyj
              have hot := one_take (lim := lim) hyj (-1)
              rw [HSE.out.1] at hot
              have HOT := Lib.hid hot
              have HST3 := Lib.hid (seen_take hyj seen)
              obtain ⟨l0, l1⟩ := HL.out y.1
              obtain ⟨bl, ol, rfl, hbl, hlc⟩ := rdI_at (rdI_below H'.out (hbel3.mono hB)) (k := y.1) (by rw [HNL.out]; exact hy1)
              clear hot hyc hyj hym hjc
              have hbx := box_below wr (.cells #[.int .i64 (y.1 : Nat), .int .i64 y.2] 61)
              have hsx := HS3.out.call hbx
              have hL4 := loc_new (loc_start wr) wr.heap.size [.int .i64 (y.1 : Nat), .int .i64 y.2] 61
              have hown4 := loc_own hL4 0 rfl
              have hlx := (hbx.cell (p := ⟨bl, ol + y.1, none⟩) (show bl < wr.heap.size by have := hbel3.size; omega)).trans hlc
              have hbw4 := hbel3.trans (hbx.mono hbel3.size)
              have hb4 := hb3.trans (hbx.mono hbel3.size)
              have hne : wr.heap.size ≠ w.heap.size := by have := HS3.out.2.2; omega
              have hbln : bl ≠ w.heap.size := by omega
              have hmc := hsx.2.1
              have hmS := Lib.hid hsx.1
              have HSX := Lib.hid hsx
              have i3 : (y.1 : Int) < (nl : Int) := by omega
              clear hlc hsx hL4 hbx
              generalize hlv : lim.getD y.1 0 = lv at *
              have HLV := Lib.hid hlv
              clear hlv
              obtain ⟨u, q⟩ := y
              dsimp only at *
              obtain ⟨w5, hrun, hS5, hg5⟩ := hmS.out.put (P := Tryd.prog) (t := 73) Tryd.underlying73 Tryd.underlying3 (key := .int .i64 (u : Nat)) rfl
              have HS5 : Hid (SeenN w5 w.heap.size (seen ++ (l.take (j + 1)).map Prod.fst)) := Lib.hid ⟨hS5.congr HST3.out, hg5.cell hmc (by simp), Nat.lt_of_lt_of_le HSX.out.2.2 hg5.size⟩
              have z0 := hg5.cell (hown4.1 0 _ rfl) (by simpa using hne)
              have z1 := hg5.cell (hown4.1 1 _ rfl) (by simpa using hne)
              have hl5 := hg5.cell hlx (by simpa using hbln)
              have hbw5 := hbw4.grown hg5 hbw4.size (by rintro k ⟨⟩; exact Nat.le_refl _)
              have hb5 := hb4.grown hg5 hbw4.size (by rintro k ⟨⟩; exact Nat.le_refl _)
              clear hS5 hg5 hmS HSX HST3 hown4 hlx hbw4 hb4 hne hbln HS3
              by_cases g1 : one < 0
              · have HO : Hid ((l.take (j + 1)).foldl (oneW lim) (-1) = q - lv) := Lib.hid (by rw [HOT.out]; unfold oneW; rw [HLV.out, if_pos (.inl g1)])
                clear HOT HLV
                go_wp2_with fail
                go_region
                all_goals
                  go_wp2_with fail
                  go_roundg (nx - (j + 1))
                  case rel => exact ⟨j + 1, q - lv, by omega, rfl, by go_num, ⟨HO.out, by omega, by omega, hbw5.drew, HS5.out⟩, hb5.drew⟩
                  case measure => omega
              · by_cases g2 : q - lv < one
                · have HO : Hid ((l.take (j + 1)).foldl (oneW lim) (-1) = q - lv) := Lib.hid (by rw [HOT.out]; unfold oneW; rw [HLV.out, if_pos (.inr g2)])
                  clear HOT HLV
                  go_wp2_with fail
                  go_region
                  all_goals
                    go_wp2_with fail
                    go_roundg (nx - (j + 1))
                    case rel => exact ⟨j + 1, q - lv, by omega, rfl, by go_num, ⟨HO.out, by omega, by omega, hbw5.drew, HS5.out⟩, hb5.drew⟩
                    case measure => omega
                · have HO : Hid ((l.take (j + 1)).foldl (oneW lim) (-1) = one) := Lib.hid (by rw [HOT.out]; unfold oneW; rw [HLV.out, if_neg (by omega)])
                  clear HOT HLV
                  go_wp2_with fail
                  go_region
                  all_goals
                    go_wp2_with fail
                    go_roundg (nx - (j + 1))
                    case rel => exact ⟨j + 1, one, by omega, rfl, by go_num, ⟨HO.out, by omega, by omega, hbw5.drew, HS5.out⟩, hb5.drew⟩
                    case measure => omega
            · obtain rfl : j = nx := by omega
              have htk : l.take j = l := List.take_of_length_le (by rw [HNX.out]; exact Nat.le_refl _)
              have HO : Hid (moreGo lim (all.drop (k + 1)) (seen ++ l.map Prod.fst) (m + max one 0) = moreL lim all) := Lib.hid (by have h := HSE.out.1; rw [htk] at h; rw [← h]; exact HD2.out)
              have HS6 : Hid (SeenN wr w.heap.size (seen ++ l.map Prod.fst)) := Lib.hid (by have h := HS3.out; rwa [htk] at h)
              clear HD2 HS3
              by_cases g1 : one < 0
              · have HM : Hid (max one 0 = 0) := Lib.hid (by omega)
                go_wp2_with fail
                go_roundg (n - (k + 1))
                case rel => exact ⟨k + 1, _, _, by omega, rfl, by go_num, by have h := HO.out; rwa [HM.out, Int.add_zero] at h, by omega, by omega, hbel3, HS6.out⟩
                case measure => omega
              · have HM : Hid (max one 0 = one) := Lib.hid (by omega)
                go_wp2_with fail
                go_roundg (n - (k + 1))
                case rel => exact ⟨k + 1, _, _, by omega, rfl, by go_num, by have h := HO.out; rwa [HM.out] at h, by omega, by omega, hbel3, HS6.out⟩
                case measure => omega
        · have HD2 : Hid (moreGo lim (all.drop (k + 1)) seen m = moreL lim all) := Lib.hid (by have h := HD.out.symm; simpa using h)
          clear HD
          go_wp2_with fail
          go_roundg (n - (k + 1))
          case rel => exact ⟨k + 1, seen, m, by omega, rfl, by go_num, HD2.out, m0, by omega, hb2w, hs2⟩
          case measure => omega
      · have HD2 : Hid (moreGo lim (all.drop (k + 1)) seen m = moreL lim all) := Lib.hid (by have h := HD.out.symm; simpa using h)
        clear HD
        go_wp2_with fail
        refine hcx.mono ?_
        rintro e w1 ⟨rfl, hb1⟩
        have hb1w := hbel.trans (hb1.mono hbel.size)
        go_wp2_with fail
        go_roundg (n - (k + 1))
        case rel => exact ⟨k + 1, seen, m, by omega, rfl, by go_num, HD2.out, m0, by omega, hb1w, HS.out.call hb1⟩
        case measure => omega
    · obtain rfl : k = n := by omega
      have HE : Hid (m = moreL lim all) := by
        have := HST.out.1
        rwa [← HN.out, List.drop_length] at this
      go_wp2_with fail
      go_ret
      exact ⟨ret_i64' HE.out, hbel⟩
end Go.Proofs.YtmfdpdnokiidlaaDoor
