/-
  HitMore: additional cores do not decrease what Low tells; the limit told hits all cores and is of that sum. Conditions: strconv's table starts as the program's text lays it (the card ties it).
-/
import Derived.Test.YtmfdpdnokiidlaaDoorRows
import Derived.Test.YtmfdpdnokiidlaaDoorHJoin
import Derived.Deep.LoopGhost
import Derived.Deep.CutRange
import Derived.Test.YtmfdpdnokiidlaaDoorCards
import Derived.Test.YtmfdpdnokiidlaaDoorTie
import Derived.Test.YtmfdpdnokiidlaaDoorTab
import Derived.LaidMore
import Derived.MakeChecks
import Derived.SevenTiedAt
import Derived.Stop.Joined
import Derived.WalkKit
import Derived.ProofKit
import Derived.OpenShut
import Derived.ShutString
import Derived.ChangeOld
import Derived.Below
namespace Go.Proofs.YtmfdpdnokiidlaaDoor.hitMore
open Go.ChangeShapes Go.WideShapes Go.ChangeAt Go.RowKit
open Go.ChangeMaps (open_string shut_string)
set_option linter.unusedVariables false

theorem own : ownKnob Tryd.prog.godebug = none := by kernel_rfl
theorem laidOut : laidOutB Tryd.prog = true := by kernel_rfl

def IsRow (k : IntKind) (w : World) (a : Option Addr) (len cap : Nat) (zs : List Int) : Prop :=
  (a = none ∧ len = 0 ∧ cap = 0 ∧ zs = []) ∨
  ∃ x, a = some x ∧ len ≤ cap ∧ cap ≤ maxLen ∧ zs.length = cap ∧ (∀ i, i < zs.length → w.cell? (x.add i) = some (.int k (zs.getD i 0))) ∧ ∀ n ∈ zs, (Lit.int k n).wf = true

set_option maxHeartbeats 8000000 in
set_option maxRecDepth 8192 in
theorem walk (a0 : Option Addr) (len0 cap0 : Nat) (z0 : List Int) (a1 : Option Addr) (len1 cap1 : Nat) (z1 : List Int) (a2 : Option Addr) (len2 cap2 : Nat) (z2 : List Int) (w : World) (w0 : IsRow .i64 w a0 len0 cap0 z0) (w1 : IsRow .i64 w a1 len1 cap1 z1) (w2 : IsRow .i64 w a2 len2 cap2 z2) (hT : Tab w) :
    Calls Tryd.prog 5 #[.slice a0 len0 cap0, .slice a1 len1 cap1, .slice a2 len2 cap2] w fun e w' => e = .returned (.bool true) ∧ Below w.heap.size w w' := by
  have HTAB := Lib.hid (fun (W : World) (hb : Below w.heap.size w W) => tab_below hT hb)
  clear hT
  by_cases hlen : 60 < len0 ∨ 60 < len1 ∨ 60 < len2
  · have ca := awake_any w (HTAB.out w (Below.refl _ _))
    clear w0 w1 w2
    by_cases h0 : 60 < len0
    · have i0 : (60 : Int) < (len0 : Int) := by omega
      go_enter Tryd.func5, Tryd.ntmps5
      go_wp2_with fail
      refine ca.mono ?_
      rintro e w1 ⟨rfl, hb1⟩
      go_wp2_with fail
      go_ret
      exact ⟨rfl, hb1⟩
    · have i0 : ¬ (60 : Int) < (len0 : Int) := by omega
      by_cases h1 : 60 < len1
      · have i1 : (60 : Int) < (len1 : Int) := by omega
        go_enter Tryd.func5, Tryd.ntmps5
        go_wp2_with fail
        refine ca.mono ?_
        rintro e w1 ⟨rfl, hb1⟩
        go_wp2_with fail
        go_ret
        exact ⟨rfl, hb1⟩
      · have i1 : ¬ (60 : Int) < (len1 : Int) := by omega
        have i2 : (60 : Int) < (len2 : Int) := by omega
        go_enter Tryd.func5, Tryd.ntmps5
        go_wp2_with fail
        refine ca.mono ?_
        rintro e w1 ⟨rfl, hb1⟩
        go_wp2_with fail
        go_ret
        exact ⟨rfl, hb1⟩
  · have i0 : ¬ (60 : Int) < (len0 : Int) := by omega
    have i1 : ¬ (60 : Int) < (len1 : Int) := by omega
    have i2 : ¬ (60 : Int) < (len2 : Int) := by omega
    obtain ⟨l0, hl0, hrd0, hml0, hwf0⟩ := arg_ints w0
    obtain ⟨l1, hl1, hrd1, hml1, hwf1⟩ := arg_ints w1
    obtain ⟨l2, hl2, hrd2, hml2, hwf2⟩ := arg_ints w2
    have ct := table_ret a0 cap0 len0 l0 w hrd0 hl0 hml0 hwf0
    have hTok := @tab_ok l0
    have hTn := (tableP_ok l0).1
    clear w0 w1 w2 hrd0 hwf0
    obtain ⟨s0, hs0, hz0, hz1, hz2⟩ := info_parts info_terms
    have HS := Lib.hid hs0
    have HZ := Lib.hid (And.intro hz0 (And.intro hz1 hz2))
    clear hs0 hz0 hz1 hz2
    have HR1 := Lib.hid hrd1
    have HR2 := Lib.hid hrd2
    have HW1 := Lib.hid hwf1
    have HW2 := Lib.hid hwf2
    have HL1 := Lib.hid hl1
    have HL2 := Lib.hid hl2
    clear hl0 hml0 hrd1 hrd2 hwf1 hwf2 hl1 hl2
    generalize tableP l0 = T at *
    have HTO := Lib.hid hTok
    clear hTok
    generalize hN : T.length = N at *
    have HN := Lib.hid hN
    clear hN
    go_enter Tryd.func5, Tryd.ntmps5
    go_wp2_with fail
    refine ct.mono ?_
    rintro e w1 ⟨⟨A', c', rfl, hc', hrT⟩, hb1⟩
    have HRT := Lib.hid hrT
    have cc := cores_anyX a1 cap1 l1 N ⟨by omega, by omega⟩ w1 (rdI_more (rdI_below HR1.out hb1) hb1.size) (by rw [HL1.out]; exact hml1) HW1.out
    rw [HL1.out] at cc
    have hk1 := coresP_ok l1 (rows := N) (by omega)
    have hk2 := coresP_ok l2 (rows := N) (by omega)
    generalize coresP l1 N = K1 at *
    clear ct hrT
    go_wp2_with fail
    refine cc.mono ?_
    rintro e w2 ⟨⟨v, rfl, hcor⟩, hb2⟩
    have hb2w := hb1.trans (hb2.mono hb1.size)
    obtain ⟨vs1, hv1, hr1⟩ := hcor
    obtain ⟨Ak, ck, rfl, hck⟩ := own_slice hv1
    have hvl1 : vs1.length = K1.length := by simpa using hv1.1
    have HV1 := Lib.hid hv1
    have HRR1 := Lib.hid (show CorRows w2 (w1.heap.size + 1) vs1 K1 from hr1)
    have h1c := one_cell hvl1 HRR1.out
    have hml : K1.length ≤ 5 := hk1.1
    generalize hm1 : K1.length = m1 at *
    have HM1 := Lib.hid hm1
    clear hm1 cc hr1
    go_wp2_with (first | (at_builtin; refine wpList_append_any (w := w2) rfl (.const (.slice none 0 0)) (.tmp 39) 26 rfl w2.heap.size 33 s0 _ 1 24 Tryd.underlying26 HS.out HZ.out.1 HZ.out.2.1 HZ.out.2.2 rfl (by omega) (.slice none 0 0) 0 [] rfl (World.ownsRow_nil _ _ _ _) w2.heap.size Ak m1 ck vs1 (by simp [Act.eval, go_sem]) (Reads.of_own hv1) h1c (by unfold maxLen; omega) (by omega) (Nat.le_refl _) ?_; intro v3 w3 hown3 hg3 _) | fail)
    rw [Nat.zero_add, List.nil_append] at hown3
    have hb3 : Below w2.heap.size w2 w3 := (Below.refl _ _).grown hg3 (Nat.le_refl _) (by rintro k ⟨⟩)
    have hb3w := hb2w.trans (hb3.mono hb2w.size)
    have cc := cores_anyX a2 cap2 l2 N ⟨by omega, by omega⟩ w3 (rdI_more (rdI_below HR2.out hb3w) hb3w.size) (by rw [HL2.out]; exact hml2) HW2.out
    rw [HL2.out] at cc
    generalize coresP l2 N = K2 at *
    refine cc.mono ?_
    rintro e w4 ⟨⟨v, rfl, hcor⟩, hb4⟩
    have hb4w := hb3w.trans (hb4.mono hb3w.size)
    obtain ⟨vs2, hv2, hr2⟩ := hcor
    obtain ⟨Aj, cj, rfl, hcj⟩ := own_slice hv2
    have hvl2 : vs2.length = K2.length := by simpa using hv2.1
    have HV2 := Lib.hid hv2
    have HRR2 := Lib.hid (show CorRows w4 (w3.heap.size + 1) vs2 K2 from hr2)
    have h2c := one_cell hvl2 HRR2.out
    have hmj : K2.length ≤ 5 := hk2.1
    generalize hm2 : K2.length = m2 at *
    have HM2 := Lib.hid hm2
    have hown4 := own_keep hown3 hb4
    have hz2 := hb2.size
    have hz3 := hb3.size
    have hz4 := hb4.size
    have hl3 : ∀ k, v3.ownBlock = some k → k < w3.heap.size := fun k hk => (hown3.lt k hk).2
    clear hm2 cc hr2 hown3 hg3
    go_wp2_with (first | (at_builtin; refine wpList_append_any (w := w4) rfl (.tmp 40) (.tmp 44) 26 rfl w2.heap.size 33 s0 _ 1 24 Tryd.underlying26 HS.out HZ.out.1 HZ.out.2.1 HZ.out.2.2 rfl (by omega) v3 m1 vs1 (by simp [Act.eval, go_sem]) hown4 w4.heap.size Aj m2 cj vs2 (by simp [Act.eval, go_sem]) (Reads.of_own hv2) h2c (by unfold maxLen; omega) (by omega) (by omega) ?_; intro v5 w5 hown5 hg5 _; have hgl : ∀ k, v3.ownBlock = some k → w2.heap.size ≤ k := fun k hk => (hown4.lt k hk).1) | fail)
    have hg3l : ∀ k, v3.ownBlock = some k → k < w4.heap.size := fun k hk => (hown4.lt k hk).2
    have hb5 : Below w2.heap.size w4 w5 := (Below.refl _ _).grown hg5 (by omega) hgl
    have hb5w := hb4w.trans (hb5.mono (by have := hb2w.size; omega))
    have hb25 : Below w2.heap.size w2 w5 := (hb3.trans (hb4.mono hz3)).trans hb5
    have hz5 := hb5.size
    have hb15 : Below w1.heap.size w1 w5 := hb2.trans (hb25.mono hz2)
    have hRT5 := rdT_more (rdT_below HRT.out hb15) hb15.size
    have hk5 : RdKK w5 w5.heap.size Ak K1 := by
      have hc : CorAt w2 (w1.heap.size + 1) (.slice Ak m1 ck) K1 := ⟨vs1, by rw [HM1.out]; exact HV1.out, HRR1.out⟩
      obtain ⟨A9, c9, e9, _, hr9⟩ := (hc.stay (W' := w5) fun g _ h2 => hb25.block g h2).rd
      cases e9
      exact hr9
    have hj5 : CorAt w5 w1.heap.size v5 (K1 ++ K2) := cor_join (by rw [HM1.out, HM2.out]; exact own_mono hown5 (by omega)) (by rw [HM1.out]; exact hvl1) (HRR1.out.stay (by omega) fun g _ h2 => hb25.block g h2) (HRR2.out.stay (by omega) fun g h1 h2 => hg5.block g h2 (fun he => by have := hl3 g he.symm; omega))
    obtain ⟨A5, c5, rfl, hc5, hj5r⟩ := hj5.rd
    have htwo := more_two HTO.out K1 K2
    have cl1 := low_any A' Ak c' ck w5.heap.size T K1 w5 hRT5 hk5 (Nat.le_refl _) (by rw [HN.out]; omega) HTO.out (fun k hk => ⟨fun x hx => by have := (hk1.2 k hk).2 x hx; omega, by have := (hk1.2 k hk).1; omega⟩) (by rw [HM1.out]; omega) (HTAB.out w5 hb5w)
    have HL2C := Lib.hid (fun (W : World) (hb : Below w5.heap.size w5 W) => low_any A' A5 c' c5 w5.heap.size T (K1 ++ K2) W (rdT_below hRT5 hb) (rdKK_below hj5r hb) hb.size (by rw [HN.out]; omega) HTO.out (fun k hk => by
      rcases List.mem_append.1 hk with hk | hk
      · exact ⟨fun x hx => by have := (hk1.2 k hk).2 x hx; omega, by have := (hk1.2 k hk).1; omega⟩
      · exact ⟨fun x hx => by have := (hk2.2 k hk).2 x hx; omega, by have := (hk2.2 k hk).1; omega⟩) (by rw [List.length_append, HM1.out, HM2.out]; omega) (HTAB.out W (hb5w.trans (hb.mono hb5w.size))))
    rw [HN.out] at HL2C
    rw [HN.out, HM1.out] at cl1
    have HRT5 := Lib.hid hRT5
    have HK5 := Lib.hid hk5
    have HX1 := Lib.hid hk1.2
    generalize (K1 ++ K2).length = m3 at *
    have CW := Lib.hid (fun (W : World) (hb : Below w.heap.size w W) => awake_any W (HTAB.out W hb))
    clear hb5 hb25 hb15 hRT5 hk5 hj5 hj5r hown5 hown4 hg5 hv1 hv2 h1c h2c hgl hg3l hl3 hk1 hk2
    rcases htwo with ⟨n, L, h1, hLL, hLim, hsum, hhit, hle⟩ | ⟨h1, h2⟩
    · rw [h1] at cl1
      refine cl1.mono ?_
      rintro e w6 ⟨⟨g, cap, rfl, hcap, hrdL⟩, hb6⟩
      have hb6w := hb5w.trans (hb6.mono hb5w.size)
      have HLE := Lib.hid hle
      have HHIT := Lib.hid hhit
      have HLIM := Lib.hid hLim
      have HRDL := Lib.hid hrdL
      have HSUM := Lib.hid hsum
      rw [HN.out] at hLL
      rw [hLL]
      have HLL := Lib.hid hLL
      clear cl1 hle hhit hLim hrdL hsum hLL h1
      go_wp2_with fail
      refine (HL2C.out w6 hb6).mono ?_
      rintro e w7 ⟨hlr, hb7⟩
      obtain ⟨mv, A7, k7, c7, isv, rfl, hm⟩ := low_parts hlr
      have hb7w := hb6w.trans (hb7.mono hb6w.size)
      have hmv : isv = true → n ≤ mv := fun h => by obtain ⟨K, hK⟩ := hm h; exact HLE.out mv K hK
      have hb57 := hb6.trans (hb7.mono hb6.size)
      have HRT7 := Lib.hid (rdT_below HRT5.out hb57)
      have HK7 := Lib.hid (rdKK_below HK5.out hb57)
      have HRD7 := Lib.hid (rdI_below HRDL.out hb7)
      have hz6 := hb6.size
      have hz7 := hb7.size
      clear hlr hm
      go_upto_region 8 with fail
      go_cut [79] from 60 to 79 (fun v wx => v = .bool false ∧ w7 = wx)
      case first =>
        cases isv with
        | false =>
          go_wp2_with fail
          go_meet
          exact ⟨rfl, rfl⟩
        | true =>
          have h9 := hmv rfl
          have h8 : ¬ mv < n := by omega
          go_wp2_with fail
          go_meet
          exact ⟨rfl, rfl⟩
      case rest =>
        obtain ⟨rfl, rfl⟩ := hcut
        go_wp2_with fail
        go_loopg [16, 17] N (fun k2 s16 s17 wr => ∃ k : Nat, k + k2 = N ∧ s16 = .int .i64 (L.take k).sum ∧ s17 = .int .i64 k ∧ w7 = wr)
        case atStart => exact ⟨0, by omega, rfl, rfl, rfl⟩
        case round =>
          obtain ⟨k, hk, rfl, rfl, rfl⟩ := hrel
          by_cases hlt : k < N
          · have i3 : (k : Int) < (N : Int) := by omega
            obtain ⟨bl, ol, el, _, hcl⟩ := rdI_at HRD7.out (k := k) (by rw [HLL.out]; exact hlt)
            cases el
            rw [Nat.zero_add] at hcl
            have HST := Lib.hid (sum_take (L := L) (k := k) (by rw [HLL.out]; exact hlt))
            have htb := take_bd HLIM.out (k := k) (by omega)
            have hlb := lim_at HLIM.out k
            generalize L.getD k 0 = lv at *
            generalize (L.take k).sum = sk at *
            go_wp2_with fail
            go_roundg (N - (k + 1))
            case rel => exact ⟨k + 1, by omega, by rw [HST.out], by go_num, rfl⟩
            case measure => omega
          · obtain rfl : k = N := by omega
            have hfin : (L.take k).sum = n := by rw [HSUM.out, List.take_of_length_le (by rw [HLL.out]; exact Nat.le_refl _)]
            rw [hfin]
            go_wp2_with fail
            go_loopg [18] m1 (fun k2 s18 wr => ∃ q : Nat, q + k2 = m1 ∧ s18 = .int .i64 q ∧ Below w7.heap.size w7 wr)
            case atStart => exact ⟨0, by omega, rfl, Below.refl _ _⟩
            case round =>
              obtain ⟨q, hq, rfl, hb8⟩ := hrel
              by_cases hql : q < m1
              · have i4 : (q : Int) < (m1 : Int) := by omega
                have hlc : q < K1.length := by rw [HM1.out]; exact hql
                have hxk : K1[q]? = some K1[q] := List.getElem?_eq_getElem hlc
                have hmem := List.getElem_mem hlc
                generalize K1[q] = x at *
                have hw8 := hb8.size
                have hK8 := rdKK_below HK7.out (hb8.mono (show w5.heap.size ≤ w7.heap.size by omega))
                obtain ⟨b, off, Ai, ci, rfl, hb, hcell, hci, hri⟩ := rdKK_at hK8 hxk
                have hx9 := HX1.out x hmem
                have ch := hits_any A' (some ⟨g, 0, none⟩) Ai c' cap ci wr.heap.size T L x wr (rdT_more (rdT_below HRT7.out (hb8.mono (show w5.heap.size ≤ w7.heap.size by omega))) (by omega)) (rdI_more (rdI_below HRD7.out (hb8.mono (show w6.heap.size ≤ w7.heap.size by omega))) (by omega)) (rdK_more hri (by omega)) (Nat.le_refl _) (by rw [HN.out]; omega) (fun r hr => (HTO.out r hr).1) (fun y hy => by have := hx9.2 y hy; omega) (by rw [HLL.out]; omega) (by have := hx9.1; omega)
                rw [HHIT.out x hmem, HN.out, HLL.out] at ch
                clear hxk hmem hlc hK8 hri hx9
                generalize x.length = xl at *
                go_wp2_with fail
                refine ch.mono ?_
                rintro e w8 ⟨rfl, hb9⟩
                go_wp2_with fail
                go_roundg (m1 - (q + 1))
                case rel => exact ⟨q + 1, by omega, by go_num, hb8.trans (hb9.mono hb8.size)⟩
                case measure => omega
              · obtain rfl : q = m1 := by omega
                have hbz := hb7w.trans (hb8.mono hb7w.size)
                go_wp2_with fail
                refine (CW.out _ hbz).mono ?_
                rintro e w9 ⟨rfl, hb9⟩
                go_wp2_with fail
                go_ret
                exact ⟨rfl, hbz.trans (hb9.mono hbz.size)⟩
    · rw [h1] at cl1
      refine cl1.mono ?_
      rintro e w6 ⟨rfl, hb6⟩
      have hb6w := hb5w.trans (hb6.mono hb5w.size)
      have cl2 := HL2C.out w6 hb6
      rw [h2] at cl2
      clear cl1 h1 h2
      go_wp2_with fail
      refine cl2.mono ?_
      rintro e w7 ⟨rfl, hb7⟩
      have hb7w := hb6w.trans (hb7.mono hb6w.size)
      clear cl2
      go_wp2_with fail
      go_loopg [16, 17] 1 (fun k2 s16 s17 wr => s16 = .int .i64 0 ∧ s17 = .int .i64 0 ∧ w7 = wr)
      case atStart => exact ⟨rfl, rfl, rfl⟩
      case round =>
        obtain ⟨rfl, rfl, rfl⟩ := hrel
        go_wp2_with fail
        go_loopg [18] 1 (fun k2 s18 wr => s18 = .int .i64 0 ∧ w7 = wr)
        case atStart => exact ⟨rfl, rfl⟩
        case round =>
          obtain ⟨rfl, rfl⟩ := hrel
          go_wp2_with fail
          all_goals
            refine (CW.out _ hb7w).mono ?_
            rintro e w9 ⟨rfl, hb9⟩
            go_wp2_with fail
            go_ret
            exact ⟨rfl, hb7w.trans (hb9.mono hb7w.size)⟩

set_option maxRecDepth 100000 in
theorem lifted (os : Os) (started : os.Started) (H : Type) (enc : TypeId × Value → H) :
    ReturnsInHanded {} Tryd.checked os 5 .any (fun w args => (Rows.hitMoreSpec.pre enc Tryd.prog Tryd.f5 [] false w args ∧ laidMetH Tryd.prog Rows.hitMoreRow.laid w) ∧ sizedMet enc Tryd.prog Tryd.f5 (OpenSpec.ofChange Rows.hitMoreSpec) false w args) (Rows.hitMoreSpec.post enc Tryd.prog Tryd.f5 false true false false) := by
  refine returnsInHanded_of_change_and (C := Tryd.checked) (X := fun w _ => laidMetH Tryd.prog Rows.hitMoreRow.laid w) (fun _ _ _ hh h => h.of_heap hh) own started (by kernel_rfl) Tryd.func5
    (ChangeSpec.witness_shaped (enc := enc) (C := Tryd.checked) (os := os) (X := fun w _ => laidMetH Tryd.prog Rows.hitMoreRow.laid w) false (World.doorLaid Tryd.prog 400 os) #[.slice none 0 0, .slice none 0 0, .slice none 0 0] 8 rfl (World.shaped_of_RefB (by kernel_rfl) (by kernel_rfl)) (by kernel_rfl) (by kernel_rfl) (by kernel_rfl)
      (laidMetH_of_parts3 (fuel := 8) (laidMet_of_run' 8 (by kernel_rfl) (by kernel_rfl)) (by kernel_rfl) (by kernel_rfl))) ?_
  intro W base args ds gs before hval0 hW _ _ hL _
  have hval : ∀ (j : Nat) t v, Tryd.f5.params[j]? = some t → args[j]? = some v → Value.okWide Tryd.prog W .any base t v := hval0
  have hW' := hW
  obtain ⟨p, q, hA0, hV, rfl, hfz, hnd⟩ := hW
  have hA : DataW.TrodAll enc Tryd.prog W 0 (fun _ => true) true Tryd.f5.params.toList args.toList ds p := hA0
  rw [Tryd.params5] at hA hval
  obtain ⟨v0, vs0, d0, ds0, p0, q0, hargs, rfl, rfl, h0, r0⟩ := trodAll_cons hA
  obtain ⟨v1, vs1, d1, ds1, p1, q1, rfl, rfl, rfl, h1, r1⟩ := trodAll_cons r0
  obtain ⟨v2, vs2, d2, ds2, p2, q2, rfl, rfl, rfl, h2, r2⟩ := trodAll_cons r1
  obtain ⟨rfl, rfl, rfl⟩ := trodAll_nil r2
  obtain rfl : args = #[v0, v1, v2] := by cases args; simp_all
  obtain ⟨rfl, rfl⟩ := trodVars_none hV
  obtain ⟨a0, len0, cap0, rfl⟩ := okWide_slice Tryd.underlying22 (hval 0 22 v0 rfl rfl)
  have k0 := h0
  have lt0 : ∀ x ∈ p0, x.block < W.heap.size := by obtain ⟨m, hm⟩ := k0; exact DataW.trod_lt m _ _ _ hm
  obtain ⟨z0, w0⟩ : ∃ zs, IsRow .i64 W a0 len0 cap0 zs := by
    obtain ⟨fuel, hf⟩ := h0
    rcases open_ints Tryd.underlying22 Tryd.underlying3 (by kernel_rfl) hf with ⟨hcs, _⟩ | ⟨x, l, c, zs, hcs, _, hl, hm, hz, _, hcell, hwz⟩
    · simp [Value.cells] at hcs
      obtain ⟨rfl, rfl, rfl⟩ := hcs
      exact ⟨[], .inl ⟨rfl, rfl, rfl, rfl⟩⟩
    · simp [Value.cells] at hcs
      obtain ⟨rfl, rfl, rfl⟩ := hcs
      exact ⟨zs, .inr ⟨_, rfl, hl, hm, by simpa using hz, hcell, hwz⟩⟩
  obtain ⟨a1, len1, cap1, rfl⟩ := okWide_slice Tryd.underlying22 (hval 1 22 v1 rfl rfl)
  have k1 := h1
  have lt1 : ∀ x ∈ p1, x.block < W.heap.size := by obtain ⟨m, hm⟩ := k1; exact DataW.trod_lt m _ _ _ hm
  obtain ⟨z1, w1⟩ : ∃ zs, IsRow .i64 W a1 len1 cap1 zs := by
    obtain ⟨fuel, hf⟩ := h1
    rcases open_ints Tryd.underlying22 Tryd.underlying3 (by kernel_rfl) hf with ⟨hcs, _⟩ | ⟨x, l, c, zs, hcs, _, hl, hm, hz, _, hcell, hwz⟩
    · simp [Value.cells] at hcs
      obtain ⟨rfl, rfl, rfl⟩ := hcs
      exact ⟨[], .inl ⟨rfl, rfl, rfl, rfl⟩⟩
    · simp [Value.cells] at hcs
      obtain ⟨rfl, rfl, rfl⟩ := hcs
      exact ⟨zs, .inr ⟨_, rfl, hl, hm, by simpa using hz, hcell, hwz⟩⟩
  obtain ⟨a2, len2, cap2, rfl⟩ := okWide_slice Tryd.underlying22 (hval 2 22 v2 rfl rfl)
  have k2 := h2
  have lt2 : ∀ x ∈ p2, x.block < W.heap.size := by obtain ⟨m, hm⟩ := k2; exact DataW.trod_lt m _ _ _ hm
  obtain ⟨z2, w2⟩ : ∃ zs, IsRow .i64 W a2 len2 cap2 zs := by
    obtain ⟨fuel, hf⟩ := h2
    rcases open_ints Tryd.underlying22 Tryd.underlying3 (by kernel_rfl) hf with ⟨hcs, _⟩ | ⟨x, l, c, zs, hcs, _, hl, hm, hz, _, hcell, hwz⟩
    · simp [Value.cells] at hcs
      obtain ⟨rfl, rfl, rfl⟩ := hcs
      exact ⟨[], .inl ⟨rfl, rfl, rfl, rfl⟩⟩
    · simp [Value.cells] at hcs
      obtain ⟨rfl, rfl, rfl⟩ := hcs
      exact ⟨zs, .inr ⟨_, rfl, hl, hm, by simpa using hz, hcell, hwz⟩⟩
  clear hA0 hval0
  refine (walk a0 len0 cap0 z0 a1 len1 cap1 z1 a2 len2 cap2 z2 W w0 w1 w2 (tab_of hL (by kernel_rfl) (MakeChecks.laidMetH_plain _ _ _ (by kernel_rfl)))).mono fun e W' ⟨he, bel⟩ => ?_
  subst he
  exact ⟨_, rfl, _, _, _, [], _, [], hW', trodAll_mk1 (shut_bool Tryd.underlying4 _), (trodAll_cons_mk (Below.trod laidOut (by kernel_rfl) (of_decide_eq_true (by kernel_rfl)) k0 bel lt0) (trodAll_cons_mk (Below.trod laidOut (by kernel_rfl) (of_decide_eq_true (by kernel_rfl)) k1 bel lt1) (trodAll_cons_mk (Below.trod laidOut (by kernel_rfl) (of_decide_eq_true (by kernel_rfl)) k2 bel lt2) trodAll_mk0))), rfl, bel.frame _, fun h => by cases h⟩

theorem over : Rows.hitMoreRow.holds Tryd.pinned (OpenSpec.ofChange Rows.hitMoreSpec) :=
  OpenClaim.holds_of_wide 5 Tryd.f5 rfl rfl rfl rfl rfl rfl rfl ⟨rfl, rfl, rfl, rfl, rfl⟩ rfl rfl rfl rfl rfl (by kernel_rfl) Tryd.func5 (by kernel_rfl)
    (of_decide_eq_true (by kernel_rfl)) (by unfold Func.isWrapper; first | (rw [if_pos (by decide +kernel)]; kernel_rfl) | (rw [if_neg (by decide +kernel)]; exact ⟨rfl, rfl⟩))
    (fun os started H enc _ => lifted os started H enc)

theorem proved : Rows.HitMoreSaid := over
theorem plain (f : FuncId) (fn : Func) (hf : Tryd.pinned.checked.prog.funcNamed "linchpin/linchpinlaw36.HitMore" = some f) (hfn : Tryd.pinned.checked.prog.funcs[f]? = some fn) :
    false = Tryd.pinned.checked.prog.looks [] ∧ ∀ (j : Nat) t, fn.params[j]? = some t → Tryd.pinned.checked.prog.wantsStandIn t = false := by
  obtain rfl : f = 5 := Option.some.inj ((show Tryd.prog.funcNamed "linchpin/linchpinlaw36.HitMore" = some 5 by kernel_rfl).symm.trans hf) |>.symm
  obtain rfl : fn = Tryd.f5 := (Option.some.inj (Tryd.func5.symm.trans hfn)).symm
  refine ⟨by kernel_rfl, fun j t ht => ?_⟩
  rw [Tryd.params5] at ht
  have hm : t ∈ [22, 22, 22] := by simpa using Array.mem_of_getElem? ht
  have hall : ([22, 22, 22].all fun u => !Tryd.prog.wantsStandIn u) = true := by kernel_rfl
  exact (show Tryd.prog.wantsStandIn t = false by simpa using List.all_eq_true.1 hall t hm)

theorem card : Rows.HitMoreCardSaid :=
  Claim7.holds_tied_plain_at .later [] _ _ _ _ proved (fun _ h => by cases h) (by kernel_rfl) (fun _ h => by cases h) hitMore_row_tie rfl ⟨rfl, rfl⟩ (by kernel_rfl) rfl plain (by kernel_rfl)
#print axioms card
end Go.Proofs.YtmfdpdnokiidlaaDoor.hitMore
