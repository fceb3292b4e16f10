/-
  DiskTells: for disks after any saves and for arbitrary data, Load, Save and Do return what the reference returns. Conditions: none.
-/
import Derived.Test.YtlhdomckljhfoaaRows
import Derived.Test.YtlhdomckljhfoaaDkElder
import Derived.Test.YtlhdomckljhfoaaDkTell
import Derived.WalkKit
import Derived.ProofKit
import Derived.OpenShut
import Derived.ShutString
import Derived.ChangeOld
import Derived.Below
namespace Go.Proofs.Ytlhdomckljhfoaa.diskTells
open Go.ChangeShapes Go.WideShapes Go.ChangeAt Go.RowKit
open Go.ChangeMaps (open_string shut_string)
set_option linter.unusedVariables false

theorem own : ownKnob Try.prog.godebug = none := by kernel_rfl
theorem laidOut : laidOutB Try.prog = true := by kernel_rfl

def IsRow (k : IntKind) (w : World) (a : Option Addr) (len cap : Nat) (zs : List Int) : Prop :=
  (a = none ∧ len = 0 ∧ cap = 0 ∧ zs = []) ∨
  ∃ x, a = some x ∧ len ≤ cap ∧ cap ≤ maxLen ∧ zs.length = cap ∧ (∀ i, i < zs.length → w.cell? (x.add i) = some (.int k (zs.getD i 0))) ∧ ∀ n ∈ zs, (Lit.int k n).wf = true

set_option maxHeartbeats 8000000 in
set_option maxRecDepth 100000 in
theorem walk (a0 : ByteArray) (a1 : Option Addr) (len1 cap1 : Nat) (z1 : List Int) (a2 : Int) (a3 : ByteArray) (a4 : Int) (a5 : Int) (w : World) (w0 : a0.size ≤ maxLen) (w1 : IsRow .i64 w a1 len1 cap1 z1) (w2 : (Lit.int .i64 a2).wf = true) (w3 : a3.size ≤ maxLen) (w4 : (Lit.int .i64 a4).wf = true) (w5 : (Lit.int .i64 a5).wf = true) :
    Calls Try.prog 3 #[.string a0, .slice a1 len1 cap1, .int .i64 a2, .string a3, .int .i64 a4, .int .i64 a5] w fun e w' => e = .returned (.bool true) ∧ Below w.heap.size w w' := by
  have hri := row_rdi w1
  have b2 := bounds_i64 w2
  have b4 := bounds_i64 w4
  have b5 := bounds_i64 w5
  have hm1 := row_len w1
  clear w1 w2 w4 w5
  unfold maxLen at w0 w3 hm1
  by_cases hg0 : 3000 < a0.size
  · have i0 : (3000 : Int) < (a0.size : Int) := by omega
    go_enter Try.func3, Try.ntmps3
    go_wp2_with fail
    refine (awake_any _).mono ?_
    rintro e W1 ⟨rfl, hb1⟩
    go_wp2_with fail
    go_ret
    exact ⟨rfl, hb1⟩
  · have i0 : ¬ (3000 : Int) < (a0.size : Int) := by omega
    by_cases hg1 : 40 < len1
    · have i1 : (40 : Int) < (len1 : Int) := by omega
      go_enter Try.func3, Try.ntmps3
      go_wp2_with fail
      refine (awake_any _).mono ?_
      rintro e W1 ⟨rfl, hb1⟩
      go_wp2_with fail
      go_ret
      exact ⟨rfl, hb1⟩
    · have i1 : ¬ (40 : Int) < (len1 : Int) := by omega
      by_cases hg2 : 3000 < a3.size
      · have i2 : (3000 : Int) < (a3.size : Int) := by omega
        go_enter Try.func3, Try.ntmps3
        go_wp2_with fail
        refine (awake_any _).mono ?_
        rintro e W1 ⟨rfl, hb1⟩
        go_wp2_with fail
        go_ret
        exact ⟨rfl, hb1⟩
      · have i2 : ¬ (3000 : Int) < (a3.size : Int) := by omega
        have cSv := saved_any a1 len1 cap1 _ _ w hri (by omega) (Nat.le_refl _)
        clear hri
        have cT := fun W => text_any a2 W b2.1 b2.2
        unfold TextIs at cT
        have z0 := sizeT_le (placeI a2 1048576).toNat
        rw [← textL_len] at z0
        generalize textL (placeI a2 1048576).toNat = tl at *
        obtain ⟨T, hT⟩ : ∃ T : ByteArray, T = ⟨tl.toArray⟩ := ⟨_, rfl⟩
        rw [← hT] at cT
        have sT : T.size ≤ 1073741824 := by rw [hT]; show tl.toArray.size ≤ _; rw [List.size_toArray]; omega
        clear hT z0
        have cLn := fun W => load_no a0 W (by omega)
        unfold NoneP at cLn
        have hsn : saveP a0.data.toList a3.data.toList = ([], 1) := by unfold saveP; rw [if_pos (by rw [len_size]; omega)]
        have cSn := fun W => save_no a0 a3 W (by omega)
        unfold SaveP at cSn
        rw [hsn] at cSn
        have cP1 := fun W => place_any a5 80 W (by omega) (by omega) b5.1 b5.2
        have cP2 := fun W => place_any a4 8 W (by omega) (by omega) b4.1 b4.2
        obtain ⟨hp0, hp1⟩ := placeI_bd a5 80 (by omega)
        generalize placeI a5 80 = p1 at *
        generalize placeI a4 8 = p2 at *
        clear hsn
        go_enter Try.func3, Try.ntmps3
        go_wp2_with fail
        refine cSv.mono ?_
        rintro e W1 ⟨l, hl, rfl, hb⟩
        obtain ⟨S, hS⟩ : ∃ S : ByteArray, S = ⟨l.toArray⟩ := ⟨_, rfl⟩
        have hSl : S.data.toList = l := by rw [hS]
        have hSs : S.size = 20480 := by rw [← len_size, hSl, hl]
        rw [← hS]
        have K0 : Keeps w W1.heap.size S (W1.alloc (.cells #[Value.string S] 25)) := ⟨by simp [go_sem], by simp, hb.alloc hb.size _⟩
        have cL := fun W => load_any S W hSs
        have crL := fun W => rload_any S W hSs
        unfold LoadP at cL crL
        have cS := fun W => save_any S T W hSs sT
        have crS := fun W => rsave_any S T W hSs sT
        unfold SaveP at cS crS
        generalize saveP S.data.toList T.data.toList = V at *
        obtain ⟨L, er⟩ := V
        have cS2 := fun W => save_any S a3 W hSs (by omega)
        have crS2 := fun W => rsave_any S a3 W hSs (by omega)
        unfold SaveP at cS2 crS2
        generalize saveP S.data.toList a3.data.toList = V2 at *
        obtain ⟨L2, er2⟩ := V2
        have cD := fun A n cap B W wh tn hr h1 h2 h3 => do_any S A n cap B L wh tn W hSs hr h1 h2 h3
        have crD := fun A n cap B W wh tn hr h1 h2 => rdo_any S A n cap B L wh tn W hSs hr h1 h2
        unfold DiskIs at cD crD
        obtain ⟨X, hX⟩ : ∃ X : ByteArray, X = ⟨(toldP S.data.toList).2.2.toArray⟩ := ⟨_, rfl⟩
        obtain ⟨bb, hbb⟩ : ∃ bb : Bool, bb = decide (0 ≤ (toldP S.data.toList).1) := ⟨_, rfl⟩
        rw [← hX, ← hbb] at cL crL
        clear hX hbb hS hSl hl cSv hb
        have HSS := Lib.hid hSs
        clear hSs
        go_wp2_with fail
        generalize W1.alloc (.cells #[Value.string S] 25) = W2 at *
        generalize W1.heap.size = g at *
        have hc := K0.cell
        refine (cL _).mono ?_
        rintro e W3 ⟨rfl, hb⟩
        have K0 := K0.next hb
        have hc := K0.cell
        clear hb cL
        go_wp2_with fail
        refine (crL _).mono ?_
        rintro e W4 ⟨rfl, hb⟩
        have K0 := K0.next hb
        have hc := K0.cell
        clear hb crL
        go_upto_region 6 with (fail)
        go_cut [18, 19] from 57 to 63 (fun u v wx => ∃ A n cap, u = .slice A n cap ∧ v = .int .i64 er ∧ n ≤ cap ∧ n ≤ 1000 ∧ RdW wx wx.heap.size A n L ∧ Keeps w g S wx)
        case first =>
          have K1 := K0.drew
          have hcT : ∀ W, Keeps w g S W → Calls Try.prog 15 #[.int .i64 a2] W fun e w' => e = .returned (.string T) ∧ Keeps w g S w' := fun W hW => (cT W).mono fun e w' ⟨h1, h2⟩ => ⟨h1, hW.next h2⟩
          have hcS : ∀ W, Keeps w g S W → Calls Try.prog 14 #[.agg #[.string S], .string T] W fun e w' => ∃ A2 n2 cap2, e = .returned (.tuple #[.slice A2 n2 cap2, .int .i64 er]) ∧ (n2 ≤ cap2 ∧ n2 ≤ 1000 ∧ RdW w' w'.heap.size A2 n2 L) ∧ Keeps w g S w' := fun W hW => (cS W).mono fun e w' ⟨A2, n2, cap2, h1, h2, h3, h4, h5, h6⟩ => ⟨A2, n2, cap2, h1, ⟨h2, h3, h5⟩, hW.next h6⟩
          have hcd : W4.drew.cell? ⟨g, 0, none⟩ = some (.string S) := hc
          go_region_held3 (fun W => W.cell? ⟨g, 0, none⟩ = some (.string S) ∧ Keeps w g S W)
            (first | assumption | ((refine ⟨?_, ?_⟩ <;> first | assumption)) | (exact ⟨Keeps.cell (by assumption), by assumption⟩))
            (first | (go_at_call 15; refine (hcT _ ?_).mono ?_; assumption; rintro e w' ⟨rfl, hS'⟩) | (go_at_call 14; refine (hcS _ ?_).mono ?_; assumption; rintro e w' ⟨A2, n2, cap2, rfl, hrd2, hS'⟩))
          all_goals
            go_wp2_with fail
            go_meet
            exact ⟨A2, n2, cap2, rfl, rfl, hrd2.1, hrd2.2.1, hrd2.2.2, hS'⟩
        case rest =>
          obtain ⟨A1, n1, cap1', rfl, rfl, hnc1, hn1, hrd1, K1⟩ := hcut
          clear cS K0 hc
          go_upto_region 7 with (fail)
          go_cut [20, 21] from 64 to 70 (fun u v wx => ∃ A n cap, u = .slice A n cap ∧ v = .int .i64 er ∧ n ≤ cap ∧ n ≤ 1000 ∧ RdW wx wx.heap.size A n L ∧ Keeps wc g S wx)
          case first =>
            have K2 : Keeps wc g S wc.drew := ⟨K1.cell, K1.lt, below_drewN (Below.refl _ _) 1⟩
            have hcT : ∀ W, Keeps wc g S W → Calls Try.prog 15 #[.int .i64 a2] W fun e w' => e = .returned (.string T) ∧ Keeps wc g S w' := fun W hW => (cT W).mono fun e w' ⟨h1, h2⟩ => ⟨h1, hW.next h2⟩
            have hcS : ∀ W, Keeps wc g S W → Calls Try.prog 16 #[.agg #[.string S], .string T] W fun e w' => ∃ A2 n2 cap2, e = .returned (.tuple #[.slice A2 n2 cap2, .int .i64 er]) ∧ (n2 ≤ cap2 ∧ n2 ≤ 1000 ∧ RdW w' w'.heap.size A2 n2 L) ∧ Keeps wc g S w' := fun W hW => (crS W).mono fun e w' ⟨A2, n2, cap2, h1, h2, h3, h4, h5, h6⟩ => ⟨A2, n2, cap2, h1, ⟨h2, h3, h5⟩, hW.next h6⟩
            have hcd : wc.drew.cell? ⟨g, 0, none⟩ = some (.string S) := K1.cell
            go_region_held3 (fun W => W.cell? ⟨g, 0, none⟩ = some (.string S) ∧ Keeps wc g S W)
              (first | assumption | ((refine ⟨?_, ?_⟩ <;> first | assumption)) | (exact ⟨Keeps.cell (by assumption), by assumption⟩))
              (first | (go_at_call 15; refine (hcT _ ?_).mono ?_; assumption; rintro e w' ⟨rfl, hS'⟩) | (go_at_call 16; refine (hcS _ ?_).mono ?_; assumption; rintro e w' ⟨A2, n2, cap2, rfl, hrd2, hS'⟩))
            all_goals
              go_wp2_with fail
              go_meet
              exact ⟨A2, n2, cap2, rfl, rfl, hrd2.1, hrd2.2.1, hrd2.2.2, hS'⟩
          case rest =>
            obtain ⟨A2, n2, cap2, rfl, rfl, hnc2, hn2, hrd2, K2⟩ := hcut
            have K0 := K1.next K2.bel
            have hrd1 := rdw_next hrd1 K2.bel
            obtain rfl : n2 = n1 := by rw [← hrd2.1]; exact hrd1.1
            clear cT crS K1 K2
            have hc := K0.cell
            go_wp2_with fail
            refine (cS2 _).mono ?_
            rintro e V1 ⟨A3, n3, cap3, rfl, hnc3, hn3, _, hrd3, hb⟩
            have hrd1 := rdw_next hrd1 hb
            have hrd2 := rdw_next hrd2 hb
            have K0 := K0.next hb
            clear hb
            have hc := K0.cell
            go_wp2_with fail
            refine (crS2 _).mono ?_
            rintro e V2 ⟨A4, n4, cap4, rfl, hnc4, hn4, _, hrd4, hb⟩
            have hrd1 := rdw_next hrd1 hb
            have hrd2 := rdw_next hrd2 hb
            have hrd3 := rdw_next hrd3 hb
            have K0 := K0.next hb
            obtain rfl : n4 = n3 := by rw [← hrd4.1]; exact hrd3.1
            clear cS2 crS2
            clear hb
            have hc := K0.cell
            go_wp2_with fail
            refine (cLn _).mono ?_
            rintro e V3 ⟨rfl, hb⟩
            have hrd1 := rdw_next hrd1 hb
            have hrd2 := rdw_next hrd2 hb
            have hrd3 := rdw_next hrd3 hb
            have hrd4 := rdw_next hrd4 hb
            have K0 := K0.next hb
            clear cLn
            clear hb
            have hc := K0.cell
            go_wp2_with fail
            refine (cSn _).mono ?_
            rintro e V4 ⟨A5, n5, cap5, rfl, _, _, _, _, hb⟩
            have hrd1 := rdw_next hrd1 hb
            have hrd2 := rdw_next hrd2 hb
            have hrd3 := rdw_next hrd3 hb
            have hrd4 := rdw_next hrd4 hb
            have K0 := K0.next hb
            clear cSn
            clear hb
            go_wp2_with fail
            refine (cP1 _).mono ?_
            rintro e w' ⟨rfl, rfl⟩
            clear cP1
            have K9 : TellSt w g S n2 n4 L L2 A1 A2 A3 A4 _ := ⟨K0, hrd1, hrd2, hrd3, hrd4⟩
            have K10 := K9.next (below_drewN (Below.refl _ _) 1)
            have s1 := fun W h => tell_same1 (w := w) (g := g) (S := S) (n := n2) (m := n4) (L := L) (L2 := L2) (A1 := A1) (A2 := A2) (A3 := A3) (A4 := A4) hn2 cap1' cap2 W h
            have s2 := fun W h => tell_same2 (w := w) (g := g) (S := S) (n := n2) (m := n4) (L := L) (L2 := L2) (A1 := A1) (A2 := A2) (A3 := A3) (A4 := A4) hn4 cap3 cap4 W h
            have d1 := fun W wh tn h => tell_do (w := w) (g := g) (S := S) (n := n2) (m := n4) (L := L) (L2 := L2) (A1 := A1) (A2 := A2) (A3 := A3) (A4 := A4) HSS.out hn2 cap1' hnc1 wh tn W h
            have d2 := fun W wh tn h => tell_rdo (w := w) (g := g) (S := S) (n := n2) (m := n4) (L := L) (L2 := L2) (A1 := A1) (A2 := A2) (A3 := A3) (A4 := A4) HSS.out hn2 cap2 wh tn W h
            have k1 := fun W h => tell_awake (w := w) (g := g) (S := S) (n := n2) (m := n4) (L := L) (L2 := L2) (A1 := A1) (A2 := A2) (A3 := A3) (A4 := A4) W h
            have hq := run_eqD
            have hcd := K10.keeps.cell
            clear K9 K0 hrd1 hrd2 hrd3 hrd4 hc
            go_wp2_with fail
            simp only [List.append_eq, List.cons_append, List.nil_append]
            go_region_held3 (fun W => W.cell? ⟨g, 0, none⟩ = some (.string S) ∧ TellSt w g S n2 n4 L L2 A1 A2 A3 A4 W)
              (first | assumption | ((refine ⟨?_, ?_⟩ <;> first | assumption)) | (exact ⟨Keeps.cell (TellSt.keeps (by assumption)), by assumption⟩))
              (first
                | (go_at_call 18; (with_reducible refine (s1 _ ?_).mono ?_); assumption; rintro e w' ⟨rfl, hS'⟩)
                | (go_at_call 18; (with_reducible refine (s2 _ ?_).mono ?_); assumption; rintro e w' ⟨rfl, hS'⟩)
                | (go_at_call 19; (with_reducible refine (d1 _ _ _ ?_).mono ?_); assumption; rintro e w' ⟨rfl, hS'⟩)
                | (go_at_call 20; (with_reducible refine (d2 _ _ _ ?_).mono ?_); assumption; rintro e w' ⟨rfl, hS'⟩)
                | (go_at_call 17; (with_reducible refine (cP2 _).mono ?_); rintro e w' ⟨rfl, rfl⟩)
                | (go_at_call 10; (with_reducible refine (k1 _ ?_).mono ?_); assumption; rintro e w' ⟨rfl, hS'⟩))
            all_goals
              go_wp2_with fail
              go_ret
              exact ⟨rfl, by first | exact hS'.keeps.bel | exact (TellSt.keeps (by assumption)).bel⟩

set_option maxRecDepth 100000 in
theorem lifted (os : Os) (started : os.Started) (H : Type) (enc : TypeId × Value → H) :
    ReturnsInHanded {} Try.checked os 3 .any (Rows.diskTellsSpec.pre6 enc Try.prog Try.f3 Rows.diskTellsRow.domain false) (Rows.diskTellsSpec.post enc Try.prog Try.f3 false true false false) := by
  refine returnsInHanded_of_change (C := Try.checked) own started (by kernel_rfl) Try.func3
    (ChangeSpec.witness6 (enc := enc) (C := Try.checked) false ⟨#[], #[.string ByteArray.empty, .slice none 0 0, .int .i64 0, .string ByteArray.empty, .int .i64 0, .int .i64 0], []⟩ 8 (by kernel_rfl) (by kernel_rfl) (by kernel_rfl) (by kernel_rfl)) ?_
  intro W base args ds gs before hval0 hW hcnd _
  have hval : ∀ (j : Nat) t v, Try.f3.params[j]? = some t → args[j]? = some v → Value.okWide Try.prog W .any base t v := hval0
  have hW' := hW
  obtain ⟨p, q, hA0, hV, rfl, hfz, hnd⟩ := hW
  have hA : DataW.TrodAll enc Try.prog W 0 (fun _ => true) true Try.f3.params.toList args.toList ds p := hA0
  rw [Try.params3] at hA hval
  obtain ⟨v0, vs0, d0, ds0, p0, q0, hargs, rfl, rfl, h0, r0⟩ := trodAll_cons hA
  obtain ⟨v1, vs1, d1, ds1, p1, q1, rfl, rfl, rfl, h1, r1⟩ := trodAll_cons r0
  obtain ⟨v2, vs2, d2, ds2, p2, q2, rfl, rfl, rfl, h2, r2⟩ := trodAll_cons r1
  obtain ⟨v3, vs3, d3, ds3, p3, q3, rfl, rfl, rfl, h3, r3⟩ := trodAll_cons r2
  obtain ⟨v4, vs4, d4, ds4, p4, q4, rfl, rfl, rfl, h4, r4⟩ := trodAll_cons r3
  obtain ⟨v5, vs5, d5, ds5, p5, q5, rfl, rfl, rfl, h5, r5⟩ := trodAll_cons r4
  obtain ⟨rfl, rfl, rfl⟩ := trodAll_nil r5
  obtain rfl : args = #[v0, v1, v2, v3, v4, v5] := by cases args; simp_all
  obtain ⟨rfl, rfl⟩ := trodVars_none hV
  obtain ⟨a0, rfl, rfl, rfl, w0⟩ := open_string Try.underlying9 (hval 0 9 v0 rfl rfl) h0
  obtain ⟨a1, len1, cap1, rfl⟩ := okWide_slice Try.underlying22 (hval 1 22 v1 rfl rfl)
  have k1 := h1
  have lt1 : ∀ x ∈ p1, x.block < W.heap.size := by obtain ⟨m, hm⟩ := k1; exact DataW.trod_lt m _ _ _ hm
  obtain ⟨z1, w1⟩ : ∃ zs, IsRow .i64 W a1 len1 cap1 zs := by
    obtain ⟨fuel, hf⟩ := h1
    rcases open_ints Try.underlying22 Try.underlying3 (by kernel_rfl) hf with ⟨hcs, _⟩ | ⟨x, l, c, zs, hcs, _, hl, hm, hz, _, hcell, hwz⟩
    · simp [Value.cells] at hcs
      obtain ⟨rfl, rfl, rfl⟩ := hcs
      exact ⟨[], .inl ⟨rfl, rfl, rfl, rfl⟩⟩
    · simp [Value.cells] at hcs
      obtain ⟨rfl, rfl, rfl⟩ := hcs
      exact ⟨zs, .inr ⟨_, rfl, hl, hm, by simpa using hz, hcell, hwz⟩⟩
  obtain ⟨a2, rfl, rfl, rfl, w2⟩ := open_int Try.underlying3 (hval 2 3 v2 rfl rfl) h2
  obtain ⟨a3, rfl, rfl, rfl, w3⟩ := open_string Try.underlying9 (hval 3 9 v3 rfl rfl) h3
  obtain ⟨a4, rfl, rfl, rfl, w4⟩ := open_int Try.underlying3 (hval 4 3 v4 rfl rfl) h4
  obtain ⟨a5, rfl, rfl, rfl, w5⟩ := open_int Try.underlying3 (hval 5 3 v5 rfl rfl) h5
  clear hA0 hval0
  refine (walk a0 a1 len1 cap1 z1 a2 a3 a4 a5 W w0 w1 w2 w3 w4 w5).mono fun e W' ⟨he, bel⟩ => ?_
  subst he
  exact ⟨_, rfl, _, _, _, [], _, [], hW', trodAll_mk1 (shut_bool Try.underlying4 _), (trodAll_cons_mk (shut_string Try.underlying9 w0) (trodAll_cons_mk (Below.trod laidOut (by kernel_rfl) (of_decide_eq_true (by kernel_rfl)) k1 bel lt1) (trodAll_cons_mk (shut_int Try.underlying3 w2) (trodAll_cons_mk (shut_string Try.underlying9 w3) (trodAll_cons_mk (shut_int Try.underlying3 w4) (trodAll_cons_mk (shut_int Try.underlying3 w5) trodAll_mk0)))))), rfl, bel.frame _, fun h => by cases h⟩

theorem over : Rows.diskTellsRow.holds Try.pinned (OpenSpec.ofChange Rows.diskTellsSpec) :=
  OpenClaim.holds_of_wide 3 Try.f3 rfl rfl rfl rfl rfl rfl rfl ⟨rfl, rfl, rfl, rfl, rfl⟩ rfl rfl rfl rfl rfl (by kernel_rfl) Try.func3 (by kernel_rfl)
    (of_decide_eq_true (by kernel_rfl)) (by unfold Func.isWrapper; first | (rw [if_pos (by decide +kernel)]; kernel_rfl) | (rw [if_neg (by decide +kernel)]; exact ⟨rfl, rfl⟩))
    (fun os started H enc _ => lifted os started H enc)

theorem proved : Rows.DiskTellsSaid := over
#print axioms proved
end Go.Proofs.Ytlhdomckljhfoaa.diskTells
