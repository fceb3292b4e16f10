/-
  DiskWrites: for arbitrary writes, Do returns what the reference returns. Conditions: none.
-/
import Derived.Test.YtlhdomckljhfoaaRows
import Derived.Test.YtlhdomckljhfoaaDkWrites
import Derived.WalkKit
import Derived.ProofKit
import Derived.OpenShut
import Derived.ShutString
import Derived.ChangeOld
import Derived.Below
namespace Go.Proofs.Ytlhdomckljhfoaa.diskWrites
open Go.ChangeShapes Go.WideShapes Go.ChangeAt Go.RowKit
open Go.ChangeMaps (open_string shut_string)
set_option linter.unusedVariables false

theorem own : ownKnob Try.prog.godebug = none := by kernel_rfl
theorem laidOut : laidOutB Try.prog = true := by kernel_rfl

def IsRow (k : IntKind) (w : World) (a : Option Addr) (len cap : Nat) (zs : List Int) : Prop :=
  (a = none ∧ len = 0 ∧ cap = 0 ∧ zs = []) ∨
  ∃ x, a = some x ∧ len ≤ cap ∧ cap ≤ maxLen ∧ zs.length = cap ∧ (∀ i, i < zs.length → w.cell? (x.add i) = some (.int k (zs.getD i 0))) ∧ ∀ n ∈ zs, (Lit.int k n).wf = true

set_option maxHeartbeats 8000000 in
set_option maxRecDepth 100000 in
theorem walk (a0 : Option Addr) (len0 cap0 : Nat) (z0 : List Int) (a1 : Option Addr) (len1 cap1 : Nat) (z1 : List Wr) (a2 : Int) (a3 : Int) (w : World) (w0 : IsRow .i64 w a0 len0 cap0 z0) (w1 : RdWA w w.heap.size a1 len1 z1 ∧ len1 ≤ cap1 ∧ cap1 ≤ maxLen) (w2 : (Lit.int .i64 a2).wf = true) (w3 : (Lit.int .i64 a3).wf = true) :
    Calls Try.prog 5 #[.slice a0 len0 cap0, .slice a1 len1 cap1, .int .i64 a2, .int .i64 a3] w fun e w' => e = .returned (.bool true) ∧ Below w.heap.size w w' := by
  have hr0 := row_rdi w0
  have hm0 := row_len w0
  obtain ⟨hr1, hnc1, hm1⟩ := w1
  have b2 := bounds_i64 w2
  have b3 := bounds_i64 w3
  clear w0 w2 w3
  unfold maxLen at hm0 hm1
  by_cases hg0 : 40 < len0
  · have i0 : (40 : Int) < (len0 : Int) := by omega
    go_enter Try.func5, Try.ntmps5
    go_wp2_with fail
    refine (awake_any _).mono ?_
    rintro e W1 ⟨rfl, hb1⟩
    go_wp2_with fail
    go_ret
    exact ⟨rfl, hb1⟩
  · have i0 : ¬ (40 : Int) < (len0 : Int) := by omega
    by_cases hg1 : 20 < len1
    · have i1 : (20 : Int) < (len1 : Int) := by omega
      go_enter Try.func5, Try.ntmps5
      go_wp2_with fail
      refine (awake_any _).mono ?_
      rintro e W1 ⟨rfl, hb1⟩
      go_wp2_with fail
      go_ret
      exact ⟨rfl, hb1⟩
    · have i1 : ¬ (20 : Int) < (len1 : Int) := by omega
      have HR0 := Lib.hid hr0
      clear hr0
      obtain ⟨j0, hj0, hy0, hy1, hy2⟩ := info_parts info_write
      go_enter Try.func5, Try.ntmps5
      go_wp2
      go_loopw [9, 10] (fun v i wr => ∃ k : Nat, k ≤ len1 ∧ i = .int .i64 k ∧ wr.ownsRow w.heap.size 41 2 v k (WS (nearL z1 k)) ∧ (∀ j x, j < k → z1[j]? = some x → x.2.length ≤ 300) ∧ Below w.heap.size w wr) (fun _ i _ => len1 - (intOf i).toNat)
      case atStart => exact ⟨0, by omega, rfl, World.ownsRow_nil _ _ _ _, fun j x h => absurd h (by omega), Below.refl _ _⟩
      case round =>
        obtain ⟨k, hk, rfl, hown, hsm, hbel⟩ := hrel
        have HSM := Lib.hid hsm
        clear hsm
        by_cases hk1 : k < len1
        · obtain ⟨b1, o1, a, x, rfl, hb1, hx, ha, hxs, hc0, hc1⟩ := (hr1.below hbel).one hk1
          obtain ⟨X, hX⟩ : ∃ X : ByteArray, X = ⟨x.toArray⟩ := ⟨_, rfl⟩
          have hXs : X.size = x.length := by rw [hX]; simp [ByteArray.size]
          rw [← hX] at hc1
          by_cases h300 : 300 < X.size
          · have i5 : (300 : Int) < (X.size : Int) := by omega
            clear hx hX hXs
            go_wp2_with fail
            refine (awake_any _).mono ?_
            rintro e W1 ⟨rfl, hb1⟩
            go_wp2_with fail
            go_ret
            exact ⟨rfl, hbel.trans (hb1.mono hbel.size)⟩
          · have i5 : ¬ (300 : Int) < (X.size : Int) := by omega
            have cP := fun W => place_any a 330 W (by omega) (by omega) ha.1 ha.2
            obtain ⟨hp0, hp1⟩ := placeI_bd a 330 (by omega)
            have HNL := Lib.hid (nearL_succ z1 k a x hx)
            rw [← hX] at HNL
            generalize placeI a 330 = p at *
            have HX := Lib.hid hx
            have HXS := Lib.hid hXs
            have i6 : (k : Int) < len1 := by omega
            have hsz := hbel.size
            clear hx hX hXs
            have w5 : IntKind.i64.wrap (p - 5) = p - 5 := IntWalk.i64_in _ (by omega)
            have hownd : wr.drew.ownsRow w.heap.size 41 2 _ k _ := hown
            have hbeld : Below w.heap.size w wr.drew := below_drewN hbel 1
            have hszd : w.heap.size ≤ wr.drew.heap.size := hsz
            have hc0d : wr.drew.cell? ⟨b1, o1 + k * 2, none⟩ = some (.int .i64 a) := hc0
            have hc1d : wr.drew.cell? ⟨b1, o1 + k * 2 + 1, none⟩ = some (.string X) := hc1
            have hbA : Below w.heap.size wr (wr.alloc (.cells #[Value.int .i64 (p - 5), Value.string X] 41)).drew := below_drewN ((Below.refl _ _).alloc hsz _) 1
            have hA0 : (wr.alloc (.cells #[Value.int .i64 (p - 5), Value.string X] 41)).drew.cell? ⟨b1, o1 + k * 2, none⟩ = some (.int .i64 a) := (hbA.cell (p := ⟨b1, o1 + k * 2, none⟩) hb1).trans hc0
            have hA1 : (wr.alloc (.cells #[Value.int .i64 (p - 5), Value.string X] 41)).drew.cell? ⟨b1, o1 + k * 2 + 1, none⟩ = some (.string X) := (hbA.cell (p := ⟨b1, o1 + k * 2 + 1, none⟩) hb1).trans hc1
            have hA2 : Below w.heap.size w (wr.alloc (.cells #[Value.int .i64 (p - 5), Value.string X] 41)).drew := hbel.trans hbA
            go_wp2_with fail
            go_region_held3 (fun W => W.cell? ⟨b1, o1 + k * 2, none⟩ = some (.int .i64 a) ∧ W.cell? ⟨b1, o1 + k * 2 + 1, none⟩ = some (.string X) ∧ Below w.heap.size w W)
              (first | assumption | ((refine ⟨?_, ?_, ?_⟩ <;> first | assumption)) | (exact ⟨(Below.cell hb7 (p := ⟨b1, o1 + k * 2, none⟩) hb1).trans hc0d, (Below.cell hb7 (p := ⟨b1, o1 + k * 2 + 1, none⟩) hb1).trans hc1d, Below.trans hbeld hb7⟩))
              (first
                | (go_at_call 17; (with_reducible refine (cP _).mono ?_); rintro e w' ⟨rfl, rfl⟩)
                | (refine step_append_two wr.drew rfl (.tmp 35) (.tmp 49) 29 rfl w.heap.size 41 j0 _ 24 Try.underlying29 hj0 hy0 hy1 hy2 rfl _ k _ (.int .i64 (p - 5)) (.string X) hownd rfl rfl rfl rfl (by omega) (by omega) hszd ?_; intro v' w7 hown' hb7))
            all_goals
              go_wp2_with fail
              go_roundw
              case rel =>
                refine ⟨k + 1, by omega, by go_num, by rw [← HNL.out]; exact hown', fun j y hj hy => ?_, hbeld.trans hb7⟩
                by_cases hjk : j = k
                · subst hjk
                  rw [HX.out] at hy
                  injection hy with hy
                  subst hy
                  show x.length ≤ 300
                  have := HXS.out
                  omega
                · exact HSM.out j y (by omega) hy
              case measure => simp [intOf]; omega
        · obtain rfl : k = len1 := by omega
          have i5 : ¬ (k : Int) < k := by omega
          obtain ⟨hs1, hs2⟩ := nearL_small z1 k hr1.len HSM.out
          obtain ⟨A9, cap9, rfl, hnc9, hl9, hrd9⟩ := own_rdw hown hs2
          generalize nearL z1 k = L2 at *
          have hrd1 : RdW wr wr.heap.size a1 k z1 := by
            have h1 := rdw_below (hr1.rd hs1) hbel
            refine ⟨h1.1, h1.2.1, fun hn => ?_⟩
            obtain ⟨b, off, e, hlt, hc⟩ := h1.2.2 hn
            exact ⟨b, off, e, Nat.lt_of_lt_of_le hlt hbel.size, hc⟩
          have cSv := saved_any a0 len0 cap0 _ _ wr (HR0.out.below hbel) (by omega) hbel.size
          have cP := fun W => place_any a2 20 W (by omega) (by omega) b2.1 b2.2
          generalize placeI a2 20 = p at *
          clear hown hs1 hs2 hr1 HSM HR0
          go_wp2_with fail
          refine cSv.mono ?_
          rintro e W1 ⟨l, hl, rfl, hb⟩
          obtain ⟨S, hS⟩ : ∃ S : ByteArray, S = ⟨l.toArray⟩ := ⟨_, rfl⟩
          have hSs : S.size = 20480 := by rw [← len_size, hS]; exact hl
          rw [← hS]
          have hbelW := hbel.trans (hb.mono hbel.size)
          have hrd1 := rdw_next hrd1 hb
          have hrd9 := rdw_next hrd9 hb
          have hbA := (Below.refl W1.heap.size W1).alloc (Nat.le_refl _) (.cells #[Value.string S] 25)
          have K9 : TellSt w W1.heap.size S k k z1 L2 a1 a1 A9 A9 (W1.alloc (.cells #[Value.string S] 25)) := ⟨⟨by simp [go_sem], by simp, hbelW.alloc hbelW.size _⟩, rdw_next hrd1 hbA, rdw_next hrd1 hbA, rdw_next hrd9 hbA, rdw_next hrd9 hbA⟩
          clear hrd1 hrd9 hbA hb hbel hbelW hS hl cSv
          go_upto_region 11 with (fail)
          generalize W1.alloc (.cells #[Value.string S] 25) = W2 at *
          generalize W1.heap.size = g at *
          have K10 := K9.next (below_drewN (Below.refl _ _) 1)
          have d1 := fun W wh tn h => tell_do (w := w) (g := g) (S := S) (n := k) (m := k) (L := z1) (L2 := L2) (A1 := a1) (A2 := a1) (A3 := A9) (A4 := A9) hSs (by omega) cap1 hnc1 wh tn W h
          have d2 := fun W wh tn h => tell_rdo (w := w) (g := g) (S := S) (n := k) (m := k) (L := z1) (L2 := L2) (A1 := a1) (A2 := a1) (A3 := A9) (A4 := A9) hSs (by omega) cap1 wh tn W h
          have d3 := fun W wh tn h => tell_do3 (w := w) (g := g) (S := S) (n := k) (m := k) (L := z1) (L2 := L2) (A1 := a1) (A2 := a1) (A3 := A9) (A4 := A9) hSs (by omega) cap9 hnc9 wh tn W h
          have d4 := fun W wh tn h => tell_rdo4 (w := w) (g := g) (S := S) (n := k) (m := k) (L := z1) (L2 := L2) (A1 := a1) (A2 := a1) (A3 := A9) (A4 := A9) hSs (by omega) cap9 wh tn W h
          have k1 := fun W h => tell_awake (w := w) (g := g) (S := S) (n := k) (m := k) (L := z1) (L2 := L2) (A1 := a1) (A2 := a1) (A3 := A9) (A4 := A9) W h
          have hq := run_eqD
          have hcd := K10.keeps.cell
          clear K9 hSs
          go_region_held3 (fun W => W.cell? ⟨g, 0, none⟩ = some (.string S) ∧ TellSt w g S k k z1 L2 a1 a1 A9 A9 W)
            (first | assumption | ((refine ⟨?_, ?_⟩ <;> first | assumption)) | (exact ⟨Keeps.cell (TellSt.keeps (by assumption)), by assumption⟩))
            (first
              | (go_at_call 19; (with_reducible refine (d1 _ _ _ ?_).mono ?_); assumption; rintro e w' ⟨rfl, hS'⟩)
              | (go_at_call 19; (with_reducible refine (d3 _ _ _ ?_).mono ?_); assumption; rintro e w' ⟨rfl, hS'⟩)
              | (go_at_call 20; (with_reducible refine (d2 _ _ _ ?_).mono ?_); assumption; rintro e w' ⟨rfl, hS'⟩)
              | (go_at_call 20; (with_reducible refine (d4 _ _ _ ?_).mono ?_); assumption; rintro e w' ⟨rfl, hS'⟩)
              | (go_at_call 17; (with_reducible refine (cP _).mono ?_); rintro e w' ⟨rfl, rfl⟩)
              | (go_at_call 10; (with_reducible refine (k1 _ ?_).mono ?_); assumption; rintro e w' ⟨rfl, hS'⟩))
          all_goals
            go_wp2_with fail
            go_ret
            exact ⟨rfl, by first | exact hS'.keeps.bel | exact (TellSt.keeps (by assumption)).bel⟩

set_option maxRecDepth 100000 in
theorem lifted (os : Os) (started : os.Started) (H : Type) (enc : TypeId × Value → H) :
    ReturnsInHanded {} Try.checked os 5 .any (Rows.diskWritesSpec.pre6 enc Try.prog Try.f5 Rows.diskWritesRow.domain false) (Rows.diskWritesSpec.post enc Try.prog Try.f5 false true false false) := by
  refine returnsInHanded_of_change (C := Try.checked) own started (by kernel_rfl) Try.func5
    (ChangeSpec.witness6 (enc := enc) (C := Try.checked) false ⟨#[], #[.slice none 0 0, .slice none 0 0, .int .i64 0, .int .i64 0], []⟩ 8 (by kernel_rfl) (by kernel_rfl) (by kernel_rfl) (by kernel_rfl)) ?_
  intro W base args ds gs before hval0 hW hcnd _
  have hval : ∀ (j : Nat) t v, Try.f5.params[j]? = some t → args[j]? = some v → Value.okWide Try.prog W .any base t v := hval0
  have hW' := hW
  obtain ⟨p, q, hA0, hV, rfl, hfz, hnd⟩ := hW
  have hA : DataW.TrodAll enc Try.prog W 0 (fun _ => true) true Try.f5.params.toList args.toList ds p := hA0
  rw [Try.params5] at hA hval
  obtain ⟨v0, vs0, d0, ds0, p0, q0, hargs, rfl, rfl, h0, r0⟩ := trodAll_cons hA
  obtain ⟨v1, vs1, d1, ds1, p1, q1, rfl, rfl, rfl, h1, r1⟩ := trodAll_cons r0
  obtain ⟨v2, vs2, d2, ds2, p2, q2, rfl, rfl, rfl, h2, r2⟩ := trodAll_cons r1
  obtain ⟨v3, vs3, d3, ds3, p3, q3, rfl, rfl, rfl, h3, r3⟩ := trodAll_cons r2
  obtain ⟨rfl, rfl, rfl⟩ := trodAll_nil r3
  obtain rfl : args = #[v0, v1, v2, v3] := by cases args; simp_all
  obtain ⟨rfl, rfl⟩ := trodVars_none hV
  obtain ⟨a0, len0, cap0, rfl⟩ := okWide_slice Try.underlying22 (hval 0 22 v0 rfl rfl)
  have k0 := h0
  have lt0 : ∀ x ∈ p0, x.block < W.heap.size := by obtain ⟨m, hm⟩ := k0; exact DataW.trod_lt m _ _ _ hm
  obtain ⟨z0, w0⟩ : ∃ zs, IsRow .i64 W a0 len0 cap0 zs := by
    obtain ⟨fuel, hf⟩ := h0
    rcases open_ints Try.underlying22 Try.underlying3 (by kernel_rfl) hf with ⟨hcs, _⟩ | ⟨x, l, c, zs, hcs, _, hl, hm, hz, _, hcell, hwz⟩
    · simp [Value.cells] at hcs
      obtain ⟨rfl, rfl, rfl⟩ := hcs
      exact ⟨[], .inl ⟨rfl, rfl, rfl, rfl⟩⟩
    · simp [Value.cells] at hcs
      obtain ⟨rfl, rfl, rfl⟩ := hcs
      exact ⟨zs, .inr ⟨_, rfl, hl, hm, by simpa using hz, hcell, hwz⟩⟩
  obtain ⟨a1, len1, cap1, rfl⟩ := okWide_slice Try.underlying29 (hval 1 29 v1 rfl rfl)
  have k1 := h1
  have lt1 : ∀ x ∈ p1, x.block < W.heap.size := by obtain ⟨m, hm⟩ := k1; exact DataW.trod_lt m _ _ _ hm
  obtain ⟨z1, w1⟩ := open_writes h1
  obtain ⟨a2, rfl, rfl, rfl, w2⟩ := open_int Try.underlying3 (hval 2 3 v2 rfl rfl) h2
  obtain ⟨a3, rfl, rfl, rfl, w3⟩ := open_int Try.underlying3 (hval 3 3 v3 rfl rfl) h3
  clear hA0 hval0
  refine (walk a0 len0 cap0 z0 a1 len1 cap1 z1 a2 a3 W w0 w1 w2 w3).mono fun e W' ⟨he, bel⟩ => ?_
  subst he
  exact ⟨_, rfl, _, _, _, [], _, [], hW', trodAll_mk1 (shut_bool Try.underlying4 _), (trodAll_cons_mk (Below.trod laidOut (by kernel_rfl) (of_decide_eq_true (by kernel_rfl)) k0 bel lt0) (trodAll_cons_mk (Below.trod laidOut (by kernel_rfl) (of_decide_eq_true (by kernel_rfl)) k1 bel lt1) (trodAll_cons_mk (shut_int Try.underlying3 w2) (trodAll_cons_mk (shut_int Try.underlying3 w3) trodAll_mk0)))), rfl, bel.frame _, fun h => by cases h⟩

theorem over : Rows.diskWritesRow.holds Try.pinned (OpenSpec.ofChange Rows.diskWritesSpec) :=
  OpenClaim.holds_of_wide 5 Try.f5 rfl rfl rfl rfl rfl rfl rfl ⟨rfl, rfl, rfl, rfl, rfl⟩ rfl rfl rfl rfl rfl (by kernel_rfl) Try.func5 (by kernel_rfl)
    (of_decide_eq_true (by kernel_rfl)) (by unfold Func.isWrapper; first | (rw [if_pos (by decide +kernel)]; kernel_rfl) | (rw [if_neg (by decide +kernel)]; exact ⟨rfl, rfl⟩))
    (fun os started H enc _ => lifted os started H enc)

theorem proved : Rows.DiskWritesSaid := over
#print axioms proved
end Go.Proofs.Ytlhdomckljhfoaa.diskWrites
