/-
  DiskBent: for disks with some bytes changed, Load and Save return what the reference returns. Conditions: none.
-/
import Derived.Test.YtlhdomckljhfoaaRows
import Derived.Test.YtlhdomckljhfoaaDkBent
import Derived.WalkKit
import Derived.ProofKit
import Derived.OpenShut
import Derived.ShutString
import Derived.ChangeOld
import Derived.Below
namespace Go.Proofs.Ytlhdomckljhfoaa.diskBent
open Go.ChangeShapes Go.WideShapes Go.ChangeAt Go.RowKit
open Go.ChangeMaps (open_string shut_string)
set_option linter.unusedVariables false

theorem own : ownKnob Try.prog.godebug = none := by kernel_rfl
theorem laidOut : laidOutB Try.prog = true := by kernel_rfl

def IsRow (k : IntKind) (w : World) (a : Option Addr) (len cap : Nat) (zs : List Int) : Prop :=
  (a = none ∧ len = 0 ∧ cap = 0 ∧ zs = []) ∨
  ∃ x, a = some x ∧ len ≤ cap ∧ cap ≤ maxLen ∧ zs.length = cap ∧ (∀ i, i < zs.length → w.cell? (x.add i) = some (.int k (zs.getD i 0))) ∧ ∀ n ∈ zs, (Lit.int k n).wf = true

set_option maxHeartbeats 8000000 in
set_option maxRecDepth 100000 in
theorem walk (a0 : Option Addr) (len0 cap0 : Nat) (z0 : List Int) (a1 : Option Addr) (len1 cap1 : Nat) (z1 : List Int) (a2 : Option Addr) (len2 cap2 : Nat) (z2 : List Int) (w : World) (w0 : IsRow .i64 w a0 len0 cap0 z0) (w1 : IsRow .i64 w a1 len1 cap1 z1) (w2 : IsRow .u8 w a2 len2 cap2 z2) :
    Calls Try.prog 4 #[.slice a0 len0 cap0, .slice a1 len1 cap1, .slice a2 len2 cap2] w fun e w' => e = .returned (.bool true) ∧ Below w.heap.size w w' := by
  have hr0 := row_rdi w0
  have hr1 := row_rdi w1
  have hr2 := row_rdb w2
  have hm0 := row_len w0
  have hm1 := row_len w1
  have hm2 := row_len w2
  clear w0 w1 w2
  unfold maxLen at hm0 hm1 hm2
  by_cases hg0 : 40 < len0
  · have i0 : (40 : Int) < (len0 : Int) := by omega
    go_enter Try.func4, Try.ntmps4
    go_wp2_with fail
    refine (awake_any _).mono ?_
    rintro e W1 ⟨rfl, hb1⟩
    go_wp2_with fail
    go_ret
    exact ⟨rfl, hb1⟩
  · have i0 : ¬ (40 : Int) < (len0 : Int) := by omega
    by_cases hg1 : 20 < len1
    · have i1 : (20 : Int) < (len1 : Int) := by omega
      go_enter Try.func4, Try.ntmps4
      go_wp2_with fail
      refine (awake_any _).mono ?_
      rintro e W1 ⟨rfl, hb1⟩
      go_wp2_with fail
      go_ret
      exact ⟨rfl, hb1⟩
    · have i1 : ¬ (20 : Int) < (len1 : Int) := by omega
      have cSv := saved_any a0 len0 cap0 _ _ w hr0 (by omega) (Nat.le_refl _)
      clear hr0
      go_enter Try.func4, Try.ntmps4
      go_wp2_with fail
      refine cSv.mono ?_
      rintro e W1 ⟨l, hl, rfl, hb⟩
      obtain ⟨S, hS⟩ : ∃ S : ByteArray, S = ⟨l.toArray⟩ := ⟨_, rfl⟩
      have hSl : S.data.toList = l := by rw [hS]
      have hSs : S.size = 20480 := by rw [← len_size, hSl, hl]
      rw [← hS]
      have hcv : ∀ w, (convert 9 38 (.string S)).run Try.prog w = _ := fun w => Lib.run_convert_string_bytes w 9 38 5 S Try.underlying9 Try.underlying38 Try.underlying5
      rw [hSs] at hcv
      have hB1 := bw_byt W1 5 S
      have hbw := bw_below W1 5 S
      have hbel1 := hb.trans (hbw.mono hb.size)
      have hBs := hb.size
      have hr1 := hr1.below (hb.trans (hbw.mono hb.size))
      have hr2 := hr2.below (hb.trans (hbw.mono hb.size))
      rw [hSl] at hB1
      clear hS hSl hSs cSv hb hbw
      have hfd := run_fieldD S
      go_wp2
      generalize Lib.bytesWorld W1 5 S = W2 at *
      generalize grownCap W1 20480 0 5 = cp at *
      generalize W1.heap.size = g at *
      clear hcv
      have HR1 := Lib.hid hr1
      have HR2 := Lib.hid hr2
      have hst : BentSt w g W2 := ⟨l, hl, hB1, hbel1⟩
      clear hr1 hr2 hl hB1 hbel1
      go_loopw [8] (fun i wr => ∃ k : Nat, k ≤ len1 ∧ i = .int .i64 k ∧ BentSt w g wr ∧ RdI wr w.heap.size a1 len1 (z1.take len1) ∧ RdB wr w.heap.size a2 len2) (fun i _ => len1 - (intOf i).toNat)
      case atStart => exact ⟨0, by omega, rfl, hst, HR1.out, HR2.out⟩
      case round =>
        clear hst HR1 HR2
        obtain ⟨k, hk, rfl, ⟨cur, hcl, hB, hbel⟩, hr1, hr2⟩ := hrel
        by_cases hk1 : k < len1
        · by_cases hk2 : k < len2
          · obtain ⟨b1, o1, z, rfl, hb1, hz, hc1⟩ := hr1.one hk1
            obtain ⟨b2, o2, rfl, hb2, hcs2⟩ := hr2.cells (by omega)
            obtain ⟨c, hc2⟩ := hcs2 k hk2
            have cP1 := fun W => place_any z 40960 W (by omega) (by omega) hz.1 hz.2
            have hz3 := tdiv3 z hz
            have cP2 := fun W => place_any (z.tdiv 3) 70 W (by omega) (by omega) hz3.1 hz3.2
            obtain ⟨hp0, hp1⟩ := placeI_bd z 40960 (by omega)
            obtain ⟨hq0, hq1⟩ := placeI_bd (z.tdiv 3) 70 (by omega)
            generalize placeI z 40960 = p at *
            generalize placeI (z.tdiv 3) 70 = q at *
            have w5 : IntKind.i64.wrap (z.tdiv 3) = z.tdiv 3 := IntWalk.i64_in _ hz3
            have i5 : (k : Int) < len1 := by omega
            have i6 : (k : Int) < len2 := by omega
            have HR1 := Lib.hid hr1
            have HR2 := Lib.hid hr2
            have HB := Lib.hid hB
            have HC := Lib.hid hcl
            clear hr1 hr2 hB hcl hcs2
            go_upto_if 55 with (go_at_call 17; (with_reducible refine (cP1 _).mono ?_); rintro e w' ⟨rfl, rfl⟩)
            go_cut [9] from 52 to 69 (fun v wx => ∃ r : Nat, r < 20480 ∧ v = .int .i64 r ∧ wx = wr)
            case first =>
              by_cases hp : p < 20480
              · go_wp2
                go_meet
                exact ⟨p.toNat, by omega, val_int (by omega), rfl⟩
              · have hpm : 0 ≤ p % 2 ∧ p % 2 ≤ 1 := by omega
                have hp2 : (20480 : Int) ≤ p := by omega
                go_wp2_with (go_at_call 17; (with_reducible refine (cP2 _).mono ?_); rintro e w' ⟨rfl, rfl⟩)
                go_meet
                exact ⟨(p % 2 * 10240 + q).toNat, by omega, val_int (by omega), rfl⟩
            case rest =>
              obtain ⟨r, hr, rfl, rfl⟩ := hcut
              have hx : cur[r]? = some (cur[r]'(by rw [HC.out]; exact hr)) := List.getElem?_eq_getElem _
              generalize cur[r]'(by rw [HC.out]; exact hr) = x at *
              have hcx := HB.out.cell r x hx
              have hfx := HB.out.free r (by rw [HC.out]; exact hr)
              have ha8 := add8 x c
              obtain ⟨y0, y1⟩ := bi_bd (x + c)
              clear hx
              go_wp2_with fail
              go_region
              all_goals
                go_wp2
                go_roundw
                case rel =>
                  have hbd : Below w.heap.size wc ((wc.setCell ⟨g, r, none⟩ (.int .u8 (bi (x + c)))).drew) := below_drewN ((Below.refl _ _).setCell hBs _) 1
                  exact ⟨k + 1, by omega, by go_num, ⟨cur.set r (x + c), by rw [List.length_set]; exact HC.out, (HB.out.set_ (k := r) (by rw [HC.out]; exact hr) (x + c)).drew, hbel.trans hbd⟩, HR1.out.below hbd, HR2.out.below hbd⟩
                case measure => simp [intOf]; omega
          · have i5 : (k : Int) < len1 := by omega
            have i6 : ¬ (k : Int) < len2 := by omega
            clear hr1 hr2
            obtain ⟨D, hD⟩ : ∃ D : ByteArray, D = ⟨cur.toArray⟩ := ⟨_, rfl⟩
            have hDl : D.data.toList = cur := by rw [hD]
            have hDs : D.size = 20480 := by rw [← len_size, hDl, hcl]
            have hcv := hB.conv (P := Try.prog) 38 9 Try.underlying38 Try.underlying5 Try.underlying9 0 20480 cp cur hcl (fun j hj => by rw [Nat.zero_add])
            rw [← hD] at hcv
            have K0 : Keeps w wr.heap.size D (wr.alloc (.cells #[Value.string D] 25)) := ⟨by simp [go_sem], by simp, hbel.alloc hbel.size _⟩
            have cL := fun W => load_any D W hDs
            have crL := fun W => rload_any D W hDs
            unfold LoadP at cL crL
            have cS := fun W => save_any D { data := #[122] } W hDs (by decide)
            have crS := fun W => rsave_any D { data := #[122] } W hDs (by decide)
            unfold SaveP at cS crS
            obtain ⟨X, hX⟩ : ∃ X : ByteArray, X = ⟨(toldP D.data.toList).2.2.toArray⟩ := ⟨_, rfl⟩
            obtain ⟨bb, hbb⟩ : ∃ bb : Bool, bb = decide (0 ≤ (toldP D.data.toList).1) := ⟨_, rfl⟩
            rw [← hX, ← hbb] at cL crL
            generalize saveP D.data.toList _ = V at *
            obtain ⟨L, er⟩ := V
            clear hX hbb hD hDl hDs hcl hB hbel
            have hc := K0.cell
            go_wp2_with fail
            generalize wr.alloc (.cells #[Value.string D] 25) = W3 at *
            generalize wr.heap.size = gd at *
            refine (cL _).mono ?_
            rintro e W4 ⟨rfl, hb⟩
            have K0 := K0.next hb
            have hc := K0.cell
            clear hb cL hcv
            go_wp2_with fail
            refine (crL _).mono ?_
            rintro e W5 ⟨rfl, hb⟩
            have K0 := K0.next hb
            have hc := K0.cell
            clear hb crL
            go_wp2_with fail
            refine (cS _).mono ?_
            rintro e W6 ⟨A1, n1, cap1', rfl, hnc1, hn1, _, hrd1, hb⟩
            have K0 := K0.next hb
            have hc := K0.cell
            clear hb cS
            go_wp2_with fail
            refine (crS _).mono ?_
            rintro e W7 ⟨A2, n2, cap2', rfl, hnc2, hn2, _, hrd2, hb⟩
            have K0 := K0.next hb
            have hc := K0.cell
            have hrd1 := rdw_next hrd1 hb
            obtain rfl : n2 = n1 := by rw [← hrd2.1]; exact hrd1.1
            clear hb crS
            go_wp2_with fail
            refine (same_any A1 A2 _ _ _ _ _ L _ hrd1 hrd2 (by omega)).mono ?_
            rintro e W8 ⟨rfl, hb⟩
            have K0 := K0.next hb
            clear hb hrd1 hrd2 hc
            go_wp2_with fail
            refine (awake_any _).mono ?_
            rintro e W9 ⟨rfl, hb⟩
            have K0 := K0.next hb
            go_wp2_with fail
            go_ret
            exact ⟨rfl, K0.bel⟩
        · have i5 : ¬ (k : Int) < len1 := by omega
          clear hr1 hr2
          obtain ⟨D, hD⟩ : ∃ D : ByteArray, D = ⟨cur.toArray⟩ := ⟨_, rfl⟩
          have hDl : D.data.toList = cur := by rw [hD]
          have hDs : D.size = 20480 := by rw [← len_size, hDl, hcl]
          have hcv := hB.conv (P := Try.prog) 38 9 Try.underlying38 Try.underlying5 Try.underlying9 0 20480 cp cur hcl (fun j hj => by rw [Nat.zero_add])
          rw [← hD] at hcv
          have K0 : Keeps w wr.heap.size D (wr.alloc (.cells #[Value.string D] 25)) := ⟨by simp [go_sem], by simp, hbel.alloc hbel.size _⟩
          have cL := fun W => load_any D W hDs
          have crL := fun W => rload_any D W hDs
          unfold LoadP at cL crL
          have cS := fun W => save_any D { data := #[122] } W hDs (by decide)
          have crS := fun W => rsave_any D { data := #[122] } W hDs (by decide)
          unfold SaveP at cS crS
          obtain ⟨X, hX⟩ : ∃ X : ByteArray, X = ⟨(toldP D.data.toList).2.2.toArray⟩ := ⟨_, rfl⟩
          obtain ⟨bb, hbb⟩ : ∃ bb : Bool, bb = decide (0 ≤ (toldP D.data.toList).1) := ⟨_, rfl⟩
          rw [← hX, ← hbb] at cL crL
          generalize saveP D.data.toList _ = V at *
          obtain ⟨L, er⟩ := V
          clear hX hbb hD hDl hDs hcl hB hbel
          have hc := K0.cell
          go_wp2_with fail
          generalize wr.alloc (.cells #[Value.string D] 25) = W3 at *
          generalize wr.heap.size = gd at *
          refine (cL _).mono ?_
          rintro e W4 ⟨rfl, hb⟩
          have K0 := K0.next hb
          have hc := K0.cell
          clear hb cL hcv
          go_wp2_with fail
          refine (crL _).mono ?_
          rintro e W5 ⟨rfl, hb⟩
          have K0 := K0.next hb
          have hc := K0.cell
          clear hb crL
          go_wp2_with fail
          refine (cS _).mono ?_
          rintro e W6 ⟨A1, n1, cap1', rfl, hnc1, hn1, _, hrd1, hb⟩
          have K0 := K0.next hb
          have hc := K0.cell
          clear hb cS
          go_wp2_with fail
          refine (crS _).mono ?_
          rintro e W7 ⟨A2, n2, cap2', rfl, hnc2, hn2, _, hrd2, hb⟩
          have K0 := K0.next hb
          have hc := K0.cell
          have hrd1 := rdw_next hrd1 hb
          obtain rfl : n2 = n1 := by rw [← hrd2.1]; exact hrd1.1
          clear hb crS
          go_wp2_with fail
          refine (same_any A1 A2 _ _ _ _ _ L _ hrd1 hrd2 (by omega)).mono ?_
          rintro e W8 ⟨rfl, hb⟩
          have K0 := K0.next hb
          clear hb hrd1 hrd2 hc
          go_wp2_with fail
          refine (awake_any _).mono ?_
          rintro e W9 ⟨rfl, hb⟩
          have K0 := K0.next hb
          go_wp2_with fail
          go_ret
          exact ⟨rfl, K0.bel⟩

set_option maxRecDepth 100000 in
theorem lifted (os : Os) (started : os.Started) (H : Type) (enc : TypeId × Value → H) :
    ReturnsInHanded {} Try.checked os 4 .any (Rows.diskBentSpec.pre6 enc Try.prog Try.f4 Rows.diskBentRow.domain false) (Rows.diskBentSpec.post enc Try.prog Try.f4 false true false false) := by
  refine returnsInHanded_of_change (C := Try.checked) own started (by kernel_rfl) Try.func4
    (ChangeSpec.witness6 (enc := enc) (C := Try.checked) false ⟨#[], #[.slice none 0 0, .slice none 0 0, .slice none 0 0], []⟩ 8 (by kernel_rfl) (by kernel_rfl) (by kernel_rfl) (by kernel_rfl)) ?_
  intro W base args ds gs before hval0 hW hcnd _
  have hval : ∀ (j : Nat) t v, Try.f4.params[j]? = some t → args[j]? = some v → Value.okWide Try.prog W .any base t v := hval0
  have hW' := hW
  obtain ⟨p, q, hA0, hV, rfl, hfz, hnd⟩ := hW
  have hA : DataW.TrodAll enc Try.prog W 0 (fun _ => true) true Try.f4.params.toList args.toList ds p := hA0
  rw [Try.params4] at hA hval
  obtain ⟨v0, vs0, d0, ds0, p0, q0, hargs, rfl, rfl, h0, r0⟩ := trodAll_cons hA
  obtain ⟨v1, vs1, d1, ds1, p1, q1, rfl, rfl, rfl, h1, r1⟩ := trodAll_cons r0
  obtain ⟨v2, vs2, d2, ds2, p2, q2, rfl, rfl, rfl, h2, r2⟩ := trodAll_cons r1
  obtain ⟨rfl, rfl, rfl⟩ := trodAll_nil r2
  obtain rfl : args = #[v0, v1, v2] := by cases args; simp_all
  obtain ⟨rfl, rfl⟩ := trodVars_none hV
  obtain ⟨a0, len0, cap0, rfl⟩ := okWide_slice Try.underlying22 (hval 0 22 v0 rfl rfl)
  have k0 := h0
  have lt0 : ∀ x ∈ p0, x.block < W.heap.size := by obtain ⟨m, hm⟩ := k0; exact DataW.trod_lt m _ _ _ hm
  obtain ⟨z0, w0⟩ : ∃ zs, IsRow .i64 W a0 len0 cap0 zs := by
    obtain ⟨fuel, hf⟩ := h0
    rcases open_ints Try.underlying22 Try.underlying3 (by kernel_rfl) hf with ⟨hcs, _⟩ | ⟨x, l, c, zs, hcs, _, hl, hm, hz, _, hcell, hwz⟩
    · simp [Value.cells] at hcs
      obtain ⟨rfl, rfl, rfl⟩ := hcs
      exact ⟨[], .inl ⟨rfl, rfl, rfl, rfl⟩⟩
    · simp [Value.cells] at hcs
      obtain ⟨rfl, rfl, rfl⟩ := hcs
      exact ⟨zs, .inr ⟨_, rfl, hl, hm, by simpa using hz, hcell, hwz⟩⟩
  obtain ⟨a1, len1, cap1, rfl⟩ := okWide_slice Try.underlying22 (hval 1 22 v1 rfl rfl)
  have k1 := h1
  have lt1 : ∀ x ∈ p1, x.block < W.heap.size := by obtain ⟨m, hm⟩ := k1; exact DataW.trod_lt m _ _ _ hm
  obtain ⟨z1, w1⟩ : ∃ zs, IsRow .i64 W a1 len1 cap1 zs := by
    obtain ⟨fuel, hf⟩ := h1
    rcases open_ints Try.underlying22 Try.underlying3 (by kernel_rfl) hf with ⟨hcs, _⟩ | ⟨x, l, c, zs, hcs, _, hl, hm, hz, _, hcell, hwz⟩
    · simp [Value.cells] at hcs
      obtain ⟨rfl, rfl, rfl⟩ := hcs
      exact ⟨[], .inl ⟨rfl, rfl, rfl, rfl⟩⟩
    · simp [Value.cells] at hcs
      obtain ⟨rfl, rfl, rfl⟩ := hcs
      exact ⟨zs, .inr ⟨_, rfl, hl, hm, by simpa using hz, hcell, hwz⟩⟩
  obtain ⟨a2, len2, cap2, rfl⟩ := okWide_slice Try.underlying38 (hval 2 38 v2 rfl rfl)
  have k2 := h2
  have lt2 : ∀ x ∈ p2, x.block < W.heap.size := by obtain ⟨m, hm⟩ := k2; exact DataW.trod_lt m _ _ _ hm
  obtain ⟨z2, w2⟩ : ∃ zs, IsRow .u8 W a2 len2 cap2 zs := by
    obtain ⟨fuel, hf⟩ := h2
    rcases open_ints Try.underlying38 Try.underlying5 (by kernel_rfl) hf with ⟨hcs, _⟩ | ⟨x, l, c, zs, hcs, _, hl, hm, hz, _, hcell, hwz⟩
    · simp [Value.cells] at hcs
      obtain ⟨rfl, rfl, rfl⟩ := hcs
      exact ⟨[], .inl ⟨rfl, rfl, rfl, rfl⟩⟩
    · simp [Value.cells] at hcs
      obtain ⟨rfl, rfl, rfl⟩ := hcs
      exact ⟨zs, .inr ⟨_, rfl, hl, hm, by simpa using hz, hcell, hwz⟩⟩
  clear hA0 hval0
  refine (walk a0 len0 cap0 z0 a1 len1 cap1 z1 a2 len2 cap2 z2 W w0 w1 w2).mono fun e W' ⟨he, bel⟩ => ?_
  subst he
  exact ⟨_, rfl, _, _, _, [], _, [], hW', trodAll_mk1 (shut_bool Try.underlying4 _), (trodAll_cons_mk (Below.trod laidOut (by kernel_rfl) (of_decide_eq_true (by kernel_rfl)) k0 bel lt0) (trodAll_cons_mk (Below.trod laidOut (by kernel_rfl) (of_decide_eq_true (by kernel_rfl)) k1 bel lt1) (trodAll_cons_mk (Below.trod laidOut (by kernel_rfl) (of_decide_eq_true (by kernel_rfl)) k2 bel lt2) trodAll_mk0))), rfl, bel.frame _, fun h => by cases h⟩

theorem over : Rows.diskBentRow.holds Try.pinned (OpenSpec.ofChange Rows.diskBentSpec) :=
  OpenClaim.holds_of_wide 4 Try.f4 rfl rfl rfl rfl rfl rfl rfl ⟨rfl, rfl, rfl, rfl, rfl⟩ rfl rfl rfl rfl rfl (by kernel_rfl) Try.func4 (by kernel_rfl)
    (of_decide_eq_true (by kernel_rfl)) (by unfold Func.isWrapper; first | (rw [if_pos (by decide +kernel)]; kernel_rfl) | (rw [if_neg (by decide +kernel)]; exact ⟨rfl, rfl⟩))
    (fun os started H enc _ => lifted os started H enc)

theorem proved : Rows.DiskBentSaid := over
#print axioms proved
end Go.Proofs.Ytlhdomckljhfoaa.diskBent
