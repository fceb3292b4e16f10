/-
  VersionZone: a version with a Pre is less than the release with the same numbers, not less than the version with the Pre 0, and greater than all versions with smaller numbers. Conditions: strconv's and math/bits' tables start as the program's text lays them (the card ties them).
-/
import Derived.Test.YtabcpbmnemfnbaaDoorRows
import Derived.Test.YtabcpbmnemfnbaaDoorVZone
import Derived.Test.YtabcpbmnemfnbaaDoorCards
import Derived.Test.YtabcpbmnemfnbaaDoorTie
import Derived.Test.YtabcpbmnemfnbaaDoorTab
import Derived.LaidMore
import Derived.MakeChecks
import Derived.SevenTiedAt
import Derived.Stop.Joined
import Derived.WalkKit
import Derived.ProofKit
import Derived.OpenShut
import Derived.ShutString
import Derived.ChangeOld
import Derived.Below
namespace Go.Proofs.YtabcpbmnemfnbaaDoor.versionZone
open Go.ChangeShapes Go.WideShapes Go.ChangeAt Go.RowKit
open Go.ChangeMaps (open_string shut_string)
set_option linter.unusedVariables false

theorem own : ownKnob Tryd.prog.godebug = none := by kernel_rfl
theorem laidOut : laidOutB Tryd.prog = true := by kernel_rfl

def IsRow (k : IntKind) (w : World) (a : Option Addr) (len cap : Nat) (zs : List Int) : Prop :=
  (a = none ∧ len = 0 ∧ cap = 0 ∧ zs = []) ∨
  ∃ x, a = some x ∧ len ≤ cap ∧ cap ≤ maxLen ∧ zs.length = cap ∧ (∀ i, i < zs.length → w.cell? (x.add i) = some (.int k (zs.getD i 0))) ∧ ∀ n ∈ zs, (Lit.int k n).wf = true

set_option maxHeartbeats 8000000 in
theorem walk (a0 : Option Addr) (len0 cap0 : Nat) (z0 : List Int) (w : World) (w0 : IsRow .i64 w a0 len0 cap0 z0) (hT : Tab w) :
    Calls Tryd.prog 9 #[.slice a0 len0 cap0] w fun e w' => e = .returned (.bool true) ∧ Below w.heap.size w w' := by
  have HT := Lib.hid hT
  clear hT
  obtain ⟨hrd, hml, hwf, hlen⟩ := row_rd w0
  generalize z0.take len0 = l at *
  subst hlen
  clear w0
  obtain ⟨k0, k1, k2, k3, k4, rk, fk, sk, tk, ck⟩ := ver_fam a0 cap0 w.heap.size l 0 hml hwf (by omega) (by omega)
  obtain ⟨m0, m1, m2, m3, m4, rm, fm, sm, tm, cm⟩ := ver_fam a0 cap0 w.heap.size l 5 hml hwf (by omega) (by omega)
  have HRD := Lib.hid hrd
  clear hrd hwf
  by_cases hp : k3.size = 0
  · have he := empty_str k3 hp
    clear fk fm
    go_enter Tryd.func9, Tryd.ntmps9
    go_wp2_with fail
    refine (ck _ HRD.out (Nat.le_refl _)).mono ?_
    rintro e w0 ⟨rfl, hb⟩
    have hB := hb
    clear hb
    go_wp2_with fail
    refine (cm _ (rd_below HRD.out hB) hB.size).mono ?_
    rintro e w1 ⟨rfl, hb⟩
    have hB := hB.trans ((hb).mono hB.size)
    clear hb
    go_wp2_with fail
    have hk := (room_new w1 (.int .i64 k0) (.int .i64 k1) (.int .i64 k2) (.string k3) (.string k4) 24).1
    have zk : w1.heap.size < (w1.alloc (.cells #[.int .i64 k0, .int .i64 k1, .int .i64 k2, .string k3, .string k4] 24)).heap.size := by simp
    have hB := hB.trans ((box_below w1 (.cells #[.int .i64 k0, .int .i64 k1, .int .i64 k2, .string k3, .string k4] 24)).mono hB.size)
    have q1 : (w1.alloc (.cells #[.int .i64 k0, .int .i64 k1, .int .i64 k2, .string k3, .string k4] 24)).heap.size = w1.heap.size + 1 := by simp
    generalize w1.alloc (.cells #[.int .i64 k0, .int .i64 k1, .int .i64 k2, .string k3, .string k4] 24) = W2 at *
    have hk := five_below hk zk (box_below W2 (.cells #[.int .i64 m0, .int .i64 m1, .int .i64 m2, .string m3, .string m4] 24))
    have zk := Nat.lt_of_lt_of_le zk (box_below W2 (.cells #[.int .i64 m0, .int .i64 m1, .int .i64 m2, .string m3, .string m4] 24)).size
    have hm := (room_new W2 (.int .i64 m0) (.int .i64 m1) (.int .i64 m2) (.string m3) (.string m4) 24).1
    have zm : W2.heap.size < (W2.alloc (.cells #[.int .i64 m0, .int .i64 m1, .int .i64 m2, .string m3, .string m4] 24)).heap.size := by simp
    have hB := hB.trans ((box_below W2 (.cells #[.int .i64 m0, .int .i64 m1, .int .i64 m2, .string m3, .string m4] 24)).mono hB.size)
    have q2 : (W2.alloc (.cells #[.int .i64 m0, .int .i64 m1, .int .i64 m2, .string m3, .string m4] 24)).heap.size = W2.heap.size + 1 := by simp
    generalize W2.alloc (.cells #[.int .i64 m0, .int .i64 m1, .int .i64 m2, .string m3, .string m4] 24) = W3 at *
    rw [q1] at hm zm
    clear q1 q2
    refine (awake_any _ (tab_below HT.out hB)).mono ?_
    rintro e w4 ⟨rfl, hb⟩
    have hk := five_below hk zk hb
    have zk := Nat.lt_of_lt_of_le zk hb.size
    have hm := five_below hm zm hb
    have zm := Nat.lt_of_lt_of_le zm hb.size
    have hB := hB.trans ((hb).mono hB.size)
    clear hb
    go_wp2_with fail
    go_ret
    exact ⟨rfl, hB⟩
  · have he := (empty_no (s := k3) (by omega)).1
    go_enter Tryd.func9, Tryd.ntmps9
    go_wp2_with fail
    refine (ck _ HRD.out (Nat.le_refl _)).mono ?_
    rintro e w0 ⟨rfl, hb⟩
    have hB := hb
    clear hb
    go_wp2_with fail
    refine (cm _ (rd_below HRD.out hB) hB.size).mono ?_
    rintro e w1 ⟨rfl, hb⟩
    have hB := hB.trans ((hb).mono hB.size)
    clear hb
    go_wp2_with fail
    have hk := (room_new w1 (.int .i64 k0) (.int .i64 k1) (.int .i64 k2) (.string k3) (.string k4) 24).1
    have zk : w1.heap.size < (w1.alloc (.cells #[.int .i64 k0, .int .i64 k1, .int .i64 k2, .string k3, .string k4] 24)).heap.size := by simp
    have hB := hB.trans ((box_below w1 (.cells #[.int .i64 k0, .int .i64 k1, .int .i64 k2, .string k3, .string k4] 24)).mono hB.size)
    have q1 : (w1.alloc (.cells #[.int .i64 k0, .int .i64 k1, .int .i64 k2, .string k3, .string k4] 24)).heap.size = w1.heap.size + 1 := by simp
    generalize w1.alloc (.cells #[.int .i64 k0, .int .i64 k1, .int .i64 k2, .string k3, .string k4] 24) = W2 at *
    have hk := five_below hk zk (box_below W2 (.cells #[.int .i64 m0, .int .i64 m1, .int .i64 m2, .string m3, .string m4] 24))
    have zk := Nat.lt_of_lt_of_le zk (box_below W2 (.cells #[.int .i64 m0, .int .i64 m1, .int .i64 m2, .string m3, .string m4] 24)).size
    have hm := (room_new W2 (.int .i64 m0) (.int .i64 m1) (.int .i64 m2) (.string m3) (.string m4) 24).1
    have zm : W2.heap.size < (W2.alloc (.cells #[.int .i64 m0, .int .i64 m1, .int .i64 m2, .string m3, .string m4] 24)).heap.size := by simp
    have hB := hB.trans ((box_below W2 (.cells #[.int .i64 m0, .int .i64 m1, .int .i64 m2, .string m3, .string m4] 24)).mono hB.size)
    have q2 : (W2.alloc (.cells #[.int .i64 m0, .int .i64 m1, .int .i64 m2, .string m3, .string m4] 24)).heap.size = W2.heap.size + 1 := by simp
    generalize W2.alloc (.cells #[.int .i64 m0, .int .i64 m1, .int .i64 m2, .string m3, .string m4] 24) = W3 at *
    rw [q1] at hm zm
    clear q1 q2
    obtain ⟨kq0, kq1, kq2, kq3, kq4⟩ := id hk
    obtain ⟨mq0, mq1, mq2, mq3, mq4⟩ := id hm
    go_cut [5, 6] from 16 to 17 (fun x y wx => ZoneSt w wx x y (w1.heap.size) (.int .i64 k0) (.int .i64 k1) (.int .i64 k2) (.string k3) (.string k4) (w1.heap.size + 1) (.int .i64 m0) (.int .i64 m1) (.int .i64 m2) (.string m3) (.string m4))
    case first =>
      go_region
      all_goals
        go_wp2_with fail
        go_meet
        first | exact (zone_new hk hm zk zm hB).1 | exact (zone_new hk hm zk zm hB).2
    case rest =>
      clear hk hm zk zm hB
      clear kq0 kq1 kq2 kq3 kq4 mq0 mq1 mq2 mq3 mq4
      obtain ⟨b2, b3, rfl, rfl, hk, hm, hr, hl, zk, zm, zr, zl, n23, n02, n03, n12, n13, g2, g3, hB⟩ := hcut
      obtain ⟨⟨r0, r1, r2, r3, r4⟩, rf⟩ := id hr
      obtain ⟨⟨l0, l1, l2, l3, l4⟩, lf⟩ := id hl
      have rf3 := rf 3
      have lf3 := lf 3
      go_upto_region 7 with (fail)
      have hk := five_other (o := 3) (five_other (o := 3) hk n02 (.string ⟨#[]⟩)) n03 (.string ⟨#[48]⟩)
      have hm := five_other (o := 3) (five_other (o := 3) hm n12 (.string ⟨#[]⟩)) n13 (.string ⟨#[48]⟩)
      have hr := (room_other (o := 3) (room_set3 hr (.string ⟨#[]⟩)) n23 (.string ⟨#[48]⟩)).1
      have hl := (room_set3 (room_other (o := 3) hl n23.symm (.string ⟨#[]⟩)) (.string ⟨#[48]⟩)).1
      have hB := (hB.setCell (p := ⟨b2, 3, none⟩) g2 (.string ⟨#[]⟩)).setCell (p := ⟨b3, 3, none⟩) g3 (.string ⟨#[48]⟩)
      have hsz : ((wc.setCell ⟨b2, 3, none⟩ (.string ⟨#[]⟩)).setCell ⟨b3, 3, none⟩ (.string ⟨#[48]⟩)).heap.size = wc.heap.size := by simp
      rw [← hsz] at zk zm zr zl
      clear hsz r0 r1 r2 r3 r4 rf l0 l1 l2 l3 l4 lf rf3 lf3
      generalize (wc.setCell ⟨b2, 3, none⟩ (.string ⟨#[]⟩)).setCell ⟨b3, 3, none⟩ (.string ⟨#[48]⟩) = wg at *
      have ckr := fam_comp fk (fam_pre fk ⟨0, by decide⟩) sk tk (pre_size (by decide)) tk
      have clk := fam_comp (fam_pre fk ⟨4, by decide⟩) fk (pre_size (by decide)) tk sk tk
      have cml := fam_comp fm (fam_pre fk ⟨4, by decide⟩) sm tm (pre_size (by decide)) tk
      have hr9 := fam_has fk hp
      obtain ⟨⟨x0, x1⟩, ⟨y0, y1⟩, ⟨v0, v1⟩, p0, p1⟩ := fam_bd fk
      obtain ⟨⟨x0', x1'⟩, ⟨y0', y1'⟩, ⟨v0', v1'⟩, p0', p1'⟩ := fam_bd fm
      rw [ints_lt (show keyV (verS k0 k1 k2 k3 k4) rk < keyV (verS k0 k1 k2 (preT 0) k4) (rankT 0) by rw [key_num, key_num]; show numK (verS k0 k1 k2 k3 k4) * 16 + rk < numK (verS k0 k1 k2 k3 k4) * 16 + 10; omega)] at ckr
      have hX : intsI (keyV (verS k0 k1 k2 (preT 4) k4) (rankT 4)) (keyV (verS k0 k1 k2 k3 k4) rk) ≤ 0 := by
        have h : keyV (verS k0 k1 k2 (preT 4) k4) (rankT 4) ≤ keyV (verS k0 k1 k2 k3 k4) rk := by
          show numK (verS k0 k1 k2 k3 k4) * 16 + 0 ≤ numK (verS k0 k1 k2 k3 k4) * 16 + rk
          omega
        rcases ints_cases (keyV (verS k0 k1 k2 (preT 4) k4) (rankT 4)) (keyV (verS k0 k1 k2 k3 k4) rk) with ⟨h, _⟩ | ⟨h, _⟩ | ⟨h, k⟩ <;> omega
      have HL : Hid (m0 < k0 ∨ (m0 = k0 ∧ (m1 < k1 ∨ (m1 = k1 ∧ m2 < k2))) → intsI (keyV (verS m0 m1 m2 m3 m4) rm) (keyV (verS k0 k1 k2 (preT 4) k4) (rankT 4)) = -1) := fun h => ints_lt (by
        show ((m0 * 10000 + m1) * 10000 + m2) * 16 + rm < ((k0 * 10000 + k1) * 10000 + k2) * 16 + 0
        simp only [verS] at x0 x1 y0 y1 v0 v1 x0' x1' y0' y1' v0' v1'
        omega)
      clear x0 x1 y0 y1 v0 v1 p0 p1 x0' x1' y0' y1' v0' v1' p0' p1' hr9 fk fm
      generalize intsI (keyV (verS k0 k1 k2 (preT 4) k4) (rankT 4)) (keyV (verS k0 k1 k2 k3 k4) rk) = X at *
      generalize intsI (keyV (verS m0 m1 m2 m3 m4) rm) (keyV (verS k0 k1 k2 (preT 4) k4) (rankT 4)) = Y at *
      have clk : ∀ W : World, Calls Tryd.prog 20 #[.agg #[.int .i64 k0, .int .i64 k1, .int .i64 k2, .string ⟨#[48]⟩, .string k4], .agg #[.int .i64 k0, .int .i64 k1, .int .i64 k2, .string k3, .string k4]] W fun e w' => e = .returned (.int .i64 X) ∧ Below W.heap.size W w' := clk
      have ckr : ∀ W : World, Calls Tryd.prog 20 #[.agg #[.int .i64 k0, .int .i64 k1, .int .i64 k2, .string k3, .string k4], .agg #[.int .i64 k0, .int .i64 k1, .int .i64 k2, .string ⟨#[]⟩, .string k4]] W fun e w' => e = .returned (.int .i64 (-1)) ∧ Below W.heap.size W w' := ckr
      have cml : ∀ W : World, Calls Tryd.prog 20 #[.agg #[.int .i64 m0, .int .i64 m1, .int .i64 m2, .string m3, .string m4], .agg #[.int .i64 k0, .int .i64 k1, .int .i64 k2, .string ⟨#[48]⟩, .string k4]] W fun e w' => e = .returned (.int .i64 Y) ∧ Below W.heap.size W w' := cml
      by_cases a1 : m0 < k0
      · have hy := HL.out (by omega)
        subst hy
        clear HL
        obtain ⟨kq0, kq1, kq2, kq3, kq4⟩ := id hk
        obtain ⟨mq0, mq1, mq2, mq3, mq4⟩ := id hm
        go_wp2_with fail
        clear kq0 kq1 kq2 kq3 kq4 mq0 mq1 mq2 mq3 mq4
        refine (awake_any _ (tab_below HT.out hB)).mono ?_
        rintro e w50 ⟨rfl, hb⟩
        have hk := five_below hk zk hb
        have zk := Nat.lt_of_lt_of_le zk hb.size
        have hm := five_below hm zm hb
        have zm := Nat.lt_of_lt_of_le zm hb.size
        have hr := five_below hr zr hb
        have zr := Nat.lt_of_lt_of_le zr hb.size
        have hl := five_below hl zl hb
        have zl := Nat.lt_of_lt_of_le zl hb.size
        have hB := hB.trans ((hb).mono hB.size)
        clear hb
        obtain ⟨kq0, kq1, kq2, kq3, kq4⟩ := id hk
        obtain ⟨rq0, rq1, rq2, rq3, rq4⟩ := id hr
        go_wp2_with fail
        clear kq0 kq1 kq2 kq3 kq4 rq0 rq1 rq2 rq3 rq4
        refine (ckr _).mono ?_
        rintro e w51 ⟨rfl, hb⟩
        have hk := five_below hk zk hb
        have zk := Nat.lt_of_lt_of_le zk hb.size
        have hm := five_below hm zm hb
        have zm := Nat.lt_of_lt_of_le zm hb.size
        have hr := five_below hr zr hb
        have zr := Nat.lt_of_lt_of_le zr hb.size
        have hl := five_below hl zl hb
        have zl := Nat.lt_of_lt_of_le zl hb.size
        have hB := hB.trans ((hb).mono hB.size)
        clear hb
        obtain ⟨lq0, lq1, lq2, lq3, lq4⟩ := id hl
        obtain ⟨kq0, kq1, kq2, kq3, kq4⟩ := id hk
        go_wp2_with fail
        clear lq0 lq1 lq2 lq3 lq4 kq0 kq1 kq2 kq3 kq4
        refine (clk _).mono ?_
        rintro e w52 ⟨rfl, hb⟩
        have hk := five_below hk zk hb
        have zk := Nat.lt_of_lt_of_le zk hb.size
        have hm := five_below hm zm hb
        have zm := Nat.lt_of_lt_of_le zm hb.size
        have hr := five_below hr zr hb
        have zr := Nat.lt_of_lt_of_le zr hb.size
        have hl := five_below hl zl hb
        have zl := Nat.lt_of_lt_of_le zl hb.size
        have hB := hB.trans ((hb).mono hB.size)
        clear hb
        obtain ⟨mq0, mq1, mq2, mq3, mq4⟩ := id hm
        obtain ⟨lq0, lq1, lq2, lq3, lq4⟩ := id hl
        go_wp2_with fail
        clear mq0 mq1 mq2 mq3 mq4 lq0 lq1 lq2 lq3 lq4
        refine (cml _).mono ?_
        rintro e w53 ⟨rfl, hb⟩
        have hk := five_below hk zk hb
        have zk := Nat.lt_of_lt_of_le zk hb.size
        have hm := five_below hm zm hb
        have zm := Nat.lt_of_lt_of_le zm hb.size
        have hr := five_below hr zr hb
        have zr := Nat.lt_of_lt_of_le zr hb.size
        have hl := five_below hl zl hb
        have zl := Nat.lt_of_lt_of_le zl hb.size
        have hB := hB.trans ((hb).mono hB.size)
        clear hb
        go_wp2_with fail
        go_ret
        exact ⟨rfl, hB⟩
      by_cases a2 : m0 = k0
      · by_cases b1 : m1 < k1
        · have hy := HL.out (by omega)
          subst hy
          subst a2
          clear HL
          obtain ⟨kq0, kq1, kq2, kq3, kq4⟩ := id hk
          obtain ⟨mq0, mq1, mq2, mq3, mq4⟩ := id hm
          go_wp2_with fail
          clear kq0 kq1 kq2 kq3 kq4 mq0 mq1 mq2 mq3 mq4
          refine (awake_any _ (tab_below HT.out hB)).mono ?_
          rintro e w50 ⟨rfl, hb⟩
          have hk := five_below hk zk hb
          have zk := Nat.lt_of_lt_of_le zk hb.size
          have hm := five_below hm zm hb
          have zm := Nat.lt_of_lt_of_le zm hb.size
          have hr := five_below hr zr hb
          have zr := Nat.lt_of_lt_of_le zr hb.size
          have hl := five_below hl zl hb
          have zl := Nat.lt_of_lt_of_le zl hb.size
          have hB := hB.trans ((hb).mono hB.size)
          clear hb
          obtain ⟨kq0, kq1, kq2, kq3, kq4⟩ := id hk
          obtain ⟨rq0, rq1, rq2, rq3, rq4⟩ := id hr
          go_wp2_with fail
          clear kq0 kq1 kq2 kq3 kq4 rq0 rq1 rq2 rq3 rq4
          refine (ckr _).mono ?_
          rintro e w51 ⟨rfl, hb⟩
          have hk := five_below hk zk hb
          have zk := Nat.lt_of_lt_of_le zk hb.size
          have hm := five_below hm zm hb
          have zm := Nat.lt_of_lt_of_le zm hb.size
          have hr := five_below hr zr hb
          have zr := Nat.lt_of_lt_of_le zr hb.size
          have hl := five_below hl zl hb
          have zl := Nat.lt_of_lt_of_le zl hb.size
          have hB := hB.trans ((hb).mono hB.size)
          clear hb
          obtain ⟨lq0, lq1, lq2, lq3, lq4⟩ := id hl
          obtain ⟨kq0, kq1, kq2, kq3, kq4⟩ := id hk
          go_wp2_with fail
          clear lq0 lq1 lq2 lq3 lq4 kq0 kq1 kq2 kq3 kq4
          refine (clk _).mono ?_
          rintro e w52 ⟨rfl, hb⟩
          have hk := five_below hk zk hb
          have zk := Nat.lt_of_lt_of_le zk hb.size
          have hm := five_below hm zm hb
          have zm := Nat.lt_of_lt_of_le zm hb.size
          have hr := five_below hr zr hb
          have zr := Nat.lt_of_lt_of_le zr hb.size
          have hl := five_below hl zl hb
          have zl := Nat.lt_of_lt_of_le zl hb.size
          have hB := hB.trans ((hb).mono hB.size)
          clear hb
          obtain ⟨mq0, mq1, mq2, mq3, mq4⟩ := id hm
          obtain ⟨lq0, lq1, lq2, lq3, lq4⟩ := id hl
          go_wp2_with fail
          clear mq0 mq1 mq2 mq3 mq4 lq0 lq1 lq2 lq3 lq4
          refine (cml _).mono ?_
          rintro e w53 ⟨rfl, hb⟩
          have hk := five_below hk zk hb
          have zk := Nat.lt_of_lt_of_le zk hb.size
          have hm := five_below hm zm hb
          have zm := Nat.lt_of_lt_of_le zm hb.size
          have hr := five_below hr zr hb
          have zr := Nat.lt_of_lt_of_le zr hb.size
          have hl := five_below hl zl hb
          have zl := Nat.lt_of_lt_of_le zl hb.size
          have hB := hB.trans ((hb).mono hB.size)
          clear hb
          go_wp2_with fail
          go_ret
          exact ⟨rfl, hB⟩
        by_cases b2 : m1 = k1
        · by_cases c1 : m2 < k2
          · have hy := HL.out (by omega)
            subst hy
            subst a2 b2
            clear HL
            obtain ⟨kq0, kq1, kq2, kq3, kq4⟩ := id hk
            obtain ⟨mq0, mq1, mq2, mq3, mq4⟩ := id hm
            go_wp2_with fail
            clear kq0 kq1 kq2 kq3 kq4 mq0 mq1 mq2 mq3 mq4
            refine (awake_any _ (tab_below HT.out hB)).mono ?_
            rintro e w50 ⟨rfl, hb⟩
            have hk := five_below hk zk hb
            have zk := Nat.lt_of_lt_of_le zk hb.size
            have hm := five_below hm zm hb
            have zm := Nat.lt_of_lt_of_le zm hb.size
            have hr := five_below hr zr hb
            have zr := Nat.lt_of_lt_of_le zr hb.size
            have hl := five_below hl zl hb
            have zl := Nat.lt_of_lt_of_le zl hb.size
            have hB := hB.trans ((hb).mono hB.size)
            clear hb
            obtain ⟨kq0, kq1, kq2, kq3, kq4⟩ := id hk
            obtain ⟨rq0, rq1, rq2, rq3, rq4⟩ := id hr
            go_wp2_with fail
            clear kq0 kq1 kq2 kq3 kq4 rq0 rq1 rq2 rq3 rq4
            refine (ckr _).mono ?_
            rintro e w51 ⟨rfl, hb⟩
            have hk := five_below hk zk hb
            have zk := Nat.lt_of_lt_of_le zk hb.size
            have hm := five_below hm zm hb
            have zm := Nat.lt_of_lt_of_le zm hb.size
            have hr := five_below hr zr hb
            have zr := Nat.lt_of_lt_of_le zr hb.size
            have hl := five_below hl zl hb
            have zl := Nat.lt_of_lt_of_le zl hb.size
            have hB := hB.trans ((hb).mono hB.size)
            clear hb
            obtain ⟨lq0, lq1, lq2, lq3, lq4⟩ := id hl
            obtain ⟨kq0, kq1, kq2, kq3, kq4⟩ := id hk
            go_wp2_with fail
            clear lq0 lq1 lq2 lq3 lq4 kq0 kq1 kq2 kq3 kq4
            refine (clk _).mono ?_
            rintro e w52 ⟨rfl, hb⟩
            have hk := five_below hk zk hb
            have zk := Nat.lt_of_lt_of_le zk hb.size
            have hm := five_below hm zm hb
            have zm := Nat.lt_of_lt_of_le zm hb.size
            have hr := five_below hr zr hb
            have zr := Nat.lt_of_lt_of_le zr hb.size
            have hl := five_below hl zl hb
            have zl := Nat.lt_of_lt_of_le zl hb.size
            have hB := hB.trans ((hb).mono hB.size)
            clear hb
            obtain ⟨mq0, mq1, mq2, mq3, mq4⟩ := id hm
            obtain ⟨lq0, lq1, lq2, lq3, lq4⟩ := id hl
            go_wp2_with fail
            clear mq0 mq1 mq2 mq3 mq4 lq0 lq1 lq2 lq3 lq4
            refine (cml _).mono ?_
            rintro e w53 ⟨rfl, hb⟩
            have hk := five_below hk zk hb
            have zk := Nat.lt_of_lt_of_le zk hb.size
            have hm := five_below hm zm hb
            have zm := Nat.lt_of_lt_of_le zm hb.size
            have hr := five_below hr zr hb
            have zr := Nat.lt_of_lt_of_le zr hb.size
            have hl := five_below hl zl hb
            have zl := Nat.lt_of_lt_of_le zl hb.size
            have hB := hB.trans ((hb).mono hB.size)
            clear hb
            go_wp2_with fail
            go_ret
            exact ⟨rfl, hB⟩
          · subst a2 b2
            clear HL
            obtain ⟨kq0, kq1, kq2, kq3, kq4⟩ := id hk
            obtain ⟨mq0, mq1, mq2, mq3, mq4⟩ := id hm
            go_wp2_with fail
            clear kq0 kq1 kq2 kq3 kq4 mq0 mq1 mq2 mq3 mq4
            refine (awake_any _ (tab_below HT.out hB)).mono ?_
            rintro e w50 ⟨rfl, hb⟩
            have hk := five_below hk zk hb
            have zk := Nat.lt_of_lt_of_le zk hb.size
            have hm := five_below hm zm hb
            have zm := Nat.lt_of_lt_of_le zm hb.size
            have hr := five_below hr zr hb
            have zr := Nat.lt_of_lt_of_le zr hb.size
            have hl := five_below hl zl hb
            have zl := Nat.lt_of_lt_of_le zl hb.size
            have hB := hB.trans ((hb).mono hB.size)
            clear hb
            obtain ⟨kq0, kq1, kq2, kq3, kq4⟩ := id hk
            obtain ⟨rq0, rq1, rq2, rq3, rq4⟩ := id hr
            go_wp2_with fail
            clear kq0 kq1 kq2 kq3 kq4 rq0 rq1 rq2 rq3 rq4
            refine (ckr _).mono ?_
            rintro e w51 ⟨rfl, hb⟩
            have hk := five_below hk zk hb
            have zk := Nat.lt_of_lt_of_le zk hb.size
            have hm := five_below hm zm hb
            have zm := Nat.lt_of_lt_of_le zm hb.size
            have hr := five_below hr zr hb
            have zr := Nat.lt_of_lt_of_le zr hb.size
            have hl := five_below hl zl hb
            have zl := Nat.lt_of_lt_of_le zl hb.size
            have hB := hB.trans ((hb).mono hB.size)
            clear hb
            obtain ⟨lq0, lq1, lq2, lq3, lq4⟩ := id hl
            obtain ⟨kq0, kq1, kq2, kq3, kq4⟩ := id hk
            go_wp2_with fail
            clear lq0 lq1 lq2 lq3 lq4 kq0 kq1 kq2 kq3 kq4
            refine (clk _).mono ?_
            rintro e w52 ⟨rfl, hb⟩
            have hk := five_below hk zk hb
            have zk := Nat.lt_of_lt_of_le zk hb.size
            have hm := five_below hm zm hb
            have zm := Nat.lt_of_lt_of_le zm hb.size
            have hr := five_below hr zr hb
            have zr := Nat.lt_of_lt_of_le zr hb.size
            have hl := five_below hl zl hb
            have zl := Nat.lt_of_lt_of_le zl hb.size
            have hB := hB.trans ((hb).mono hB.size)
            clear hb
            go_wp2_with fail
            go_ret
            exact ⟨rfl, hB⟩
        · subst a2
          clear HL
          obtain ⟨kq0, kq1, kq2, kq3, kq4⟩ := id hk
          obtain ⟨mq0, mq1, mq2, mq3, mq4⟩ := id hm
          go_wp2_with fail
          clear kq0 kq1 kq2 kq3 kq4 mq0 mq1 mq2 mq3 mq4
          refine (awake_any _ (tab_below HT.out hB)).mono ?_
          rintro e w50 ⟨rfl, hb⟩
          have hk := five_below hk zk hb
          have zk := Nat.lt_of_lt_of_le zk hb.size
          have hm := five_below hm zm hb
          have zm := Nat.lt_of_lt_of_le zm hb.size
          have hr := five_below hr zr hb
          have zr := Nat.lt_of_lt_of_le zr hb.size
          have hl := five_below hl zl hb
          have zl := Nat.lt_of_lt_of_le zl hb.size
          have hB := hB.trans ((hb).mono hB.size)
          clear hb
          obtain ⟨kq0, kq1, kq2, kq3, kq4⟩ := id hk
          obtain ⟨rq0, rq1, rq2, rq3, rq4⟩ := id hr
          go_wp2_with fail
          clear kq0 kq1 kq2 kq3 kq4 rq0 rq1 rq2 rq3 rq4
          refine (ckr _).mono ?_
          rintro e w51 ⟨rfl, hb⟩
          have hk := five_below hk zk hb
          have zk := Nat.lt_of_lt_of_le zk hb.size
          have hm := five_below hm zm hb
          have zm := Nat.lt_of_lt_of_le zm hb.size
          have hr := five_below hr zr hb
          have zr := Nat.lt_of_lt_of_le zr hb.size
          have hl := five_below hl zl hb
          have zl := Nat.lt_of_lt_of_le zl hb.size
          have hB := hB.trans ((hb).mono hB.size)
          clear hb
          obtain ⟨lq0, lq1, lq2, lq3, lq4⟩ := id hl
          obtain ⟨kq0, kq1, kq2, kq3, kq4⟩ := id hk
          go_wp2_with fail
          clear lq0 lq1 lq2 lq3 lq4 kq0 kq1 kq2 kq3 kq4
          refine (clk _).mono ?_
          rintro e w52 ⟨rfl, hb⟩
          have hk := five_below hk zk hb
          have zk := Nat.lt_of_lt_of_le zk hb.size
          have hm := five_below hm zm hb
          have zm := Nat.lt_of_lt_of_le zm hb.size
          have hr := five_below hr zr hb
          have zr := Nat.lt_of_lt_of_le zr hb.size
          have hl := five_below hl zl hb
          have zl := Nat.lt_of_lt_of_le zl hb.size
          have hB := hB.trans ((hb).mono hB.size)
          clear hb
          go_wp2_with fail
          go_ret
          exact ⟨rfl, hB⟩
      · clear HL
        obtain ⟨kq0, kq1, kq2, kq3, kq4⟩ := id hk
        obtain ⟨mq0, mq1, mq2, mq3, mq4⟩ := id hm
        go_wp2_with fail
        clear kq0 kq1 kq2 kq3 kq4 mq0 mq1 mq2 mq3 mq4
        refine (awake_any _ (tab_below HT.out hB)).mono ?_
        rintro e w50 ⟨rfl, hb⟩
        have hk := five_below hk zk hb
        have zk := Nat.lt_of_lt_of_le zk hb.size
        have hm := five_below hm zm hb
        have zm := Nat.lt_of_lt_of_le zm hb.size
        have hr := five_below hr zr hb
        have zr := Nat.lt_of_lt_of_le zr hb.size
        have hl := five_below hl zl hb
        have zl := Nat.lt_of_lt_of_le zl hb.size
        have hB := hB.trans ((hb).mono hB.size)
        clear hb
        obtain ⟨kq0, kq1, kq2, kq3, kq4⟩ := id hk
        obtain ⟨rq0, rq1, rq2, rq3, rq4⟩ := id hr
        go_wp2_with fail
        clear kq0 kq1 kq2 kq3 kq4 rq0 rq1 rq2 rq3 rq4
        refine (ckr _).mono ?_
        rintro e w51 ⟨rfl, hb⟩
        have hk := five_below hk zk hb
        have zk := Nat.lt_of_lt_of_le zk hb.size
        have hm := five_below hm zm hb
        have zm := Nat.lt_of_lt_of_le zm hb.size
        have hr := five_below hr zr hb
        have zr := Nat.lt_of_lt_of_le zr hb.size
        have hl := five_below hl zl hb
        have zl := Nat.lt_of_lt_of_le zl hb.size
        have hB := hB.trans ((hb).mono hB.size)
        clear hb
        obtain ⟨lq0, lq1, lq2, lq3, lq4⟩ := id hl
        obtain ⟨kq0, kq1, kq2, kq3, kq4⟩ := id hk
        go_wp2_with fail
        clear lq0 lq1 lq2 lq3 lq4 kq0 kq1 kq2 kq3 kq4
        refine (clk _).mono ?_
        rintro e w52 ⟨rfl, hb⟩
        have hk := five_below hk zk hb
        have zk := Nat.lt_of_lt_of_le zk hb.size
        have hm := five_below hm zm hb
        have zm := Nat.lt_of_lt_of_le zm hb.size
        have hr := five_below hr zr hb
        have zr := Nat.lt_of_lt_of_le zr hb.size
        have hl := five_below hl zl hb
        have zl := Nat.lt_of_lt_of_le zl hb.size
        have hB := hB.trans ((hb).mono hB.size)
        clear hb
        go_wp2_with fail
        go_ret
        exact ⟨rfl, hB⟩

set_option maxRecDepth 100000 in
theorem lifted (os : Os) (started : os.Started) (H : Type) (enc : TypeId × Value → H) :
    ReturnsInHanded {} Tryd.checked os 9 .any (fun w args => (Rows.versionZoneSpec.pre enc Tryd.prog Tryd.f9 [] false w args ∧ laidMetH Tryd.prog Rows.versionZoneRow.laid w) ∧ sizedMet enc Tryd.prog Tryd.f9 (OpenSpec.ofChange Rows.versionZoneSpec) false w args) (Rows.versionZoneSpec.post enc Tryd.prog Tryd.f9 false true false false) := by
  refine returnsInHanded_of_change_and (C := Tryd.checked) (X := fun w _ => laidMetH Tryd.prog Rows.versionZoneRow.laid w) (fun _ _ _ hh h => h.of_heap hh) own started (by kernel_rfl) Tryd.func9
    (ChangeSpec.witness_shaped (enc := enc) (C := Tryd.checked) (os := os) (X := fun w _ => laidMetH Tryd.prog Rows.versionZoneRow.laid w) false (World.doorLaid Tryd.prog 400 os) #[.slice none 0 0] 8 rfl (World.shaped_of_RefB (by kernel_rfl) (by kernel_rfl)) (by kernel_rfl) (by kernel_rfl) (by kernel_rfl)
      (laidMetH_of_parts3 (fuel := 8) (laidMet_of_run' 8 (by kernel_rfl) (by kernel_rfl)) (by kernel_rfl) (by kernel_rfl))) ?_
  intro W base args ds gs before hval0 hW _ _ hL _
  have hval : ∀ (j : Nat) t v, Tryd.f9.params[j]? = some t → args[j]? = some v → Value.okWide Tryd.prog W .any base t v := hval0
  have hW' := hW
  obtain ⟨p, q, hA0, hV, rfl, hfz, hnd⟩ := hW
  have hA : DataW.TrodAll enc Tryd.prog W 0 (fun _ => true) true Tryd.f9.params.toList args.toList ds p := hA0
  rw [Tryd.params9] at hA hval
  obtain ⟨v0, vs0, d0, ds0, p0, q0, hargs, rfl, rfl, h0, r0⟩ := trodAll_cons hA
  obtain ⟨rfl, rfl, rfl⟩ := trodAll_nil r0
  obtain rfl : args = #[v0] := by cases args; simp_all
  obtain ⟨rfl, rfl⟩ := trodVars_none hV
  obtain ⟨a0, len0, cap0, rfl⟩ := okWide_slice Tryd.underlying34 (hval 0 34 v0 rfl rfl)
  have k0 := h0
  have lt0 : ∀ x ∈ p0, x.block < W.heap.size := by obtain ⟨m, hm⟩ := k0; exact DataW.trod_lt m _ _ _ hm
  obtain ⟨z0, w0⟩ : ∃ zs, IsRow .i64 W a0 len0 cap0 zs := by
    obtain ⟨fuel, hf⟩ := h0
    rcases open_ints Tryd.underlying34 Tryd.underlying3 (by kernel_rfl) hf with ⟨hcs, _⟩ | ⟨x, l, c, zs, hcs, _, hl, hm, hz, _, hcell, hwz⟩
    · simp [Value.cells] at hcs
      obtain ⟨rfl, rfl, rfl⟩ := hcs
      exact ⟨[], .inl ⟨rfl, rfl, rfl, rfl⟩⟩
    · simp [Value.cells] at hcs
      obtain ⟨rfl, rfl, rfl⟩ := hcs
      exact ⟨zs, .inr ⟨_, rfl, hl, hm, by simpa using hz, hcell, hwz⟩⟩
  clear hA0 hval0
  refine (walk a0 len0 cap0 z0 W w0 (tab_of hL (by kernel_rfl) (MakeChecks.laidMetH_plain _ _ _ (by kernel_rfl)))).mono fun e W' ⟨he, bel⟩ => ?_
  subst he
  exact ⟨_, rfl, _, _, _, [], _, [], hW', trodAll_mk1 (shut_bool Tryd.underlying4 _), (trodAll_cons_mk (Below.trod laidOut (by kernel_rfl) (of_decide_eq_true (by kernel_rfl)) k0 bel lt0) trodAll_mk0), rfl, bel.frame _, fun h => by cases h⟩

theorem over : Rows.versionZoneRow.holds Tryd.pinned (OpenSpec.ofChange Rows.versionZoneSpec) :=
  OpenClaim.holds_of_wide 9 Tryd.f9 rfl rfl rfl rfl rfl rfl rfl ⟨rfl, rfl, rfl, rfl, rfl⟩ rfl rfl rfl rfl rfl (by kernel_rfl) Tryd.func9 (by kernel_rfl)
    (of_decide_eq_true (by kernel_rfl)) (by unfold Func.isWrapper; first | (rw [if_pos (by decide +kernel)]; kernel_rfl) | (rw [if_neg (by decide +kernel)]; exact ⟨rfl, rfl⟩))
    (fun os started H enc _ => lifted os started H enc)

theorem proved : Rows.VersionZoneSaid := over
theorem plain (f : FuncId) (fn : Func) (hf : Tryd.pinned.checked.prog.funcNamed "linchpin/linchpinlaw2.VersionZone" = some f) (hfn : Tryd.pinned.checked.prog.funcs[f]? = some fn) :
    false = Tryd.pinned.checked.prog.looks [] ∧ ∀ (j : Nat) t, fn.params[j]? = some t → Tryd.pinned.checked.prog.wantsStandIn t = false := by
  obtain rfl : f = 9 := Option.some.inj ((show Tryd.prog.funcNamed "linchpin/linchpinlaw2.VersionZone" = some 9 by kernel_rfl).symm.trans hf) |>.symm
  obtain rfl : fn = Tryd.f9 := (Option.some.inj (Tryd.func9.symm.trans hfn)).symm
  refine ⟨by kernel_rfl, fun j t ht => ?_⟩
  rw [Tryd.params9] at ht
  have hm : t ∈ [34] := by simpa using Array.mem_of_getElem? ht
  have hall : ([34].all fun u => !Tryd.prog.wantsStandIn u) = true := by kernel_rfl
  exact (show Tryd.prog.wantsStandIn t = false by simpa using List.all_eq_true.1 hall t hm)

theorem card : Rows.VersionZoneCardSaid :=
  Claim7.holds_tied_plain_at .later [] _ _ _ _ proved (fun _ h => by cases h) (by kernel_rfl) (fun _ h => by cases h) versionZone_row_tie rfl ⟨rfl, rfl⟩ (by kernel_rfl) rfl plain (by kernel_rfl)
#print axioms card
end Go.Proofs.YtabcpbmnemfnbaaDoor.versionZone
