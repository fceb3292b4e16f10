/-
  VersionNext: Next returns a release that is greater than the version, and no release lies between them; if it returns false, no release is greater. Conditions: strconv's and math/bits' tables start as the program's text lays them (the card ties them).
-/
import Derived.Test.YtabcpbmnemfnbaaDoorRows
import Derived.Test.YtabcpbmnemfnbaaDoorVRel
import Derived.Test.YtabcpbmnemfnbaaDoorCards
import Derived.Test.YtabcpbmnemfnbaaDoorTie
import Derived.Test.YtabcpbmnemfnbaaDoorTab
import Derived.LaidMore
import Derived.MakeChecks
import Derived.SevenTiedAt
import Derived.Stop.Joined
import Derived.WalkKit
import Derived.ProofKit
import Derived.OpenShut
import Derived.ShutString
import Derived.ChangeOld
import Derived.Below
namespace Go.Proofs.YtabcpbmnemfnbaaDoor.versionNext
open Go.ChangeShapes Go.WideShapes Go.ChangeAt Go.RowKit
open Go.ChangeMaps (open_string shut_string)
set_option linter.unusedVariables false

theorem own : ownKnob Tryd.prog.godebug = none := by kernel_rfl
theorem laidOut : laidOutB Tryd.prog = true := by kernel_rfl

def IsRow (k : IntKind) (w : World) (a : Option Addr) (len cap : Nat) (zs : List Int) : Prop :=
  (a = none ∧ len = 0 ∧ cap = 0 ∧ zs = []) ∨
  ∃ x, a = some x ∧ len ≤ cap ∧ cap ≤ maxLen ∧ zs.length = cap ∧ (∀ i, i < zs.length → w.cell? (x.add i) = some (.int k (zs.getD i 0))) ∧ ∀ n ∈ zs, (Lit.int k n).wf = true

set_option maxHeartbeats 8000000 in
theorem walk (a0 : Option Addr) (len0 cap0 : Nat) (z0 : List Int) (w : World) (w0 : IsRow .i64 w a0 len0 cap0 z0) (hT : Tab w) :
    Calls Tryd.prog 8 #[.slice a0 len0 cap0] w fun e w' => e = .returned (.bool true) ∧ Below w.heap.size w w' := by
  have HT := Lib.hid hT
  clear hT
  obtain ⟨hrd, hml, hwf, hlen⟩ := row_rd w0
  generalize z0.take len0 = l at *
  subst hlen
  clear w0
  obtain ⟨k0, k1, k2, k3, k4, rk, fk, sk, tk, ck⟩ := ver_fam a0 cap0 w.heap.size l 0 hml hwf (by omega) (by omega)
  obtain ⟨m0, m1, m2, fm, cm⟩ := release_fam a0 cap0 w.heap.size l 5 hml hwf (by omega) (by omega)
  have HRD := Lib.hid hrd
  clear hrd hwf
  have cnx := fun W => next_any k0 k1 k2 k3 k4 W (by omega) (by omega)
  cases hv : nextV (verS k0 k1 k2 k3 k4) with
  | none =>
    obtain ⟨h1, h2⟩ := next_none fk hv
    obtain ⟨⟨x0, x1⟩, ⟨y0, y1⟩, ⟨z0, z1⟩, _, _⟩ := fam_bd fm
    have cmk := fam_comp fm fk (by decide) (by decide) sk tk
    have hX : intsI (keyV (verS m0 m1 m2 ⟨#[]⟩ ⟨#[]⟩) 10) (keyV (verS k0 k1 k2 k3 k4) rk) ≤ 0 := by
      have hle : (keyV (verS m0 m1 m2 ⟨#[]⟩ ⟨#[]⟩) 10) ≤ (keyV (verS k0 k1 k2 k3 k4) rk) := by
        rw [key_num, key_num, h1, h2]
        unfold numK
        simp only [verS] at x0 x1 y0 y1 z0 z1 ⊢
        omega
      rcases ints_cases (keyV (verS m0 m1 m2 ⟨#[]⟩ ⟨#[]⟩) 10) (keyV (verS k0 k1 k2 k3 k4) rk) with ⟨h, _⟩ | ⟨h, _⟩ | ⟨h, k⟩ <;> omega
    generalize intsI (keyV (verS m0 m1 m2 ⟨#[]⟩ ⟨#[]⟩) 10) (keyV (verS k0 k1 k2 k3 k4) rk) = X at *
    rw [hv] at cnx
    dsimp only [bumpVal] at cnx
    clear hv fk fm h1 h2 x0 x1 y0 y1 z0 z1
    go_enter Tryd.func8, Tryd.ntmps8
    go_wp2_with fail
    refine (ck _ HRD.out (Nat.le_refl _)).mono ?_
    rintro e w0 ⟨rfl, hb⟩
    have hB := hb
    clear hb
    go_wp2_with fail
    refine (cm _ (rd_below HRD.out hB) hB.size).mono ?_
    rintro e w1 ⟨rfl, hb⟩
    have hB := hB.trans ((hb).mono hB.size)
    clear hb
    go_wp2_with fail
    have hk := (room_new w1 (.int .i64 k0) (.int .i64 k1) (.int .i64 k2) (.string k3) (.string k4) 24).1
    have zk : w1.heap.size < (w1.alloc (.cells #[.int .i64 k0, .int .i64 k1, .int .i64 k2, .string k3, .string k4] 24)).heap.size := by simp
    have hB := hB.trans ((box_below w1 (.cells #[.int .i64 k0, .int .i64 k1, .int .i64 k2, .string k3, .string k4] 24)).mono hB.size)
    have q1 : (w1.alloc (.cells #[.int .i64 k0, .int .i64 k1, .int .i64 k2, .string k3, .string k4] 24)).heap.size = w1.heap.size + 1 := by simp
    generalize w1.alloc (.cells #[.int .i64 k0, .int .i64 k1, .int .i64 k2, .string k3, .string k4] 24) = W2 at *
    have hk := five_below hk zk (box_below W2 (.cells #[.int .i64 m0, .int .i64 m1, .int .i64 m2, .string ⟨#[]⟩, .string ⟨#[]⟩] 24))
    have zk := Nat.lt_of_lt_of_le zk (box_below W2 (.cells #[.int .i64 m0, .int .i64 m1, .int .i64 m2, .string ⟨#[]⟩, .string ⟨#[]⟩] 24)).size
    have hm := (room_new W2 (.int .i64 m0) (.int .i64 m1) (.int .i64 m2) (.string ⟨#[]⟩) (.string ⟨#[]⟩) 24).1
    have zm : W2.heap.size < (W2.alloc (.cells #[.int .i64 m0, .int .i64 m1, .int .i64 m2, .string ⟨#[]⟩, .string ⟨#[]⟩] 24)).heap.size := by simp
    have hB := hB.trans ((box_below W2 (.cells #[.int .i64 m0, .int .i64 m1, .int .i64 m2, .string ⟨#[]⟩, .string ⟨#[]⟩] 24)).mono hB.size)
    have q2 : (W2.alloc (.cells #[.int .i64 m0, .int .i64 m1, .int .i64 m2, .string ⟨#[]⟩, .string ⟨#[]⟩] 24)).heap.size = W2.heap.size + 1 := by simp
    generalize W2.alloc (.cells #[.int .i64 m0, .int .i64 m1, .int .i64 m2, .string ⟨#[]⟩, .string ⟨#[]⟩] 24) = W3 at *
    rw [q1] at hm zm
    clear q1 q2
    refine (cnx _).mono ?_
    rintro e w4 ⟨rfl, hb⟩
    have hk := five_below hk zk hb
    have zk := Nat.lt_of_lt_of_le zk hb.size
    have hm := five_below hm zm hb
    have zm := Nat.lt_of_lt_of_le zm hb.size
    have hB := hB.trans ((hb).mono hB.size)
    clear hb
    go_wp2_with fail
    have hk := five_below hk zk (box_below w4 (.cells #[.int .i64 0, .int .i64 0, .int .i64 0, .string ⟨#[]⟩, .string ⟨#[]⟩] 24))
    have zk := Nat.lt_of_lt_of_le zk (box_below w4 (.cells #[.int .i64 0, .int .i64 0, .int .i64 0, .string ⟨#[]⟩, .string ⟨#[]⟩] 24)).size
    have hm := five_below hm zm (box_below w4 (.cells #[.int .i64 0, .int .i64 0, .int .i64 0, .string ⟨#[]⟩, .string ⟨#[]⟩] 24))
    have zm := Nat.lt_of_lt_of_le zm (box_below w4 (.cells #[.int .i64 0, .int .i64 0, .int .i64 0, .string ⟨#[]⟩, .string ⟨#[]⟩] 24)).size
    have hn := (room_new w4 (.int .i64 0) (.int .i64 0) (.int .i64 0) (.string ⟨#[]⟩) (.string ⟨#[]⟩) 24).1
    have zn : w4.heap.size < (w4.alloc (.cells #[.int .i64 0, .int .i64 0, .int .i64 0, .string ⟨#[]⟩, .string ⟨#[]⟩] 24)).heap.size := by simp
    have hB := hB.trans ((box_below w4 (.cells #[.int .i64 0, .int .i64 0, .int .i64 0, .string ⟨#[]⟩, .string ⟨#[]⟩] 24)).mono hB.size)
    generalize w4.alloc (.cells #[.int .i64 0, .int .i64 0, .int .i64 0, .string ⟨#[]⟩, .string ⟨#[]⟩] 24) = W5 at *
    refine (awake_any _ (tab_below HT.out hB)).mono ?_
    rintro e w6 ⟨rfl, hb⟩
    have hk := five_below hk zk hb
    have zk := Nat.lt_of_lt_of_le zk hb.size
    have hm := five_below hm zm hb
    have zm := Nat.lt_of_lt_of_le zm hb.size
    have hn := five_below hn zn hb
    have zn := Nat.lt_of_lt_of_le zn hb.size
    have hB := hB.trans ((hb).mono hB.size)
    clear hb
    obtain ⟨k0, k1, k2, k3, k4⟩ := id hk
    obtain ⟨m0, m1, m2, m3, m4⟩ := id hm
    go_wp2_with fail
    clear k0 k1 k2 k3 k4 m0 m1 m2 m3 m4
    refine (cmk _).mono ?_
    rintro e w7 ⟨rfl, hb⟩
    have hk := five_below hk zk hb
    have zk := Nat.lt_of_lt_of_le zk hb.size
    have hm := five_below hm zm hb
    have zm := Nat.lt_of_lt_of_le zm hb.size
    have hn := five_below hn zn hb
    have zn := Nat.lt_of_lt_of_le zn hb.size
    have hB := hB.trans ((hb).mono hB.size)
    clear hb
    go_wp2_with fail
    go_ret
    exact ⟨rfl, hB⟩
  | some u =>
    obtain ⟨n0, n1, n2, n3, n4⟩ := u
    obtain ⟨h1, h2, fn, e1, e2⟩ := next_some fk hv
    dsimp only at h1 h2
    subst h1 h2
    have fn : Fam (verS n0 n1 n2 ⟨#[]⟩ ⟨#[]⟩) 10 := fn
    have ckn := fam_comp fk fn sk tk (by decide) (by decide)
    have ckm := fam_comp fk fm sk tk (by decide) (by decide)
    have cnm := fam_comp fn fm (by decide) (by decide) (by decide) (by decide)
    obtain ⟨_, _, _, r0, r1⟩ := fam_bd fk
    have HK : (keyV (verS k0 k1 k2 k3 k4) rk) < (keyV (verS n0 n1 n2 ⟨#[]⟩ ⟨#[]⟩) 10) ∧ ((keyV (verS k0 k1 k2 k3 k4) rk) < (keyV (verS m0 m1 m2 ⟨#[]⟩ ⟨#[]⟩) 10) ↔ (keyV (verS n0 n1 n2 ⟨#[]⟩ ⟨#[]⟩) 10) ≤ (keyV (verS m0 m1 m2 ⟨#[]⟩ ⟨#[]⟩) 10)) := by
      rw [key_num, key_num, key_num]
      have e3 : rk = 10 → numK (verS n0 n1 n2 ⟨#[]⟩ ⟨#[]⟩) = numK (verS k0 k1 k2 k3 k4) + 1 := e1
      have e4 : rk ≠ 10 → numK (verS n0 n1 n2 ⟨#[]⟩ ⟨#[]⟩) = numK (verS k0 k1 k2 k3 k4) := e2
      by_cases hr : rk = 10
      · have := e3 hr; omega
      · have := e4 hr; omega
    rw [ints_lt HK.1] at ckn
    have HB : ((intsI (keyV (verS k0 k1 k2 k3 k4) rk) (keyV (verS m0 m1 m2 ⟨#[]⟩ ⟨#[]⟩) 10) == -1) = true ∧ decide (intsI (keyV (verS n0 n1 n2 ⟨#[]⟩ ⟨#[]⟩) 10) (keyV (verS m0 m1 m2 ⟨#[]⟩ ⟨#[]⟩) 10) ≤ 0) = true) ∨ ((intsI (keyV (verS k0 k1 k2 k3 k4) rk) (keyV (verS m0 m1 m2 ⟨#[]⟩ ⟨#[]⟩) 10) == -1) = false ∧ decide (intsI (keyV (verS n0 n1 n2 ⟨#[]⟩ ⟨#[]⟩) 10) (keyV (verS m0 m1 m2 ⟨#[]⟩ ⟨#[]⟩) 10) ≤ 0) = false) := by
      have h4 := HK.2
      rcases ints_cases (keyV (verS k0 k1 k2 k3 k4) rk) (keyV (verS m0 m1 m2 ⟨#[]⟩ ⟨#[]⟩) 10) with ⟨g, k⟩ | ⟨g, k⟩ | ⟨g, k⟩ <;> rcases ints_cases (keyV (verS n0 n1 n2 ⟨#[]⟩ ⟨#[]⟩) 10) (keyV (verS m0 m1 m2 ⟨#[]⟩ ⟨#[]⟩) 10) with ⟨g', k'⟩ | ⟨g', k'⟩ | ⟨g', k'⟩ <;> rw [g, g'] <;> first | (exfalso; omega) | (left; decide) | (right; decide)
    generalize intsI (keyV (verS k0 k1 k2 k3 k4) rk) (keyV (verS m0 m1 m2 ⟨#[]⟩ ⟨#[]⟩) 10) = X at *
    generalize intsI (keyV (verS n0 n1 n2 ⟨#[]⟩ ⟨#[]⟩) 10) (keyV (verS m0 m1 m2 ⟨#[]⟩ ⟨#[]⟩) 10) = Y at *
    rw [hv] at cnx
    dsimp only [bumpVal] at cnx
    clear hv fk fm fn e1 e2 HK r0 r1
    rcases HB with ⟨hb1, hb2⟩ | ⟨hb1, hb2⟩
    all_goals
      go_enter Tryd.func8, Tryd.ntmps8
      go_wp2_with fail
      refine (ck _ HRD.out (Nat.le_refl _)).mono ?_
      rintro e w0 ⟨rfl, hb⟩
      have hB := hb
      clear hb
      go_wp2_with fail
      refine (cm _ (rd_below HRD.out hB) hB.size).mono ?_
      rintro e w1 ⟨rfl, hb⟩
      have hB := hB.trans ((hb).mono hB.size)
      clear hb
      go_wp2_with fail
      have hk := (room_new w1 (.int .i64 k0) (.int .i64 k1) (.int .i64 k2) (.string k3) (.string k4) 24).1
      have zk : w1.heap.size < (w1.alloc (.cells #[.int .i64 k0, .int .i64 k1, .int .i64 k2, .string k3, .string k4] 24)).heap.size := by simp
      have hB := hB.trans ((box_below w1 (.cells #[.int .i64 k0, .int .i64 k1, .int .i64 k2, .string k3, .string k4] 24)).mono hB.size)
      have q1 : (w1.alloc (.cells #[.int .i64 k0, .int .i64 k1, .int .i64 k2, .string k3, .string k4] 24)).heap.size = w1.heap.size + 1 := by simp
      generalize w1.alloc (.cells #[.int .i64 k0, .int .i64 k1, .int .i64 k2, .string k3, .string k4] 24) = W2 at *
      have hk := five_below hk zk (box_below W2 (.cells #[.int .i64 m0, .int .i64 m1, .int .i64 m2, .string ⟨#[]⟩, .string ⟨#[]⟩] 24))
      have zk := Nat.lt_of_lt_of_le zk (box_below W2 (.cells #[.int .i64 m0, .int .i64 m1, .int .i64 m2, .string ⟨#[]⟩, .string ⟨#[]⟩] 24)).size
      have hm := (room_new W2 (.int .i64 m0) (.int .i64 m1) (.int .i64 m2) (.string ⟨#[]⟩) (.string ⟨#[]⟩) 24).1
      have zm : W2.heap.size < (W2.alloc (.cells #[.int .i64 m0, .int .i64 m1, .int .i64 m2, .string ⟨#[]⟩, .string ⟨#[]⟩] 24)).heap.size := by simp
      have hB := hB.trans ((box_below W2 (.cells #[.int .i64 m0, .int .i64 m1, .int .i64 m2, .string ⟨#[]⟩, .string ⟨#[]⟩] 24)).mono hB.size)
      have q2 : (W2.alloc (.cells #[.int .i64 m0, .int .i64 m1, .int .i64 m2, .string ⟨#[]⟩, .string ⟨#[]⟩] 24)).heap.size = W2.heap.size + 1 := by simp
      generalize W2.alloc (.cells #[.int .i64 m0, .int .i64 m1, .int .i64 m2, .string ⟨#[]⟩, .string ⟨#[]⟩] 24) = W3 at *
      rw [q1] at hm zm
      clear q1 q2
      refine (cnx _).mono ?_
      rintro e w4 ⟨rfl, hb⟩
      have hk := five_below hk zk hb
      have zk := Nat.lt_of_lt_of_le zk hb.size
      have hm := five_below hm zm hb
      have zm := Nat.lt_of_lt_of_le zm hb.size
      have hB := hB.trans ((hb).mono hB.size)
      clear hb
      go_wp2_with fail
      have hk := five_below hk zk (box_below w4 (.cells #[.int .i64 n0, .int .i64 n1, .int .i64 n2, .string ⟨#[]⟩, .string ⟨#[]⟩] 24))
      have zk := Nat.lt_of_lt_of_le zk (box_below w4 (.cells #[.int .i64 n0, .int .i64 n1, .int .i64 n2, .string ⟨#[]⟩, .string ⟨#[]⟩] 24)).size
      have hm := five_below hm zm (box_below w4 (.cells #[.int .i64 n0, .int .i64 n1, .int .i64 n2, .string ⟨#[]⟩, .string ⟨#[]⟩] 24))
      have zm := Nat.lt_of_lt_of_le zm (box_below w4 (.cells #[.int .i64 n0, .int .i64 n1, .int .i64 n2, .string ⟨#[]⟩, .string ⟨#[]⟩] 24)).size
      have hn := (room_new w4 (.int .i64 n0) (.int .i64 n1) (.int .i64 n2) (.string ⟨#[]⟩) (.string ⟨#[]⟩) 24).1
      have zn : w4.heap.size < (w4.alloc (.cells #[.int .i64 n0, .int .i64 n1, .int .i64 n2, .string ⟨#[]⟩, .string ⟨#[]⟩] 24)).heap.size := by simp
      have hB := hB.trans ((box_below w4 (.cells #[.int .i64 n0, .int .i64 n1, .int .i64 n2, .string ⟨#[]⟩, .string ⟨#[]⟩] 24)).mono hB.size)
      generalize w4.alloc (.cells #[.int .i64 n0, .int .i64 n1, .int .i64 n2, .string ⟨#[]⟩, .string ⟨#[]⟩] 24) = W5 at *
      have hS := start3 hk hm hn zk zm zn hB
      clear ck cm cnx hk hm hn zk zm zn
      go_region_held3 (fun W => W.cell? ⟨w1.heap.size, 0, none⟩ = some (.int .i64 k0) ∧ W.cell? ⟨w1.heap.size, 1, none⟩ = some (.int .i64 k1) ∧ W.cell? ⟨w1.heap.size, 2, none⟩ = some (.int .i64 k2) ∧ W.cell? ⟨w1.heap.size, 3, none⟩ = some (.string k3) ∧ W.cell? ⟨w1.heap.size, 4, none⟩ = some (.string k4) ∧ W.cell? ⟨w1.heap.size + 1, 0, none⟩ = some (.int .i64 m0) ∧ W.cell? ⟨w1.heap.size + 1, 1, none⟩ = some (.int .i64 m1) ∧ W.cell? ⟨w1.heap.size + 1, 2, none⟩ = some (.int .i64 m2) ∧ W.cell? ⟨w1.heap.size + 1, 3, none⟩ = some (.string ⟨#[]⟩) ∧ W.cell? ⟨w1.heap.size + 1, 4, none⟩ = some (.string ⟨#[]⟩) ∧ W.cell? ⟨w4.heap.size, 0, none⟩ = some (.int .i64 n0) ∧ W.cell? ⟨w4.heap.size, 1, none⟩ = some (.int .i64 n1) ∧ W.cell? ⟨w4.heap.size, 2, none⟩ = some (.int .i64 n2) ∧ W.cell? ⟨w4.heap.size, 3, none⟩ = some (.string ⟨#[]⟩) ∧ W.cell? ⟨w4.heap.size, 4, none⟩ = some (.string ⟨#[]⟩) ∧ w1.heap.size < W.heap.size ∧ w1.heap.size + 1 < W.heap.size ∧ w4.heap.size < W.heap.size ∧ Below w.heap.size w W)
          (first | ((refine keep3 hb' ?_; assumption)) | assumption | ((refine ⟨?_, ?_, ?_, ?_, ?_, ?_, ?_, ?_, ?_, ?_, ?_, ?_, ?_, ?_, ?_, ?_, ?_, ?_, ?_⟩ <;> first | assumption | (simp; assumption))))
          (first | (go_at_call 13; refine (awake_any _ (tab_below HT.out ?_)).mono ?_; (first | assumption | (apply bel3; assumption)); rintro e w' ⟨rfl, hb'⟩) | (go_at_call 20; (with_reducible refine (ckn _).mono ?_); rintro e w' ⟨rfl, hb'⟩) | (go_at_call 20; (with_reducible refine (ckm _).mono ?_); rintro e w' ⟨rfl, hb'⟩) | (go_at_call 20; (with_reducible refine (cnm _).mono ?_); rintro e w' ⟨rfl, hb'⟩))
      all_goals
        go_wp2_with fail
        go_ret
        exact ⟨rfl, bel3 (by assumption)⟩

set_option maxRecDepth 100000 in
theorem lifted (os : Os) (started : os.Started) (H : Type) (enc : TypeId × Value → H) :
    ReturnsInHanded {} Tryd.checked os 8 .any (fun w args => (Rows.versionNextSpec.pre enc Tryd.prog Tryd.f8 [] false w args ∧ laidMetH Tryd.prog Rows.versionNextRow.laid w) ∧ sizedMet enc Tryd.prog Tryd.f8 (OpenSpec.ofChange Rows.versionNextSpec) false w args) (Rows.versionNextSpec.post enc Tryd.prog Tryd.f8 false true false false) := by
  refine returnsInHanded_of_change_and (C := Tryd.checked) (X := fun w _ => laidMetH Tryd.prog Rows.versionNextRow.laid w) (fun _ _ _ hh h => h.of_heap hh) own started (by kernel_rfl) Tryd.func8
    (ChangeSpec.witness_shaped (enc := enc) (C := Tryd.checked) (os := os) (X := fun w _ => laidMetH Tryd.prog Rows.versionNextRow.laid w) false (World.doorLaid Tryd.prog 400 os) #[.slice none 0 0] 8 rfl (World.shaped_of_RefB (by kernel_rfl) (by kernel_rfl)) (by kernel_rfl) (by kernel_rfl) (by kernel_rfl)
      (laidMetH_of_parts3 (fuel := 8) (laidMet_of_run' 8 (by kernel_rfl) (by kernel_rfl)) (by kernel_rfl) (by kernel_rfl))) ?_
  intro W base args ds gs before hval0 hW _ _ hL _
  have hval : ∀ (j : Nat) t v, Tryd.f8.params[j]? = some t → args[j]? = some v → Value.okWide Tryd.prog W .any base t v := hval0
  have hW' := hW
  obtain ⟨p, q, hA0, hV, rfl, hfz, hnd⟩ := hW
  have hA : DataW.TrodAll enc Tryd.prog W 0 (fun _ => true) true Tryd.f8.params.toList args.toList ds p := hA0
  rw [Tryd.params8] at hA hval
  obtain ⟨v0, vs0, d0, ds0, p0, q0, hargs, rfl, rfl, h0, r0⟩ := trodAll_cons hA
  obtain ⟨rfl, rfl, rfl⟩ := trodAll_nil r0
  obtain rfl : args = #[v0] := by cases args; simp_all
  obtain ⟨rfl, rfl⟩ := trodVars_none hV
  obtain ⟨a0, len0, cap0, rfl⟩ := okWide_slice Tryd.underlying34 (hval 0 34 v0 rfl rfl)
  have k0 := h0
  have lt0 : ∀ x ∈ p0, x.block < W.heap.size := by obtain ⟨m, hm⟩ := k0; exact DataW.trod_lt m _ _ _ hm
  obtain ⟨z0, w0⟩ : ∃ zs, IsRow .i64 W a0 len0 cap0 zs := by
    obtain ⟨fuel, hf⟩ := h0
    rcases open_ints Tryd.underlying34 Tryd.underlying3 (by kernel_rfl) hf with ⟨hcs, _⟩ | ⟨x, l, c, zs, hcs, _, hl, hm, hz, _, hcell, hwz⟩
    · simp [Value.cells] at hcs
      obtain ⟨rfl, rfl, rfl⟩ := hcs
      exact ⟨[], .inl ⟨rfl, rfl, rfl, rfl⟩⟩
    · simp [Value.cells] at hcs
      obtain ⟨rfl, rfl, rfl⟩ := hcs
      exact ⟨zs, .inr ⟨_, rfl, hl, hm, by simpa using hz, hcell, hwz⟩⟩
  clear hA0 hval0
  refine (walk a0 len0 cap0 z0 W w0 (tab_of hL (by kernel_rfl) (MakeChecks.laidMetH_plain _ _ _ (by kernel_rfl)))).mono fun e W' ⟨he, bel⟩ => ?_
  subst he
  exact ⟨_, rfl, _, _, _, [], _, [], hW', trodAll_mk1 (shut_bool Tryd.underlying4 _), (trodAll_cons_mk (Below.trod laidOut (by kernel_rfl) (of_decide_eq_true (by kernel_rfl)) k0 bel lt0) trodAll_mk0), rfl, bel.frame _, fun h => by cases h⟩

theorem over : Rows.versionNextRow.holds Tryd.pinned (OpenSpec.ofChange Rows.versionNextSpec) :=
  OpenClaim.holds_of_wide 8 Tryd.f8 rfl rfl rfl rfl rfl rfl rfl ⟨rfl, rfl, rfl, rfl, rfl⟩ rfl rfl rfl rfl rfl (by kernel_rfl) Tryd.func8 (by kernel_rfl)
    (of_decide_eq_true (by kernel_rfl)) (by unfold Func.isWrapper; first | (rw [if_pos (by decide +kernel)]; kernel_rfl) | (rw [if_neg (by decide +kernel)]; exact ⟨rfl, rfl⟩))
    (fun os started H enc _ => lifted os started H enc)

theorem proved : Rows.VersionNextSaid := over
theorem plain (f : FuncId) (fn : Func) (hf : Tryd.pinned.checked.prog.funcNamed "linchpin/linchpinlaw2.VersionNext" = some f) (hfn : Tryd.pinned.checked.prog.funcs[f]? = some fn) :
    false = Tryd.pinned.checked.prog.looks [] ∧ ∀ (j : Nat) t, fn.params[j]? = some t → Tryd.pinned.checked.prog.wantsStandIn t = false := by
  obtain rfl : f = 8 := Option.some.inj ((show Tryd.prog.funcNamed "linchpin/linchpinlaw2.VersionNext" = some 8 by kernel_rfl).symm.trans hf) |>.symm
  obtain rfl : fn = Tryd.f8 := (Option.some.inj (Tryd.func8.symm.trans hfn)).symm
  refine ⟨by kernel_rfl, fun j t ht => ?_⟩
  rw [Tryd.params8] at ht
  have hm : t ∈ [34] := by simpa using Array.mem_of_getElem? ht
  have hall : ([34].all fun u => !Tryd.prog.wantsStandIn u) = true := by kernel_rfl
  exact (show Tryd.prog.wantsStandIn t = false by simpa using List.all_eq_true.1 hall t hm)

theorem card : Rows.VersionNextCardSaid :=
  Claim7.holds_tied_plain_at .later [] _ _ _ _ proved (fun _ h => by cases h) (by kernel_rfl) (fun _ h => by cases h) versionNext_row_tie rfl ⟨rfl, rfl⟩ (by kernel_rfl) rfl plain (by kernel_rfl)
#print axioms card
end Go.Proofs.YtabcpbmnemfnbaaDoor.versionNext
