/-
  VersionOrder: on valid versions, Compare is antisymmetric and transitive, ignores Build, and returns 0 exactly for versions that are equal without Build. Conditions: strconv's and math/bits' tables start as the program's text lays them (the card ties them).
-/
import Derived.Test.YtabcpbmnemfnbaaDoorRows
import Derived.Test.YtabcpbmnemfnbaaDoorVState
import Derived.Test.YtabcpbmnemfnbaaDoorCards
import Derived.Test.YtabcpbmnemfnbaaDoorTie
import Derived.Test.YtabcpbmnemfnbaaDoorTab
import Derived.LaidMore
import Derived.MakeChecks
import Derived.SevenTiedAt
import Derived.Stop.Joined
import Derived.WalkKit
import Derived.ProofKit
import Derived.OpenShut
import Derived.ShutString
import Derived.ChangeOld
import Derived.Below
namespace Go.Proofs.YtabcpbmnemfnbaaDoor.versionOrder
open Go.ChangeShapes Go.WideShapes Go.ChangeAt Go.RowKit
open Go.ChangeMaps (open_string shut_string)
set_option linter.unusedVariables false

theorem own : ownKnob Tryd.prog.godebug = none := by kernel_rfl
theorem laidOut : laidOutB Tryd.prog = true := by kernel_rfl

def IsRow (k : IntKind) (w : World) (a : Option Addr) (len cap : Nat) (zs : List Int) : Prop :=
  (a = none ∧ len = 0 ∧ cap = 0 ∧ zs = []) ∨
  ∃ x, a = some x ∧ len ≤ cap ∧ cap ≤ maxLen ∧ zs.length = cap ∧ (∀ i, i < zs.length → w.cell? (x.add i) = some (.int k (zs.getD i 0))) ∧ ∀ n ∈ zs, (Lit.int k n).wf = true

set_option maxHeartbeats 8000000 in
set_option maxRecDepth 100000 in
theorem walk (a0 : Option Addr) (len0 cap0 : Nat) (z0 : List Int) (w : World) (w0 : IsRow .i64 w a0 len0 cap0 z0) (hT : Tab w) :
    Calls Tryd.prog 6 #[.slice a0 len0 cap0] w fun e w' => e = .returned (.bool true) ∧ Below w.heap.size w w' := by
  have HT := Lib.hid hT
  clear hT
  obtain ⟨hrd, hml, hwf, hlen⟩ := row_rd w0
  generalize z0.take len0 = l at *
  subst hlen
  clear w0
  obtain ⟨k0, k1, k2, k3, k4, rk, fk, sk, tk, ck⟩ := ver_fam a0 cap0 w.heap.size l 0 hml hwf (by omega) (by omega)
  obtain ⟨m0, m1, m2, m3, m4, rm, fm, sm, tm, cm⟩ := ver_fam a0 cap0 w.heap.size l 5 hml hwf (by omega) (by omega)
  obtain ⟨n0, n1, n2, n3, n4, rn, fn, sn, tn, cn⟩ := ver_fam a0 cap0 w.heap.size l 10 hml hwf (by omega) (by omega)
  have HRD := Lib.hid hrd
  clear hrd hwf
  have cab := fam_comp fk fm sk tk sm tm
  have cbc := fam_comp fm fn sm tm sn tn
  have cac := fam_comp fk fn sk tk sn tn
  have cba := fam_comp fm fk sm tm sk tk
  have caa := fam_comp fk fk sk tk sk tk
  have ckb := fam_comp (fam_core fk) fm sk (by decide) sm tm
  rw [show keyV (verS k0 k1 k2 k3 ⟨#[]⟩) rk = keyV (verS k0 k1 k2 k3 k4) rk from rfl] at ckb
  have hke := key_core fk fm
  have HQ : ∀ W : World, (binOp .eql 24 (.agg #[.int .i64 k0, .int .i64 k1, .int .i64 k2, .string k3, .string ⟨#[]⟩]) (.agg #[.int .i64 m0, .int .i64 m1, .int .i64 m2, .string m3, .string ⟨#[]⟩])).run Tryd.prog W = .ok (.bool (intsI (keyV (verS k0 k1 k2 k3 k4) rk) (keyV (verS m0 m1 m2 m3 m4) rm) == 0)) W := fun W => by rw [run_eqV, hke]
  rw [ints_neg (keyV (verS k0 k1 k2 k3 k4) rk) (keyV (verS m0 m1 m2 m3 m4) rm)] at cba
  rw [ints_same] at caa
  have HX := ints_cases (keyV (verS k0 k1 k2 k3 k4) rk) (keyV (verS m0 m1 m2 m3 m4) rm)
  have HY := ints_cases (keyV (verS m0 m1 m2 m3 m4) rm) (keyV (verS n0 n1 n2 n3 n4) rn)
  have HZ := ints_cases (keyV (verS k0 k1 k2 k3 k4) rk) (keyV (verS n0 n1 n2 n3 n4) rn)
  generalize (keyV (verS k0 k1 k2 k3 k4) rk) = Ka at *
  generalize (keyV (verS m0 m1 m2 m3 m4) rm) = Kb at *
  generalize (keyV (verS n0 n1 n2 n3 n4) rn) = Kc at *
  have HOR : Hid ((intsI Ka Kb = -1 ∧ intsI Kb Kc = -1 ∧ intsI Ka Kc = -1) ∨ (intsI Ka Kb = -1 ∧ intsI Kb Kc = 0 ∧ intsI Ka Kc = -1) ∨ (intsI Ka Kb = 0 ∧ intsI Kb Kc = -1 ∧ intsI Ka Kc = -1) ∨ (intsI Ka Kb = 0 ∧ intsI Kb Kc = 0 ∧ intsI Ka Kc = 0) ∨ intsI Ka Kb = 1 ∨ (intsI Ka Kb ≠ 1 ∧ intsI Kb Kc = 1)) := by
    show _ ∨ _
    rcases HX with ⟨h1, k1⟩ | ⟨h1, k1⟩ | ⟨h1, k1⟩ <;> rcases HY with ⟨h2, k2⟩ | ⟨h2, k2⟩ | ⟨h2, k2⟩ <;> rcases HZ with ⟨h3, k3⟩ | ⟨h3, k3⟩ | ⟨h3, k3⟩ <;> first | (exfalso; omega) | (rw [h1, h2, h3]; decide)
  have X1 : -1 ≤ intsI Ka Kb ∧ intsI Ka Kb ≤ 1 := by rcases HX with ⟨h, _⟩ | ⟨h, _⟩ | ⟨h, _⟩ <;> omega
  clear HX HY HZ hke fk fm fn
  generalize intsI Ka Kb = X at *
  generalize intsI Kb Kc = Y at *
  generalize intsI Ka Kc = Z at *
  obtain ⟨X1, X2⟩ := X1
  have hneg : IntKind.i64.wrap (-X) = -X := IntWalk.i64_in _ (by omega)
  go_enter Tryd.func6, Tryd.ntmps6
  go_wp2_with fail
  refine (ck _ HRD.out (Nat.le_refl _)).mono ?_
  rintro e w0 ⟨rfl, hb⟩
  have hB := hb
  clear hb
  go_wp2_with fail
  refine (cm _ (rd_below HRD.out hB) hB.size).mono ?_
  rintro e w1 ⟨rfl, hb⟩
  have hB := hB.trans ((hb).mono hB.size)
  clear hb
  go_wp2_with fail
  refine (cn _ (rd_below HRD.out hB) hB.size).mono ?_
  rintro e w2 ⟨rfl, hb⟩
  have hB := hB.trans ((hb).mono hB.size)
  clear hb
  go_wp2_with fail
  have hk := (room_new w2 (.int .i64 k0) (.int .i64 k1) (.int .i64 k2) (.string k3) (.string k4) 24).1
  have zk : w2.heap.size < (w2.alloc (.cells #[.int .i64 k0, .int .i64 k1, .int .i64 k2, .string k3, .string k4] 24)).heap.size := by simp
  have hB := hB.trans ((box_below w2 (.cells #[.int .i64 k0, .int .i64 k1, .int .i64 k2, .string k3, .string k4] 24)).mono hB.size)
  have q1 : (w2.alloc (.cells #[.int .i64 k0, .int .i64 k1, .int .i64 k2, .string k3, .string k4] 24)).heap.size = w2.heap.size + 1 := by simp
  generalize w2.alloc (.cells #[.int .i64 k0, .int .i64 k1, .int .i64 k2, .string k3, .string k4] 24) = W3 at *
  have hk := five_below hk zk (box_below W3 (.cells #[.int .i64 m0, .int .i64 m1, .int .i64 m2, .string m3, .string m4] 24))
  have zk := Nat.lt_of_lt_of_le zk (box_below W3 (.cells #[.int .i64 m0, .int .i64 m1, .int .i64 m2, .string m3, .string m4] 24)).size
  have hm := (room_new W3 (.int .i64 m0) (.int .i64 m1) (.int .i64 m2) (.string m3) (.string m4) 24).1
  have zm : W3.heap.size < (W3.alloc (.cells #[.int .i64 m0, .int .i64 m1, .int .i64 m2, .string m3, .string m4] 24)).heap.size := by simp
  have hB := hB.trans ((box_below W3 (.cells #[.int .i64 m0, .int .i64 m1, .int .i64 m2, .string m3, .string m4] 24)).mono hB.size)
  have q2 : (W3.alloc (.cells #[.int .i64 m0, .int .i64 m1, .int .i64 m2, .string m3, .string m4] 24)).heap.size = W3.heap.size + 1 := by simp
  generalize W3.alloc (.cells #[.int .i64 m0, .int .i64 m1, .int .i64 m2, .string m3, .string m4] 24) = W4 at *
  have hk := five_below hk zk (box_below W4 (.cells #[.int .i64 n0, .int .i64 n1, .int .i64 n2, .string n3, .string n4] 24))
  have zk := Nat.lt_of_lt_of_le zk (box_below W4 (.cells #[.int .i64 n0, .int .i64 n1, .int .i64 n2, .string n3, .string n4] 24)).size
  have hm := five_below hm zm (box_below W4 (.cells #[.int .i64 n0, .int .i64 n1, .int .i64 n2, .string n3, .string n4] 24))
  have zm := Nat.lt_of_lt_of_le zm (box_below W4 (.cells #[.int .i64 n0, .int .i64 n1, .int .i64 n2, .string n3, .string n4] 24)).size
  have hn := (room_new W4 (.int .i64 n0) (.int .i64 n1) (.int .i64 n2) (.string n3) (.string n4) 24).1
  have zn : W4.heap.size < (W4.alloc (.cells #[.int .i64 n0, .int .i64 n1, .int .i64 n2, .string n3, .string n4] 24)).heap.size := by simp
  have hB := hB.trans ((box_below W4 (.cells #[.int .i64 n0, .int .i64 n1, .int .i64 n2, .string n3, .string n4] 24)).mono hB.size)
  have q3 : (W4.alloc (.cells #[.int .i64 n0, .int .i64 n1, .int .i64 n2, .string n3, .string n4] 24)).heap.size = W4.heap.size + 1 := by simp
  generalize W4.alloc (.cells #[.int .i64 n0, .int .i64 n1, .int .i64 n2, .string n3, .string n4] 24) = W5 at *
  rw [q1] at hm zm
  rw [q2, q1] at hn zn
  clear q1 q2 q3
  have hS := start3 hk hm hn zk zm zn hB
  go_cut [6, 7, 8] from 16 to 24 (fun x y z wx => x = .int .i64 X ∧ y = .int .i64 Y ∧ z = .int .i64 Z ∧ St3 w wx (w2.heap.size) (.int .i64 k0) (.int .i64 k1) (.int .i64 k2) (.string k3) (.string k4) (w2.heap.size + 1) (.int .i64 m0) (.int .i64 m1) (.int .i64 m2) (.string m3) (.string m4) (w2.heap.size + 1 + 1) (.int .i64 n0) (.int .i64 n1) (.int .i64 n2) (.string n3) (.string n4))
  case first =>
    go_region_held3 (fun W => W.cell? ⟨w2.heap.size, 0, none⟩ = some (.int .i64 k0) ∧ W.cell? ⟨w2.heap.size, 1, none⟩ = some (.int .i64 k1) ∧ W.cell? ⟨w2.heap.size, 2, none⟩ = some (.int .i64 k2) ∧ W.cell? ⟨w2.heap.size, 3, none⟩ = some (.string k3) ∧ W.cell? ⟨w2.heap.size, 4, none⟩ = some (.string k4) ∧ W.cell? ⟨w2.heap.size + 1, 0, none⟩ = some (.int .i64 m0) ∧ W.cell? ⟨w2.heap.size + 1, 1, none⟩ = some (.int .i64 m1) ∧ W.cell? ⟨w2.heap.size + 1, 2, none⟩ = some (.int .i64 m2) ∧ W.cell? ⟨w2.heap.size + 1, 3, none⟩ = some (.string m3) ∧ W.cell? ⟨w2.heap.size + 1, 4, none⟩ = some (.string m4) ∧ W.cell? ⟨w2.heap.size + 1 + 1, 0, none⟩ = some (.int .i64 n0) ∧ W.cell? ⟨w2.heap.size + 1 + 1, 1, none⟩ = some (.int .i64 n1) ∧ W.cell? ⟨w2.heap.size + 1 + 1, 2, none⟩ = some (.int .i64 n2) ∧ W.cell? ⟨w2.heap.size + 1 + 1, 3, none⟩ = some (.string n3) ∧ W.cell? ⟨w2.heap.size + 1 + 1, 4, none⟩ = some (.string n4) ∧ w2.heap.size < W.heap.size ∧ w2.heap.size + 1 < W.heap.size ∧ w2.heap.size + 1 + 1 < W.heap.size ∧ Below w.heap.size w W)
        (first | ((refine keep3 hb' ?_; assumption)) | assumption | ((refine ⟨?_, ?_, ?_, ?_, ?_, ?_, ?_, ?_, ?_, ?_, ?_, ?_, ?_, ?_, ?_, ?_, ?_, ?_, ?_⟩ <;> first | assumption | (simp; assumption))))
        (first | (go_at_call 20; (with_reducible refine (cab _).mono ?_); rintro e w' ⟨rfl, hb'⟩) | (go_at_call 20; (with_reducible refine (cbc _).mono ?_); rintro e w' ⟨rfl, hb'⟩) | (go_at_call 20; (with_reducible refine (cac _).mono ?_); rintro e w' ⟨rfl, hb'⟩))
    all_goals
      go_wp2_with fail
      go_meet
      exact ⟨rfl, rfl, rfl, st3_of (by assumption)⟩
  case rest =>
    obtain ⟨rfl, rfl, rfl, hS⟩ := hcut
    clear cbc cac cab ck cm cn hk hm hn
    go_upto_region 3 with (fail)
    go_cut [9] from 25 to 45 (fun v wx => v = .bool true ∧ wx = wc)
    case first =>
      rcases HOR.out with ⟨rfl, rfl, rfl⟩ | ⟨rfl, rfl, rfl⟩ | ⟨rfl, rfl, rfl⟩ | ⟨rfl, rfl, rfl⟩ | rfl | ⟨hx, rfl⟩
      all_goals
        try have hx2 : ¬ (0 : Int) < X := by omega
        go_wp2_with fail
        go_meet
        exact ⟨rfl, rfl⟩
    case rest =>
      obtain ⟨rfl, rfl⟩ := hcut
      clear HOR
      obtain ⟨hk, hm, hn, zk, zm, zn, hB⟩ := st3_out hS
      have hS2 := start3 hk hm hn zk zm zn hB
      clear hS hk hm hn zk zm zn hB
      cases hb : (X == 0)
      · rw [hb] at HQ
        go_wp2_with fail
        go_region_held3 (fun W => W.cell? ⟨w2.heap.size, 0, none⟩ = some (.int .i64 k0) ∧ W.cell? ⟨w2.heap.size, 1, none⟩ = some (.int .i64 k1) ∧ W.cell? ⟨w2.heap.size, 2, none⟩ = some (.int .i64 k2) ∧ W.cell? ⟨w2.heap.size, 3, none⟩ = some (.string k3) ∧ W.cell? ⟨w2.heap.size, 4, none⟩ = some (.string k4) ∧ W.cell? ⟨w2.heap.size + 1, 0, none⟩ = some (.int .i64 m0) ∧ W.cell? ⟨w2.heap.size + 1, 1, none⟩ = some (.int .i64 m1) ∧ W.cell? ⟨w2.heap.size + 1, 2, none⟩ = some (.int .i64 m2) ∧ W.cell? ⟨w2.heap.size + 1, 3, none⟩ = some (.string m3) ∧ W.cell? ⟨w2.heap.size + 1, 4, none⟩ = some (.string m4) ∧ W.cell? ⟨w2.heap.size + 1 + 1, 0, none⟩ = some (.int .i64 n0) ∧ W.cell? ⟨w2.heap.size + 1 + 1, 1, none⟩ = some (.int .i64 n1) ∧ W.cell? ⟨w2.heap.size + 1 + 1, 2, none⟩ = some (.int .i64 n2) ∧ W.cell? ⟨w2.heap.size + 1 + 1, 3, none⟩ = some (.string n3) ∧ W.cell? ⟨w2.heap.size + 1 + 1, 4, none⟩ = some (.string n4) ∧ w2.heap.size < W.heap.size ∧ w2.heap.size + 1 < W.heap.size ∧ w2.heap.size + 1 + 1 < W.heap.size ∧ Below w.heap.size w W)
            (first | ((refine keep3 hb' ?_; assumption)) | assumption | ((refine ⟨?_, ?_, ?_, ?_, ?_, ?_, ?_, ?_, ?_, ?_, ?_, ?_, ?_, ?_, ?_, ?_, ?_, ?_, ?_⟩ <;> first | assumption | (simp; assumption))))
            (first | (go_at_call 13; refine (awake_any _ (tab_below HT.out ?_)).mono ?_; (first | assumption | (apply bel3; assumption)); rintro e w' ⟨rfl, hb'⟩) | (go_at_call 20; (with_reducible refine (cba _).mono ?_); rintro e w' ⟨rfl, hb'⟩) | (go_at_call 20; (with_reducible refine (caa _).mono ?_); rintro e w' ⟨rfl, hb'⟩) | (go_at_call 20; (with_reducible refine (ckb _).mono ?_); rintro e w' ⟨rfl, hb'⟩) | (go_at_call 22; refine (core_any _ _ _ _ _ _).mono ?_; rintro e w' ⟨rfl, hb'⟩))
        all_goals
          go_wp2_with fail
          go_ret
          exact ⟨rfl, bel3 (by assumption)⟩
      · rw [hb] at HQ
        go_wp2_with fail
        go_region_held3 (fun W => W.cell? ⟨w2.heap.size, 0, none⟩ = some (.int .i64 k0) ∧ W.cell? ⟨w2.heap.size, 1, none⟩ = some (.int .i64 k1) ∧ W.cell? ⟨w2.heap.size, 2, none⟩ = some (.int .i64 k2) ∧ W.cell? ⟨w2.heap.size, 3, none⟩ = some (.string k3) ∧ W.cell? ⟨w2.heap.size, 4, none⟩ = some (.string k4) ∧ W.cell? ⟨w2.heap.size + 1, 0, none⟩ = some (.int .i64 m0) ∧ W.cell? ⟨w2.heap.size + 1, 1, none⟩ = some (.int .i64 m1) ∧ W.cell? ⟨w2.heap.size + 1, 2, none⟩ = some (.int .i64 m2) ∧ W.cell? ⟨w2.heap.size + 1, 3, none⟩ = some (.string m3) ∧ W.cell? ⟨w2.heap.size + 1, 4, none⟩ = some (.string m4) ∧ W.cell? ⟨w2.heap.size + 1 + 1, 0, none⟩ = some (.int .i64 n0) ∧ W.cell? ⟨w2.heap.size + 1 + 1, 1, none⟩ = some (.int .i64 n1) ∧ W.cell? ⟨w2.heap.size + 1 + 1, 2, none⟩ = some (.int .i64 n2) ∧ W.cell? ⟨w2.heap.size + 1 + 1, 3, none⟩ = some (.string n3) ∧ W.cell? ⟨w2.heap.size + 1 + 1, 4, none⟩ = some (.string n4) ∧ w2.heap.size < W.heap.size ∧ w2.heap.size + 1 < W.heap.size ∧ w2.heap.size + 1 + 1 < W.heap.size ∧ Below w.heap.size w W)
            (first | ((refine keep3 hb' ?_; assumption)) | assumption | ((refine ⟨?_, ?_, ?_, ?_, ?_, ?_, ?_, ?_, ?_, ?_, ?_, ?_, ?_, ?_, ?_, ?_, ?_, ?_, ?_⟩ <;> first | assumption | (simp; assumption))))
            (first | (go_at_call 13; refine (awake_any _ (tab_below HT.out ?_)).mono ?_; (first | assumption | (apply bel3; assumption)); rintro e w' ⟨rfl, hb'⟩) | (go_at_call 20; (with_reducible refine (cba _).mono ?_); rintro e w' ⟨rfl, hb'⟩) | (go_at_call 20; (with_reducible refine (caa _).mono ?_); rintro e w' ⟨rfl, hb'⟩) | (go_at_call 20; (with_reducible refine (ckb _).mono ?_); rintro e w' ⟨rfl, hb'⟩) | (go_at_call 22; refine (core_any _ _ _ _ _ _).mono ?_; rintro e w' ⟨rfl, hb'⟩))
        all_goals
          go_wp2_with fail
          go_ret
          exact ⟨rfl, bel3 (by assumption)⟩

set_option maxRecDepth 100000 in
theorem lifted (os : Os) (started : os.Started) (H : Type) (enc : TypeId × Value → H) :
    ReturnsInHanded {} Tryd.checked os 6 .any (fun w args => (Rows.versionOrderSpec.pre enc Tryd.prog Tryd.f6 [] false w args ∧ laidMetH Tryd.prog Rows.versionOrderRow.laid w) ∧ sizedMet enc Tryd.prog Tryd.f6 (OpenSpec.ofChange Rows.versionOrderSpec) false w args) (Rows.versionOrderSpec.post enc Tryd.prog Tryd.f6 false true false false) := by
  refine returnsInHanded_of_change_and (C := Tryd.checked) (X := fun w _ => laidMetH Tryd.prog Rows.versionOrderRow.laid w) (fun _ _ _ hh h => h.of_heap hh) own started (by kernel_rfl) Tryd.func6
    (ChangeSpec.witness_shaped (enc := enc) (C := Tryd.checked) (os := os) (X := fun w _ => laidMetH Tryd.prog Rows.versionOrderRow.laid w) false (World.doorLaid Tryd.prog 400 os) #[.slice none 0 0] 8 rfl (World.shaped_of_RefB (by kernel_rfl) (by kernel_rfl)) (by kernel_rfl) (by kernel_rfl) (by kernel_rfl)
      (laidMetH_of_parts3 (fuel := 8) (laidMet_of_run' 8 (by kernel_rfl) (by kernel_rfl)) (by kernel_rfl) (by kernel_rfl))) ?_
  intro W base args ds gs before hval0 hW _ _ hL _
  have hval : ∀ (j : Nat) t v, Tryd.f6.params[j]? = some t → args[j]? = some v → Value.okWide Tryd.prog W .any base t v := hval0
  have hW' := hW
  obtain ⟨p, q, hA0, hV, rfl, hfz, hnd⟩ := hW
  have hA : DataW.TrodAll enc Tryd.prog W 0 (fun _ => true) true Tryd.f6.params.toList args.toList ds p := hA0
  rw [Tryd.params6] at hA hval
  obtain ⟨v0, vs0, d0, ds0, p0, q0, hargs, rfl, rfl, h0, r0⟩ := trodAll_cons hA
  obtain ⟨rfl, rfl, rfl⟩ := trodAll_nil r0
  obtain rfl : args = #[v0] := by cases args; simp_all
  obtain ⟨rfl, rfl⟩ := trodVars_none hV
  obtain ⟨a0, len0, cap0, rfl⟩ := okWide_slice Tryd.underlying34 (hval 0 34 v0 rfl rfl)
  have k0 := h0
  have lt0 : ∀ x ∈ p0, x.block < W.heap.size := by obtain ⟨m, hm⟩ := k0; exact DataW.trod_lt m _ _ _ hm
  obtain ⟨z0, w0⟩ : ∃ zs, IsRow .i64 W a0 len0 cap0 zs := by
    obtain ⟨fuel, hf⟩ := h0
    rcases open_ints Tryd.underlying34 Tryd.underlying3 (by kernel_rfl) hf with ⟨hcs, _⟩ | ⟨x, l, c, zs, hcs, _, hl, hm, hz, _, hcell, hwz⟩
    · simp [Value.cells] at hcs
      obtain ⟨rfl, rfl, rfl⟩ := hcs
      exact ⟨[], .inl ⟨rfl, rfl, rfl, rfl⟩⟩
    · simp [Value.cells] at hcs
      obtain ⟨rfl, rfl, rfl⟩ := hcs
      exact ⟨zs, .inr ⟨_, rfl, hl, hm, by simpa using hz, hcell, hwz⟩⟩
  clear hA0 hval0
  refine (walk a0 len0 cap0 z0 W w0 (tab_of hL (by kernel_rfl) (MakeChecks.laidMetH_plain _ _ _ (by kernel_rfl)))).mono fun e W' ⟨he, bel⟩ => ?_
  subst he
  exact ⟨_, rfl, _, _, _, [], _, [], hW', trodAll_mk1 (shut_bool Tryd.underlying4 _), (trodAll_cons_mk (Below.trod laidOut (by kernel_rfl) (of_decide_eq_true (by kernel_rfl)) k0 bel lt0) trodAll_mk0), rfl, bel.frame _, fun h => by cases h⟩

theorem over : Rows.versionOrderRow.holds Tryd.pinned (OpenSpec.ofChange Rows.versionOrderSpec) :=
  OpenClaim.holds_of_wide 6 Tryd.f6 rfl rfl rfl rfl rfl rfl rfl ⟨rfl, rfl, rfl, rfl, rfl⟩ rfl rfl rfl rfl rfl (by kernel_rfl) Tryd.func6 (by kernel_rfl)
    (of_decide_eq_true (by kernel_rfl)) (by unfold Func.isWrapper; first | (rw [if_pos (by decide +kernel)]; kernel_rfl) | (rw [if_neg (by decide +kernel)]; exact ⟨rfl, rfl⟩))
    (fun os started H enc _ => lifted os started H enc)

theorem proved : Rows.VersionOrderSaid := over
theorem plain (f : FuncId) (fn : Func) (hf : Tryd.pinned.checked.prog.funcNamed "linchpin/linchpinlaw2.VersionOrder" = some f) (hfn : Tryd.pinned.checked.prog.funcs[f]? = some fn) :
    false = Tryd.pinned.checked.prog.looks [] ∧ ∀ (j : Nat) t, fn.params[j]? = some t → Tryd.pinned.checked.prog.wantsStandIn t = false := by
  obtain rfl : f = 6 := Option.some.inj ((show Tryd.prog.funcNamed "linchpin/linchpinlaw2.VersionOrder" = some 6 by kernel_rfl).symm.trans hf) |>.symm
  obtain rfl : fn = Tryd.f6 := (Option.some.inj (Tryd.func6.symm.trans hfn)).symm
  refine ⟨by kernel_rfl, fun j t ht => ?_⟩
  rw [Tryd.params6] at ht
  have hm : t ∈ [34] := by simpa using Array.mem_of_getElem? ht
  have hall : ([34].all fun u => !Tryd.prog.wantsStandIn u) = true := by kernel_rfl
  exact (show Tryd.prog.wantsStandIn t = false by simpa using List.all_eq_true.1 hall t hm)

theorem card : Rows.VersionOrderCardSaid :=
  Claim7.holds_tied_plain_at .later [] _ _ _ _ proved (fun _ h => by cases h) (by kernel_rfl) (fun _ h => by cases h) versionOrder_row_tie rfl ⟨rfl, rfl⟩ (by kernel_rfl) rfl plain (by kernel_rfl)
#print axioms card
end Go.Proofs.YtabcpbmnemfnbaaDoor.versionOrder
