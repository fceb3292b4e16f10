/-
  VersionAbove: the result of Bump is greater than the version and not less than Next; bumping a more significant number does not yield a smaller version. Conditions: strconv's and math/bits' tables start as the program's text lays them (the card ties them).
-/
import Derived.Test.YtabcpbmnemfnbaaDoorRows
import Derived.Test.YtabcpbmnemfnbaaDoorVAbove
import Derived.Test.YtabcpbmnemfnbaaDoorCards
import Derived.Test.YtabcpbmnemfnbaaDoorTie
import Derived.Test.YtabcpbmnemfnbaaDoorTab
import Derived.LaidMore
import Derived.MakeChecks
import Derived.SevenTiedAt
import Derived.Stop.Joined
import Derived.WalkKit
import Derived.ProofKit
import Derived.OpenShut
import Derived.ShutString
import Derived.ChangeOld
import Derived.Below
namespace Go.Proofs.YtabcpbmnemfnbaaDoor.versionAbove
open Go.ChangeShapes Go.WideShapes Go.ChangeAt Go.RowKit
open Go.ChangeMaps (open_string shut_string)
set_option linter.unusedVariables false

theorem own : ownKnob Tryd.prog.godebug = none := by kernel_rfl
theorem laidOut : laidOutB Tryd.prog = true := by kernel_rfl

def IsRow (k : IntKind) (w : World) (a : Option Addr) (len cap : Nat) (zs : List Int) : Prop :=
  (a = none ∧ len = 0 ∧ cap = 0 ∧ zs = []) ∨
  ∃ x, a = some x ∧ len ≤ cap ∧ cap ≤ maxLen ∧ zs.length = cap ∧ (∀ i, i < zs.length → w.cell? (x.add i) = some (.int k (zs.getD i 0))) ∧ ∀ n ∈ zs, (Lit.int k n).wf = true

set_option maxHeartbeats 8000000 in
theorem walk (a0 : Option Addr) (len0 cap0 : Nat) (z0 : List Int) (a1 : Int) (w : World) (w0 : IsRow .i64 w a0 len0 cap0 z0) (w1 : (Lit.int .i64 a1).wf = true) (hT : Tab w) :
    Calls Tryd.prog 12 #[.slice a0 len0 cap0, .int .i64 a1] w fun e w' => e = .returned (.bool true) ∧ Below w.heap.size w w' := by
  obtain ⟨v1, v2⟩ := bounds_i64 w1
  clear w1
  have HT := Lib.hid hT
  clear hT
  obtain ⟨hrd, hml, hwf, hlen⟩ := row_rd w0
  generalize z0.take len0 = l at *
  subst hlen
  clear w0
  obtain ⟨k0, k1, k2, k3, k4, rk, fk, sk, tk, ck⟩ := ver_fam a0 cap0 w.heap.size l 0 hml hwf (by omega) (by omega)
  have HRD := Lib.hid hrd
  clear hrd hwf
  have cpl : ∀ W : World, Calls Tryd.prog 31 #[.int .i64 a1, .int .i64 3] W fun e w' => e = .returned (.int .i64 (placeN a1 3 : Nat)) ∧ W = w' := fun W => plc0_any a1 3 W (by omega) (by omega) v1 v2
  have hp3 : placeN a1 3 < 3 := place_lt _ (by omega)
  generalize placeN a1 3 = p at *
  have cb := fun (j : Int) W => bump_any k0 k1 k2 k3 k4 j W (by omega) (by omega)
  have cnx := fun W => next_any k0 k1 k2 k3 k4 W (by omega) (by omega)
  have hsub : IntKind.i64.wrap ((p : Int) - 1) = (p : Int) - 1 := IntWalk.i64_in _ (by omega)
  cases hb : bumpV (verS k0 k1 k2 k3 k4) p with
  | none =>
    obtain ⟨y0, y1, y2, y3, y4, yb, hy⟩ := bump_vals (nextV (verS k0 k1 k2 k3 k4))
    have cbp := cb p
    rw [hb] at cbp
    rw [hy] at cnx
    dsimp only [bumpVal] at cbp
    clear hb hy fk cb
    go_enter Tryd.func12, Tryd.ntmps12
    go_wp2_with fail
    refine (ck _ HRD.out (Nat.le_refl _)).mono ?_
    rintro e w0 ⟨rfl, hb⟩
    have hB := hb
    clear hb
    go_wp2_with fail
    refine (cpl _).mono ?_
    rintro e wq ⟨rfl, rfl⟩
    go_wp2_with fail
    have hk := (room_new w0 (.int .i64 k0) (.int .i64 k1) (.int .i64 k2) (.string k3) (.string k4) 24).1
    have zk : w0.heap.size < (w0.alloc (.cells #[.int .i64 k0, .int .i64 k1, .int .i64 k2, .string k3, .string k4] 24)).heap.size := by simp
    have hB := hB.trans ((box_below w0 (.cells #[.int .i64 k0, .int .i64 k1, .int .i64 k2, .string k3, .string k4] 24)).mono hB.size)
    generalize w0.alloc (.cells #[.int .i64 k0, .int .i64 k1, .int .i64 k2, .string k3, .string k4] 24) = W1 at *
    refine (cbp _).mono ?_
    rintro e w2 ⟨rfl, hb⟩
    have hk := five_below hk zk hb
    have zk := Nat.lt_of_lt_of_le zk hb.size
    have hB := hB.trans ((hb).mono hB.size)
    clear hb
    obtain ⟨kq0, kq1, kq2, kq3, kq4⟩ := id hk
    go_wp2_with fail
    clear kq0 kq1 kq2 kq3 kq4
    have hk := five_below hk zk (box_below w2 (.cells #[.int .i64 0, .int .i64 0, .int .i64 0, .string ⟨#[]⟩, .string ⟨#[]⟩] 24))
    have zk := Nat.lt_of_lt_of_le zk (box_below w2 (.cells #[.int .i64 0, .int .i64 0, .int .i64 0, .string ⟨#[]⟩, .string ⟨#[]⟩] 24)).size
    have hd := (room_new w2 (.int .i64 0) (.int .i64 0) (.int .i64 0) (.string ⟨#[]⟩) (.string ⟨#[]⟩) 24).1
    have zd : w2.heap.size < (w2.alloc (.cells #[.int .i64 0, .int .i64 0, .int .i64 0, .string ⟨#[]⟩, .string ⟨#[]⟩] 24)).heap.size := by simp
    have hB := hB.trans ((box_below w2 (.cells #[.int .i64 0, .int .i64 0, .int .i64 0, .string ⟨#[]⟩, .string ⟨#[]⟩] 24)).mono hB.size)
    generalize w2.alloc (.cells #[.int .i64 0, .int .i64 0, .int .i64 0, .string ⟨#[]⟩, .string ⟨#[]⟩] 24) = W3 at *
    refine (cnx _).mono ?_
    rintro e w4 ⟨rfl, hb⟩
    have hk := five_below hk zk hb
    have zk := Nat.lt_of_lt_of_le zk hb.size
    have hd := five_below hd zd hb
    have zd := Nat.lt_of_lt_of_le zd hb.size
    have hB := hB.trans ((hb).mono hB.size)
    clear hb
    go_wp2_with fail
    have hk := five_below hk zk (box_below w4 (.cells #[.int .i64 y0, .int .i64 y1, .int .i64 y2, .string y3, .string y4] 24))
    have zk := Nat.lt_of_lt_of_le zk (box_below w4 (.cells #[.int .i64 y0, .int .i64 y1, .int .i64 y2, .string y3, .string y4] 24)).size
    have hd := five_below hd zd (box_below w4 (.cells #[.int .i64 y0, .int .i64 y1, .int .i64 y2, .string y3, .string y4] 24))
    have zd := Nat.lt_of_lt_of_le zd (box_below w4 (.cells #[.int .i64 y0, .int .i64 y1, .int .i64 y2, .string y3, .string y4] 24)).size
    have hn := (room_new w4 (.int .i64 y0) (.int .i64 y1) (.int .i64 y2) (.string y3) (.string y4) 24).1
    have zn : w4.heap.size < (w4.alloc (.cells #[.int .i64 y0, .int .i64 y1, .int .i64 y2, .string y3, .string y4] 24)).heap.size := by simp
    have hB := hB.trans ((box_below w4 (.cells #[.int .i64 y0, .int .i64 y1, .int .i64 y2, .string y3, .string y4] 24)).mono hB.size)
    generalize w4.alloc (.cells #[.int .i64 y0, .int .i64 y1, .int .i64 y2, .string y3, .string y4] 24) = W5 at *
    refine (awake_any _ (tab_below HT.out hB)).mono ?_
    rintro e w6 ⟨rfl, hb⟩
    have hk := five_below hk zk hb
    have zk := Nat.lt_of_lt_of_le zk hb.size
    have hd := five_below hd zd hb
    have zd := Nat.lt_of_lt_of_le zd hb.size
    have hn := five_below hn zn hb
    have zn := Nat.lt_of_lt_of_le zn hb.size
    have hB := hB.trans ((hb).mono hB.size)
    clear hb
    go_wp2_with fail
    go_ret
    exact ⟨rfl, hB⟩
  | some u =>
    obtain ⟨b0, b1, b2, b3, b4⟩ := u
    obtain ⟨hm, h1, h2, fb, _, e0, e1, e2⟩ := bump_some hb
    dsimp only at h1 h2
    subst h1 h2
    have fb : Fam (verS b0 b1 b2 ⟨#[]⟩ ⟨#[]⟩) 10 := fb
    obtain ⟨n0, n1, n2, hn, fn, en⟩ := above_next fk hb
    obtain ⟨c0, c1, c2, c3, c4, cc, hc, hcc⟩ := above_less fk hb hp3
    have cbp := cb p
    have cbq := cb (p - 1)
    rw [hb] at cbp
    rw [hn] at cnx
    rw [hc] at cbq
    dsimp only [bumpVal] at cbp
    have cnx : ∀ W : World, Calls Tryd.prog 27 #[.agg #[.int .i64 k0, .int .i64 k1, .int .i64 k2, .string k3, .string k4]] W fun e w' => e = .returned (.tuple #[.agg #[.int .i64 n0, .int .i64 n1, .int .i64 n2, .string ⟨#[]⟩, .string ⟨#[]⟩], .bool true]) ∧ Below W.heap.size W w' := cnx
    have ckb := fam_comp fk fb sk tk (by decide) (by decide)
    have cnb := fam_comp fn fb (by decide) (by decide) (by decide) (by decide)
    rw [ints_lt (show keyV (verS k0 k1 k2 k3 k4) rk < keyV (verS b0 b1 b2 ⟨#[]⟩ ⟨#[]⟩) 10 from en.1)] at ckb
    have hX : intsI (keyV (verS n0 n1 n2 ⟨#[]⟩ ⟨#[]⟩) 10) (keyV (verS b0 b1 b2 ⟨#[]⟩ ⟨#[]⟩) 10) ≤ 0 := by
      have h : keyV (verS n0 n1 n2 ⟨#[]⟩ ⟨#[]⟩) 10 ≤ keyV (verS b0 b1 b2 ⟨#[]⟩ ⟨#[]⟩) 10 := en.2
      rcases ints_cases (keyV (verS n0 n1 n2 ⟨#[]⟩ ⟨#[]⟩) 10) (keyV (verS b0 b1 b2 ⟨#[]⟩ ⟨#[]⟩) 10) with ⟨h, _⟩ | ⟨h, _⟩ | ⟨h, k⟩ <;> omega
    generalize intsI (keyV (verS n0 n1 n2 ⟨#[]⟩ ⟨#[]⟩) 10) (keyV (verS b0 b1 b2 ⟨#[]⟩ ⟨#[]⟩) 10) = X at *
    clear hb hn hc cb hm e0 e1 e2 en fn
    by_cases hp0 : p = 0
    · subst hp0
      clear hcc fb
      go_enter Tryd.func12, Tryd.ntmps12
      go_wp2_with fail
      refine (ck _ HRD.out (Nat.le_refl _)).mono ?_
      rintro e w0 ⟨rfl, hb⟩
      have hB := hb
      clear hb
      go_wp2_with fail
      refine (cpl _).mono ?_
      rintro e wq ⟨rfl, rfl⟩
      go_wp2_with fail
      have hk := (room_new w0 (.int .i64 k0) (.int .i64 k1) (.int .i64 k2) (.string k3) (.string k4) 24).1
      have zk : w0.heap.size < (w0.alloc (.cells #[.int .i64 k0, .int .i64 k1, .int .i64 k2, .string k3, .string k4] 24)).heap.size := by simp
      have hB := hB.trans ((box_below w0 (.cells #[.int .i64 k0, .int .i64 k1, .int .i64 k2, .string k3, .string k4] 24)).mono hB.size)
      generalize w0.alloc (.cells #[.int .i64 k0, .int .i64 k1, .int .i64 k2, .string k3, .string k4] 24) = W1 at *
      refine (cbp _).mono ?_
      rintro e w2 ⟨rfl, hb⟩
      have hk := five_below hk zk hb
      have zk := Nat.lt_of_lt_of_le zk hb.size
      have hB := hB.trans ((hb).mono hB.size)
      clear hb
      obtain ⟨kq0, kq1, kq2, kq3, kq4⟩ := id hk
      go_wp2_with fail
      clear kq0 kq1 kq2 kq3 kq4
      have hk := five_below hk zk (box_below w2 (.cells #[.int .i64 b0, .int .i64 b1, .int .i64 b2, .string ⟨#[]⟩, .string ⟨#[]⟩] 24))
      have zk := Nat.lt_of_lt_of_le zk (box_below w2 (.cells #[.int .i64 b0, .int .i64 b1, .int .i64 b2, .string ⟨#[]⟩, .string ⟨#[]⟩] 24)).size
      have hd := (room_new w2 (.int .i64 b0) (.int .i64 b1) (.int .i64 b2) (.string ⟨#[]⟩) (.string ⟨#[]⟩) 24).1
      have zd : w2.heap.size < (w2.alloc (.cells #[.int .i64 b0, .int .i64 b1, .int .i64 b2, .string ⟨#[]⟩, .string ⟨#[]⟩] 24)).heap.size := by simp
      have hB := hB.trans ((box_below w2 (.cells #[.int .i64 b0, .int .i64 b1, .int .i64 b2, .string ⟨#[]⟩, .string ⟨#[]⟩] 24)).mono hB.size)
      generalize w2.alloc (.cells #[.int .i64 b0, .int .i64 b1, .int .i64 b2, .string ⟨#[]⟩, .string ⟨#[]⟩] 24) = W3 at *
      refine (cnx _).mono ?_
      rintro e w4 ⟨rfl, hb⟩
      have hk := five_below hk zk hb
      have zk := Nat.lt_of_lt_of_le zk hb.size
      have hd := five_below hd zd hb
      have zd := Nat.lt_of_lt_of_le zd hb.size
      have hB := hB.trans ((hb).mono hB.size)
      clear hb
      obtain ⟨kq0, kq1, kq2, kq3, kq4⟩ := id hk
      go_wp2_with fail
      clear kq0 kq1 kq2 kq3 kq4
      have hk := five_below hk zk (box_below w4 (.cells #[.int .i64 n0, .int .i64 n1, .int .i64 n2, .string ⟨#[]⟩, .string ⟨#[]⟩] 24))
      have zk := Nat.lt_of_lt_of_le zk (box_below w4 (.cells #[.int .i64 n0, .int .i64 n1, .int .i64 n2, .string ⟨#[]⟩, .string ⟨#[]⟩] 24)).size
      have hd := five_below hd zd (box_below w4 (.cells #[.int .i64 n0, .int .i64 n1, .int .i64 n2, .string ⟨#[]⟩, .string ⟨#[]⟩] 24))
      have zd := Nat.lt_of_lt_of_le zd (box_below w4 (.cells #[.int .i64 n0, .int .i64 n1, .int .i64 n2, .string ⟨#[]⟩, .string ⟨#[]⟩] 24)).size
      have hn := (room_new w4 (.int .i64 n0) (.int .i64 n1) (.int .i64 n2) (.string ⟨#[]⟩) (.string ⟨#[]⟩) 24).1
      have zn : w4.heap.size < (w4.alloc (.cells #[.int .i64 n0, .int .i64 n1, .int .i64 n2, .string ⟨#[]⟩, .string ⟨#[]⟩] 24)).heap.size := by simp
      have hB := hB.trans ((box_below w4 (.cells #[.int .i64 n0, .int .i64 n1, .int .i64 n2, .string ⟨#[]⟩, .string ⟨#[]⟩] 24)).mono hB.size)
      generalize w4.alloc (.cells #[.int .i64 n0, .int .i64 n1, .int .i64 n2, .string ⟨#[]⟩, .string ⟨#[]⟩] 24) = W5 at *
      refine (cbq _).mono ?_
      rintro e w6 ⟨rfl, hb⟩
      have hk := five_below hk zk hb
      have zk := Nat.lt_of_lt_of_le zk hb.size
      have hd := five_below hd zd hb
      have zd := Nat.lt_of_lt_of_le zd hb.size
      have hn := five_below hn zn hb
      have zn := Nat.lt_of_lt_of_le zn hb.size
      have hB := hB.trans ((hb).mono hB.size)
      clear hb
      go_wp2_with fail
      have hk := five_below hk zk (box_below w6 (.cells #[.int .i64 c0, .int .i64 c1, .int .i64 c2, .string c3, .string c4] 24))
      have zk := Nat.lt_of_lt_of_le zk (box_below w6 (.cells #[.int .i64 c0, .int .i64 c1, .int .i64 c2, .string c3, .string c4] 24)).size
      have hd := five_below hd zd (box_below w6 (.cells #[.int .i64 c0, .int .i64 c1, .int .i64 c2, .string c3, .string c4] 24))
      have zd := Nat.lt_of_lt_of_le zd (box_below w6 (.cells #[.int .i64 c0, .int .i64 c1, .int .i64 c2, .string c3, .string c4] 24)).size
      have hn := five_below hn zn (box_below w6 (.cells #[.int .i64 c0, .int .i64 c1, .int .i64 c2, .string c3, .string c4] 24))
      have zn := Nat.lt_of_lt_of_le zn (box_below w6 (.cells #[.int .i64 c0, .int .i64 c1, .int .i64 c2, .string c3, .string c4] 24)).size
      have hc := (room_new w6 (.int .i64 c0) (.int .i64 c1) (.int .i64 c2) (.string c3) (.string c4) 24).1
      have zc : w6.heap.size < (w6.alloc (.cells #[.int .i64 c0, .int .i64 c1, .int .i64 c2, .string c3, .string c4] 24)).heap.size := by simp
      have hB := hB.trans ((box_below w6 (.cells #[.int .i64 c0, .int .i64 c1, .int .i64 c2, .string c3, .string c4] 24)).mono hB.size)
      generalize w6.alloc (.cells #[.int .i64 c0, .int .i64 c1, .int .i64 c2, .string c3, .string c4] 24) = W7 at *
      refine (awake_any _ (tab_below HT.out hB)).mono ?_
      rintro e w8 ⟨rfl, hb⟩
      have hk := five_below hk zk hb
      have zk := Nat.lt_of_lt_of_le zk hb.size
      have hd := five_below hd zd hb
      have zd := Nat.lt_of_lt_of_le zd hb.size
      have hn := five_below hn zn hb
      have zn := Nat.lt_of_lt_of_le zn hb.size
      have hc := five_below hc zc hb
      have zc := Nat.lt_of_lt_of_le zc hb.size
      have hB := hB.trans ((hb).mono hB.size)
      clear hb
      obtain ⟨kq0, kq1, kq2, kq3, kq4⟩ := id hk
      obtain ⟨dq0, dq1, dq2, dq3, dq4⟩ := id hd
      go_wp2_with fail
      clear kq0 kq1 kq2 kq3 kq4 dq0 dq1 dq2 dq3 dq4
      refine (ckb _).mono ?_
      rintro e w9 ⟨rfl, hb⟩
      have hk := five_below hk zk hb
      have zk := Nat.lt_of_lt_of_le zk hb.size
      have hd := five_below hd zd hb
      have zd := Nat.lt_of_lt_of_le zd hb.size
      have hn := five_below hn zn hb
      have zn := Nat.lt_of_lt_of_le zn hb.size
      have hc := five_below hc zc hb
      have zc := Nat.lt_of_lt_of_le zc hb.size
      have hB := hB.trans ((hb).mono hB.size)
      clear hb
      obtain ⟨nq0, nq1, nq2, nq3, nq4⟩ := id hn
      obtain ⟨dq0, dq1, dq2, dq3, dq4⟩ := id hd
      go_wp2_with fail
      clear nq0 nq1 nq2 nq3 nq4 dq0 dq1 dq2 dq3 dq4
      refine (cnb _).mono ?_
      rintro e w10 ⟨rfl, hb⟩
      have hk := five_below hk zk hb
      have zk := Nat.lt_of_lt_of_le zk hb.size
      have hd := five_below hd zd hb
      have zd := Nat.lt_of_lt_of_le zd hb.size
      have hn := five_below hn zn hb
      have zn := Nat.lt_of_lt_of_le zn hb.size
      have hc := five_below hc zc hb
      have zc := Nat.lt_of_lt_of_le zc hb.size
      have hB := hB.trans ((hb).mono hB.size)
      clear hb
      go_wp2_with fail
      go_ret
      exact ⟨rfl, hB⟩
    have hq : ((p : Int) == 0) = false := by simp; omega
    cases cc
    · clear hcc fb
      go_enter Tryd.func12, Tryd.ntmps12
      go_wp2_with fail
      refine (ck _ HRD.out (Nat.le_refl _)).mono ?_
      rintro e w0 ⟨rfl, hb⟩
      have hB := hb
      clear hb
      go_wp2_with fail
      refine (cpl _).mono ?_
      rintro e wq ⟨rfl, rfl⟩
      go_wp2_with fail
      have hk := (room_new w0 (.int .i64 k0) (.int .i64 k1) (.int .i64 k2) (.string k3) (.string k4) 24).1
      have zk : w0.heap.size < (w0.alloc (.cells #[.int .i64 k0, .int .i64 k1, .int .i64 k2, .string k3, .string k4] 24)).heap.size := by simp
      have hB := hB.trans ((box_below w0 (.cells #[.int .i64 k0, .int .i64 k1, .int .i64 k2, .string k3, .string k4] 24)).mono hB.size)
      generalize w0.alloc (.cells #[.int .i64 k0, .int .i64 k1, .int .i64 k2, .string k3, .string k4] 24) = W1 at *
      refine (cbp _).mono ?_
      rintro e w2 ⟨rfl, hb⟩
      have hk := five_below hk zk hb
      have zk := Nat.lt_of_lt_of_le zk hb.size
      have hB := hB.trans ((hb).mono hB.size)
      clear hb
      obtain ⟨kq0, kq1, kq2, kq3, kq4⟩ := id hk
      go_wp2_with fail
      clear kq0 kq1 kq2 kq3 kq4
      have hk := five_below hk zk (box_below w2 (.cells #[.int .i64 b0, .int .i64 b1, .int .i64 b2, .string ⟨#[]⟩, .string ⟨#[]⟩] 24))
      have zk := Nat.lt_of_lt_of_le zk (box_below w2 (.cells #[.int .i64 b0, .int .i64 b1, .int .i64 b2, .string ⟨#[]⟩, .string ⟨#[]⟩] 24)).size
      have hd := (room_new w2 (.int .i64 b0) (.int .i64 b1) (.int .i64 b2) (.string ⟨#[]⟩) (.string ⟨#[]⟩) 24).1
      have zd : w2.heap.size < (w2.alloc (.cells #[.int .i64 b0, .int .i64 b1, .int .i64 b2, .string ⟨#[]⟩, .string ⟨#[]⟩] 24)).heap.size := by simp
      have hB := hB.trans ((box_below w2 (.cells #[.int .i64 b0, .int .i64 b1, .int .i64 b2, .string ⟨#[]⟩, .string ⟨#[]⟩] 24)).mono hB.size)
      generalize w2.alloc (.cells #[.int .i64 b0, .int .i64 b1, .int .i64 b2, .string ⟨#[]⟩, .string ⟨#[]⟩] 24) = W3 at *
      refine (cnx _).mono ?_
      rintro e w4 ⟨rfl, hb⟩
      have hk := five_below hk zk hb
      have zk := Nat.lt_of_lt_of_le zk hb.size
      have hd := five_below hd zd hb
      have zd := Nat.lt_of_lt_of_le zd hb.size
      have hB := hB.trans ((hb).mono hB.size)
      clear hb
      obtain ⟨kq0, kq1, kq2, kq3, kq4⟩ := id hk
      go_wp2_with fail
      clear kq0 kq1 kq2 kq3 kq4
      have hk := five_below hk zk (box_below w4 (.cells #[.int .i64 n0, .int .i64 n1, .int .i64 n2, .string ⟨#[]⟩, .string ⟨#[]⟩] 24))
      have zk := Nat.lt_of_lt_of_le zk (box_below w4 (.cells #[.int .i64 n0, .int .i64 n1, .int .i64 n2, .string ⟨#[]⟩, .string ⟨#[]⟩] 24)).size
      have hd := five_below hd zd (box_below w4 (.cells #[.int .i64 n0, .int .i64 n1, .int .i64 n2, .string ⟨#[]⟩, .string ⟨#[]⟩] 24))
      have zd := Nat.lt_of_lt_of_le zd (box_below w4 (.cells #[.int .i64 n0, .int .i64 n1, .int .i64 n2, .string ⟨#[]⟩, .string ⟨#[]⟩] 24)).size
      have hn := (room_new w4 (.int .i64 n0) (.int .i64 n1) (.int .i64 n2) (.string ⟨#[]⟩) (.string ⟨#[]⟩) 24).1
      have zn : w4.heap.size < (w4.alloc (.cells #[.int .i64 n0, .int .i64 n1, .int .i64 n2, .string ⟨#[]⟩, .string ⟨#[]⟩] 24)).heap.size := by simp
      have hB := hB.trans ((box_below w4 (.cells #[.int .i64 n0, .int .i64 n1, .int .i64 n2, .string ⟨#[]⟩, .string ⟨#[]⟩] 24)).mono hB.size)
      generalize w4.alloc (.cells #[.int .i64 n0, .int .i64 n1, .int .i64 n2, .string ⟨#[]⟩, .string ⟨#[]⟩] 24) = W5 at *
      refine (cbq _).mono ?_
      rintro e w6 ⟨rfl, hb⟩
      have hk := five_below hk zk hb
      have zk := Nat.lt_of_lt_of_le zk hb.size
      have hd := five_below hd zd hb
      have zd := Nat.lt_of_lt_of_le zd hb.size
      have hn := five_below hn zn hb
      have zn := Nat.lt_of_lt_of_le zn hb.size
      have hB := hB.trans ((hb).mono hB.size)
      clear hb
      go_wp2_with fail
      have hk := five_below hk zk (box_below w6 (.cells #[.int .i64 c0, .int .i64 c1, .int .i64 c2, .string c3, .string c4] 24))
      have zk := Nat.lt_of_lt_of_le zk (box_below w6 (.cells #[.int .i64 c0, .int .i64 c1, .int .i64 c2, .string c3, .string c4] 24)).size
      have hd := five_below hd zd (box_below w6 (.cells #[.int .i64 c0, .int .i64 c1, .int .i64 c2, .string c3, .string c4] 24))
      have zd := Nat.lt_of_lt_of_le zd (box_below w6 (.cells #[.int .i64 c0, .int .i64 c1, .int .i64 c2, .string c3, .string c4] 24)).size
      have hn := five_below hn zn (box_below w6 (.cells #[.int .i64 c0, .int .i64 c1, .int .i64 c2, .string c3, .string c4] 24))
      have zn := Nat.lt_of_lt_of_le zn (box_below w6 (.cells #[.int .i64 c0, .int .i64 c1, .int .i64 c2, .string c3, .string c4] 24)).size
      have hc := (room_new w6 (.int .i64 c0) (.int .i64 c1) (.int .i64 c2) (.string c3) (.string c4) 24).1
      have zc : w6.heap.size < (w6.alloc (.cells #[.int .i64 c0, .int .i64 c1, .int .i64 c2, .string c3, .string c4] 24)).heap.size := by simp
      have hB := hB.trans ((box_below w6 (.cells #[.int .i64 c0, .int .i64 c1, .int .i64 c2, .string c3, .string c4] 24)).mono hB.size)
      generalize w6.alloc (.cells #[.int .i64 c0, .int .i64 c1, .int .i64 c2, .string c3, .string c4] 24) = W7 at *
      refine (awake_any _ (tab_below HT.out hB)).mono ?_
      rintro e w8 ⟨rfl, hb⟩
      have hk := five_below hk zk hb
      have zk := Nat.lt_of_lt_of_le zk hb.size
      have hd := five_below hd zd hb
      have zd := Nat.lt_of_lt_of_le zd hb.size
      have hn := five_below hn zn hb
      have zn := Nat.lt_of_lt_of_le zn hb.size
      have hc := five_below hc zc hb
      have zc := Nat.lt_of_lt_of_le zc hb.size
      have hB := hB.trans ((hb).mono hB.size)
      clear hb
      obtain ⟨kq0, kq1, kq2, kq3, kq4⟩ := id hk
      obtain ⟨dq0, dq1, dq2, dq3, dq4⟩ := id hd
      go_wp2_with fail
      clear kq0 kq1 kq2 kq3 kq4 dq0 dq1 dq2 dq3 dq4
      refine (ckb _).mono ?_
      rintro e w9 ⟨rfl, hb⟩
      have hk := five_below hk zk hb
      have zk := Nat.lt_of_lt_of_le zk hb.size
      have hd := five_below hd zd hb
      have zd := Nat.lt_of_lt_of_le zd hb.size
      have hn := five_below hn zn hb
      have zn := Nat.lt_of_lt_of_le zn hb.size
      have hc := five_below hc zc hb
      have zc := Nat.lt_of_lt_of_le zc hb.size
      have hB := hB.trans ((hb).mono hB.size)
      clear hb
      obtain ⟨nq0, nq1, nq2, nq3, nq4⟩ := id hn
      obtain ⟨dq0, dq1, dq2, dq3, dq4⟩ := id hd
      go_wp2_with fail
      clear nq0 nq1 nq2 nq3 nq4 dq0 dq1 dq2 dq3 dq4
      refine (cnb _).mono ?_
      rintro e w10 ⟨rfl, hb⟩
      have hk := five_below hk zk hb
      have zk := Nat.lt_of_lt_of_le zk hb.size
      have hd := five_below hd zd hb
      have zd := Nat.lt_of_lt_of_le zd hb.size
      have hn := five_below hn zn hb
      have zn := Nat.lt_of_lt_of_le zn hb.size
      have hc := five_below hc zc hb
      have zc := Nat.lt_of_lt_of_le zc hb.size
      have hB := hB.trans ((hb).mono hB.size)
      clear hb
      go_wp2_with fail
      go_ret
      exact ⟨rfl, hB⟩
    · obtain ⟨rfl, rfl, fc, hle⟩ := hcc rfl
      clear hcc
      have cbc := fam_comp fb fc (by decide) (by decide) (by decide) (by decide)
      have hY : intsI (keyV (verS b0 b1 b2 ⟨#[]⟩ ⟨#[]⟩) 10) (keyV (verS c0 c1 c2 ⟨#[]⟩ ⟨#[]⟩) 10) ≤ 0 := by
        have h : keyV (verS b0 b1 b2 ⟨#[]⟩ ⟨#[]⟩) 10 ≤ keyV (verS c0 c1 c2 ⟨#[]⟩ ⟨#[]⟩) 10 := hle
        rcases ints_cases (keyV (verS b0 b1 b2 ⟨#[]⟩ ⟨#[]⟩) 10) (keyV (verS c0 c1 c2 ⟨#[]⟩ ⟨#[]⟩) 10) with ⟨h, _⟩ | ⟨h, _⟩ | ⟨h, k⟩ <;> omega
      generalize intsI (keyV (verS b0 b1 b2 ⟨#[]⟩ ⟨#[]⟩) 10) (keyV (verS c0 c1 c2 ⟨#[]⟩ ⟨#[]⟩) 10) = Y at *
      clear hle fb fc
      go_enter Tryd.func12, Tryd.ntmps12
      go_wp2_with fail
      refine (ck _ HRD.out (Nat.le_refl _)).mono ?_
      rintro e w0 ⟨rfl, hb⟩
      have hB := hb
      clear hb
      go_wp2_with fail
      refine (cpl _).mono ?_
      rintro e wq ⟨rfl, rfl⟩
      go_wp2_with fail
      have hk := (room_new w0 (.int .i64 k0) (.int .i64 k1) (.int .i64 k2) (.string k3) (.string k4) 24).1
      have zk : w0.heap.size < (w0.alloc (.cells #[.int .i64 k0, .int .i64 k1, .int .i64 k2, .string k3, .string k4] 24)).heap.size := by simp
      have hB := hB.trans ((box_below w0 (.cells #[.int .i64 k0, .int .i64 k1, .int .i64 k2, .string k3, .string k4] 24)).mono hB.size)
      generalize w0.alloc (.cells #[.int .i64 k0, .int .i64 k1, .int .i64 k2, .string k3, .string k4] 24) = W1 at *
      refine (cbp _).mono ?_
      rintro e w2 ⟨rfl, hb⟩
      have hk := five_below hk zk hb
      have zk := Nat.lt_of_lt_of_le zk hb.size
      have hB := hB.trans ((hb).mono hB.size)
      clear hb
      obtain ⟨kq0, kq1, kq2, kq3, kq4⟩ := id hk
      go_wp2_with fail
      clear kq0 kq1 kq2 kq3 kq4
      have hk := five_below hk zk (box_below w2 (.cells #[.int .i64 b0, .int .i64 b1, .int .i64 b2, .string ⟨#[]⟩, .string ⟨#[]⟩] 24))
      have zk := Nat.lt_of_lt_of_le zk (box_below w2 (.cells #[.int .i64 b0, .int .i64 b1, .int .i64 b2, .string ⟨#[]⟩, .string ⟨#[]⟩] 24)).size
      have hd := (room_new w2 (.int .i64 b0) (.int .i64 b1) (.int .i64 b2) (.string ⟨#[]⟩) (.string ⟨#[]⟩) 24).1
      have zd : w2.heap.size < (w2.alloc (.cells #[.int .i64 b0, .int .i64 b1, .int .i64 b2, .string ⟨#[]⟩, .string ⟨#[]⟩] 24)).heap.size := by simp
      have hB := hB.trans ((box_below w2 (.cells #[.int .i64 b0, .int .i64 b1, .int .i64 b2, .string ⟨#[]⟩, .string ⟨#[]⟩] 24)).mono hB.size)
      generalize w2.alloc (.cells #[.int .i64 b0, .int .i64 b1, .int .i64 b2, .string ⟨#[]⟩, .string ⟨#[]⟩] 24) = W3 at *
      refine (cnx _).mono ?_
      rintro e w4 ⟨rfl, hb⟩
      have hk := five_below hk zk hb
      have zk := Nat.lt_of_lt_of_le zk hb.size
      have hd := five_below hd zd hb
      have zd := Nat.lt_of_lt_of_le zd hb.size
      have hB := hB.trans ((hb).mono hB.size)
      clear hb
      obtain ⟨kq0, kq1, kq2, kq3, kq4⟩ := id hk
      go_wp2_with fail
      clear kq0 kq1 kq2 kq3 kq4
      have hk := five_below hk zk (box_below w4 (.cells #[.int .i64 n0, .int .i64 n1, .int .i64 n2, .string ⟨#[]⟩, .string ⟨#[]⟩] 24))
      have zk := Nat.lt_of_lt_of_le zk (box_below w4 (.cells #[.int .i64 n0, .int .i64 n1, .int .i64 n2, .string ⟨#[]⟩, .string ⟨#[]⟩] 24)).size
      have hd := five_below hd zd (box_below w4 (.cells #[.int .i64 n0, .int .i64 n1, .int .i64 n2, .string ⟨#[]⟩, .string ⟨#[]⟩] 24))
      have zd := Nat.lt_of_lt_of_le zd (box_below w4 (.cells #[.int .i64 n0, .int .i64 n1, .int .i64 n2, .string ⟨#[]⟩, .string ⟨#[]⟩] 24)).size
      have hn := (room_new w4 (.int .i64 n0) (.int .i64 n1) (.int .i64 n2) (.string ⟨#[]⟩) (.string ⟨#[]⟩) 24).1
      have zn : w4.heap.size < (w4.alloc (.cells #[.int .i64 n0, .int .i64 n1, .int .i64 n2, .string ⟨#[]⟩, .string ⟨#[]⟩] 24)).heap.size := by simp
      have hB := hB.trans ((box_below w4 (.cells #[.int .i64 n0, .int .i64 n1, .int .i64 n2, .string ⟨#[]⟩, .string ⟨#[]⟩] 24)).mono hB.size)
      generalize w4.alloc (.cells #[.int .i64 n0, .int .i64 n1, .int .i64 n2, .string ⟨#[]⟩, .string ⟨#[]⟩] 24) = W5 at *
      refine (cbq _).mono ?_
      rintro e w6 ⟨rfl, hb⟩
      have hk := five_below hk zk hb
      have zk := Nat.lt_of_lt_of_le zk hb.size
      have hd := five_below hd zd hb
      have zd := Nat.lt_of_lt_of_le zd hb.size
      have hn := five_below hn zn hb
      have zn := Nat.lt_of_lt_of_le zn hb.size
      have hB := hB.trans ((hb).mono hB.size)
      clear hb
      go_wp2_with fail
      have hk := five_below hk zk (box_below w6 (.cells #[.int .i64 c0, .int .i64 c1, .int .i64 c2, .string ⟨#[]⟩, .string ⟨#[]⟩] 24))
      have zk := Nat.lt_of_lt_of_le zk (box_below w6 (.cells #[.int .i64 c0, .int .i64 c1, .int .i64 c2, .string ⟨#[]⟩, .string ⟨#[]⟩] 24)).size
      have hd := five_below hd zd (box_below w6 (.cells #[.int .i64 c0, .int .i64 c1, .int .i64 c2, .string ⟨#[]⟩, .string ⟨#[]⟩] 24))
      have zd := Nat.lt_of_lt_of_le zd (box_below w6 (.cells #[.int .i64 c0, .int .i64 c1, .int .i64 c2, .string ⟨#[]⟩, .string ⟨#[]⟩] 24)).size
      have hn := five_below hn zn (box_below w6 (.cells #[.int .i64 c0, .int .i64 c1, .int .i64 c2, .string ⟨#[]⟩, .string ⟨#[]⟩] 24))
      have zn := Nat.lt_of_lt_of_le zn (box_below w6 (.cells #[.int .i64 c0, .int .i64 c1, .int .i64 c2, .string ⟨#[]⟩, .string ⟨#[]⟩] 24)).size
      have hc := (room_new w6 (.int .i64 c0) (.int .i64 c1) (.int .i64 c2) (.string ⟨#[]⟩) (.string ⟨#[]⟩) 24).1
      have zc : w6.heap.size < (w6.alloc (.cells #[.int .i64 c0, .int .i64 c1, .int .i64 c2, .string ⟨#[]⟩, .string ⟨#[]⟩] 24)).heap.size := by simp
      have hB := hB.trans ((box_below w6 (.cells #[.int .i64 c0, .int .i64 c1, .int .i64 c2, .string ⟨#[]⟩, .string ⟨#[]⟩] 24)).mono hB.size)
      generalize w6.alloc (.cells #[.int .i64 c0, .int .i64 c1, .int .i64 c2, .string ⟨#[]⟩, .string ⟨#[]⟩] 24) = W7 at *
      refine (awake_any _ (tab_below HT.out hB)).mono ?_
      rintro e w8 ⟨rfl, hb⟩
      have hk := five_below hk zk hb
      have zk := Nat.lt_of_lt_of_le zk hb.size
      have hd := five_below hd zd hb
      have zd := Nat.lt_of_lt_of_le zd hb.size
      have hn := five_below hn zn hb
      have zn := Nat.lt_of_lt_of_le zn hb.size
      have hc := five_below hc zc hb
      have zc := Nat.lt_of_lt_of_le zc hb.size
      have hB := hB.trans ((hb).mono hB.size)
      clear hb
      obtain ⟨kq0, kq1, kq2, kq3, kq4⟩ := id hk
      obtain ⟨dq0, dq1, dq2, dq3, dq4⟩ := id hd
      go_wp2_with fail
      clear kq0 kq1 kq2 kq3 kq4 dq0 dq1 dq2 dq3 dq4
      refine (ckb _).mono ?_
      rintro e w9 ⟨rfl, hb⟩
      have hk := five_below hk zk hb
      have zk := Nat.lt_of_lt_of_le zk hb.size
      have hd := five_below hd zd hb
      have zd := Nat.lt_of_lt_of_le zd hb.size
      have hn := five_below hn zn hb
      have zn := Nat.lt_of_lt_of_le zn hb.size
      have hc := five_below hc zc hb
      have zc := Nat.lt_of_lt_of_le zc hb.size
      have hB := hB.trans ((hb).mono hB.size)
      clear hb
      obtain ⟨nq0, nq1, nq2, nq3, nq4⟩ := id hn
      obtain ⟨dq0, dq1, dq2, dq3, dq4⟩ := id hd
      go_wp2_with fail
      clear nq0 nq1 nq2 nq3 nq4 dq0 dq1 dq2 dq3 dq4
      refine (cnb _).mono ?_
      rintro e w10 ⟨rfl, hb⟩
      have hk := five_below hk zk hb
      have zk := Nat.lt_of_lt_of_le zk hb.size
      have hd := five_below hd zd hb
      have zd := Nat.lt_of_lt_of_le zd hb.size
      have hn := five_below hn zn hb
      have zn := Nat.lt_of_lt_of_le zn hb.size
      have hc := five_below hc zc hb
      have zc := Nat.lt_of_lt_of_le zc hb.size
      have hB := hB.trans ((hb).mono hB.size)
      clear hb
      obtain ⟨dq0, dq1, dq2, dq3, dq4⟩ := id hd
      obtain ⟨cq0, cq1, cq2, cq3, cq4⟩ := id hc
      go_wp2_with fail
      clear dq0 dq1 dq2 dq3 dq4 cq0 cq1 cq2 cq3 cq4
      refine (cbc _).mono ?_
      rintro e w11 ⟨rfl, hb⟩
      have hk := five_below hk zk hb
      have zk := Nat.lt_of_lt_of_le zk hb.size
      have hd := five_below hd zd hb
      have zd := Nat.lt_of_lt_of_le zd hb.size
      have hn := five_below hn zn hb
      have zn := Nat.lt_of_lt_of_le zn hb.size
      have hc := five_below hc zc hb
      have zc := Nat.lt_of_lt_of_le zc hb.size
      have hB := hB.trans ((hb).mono hB.size)
      clear hb
      go_wp2_with fail
      go_ret
      exact ⟨rfl, hB⟩

set_option maxRecDepth 100000 in
theorem lifted (os : Os) (started : os.Started) (H : Type) (enc : TypeId × Value → H) :
    ReturnsInHanded {} Tryd.checked os 12 .any (fun w args => (Rows.versionAboveSpec.pre enc Tryd.prog Tryd.f12 [] false w args ∧ laidMetH Tryd.prog Rows.versionAboveRow.laid w) ∧ sizedMet enc Tryd.prog Tryd.f12 (OpenSpec.ofChange Rows.versionAboveSpec) false w args) (Rows.versionAboveSpec.post enc Tryd.prog Tryd.f12 false true false false) := by
  refine returnsInHanded_of_change_and (C := Tryd.checked) (X := fun w _ => laidMetH Tryd.prog Rows.versionAboveRow.laid w) (fun _ _ _ hh h => h.of_heap hh) own started (by kernel_rfl) Tryd.func12
    (ChangeSpec.witness_shaped (enc := enc) (C := Tryd.checked) (os := os) (X := fun w _ => laidMetH Tryd.prog Rows.versionAboveRow.laid w) false (World.doorLaid Tryd.prog 400 os) #[.slice none 0 0, .int .i64 0] 8 rfl (World.shaped_of_RefB (by kernel_rfl) (by kernel_rfl)) (by kernel_rfl) (by kernel_rfl) (by kernel_rfl)
      (laidMetH_of_parts3 (fuel := 8) (laidMet_of_run' 8 (by kernel_rfl) (by kernel_rfl)) (by kernel_rfl) (by kernel_rfl))) ?_
  intro W base args ds gs before hval0 hW _ _ hL _
  have hval : ∀ (j : Nat) t v, Tryd.f12.params[j]? = some t → args[j]? = some v → Value.okWide Tryd.prog W .any base t v := hval0
  have hW' := hW
  obtain ⟨p, q, hA0, hV, rfl, hfz, hnd⟩ := hW
  have hA : DataW.TrodAll enc Tryd.prog W 0 (fun _ => true) true Tryd.f12.params.toList args.toList ds p := hA0
  rw [Tryd.params12] at hA hval
  obtain ⟨v0, vs0, d0, ds0, p0, q0, hargs, rfl, rfl, h0, r0⟩ := trodAll_cons hA
  obtain ⟨v1, vs1, d1, ds1, p1, q1, rfl, rfl, rfl, h1, r1⟩ := trodAll_cons r0
  obtain ⟨rfl, rfl, rfl⟩ := trodAll_nil r1
  obtain rfl : args = #[v0, v1] := by cases args; simp_all
  obtain ⟨rfl, rfl⟩ := trodVars_none hV
  obtain ⟨a0, len0, cap0, rfl⟩ := okWide_slice Tryd.underlying34 (hval 0 34 v0 rfl rfl)
  have k0 := h0
  have lt0 : ∀ x ∈ p0, x.block < W.heap.size := by obtain ⟨m, hm⟩ := k0; exact DataW.trod_lt m _ _ _ hm
  obtain ⟨z0, w0⟩ : ∃ zs, IsRow .i64 W a0 len0 cap0 zs := by
    obtain ⟨fuel, hf⟩ := h0
    rcases open_ints Tryd.underlying34 Tryd.underlying3 (by kernel_rfl) hf with ⟨hcs, _⟩ | ⟨x, l, c, zs, hcs, _, hl, hm, hz, _, hcell, hwz⟩
    · simp [Value.cells] at hcs
      obtain ⟨rfl, rfl, rfl⟩ := hcs
      exact ⟨[], .inl ⟨rfl, rfl, rfl, rfl⟩⟩
    · simp [Value.cells] at hcs
      obtain ⟨rfl, rfl, rfl⟩ := hcs
      exact ⟨zs, .inr ⟨_, rfl, hl, hm, by simpa using hz, hcell, hwz⟩⟩
  obtain ⟨a1, rfl, rfl, rfl, w1⟩ := open_int Tryd.underlying3 (hval 1 3 v1 rfl rfl) h1
  clear hA0 hval0
  refine (walk a0 len0 cap0 z0 a1 W w0 w1 (tab_of hL (by kernel_rfl) (MakeChecks.laidMetH_plain _ _ _ (by kernel_rfl)))).mono fun e W' ⟨he, bel⟩ => ?_
  subst he
  exact ⟨_, rfl, _, _, _, [], _, [], hW', trodAll_mk1 (shut_bool Tryd.underlying4 _), (trodAll_cons_mk (Below.trod laidOut (by kernel_rfl) (of_decide_eq_true (by kernel_rfl)) k0 bel lt0) (trodAll_cons_mk (shut_int Tryd.underlying3 w1) trodAll_mk0)), rfl, bel.frame _, fun h => by cases h⟩

theorem over : Rows.versionAboveRow.holds Tryd.pinned (OpenSpec.ofChange Rows.versionAboveSpec) :=
  OpenClaim.holds_of_wide 12 Tryd.f12 rfl rfl rfl rfl rfl rfl rfl ⟨rfl, rfl, rfl, rfl, rfl⟩ rfl rfl rfl rfl rfl (by kernel_rfl) Tryd.func12 (by kernel_rfl)
    (of_decide_eq_true (by kernel_rfl)) (by unfold Func.isWrapper; first | (rw [if_pos (by decide +kernel)]; kernel_rfl) | (rw [if_neg (by decide +kernel)]; exact ⟨rfl, rfl⟩))
    (fun os started H enc _ => lifted os started H enc)

theorem proved : Rows.VersionAboveSaid := over
theorem plain (f : FuncId) (fn : Func) (hf : Tryd.pinned.checked.prog.funcNamed "linchpin/linchpinlaw2.VersionAbove" = some f) (hfn : Tryd.pinned.checked.prog.funcs[f]? = some fn) :
    false = Tryd.pinned.checked.prog.looks [] ∧ ∀ (j : Nat) t, fn.params[j]? = some t → Tryd.pinned.checked.prog.wantsStandIn t = false := by
  obtain rfl : f = 12 := Option.some.inj ((show Tryd.prog.funcNamed "linchpin/linchpinlaw2.VersionAbove" = some 12 by kernel_rfl).symm.trans hf) |>.symm
  obtain rfl : fn = Tryd.f12 := (Option.some.inj (Tryd.func12.symm.trans hfn)).symm
  refine ⟨by kernel_rfl, fun j t ht => ?_⟩
  rw [Tryd.params12] at ht
  have hm : t ∈ [34, 3] := by simpa using Array.mem_of_getElem? ht
  have hall : ([34, 3].all fun u => !Tryd.prog.wantsStandIn u) = true := by kernel_rfl
  exact (show Tryd.prog.wantsStandIn t = false by simpa using List.all_eq_true.1 hall t hm)

theorem card : Rows.VersionAboveCardSaid :=
  Claim7.holds_tied_plain_at .later [] _ _ _ _ proved (fun _ h => by cases h) (by kernel_rfl) (fun _ h => by cases h) versionAbove_row_tie rfl ⟨rfl, rfl⟩ (by kernel_rfl) rfl plain (by kernel_rfl)
#print axioms card
end Go.Proofs.YtabcpbmnemfnbaaDoor.versionAbove
