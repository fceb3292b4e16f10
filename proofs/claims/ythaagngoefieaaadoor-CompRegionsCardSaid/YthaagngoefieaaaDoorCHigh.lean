/-
  The walks of chapter 6's high, the program's and the reference's, and of the reference's First, Last, Before, Behind of chapter 3. Conditions: Pre and Build have at most 1048576 bytes.
-/
import Derived.Test.YthaagngoefieaaaDoorG5
import Derived.Test.YthaagngoefieaaaDoorVBump
namespace Go.Proofs.YthaagngoefieaaaDoor
open Go.ChangeShapes Go.WideShapes Go.ChangeAt Go.RowKit
set_option linter.unusedVariables false
set_option linter.unusedSimpArgs false

def nilCut : List Value := [.int .i64 0, .int .i64 0, .int .i64 0, .int .i64 0, .string ⟨#[]⟩, .string ⟨#[]⟩, .bool false]
theorem first_any (w : World) : Calls Tryd.prog 86 #[] w fun e w' => e = .returned (cutV firstC) ∧ Below w.heap.size w w' := by
  go_enter Tryd.func86, Tryd.ntmps86
  go_wp2
  go_returns
  exact ⟨rfl, box_below _ _⟩
theorem last_any (w : World) : Calls Tryd.prog 87 #[] w fun e w' => e = .returned (cutV lastC) ∧ Below w.heap.size w w' := by
  go_enter Tryd.func87, Tryd.ntmps87
  go_wp2
  go_returns
  exact ⟨rfl, box_below _ _⟩
theorem before_res (W : World) (tmps : Array Value) (b : Nat) {x0 x1 x2 x3 x4 x5 x6 : Value} (h2 : tmps[2]?.getD undef = .pointer (some ⟨b, 0, none⟩)) (h : Cells W b [x0, x1, x2, x3, x4, x5, x6]) :
    (results Tryd.f63 tmps).run Tryd.prog W = .ok (.agg #[x0, x1, x2, x3, x4, x5, x6]) W := by
  obtain ⟨k0, k1, k2, k3, k4, k5, k6⟩ := cells7L h
  simp [results, Tryd.results63, h2, go_sem, k0, k1, k2, k3, k4, k5, k6]
theorem behind_res (W : World) (tmps : Array Value) (b : Nat) {x0 x1 x2 x3 x4 x5 x6 : Value} (h2 : tmps[2]?.getD undef = .pointer (some ⟨b, 0, none⟩)) (h : Cells W b [x0, x1, x2, x3, x4, x5, x6]) :
    (results Tryd.f89 tmps).run Tryd.prog W = .ok (.agg #[x0, x1, x2, x3, x4, x5, x6]) W := by
  obtain ⟨k0, k1, k2, k3, k4, k5, k6⟩ := cells7L h
  simp [results, Tryd.results89, h2, go_sem, k0, k1, k2, k3, k4, k5, k6]
set_option maxHeartbeats 1000000 in
theorem before_any (a b c : Int) (p q : ByteArray) (w : World) : Calls Tryd.prog 63 #[.agg #[.int .i64 a, .int .i64 b, .int .i64 c, .string p, .string q]] w fun e w' => e = .returned (cutW 0 a b c p ⟨#[]⟩ false) ∧ Below w.heap.size w w' := by
  go_enter Tryd.func63, Tryd.ntmps63
  go_wp2_with fail
  refine (rcore_any a b c p q _).mono ?_
  rintro r w1 ⟨rfl, hb1⟩
  have hL := loc_call (loc_new (loc_new (loc_start w) w.heap.size [.int .i64 a, .int .i64 b, .int .i64 c, .string p, .string q] 24) (w.heap.size + 1) nilCut 48) hb1
  clear hb1
  obtain ⟨c0, c1, c2, c3, c4, c5, c6⟩ := cells7L (loc_own hL 1 rfl).1
  have f := (loc_own hL 1 rfl).2
  go_wp2_with fail
  have hL2 := loc_put hL 1 0 [.int .i64 0, .int .i64 a, .int .i64 b, .int .i64 c, .string p, .string ⟨#[]⟩, .bool false] rfl (by simp [nilCut])
  refine bodyPost_ret (before_res _ _ (w.heap.size + 1) rfl (loc_own hL2 1 rfl).1) rfl ?_
  exact ⟨rfl, hL2.1⟩
set_option maxHeartbeats 1000000 in
theorem behindr_any (a b c : Int) (p q : ByteArray) (w : World) : Calls Tryd.prog 89 #[.agg #[.int .i64 a, .int .i64 b, .int .i64 c, .string p, .string q]] w fun e w' => e = .returned (cutW 0 a b c p ⟨#[]⟩ true) ∧ Below w.heap.size w w' := by
  go_enter Tryd.func89, Tryd.ntmps89
  go_wp2_with fail
  refine (rcore_any a b c p q _).mono ?_
  rintro r w1 ⟨rfl, hb1⟩
  have hL := loc_call (loc_new (loc_new (loc_start w) w.heap.size [.int .i64 a, .int .i64 b, .int .i64 c, .string p, .string q] 24) (w.heap.size + 1) nilCut 48) hb1
  clear hb1
  obtain ⟨c0, c1, c2, c3, c4, c5, c6⟩ := cells7L (loc_own hL 1 rfl).1
  have f := (loc_own hL 1 rfl).2
  go_wp2_with fail
  have hL2 := loc_put hL 1 0 [.int .i64 0, .int .i64 a, .int .i64 b, .int .i64 c, .string p, .string ⟨#[]⟩, .bool true] rfl (by simp [nilCut])
  refine bodyPost_ret (behind_res _ _ (w.heap.size + 1) rfl (loc_own hL2 1 rfl).1) rfl ?_
  exact ⟨rfl, hL2.1⟩

/-- A place, of what is left of the places. -/
def plI (k : Nat) : Int := (k : Int) - 1
theorem high_res (W : World) (tmps : Array Value) (b : Nat) {x0 x1 x2 x3 x4 x5 x6 : Value} (h2 : tmps[4]?.getD undef = .pointer (some ⟨b, 0, none⟩)) (h : Cells W b [x0, x1, x2, x3, x4, x5, x6]) :
    (results Tryd.f54 tmps).run Tryd.prog W = .ok (.agg #[x0, x1, x2, x3, x4, x5, x6]) W := by
  obtain ⟨k0, k1, k2, k3, k4, k5, k6⟩ := cells7L h
  simp [results, Tryd.results54, h2, go_sem, k0, k1, k2, k3, k4, k5, k6]
theorem rhigh_res (W : World) (tmps : Array Value) (b : Nat) {x0 x1 x2 x3 x4 x5 x6 : Value} (h2 : tmps[4]?.getD undef = .pointer (some ⟨b, 0, none⟩)) (h : Cells W b [x0, x1, x2, x3, x4, x5, x6]) :
    (results Tryd.f90 tmps).run Tryd.prog W = .ok (.agg #[x0, x1, x2, x3, x4, x5, x6]) W := by
  obtain ⟨k0, k1, k2, k3, k4, k5, k6⟩ := cells7L h
  simp [results, Tryd.results90, h2, go_sem, k0, k1, k2, k3, k4, k5, k6]
theorem bump_is {v r : Ver} {k : Int} (h : bumpV v k = some r) : ∃ x y z, r = relV x y z := by
  have hi : ∀ u : Ver, ifMay u = some r → u = r := by
    intro u hu
    unfold ifMay at hu
    split at hu
    · exact Option.some.inj hu
    · cases hu
  unfold bumpV at h
  split at h
  · split at h
    · exact ⟨_, _, _, (hi _ h).symm⟩
    · split at h
      · exact ⟨_, _, _, (hi _ h).symm⟩
      · split at h
        · exact ⟨_, _, _, (hi _ h).symm⟩
        · cases h
  · cases h
theorem high_yes {v r : Ver} {k : Nat} (h : bumpV v k = some r) : highC v (k + 1) = ⟨0, r, false⟩ := by rw [highC, h]
theorem high_no {v : Ver} {k : Nat} (h : bumpV v k = none) : highC v (k + 1) = highC v k := by rw [highC, h]
/-- The loop's state. -/
def HighAt (w W : World) (a b c : Int) (p q : ByteArray) (n k : Nat) : Prop :=
  highC (verS a b c p q) k = highC (verS a b c p q) n ∧ Loc w W [(w.heap.size, [.int .i64 a, .int .i64 b, .int .i64 c, .string p, .string q]), (w.heap.size + 1, nilCut)]
set_option maxRecDepth 8192 in
set_option maxHeartbeats 4000000 in
theorem high_any (a b c : Int) (p q : ByteArray) (n : Nat) (w : World) (hn : n ≤ 3) (hp : p.size ≤ 1048576) (hq : q.size ≤ 1048576) :
    Calls Tryd.prog 54 #[.agg #[.int .i64 a, .int .i64 b, .int .i64 c, .string p, .string q], .int .i64 (plI n)] w fun r w' => r = .returned (cutV (highC (verS a b c p q) n)) ∧ Below w.heap.size w w' := by
  have i1 : -1 ≤ plI n := by unfold plI; omega
  have i2 : plI n ≤ 2 := by unfold plI; omega
  go_enter Tryd.func54, Tryd.ntmps54
  go_wp2
  go_loopw [1] (fun i wr => ∃ k : Nat, k ≤ n ∧ i = .int .i64 (plI k) ∧ HighAt w wr a b c p q n k) (fun i _ => (intOf i + 1).toNat)
  case atStart =>
    exact ⟨n, Nat.le_refl _, rfl, rfl, loc_new (loc_new (loc_start w) w.heap.size [.int .i64 a, .int .i64 b, .int .i64 c, .string p, .string q] _) (w.heap.size + 1) nilCut _⟩
  case round =>
    obtain ⟨k, hk, rfl, hst⟩ := hrel
    have HS := Lib.hid hst.1
    have hL := hst.2
    clear hst
    have HK := Lib.hid hk
    rcases (show k = 0 ∨ k = 1 ∨ k = 2 ∨ k = 3 by omega) with rfl | rfl | rfl | rfl
    · rw [show plI 0 = -1 from rfl]
      clear i1 i2 hk
      obtain ⟨d0, d1, d2, d3, d4, d5, d6⟩ := cells7L (loc_own hL 1 rfl).1
      have f := (loc_own hL 1 rfl).2
      go_wp2_with fail
      have hL2 := loc_put hL 1 0 [.int .i64 1, .int .i64 0, .int .i64 0, .int .i64 0, .string ⟨#[]⟩, .string ⟨#[]⟩, .bool false] rfl (by simp [nilCut])
      refine bodyPost_ret (high_res _ _ (w.heap.size + 1) rfl (loc_own hL2 1 rfl).1) rfl ?_
      exact ⟨by rw [← HS.out]; rfl, hL2.1⟩
    · rw [show plI 1 = 0 from rfl]
      have cb := fun W => bump_any a b c p q 0 W hp hq
      obtain ⟨c0, c1, c2, c3, c4⟩ := cells5L (loc_own hL 0 rfl).1
      clear i1 i2 hk
      cases hbm : bumpV (verS a b c p q) 0 with
      | none =>
        have HN := Lib.hid ((high_no (k := 0) hbm).symm.trans HS.out)
        rw [hbm] at cb
        clear hbm HS
        go_wp2_with fail
        refine (cb _).mono ?_
        rintro r w1 ⟨rfl, hb1⟩
        have hL := loc_box (loc_call hL hb1) (.cells #[.int .i64 0, .int .i64 0, .int .i64 0, .string ⟨#[]⟩, .string ⟨#[]⟩] 24)
        clear hb1
        dsimp only [bumpVal]
        go_wp2_with fail
        go_roundw
        case rel => exact ⟨0, by have := HK.out; omega, rfl, HN.out, hL⟩
        case measure => simp [intOf]
      | some r =>
        obtain ⟨x, y, z, rfl⟩ := bump_is hbm
        have HN := Lib.hid ((high_yes (k := 0) hbm).symm.trans HS.out)
        rw [hbm] at cb
        clear hbm HS
        go_wp2_with fail
        refine (cb _).mono ?_
        rintro r w1 ⟨rfl, hb1⟩
        have hL := loc_box (loc_call hL hb1) (.cells #[.int .i64 x, .int .i64 y, .int .i64 z, .string ⟨#[]⟩, .string ⟨#[]⟩] 24)
        clear hb1 c0 c1 c2 c3 c4
        obtain ⟨d0, d1, d2, d3, d4, d5, d6⟩ := cells7L (loc_own (loc_call (loc_call hL (Below.refl _ _)) (Below.refl _ _)) 1 rfl).1
        have f := (loc_own hL 1 rfl).2
        dsimp only [bumpVal, relV]
        go_wp2_with fail
        have hL2 := loc_put hL 1 0 [.int .i64 0, .int .i64 x, .int .i64 y, .int .i64 z, .string ⟨#[]⟩, .string ⟨#[]⟩, .bool false] rfl (by simp [nilCut])
        refine bodyPost_ret (high_res _ _ (w.heap.size + 1) rfl (loc_own hL2 1 rfl).1) rfl ?_
        exact ⟨by rw [← HN.out]; rfl, hL2.1⟩
    · rw [show plI 2 = 1 from rfl]
      have cb := fun W => bump_any a b c p q 1 W hp hq
      obtain ⟨c0, c1, c2, c3, c4⟩ := cells5L (loc_own hL 0 rfl).1
      clear i1 i2 hk
      cases hbm : bumpV (verS a b c p q) 1 with
      | none =>
        have HN := Lib.hid ((high_no (k := 1) hbm).symm.trans HS.out)
        rw [hbm] at cb
        clear hbm HS
        go_wp2_with fail
        refine (cb _).mono ?_
        rintro r w1 ⟨rfl, hb1⟩
        have hL := loc_box (loc_call hL hb1) (.cells #[.int .i64 0, .int .i64 0, .int .i64 0, .string ⟨#[]⟩, .string ⟨#[]⟩] 24)
        clear hb1
        dsimp only [bumpVal]
        go_wp2_with fail
        go_roundw
        case rel => exact ⟨1, by have := HK.out; omega, rfl, HN.out, hL⟩
        case measure => simp [intOf]
      | some r =>
        obtain ⟨x, y, z, rfl⟩ := bump_is hbm
        have HN := Lib.hid ((high_yes (k := 1) hbm).symm.trans HS.out)
        rw [hbm] at cb
        clear hbm HS
        go_wp2_with fail
        refine (cb _).mono ?_
        rintro r w1 ⟨rfl, hb1⟩
        have hL := loc_box (loc_call hL hb1) (.cells #[.int .i64 x, .int .i64 y, .int .i64 z, .string ⟨#[]⟩, .string ⟨#[]⟩] 24)
        clear hb1 c0 c1 c2 c3 c4
        obtain ⟨d0, d1, d2, d3, d4, d5, d6⟩ := cells7L (loc_own (loc_call (loc_call hL (Below.refl _ _)) (Below.refl _ _)) 1 rfl).1
        have f := (loc_own hL 1 rfl).2
        dsimp only [bumpVal, relV]
        go_wp2_with fail
        have hL2 := loc_put hL 1 0 [.int .i64 0, .int .i64 x, .int .i64 y, .int .i64 z, .string ⟨#[]⟩, .string ⟨#[]⟩, .bool false] rfl (by simp [nilCut])
        refine bodyPost_ret (high_res _ _ (w.heap.size + 1) rfl (loc_own hL2 1 rfl).1) rfl ?_
        exact ⟨by rw [← HN.out]; rfl, hL2.1⟩
    · rw [show plI 3 = 2 from rfl]
      have cb := fun W => bump_any a b c p q 2 W hp hq
      obtain ⟨c0, c1, c2, c3, c4⟩ := cells5L (loc_own hL 0 rfl).1
      clear i1 i2 hk
      cases hbm : bumpV (verS a b c p q) 2 with
      | none =>
        have HN := Lib.hid ((high_no (k := 2) hbm).symm.trans HS.out)
        rw [hbm] at cb
        clear hbm HS
        go_wp2_with fail
        refine (cb _).mono ?_
        rintro r w1 ⟨rfl, hb1⟩
        have hL := loc_box (loc_call hL hb1) (.cells #[.int .i64 0, .int .i64 0, .int .i64 0, .string ⟨#[]⟩, .string ⟨#[]⟩] 24)
        clear hb1
        dsimp only [bumpVal]
        go_wp2_with fail
        go_roundw
        case rel => exact ⟨2, by have := HK.out; omega, rfl, HN.out, hL⟩
        case measure => simp [intOf]
      | some r =>
        obtain ⟨x, y, z, rfl⟩ := bump_is hbm
        have HN := Lib.hid ((high_yes (k := 2) hbm).symm.trans HS.out)
        rw [hbm] at cb
        clear hbm HS
        go_wp2_with fail
        refine (cb _).mono ?_
        rintro r w1 ⟨rfl, hb1⟩
        have hL := loc_box (loc_call hL hb1) (.cells #[.int .i64 x, .int .i64 y, .int .i64 z, .string ⟨#[]⟩, .string ⟨#[]⟩] 24)
        clear hb1 c0 c1 c2 c3 c4
        obtain ⟨d0, d1, d2, d3, d4, d5, d6⟩ := cells7L (loc_own (loc_call (loc_call hL (Below.refl _ _)) (Below.refl _ _)) 1 rfl).1
        have f := (loc_own hL 1 rfl).2
        dsimp only [bumpVal, relV]
        go_wp2_with fail
        have hL2 := loc_put hL 1 0 [.int .i64 0, .int .i64 x, .int .i64 y, .int .i64 z, .string ⟨#[]⟩, .string ⟨#[]⟩, .bool false] rfl (by simp [nilCut])
        refine bodyPost_ret (high_res _ _ (w.heap.size + 1) rfl (loc_own hL2 1 rfl).1) rfl ?_
        exact ⟨by rw [← HN.out]; rfl, hL2.1⟩
set_option maxRecDepth 8192 in
set_option maxHeartbeats 4000000 in
theorem rhigh_any (a b c : Int) (p q : ByteArray) (n : Nat) (w : World) (hn : n ≤ 3) (hp : p.size ≤ 1048576) (hq : q.size ≤ 1048576) :
    Calls Tryd.prog 90 #[.agg #[.int .i64 a, .int .i64 b, .int .i64 c, .string p, .string q], .int .i64 (plI n)] w fun r w' => r = .returned (cutV (highC (verS a b c p q) n)) ∧ Below w.heap.size w w' := by
  have i1 : -1 ≤ plI n := by unfold plI; omega
  have i2 : plI n ≤ 2 := by unfold plI; omega
  go_enter Tryd.func90, Tryd.ntmps90
  go_wp2
  go_loopw [1] (fun i wr => ∃ k : Nat, k ≤ n ∧ i = .int .i64 (plI k) ∧ HighAt w wr a b c p q n k) (fun i _ => (intOf i + 1).toNat)
  case atStart =>
    exact ⟨n, Nat.le_refl _, rfl, rfl, loc_new (loc_new (loc_start w) w.heap.size [.int .i64 a, .int .i64 b, .int .i64 c, .string p, .string q] _) (w.heap.size + 1) nilCut _⟩
  case round =>
    obtain ⟨k, hk, rfl, hst⟩ := hrel
    have HS := Lib.hid hst.1
    have hL := hst.2
    clear hst
    have HK := Lib.hid hk
    rcases (show k = 0 ∨ k = 1 ∨ k = 2 ∨ k = 3 by omega) with rfl | rfl | rfl | rfl
    · rw [show plI 0 = -1 from rfl]
      clear i1 i2 hk
      go_wp2_with fail
      refine (last_any _).mono ?_
      rintro r w1 ⟨rfl, hb1⟩
      have hL := loc_call hL hb1
      clear hb1
      dsimp only [cutV, cutCells, lastC, noVer]
      obtain ⟨d0, d1, d2, d3, d4, d5, d6⟩ := cells7L (loc_own hL 1 rfl).1
      have f := (loc_own hL 1 rfl).2
      go_wp2_with fail
      have hL2 := loc_put hL 1 0 [.int .i64 1, .int .i64 0, .int .i64 0, .int .i64 0, .string ⟨#[]⟩, .string ⟨#[]⟩, .bool false] rfl (by simp [nilCut])
      refine bodyPost_ret (rhigh_res _ _ (w.heap.size + 1) rfl (loc_own hL2 1 rfl).1) rfl ?_
      exact ⟨by rw [← HS.out]; rfl, hL2.1⟩
    · rw [show plI 1 = 0 from rfl]
      have cb := fun W => rbump_any a b c p q 0 W hp hq
      obtain ⟨c0, c1, c2, c3, c4⟩ := cells5L (loc_own hL 0 rfl).1
      clear i1 i2 hk
      cases hbm : bumpV (verS a b c p q) 0 with
      | none =>
        have HN := Lib.hid ((high_no (k := 0) hbm).symm.trans HS.out)
        rw [hbm] at cb
        clear hbm HS
        go_wp2_with fail
        refine (cb _).mono ?_
        rintro r w1 ⟨rfl, hb1⟩
        have hL := loc_box (loc_call hL hb1) (.cells #[.int .i64 0, .int .i64 0, .int .i64 0, .string ⟨#[]⟩, .string ⟨#[]⟩] 24)
        clear hb1
        dsimp only [bumpVal]
        go_wp2_with fail
        go_roundw
        case rel => exact ⟨0, by have := HK.out; omega, rfl, HN.out, hL⟩
        case measure => simp [intOf]
      | some r =>
        obtain ⟨x, y, z, rfl⟩ := bump_is hbm
        have HN := Lib.hid ((high_yes (k := 0) hbm).symm.trans HS.out)
        rw [hbm] at cb
        clear hbm HS
        go_wp2_with fail
        refine (cb _).mono ?_
        rintro r w1 ⟨rfl, hb1⟩
        have hL := loc_call hL hb1
        clear hb1 c0 c1 c2 c3 c4
        dsimp only [bumpVal, relV]
        go_wp2_with fail
        have hL := loc_box hL (.cells #[.int .i64 x, .int .i64 y, .int .i64 z, .string ⟨#[]⟩, .string ⟨#[]⟩] 24)
        refine (before_any x y z ⟨#[]⟩ ⟨#[]⟩ _).mono ?_
        rintro r w2 ⟨rfl, hb2⟩
        have hL := loc_call hL hb2
        clear hb2
        obtain ⟨d0, d1, d2, d3, d4, d5, d6⟩ := cells7L (loc_own hL 1 rfl).1
        have f := (loc_own hL 1 rfl).2
        unfold cutW
        go_wp2_with fail
        have hL2 := loc_put hL 1 0 [.int .i64 0, .int .i64 x, .int .i64 y, .int .i64 z, .string ⟨#[]⟩, .string ⟨#[]⟩, .bool false] rfl (by simp [nilCut])
        refine bodyPost_ret (rhigh_res _ _ (w.heap.size + 1) rfl (loc_own hL2 1 rfl).1) rfl ?_
        exact ⟨by rw [← HN.out]; rfl, hL2.1⟩
    · rw [show plI 2 = 1 from rfl]
      have cb := fun W => rbump_any a b c p q 1 W hp hq
      obtain ⟨c0, c1, c2, c3, c4⟩ := cells5L (loc_own hL 0 rfl).1
      clear i1 i2 hk
      cases hbm : bumpV (verS a b c p q) 1 with
      | none =>
        have HN := Lib.hid ((high_no (k := 1) hbm).symm.trans HS.out)
        rw [hbm] at cb
        clear hbm HS
        go_wp2_with fail
        refine (cb _).mono ?_
        rintro r w1 ⟨rfl, hb1⟩
        have hL := loc_box (loc_call hL hb1) (.cells #[.int .i64 0, .int .i64 0, .int .i64 0, .string ⟨#[]⟩, .string ⟨#[]⟩] 24)
        clear hb1
        dsimp only [bumpVal]
        go_wp2_with fail
        go_roundw
        case rel => exact ⟨1, by have := HK.out; omega, rfl, HN.out, hL⟩
        case measure => simp [intOf]
      | some r =>
        obtain ⟨x, y, z, rfl⟩ := bump_is hbm
        have HN := Lib.hid ((high_yes (k := 1) hbm).symm.trans HS.out)
        rw [hbm] at cb
        clear hbm HS
        go_wp2_with fail
        refine (cb _).mono ?_
        rintro r w1 ⟨rfl, hb1⟩
        have hL := loc_call hL hb1
        clear hb1 c0 c1 c2 c3 c4
        dsimp only [bumpVal, relV]
        go_wp2_with fail
        have hL := loc_box hL (.cells #[.int .i64 x, .int .i64 y, .int .i64 z, .string ⟨#[]⟩, .string ⟨#[]⟩] 24)
        refine (before_any x y z ⟨#[]⟩ ⟨#[]⟩ _).mono ?_
        rintro r w2 ⟨rfl, hb2⟩
        have hL := loc_call hL hb2
        clear hb2
        obtain ⟨d0, d1, d2, d3, d4, d5, d6⟩ := cells7L (loc_own hL 1 rfl).1
        have f := (loc_own hL 1 rfl).2
        unfold cutW
        go_wp2_with fail
        have hL2 := loc_put hL 1 0 [.int .i64 0, .int .i64 x, .int .i64 y, .int .i64 z, .string ⟨#[]⟩, .string ⟨#[]⟩, .bool false] rfl (by simp [nilCut])
        refine bodyPost_ret (rhigh_res _ _ (w.heap.size + 1) rfl (loc_own hL2 1 rfl).1) rfl ?_
        exact ⟨by rw [← HN.out]; rfl, hL2.1⟩
    · rw [show plI 3 = 2 from rfl]
      have cb := fun W => rbump_any a b c p q 2 W hp hq
      obtain ⟨c0, c1, c2, c3, c4⟩ := cells5L (loc_own hL 0 rfl).1
      clear i1 i2 hk
      cases hbm : bumpV (verS a b c p q) 2 with
      | none =>
        have HN := Lib.hid ((high_no (k := 2) hbm).symm.trans HS.out)
        rw [hbm] at cb
        clear hbm HS
        go_wp2_with fail
        refine (cb _).mono ?_
        rintro r w1 ⟨rfl, hb1⟩
        have hL := loc_box (loc_call hL hb1) (.cells #[.int .i64 0, .int .i64 0, .int .i64 0, .string ⟨#[]⟩, .string ⟨#[]⟩] 24)
        clear hb1
        dsimp only [bumpVal]
        go_wp2_with fail
        go_roundw
        case rel => exact ⟨2, by have := HK.out; omega, rfl, HN.out, hL⟩
        case measure => simp [intOf]
      | some r =>
        obtain ⟨x, y, z, rfl⟩ := bump_is hbm
        have HN := Lib.hid ((high_yes (k := 2) hbm).symm.trans HS.out)
        rw [hbm] at cb
        clear hbm HS
        go_wp2_with fail
        refine (cb _).mono ?_
        rintro r w1 ⟨rfl, hb1⟩
        have hL := loc_call hL hb1
        clear hb1 c0 c1 c2 c3 c4
        dsimp only [bumpVal, relV]
        go_wp2_with fail
        have hL := loc_box hL (.cells #[.int .i64 x, .int .i64 y, .int .i64 z, .string ⟨#[]⟩, .string ⟨#[]⟩] 24)
        refine (before_any x y z ⟨#[]⟩ ⟨#[]⟩ _).mono ?_
        rintro r w2 ⟨rfl, hb2⟩
        have hL := loc_call hL hb2
        clear hb2
        obtain ⟨d0, d1, d2, d3, d4, d5, d6⟩ := cells7L (loc_own hL 1 rfl).1
        have f := (loc_own hL 1 rfl).2
        unfold cutW
        go_wp2_with fail
        have hL2 := loc_put hL 1 0 [.int .i64 0, .int .i64 x, .int .i64 y, .int .i64 z, .string ⟨#[]⟩, .string ⟨#[]⟩, .bool false] rfl (by simp [nilCut])
        refine bodyPost_ret (rhigh_res _ _ (w.heap.size + 1) rfl (loc_own hL2 1 rfl).1) rfl ?_
        exact ⟨by rw [← HN.out]; rfl, hL2.1⟩
end Go.Proofs.YthaagngoefieaaaDoor
