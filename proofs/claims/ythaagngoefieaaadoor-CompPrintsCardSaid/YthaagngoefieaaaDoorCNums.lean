/-
  The walk of chapter 6's reference numbers. Conditions: the list reads as texts.
-/
import Derived.Test.YthaagngoefieaaaDoorCPlain
import Derived.Test.YthaagngoefieaaaDoorRd
import Derived.Test.YthaagngoefieaaaDoorIdRNumber
import Derived.Deep.DeepCutAuto
import Derived.Deep.QuietTactic
import Derived.BigQuiet
import Derived.Test.YthaagngoefieaaaDoorLoc
namespace Go.Proofs.YthaagngoefieaaaDoor
open Go.ChangeShapes Go.WideShapes Go.ChangeAt Go.RowKit
set_option linter.unusedVariables false
set_option linter.unusedSimpArgs false

def numsV6 (x : Option (Int × Int × Int)) : Value :=
  match x with
  | some (a, b, c) => .tuple #[.agg #[.int .i64 a, .int .i64 b, .int .i64 c, .string ⟨#[]⟩, .string ⟨#[]⟩], .bool true]
  | none => .tuple #[.agg #[.int .i64 0, .int .i64 0, .int .i64 0, .string ⟨#[]⟩, .string ⟨#[]⟩], .bool false]

/-- The number of a list's text; 0 behind its end. -/
def numAt (ps : List (List UInt8)) (j : Nat) : Int := match ps[j]? with | some p => ((numB p).1 : Int) | none => 0
def numsTo (ps : List (List UInt8)) (k : Nat) : List Int := [if 0 < k then numAt ps 0 else 0, if 1 < k then numAt ps 1 else 0, if 2 < k then numAt ps 2 else 0]
def okTo (ps : List (List UInt8)) (k : Nat) : Prop := ∀ j p, j < k → ps[j]? = some p → (numB p).2 = true
theorem numsTo_set (ps : List (List UInt8)) {k : Nat} (h : k < 3) : (numsTo ps k).set k (numAt ps k) = numsTo ps (k + 1) := by
  rcases (show k = 0 ∨ k = 1 ∨ k = 2 by omega) with rfl | rfl | rfl <;> simp [numsTo]
theorem numsTo_own (ps : List (List UInt8)) {k : Nat} (h : k < 3) : (numsTo ps k)[k]? = some 0 := by
  rcases (show k = 0 ∨ k = 1 ∨ k = 2 by omega) with rfl | rfl | rfl <;> simp [numsTo]
theorem okTo_succ {ps : List (List UInt8)} {k : Nat} {p : List UInt8} (h : okTo ps k) (hp : ps[k]? = some p) (hk : (numB p).2 = true) : okTo ps (k + 1) := by
  intro j q hj hq
  rcases Nat.lt_succ_iff_lt_or_eq.1 hj with h1 | rfl
  · exact h j q h1 hq
  · rw [hp] at hq; cases hq; exact hk
theorem nums_long {ps : List (List UInt8)} (h : 3 < ps.length) : numsL ps = none := by
  match ps, h with
  | _ :: _ :: _ :: _ :: _, _ => rfl
theorem nums_all {ps : List (List UInt8)} (h : ps.length ≤ 3) (ok : okTo ps ps.length) : ∃ a b c, numsTo ps ps.length = [a, b, c] ∧ numsL ps = some (a, b, c) := by
  match ps, h with
  | [], _ => exact ⟨0, 0, 0, rfl, rfl⟩
  | [x], _ =>
    have h0 := ok 0 x (by simp) rfl
    refine ⟨_, _, _, rfl, ?_⟩
    simp [numsL, h0, numAt]
  | [x, y], _ =>
    have h0 := ok 0 x (by simp) rfl
    have h1 := ok 1 y (by simp) rfl
    refine ⟨_, _, _, rfl, ?_⟩
    simp [numsL, h0, h1, numAt]
  | [x, y, z], _ =>
    have h0 := ok 0 x (by simp) rfl
    have h1 := ok 1 y (by simp) rfl
    have h2 := ok 2 z (by simp) rfl
    refine ⟨_, _, _, rfl, ?_⟩
    simp [numsL, h0, h1, h2, numAt]
theorem nums_stop {ps : List (List UInt8)} {k : Nat} {p : List UInt8} (h : ps.length ≤ 3) (hp : ps[k]? = some p) (hk : (numB p).2 = false) : numsL ps = none := by
  match ps, h with
  | [], _ => simp at hp
  | [x], _ =>
    match k, hp with
    | 0, hp => simp at hp; subst hp; simp [numsL, hk]
  | [x, y], _ =>
    match k, hp with
    | 0, hp => simp at hp; subst hp; simp [numsL, hk]
    | 1, hp => simp at hp; subst hp; simp [numsL, hk]
  | [x, y, z], _ =>
    match k, hp with
    | 0, hp => simp at hp; subst hp; simp [numsL, hk]
    | 1, hp => simp at hp; subst hp; simp [numsL, hk]
    | 2, hp => simp at hp; subst hp; simp [numsL, hk]

theorem rnums_res (W : World) (tmps : Array Value) (b : Nat) {x0 x1 x2 x3 x4 : Value} (h2 : tmps[2]?.getD undef = .pointer (some ⟨b, 0, none⟩)) (h : Cells W b [x0, x1, x2, x3, x4]) :
    (results Tryd.f38 tmps).run Tryd.prog W = .ok (.tuple #[.agg #[x0, x1, x2, x3, x4], tmps[3]?.getD undef]) W := by
  obtain ⟨k0, k1, k2, k3, k4⟩ := cells5L h
  simp [results, Tryd.results38, h2, go_sem, k0, k1, k2, k3, k4]

def nil5 : List Value := [.int .i64 0, .int .i64 0, .int .i64 0, .string ⟨#[]⟩, .string ⟨#[]⟩]
/-- The loop's state. -/
def NumsAt (w W : World) (ps : List (List UInt8)) (k : Nat) : Prop :=
  okTo ps k ∧ Loc w W [(w.heap.size, nil5), (w.heap.size + 1, (numsTo ps k).map (Value.int .i64))]

set_option maxRecDepth 8192 in
set_option maxHeartbeats 2000000 in
theorem rnums6_any (A : Option Addr) (n c B : Nat) (ps : List (List UInt8)) (w : World) (h : Rd w B A n (BS ps)) (hB : B ≤ w.heap.size) (hn : n ≤ 1073741824) (hs : ∀ p ∈ ps, p.length ≤ 1048576) :
    Calls Tryd.prog 38 #[.slice A n c] w fun e w' => e = .returned (numsV6 (numsL ps)) ∧ Below w.heap.size w w' := by
  have hpl : ps.length = n := by have := h.1; rwa [bs_len] at this
  by_cases h3 : n ≤ 3
  · have HP := Lib.hid hpl
    have HS := Lib.hid hs
    have H := Lib.hid h
    have i0 : ¬ (3 : Int) < (n : Int) := by omega
    clear h hpl hs
    go_enter Tryd.func38, Tryd.ntmps38
    go_wp2
    go_loopw [5] (fun i wr => ∃ k : Nat, k ≤ n ∧ i = .int .i64 k ∧ NumsAt w wr ps k) (fun i _ => n - (intOf i).toNat)
    case atStart =>
      refine ⟨0, by omega, rfl, fun j p hj => absurd hj (by omega), ?_⟩
      exact loc_new (loc_new (loc_start w) w.heap.size nil5 _) (w.heap.size + 1) [.int .i64 0, .int .i64 0, .int .i64 0] _
    case round =>
      obtain ⟨k, hk, rfl, hst⟩ := hrel
      have HST := Lib.hid hst
      have hL := hst.2
      clear hst
      have hge := hL.1.size
      by_cases hlt : k < n
      · obtain ⟨bb, off, p, rfl, hbb, hp, hc⟩ := rds_cell (rd_below H.out (hL.1.mono hB)) hlt
        have hps : p.length ≤ 1048576 := HS.out p (List.mem_of_getElem? hp)
        have hsz := str_size p
        have cn := fun W => rnumber_any ⟨p.toArray⟩ W (by unfold maxLen; omega)
        have e1 : (⟨p.toArray⟩ : ByteArray).data.toList = p := by simp
        rw [e1] at cn
        clear e1 hsz
        cases hnb : (numB p).2
        · have HN := Lib.hid (nums_stop (by rw [HP.out]; exact h3) hp hnb)
          rw [hnb] at cn
          clear hnb hp
          obtain ⟨c0, c1, c2, c3, c4⟩ := cells5L (loc_own hL 0 rfl).1
          have f := (loc_own hL 0 rfl).2
          have f0 := f 0
          have f1 := f 1
          have f2 := f 2
          have f3 := f 3
          have f4 := f 4
          clear f
          generalize (⟨p.toArray⟩ : ByteArray) = x at *
          generalize (numB p).1 = v at *
          go_wp2_with (go_at_call 68; refine (cn _).mono ?_; rintro e w2 ⟨rfl, rfl⟩)
          have hL2 := loc_put hL 0 0 nil5 rfl (by decide)
          refine bodyPost_ret (rnums_res _ _ w.heap.size rfl (loc_own hL2 0 rfl).1) rfl ?_
          exact ⟨by rw [HN.out]; rfl, hL2.1⟩
        · have k3 : k < 3 := by omega
          have hset : (numsTo ps k).set k (((numB p).1 : Nat) : Int) = numsTo ps (k + 1) := by
            have := numsTo_set ps k3
            unfold numAt at this
            rw [hp] at this
            exact this
          have HO := Lib.hid (okTo_succ HST.out.1 hp hnb)
          have HSET := Lib.hid hset
          rw [hnb] at cn
          clear hnb hp hset
          have ck : wr.cell? ⟨w.heap.size + 1, k, none⟩ = some (.int .i64 0) := (loc_own hL 1 rfl).1 k _ (by rw [List.getElem?_map, numsTo_own ps k3]; rfl)
          have fk := (loc_own hL 1 rfl).2 k
          have i1 : (k : Int) < 3 := by omega
          generalize (⟨p.toArray⟩ : ByteArray) = x at *
          generalize (numB p).1 = v at *
          go_wp2_with (go_at_call 68; refine (cn _).mono ?_; rintro e w2 ⟨rfl, rfl⟩)
          go_roundw
          case rel =>
            refine ⟨k + 1, by omega, by go_num, HO.out, ?_⟩
            have hL2 := loc_put hL 1 k [.int .i64 v] rfl (by simp [numsTo]; omega)
            have e2 : putX ((numsTo ps k).map (Value.int .i64)) k [.int .i64 v] = (numsTo ps (k + 1)).map (Value.int .i64) := by
              rw [← HSET.out, List.map_set]; rfl
            rw [e2] at hL2
            exact hL2
          case measure => simp [intOf]; omega
      · obtain rfl : k = n := by omega
        have hall := nums_all (ps := ps) (by rw [HP.out]; exact h3) (by rw [HP.out]; exact HST.out.1)
        rw [HP.out] at hall
        obtain ⟨v0, v1, v2, hv, hN⟩ := hall
        have HN := Lib.hid hN
        rw [hv] at hL
        clear hv hN HST
        obtain ⟨c0, c1, c2, c3, c4⟩ := cells5L (loc_own hL 0 rfl).1
        have f := (loc_own hL 0 rfl).2
        have f0 := f 0
        have f1 := f 1
        have f2 := f 2
        have f3 := f 3
        have f4 := f 4
        clear f
        obtain ⟨d0, d1, d2⟩ := cells3L (loc_own hL 1 rfl).1
        go_wp2
        have hL2 := loc_put hL 0 0 [.int .i64 v0, .int .i64 v1, .int .i64 v2, .string ⟨#[]⟩, .string ⟨#[]⟩] rfl (by simp [nil5])
        refine bodyPost_ret (rnums_res _ _ w.heap.size rfl (loc_own hL2 0 rfl).1) rfl ?_
        exact ⟨by rw [HN.out]; rfl, hL2.1⟩
  · have HN := Lib.hid (nums_long (ps := ps) (by omega))
    have i0 : (3 : Int) < (n : Int) := by omega
    clear h hpl hs hB
    go_enter Tryd.func38, Tryd.ntmps38
    go_wp2
    go_returns
    refine ⟨by rw [HN.out]; rfl, ?_⟩
    go_grown
end Go.Proofs.YthaagngoefieaaaDoor
