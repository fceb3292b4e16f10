/-
  Chapter 36: the walks of the reference's hitsAll and asked. Conditions: as for Hits; at most 1000 cores.
-/
import Derived.Test.YtmfdpdnokiidlaaDoorHRHits
import Derived.Test.YtmfdpdnokiidlaaDoorHRef
namespace Go.Proofs.YtmfdpdnokiidlaaDoor
open Go.ChangeShapes Go.WideShapes Go.ChangeAt Go.RowKit
set_option linter.unusedVariables false
set_option linter.unusedSimpArgs false

/-- A row of cores. -/
def RdKK (w : World) (B : Nat) (A : Option Addr) (ks : List (List Tm)) : Prop :=
  ∃ vs : List Value, Rd w B A ks.length vs ∧ ∀ (i : Nat) (r : List Tm), ks[i]? = some r → ∃ Ai ci, vs[i]? = some (Value.slice Ai r.length ci) ∧ r.length ≤ ci ∧ RdK w B Ai r
theorem rdKK_below {w w' : World} {B : Nat} {A : Option Addr} {ks : List (List Tm)} (h : RdKK w B A ks) (hb : Below B w w') : RdKK w' B A ks := by
  obtain ⟨vs, h1, h2⟩ := h
  refine ⟨vs, rd_below h1 hb, fun i r hr => ?_⟩
  obtain ⟨Ai, ci, g1, g2, g3⟩ := h2 i r hr
  exact ⟨Ai, ci, g1, g2, rdK_below g3 hb⟩
theorem rdKK_at {w : World} {B : Nat} {A : Option Addr} {ks : List (List Tm)} (h : RdKK w B A ks) {k : Nat} {r : List Tm} (hr : ks[k]? = some r) : ∃ b off Ai ci, A = some ⟨b, off, none⟩ ∧ b < B ∧ w.cell? ⟨b, off + k, none⟩ = some (.slice Ai r.length ci) ∧ r.length ≤ ci ∧ RdK w B Ai r := by
  obtain ⟨vs, h1, h2⟩ := h
  obtain ⟨Ai, ci, g1, g2, g3⟩ := h2 k r hr
  obtain ⟨b, off, e, hb, hc⟩ := h1.2 (by have := (List.getElem?_eq_some_iff.1 hr).1; omega)
  exact ⟨b, off, Ai, ci, e, hb, hc k _ g1, g2, g3⟩
theorem all_tk {p : List Tm → Bool} {l : List (List Tm)} {k : Nat} {x : List Tm} (h : (l.take k).all p = true) (hx : l[k]? = some x) (hp : p x = true) : (l.take (k + 1)).all p = true := by
  obtain ⟨hlt, rfl⟩ := List.getElem?_eq_some_iff.1 hx
  rw [List.take_succ_eq_append_getElem hlt, List.all_append, h]
  simp [hp]
theorem all_no {p : List Tm → Bool} {l : List (List Tm)} {k : Nat} {x : List Tm} (hx : l[k]? = some x) (hp : p x = false) : l.all p = false := by
  rw [List.all_eq_false]
  exact ⟨x, List.mem_of_getElem? hx, by rw [hp]; decide⟩
set_option maxRecDepth 8192 in
set_option maxHeartbeats 4000000 in
theorem hitsall_any (A A' A2 : Option Addr) (c c' c2 B : Nat) (t : List (List Int)) (lim : List Int) (cores : List (List Tm)) (w : World) (h : RdT w B A t) (h' : RdI w B A' lim) (h2 : RdKK w B A2 cores) (hB : B ≤ w.heap.size) (hl : t.length ≤ 1000) (hr : ∀ r ∈ t, 0 < r.length ∧ r.length ≤ 5) (hx : ∀ k ∈ cores, (∀ x ∈ k, x.u ≤ 1000000 ∧ x.m < 32) ∧ k.length ≤ 1000) (hlim : lim.length ≤ 1000000) (hc : cores.length ≤ 1000) :
    Calls Tryd.prog 46 #[.slice A t.length c, .slice A' lim.length c', .slice A2 cores.length c2] w fun e w' => e = .returned (.bool (cores.all fun k => hitsR t lim k)) ∧ Below w.heap.size w w' := by
  have H2 := Lib.hid h2
  have CH := Lib.hid (fun (W : World) (hb : Below w.heap.size w W) (k : List Tm) (hk : k ∈ cores) (Ak : Option Addr) (ck : Nat) (hK : RdK W B Ak k) => rhits_any A A' Ak c c' ck B t lim k W (rdT_below h (hb.mono hB)) (rdI_below h' (hb.mono hB)) hK (Nat.le_trans hB hb.size) hl hr (hx k hk).1 hlim (hx k hk).2)
  clear h h' h2 hr hx
  generalize hn : cores.length = n at *
  have HN := Lib.hid hn
  clear hn
  generalize t.length = nt at *
  generalize lim.length = nl at *
  generalize hp : (fun k => hitsR t lim k) = p at *
  have HP := Lib.hid hp
  have CH2 : Hid (∀ (W : World) (hb : Below w.heap.size w W) (k : List Tm) (hk : k ∈ cores) (Ak : Option Addr) (ck : Nat) (hK : RdK W B Ak k), Calls Tryd.prog 55 #[.slice A nt c, .slice A' nl c', .slice Ak k.length ck] W fun e w' => e = .returned (.bool (p k)) ∧ Below W.heap.size W w') := by
    intro W hb k hk Ak ck hK
    have := CH.out W hb k hk Ak ck hK
    rw [← HP.out]
    exact this
  clear CH hp HP
  go_enter Tryd.func46, Tryd.ntmps46
  go_wp2
  go_loopw [7] (fun i wr => ∃ k : Nat, k ≤ n ∧ i = .int .i64 k ∧ Hid ((cores.take k).all p = true) ∧ Below w.heap.size w wr) (fun i _ => n - (intOf i).toNat)
  case atStart => exact ⟨0, by omega, rfl, Lib.hid rfl, Below.refl _ _⟩
  case round =>
    obtain ⟨k, hk, rfl, HS, hbel⟩ := hrel
    by_cases hlt : k < n
    · have i1 : (k : Int) < (n : Int) := by omega
      have hlc : k < cores.length := by rw [HN.out]; exact hlt
      have hxk : cores[k]? = some cores[k] := List.getElem?_eq_getElem hlc
      have hmem := List.getElem_mem hlc
      generalize cores[k] = x at *
      obtain ⟨b, off, Ai, ci, rfl, hb, q0, hci, hK⟩ := rdKK_at (rdKK_below H2.out (hbel.mono hB)) hxk
      have hcx := CH2.out wr hbel x hmem Ai ci hK
      have HT := Lib.hid (fun (h : p x = true) => all_tk HS.out hxk h)
      have HF := Lib.hid (fun (h : p x = false) => all_no hxk h)
      clear hxk hmem hlc hK
      generalize x.length = nx at *
      generalize p x = R at *
      cases R
      · have HE := Lib.hid (HF.out rfl)
        clear HT HF
        go_wp2_with fail
        refine hcx.mono ?_
        rintro e w1 ⟨rfl, hb1⟩
        go_wp2_with fail
        go_ret
        exact ⟨ret_boolH HE.out.symm, hbel.trans (hb1.mono hbel.size)⟩
      · have HE := Lib.hid (HT.out rfl)
        clear HT HF
        go_wp2_with fail
        refine hcx.mono ?_
        rintro e w1 ⟨rfl, hb1⟩
        go_wp2_with fail
        go_roundw
        case rel => exact ⟨k + 1, by omega, by go_num, HE, hbel.trans (hb1.mono hbel.size)⟩
        case measure => simp [intOf]; omega
    · obtain rfl : k = n := by omega
      have HE : Hid (cores.all p = true) := by
        have := HS.out
        rwa [List.take_of_length_le (by rw [HN.out]; exact Nat.le_refl _)] at this
      go_wp2_with fail
      go_ret
      exact ⟨ret_boolH HE.out.symm, hbel⟩
def hasU (u : Nat) (c : List Tm) : Bool := c.any fun x => x.u == u
theorem asked_eq (cores : List (List Tm)) (u : Nat) : askedR cores u = cores.any (hasU u) := rfl
theorem any_tk2 {p : List Tm → Bool} {l : List (List Tm)} {k : Nat} {x : List Tm} (h : (l.take k).any p = false) (hx : l[k]? = some x) (hp : p x = false) : (l.take (k + 1)).any p = false := by
  obtain ⟨hlt, rfl⟩ := List.getElem?_eq_some_iff.1 hx
  rw [List.take_succ_eq_append_getElem hlt, List.any_append, h]
  simp [hp]
set_option maxRecDepth 8192 in
set_option maxHeartbeats 4000000 in
theorem asked_any (A : Option Addr) (c B : Nat) (cores : List (List Tm)) (u : Nat) (w : World) (h : RdKK w B A cores) (hB : B ≤ w.heap.size) (hx : ∀ k ∈ cores, k.length ≤ 1000) (hc : cores.length ≤ 1000) :
    Calls Tryd.prog 48 #[.slice A cores.length c, .int .i64 (u : Nat)] w fun e w' => e = .returned (.bool (askedR cores u)) ∧ w = w' := by
  rw [asked_eq]
  have H := Lib.hid h
  have HX := Lib.hid hx
  clear h hx
  generalize hn : cores.length = n at *
  have HN := Lib.hid hn
  clear hn
  go_enter Tryd.func48, Tryd.ntmps48
  go_wp2
  go_loopg [5, 6] n (fun k2 i _ wr => ∃ k : Nat, k + k2 = n ∧ i = .int .i64 k ∧ Hid ((cores.take k).any (hasU u) = false) ∧ wr = w)
  case atStart => exact ⟨0, by omega, rfl, Lib.hid rfl, rfl⟩
  case round =>
    obtain ⟨k, hk, rfl, HS, rfl⟩ := hrel
    by_cases hlt : k < n
    · have i1 : (k : Int) < (n : Int) := by omega
      have hlc : k < cores.length := by rw [HN.out]; exact hlt
      have hxk : cores[k]? = some cores[k] := List.getElem?_eq_getElem hlc
      have hmem := List.getElem_mem hlc
      generalize cores[k] = x at *
      obtain ⟨b, off, Ai, ci, rfl, hb, q0, hci, hK⟩ := rdKK_at H.out hxk
      have HK := Lib.hid hK
      have hxl := HX.out x hmem
      have HT := Lib.hid (fun (h : hasU u x = false) => any_tk2 HS.out hxk h)
      have HF := Lib.hid (fun (h : hasU u x = true) => (List.any_eq_true.2 ⟨x, hmem, h⟩ : cores.any (hasU u) = true))
      clear hxk hmem hlc hK
      generalize hnx : x.length = nx at *
      have HNX := Lib.hid hnx
      clear hnx
      go_wp2_with fail
      go_loopg [6] nx (fun k3 v w3 => ∃ j : Nat, j + k3 = nx ∧ v = .int .i64 j ∧ Hid ((x.take j).any (fun y => y.u == u) = false) ∧ w3 = wr)
      case atStart => exact ⟨0, by omega, rfl, Lib.hid rfl, rfl⟩
      case round =>
        obtain ⟨j, hj, rfl, HJ, rfl⟩ := hrel
        by_cases hjl : j < nx
        · have hjc : j < x.length := by rw [HNX.out]; exact hjl
          have hyj : x[j]? = some x[j] := List.getElem?_eq_getElem hjc
          have hym := List.getElem_mem hjc
          generalize x[j] = y at *
          obtain ⟨bi, oi, rfl, hbi, hcc⟩ := HK.out (by omega)
          obtain ⟨y0, y1⟩ := hcc j y hyj
          have i2 : (j : Int) < (nx : Int) := by omega
          have HY := Lib.hid (fun (h : (y.u == u) = false) => any_tk (p := fun y => y.u == u) HJ.out hyj h)
          have HZ := Lib.hid (fun (h : (y.u == u) = true) => (List.any_eq_true.2 ⟨y, hym, h⟩ : hasU u x = true))
          clear hcc hyj hym hjc
          generalize y.u = yu at *
          by_cases he : yu = u
          · have HE := Lib.hid (HF.out (HZ.out (by simpa using he)))
            have g : (((yu : Nat) : Int) == ((u : Nat) : Int)) = true := by simp; omega
            clear HY HZ HT HF he
            go_wp2_with fail
            go_ret
            exact ⟨ret_boolH HE.out.symm, rfl⟩
          · have HE := Lib.hid (HY.out (by simpa using he))
            have g : (((yu : Nat) : Int) == ((u : Nat) : Int)) = false := by simp; omega
            clear HY HZ he
            go_wp2_with fail
            go_roundg (nx - (j + 1))
            case rel => exact ⟨j + 1, by omega, by go_num, HE, rfl⟩
            case measure => omega
        · obtain rfl : j = nx := by omega
          have HE : Hid (hasU u x = false) := by
            have := HJ.out
            rwa [List.take_of_length_le (by rw [HNX.out]; exact Nat.le_refl _)] at this
          have HE2 := Lib.hid (HT.out HE.out)
          clear HT HF
          go_wp2_with fail
          go_roundg (n - (k + 1))
          case rel => exact ⟨k + 1, by omega, by go_num, HE2, rfl⟩
          case measure => omega
    · obtain rfl : k = n := by omega
      have HE : Hid (cores.any (hasU u) = false) := by
        have := HS.out
        rwa [List.take_of_length_le (by rw [HN.out]; exact Nat.le_refl _)] at this
      go_wp2_with fail
      go_ret
      exact ⟨ret_boolH HE.out.symm, rfl⟩
end Go.Proofs.YtmfdpdnokiidlaaDoor
