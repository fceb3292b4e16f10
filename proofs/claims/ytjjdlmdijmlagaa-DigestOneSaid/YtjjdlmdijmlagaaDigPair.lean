/-
  The walks of chapter 9's Pair and Root, the program's and the reference's. Conditions: the slice reads as a list of numbers.
-/
import Derived.Test.YtjjdlmdijmlagaaDigRead
import Derived.Lib.SlBytesConst
import Derived.OpenShut
namespace Go.Proofs.Ytjjdlmdijmlagaa
open Go.ChangeShapes Go.WideShapes Go.ChangeAt Go.RowKit
set_option linter.unusedVariables false

theorem rd_own {w : World} {base n : Nat} {e : TypeId} {v : Value} {xs : List Value} (h : w.ownsRow base e 1 v n xs) : ∃ A cap, v = .slice A n cap ∧ Rd w w.heap.size A n xs := by
  have hl : xs.length = n := by simpa using h.1
  rcases h.2 with ⟨rfl, rfl⟩ | ⟨g, cap, cur, rfl, _, hh, _⟩
  · exact ⟨none, 0, rfl, hl, fun h0 => absurd h0 (by omega)⟩
  · refine ⟨_, cap, rfl, hl, fun _ => ⟨g, 0, rfl, (Array.getElem?_eq_some_iff.1 hh).1, fun j u hu => ?_⟩⟩
    have hc := h.cells (g := g) rfl j u hu
    have ha : (⟨g, 0, none⟩ : Addr).add j = ⟨g, 0 + j, none⟩ := by unfold Addr.add; split <;> simp_all
    rwa [ha] at hc
theorem b8_snoc (l : List UInt8) (k : Nat) (c : UInt8) (hc : l[k]? = some c) : B8 (l.take k) ++ [.int .u8 (bi c)] = B8 (l.take (k + 1)) := by
  obtain ⟨hlt, rfl⟩ := List.getElem?_eq_some_iff.1 hc
  rw [List.take_succ_eq_append_getElem hlt]
  unfold B8
  rw [List.map_append]
  rfl

set_option maxHeartbeats 1000000 in
theorem pair_any (a b : UInt64) (w : World) :
    Calls Try.prog 25 #[.int .u64 (ui a), .int .u64 (ui b)] w fun e w' => e = .returned (.int .u64 (ui (pair a b))) ∧ Below w.heap.size w w' := by
  obtain ⟨i0, hi0, hz0, hz1, hz2⟩ := info_parts info_u8
  obtain ⟨ha0, ha1⟩ := ui_bd a
  obtain ⟨hb0, hb1⟩ := ui_bd b
  go_enter Try.func25, Try.ntmps25
  go_wp2
  go_loopw [5, 7, 8, 13, 17, 18, 19, 20] (fun v _ _ i _ _ _ _ wr => ∃ j : Nat, j ≤ 2 ∧ i = .int .i64 j ∧ wr.ownsRow (w.heap.size + 1) 5 1 v (8 * j) (B8 ((pairL a b).take (8 * j))) ∧ Blk wr w.heap.size 24 #[.int .u64 (ui a), .int .u64 (ui b)] ∧ Below w.heap.size w wr ∧ w.heap.size + 1 ≤ wr.heap.size) (fun _ _ _ i _ _ _ _ _ => 2 - (intOf i).toNat)
  case atStart => exact ⟨0, by omega, rfl, World.ownsRow_nil _ _ _ _, Blk.new _ _ _, (Below.refl _ _).alloc (Nat.le_refl _) _, by simp⟩
  case round =>
    obtain ⟨j, hj, rfl, hown, hblk, hbel, hsz⟩ := hrel
    by_cases hlt : j < 2
    · obtain ⟨nj, hnj, hcell, hnb0, hnb1⟩ : ∃ nj : UInt64, (∀ k, k < 8 → (pairL a b)[8 * j + k]? = some (bt nj (7 - k))) ∧ wr.cell? ⟨w.heap.size, j, none⟩ = some (.int .u64 (ui nj)) ∧ 0 ≤ ui nj ∧ ui nj ≤ 18446744073709551615 := by
        rcases (by omega : j = 0 ∨ j = 1) with rfl | rfl
        · exact ⟨a, fun k hk => pairL_lo a b k hk, (hblk.cell 0).trans rfl, ha0, ha1⟩
        · exact ⟨b, fun k hk => pairL_hi a b k hk, (hblk.cell 1).trans rfl, hb0, hb1⟩
      have HNJ := Lib.hid hnj
      clear hnj
      obtain ⟨wo, rfl⟩ : ∃ wo : World, wo = wr := ⟨_, rfl⟩
      have HBW := Lib.hid hblk
      clear hblk
      have hjb : decide ((j : Int) < 2) = true := by simp; omega
      go_wp2
      go_loopw [5, 8] (fun v i wr => ∃ k : Nat, k ≤ 8 ∧ i = .int .i64 (7 - k) ∧ wr.ownsRow (w.heap.size + 1) 5 1 v (8 * j + k) (B8 ((pairL a b).take (8 * j + k))) ∧ Below (w.heap.size + 1) wo wr) (fun _ i _ => (intOf i + 1).toNat)
      case atStart => exact ⟨0, by omega, rfl, hown, Below.refl _ _⟩
      case round =>
        obtain ⟨k, hk, rfl, hown2, hbel2⟩ := hrel
        by_cases hlt2 : k < 8
        · have hbt := bt_eq nj (7 - k)
          have HSN := Lib.hid (b8_snoc _ _ _ (HNJ.out k hlt2))
          have hsz2 := hbel2.size
          clear hown
          go_wp2_with (at_builtin; refine wpList_append_one wr rfl (.tmp 21) (.tmp 27) 23 rfl (w.heap.size + 1) 5 i0 (.int .u8 0) 1 Try.underlying23 hi0 hz0 hz1 hz2 rfl _ _ _ (.int .u8 (bi (bt nj (7 - k)))) hown2 rfl rfl rfl (by omega) (by omega) (by omega) ?_; intro v' w1 hown' hb1)
          go_roundw
          case rel =>
            refine ⟨k + 1, by omega, by go_num, ?_, hbel2.trans hb1⟩
            rw [← Nat.add_assoc, ← HSN.out]
            exact hown'
          case measure => simp [intOf]; omega
        · obtain rfl : k = 8 := by omega
          go_wp2
          go_roundw
          case rel => exact ⟨j + 1, by omega, by go_num, hown2, HBW.out.below hbel2 (by omega), hbel.trans (hbel2.mono (by omega)), Nat.le_trans hsz hbel2.size⟩
          case measure => simp [intOf]; omega
    · obtain rfl : j = 2 := by omega
      obtain ⟨A, cap, rfl, hrd⟩ := rd_own hown
      have HT : Hid (pairL a b = (pairL a b).take (8 * 2)) := (List.take_of_length_le (by rw [pairL_len]; omega)).symm
      clear hblk hown
      go_wp2_with (go_at_call 18; refine (sum_any _ _ _ wr.heap.size ((pairL a b).take (8 * 2)) _ hrd (by unfold maxLen; omega)).mono ?_; rintro e w' ⟨rfl, rfl⟩)
      go_ret
      exact ⟨ret_int (by unfold pair; rw [← HT.out]), hbel⟩

theorem pairL_lo' (a b : UInt64) (k : Nat) (hk : k < 8) : (pairL a b)[k]? = some (bt a (7 - k)) := by
  have := pairL_lo a b k hk
  rwa [Nat.mul_zero, Nat.zero_add] at this
theorem pairL_hi' (a b : UInt64) (k : Nat) (hk : k < 8) : (pairL a b)[8 + k]? = some (bt b (7 - k)) := pairL_hi a b k hk

set_option maxHeartbeats 1000000 in
theorem rpair_any (a b : UInt64) (w : World) :
    Calls Try.prog 26 #[.int .u64 (ui a), .int .u64 (ui b)] w fun e w' => e = .returned (.int .u64 (ui (pair a b))) ∧ Below w.heap.size w w' := by
  obtain ⟨i0, hi0, hz0, hz1, hz2⟩ := info_parts info_u8
  obtain ⟨ha0, ha1⟩ := ui_bd a
  obtain ⟨hb0, hb1⟩ := ui_bd b
  go_enter Try.func26, Try.ntmps26
  go_wp2
  go_loopw [5, 6] (fun v i wr => ∃ k : Nat, k ≤ 8 ∧ i = .int .i64 (7 - k) ∧ wr.ownsRow w.heap.size 5 1 v k (B8 ((pairL a b).take k)) ∧ Below w.heap.size w wr) (fun _ i _ => (intOf i + 1).toNat)
  case atStart => exact ⟨0, by omega, rfl, World.ownsRow_nil _ _ _ _, Below.refl _ _⟩
  case round =>
    obtain ⟨k, hk, rfl, hown, hbel⟩ := hrel
    by_cases hlt : k < 8
    · have hbt := bt_eq a (7 - k)
      have HSN := Lib.hid (b8_snoc _ _ _ (pairL_lo' a b k hlt))
      have hsz := hbel.size
      go_wp2_with (at_builtin; refine wpList_append_one wr rfl (.tmp 12) (.tmp 19) 23 rfl w.heap.size 5 i0 (.int .u8 0) 1 Try.underlying23 hi0 hz0 hz1 hz2 rfl _ _ _ (.int .u8 (bi (bt a (7 - k)))) hown rfl rfl rfl (by omega) (by omega) (by omega) ?_; intro v' w1 hown' hb1)
      go_roundw
      case rel =>
        refine ⟨k + 1, by omega, by go_num, ?_, hbel.trans hb1⟩
        rw [← HSN.out]
        exact hown'
      case measure => simp [intOf]; omega
    · have e7 : (7 : Int) - (k : Int) = -1 := by omega
      rw [e7]
      clear e7
      obtain rfl : k = 8 := by omega
      obtain ⟨wo, rfl⟩ : ∃ wo : World, wo = wr := ⟨_, rfl⟩
      go_wp2
      go_loopw [5, 7] (fun v i wr => ∃ k : Nat, k ≤ 8 ∧ i = .int .i64 (7 - k) ∧ wr.ownsRow w.heap.size 5 1 v (8 + k) (B8 ((pairL a b).take (8 + k))) ∧ Below w.heap.size w wr) (fun _ i _ => (intOf i + 1).toNat)
      case atStart => exact ⟨0, by omega, rfl, hown, hbel⟩
      case round =>
        clear hown hbel
        obtain ⟨k, hk, rfl, hown, hbel⟩ := hrel
        by_cases hlt : k < 8
        · have hbt := bt_eq b (7 - k)
          have HSN := Lib.hid (b8_snoc _ _ _ (pairL_hi' a b k hlt))
          have hsz := hbel.size
          go_wp2_with (at_builtin; refine wpList_append_one wr rfl (.tmp 25) (.tmp 32) 23 rfl w.heap.size 5 i0 (.int .u8 0) 1 Try.underlying23 hi0 hz0 hz1 hz2 rfl _ _ _ (.int .u8 (bi (bt b (7 - k)))) hown rfl rfl rfl (by omega) (by omega) (by omega) ?_; intro v' w1 hown' hb1)
          go_roundw
          case rel =>
            refine ⟨k + 1, by omega, by go_num, ?_, hbel.trans hb1⟩
            rw [← Nat.add_assoc, ← HSN.out]
            exact hown'
          case measure => simp [intOf]; omega
        · obtain rfl : k = 8 := by omega
          obtain ⟨A, cap, rfl, hrd⟩ := rd_own hown
          have HT : Hid (pairL a b = (pairL a b).take (8 + 8)) := (List.take_of_length_le (by rw [pairL_len]; omega)).symm
          clear hown
          go_wp2_with (go_at_call 19; refine (rsum_any _ _ _ wr.heap.size ((pairL a b).take (8 + 8)) _ hrd (by unfold maxLen; omega)).mono ?_; rintro e w' ⟨rfl, rfl⟩)
          go_ret
          exact ⟨ret_int (by unfold pair; rw [← HT.out]), hbel⟩

theorem rd_nil (w : World) : Rd w 0 none 0 (B8 []) := ⟨rfl, fun h => absurd h (by omega)⟩
theorem rd64_cell {w : World} {B n : Nat} {A : Option Addr} {l : List UInt64} (h : Rd w B A n (B64 l)) {k : Nat} (hk : k < n) :
    ∃ b off c, A = some ⟨b, off, none⟩ ∧ b < B ∧ l[k]? = some c ∧ w.cell? ⟨b, off + k, none⟩ = some (.int .u64 (ui c)) := by
  obtain ⟨b, off, e, hb, hc⟩ := h.2 (by omega)
  have hl : k < l.length := by have := h.1; simp [B64] at this; omega
  exact ⟨b, off, l[k], e, hb, List.getElem?_eq_getElem hl, hc k _ (by simp [B64, List.getElem?_eq_getElem hl])⟩
theorem rd_below {w w' : World} {B n : Nat} {A : Option Addr} {xs : List Value} (h : Rd w B A n xs) (hb : Below B w w') : Rd w' B A n xs := by
  refine ⟨h.1, fun hn => ?_⟩
  obtain ⟨b, off, e, hlt, hc⟩ := h.2 hn
  exact ⟨b, off, e, hlt, fun j u hu => (hb.cell (p := ⟨b, off + j, none⟩) hlt).trans (hc j u hu)⟩
theorem rd_more {w : World} {B B' n : Nat} {A : Option Addr} {xs : List Value} (h : Rd w B A n xs) (hb : B ≤ B') : Rd w B' A n xs := by
  refine ⟨h.1, fun hn => ?_⟩
  obtain ⟨b, off, e, hlt, hc⟩ := h.2 hn
  exact ⟨b, off, e, by omega, hc⟩
theorem root_take (l : List UInt64) (k : Nat) (c : UInt64) (hc : l[k]? = some c) : root (l.take (k + 1)) = pair (root (l.take k)) c := by
  obtain ⟨hlt, rfl⟩ := List.getElem?_eq_some_iff.1 hc
  rw [List.take_succ_eq_append_getElem hlt, root_snoc]

set_option maxHeartbeats 1000000 in
theorem root_any (A : Option Addr) (n cap B : Nat) (l : List UInt64) (w : World) (hr : Rd w B A n (B64 l)) (hn : n ≤ maxLen) (hB : B ≤ w.heap.size) :
    Calls Try.prog 27 #[.slice A n cap] w fun e w' => e = .returned (.int .u64 (ui (root l))) ∧ Below w.heap.size w w' := by
  unfold maxLen at hn
  have HR := Lib.hid hr
  clear hr
  go_enter Try.func27, Try.ntmps27
  go_wp2_with (go_at_call 18; refine (sum_any _ _ _ 0 [] _ (rd_nil w) (by unfold maxLen; omega)).mono ?_; rintro e w' ⟨rfl, rfl⟩)
  go_loopw [3, 9] (fun h i wr => ∃ k : Nat, k ≤ n ∧ i = .int .i64 k ∧ h = .int .u64 (ui (root (l.take k))) ∧ Below w.heap.size w wr) (fun _ i _ => n - (intOf i).toNat)
  case atStart => exact ⟨0, Nat.zero_le _, rfl, rfl, Below.refl _ _⟩
  case round =>
    obtain ⟨k, hk, rfl, rfl, hbel⟩ := hrel
    by_cases hlt : k < n
    · obtain ⟨b, off, c, rfl, hb, hck, hcell⟩ := rd64_cell (rd_below HR.out (hbel.mono hB)) hlt
      have HS := Lib.hid (root_take l k c hck)
      clear hck
      generalize root (l.take k) = h at *
      go_wp2_with (go_at_call 25; refine (pair_any _ _ _).mono ?_; rintro e w1 ⟨rfl, hb1⟩)
      go_roundw
      case rel => exact ⟨k + 1, by omega, by go_num, by rw [HS.out], hbel.trans (hb1.mono hbel.size)⟩
      case measure => simp [intOf]; omega
    · have hl : l.length = n := by have := HR.out.1; simpa [B64] using this
      have HT : Hid (l.take k = l) := List.take_of_length_le (by omega)
      clear hl
      go_wp2
      go_ret
      exact ⟨ret_int (by rw [HT.out]), hbel⟩

set_option maxHeartbeats 1000000 in
theorem rroot_any (A : Option Addr) (n cap B : Nat) (l : List UInt64) (w : World) (hr : Rd w B A n (B64 l)) (hn : n ≤ maxLen) (hB : B ≤ w.heap.size) :
    Calls Try.prog 28 #[.slice A n cap] w fun e w' => e = .returned (.int .u64 (ui (root l))) ∧ Below w.heap.size w w' := by
  unfold maxLen at hn
  have HR := Lib.hid hr
  clear hr
  go_enter Try.func28, Try.ntmps28
  go_wp2_with (go_at_call 19; refine (rsum_any _ _ _ 0 [] _ (rd_nil w) (by unfold maxLen; omega)).mono ?_; rintro e w' ⟨rfl, rfl⟩)
  go_loopw [3, 4] (fun h i wr => ∃ k : Nat, k ≤ n ∧ i = .int .i64 k ∧ h = .int .u64 (ui (root (l.take k))) ∧ Below w.heap.size w wr) (fun _ i _ => n - (intOf i).toNat)
  case atStart => exact ⟨0, Nat.zero_le _, rfl, rfl, Below.refl _ _⟩
  case round =>
    obtain ⟨k, hk, rfl, rfl, hbel⟩ := hrel
    by_cases hlt : k < n
    · obtain ⟨b, off, c, rfl, hb, hck, hcell⟩ := rd64_cell (rd_below HR.out (hbel.mono hB)) hlt
      have HS := Lib.hid (root_take l k c hck)
      clear hck
      generalize root (l.take k) = h at *
      go_wp2_with (go_at_call 26; refine (rpair_any _ _ _).mono ?_; rintro e w1 ⟨rfl, hb1⟩)
      go_roundw
      case rel => exact ⟨k + 1, by omega, by go_num, by rw [HS.out], hbel.trans (hb1.mono hbel.size)⟩
      case measure => simp [intOf]; omega
    · have hl : l.length = n := by have := HR.out.1; simpa [B64] using this
      have HT : Hid (l.take k = l) := List.take_of_length_le (by omega)
      clear hl
      go_wp2
      go_ret
      exact ⟨ret_int (by rw [HT.out]), hbel⟩

/-- Place: any number as one from 0 to n - 1. -/
theorem place_any (v n : Int) (w : World) (h1 : 0 < n) (h2 : n ≤ 9223372036854775807) (hv : -9223372036854775808 ≤ v) (hv2 : v ≤ 9223372036854775807) :
    Calls Try.prog 24 #[.int .i64 v, .int .i64 n] w fun e w' => (∃ k : Nat, (k : Int) < n ∧ e = .returned (.int .i64 k)) ∧ w = w' := by
  have hm1 := Int.tmod_lt_of_pos v h1
  have hm2 : -n < v.tmod n := by
    have := Int.tmod_lt_of_pos (-v) h1
    rw [Int.neg_tmod] at this
    omega
  by_cases hneg : v.tmod n < 0
  · go_enter Try.func24, Try.ntmps24
    go_wp2
    go_ret
    exact ⟨⟨(v.tmod n + n).toNat, by omega, ret_int (by omega)⟩, rfl⟩
  · go_enter Try.func24, Try.ntmps24
    go_wp2
    go_ret
    exact ⟨⟨(v.tmod n).toNat, by omega, ret_int (by omega)⟩, rfl⟩

theorem lit_size (l : List UInt8) : (⟨l.toArray⟩ : ByteArray).size = l.length := by simp [ByteArray.size]
theorem rb1 : readB ((⟨#[48, 48, 48, 48, 48, 48, 48, 48, 48, 48, 48, 48, 48, 48, 102, 102]⟩ : ByteArray).data.toList) = (255, true) := by decide +kernel
theorem rb2 : readB ((⟨#[70, 70]⟩ : ByteArray).data.toList) = (0, false) := by decide +kernel
theorem ab_ne : (ui (sum [97]) != ui (sum [98])) = true := by
  rw [bne_iff_ne]
  intro h
  have := ui_inj h
  exact absurd this (by decide +kernel)
theorem text255 : strOfNums (textOf 255) = ⟨#[48, 48, 48, 48, 48, 48, 48, 48, 48, 48, 48, 48, 48, 48, 102, 102]⟩ := by decide +kernel

theorem text255_any (w : World) : Calls Try.prog 22 #[.int .u64 255] w fun e w' => e = .returned (.string ⟨#[48, 48, 48, 48, 48, 48, 48, 48, 48, 48, 48, 48, 48, 48, 102, 102]⟩) ∧ Below w.heap.size w w' := by
  have := text_any 255 w
  rw [text255, show ui 255 = 255 from rfl] at this
  exact this
theorem rd_one (w : World) (c : UInt8) (t : TypeId) (m : Nat × Nat) : Rd (w.alloc (.cells #[.int .u8 (bi c)] t m)) (w.heap.size + 1) (some ⟨w.heap.size, 0, none⟩) 1 (B8 [c]) := by
  refine ⟨rfl, fun _ => ⟨_, _, rfl, by omega, fun j u hu => ?_⟩⟩
  rw [World.cell?_alloc_mark]
  match j, hu with
  | 0, hu => simpa [B8] using hu
theorem sum_one_any (w : World) (c : UInt8) (z : Int) (hz : bi c = z) (t : TypeId) (m : Nat × Nat) :
    Calls Try.prog 18 #[.slice (some ⟨w.heap.size, 0, none⟩) 1 1] (w.alloc (.cells #[.int .u8 z] t m)) fun e w' => e = .returned (.int .u64 (ui (sum [c]))) ∧ w.alloc (.cells #[.int .u8 z] t m) = w' := by
  subst hz
  exact sum_any _ 1 1 (w.heap.size + 1) [c] _ (rd_one w c t m) (by unfold maxLen; omega)

set_option maxHeartbeats 1000000 in
theorem awake_any (w : World) :
    Calls Try.prog 17 #[] w fun e w' => e = .returned (.bool true) ∧ Below w.heap.size w w' := by
  have hne := ab_ne
  have kc := fun (w : World) (C : Array Value) (n c : Nat) => Lib.run_convert_bytes_const (P := Try.prog) w 23 5 C n c Try.underlying23 Try.underlying5
  go_enter Try.func17, Try.ntmps17
  go_wp2_with fail
  refine (read_any _ _ (by decide)).mono ?_
  rw [rb1]
  rintro e w' ⟨rfl, rfl⟩
  go_wp2_with fail
  refine (read_any _ _ (by decide)).mono ?_
  rw [rb2]
  rintro e w' ⟨rfl, rfl⟩
  go_wp2_with fail
  refine (text255_any _).mono ?_
  rintro e w1 ⟨rfl, hb1⟩
  go_wp2_with fail
  refine (sum_one_any _ 97 97 rfl _ _).mono ?_
  rintro e w2 ⟨rfl, hw2⟩
  have hb2 : Below w.heap.size w w2 := hw2 ▸ hb1.alloc hb1.size _
  clear hw2 hb1
  go_wp2_with fail
  refine (sum_one_any _ 98 98 rfl _ _).mono ?_
  rintro e w' ⟨rfl, rfl⟩
  go_wp2_with fail
  go_ret
  exact ⟨rfl, hb2.alloc hb2.size _⟩

/-! What a slice argument of the law reads as. -/
theorem wf_u8_bd {z : Int} (h : (Lit.int .u8 z).wf = true) : 0 ≤ z ∧ z ≤ 255 := bounds_u8 h
theorem wf_u64_bd {z : Int} (h : (Lit.int .u64 z).wf = true) : 0 ≤ z ∧ z ≤ 18446744073709551615 := bounds_u64 h
theorem bi_ofNat {z : Int} (h : 0 ≤ z ∧ z ≤ 255) : bi (UInt8.ofNat z.toNat) = z := by
  unfold bi; rw [UInt8.toNat_ofNat']; omega
theorem ui_ofNat {z : Int} (h : 0 ≤ z ∧ z ≤ 18446744073709551615) : ui (UInt64.ofNat z.toNat) = z := by
  unfold ui; rw [UInt64.toNat_ofNat']; omega

theorem row_rd {k : IntKind} {w : World} {a : Option Addr} {len cap : Nat} {zs : List Int}
    (h : (a = none ∧ len = 0 ∧ cap = 0 ∧ zs = []) ∨ ∃ x, a = some x ∧ len ≤ cap ∧ cap ≤ maxLen ∧ zs.length = cap ∧ (∀ i, i < zs.length → w.cell? (x.add i) = some (.int k (zs.getD i 0))) ∧ ∀ n ∈ zs, (Lit.int k n).wf = true) :
    Rd w w.heap.size a len ((zs.take len).map (Value.int k)) ∧ len ≤ maxLen ∧ ∀ n ∈ zs.take len, (Lit.int k n).wf = true := by
  rcases h with ⟨rfl, rfl, rfl, rfl⟩ | ⟨x, rfl, hl, hm, hz, hcell, hwz⟩
  · exact ⟨⟨rfl, fun h => absurd h (by omega)⟩, by unfold maxLen; omega, fun n hn => by simp at hn⟩
  · refine ⟨⟨by simp; omega, fun h0 => ?_⟩, by omega, fun n hn => hwz n (List.mem_of_mem_take hn)⟩
    obtain ⟨b, off, spot⟩ := x
    have hspot : spot = none := by simpa [Addr.add] using World.cell?_spot (hcell 0 (by omega))
    subst hspot
    refine ⟨b, off, rfl, ?_, fun j u hu => ?_⟩
    · exact World.block_lt_of_cell? w ⟨b, off, none⟩ (by simpa [Addr.add] using hcell 0 (by omega))
    · have hadd : (⟨b, off, none⟩ : Addr).add j = ⟨b, off + j, none⟩ := by unfold Addr.add; split <;> simp_all
      rw [List.getElem?_map, List.getElem?_take] at hu
      by_cases hj : j < len
      · rw [if_pos hj] at hu
        have hc := hcell j (by omega)
        rw [hadd] at hc
        rw [List.getElem?_eq_getElem (by omega)] at hu
        rw [hc, ← hu]
        simp [List.getD, List.getElem?_eq_getElem (show j < zs.length by omega)]
      · rw [if_neg hj] at hu
        simp at hu

theorem row_rd8 {w : World} {a : Option Addr} {len cap : Nat} {zs : List Int}
    (h : (a = none ∧ len = 0 ∧ cap = 0 ∧ zs = []) ∨ ∃ x, a = some x ∧ len ≤ cap ∧ cap ≤ maxLen ∧ zs.length = cap ∧ (∀ i, i < zs.length → w.cell? (x.add i) = some (.int .u8 (zs.getD i 0))) ∧ ∀ n ∈ zs, (Lit.int .u8 n).wf = true) :
    ∃ l : List UInt8, Rd w w.heap.size a len (B8 l) ∧ len ≤ maxLen := by
  obtain ⟨h1, h2, h3⟩ := row_rd h
  refine ⟨(zs.take len).map fun z => UInt8.ofNat z.toNat, ?_, h2⟩
  have e : B8 ((zs.take len).map fun z => UInt8.ofNat z.toNat) = (zs.take len).map (Value.int .u8) := by
    unfold B8
    rw [List.map_map]
    refine List.map_congr_left fun z hz => ?_
    show Value.int .u8 (bi (UInt8.ofNat z.toNat)) = _
    rw [bi_ofNat (wf_u8_bd (h3 z hz))]
  rw [e]
  exact h1
theorem row_rd64 {w : World} {a : Option Addr} {len cap : Nat} {zs : List Int}
    (h : (a = none ∧ len = 0 ∧ cap = 0 ∧ zs = []) ∨ ∃ x, a = some x ∧ len ≤ cap ∧ cap ≤ maxLen ∧ zs.length = cap ∧ (∀ i, i < zs.length → w.cell? (x.add i) = some (.int .u64 (zs.getD i 0))) ∧ ∀ n ∈ zs, (Lit.int .u64 n).wf = true) :
    ∃ l : List UInt64, Rd w w.heap.size a len (B64 l) ∧ len ≤ maxLen := by
  obtain ⟨h1, h2, h3⟩ := row_rd h
  refine ⟨(zs.take len).map fun z => UInt64.ofNat z.toNat, ?_, h2⟩
  have e : B64 ((zs.take len).map fun z => UInt64.ofNat z.toNat) = (zs.take len).map (Value.int .u64) := by
    unfold B64
    rw [List.map_map]
    refine List.map_congr_left fun z hz => ?_
    show Value.int .u64 (ui (UInt64.ofNat z.toNat)) = _
    rw [ui_ofNat (wf_u64_bd (h3 z hz))]
  rw [e]
  exact h1

theorem rd_reads {w : World} {B n : Nat} {A : Option Addr} {xs : List Value} (h : Rd w B A n xs) : Reads w B 1 A n xs := by
  refine ⟨by rw [h.1, Nat.mul_one], fun hn => ?_⟩
  obtain ⟨b, off, e, hlt, hc⟩ := h.2 hn
  exact ⟨_, e, hlt, fun j u hu => by rw [add_plain]; exact hc j u hu⟩
theorem b8_one (l : List UInt8) : ∀ u ∈ B8 l, u.oneCell' = true := by
  intro u hu
  simp [B8] at hu
  obtain ⟨c, _, rfl⟩ := hu
  rfl
theorem b64_one (l : List UInt64) : ∀ u ∈ B64 l, u.oneCell' = true := by
  intro u hu
  simp [B64] at hu
  obtain ⟨c, _, rfl⟩ := hu
  rfl
theorem info_u64 : (Try.prog.info? 24).map (fun i => (i.zero, i.size, i.bytes)) = some (some (.int .u64 0), 1, 8) := by kernel_rfl
theorem nil64 (w : World) : Rd w 0 none 0 (B64 []) := ⟨rfl, fun h => absurd h (by omega)⟩
theorem b64_snoc (l : List UInt64) (n : UInt64) : B64 l ++ [.int .u64 (ui n)] = B64 (l ++ [n]) := by
  unfold B64; rw [List.map_append]; rfl
theorem b64_two (l : List UInt64) (a b : UInt64) : B64 l ++ [.int .u64 (ui a), .int .u64 (ui b)] = B64 (l ++ [a, b]) := by
  unfold B64; rw [List.map_append]; rfl

theorem xor8 (c d : UInt8) : bits .xor .u8 (bi c) (bi d) = bi (c ^^^ d) := by
  unfold bi
  rw [u8_xor_nat _ _ c.toNat_lt d.toNat_lt, UInt8.toNat_xor]
theorem b8_set (l : List UInt8) (k : Nat) (c : UInt8) : (B8 l).set k (.int .u8 (bi c)) = B8 (l.set k c) := by
  unfold B8; rw [List.map_set]
theorem one_yes (l : List UInt8) (k : Nat) (hk : k < l.length) : l.set k (l[k] ^^^ 0) = l := by simp
theorem one_no (l : List UInt8) (k : Nat) (hk : k < l.length) (d : UInt8) (hd : d ≠ 0) : (ui (sum (l.set k (l[k] ^^^ d))) == ui (sum l)) = false := by
  rw [ui_beq, decide_eq_false_iff_not, sum_set l k hk]
  intro h
  apply hd
  have : l[k] ^^^ (l[k] ^^^ d) = l[k] ^^^ l[k] := by rw [h]
  rwa [← UInt8.xor_assoc, UInt8.xor_self, UInt8.zero_xor] at this
theorem bi_ne (d : UInt8) (hd : d ≠ 0) : (bi d == 0) = false := by
  rw [beq_eq_false_iff_ne]
  intro h
  exact hd (bi_inj (b := 0) h)
end Go.Proofs.Ytjjdlmdijmlagaa
