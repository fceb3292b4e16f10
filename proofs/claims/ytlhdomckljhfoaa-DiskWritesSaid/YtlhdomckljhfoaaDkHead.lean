/-
  The walks of chapter 40's numbers put into bytes and of a slot's head, the program's and the reference's. Conditions: the string is no longer than a string can be.
-/
import Derived.Test.YtlhdomckljhfoaaDkMem
import Derived.Deep.RegionHeld3
import Derived.Deep.OwnRows
import Derived.Deep.RegionWith
import Derived.Deep.DeepCutAuto
namespace Go.Proofs.Ytlhdomckljhfoaa
open Go.ChangeShapes Go.WideShapes Go.ChangeAt Go.RowKit
set_option linter.unusedVariables false

theorem over_take_succ (l : List UInt8) (off : Nat) (x : List UInt8) (j : Nat) (c : UInt8) (hc : x[j]? = some c) : (over l off (x.take j)).set (off + j) c = over l off (x.take (j + 1)) :=
  (over_set l off x j c hc).symm

/-- The program's put: a number into bytes of a block of the caller's own. -/
theorem put_any (g off k cap : Nat) (l : List UInt8) (n : UInt64) (w : World) (hk : k ≤ 8) (hl : off + k ≤ l.length) (hb : Byt w g l) :
    Calls Try.prog 30 #[.slice (some ⟨g, off, none⟩) k cap, .int .u64 (ui n)] w fun e w' => e = .returned (.tuple #[]) ∧ Byt w' g (over l off (beN k n)) ∧ w.grownBy w' (some g) := by
  obtain ⟨hb0, hb1⟩ := ui_bd n
  have HB := Lib.hid hb
  clear hb
  go_enter Try.func30, Try.ntmps30
  go_wp2
  go_loopw [7] (fun i wr => ∃ j : Nat, j ≤ k ∧ i = .int .i64 j ∧ Byt wr g (over l off ((beN k n).take j)) ∧ w.grownBy wr (some g)) (fun i _ => k - (intOf i).toNat)
  case atStart => exact ⟨0, by omega, rfl, by rw [List.take_zero, over_nil]; exact HB.out, World.grownBy.refl _ _⟩
  case round =>
    obtain ⟨j, hj, rfl, hbj, hgr⟩ := hrel
    by_cases hlt : j < k
    · have hbt := bt_eq n (k - 1 - j)
      have HSET := Lib.hid (over_take_succ l off (beN k n) j _ (beN_at k n j hlt))
      have hcell : ∃ v, wr.cell? ⟨g, off + j, none⟩ = some (.int .u8 v) := ⟨_, hbj.at_ (j := off + j) (by rw [over_len]; omega)⟩
      obtain ⟨v, hcell⟩ := hcell
      have hfr : wr.frozen? ⟨g, off + j, none⟩ = false := hbj.free _ (by rw [over_len]; omega)
      have HBJ := Lib.hid hbj
      clear hbj
      go_wp2
      go_roundw
      case rel => exact ⟨j + 1, by omega, by go_num, by rw [← HSET.out]; exact HBJ.out.set_ (k := off + j) (by rw [over_len]; omega) _, only_setCell hgr (.inl rfl) _⟩
      case measure => simp [intOf]; omega
    · obtain rfl : j = k := by omega
      have HT : Hid ((beN j n).take j = beN j n) := List.take_of_length_le (by rw [beN_len]; omega)
      go_wp2
      exact bodyPost_end (v := .tuple #[]) (by simp [results, Try.results30, go_sem]) rfl ⟨rfl, by rw [← HT.out]; exact hbj, hgr⟩

/-- k cells filled from the right: j are filled. -/
def partN (k : Nat) (n : UInt64) (j : Nat) : List UInt8 := (List.range k).map fun i => if k ≤ i + j then bt n (k - 1 - i) else 0
theorem partN_len (k : Nat) (n : UInt64) (j : Nat) : (partN k n j).length = k := by simp [partN]
theorem partN_set (k : Nat) (n : UInt64) (j : Nat) (h : j < k) : (partN k n j).set (k - 1 - j) (bt n j) = partN k n (j + 1) := by
  apply List.ext_getElem?; intro i
  rw [List.getElem?_set]
  by_cases hi : i < k
  · by_cases e : k - 1 - j = i
    · rw [if_pos e, if_pos (by rw [partN_len]; omega)]
      simp [partN, hi]
      rw [if_pos (by omega), show k - 1 - i = j from by omega]
    · rw [if_neg e]
      simp [partN, hi]
      by_cases h2 : k ≤ i + j
      · rw [if_pos h2, if_pos (by omega)]
      · rw [if_neg h2, if_neg (by omega)]
  · rw [List.getElem?_eq_none (by rw [partN_len]; omega)]
    by_cases e : k - 1 - j = i
    · omega
    · rw [if_neg e, List.getElem?_eq_none (by rw [partN_len]; omega)]
theorem partN_zero (k : Nat) (n : UInt64) : partN k n 0 = List.replicate k 0 := by
  apply List.ext_getElem?; intro i
  by_cases hi : i < k
  · simp [partN, hi]; omega
  · rw [List.getElem?_eq_none (by rw [partN_len]; omega), List.getElem?_eq_none (by simp; omega)]
theorem partN_full (k : Nat) (n : UInt64) : partN k n k = beN k n := by
  unfold partN beN
  refine List.map_congr_left fun i hi => ?_
  have hi : i < k := by simpa using hi
  rw [if_pos (by omega)]
def uq (n : UInt64) (j : Nat) : Int := ui n / 2 ^ (8 * j)
theorem uq_bd (n : UInt64) (j : Nat) : 0 ≤ uq n j ∧ uq n j ≤ 18446744073709551615 := by
  unfold uq
  obtain ⟨h0, h1⟩ := ui_bd n
  have hp : (0 : Int) < 2 ^ (8 * j) := Int.pow_pos (by omega)
  exact ⟨Int.ediv_nonneg h0 (by omega), Int.le_trans (Int.ediv_le_self _ h0) h1⟩
theorem uq_zero (n : UInt64) : uq n 0 = ui n := by simp [uq]
theorem uq_succ (n : UInt64) (j : Nat) : uq n j / 256 = uq n (j + 1) := by
  unfold uq
  rw [Int.ediv_ediv_of_nonneg (Int.le_of_lt (Int.pow_pos (by omega))), show 8 * (j + 1) = 8 * j + 8 from by omega, Int.pow_add]
  rfl
theorem uq_bt (n : UInt64) (j : Nat) : uq n j % 256 = bi (bt n j) := bt_eq n j

theorem map_const_range {α : Type} (k : Nat) (x : α) : (List.range k).map (fun _ => x) = List.replicate k x := by
  apply List.ext_getElem?; intro i
  by_cases hi : i < k
  · simp [hi]
  · rw [List.getElem?_eq_none (by simp; omega), List.getElem?_eq_none (by simp; omega)]
set_option maxHeartbeats 400000 in
theorem rbytes_any (n : UInt64) (k : Nat) (w : World) (hk : k ≤ 8) :
    Calls Try.prog 32 #[.int .u64 (ui n), .int .i64 (k : Int)] w fun e w' => e = .returned (.slice (some ⟨w.heap.size, 0, none⟩) k k) ∧ w'.ownsRow w.heap.size 5 1 (.slice (some ⟨w.heap.size, 0, none⟩) k k) k (B8 (beN k n)) ∧ Below w.heap.size w w' := by
  obtain ⟨i0, hi0, hz0, hz1, hz2⟩ := info_parts info_u8
  have hmk := fun w => run_make_row (P := Try.prog) 38 5 i0 (.int .u8 0) Try.underlying38 hi0 hz0 hz1 rfl .i64 .i64 k (by rw [hz2]; omega) (by omega) w
  have h0 : madeCells #[Value.int .u8 0] k = (B8 (partN k n 0)).toArray := by
    rw [partN_zero]
    apply Array.ext'
    simp [madeCells, B8, Array.toList_map, Nat.mod_one]
    exact map_const_range k _
  rw [h0] at hmk
  clear h0
  go_enter Try.func32, Try.ntmps32
  go_wp2
  clear hmk
  go_loopw [0, 6] (fun m i wr => ∃ j : Nat, j ≤ k ∧ i = .int .i64 ((k : Int) - 1 - j) ∧ m = .int .u64 (uq n j) ∧ Blk wr w.heap.size 5 (B8 (partN k n j)).toArray ∧ Below w.heap.size w wr) (fun _ i _ => (intOf i + 1).toNat)
  case atStart => exact ⟨0, by omega, by go_num, by rw [uq_zero], Blk.new _ _ _, (Below.refl _ _).alloc (Nat.le_refl _) _⟩
  case round =>
    obtain ⟨j, hj, rfl, rfl, hblk, hbel⟩ := hrel
    by_cases hlt : j < k
    · have hbt := uq_bt n j
      have HQ := Lib.hid (uq_succ n j)
      obtain ⟨hq0, hq1⟩ := uq_bd n j
      obtain ⟨hc0, hc1⟩ := bi_bd (bt n j)
      have HSET := Lib.hid (partN_set k n j hlt)
      obtain ⟨v, hcell⟩ : ∃ v, wr.cell? ⟨w.heap.size, k - 1 - j, none⟩ = some (.int .u8 v) := ⟨_, (hblk.cell _).trans (by simp [B8]; exact ⟨_, List.getElem?_eq_getElem (by rw [partN_len]; omega), rfl⟩)⟩
      have hfr : wr.frozen? ⟨w.heap.size, k - 1 - j, none⟩ = false := hblk.frozen _
      have HB := Lib.hid hblk
      clear hblk
      go_wp2
      go_roundw
      case rel =>
        refine ⟨j + 1, by omega, by go_num, by rw [HQ.out], ?_, hbel.setCell (Nat.le_refl _) _⟩
        have h := HB.out.set_ (k - 1 - j) (.int .u8 (bi (bt n j)))
        have e : (B8 (partN k n j)).toArray.setIfInBounds (k - 1 - j) (.int .u8 (bi (bt n j))) = (B8 (partN k n (j + 1))).toArray := by
          rw [← HSET.out]
          apply Array.ext'
          simp [B8, List.map_set]
        rwa [e] at h
      case measure => simp [intOf]; omega
    · obtain rfl : j = k := by omega
      go_wp2
      go_ret
      refine ⟨rfl, ⟨by rw [b8_len, beN_len, Nat.mul_one], .inr ⟨w.heap.size, j, _, rfl, Nat.le_refl _, hblk, Nat.le_refl _, by unfold maxLen; omega, by simp [B8, partN_len], ?_⟩⟩, hbel⟩
      rw [partN_full, List.take_of_length_le (by simp [B8, beN_len])]

theorem put_z (g off k cap : Nat) (l : List UInt8) (n : UInt64) (z : Int) (w : World) (hz : ui n = z) (hk : k ≤ 8) (hl : off + k ≤ l.length) (hb : Byt w g l) :
    Calls Try.prog 30 #[.slice (some ⟨g, off, none⟩) k cap, .int .u64 z] w fun e w' => e = .returned (.tuple #[]) ∧ Byt w' g (over l off (beN k n)) ∧ w.grownBy w' (some g) := by
  subst hz; exact put_any g off k cap l n w hk hl hb
theorem byt_arr (w : World) (l : List UInt8) (C : Array Value) (t : TypeId) (h : C = (B8 l).toArray) : Byt (w.alloc (.cells C t)) w.heap.size l := by
  subst h
  refine byt_new w l _ t 0 0 (fun j x hx => ?_) (fun j _ => by omega)
  simp [b8_at, hx]
theorem bw_below (w : World) (e : TypeId) (s : ByteArray) : Below w.heap.size w (Lib.bytesWorld w e s) :=
  ⟨rfl, rfl, rfl, by rw [Lib.bytesWorld_size]; omega, fun k hk => Lib.bytesWorld_at_old w e s k hk⟩
theorem bw_cell (w : World) (e : TypeId) (s : ByteArray) (j : Nat) (x : UInt8) (hx : s.data.toList[j]? = some x) : (Lib.bytesWorld w e s).cell? ⟨w.heap.size, j, none⟩ = some (.int .u8 (bi x)) := by
  have hj : j < s.size := by have := (List.getElem?_eq_some_iff.1 hx).1; simpa using this
  rw [Lib.bytesWorld_cell w e s j hj, List.getD, hx]
  rfl
theorem bw_rd (w : World) (e : TypeId) (s : ByteArray) : Rd (Lib.bytesWorld w e s) (w.heap.size + 1) (some ⟨w.heap.size, 0, none⟩) s.size (B8 s.data.toList) := by
  refine ⟨by rw [b8_len, len_size], fun _ => ⟨_, _, rfl, by omega, fun j u hu => ?_⟩⟩
  rw [b8_at] at hu
  obtain ⟨x, hx, rfl⟩ := Option.map_eq_some_iff.1 hu
  rw [Nat.zero_add]
  exact bw_cell w e s j x hx
theorem bw_byt (w : World) (e : TypeId) (s : ByteArray) : Byt (Lib.bytesWorld w e s) w.heap.size s.data.toList := by
  refine ⟨by rw [Lib.bytesWorld_size]; omega, bw_cell w e s, fun j hj => ?_⟩
  have h := Lib.bytesWorld_at_new w e s
  simp only [World.frozen?, h]
  have hsz : s.size ≤ (Lib.bytesCells w e s).size := by unfold Lib.bytesCells; simp
  have : j < s.size := by simpa using hj
  simp
  omega
theorem below_of_grown {B : Nat} {w w1 w2 : World} {g : Nat} (h : Below B w w1) (hg : w1.grownBy w2 (some g)) (hb : B ≤ g) (hs : B ≤ w1.heap.size) : Below B w w2 :=
  h.grown hg hs fun j hj => by injection hj with hj; omega

/-- The first twenty bytes put, from the left. -/
theorem put3 (n : UInt64) (s : List UInt8) (rest : List UInt8) (hr : rest.length = 64) (h4 : s.length ≤ 1073741824) :
    over (over (over rest 0 (beN 8 n)) 8 (beN 4 (UInt64.ofNat s.length))) 12 (beN 8 (sum s)) = head20 n s ++ rest.drop 20 := by
  apply List.ext_getElem?; intro i
  by_cases hi : i < 64
  · rw [over_at _ _ _ _ (by simp [over_len, hr]; omega), beN_len]
    unfold head20
    by_cases h1 : 12 ≤ i ∧ i < 20
    · rw [if_pos (by omega), List.getElem?_append_left (by simp [beN_len]; omega), List.getElem?_append_right (by simp [beN_len]; omega)]
      simp only [List.length_append, beN_len]
      rw [List.getD, beN_at _ _ _ (by omega)]; rfl
    · rw [if_neg (by omega), List.getD, over_at _ _ _ _ (by simp [over_len, hr]; omega), beN_len]
      by_cases h2 : 8 ≤ i ∧ i < 12
      · rw [if_pos (by omega), List.getElem?_append_left (by simp [beN_len]; omega), List.getElem?_append_left (by simp [beN_len]; omega), List.getElem?_append_right (by simp [beN_len]; omega)]
        simp only [beN_len]
        rw [List.getD, beN_at _ _ _ (by omega)]; rfl
      · rw [if_neg (by omega), List.getD, over_at _ _ _ _ (by rw [hr]; omega), beN_len]
        by_cases h3 : i < 8
        · rw [if_pos (by omega), List.getElem?_append_left (by simp [beN_len]; omega), List.getElem?_append_left (by simp [beN_len]; omega), List.getElem?_append_left (by simp [beN_len]; omega)]
          rw [List.getD, beN_at _ _ _ (by omega), beN_at _ _ _ (by omega)]; rfl
        · rw [if_neg (by omega), List.getElem?_append_right (by simp [beN_len]; omega)]
          simp only [List.length_append, beN_len]
          rw [List.getElem?_drop, show 20 + (i - (8 + 4 + 8)) = i from by omega, List.getD, List.getElem?_eq_getElem (by omega)]; rfl
  · rw [List.getElem?_eq_none (by simp [over_len, hr]; omega), List.getElem?_eq_none (by simp [head20_len, hr]; omega)]

theorem neg_bi (c : UInt8) : 255 - bi c = bi (neg c) := by
  unfold bi
  rw [neg_toNat]
  have := c.toNat_lt
  omega
theorem headP_over (n : UInt64) (s : List UInt8) : headP n s = over (head20 n s ++ List.drop 20 (List.replicate 64 0)) 20 ((head20 n s).map neg) := by
  apply List.ext_getElem?; intro i
  have hl := head20_len n s
  by_cases hi : i < 64
  · rw [over_at _ _ _ _ (by simp [hl]; omega)]
    by_cases h20 : i < 20
    · rw [headP_lo _ _ _ h20, if_neg (by omega), List.getD, List.getElem?_append_left (by omega), List.getElem?_eq_getElem (by omega)]; rfl
    · by_cases h40 : i < 40
      · rw [headP_mid _ _ _ (by omega) h40, if_pos (by simp [hl]; omega), List.getD, List.getElem?_map, List.getElem?_eq_getElem (by omega)]; rfl
      · rw [headP_hi _ _ _ (by omega) hi, if_neg (by simp [hl]; omega), List.getD, List.getElem?_append_right (by omega), List.getElem?_drop, List.getElem?_replicate, if_pos (by omega)]; rfl
  · rw [List.getElem?_eq_none (by rw [headP_len]; omega), List.getElem?_eq_none (by simp [over_len, hl]; omega)]

set_option maxHeartbeats 1000000 in
theorem headed_any (n : UInt64) (s : ByteArray) (w : World) (hs : s.size ≤ 1073741824) :
    Calls Try.prog 25 #[.int .u64 (ui n), .string s] w fun e w' => e = .returned (.string ⟨(headP n s.data.toList).toArray⟩) ∧ Below w.heap.size w w' := by
  have hn4 : ui (UInt64.ofNat s.size) = (s.size : Int) := by unfold ui; rw [UInt64.toNat_ofNat']; omega
  have HN := Lib.hid hn4
  clear hn4
  have hcv : ∀ w, (convert 9 38 (.string s)).run Try.prog w = _ := fun w => Lib.run_convert_string_bytes w 9 38 5 s Try.underlying9 Try.underlying38 Try.underlying5
  go_enter Try.func25, Try.ntmps25
  go_wp2_with fail
  refine (put_any w.heap.size 0 8 64 (List.replicate 64 0) n _ (by omega) (by simp) (byt_arr w _ _ _ rfl)).mono ?_
  rintro e w1 ⟨rfl, hB1, hg1⟩
  have hbel := below_of_grown ((Below.refl _ w).alloc (Nat.le_refl _) _) hg1 (Nat.le_refl _) (by simp)
  clear hg1
  have hsz := hB1.lt
  go_wp2_with fail
  refine (put_z w.heap.size 8 4 56 _ (UInt64.ofNat s.size) _ _ HN.out (by omega) (by rw [over_len]; simp) hB1).mono ?_
  rintro e w2 ⟨rfl, hB2, hg2⟩
  have hbel2 := below_of_grown hbel hg2 (Nat.le_refl _) hbel.size
  clear hg2 hbel hB1 hsz
  have hsz := hB2.lt
  go_wp2_with fail
  have hms : s.size ≤ maxLen := by unfold maxLen; omega
  have hB2 : Byt (Lib.bytesWorld w2.drew 5 s) w.heap.size _ := hB2.drew.below (bw_below w2.drew 5 s) hsz
  have hrd : Rd (Lib.bytesWorld w2.drew 5 s) (w2.heap.size + 1) (some ⟨w2.heap.size, 0, none⟩) s.size (B8 s.data.toList) := bw_rd w2.drew 5 s
  have hbW : Below w.heap.size w (Lib.bytesWorld w2.drew 5 s) := hbel2.trans (Below.trans (below_drewN (Below.refl _ _) 1) ((bw_below w2.drew 5 s).mono hbel2.size))
  have hl2 : 12 + 8 ≤ (over (over (List.replicate 64 0) 0 (beN 8 n)) 8 (beN 4 (UInt64.ofNat s.size))).length := by rw [over_len, over_len]; simp
  have h8 : 8 ≤ 8 := Nat.le_refl _
  go_cut [19] from 15 to 19 (fun _ wx => Byt wx w.heap.size (over (over (over (List.replicate 64 0) 0 (beN 8 n)) 8 (beN 4 (UInt64.ofNat s.size))) 12 (beN 8 (sum s.data.toList))) ∧ Below w.heap.size w wx)
  case first =>
    go_region_with (first
      | (go_at_call 31; (with_reducible refine (sum_any (some ⟨w2.heap.size, 0, none⟩) s.size _ _ s.data.toList (Lib.bytesWorld w2.drew 5 s) hrd hms).mono ?_); rintro e w' ⟨rfl, rfl⟩)
      | (go_at_call 30; (with_reducible refine (put_any w.heap.size 12 8 52 _ (sum s.data.toList) (Lib.bytesWorld w2.drew 5 s) h8 hl2 hB2).mono ?_); rintro e w3 ⟨rfl, hB3, hg3⟩))
    all_goals
      go_wp2_with fail
      go_meet
      exact ⟨hB3, below_of_grown hbW hg3 (Nat.le_refl _) hbW.size⟩
  case rest =>
    obtain ⟨hB3, hbel3⟩ := hcut
    clear hB2 hrd hbW hcv HN hbel2 hsz hms hl2 h8
    have hp3 := put3 n s.data.toList (List.replicate 64 0) (by simp) (by rw [len_size]; exact hs)
    rw [len_size] at hp3
    rw [hp3] at hB3
    clear hp3
    have hH := head20_len n s.data.toList
    have HE := Lib.hid (headP_over n s.data.toList)
    have HX : Hid ((headP n s.data.toList).length = 64) := headP_len n s.data.toList
    generalize hR : headP n s.data.toList = R at *
    have HR := Lib.hid hR
    clear hR
    generalize head20 n s.data.toList = H at *
    have HH := Lib.hid hH
    clear hH
    obtain ⟨Z, hZ⟩ : ∃ Z : List UInt8, Z = List.drop 20 (List.replicate 64 0) := ⟨_, rfl⟩
    have hZl : Z.length = 44 := by rw [hZ]; simp
    rw [← hZ] at hB3
    have HE : Hid (R = over (H ++ Z) 20 (H.map neg)) := by rw [HE.out, hZ]; rfl
    have HZ := Lib.hid hZl
    clear hZ hZl
    go_wp2
    go_loopw [20] (fun i wr => ∃ j : Nat, j ≤ 20 ∧ i = .int .i64 j ∧ Byt wr w.heap.size (over (H ++ Z) 20 ((H.map neg).take j)) ∧ Below w.heap.size w wr) (fun i _ => 20 - (intOf i).toNat)
    case atStart => exact ⟨0, by omega, rfl, by rw [List.take_zero, over_nil]; exact hB3, hbel3⟩
    case round =>
      clear hB3 hbel3
      obtain ⟨j, hj, rfl, hB, hbel⟩ := hrel
      have hlen : (over (H ++ Z) 20 ((H.map neg).take j)).length = 64 := by rw [over_len, List.length_append, HH.out, HZ.out]
      by_cases hlt : j < 20
      · have hHj : j < H.length := by rw [HH.out]; exact hlt
        have hc : (over (H ++ Z) 20 ((H.map neg).take j))[j]? = some H[j] := by
          rw [over_out _ _ _ _ (by omega), List.getElem?_append_left hHj, List.getElem?_eq_getElem hHj]
        have hcell := hB.cell j _ hc
        obtain ⟨v, hcell2⟩ : ∃ v, wr.cell? ⟨w.heap.size, 20 + j, none⟩ = some (.int .u8 v) := ⟨_, hB.at_ (j := 20 + j) (by omega)⟩
        have hfr : wr.frozen? ⟨w.heap.size, 20 + j, none⟩ = false := hB.free _ (by omega)
        have HSET := Lib.hid (over_take_succ (H ++ Z) 20 (H.map neg) j (neg H[j]) (by rw [List.getElem?_map, List.getElem?_eq_getElem hHj]; rfl))
        have hneg := neg_bi H[j]
        obtain ⟨hc0, hc1⟩ := bi_bd (neg H[j])
        obtain ⟨hc2, hc3⟩ := bi_bd H[j]
        have HB := Lib.hid hB
        have HL := Lib.hid hlen
        clear hB hlen hc
        generalize H[j] = c at *
        go_wp2
        go_roundw
        case rel => exact ⟨j + 1, by omega, by go_num, by rw [← HSET.out]; exact HB.out.set_ (k := 20 + j) (by rw [HL.out]; omega) _, hbel.setCell (Nat.le_refl _) _⟩
        case measure => simp [intOf]; omega
      · obtain rfl : j = 20 := by omega
        have HT : Hid ((H.map neg).take 20 = H.map neg) := List.take_of_length_le (by simp [HH.out])
        have hcv := hB.conv (P := Try.prog) 38 9 Try.underlying38 Try.underlying5 Try.underlying9 0 64 64 R HX.out (fun i hi => by rw [HT.out, ← HE.out, Nat.zero_add])
        clear hB hlen
        go_wp2
        go_ret
        exact ⟨by rw [HR.out]; rfl, hbel⟩
end Go.Proofs.Ytlhdomckljhfoaa
