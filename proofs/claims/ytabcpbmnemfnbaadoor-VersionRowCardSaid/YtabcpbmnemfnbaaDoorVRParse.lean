/-
  The walk of chapter 2's reference Parse. Conditions: the string has at most 300000 bytes.
-/
import Derived.Test.YtabcpbmnemfnbaaDoorVRoom
namespace Go.Proofs.YtabcpbmnemfnbaaDoor
open Go.ChangeShapes Go.WideShapes Go.ChangeAt Go.RowKit
set_option linter.unusedVariables false

/-- What Parse returns: the version, or none and the error. -/
def parseVal (o : Option Ver) : Value :=
  match o with
  | some v => .tuple #[.agg #[.int .i64 v.maj, .int .i64 v.min, .int .i64 v.pat, .string ⟨v.pre.toArray⟩, .string ⟨v.build.toArray⟩], .int .i64 0]
  | none => .tuple #[.agg #[.int .i64 0, .int .i64 0, .int .i64 0, .string ⟨#[]⟩, .string ⟨#[]⟩], .int .i64 5]

theorem three_opt (ps : List (List UInt8)) : threeL ps = if (threeR ps).2.2.2 = true then some ((threeR ps).1, (threeR ps).2.1, (threeR ps).2.2.1) else none := by
  match ps with
  | [] => rfl
  | [_] => rfl
  | [_, _] => rfl
  | [_, _, _] => rfl
  | _ :: _ :: _ :: _ :: _ => rfl

/-- What stands behind a text's first byte; of the empty one, nothing. -/
def tl (s : ByteArray) : ByteArray := if s.size = 0 then ⟨#[]⟩ else s.extract 1 s.size
/-- A text taken apart as Parse does. -/
theorem parse_eq (s : List UInt8) : parseV s =
    if (threeR (splitL (aheadL (aheadL s 43) 45) 46)).2.2.2 = true ∧ (fromL (aheadL s 43) 45).length ≠ 1 ∧ (fromL s 43).length ≠ 1 ∧
      mayV ⟨(threeR (splitL (aheadL (aheadL s 43) 45) 46)).1, (threeR (splitL (aheadL (aheadL s 43) 45) 46)).2.1, (threeR (splitL (aheadL (aheadL s 43) 45) 46)).2.2.1, (fromL (aheadL s 43) 45).tail, (fromL s 43).tail⟩ = true
    then some ⟨(threeR (splitL (aheadL (aheadL s 43) 45) 46)).1, (threeR (splitL (aheadL (aheadL s 43) 45) 46)).2.1, (threeR (splitL (aheadL (aheadL s 43) 45) 46)).2.2.1, (fromL (aheadL s 43) 45).tail, (fromL s 43).tail⟩ else none := by
  unfold parseV
  rw [three_opt]
  generalize threeR (splitL (aheadL (aheadL s 43) 45) 46) = r
  obtain ⟨a, b, c, ok⟩ := r
  generalize fromL (aheadL s 43) 45 = P
  generalize fromL s 43 = Q
  cases ok
  · simp
  · simp only [if_true]
    by_cases h1 : P.length = 1
    · rw [if_pos (Or.inl h1), if_neg (fun h => h.2.1 h1)]
    by_cases h2 : Q.length = 1
    · rw [if_pos (Or.inr h2), if_neg (fun h => h.2.2.1 h2)]
    rw [if_neg (by simp [h1, h2])]
    by_cases hm : mayV ⟨a, b, c, P.tail, Q.tail⟩ = true
    · rw [if_pos hm, if_pos ⟨trivial, h1, h2, hm⟩]
    · rw [if_neg hm, if_neg (fun h => hm h.2.2.2)]

/-- The four pieces, as the reference cuts them. -/
theorem cut_pieces (s : ByteArray) (c : UInt8) : plc s c ≤ s.size ∧ (s.extract 0 (plc s c)).data.toList = aheadL s.data.toList c ∧ (s.extract (plc s c) s.size).data.toList = fromL s.data.toList c := by
  have h := ahead_from s.data.toList c
  have hl := ahead_le s.data.toList c
  rw [len_size] at hl
  refine ⟨hl, ?_, ?_⟩
  · rw [ext_list, List.drop_zero]
    have e := List.take_left (l₁ := aheadL s.data.toList c) (l₂ := fromL s.data.toList c)
    rw [h] at e
    exact e
  · rw [ext_list, List.take_of_length_le (by rw [len_size]; exact Nat.le_refl _)]
    have e := List.drop_left (l₁ := aheadL s.data.toList c) (l₂ := fromL s.data.toList c)
    rw [h] at e
    exact e
theorem tail_ext (s : ByteArray) : (s.extract 1 s.size).data.toList = s.data.toList.tail := by
  rw [ext_list, List.take_of_length_le (by rw [len_size]; exact Nat.le_refl _), List.drop_one]

theorem rparse_res (W : World) (tmps : Array Value) (b : Nat) {x0 x1 x2 x3 x4 : Value} (h2 : tmps[2]?.getD undef = .pointer (some ⟨b, 0, none⟩)) (h : Five W b x0 x1 x2 x3 x4) :
    (results Tryd.f15 tmps).run Tryd.prog W = .ok (.tuple #[.agg #[x0, x1, x2, x3, x4], tmps[3]?.getD undef]) W := by
  obtain ⟨k0, k1, k2, k3, k4⟩ := h
  simp [results, Tryd.results15, h2, go_sem, k0, k1, k2, k3, k4]

theorem tl_tail (s : ByteArray) : (tl s).data.toList = s.data.toList.tail := by
  unfold tl
  split
  · rename_i h
    obtain rfl := empty_is h
    rfl
  · exact tail_ext s
theorem tl_le (s : ByteArray) {n : Nat} (h : s.size ≤ n) : (tl s).size ≤ n := by
  have := congrArg List.length (tl_tail s)
  rw [len_size, List.length_tail, len_size] at this
  omega

set_option maxHeartbeats 4000000 in
theorem rparse_any (s : ByteArray) (w : World) (hs : s.size ≤ 300000) :
    Calls Tryd.prog 15 #[.string s] w fun e w' => e = .returned (parseVal (parseV s.data.toList)) ∧ Below w.heap.size w w' := by
  obtain ⟨hk, hr, hB⟩ := cut_pieces s 43
  have hp1 := fun W => place_any s 43 W (by unfold maxLen; omega)
  have hPE := Lib.hid (parse_eq s.data.toList)
  rw [← hr, ← hB] at hPE
  generalize plc s 43 = k at *
  clear hr hB
  have hrs : (s.extract 0 k).size ≤ 300000 := by simp; omega
  obtain ⟨hj, hN, hP⟩ := cut_pieces (s.extract 0 k) 45
  have hp2 := fun W => place_any (s.extract 0 k) 45 W (by unfold maxLen; omega)
  rw [← hN, ← hP] at hPE
  generalize plc (s.extract 0 k) 45 = j at *
  clear hN hP
  have hns : ((s.extract 0 k).extract 0 j).size ≤ 300000 := by simp; omega
  have hps : ((s.extract 0 k).extract j (s.extract 0 k).size).size ≤ 300000 := by simp; omega
  have hbs : (s.extract k s.size).size ≤ 300000 := by simp; omega
  generalize hBB : s.extract k s.size = BB at *
  generalize hrr : s.extract 0 k = r at *
  generalize hPP : r.extract j r.size = PP at *
  generalize hNN : r.extract 0 j = NN at *
  generalize parseV s.data.toList = R at *
  go_enter Tryd.func15, Tryd.ntmps15
  go_wp2_with fail
  refine (hp1 _).mono ?_
  rintro e w1 ⟨rfl, rfl⟩
  go_wp2_with fail
  refine (hp2 _).mono ?_
  rintro e w1 ⟨rfl, rfl⟩
  go_wp2_with fail
  refine (rsplit_any NN 46 _ (by omega)).mono ?_
  rintro e w1 ⟨⟨v, rfl, hown⟩, hb1⟩
  obtain ⟨A, c, rfl, hrd⟩ := rd_own hown
  have hle : ∀ q ∈ splitL NN.data.toList 46, q.length ≤ 1048576 := fun q hq => by have := piece_le hq; rw [len_size] at this; omega
  have hn := split_len_le NN.data.toList 46
  rw [len_size] at hn
  clear hown
  generalize splitL NN.data.toList 46 = ps at *
  go_wp2_with fail
  refine (three_any A c _ ps _ (Nat.le_refl _) hrd hle (by omega)).mono ?_
  generalize threeR ps = T at *
  obtain ⟨n0, n1, n2, ok⟩ := T
  rintro e w2 ⟨rfl, hb2⟩
  clear hrd hle hp1 hp2
  have hBw : Below w.heap.size w w2 := (box_below w _).trans ((hb1.trans (hb2.mono hb1.size)).mono (by simp))
  have hRm := room_below (room_new w _ _ _ _ _ _) (by simp) (hb1.trans (hb2.mono hb1.size))
  have hlt : w.heap.size < w2.heap.size := by have h1 := hb1.size; have h2 := hb2.size; simp at h1; omega
  clear hb1 hb2
  obtain ⟨⟨k0, k1, k2, k3, k4⟩, kf⟩ := id hRm
  have f0 := kf 0
  have f1 := kf 1
  have f2 := kf 2
  have f3 := kf 3
  have f4 := kf 4
  cases ok
  · have HR : Hid (R = none) := by have := hPE.out; rw [if_neg (fun h => by simpa using h.1)] at this; exact this
    clear hPE
    go_wp2
    have hput := room_put hRm (.int .i64 0) (.int .i64 0) (.int .i64 0) (.string ⟨#[]⟩) (.string ⟨#[]⟩)
    refine bodyPost_ret (rparse_res _ _ w.heap.size rfl (five_alloc hput.1 (by simpa [World.put5] using hlt) _)) rfl ?_
    rw [HR.out]
    refine ⟨rfl, ?_⟩
    go_grown
  by_cases hP1 : PP.size = 1
  · have HR : Hid (R = none) := by have := hPE.out; rw [if_neg (fun h => h.2.1 (by rw [len_size]; exact hP1))] at this; exact this
    have b1 : ((PP.size : Int) == 1) = true := by simp; omega
    clear hPE
    go_wp2
    have hput := room_put hRm (.int .i64 0) (.int .i64 0) (.int .i64 0) (.string ⟨#[]⟩) (.string ⟨#[]⟩)
    refine bodyPost_ret (rparse_res _ _ w.heap.size rfl (five_alloc hput.1 (by simpa [World.put5] using hlt) _)) rfl ?_
    rw [HR.out]
    refine ⟨rfl, ?_⟩
    go_grown
  have b1 : ((PP.size : Int) == 1) = false := by simp; omega
  by_cases hB1 : BB.size = 1
  · have HR : Hid (R = none) := by have := hPE.out; rw [if_neg (fun h => h.2.2.1 (by rw [len_size]; exact hB1))] at this; exact this
    have b2 : ((BB.size : Int) == 1) = true := by simp; omega
    clear hPE
    go_wp2
    have hput := room_put hRm (.int .i64 0) (.int .i64 0) (.int .i64 0) (.string ⟨#[]⟩) (.string ⟨#[]⟩)
    refine bodyPost_ret (rparse_res _ _ w.heap.size rfl (five_alloc hput.1 (by simpa [World.put5] using hlt) _)) rfl ?_
    rw [HR.out]
    refine ⟨rfl, ?_⟩
    go_grown
  have b2 : ((BB.size : Int) == 1) = false := by simp; omega
  go_upto_if 46 with fail
  go_cut [8] from 46 to 49 (fun v wx => v = .pointer (some ⟨w2.heap.size, 0, none⟩) ∧ wx = w2.alloc (.cells #[.int .i64 n0, .int .i64 n1, .int .i64 n2, .string (tl PP), .string ⟨#[]⟩] 24))
  case first =>
    by_cases hp0 : PP.size = 0
    · have he := empty_str PP hp0
      have ht : tl PP = ⟨#[]⟩ := by unfold tl; rw [if_pos hp0]
      simp only [he, Bool.not_true]
      go_wp2_with fail
      go_meet
      exact ⟨rfl, by rw [ht]⟩
    · obtain ⟨he, he'⟩ := empty_no (s := PP) (by omega)
      have ht : tl PP = PP.extract 1 PP.size := by unfold tl; rw [if_neg hp0]
      have hp1 : (1 : Int) ≤ (PP.size : Int) := by omega
      simp only [he, Bool.not_false]
      go_wp2_with fail
      go_meet
      exact ⟨rfl, by rw [ht]⟩
  case rest =>
  obtain ⟨rfl, rfl⟩ := hcut
  go_upto_if 51 with fail
  go_cut [8] from 51 to 54 (fun v wx => v = .pointer (some ⟨w2.heap.size, 0, none⟩) ∧ wx = w2.alloc (.cells #[.int .i64 n0, .int .i64 n1, .int .i64 n2, .string (tl PP), .string (tl BB)] 24))
  case first =>
    by_cases hp0 : BB.size = 0
    · have he := empty_str BB hp0
      have ht : tl BB = ⟨#[]⟩ := by unfold tl; rw [if_pos hp0]
      simp only [he, Bool.not_true]
      go_wp2_with fail
      go_meet
      exact ⟨rfl, by rw [ht]⟩
    · obtain ⟨he, he'⟩ := empty_no (s := BB) (by omega)
      have ht : tl BB = BB.extract 1 BB.size := by unfold tl; rw [if_neg hp0]
      have hp1 : (1 : Int) ≤ (BB.size : Int) := by omega
      simp only [he, Bool.not_false]
      go_wp2_with fail
      go_meet
      exact ⟨rfl, by rw [ht]⟩
  case rest =>
  obtain ⟨rfl, rfl⟩ := hcut
  have hmt : mayV (verS n0 n1 n2 (tl PP) (tl BB)) = mayV ⟨n0, n1, n2, PP.data.toList.tail, BB.data.toList.tail⟩ := by rw [verS, tl_tail, tl_tail]
  have hmay := fun W => rmay_any n0 n1 n2 (tl PP) (tl BB) W (tl_le _ (by omega)) (tl_le _ (by omega))
  have hRm3 := room_below hRm hlt (box_below w2 (.cells #[.int .i64 n0, .int .i64 n1, .int .i64 n2, .string (tl PP), .string (tl BB)] 24))
  cases hm : mayV (verS n0 n1 n2 (tl PP) (tl BB))
  · have HR : Hid (R = none) := by have := hPE.out; rw [if_neg (fun h => by rw [hmt] at hm; rw [hm] at h; exact absurd h.2.2.2 (by decide))] at this; exact this
    rw [hm] at hmay
    clear hPE k0 k1 k2 k3 k4 f0 f1 f2 f3 f4 kf
    go_wp2_with fail
    refine (hmay _).mono ?_
    rintro e w4 ⟨rfl, hb4⟩
    obtain ⟨⟨k0, k1, k2, k3, k4⟩, kf⟩ := room_below hRm3 (by simp; omega) hb4
    have hRm4 := room_below hRm3 (by simp; omega) hb4
    have f0 := kf 0
    have f1 := kf 1
    have f2 := kf 2
    have f3 := kf 3
    have f4 := kf 4
    have hB4 : Below w.heap.size w w4 := (hBw.trans ((box_below w2 _).mono (by omega))).trans (hb4.mono (by simp; omega))
    clear hb4 hRm3
    go_wp2
    have hput := room_put hRm4 (.int .i64 0) (.int .i64 0) (.int .i64 0) (.string ⟨#[]⟩) (.string ⟨#[]⟩)
    refine bodyPost_ret (rparse_res _ _ w.heap.size rfl hput.1) rfl ?_
    rw [HR.out]
    refine ⟨rfl, ?_⟩
    go_grown
  · have HR : Hid (parseVal R = .tuple #[.agg #[.int .i64 n0, .int .i64 n1, .int .i64 n2, .string (tl PP), .string (tl BB)], .int .i64 0]) := by
      have h1 := hPE.out
      rw [if_pos ⟨by first | rfl | trivial | simp, by rw [len_size]; exact hP1, by rw [len_size]; exact hB1, by rw [← hmt]; exact hm⟩] at h1
      rw [h1]
      show Value.tuple #[.agg #[_, _, _, .string ⟨PP.data.toList.tail.toArray⟩, .string ⟨BB.data.toList.tail.toArray⟩], _] = _
      rw [← tl_tail, ← tl_tail, back, back]
    rw [hm] at hmay
    clear hPE k0 k1 k2 k3 k4 f0 f1 f2 f3 f4 kf
    go_wp2_with fail
    refine (hmay _).mono ?_
    rintro e w4 ⟨rfl, hb4⟩
    obtain ⟨⟨k0, k1, k2, k3, k4⟩, kf⟩ := room_below hRm3 (by simp; omega) hb4
    have hRm4 := room_below hRm3 (by simp; omega) hb4
    obtain ⟨l0, l1, l2, l3, l4⟩ := cells5 w2 _ _ _ _ _ _ (by simpa using hb4)
    have f0 := kf 0
    have f1 := kf 1
    have f2 := kf 2
    have f3 := kf 3
    have f4 := kf 4
    have hB4 : Below w.heap.size w w4 := (hBw.trans ((box_below w2 _).mono (by omega))).trans (hb4.mono (by simp; omega))
    clear hb4 hRm3
    go_wp2
    have hput := room_put hRm4 (.int .i64 n0) (.int .i64 n1) (.int .i64 n2) (.string (tl PP)) (.string (tl BB))
    refine bodyPost_ret (rparse_res _ _ w.heap.size rfl hput.1) rfl ?_
    rw [HR.out]
    refine ⟨rfl, ?_⟩
    go_grown
end Go.Proofs.YtabcpbmnemfnbaaDoor
