/-
  Plain law of chapter 2: the text of a version that may be is read as that version. Conditions: none.
-/
import Derived.Test.YtabcpbmnemfnbaaDoorVLens
namespace Go.Proofs.YtabcpbmnemfnbaaDoor

theorem cut_first {b : UInt8} : ∀ {a a' r r' : List UInt8}, b ∉ a → b ∉ a' → a ++ b :: r = a' ++ b :: r' → a = a' ∧ r = r'
  | [], [], r, r', _, _, h => ⟨rfl, by simpa using h⟩
  | [], x :: a', r, r', _, h2, h => by simp at h; exact absurd h.1 (fun e => h2 (by rw [e]; simp))
  | x :: a, [], r, r', h1, _, h => by simp at h; exact absurd h.1 (fun e => h1 (by rw [e]; simp))
  | x :: a, y :: a', r, r', h1, h2, h => by
    simp at h
    obtain ⟨rfl, h⟩ := h
    obtain ⟨rfl, rfl⟩ := cut_first (fun e => h1 (by simp [e])) (fun e => h2 (by simp [e])) h
    exact ⟨rfl, rfl⟩
theorem itoa_digs {n : Int} (h : 0 ≤ n) : (Lib.itoa n).all digB = true := by
  unfold Lib.itoa
  rw [if_neg (by omega)]
  exact (dec_all _ _ (Nat.le_refl _)).1
theorem digs_no {l : List UInt8} (h : l.all digB = true) {c : UInt8} (hc : digB c = false) : c ∉ l := by
  intro hm
  have := List.all_eq_true.1 h c hm
  rw [hc] at this
  cases this
/-- Three texts of digits, points between, cut at the points. -/
theorem split_three {a b c : List UInt8} (ha : (46 : UInt8) ∉ a) (hb : (46 : UInt8) ∉ b) (hc : (46 : UInt8) ∉ c) : splitL (a ++ 46 :: (b ++ 46 :: c)) 46 = [a, b, c] := by
  have hj := split_join (a ++ 46 :: (b ++ 46 :: c)) 46
  have hf := split_free (a ++ 46 :: (b ++ 46 :: c)) 46
  have hn := split_count (a ++ 46 :: (b ++ 46 :: c)) 46
  rw [List.count_append, List.count_cons, List.count_append, List.count_cons, List.count_eq_zero.2 ha, List.count_eq_zero.2 hb, List.count_eq_zero.2 hc] at hn
  generalize splitL (a ++ 46 :: (b ++ 46 :: c)) 46 = ps at *
  match ps, hn with
  | [x, y, z], _ =>
    have hj2 : x ++ 46 :: (y ++ 46 :: z) = a ++ 46 :: (b ++ 46 :: c) := by rw [← hj]; simp [joinL]
    obtain ⟨rfl, h2⟩ := cut_first (hf x (by simp)) ha hj2
    obtain ⟨rfl, rfl⟩ := cut_first (hf y (by simp)) hb h2
    rfl
theorem ahead_app {A t : List UInt8} {c : UInt8} (h : c ∉ A) : aheadL (A ++ segB c t) c = A ∧ fromL (A ++ segB c t) c = segB c t := by
  unfold aheadL fromL
  have hA : ∀ x ∈ A, (x != c) = true := fun x hx => by simp; intro e; subst e; exact h hx
  rw [List.takeWhile_append_of_pos hA, List.dropWhile_append_of_pos hA]
  unfold segB
  split
  · simp
  · simp
theorem join_not {ps : List (List UInt8)} {b c : UInt8} (hbc : b ≠ c) (h : ∀ p ∈ ps, c ∉ p) : c ∉ joinL ps b := by
  unfold joinL
  cases ps with
  | nil => simp
  | cons p r =>
    simp only [List.mem_append, List.mem_flatMap, not_or]
    refine ⟨h p (by simp), ?_⟩
    rintro ⟨q, hq, hc⟩
    rcases List.mem_cons.1 hc with hc | hc
    · exact hbc hc.symm
    · exact h q (by simp [hq]) hc
theorem tags_not {s : List UInt8} (h : tagsB s = true) : (43 : UInt8) ∉ s := by
  unfold tagsB at h
  rw [Bool.and_eq_true] at h
  rw [← split_join s 46]
  refine join_not (by decide) fun p hp hc => ?_
  have h2 := List.all_eq_true.1 h.2 p hp
  unfold tagB at h2
  rw [Bool.and_eq_true] at h2
  have := List.all_eq_true.1 h2.2 43 hc
  revert this
  decide
theorem pre_not {v : Ver} (h : mayV v = true) : (43 : UInt8) ∉ v.pre := by
  unfold mayV at h
  simp only [Bool.and_eq_true, Bool.or_eq_true] at h
  rcases h.1.2 with h | h
  · rw [List.isEmpty_iff.1 h]; simp
  · unfold preB at h
    rw [Bool.and_eq_true] at h
    exact tags_not h.1
theorem seg_not {c d : UInt8} {t : List UInt8} (h : d ≠ c) (ht : d ∉ t) : d ∉ segB c t := by
  unfold segB
  split
  · simp
  · simp [h, ht]
theorem seg_tail (c : UInt8) (t : List UInt8) : (segB c t).tail = t := by
  unfold segB
  split
  · rename_i h; rw [h]; rfl
  · rfl
theorem seg_one (c : UInt8) (t : List UInt8) : (segB c t).length ≠ 1 := by
  unfold segB
  split
  · simp
  · rename_i h
    intro e
    simp at e
    exact h e
/-- The text is read back. -/
theorem print_parse {v : Ver} (h : mayV v = true) : parseV (printV v) = some v := by
  have hm := may_parts h
  obtain ⟨⟨a0, a1⟩, ⟨b0, b1⟩, ⟨c0, c1⟩⟩ := hm
  have da := itoa_digs a0
  have db := itoa_digs b0
  have dc := itoa_digs c0
  have hN43 : (43 : UInt8) ∉ numsV v := by
    unfold numsV
    have e1 := digs_no da (c := 43) (by decide)
    have e2 := digs_no db (c := 43) (by decide)
    have e3 := digs_no dc (c := 43) (by decide)
    simp [e1, e2, e3]
  have hN45 : (45 : UInt8) ∉ numsV v := by
    unfold numsV
    have e1 := digs_no da (c := 45) (by decide)
    have e2 := digs_no db (c := 45) (by decide)
    have e3 := digs_no dc (c := 45) (by decide)
    simp [e1, e2, e3]
  have hA : (43 : UInt8) ∉ numsV v ++ segB 45 v.pre := by
    rw [List.mem_append, not_or]
    exact ⟨hN43, seg_not (by decide) (pre_not h)⟩
  have hs := print_yes v h
  obtain ⟨p1, p2⟩ := ahead_app (t := v.build) hA
  obtain ⟨p3, p4⟩ := ahead_app (t := v.pre) hN45
  have hsp : splitL (numsV v) 46 = [Lib.itoa v.maj, Lib.itoa v.min, Lib.itoa v.pat] :=
    split_three (digs_no da (by decide)) (digs_no db (by decide)) (digs_no dc (by decide))
  have n1 := num_itoa v.maj
  have n2 := num_itoa v.min
  have n3 := num_itoa v.pat
  rw [if_pos ⟨a0, a1⟩] at n1
  rw [if_pos ⟨b0, b1⟩] at n2
  rw [if_pos ⟨c0, c1⟩] at n3
  have h3 : threeR (splitL (numsV v) 46) = (v.maj, v.min, v.pat, true) := by
    rw [hsp]
    show (((numB (Lib.itoa v.maj)).1 : Int), ((numB (Lib.itoa v.min)).1 : Int), ((numB (Lib.itoa v.pat)).1 : Int), _) = _
    rw [n1, n2, n3]
    simp only [Int.toNat_of_nonneg a0, Int.toNat_of_nonneg b0, Int.toNat_of_nonneg c0]
    rfl
  rw [parse_eq, hs, p1, p2, p3, p4, h3]
  simp only [seg_tail]
  rw [if_pos ⟨trivial, seg_one _ _, seg_one _ _, h⟩]
end Go.Proofs.YtabcpbmnemfnbaaDoor
