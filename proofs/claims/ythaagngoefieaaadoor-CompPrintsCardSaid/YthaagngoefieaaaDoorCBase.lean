/-
  Plain facts of chapters 1 and 2 that chapter 6's plain law takes (the same texts stand in XVPrint, XVParts, XVBack, XVLawC beside walks that this seat's program has not). Conditions: none.
-/
import Derived.Test.YthaagngoefieaaaDoorVPlain
import Derived.Test.YthaagngoefieaaaDoorIdLaws
namespace Go.Proofs.YthaagngoefieaaaDoor

theorem may_parts {v : Ver} (h : mayV v = true) : (0 ≤ v.maj ∧ v.maj ≤ 9999) ∧ (0 ≤ v.min ∧ v.min ≤ 9999) ∧ (0 ≤ v.pat ∧ v.pat ≤ 9999) := by
  unfold mayV at h
  simp only [Bool.and_eq_true] at h
  exact ⟨(fits_iff _).1 h.1.1.1.1, (fits_iff _).1 h.1.1.1.2, (fits_iff _).1 h.1.1.2⟩
theorem cut_none {l : List UInt8} {c : UInt8} (h0 : l.all (· != c) = true) : aheadL l c = l ∧ fromL l c = [] := by
  induction l with
  | nil => simp [aheadL, fromL]
  | cons x l ih =>
    rw [List.all_cons, Bool.and_eq_true] at h0
    obtain ⟨a, b⟩ := ih h0.2
    unfold aheadL fromL at *
    rw [List.takeWhile_cons, List.dropWhile_cons, h0.1]
    simp [a, b]
theorem cut_first {b : UInt8} : ∀ {a a' r r' : List UInt8}, b ∉ a → b ∉ a' → a ++ b :: r = a' ++ b :: r' → a = a' ∧ r = r'
  | [], [], r, r', _, _, h => ⟨rfl, by simpa using h⟩
  | [], x :: a', r, r', _, h2, h => by simp at h; exact absurd h.1 (fun e => h2 (by rw [e]; simp))
  | x :: a, [], r, r', h1, _, h => by simp at h; exact absurd h.1 (fun e => h1 (by rw [e]; simp))
  | x :: a, y :: a', r, r', h1, h2, h => by
    simp at h
    obtain ⟨rfl, h⟩ := h
    obtain ⟨rfl, rfl⟩ := cut_first (fun e => h1 (by simp [e])) (fun e => h2 (by simp [e])) h
    exact ⟨rfl, rfl⟩
theorem itoa_digs {n : Int} (h : 0 ≤ n) : (Lib.itoa n).all digB = true := by
  unfold Lib.itoa
  rw [if_neg (by omega)]
  exact (dec_all _ _ (Nat.le_refl _)).1
theorem digs_no {l : List UInt8} (h : l.all digB = true) {c : UInt8} (hc : digB c = false) : c ∉ l := by
  intro hm
  have := List.all_eq_true.1 h c hm
  rw [hc] at this
  cases this
theorem ahead_app {A t : List UInt8} {c : UInt8} (h : c ∉ A) : aheadL (A ++ segB c t) c = A ∧ fromL (A ++ segB c t) c = segB c t := by
  unfold aheadL fromL
  have hA : ∀ x ∈ A, (x != c) = true := fun x hx => by simp; intro e; subst e; exact h hx
  rw [List.takeWhile_append_of_pos hA, List.dropWhile_append_of_pos hA]
  unfold segB
  split
  · simp
  · simp
theorem join_not {ps : List (List UInt8)} {b c : UInt8} (hbc : b ≠ c) (h : ∀ p ∈ ps, c ∉ p) : c ∉ joinL ps b := by
  unfold joinL
  cases ps with
  | nil => simp
  | cons p r =>
    simp only [List.mem_append, List.mem_flatMap, not_or]
    refine ⟨h p (by simp), ?_⟩
    rintro ⟨q, hq, hc⟩
    rcases List.mem_cons.1 hc with hc | hc
    · exact hbc hc.symm
    · exact h q (by simp [hq]) hc
theorem tags_not {s : List UInt8} (h : tagsB s = true) : (43 : UInt8) ∉ s := by
  unfold tagsB at h
  rw [Bool.and_eq_true] at h
  rw [← split_join s 46]
  refine join_not (by decide) fun p hp hc => ?_
  have h2 := List.all_eq_true.1 h.2 p hp
  unfold tagB at h2
  rw [Bool.and_eq_true] at h2
  have := List.all_eq_true.1 h2.2 43 hc
  revert this
  decide
theorem pre_not {v : Ver} (h : mayV v = true) : (43 : UInt8) ∉ v.pre := by
  unfold mayV at h
  simp only [Bool.and_eq_true, Bool.or_eq_true] at h
  rcases h.1.2 with h | h
  · rw [List.isEmpty_iff.1 h]; simp
  · unfold preB at h
    rw [Bool.and_eq_true] at h
    exact tags_not h.1
theorem seg_not {c d : UInt8} {t : List UInt8} (h : d ≠ c) (ht : d ∉ t) : d ∉ segB c t := by
  unfold segB
  split
  · simp
  · simp [h, ht]
theorem seg_tail (c : UInt8) (t : List UInt8) : (segB c t).tail = t := by
  unfold segB
  split
  · rename_i h; rw [h]; rfl
  · rfl
theorem itoa_pos {n : Int} (h : 0 ≤ n) : 1 ≤ (Lib.itoa n).length := by
  unfold Lib.itoa
  rw [if_neg (by omega)]
  exact (dec_all _ _ (Nat.le_refl _)).2.2.1
end Go.Proofs.YthaagngoefieaaaDoor
