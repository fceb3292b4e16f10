/-
  Plain law of chapter 1: names, words, decimal numbers, cutting and joining, on lists of bytes. Conditions: none.
-/
import Derived.Lib.ItoaNum
import Derived.Lib.Hide
namespace Go.Proofs.YthaagngoefieaaaDoor

def lowB (c : UInt8) : Bool := 97 ≤ c.toNat && c.toNat ≤ 122
def digB (c : UInt8) : Bool := 48 ≤ c.toNat && c.toNat ≤ 57

/-! Names and words. -/
/-- A name's byte c behind the byte p. -/
def nameOk (p c : UInt8) : Bool := (lowB c || digB c || c == 45) && !(c == 45 && p == 45)
/-- The bytes from place 1 to place k - 1 are a name's. -/
def nameTo (l : List UInt8) : Nat → Bool
  | 0 => true
  | k + 1 => nameTo l k && (k == 0 || nameOk (l.getD (k - 1) 0) (l.getD k 0))
def nameB (l : List UInt8) : Bool := decide (1 ≤ l.length) && decide (l.length ≤ 16) && lowB (l.getD 0 0) && !(l.getD (l.length - 1) 0 == 45) && nameTo l l.length
def wordOk (c : UInt8) : Bool := lowB c || digB c || c == 95
def wordB (l : List UInt8) : Bool := decide (1 ≤ l.length) && decide (l.length ≤ 12) && l.all wordOk

theorem nameTo_false {l : List UInt8} {k n : Nat} (hkn : k ≤ n) (h : nameTo l k = false) : nameTo l n = false := by
  induction n with
  | zero => obtain rfl : k = 0 := by omega
            exact h
  | succ n ih =>
    by_cases e : k = n + 1
    · subst e; exact h
    · rw [nameTo, ih (by omega)]; rfl
theorem nameTo_stop {l : List UInt8} {k n : Nat} (hk : 0 < k) (hkn : k < n) (h : nameOk (l.getD (k - 1) 0) (l.getD k 0) = false) : nameTo l n = false := by
  refine nameTo_false (k := k + 1) (by omega) ?_
  rw [nameTo, h]
  simp
  omega
theorem nameTo_step {l : List UInt8} {k : Nat} (h0 : nameTo l k = true) (h : k = 0 ∨ nameOk (l.getD (k - 1) 0) (l.getD k 0) = true) : nameTo l (k + 1) = true := by
  rw [nameTo, h0]
  rcases h with h | h
  · rw [h]; rfl
  · rw [h, Bool.or_true]; rfl

/-! Numbers. -/
def valL (l : List UInt8) : Nat := l.foldl (fun n c => 10 * n + (c.toNat - 48)) 0
def numOk (l : List UInt8) : Bool := decide (1 ≤ l.length) && decide (l.length ≤ 4) && !(l.getD 0 0 == 48 && decide (1 < l.length)) && l.all digB
def numB (l : List UInt8) : Nat × Bool := if numOk l = true then (valL l, true) else (0, false)

theorem valL_take (l : List UInt8) (k : Nat) (c : UInt8) (h : l[k]? = some c) : valL (l.take (k + 1)) = 10 * valL (l.take k) + (c.toNat - 48) := by
  obtain ⟨hlt, rfl⟩ := List.getElem?_eq_some_iff.1 h
  rw [List.take_succ_eq_append_getElem hlt]
  unfold valL; rw [List.foldl_append]; rfl
theorem all_take_succ {p : UInt8 → Bool} {l : List UInt8} {k : Nat} {c : UInt8} (h : l[k]? = some c) (h0 : (l.take k).all p = true) (hc : p c = true) : (l.take (k + 1)).all p = true := by
  obtain ⟨hlt, rfl⟩ := List.getElem?_eq_some_iff.1 h
  rw [List.take_succ_eq_append_getElem hlt, List.all_append, h0]
  simp [hc]
theorem all_stop {p : UInt8 → Bool} {l : List UInt8} {k : Nat} {c : UInt8} (h : l[k]? = some c) (hc : p c = false) : l.all p = false := by
  obtain ⟨hlt, rfl⟩ := List.getElem?_eq_some_iff.1 h
  rw [Bool.eq_false_iff]
  intro ha
  have := List.all_eq_true.1 ha l[k] (List.getElem_mem hlt)
  rw [hc] at this
  cases this
theorem dig_le9 {c : UInt8} (h : digB c = true) : c.toNat - 48 ≤ 9 := by
  unfold digB at h
  simp at h
  omega
theorem valL_lt (l : List UInt8) (h : l.all digB = true) : ∀ k, k ≤ l.length → valL (l.take k) < 10 ^ k := by
  intro k
  induction k with
  | zero => intro _; simp [valL]
  | succ k ih =>
    intro hk
    have hc : l[k]? = some (l[k]'(by omega)) := List.getElem?_eq_getElem (by omega)
    rw [valL_take l k _ hc]
    have := ih (by omega)
    have h9 := dig_le9 (List.all_eq_true.1 h (l[k]'(by omega)) (List.getElem_mem _))
    rw [Nat.pow_succ]
    omega
theorem valL_ge (l : List UInt8) (h : l.all digB = true) (h0 : l.getD 0 0 ≠ 48) : ∀ k, k < l.length → 10 ^ k ≤ valL (l.take (k + 1)) := by
  intro k
  induction k with
  | zero =>
    intro hk
    have hc : l[0]? = some (l[0]'hk) := List.getElem?_eq_getElem hk
    rw [valL_take l 0 _ hc]
    have hd := List.all_eq_true.1 h (l[0]'hk) (List.getElem_mem _)
    unfold digB at hd
    simp at hd
    have h1 : l.getD 0 0 = l[0]'hk := by simp [List.getD, hc]
    rw [h1] at h0
    have : (l[0]'hk).toNat ≠ 48 := fun e => h0 (UInt8.toNat_inj.1 e)
    simp [valL]
    omega
  | succ k ih =>
    intro hk
    have hc : l[k + 1]? = some (l[k + 1]'hk) := List.getElem?_eq_getElem hk
    rw [valL_take l (k + 1) _ hc, Nat.pow_succ]
    have := ih (by omega)
    omega

/-! Cutting and joining. -/
/-- After k bytes: the pieces, and where the next one begins. -/
def splitF (l : List UInt8) (b : UInt8) : Nat → List (List UInt8) × Nat
  | 0 => ([], 0)
  | k + 1 => if l.getD k 0 = b then ((splitF l b k).1 ++ [(l.take k).drop (splitF l b k).2], k + 1) else splitF l b k
def splitL (l : List UInt8) (b : UInt8) : List (List UInt8) := (splitF l b l.length).1 ++ [l.drop (splitF l b l.length).2]
def joinL (ps : List (List UInt8)) (b : UInt8) : List UInt8 :=
  match ps with
  | [] => []
  | p :: r => p ++ r.flatMap fun q => b :: q

theorem joinL_snoc (ps : List (List UInt8)) (q : List UInt8) (b : UInt8) : joinL (ps ++ [q]) b = if ps = [] then q else joinL ps b ++ b :: q := by
  cases ps with
  | nil => simp [joinL]
  | cons p r => simp [joinL]
theorem splitF_from (l : List UInt8) (b : UInt8) (k : Nat) : (splitF l b k).2 ≤ k := by
  induction k with
  | zero => exact Nat.le_refl _
  | succ k ih =>
    unfold splitF
    split
    · exact Nat.le_refl _
    · omega
theorem drop_take_succ (l : List UInt8) (k f : Nat) (hf : f ≤ k) (hk : k < l.length) : (l.take (k + 1)).drop f = (l.take k).drop f ++ [l.getD k 0] := by
  rw [List.take_succ_eq_append_getElem hk, List.drop_append_of_le_length (by simp; omega)]
  simp [List.getD, List.getElem?_eq_getElem hk]
/-- What was cut, with what is left, joined again: the bytes so far; no piece holds b; one piece more than there are such bytes. -/
theorem split_inv (l : List UInt8) (b : UInt8) (k : Nat) (hk : k ≤ l.length) :
    joinL ((splitF l b k).1 ++ [(l.take k).drop (splitF l b k).2]) b = l.take k ∧
    (∀ p ∈ (splitF l b k).1 ++ [(l.take k).drop (splitF l b k).2], b ∉ p) ∧ (splitF l b k).1.length = (l.take k).count b := by
  induction k with
  | zero => simp [splitF, joinL]
  | succ k ih =>
    obtain ⟨h1, h2, h3⟩ := ih (by omega)
    have hf := splitF_from l b k
    have hlt : k < l.length := by omega
    have hc : l.take (k + 1) = l.take k ++ [l.getD k 0] := by
      rw [List.take_succ_eq_append_getElem hlt]
      simp [List.getD, List.getElem?_eq_getElem hlt]
    unfold splitF
    by_cases hb : l.getD k 0 = b
    · rw [if_pos hb]
      have e : (l.take (k + 1)).drop (k + 1) = [] := List.drop_of_length_le (by simp; omega)
      refine ⟨?_, ?_, ?_⟩
      · simp only
        rw [e, joinL_snoc, if_neg (by simp), h1, hc, hb]
      · simp only
        rw [e]
        intro p hp
        rw [List.mem_append] at hp
        rcases hp with hp | hp
        · exact h2 p hp
        · simp at hp; subst hp; simp
      · simp only
        rw [List.length_append, h3, hc, hb, List.count_append]
        simp
    · rw [if_neg hb]
      have e := drop_take_succ l k _ hf hlt
      refine ⟨?_, ?_, ?_⟩
      · rw [e, joinL_snoc]
        rw [joinL_snoc] at h1
        by_cases hn : (splitF l b k).1 = []
        · rw [if_pos hn] at h1 ⊢
          rw [h1, hc]
        · rw [if_neg hn] at h1 ⊢
          rw [hc]
          conv => rhs; rw [← h1]
          simp
      · rw [e]
        intro p hp
        rw [List.mem_append] at hp
        rcases hp with hp | hp
        · exact h2 p (List.mem_append.2 (Or.inl hp))
        · simp only [List.mem_singleton] at hp
          subst hp
          have := h2 _ (List.mem_append.2 (Or.inr (List.mem_singleton.2 rfl)))
          simp only [List.mem_append, List.mem_singleton, not_or]
          exact ⟨this, fun e => hb e.symm⟩
      · rw [h3, hc, List.count_append, List.count_singleton, beq_eq_false_iff_ne.2 hb]
        rfl
theorem split_join (l : List UInt8) (b : UInt8) : joinL (splitL l b) b = l := by
  have := (split_inv l b l.length (Nat.le_refl _)).1
  rwa [List.take_length] at this
theorem split_free (l : List UInt8) (b : UInt8) : ∀ p ∈ splitL l b, b ∉ p := by
  have := (split_inv l b l.length (Nat.le_refl _)).2.1
  rwa [List.take_length] at this
theorem split_count (l : List UInt8) (b : UInt8) : (splitL l b).length = l.count b + 1 := by
  have := (split_inv l b l.length (Nat.le_refl _)).2.2
  rw [List.take_length] at this
  simp [splitL, this]
end Go.Proofs.YthaagngoefieaaaDoor
