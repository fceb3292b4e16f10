/-
  Plain law of chapter 6: comparators on lists of bytes: what may be, its text, its reading, the program's and the reference's. Conditions: none.
-/
import Derived.Test.YthaagngoefieaaaDoorCBase
namespace Go.Proofs.YthaagngoefieaaaDoor

/-- A comparator. -/
structure Cmp where
  op : Int
  parts : Int
  v : Ver
deriving DecidableEq

/-! What may be. -/
def leastC (op : Int) : Int := if op = 9 then 0 else 1
def mostC (op : Int) : Int := if op = 9 then 2 else 3
def mayC (c : Cmp) : Bool :=
  decide (1 ≤ c.op) && decide (c.op ≤ 9) && mayV c.v && c.v.build.isEmpty && decide (leastC c.op ≤ c.parts) && decide (c.parts ≤ mostC c.op) && (c.v.pre.isEmpty || decide (3 ≤ c.parts)) &&
    (decide (0 < c.parts) || decide (c.v.maj = 0)) && (decide (1 < c.parts) || decide (c.v.min = 0)) && (decide (2 < c.parts) || decide (c.v.pat = 0))

/-! The text. -/
def signL (op : Int) : List UInt8 :=
  if op = 1 then [61] else if op = 2 then [33, 61] else if op = 3 then [60] else if op = 4 then [60, 61] else if op = 5 then [62] else if op = 6 then [62, 61] else if op = 7 then [94] else if op = 8 then [126] else []
/-- The numbers that are told, as texts. -/
def toldL (c : Cmp) : List (List UInt8) := [Lib.itoa c.v.maj, Lib.itoa c.v.min, Lib.itoa c.v.pat].take c.parts.toNat
def bodyC (c : Cmp) : List UInt8 := joinL (toldL c) 46 ++ segB 45 c.v.pre
def starC (c : Cmp) : List UInt8 := joinL (toldL c ++ [[42]]) 46
def printC (c : Cmp) : List UInt8 := if mayC c = true then (if c.op = 9 then starC c else signL c.op ++ bodyC c) else []

/-! The reading. -/
/-- The first sign that a text begins with, in the program's order; 9: none. -/
def signOf (s : List UInt8) : Int :=
  if [33, 61].isPrefixOf s then 2 else if [60, 61].isPrefixOf s then 4 else if [62, 61].isPrefixOf s then 6 else if [61].isPrefixOf s then 1
  else if [60].isPrefixOf s then 3 else if [62].isPrefixOf s then 5 else if [94].isPrefixOf s then 7 else if [126].isPrefixOf s then 8 else 9
/-- The numbers of at most three texts. -/
def numsL (l : List (List UInt8)) : Option (Int × Int × Int) :=
  match l with
  | [] => some (0, 0, 0)
  | [a] => if (numB a).2 = true then some ((numB a).1, 0, 0) else none
  | [a, b] => if ((numB a).2 && (numB b).2) = true then some ((numB a).1, (numB b).1, 0) else none
  | [a, b, c] => if ((numB a).2 && (numB b).2 && (numB c).2) = true then some ((numB a).1, (numB b).1, (numB c).1) else none
  | _ => none
/-- A comparator of an Op, of pieces and a Pre. -/
def madeC (op : Int) (l : List (List UInt8)) (p : List UInt8) : Option Cmp :=
  match numsL l with
  | some (a, b, c) => some ⟨op, l.length, ⟨a, b, c, p, []⟩⟩
  | none => none
/-- The pieces of a Star: all but the last, which is the star itself. -/
def offStar (l : List (List UInt8)) : Option (List (List UInt8)) := if l.getLast? = some [42] then some l.dropLast else none
/-- What the program reads ahead of its look at May and Print. -/
def rawP (s : List UInt8) : Option Cmp :=
  if signOf s = 9 then
    match offStar (splitL (aheadL s 45) 46) with
    | some l => madeC 9 l (fromL s 45).tail
    | none => none
  else madeC (signOf s) (splitL (aheadL (s.drop (signL (signOf s)).length) 45) 46) (fromL (s.drop (signL (signOf s)).length) 45).tail
def readC (s : List UInt8) : Option Cmp :=
  match rawP s with
  | some c => if mayC c = true ∧ printC c = s then some c else none
  | none => none
/-- The program's Parse. -/
def parseP (s : List UInt8) : Option Cmp :=
  match readC s with
  | some c => some c
  | none => readC (94 :: s)
/-- What the reference reads ahead of its look at Print. -/
def rawR (s : List UInt8) : Option Cmp :=
  if signOf s = 9 then
    if s.getLast? = some 42 then madeC 9 (splitL (aheadL s 45) 46).dropLast (fromL s 45).tail
    else madeC 7 (splitL (aheadL s 45) 46) (fromL s 45).tail
  else madeC (signOf s) (splitL (aheadL (s.drop (signL (signOf s)).length) 45) 46) (fromL (s.drop (signL (signOf s)).length) 45).tail
def parseR (s : List UInt8) : Option Cmp :=
  match rawR s with
  | some c => if printC c ≠ [] ∧ (printC c = s ∨ printC c = 94 :: s) then some c else none
  | none => none

theorem may_c {c : Cmp} (h : mayC c = true) : (1 ≤ c.op ∧ c.op ≤ 9) ∧ mayV c.v = true ∧ c.v.build = [] ∧ (leastC c.op ≤ c.parts ∧ c.parts ≤ mostC c.op) ∧ (c.v.pre = [] ∨ 3 ≤ c.parts) ∧ (0 < c.parts ∨ c.v.maj = 0) ∧ (1 < c.parts ∨ c.v.min = 0) ∧ (2 < c.parts ∨ c.v.pat = 0) := by
  unfold mayC at h
  simp only [Bool.and_eq_true, Bool.or_eq_true, decide_eq_true_eq, List.isEmpty_iff] at h
  obtain ⟨⟨⟨⟨⟨⟨⟨⟨⟨h1, h2⟩, h3⟩, h4⟩, h5⟩, h6⟩, h7⟩, h8⟩, h9⟩, h10⟩ := h
  exact ⟨⟨h1, h2⟩, h3, h4, ⟨h5, h6⟩, h7, h8, h9, h10⟩
theorem joinL_cons (p q : List UInt8) (r : List (List UInt8)) (b : UInt8) : joinL (p :: q :: r) b = p ++ b :: joinL (q :: r) b := by simp [joinL]
theorem join_inj {b : UInt8} : ∀ (ps qs : List (List UInt8)), ps ≠ [] → qs ≠ [] → (∀ p ∈ ps, b ∉ p) → (∀ q ∈ qs, b ∉ q) → joinL ps b = joinL qs b → ps = qs
  | [], _, h, _, _, _, _ => absurd rfl h
  | _, [], _, h, _, _, _ => absurd rfl h
  | [p], [q], _, _, _, _, h => by simp [joinL] at h; rw [h]
  | [p], q :: q2 :: t, _, _, hp, _, h => by
    rw [joinL_cons] at h
    have h1 : joinL [p] b = p := by simp [joinL]
    rw [h1] at h
    exact absurd (show b ∈ p by rw [h]; simp) (hp p (by simp))
  | p :: p2 :: r, [q], _, _, _, hq, h => by
    rw [joinL_cons] at h
    have h1 : joinL [q] b = q := by simp [joinL]
    rw [h1] at h
    exact absurd (show b ∈ q by rw [← h]; simp) (hq q (by simp))
  | p :: p2 :: r, q :: q2 :: t, _, _, hp, hq, h => by
    rw [joinL_cons, joinL_cons] at h
    obtain ⟨rfl, h2⟩ := cut_first (hp p (by simp)) (hq q (by simp)) h
    rw [join_inj (p2 :: r) (q2 :: t) (by simp) (by simp) (fun x hx => hp x (by simp at hx ⊢; exact .inr hx)) (fun x hx => hq x (by simp at hx ⊢; exact .inr hx)) h2]
/-- A split of joined pieces that hold no mark: the pieces. -/
theorem split_joined {ps : List (List UInt8)} {b : UInt8} (hne : ps ≠ []) (hf : ∀ p ∈ ps, b ∉ p) : splitL (joinL ps b) b = ps := by
  refine join_inj _ _ ?_ hne (split_free _ _) hf (split_join _ _)
  intro e
  have := split_count (joinL ps b) b
  rw [e] at this
  simp at this
theorem itoa_first {n : Int} (h : 0 ≤ n) : ∃ d t, Lib.itoa n = d :: t ∧ digB d = true := by
  have hp := itoa_pos h
  have hd := itoa_digs h
  cases he : Lib.itoa n with
  | nil => rw [he] at hp; simp at hp
  | cons d t => rw [he] at hd; simp at hd; exact ⟨d, t, rfl, by simpa using hd.1⟩
theorem told_len {c : Cmp} (h : mayC c = true) : ((toldL c).length : Int) = c.parts := by
  obtain ⟨⟨o1, o2⟩, _, _, ⟨p1, p2⟩, _⟩ := may_c h
  unfold leastC at p1
  unfold mostC at p2
  unfold toldL
  rw [List.length_take]
  simp only [List.length_cons, List.length_nil]
  split at p1 <;> split at p2 <;> omega
theorem told_all {c : Cmp} (h : mayC c = true) : ∀ p ∈ toldL c, p.all digB = true ∧ ∃ d t, p = d :: t ∧ digB d = true := by
  obtain ⟨_, hm, _⟩ := may_c h
  obtain ⟨⟨a0, _⟩, ⟨b0, _⟩, ⟨c0, _⟩⟩ := may_parts hm
  intro p hp
  have hp := List.mem_of_mem_take hp
  simp at hp
  rcases hp with rfl | rfl | rfl
  · exact ⟨itoa_digs a0, itoa_first a0⟩
  · exact ⟨itoa_digs b0, itoa_first b0⟩
  · exact ⟨itoa_digs c0, itoa_first c0⟩
/-- The numbers that are told are read back. -/
theorem nums_told {c : Cmp} (h : mayC c = true) : numsL (toldL c) = some (c.v.maj, c.v.min, c.v.pat) := by
  obtain ⟨⟨o1, o2⟩, hm, _, ⟨p1, p2⟩, _, q0, q1, q2⟩ := may_c h
  obtain ⟨⟨a0, a1⟩, ⟨b0, b1⟩, ⟨c0, c1⟩⟩ := may_parts hm
  have n1 := num_itoa c.v.maj
  have n2 := num_itoa c.v.min
  have n3 := num_itoa c.v.pat
  rw [if_pos ⟨a0, a1⟩] at n1
  rw [if_pos ⟨b0, b1⟩] at n2
  rw [if_pos ⟨c0, c1⟩] at n3
  have hp : c.parts = 0 ∨ c.parts = 1 ∨ c.parts = 2 ∨ c.parts = 3 := by
    unfold leastC at p1
    unfold mostC at p2
    split at p1 <;> split at p2 <;> omega
  unfold toldL
  rcases hp with hp | hp | hp | hp
  · rw [hp] at q0 q1 q2 ⊢
    have e0 : c.v.maj = 0 := by omega
    have e1 : c.v.min = 0 := by omega
    have e2 : c.v.pat = 0 := by omega
    rw [e0, e1, e2]; rfl
  · rw [hp] at q0 q1 q2 ⊢
    have e1 : c.v.min = 0 := by omega
    have e2 : c.v.pat = 0 := by omega
    rw [e1, e2]
    show numsL [Lib.itoa c.v.maj] = _
    simp only [numsL, n1, if_true, Int.toNat_of_nonneg a0]
  · rw [hp] at q0 q1 q2 ⊢
    have e2 : c.v.pat = 0 := by omega
    rw [e2]
    show numsL [Lib.itoa c.v.maj, Lib.itoa c.v.min] = _
    simp only [numsL, n1, n2, Bool.and_self, if_true, Int.toNat_of_nonneg a0, Int.toNat_of_nonneg b0]
  · rw [hp]
    show numsL [Lib.itoa c.v.maj, Lib.itoa c.v.min, Lib.itoa c.v.pat] = _
    simp only [numsL, n1, n2, n3, Bool.and_self, if_true, Int.toNat_of_nonneg a0, Int.toNat_of_nonneg b0, Int.toNat_of_nonneg c0]
theorem made_told {c : Cmp} (h : mayC c = true) : madeC c.op (toldL c) c.v.pre = some c := by
  unfold madeC
  rw [nums_told h]
  have hl := told_len h
  obtain ⟨_, _, hb, _⟩ := may_c h
  obtain ⟨op, parts, ⟨a, b, d, p, q⟩⟩ := c
  dsimp only at hb hl ⊢
  rw [hl, hb]
theorem join_digs_not {ps : List (List UInt8)} (h : ∀ p ∈ ps, p.all digB = true) {x : UInt8} (hx : digB x = false) (h46 : x ≠ 46) : x ∉ joinL ps 46 :=
  join_not (fun e => h46 e.symm) fun p hp => digs_no (h p hp) hx
/-- What stands behind the sign, taken apart. -/
theorem body_apart {c : Cmp} (h : mayC c = true) (hs : c.op ≠ 9) : splitL (aheadL (bodyC c) 45) 46 = toldL c ∧ (fromL (bodyC c) 45).tail = c.v.pre := by
  have ha := told_all h
  obtain ⟨e1, e2⟩ := ahead_app (A := joinL (toldL c) 46) (t := c.v.pre) (c := 45) (join_digs_not (fun p hp => (ha p hp).1) (by decide) (by decide))
  have hne : toldL c ≠ [] := by
    intro e
    have hl := told_len h
    obtain ⟨_, _, _, ⟨p1, _⟩, _⟩ := may_c h
    rw [e] at hl
    unfold leastC at p1
    rw [if_neg hs] at p1
    simp at hl
    omega
  unfold bodyC
  rw [e1, e2, seg_tail]
  exact ⟨split_joined hne fun p hp => digs_no (ha p hp).1 (by decide), rfl⟩
theorem body_first {c : Cmp} (h : mayC c = true) (hs : c.op ≠ 9) : ∃ d t, bodyC c = d :: t ∧ digB d = true := by
  have ha := told_all h
  have hl := told_len h
  obtain ⟨_, _, _, ⟨p1, _⟩, _⟩ := may_c h
  unfold leastC at p1
  rw [if_neg hs] at p1
  unfold bodyC
  cases he : toldL c with
  | nil => rw [he] at hl; simp at hl; omega
  | cons p r =>
    obtain ⟨_, d, t, rfl, hd⟩ := ha p (by rw [he]; simp)
    exact ⟨d, t ++ (List.flatMap (fun q => 46 :: q) r ++ segB 45 c.v.pre), by simp [joinL], hd⟩
theorem sign_none {d : UInt8} {t : List UInt8} (h : digB d = true ∨ d = 42) : signOf (d :: t) = 9 := by
  have hn : ∀ x : UInt8, digB x = false → x ≠ 42 → (x == d) = false := by
    intro x hx h42
    simp only [beq_eq_false_iff_ne]
    intro e
    subst e
    rcases h with h | h
    · rw [hx] at h; cases h
    · exact h42 h
  unfold signOf
  simp [List.isPrefixOf, hn 33 (by decide) (by decide), hn 60 (by decide) (by decide), hn 61 (by decide) (by decide), hn 62 (by decide) (by decide), hn 94 (by decide) (by decide), hn 126 (by decide) (by decide)]
theorem sign_own {op : Int} (h1 : 1 ≤ op) (h2 : op ≤ 8) {d : UInt8} {t : List UInt8} (h : digB d = true) : signOf (signL op ++ d :: t) = op ∧ (signL op ++ d :: t).drop (signL op).length = d :: t := by
  refine ⟨?_, by simp⟩
  have hd : ((61 : UInt8) == d) = false := by
    simp only [beq_eq_false_iff_ne]
    intro e
    subst e
    revert h
    decide
  have ho : op = 1 ∨ op = 2 ∨ op = 3 ∨ op = 4 ∨ op = 5 ∨ op = 6 ∨ op = 7 ∨ op = 8 := by omega
  rcases ho with rfl | rfl | rfl | rfl | rfl | rfl | rfl | rfl
  all_goals simp [signOf, signL, List.isPrefixOf, hd]
theorem star_apart {c : Cmp} (h : mayC c = true) (hs : c.op = 9) : signOf (starC c) = 9 ∧ aheadL (starC c) 45 = starC c ∧ fromL (starC c) 45 = [] ∧ splitL (starC c) 46 = toldL c ++ [[42]] ∧ (starC c).getLast? = some 42 ∧ c.v.pre = [] := by
  have ha := told_all h
  obtain ⟨_, _, _, ⟨p1, p2⟩, hp, _⟩ := may_c h
  unfold mostC at p2
  rw [if_pos hs] at p2
  have hno : (45 : UInt8) ∉ starC c := by
    unfold starC
    refine join_not (by decide) fun p hp => ?_
    rcases List.mem_append.1 hp with hp | hp
    · exact digs_no (ha p hp).1 (by decide)
    · simp at hp; subst hp; decide
  obtain ⟨e1, e2⟩ := cut_none (l := starC c) (c := 45) (by rw [List.all_eq_true]; intro x hx; simp; intro e; subst e; exact hno hx)
  refine ⟨?_, e1, e2, split_joined (by simp) (fun p hp => ?_), ?_, by rcases hp with hp | hp; exact hp; omega⟩
  · unfold starC
    cases he : toldL c with
    | nil => decide
    | cons p r =>
      obtain ⟨_, d, t, rfl, hd⟩ := ha p (by rw [he]; simp)
      have : joinL ((d :: t) :: r ++ [[42]]) 46 = d :: (t ++ (r ++ [[42]]).flatMap fun q => 46 :: q) := by simp [joinL]
      rw [this]
      exact sign_none (.inl hd)
  · rcases List.mem_append.1 hp with hp | hp
    · exact digs_no (ha p hp).1 (by decide)
    · simp at hp; subst hp; decide
  · unfold starC
    rw [joinL_snoc]
    split
    · rfl
    · simp
/-- The text of a comparator that may be is read as that comparator, ahead of the looks. -/
theorem rawP_print {c : Cmp} (h : mayC c = true) : rawP (printC c) = some c := by
  unfold printC rawP
  rw [if_pos h]
  by_cases hs : c.op = 9
  · obtain ⟨e1, e2, e3, e4, _, e6⟩ := star_apart h hs
    rw [if_pos hs, e1, if_pos rfl, e2, e3, e4]
    unfold offStar
    rw [if_pos (by simp)]
    have := made_told h
    rw [hs, e6] at this
    simpa using this
  · obtain ⟨d, t, hb, hd⟩ := body_first h hs
    obtain ⟨e1, e2⟩ := body_apart h hs
    obtain ⟨⟨o1, o2⟩, _⟩ := may_c h
    rw [if_neg hs]
    rw [hb] at e1 e2 ⊢
    obtain ⟨g1, g2⟩ := sign_own o1 (show c.op ≤ 8 by omega) (t := t) hd
    rw [g1, if_neg hs, g2, e1, e2]
    exact made_told h
theorem rawR_print {c : Cmp} (h : mayC c = true) : rawR (printC c) = some c := by
  unfold printC rawR
  rw [if_pos h]
  by_cases hs : c.op = 9
  · obtain ⟨e1, e2, e3, e4, e5, e6⟩ := star_apart h hs
    rw [if_pos hs, e1, if_pos rfl, if_pos e5, e2, e3, e4]
    have := made_told h
    rw [hs, e6] at this
    simpa using this
  · obtain ⟨d, t, hb, hd⟩ := body_first h hs
    obtain ⟨e1, e2⟩ := body_apart h hs
    obtain ⟨⟨o1, o2⟩, _⟩ := may_c h
    rw [if_neg hs]
    rw [hb] at e1 e2 ⊢
    obtain ⟨g1, g2⟩ := sign_own o1 (show c.op ≤ 8 by omega) (t := t) hd
    rw [g1, if_neg hs, g2, e1, e2]
    exact made_told h
theorem read_iff {s : List UInt8} {c : Cmp} : readC s = some c ↔ mayC c = true ∧ printC c = s := by
  unfold readC
  constructor
  · intro h
    split at h
    · split at h
      · rename_i hc
        cases h
        exact hc
      · cases h
    · cases h
  · rintro ⟨hm, rfl⟩
    rw [rawP_print hm]
    simp [hm]
theorem print_may {c : Cmp} (h : printC c ≠ []) : mayC c = true := by
  unfold printC at h
  split at h
  · assumption
  · exact absurd rfl h
theorem print_some {c : Cmp} (h : mayC c = true) : printC c ≠ [] := by
  unfold printC
  rw [if_pos h]
  split
  · rename_i hs
    obtain ⟨_, _, _, _, e, _⟩ := star_apart h hs
    intro h0
    rw [h0] at e
    cases e
  · rename_i hs
    obtain ⟨d, t, hb, _⟩ := body_first h hs
    rw [hb]
    simp
theorem tags_no {s : List UInt8} (h : tagsB s = true) {x : UInt8} (hx : tagOk x = false) (h46 : x ≠ 46) : x ∉ s := by
  unfold tagsB at h
  rw [Bool.and_eq_true] at h
  rw [← split_join s 46]
  refine join_not (fun e => h46 e.symm) fun p hp hc => ?_
  have h2 := List.all_eq_true.1 h.2 p hp
  unfold tagB at h2
  rw [Bool.and_eq_true] at h2
  have := List.all_eq_true.1 h2.2 x hc
  rw [hx] at this
  cases this
theorem pre_no {v : Ver} (h : mayV v = true) {x : UInt8} (hx : tagOk x = false) (h46 : x ≠ 46) : x ∉ v.pre := by
  unfold mayV at h
  simp only [Bool.and_eq_true, Bool.or_eq_true] at h
  rcases h.1.2 with h | h
  · rw [List.isEmpty_iff.1 h]; simp
  · unfold preB at h
    rw [Bool.and_eq_true] at h
    exact tags_no h.1 hx h46
theorem sign_caret (s : List UInt8) : signOf (94 :: s) = 7 := by simp [signOf, List.isPrefixOf]
theorem print_caret {c : Cmp} (h : mayC c = true) {s : List UInt8} (hp : printC c = 94 :: s) : c.op = 7 ∧ s = bodyC c := by
  unfold printC at hp
  rw [if_pos h] at hp
  by_cases hs : c.op = 9
  · rw [if_pos hs] at hp
    obtain ⟨e, _⟩ := star_apart h hs
    rw [hp, sign_caret] at e
    omega
  · rw [if_neg hs] at hp
    obtain ⟨d, t, hb, hd⟩ := body_first h hs
    obtain ⟨⟨o1, o2⟩, _⟩ := may_c h
    obtain ⟨g1, _⟩ := sign_own o1 (show c.op ≤ 8 by omega) (t := t) hd
    rw [← hb, hp, sign_caret] at g1
    refine ⟨g1.symm, ?_⟩
    rw [← g1] at hp
    simp [signL] at hp
    exact hp.symm
theorem rawR_caret {c : Cmp} (h : mayC c = true) {s : List UInt8} (hp : printC c = 94 :: s) : rawR s = some c := by
  obtain ⟨ho, rfl⟩ := print_caret h hp
  have hs : c.op ≠ 9 := by omega
  obtain ⟨d, t, hb, hd⟩ := body_first h hs
  obtain ⟨e1, e2⟩ := body_apart h hs
  obtain ⟨_, hm, _⟩ := may_c h
  have hno : (42 : UInt8) ∉ bodyC c := by
    unfold bodyC
    rw [List.mem_append, not_or]
    exact ⟨join_digs_not (fun p hp => (told_all h p hp).1) (by decide) (by decide), seg_not (by decide) (pre_no hm (by decide) (by decide))⟩
  unfold rawR
  rw [if_pos (by rw [hb]; exact sign_none (.inl hd)), if_neg (fun e => hno (List.mem_of_getLast? e)), e1, e2, ← ho]
  exact made_told h
/-- The program's Parse is the reference's. -/
theorem parse_same (s : List UInt8) : parseP s = parseR s := by
  unfold parseP
  cases h : readC s with
  | some c =>
    obtain ⟨hm, hp⟩ := read_iff.1 h
    show some c = parseR s
    unfold parseR
    rw [← hp, rawR_print hm]
    show some c = if _ then _ else _
    rw [if_pos ⟨print_some hm, .inl rfl⟩]
  | none =>
    show readC (94 :: s) = parseR s
    cases h2 : readC (94 :: s) with
    | some c =>
      obtain ⟨hm, hp⟩ := read_iff.1 h2
      unfold parseR
      rw [rawR_caret hm hp]
      show some c = if _ then _ else _
      rw [if_pos ⟨print_some hm, .inr hp⟩]
    | none =>
      unfold parseR
      split
      · rename_i c _
        split
        · rename_i hc
          rcases hc.2 with e | e
          · rw [read_iff.2 ⟨print_may hc.1, e⟩] at h; cases h
          · rw [read_iff.2 ⟨print_may hc.1, e⟩] at h2; cases h2
        · rfl
      · rfl
/-- The text of a comparator that may be is read back. -/
theorem parse_print_c {c : Cmp} (h : mayC c = true) : parseP (printC c) = some c := by
  unfold parseP
  rw [read_iff.2 ⟨h, rfl⟩]
end Go.Proofs.YthaagngoefieaaaDoor
