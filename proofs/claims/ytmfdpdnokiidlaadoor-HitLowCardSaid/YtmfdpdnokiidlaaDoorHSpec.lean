/-
  Plain law of chapter 36: costs, terms, cores; what Low tells, the program's and the reference's, is the least limit that hits all cores. Conditions: each row has a cost; no cost is below 0.
-/
import Derived.Test.YtmfdpdnokiidlaaDoorHPlain
namespace Go.Proofs.YtmfdpdnokiidlaaDoor
set_option linter.unusedSimpArgs false
set_option linter.unusedVariables false

structure Tm where
  u : Nat
  m : Nat
def freeV (m v : Nat) : Bool := !m.testBit v
/-- The least cost of a row that a mask does not have. -/
def leastGo (m : Nat) : List Int → Nat → Option Int → Option Int
  | [], _, acc => acc
  | c :: row, v, acc => leastGo m row (v + 1) (if freeV m v = true then (match acc with | none => some c | some n => if c < n then some c else some n) else acc)
def leastP (t : List (List Int)) (x : Tm) : Option Int := match t[x.u]? with
  | some row => leastGo x.m row 0 none
  | none => none
def hitRow (m : Nat) (most : Int) : List Int → Nat → Bool
  | [], _ => false
  | c :: row, v => (decide (c ≤ most) && freeV m v) || hitRow m most row (v + 1)
/-- The reference's Hits. -/
def hitsR (t : List (List Int)) (lim : List Int) (core : List Tm) : Bool := core.any fun x => match t[x.u]? with
  | some row => hitRow x.m (lim.getD x.u 0) row 0
  | none => false
def raisesP (t : List (List Int)) (core : List Tm) : List Way := core.filterMap fun x => (leastP t x).map fun n => (x.u, n)
theorem least_go (m : Nat) : ∀ (row : List Int) (v : Nat) (acc : Option Int),
    (∀ n, leastGo m row v acc = some n → (acc = some n ∨ n ∈ row) ∧ ∀ most : Int, decide (n ≤ most) = ((match acc with | some a => decide (a ≤ most) | none => false) || hitRow m most row v)) ∧
    (leastGo m row v acc = none → acc = none ∧ ∀ most : Int, hitRow m most row v = false)
  | [], v, acc => by
    refine ⟨fun n h => ⟨.inl h, fun most => ?_⟩, fun h => ⟨h, fun _ => rfl⟩⟩
    rw [show acc = some n from h]
    simp [hitRow]
  | c :: row, v, acc => by
    obtain ⟨h1, h2⟩ := least_go m row (v + 1) (if freeV m v = true then (match acc with | none => some c | some n => if c < n then some c else some n) else acc)
    constructor
    · intro n h
      obtain ⟨g1, g2⟩ := h1 n h
      by_cases hf : freeV m v = true
      · rw [if_pos hf] at g1 g2
        cases acc with
        | none =>
          refine ⟨.inr ?_, fun most => ?_⟩
          · rcases g1 with g | g
            · cases g; simp
            · exact List.mem_cons_of_mem _ g
          · rw [g2 most]; simp [hitRow, hf]
        | some a =>
          dsimp only at g1 g2
          by_cases hc : c < a
          · rw [if_pos hc] at g1 g2
            refine ⟨.inr ?_, fun most => ?_⟩
            · rcases g1 with g | g
              · cases g; simp
              · exact List.mem_cons_of_mem _ g
            · rw [g2 most, Bool.eq_iff_iff]; by_cases hR : hitRow m most row (v + 1) = true <;> simp [hitRow, hf, hR] <;> omega
          · rw [if_neg hc] at g1 g2
            refine ⟨?_, fun most => ?_⟩
            · rcases g1 with g | g
              · exact .inl g
              · exact .inr (List.mem_cons_of_mem _ g)
            · rw [g2 most, Bool.eq_iff_iff]; by_cases hR : hitRow m most row (v + 1) = true <;> simp [hitRow, hf, hR] <;> omega
      · rw [if_neg hf] at g1 g2
        refine ⟨?_, fun most => ?_⟩
        · rcases g1 with g | g
          · exact .inl g
          · exact .inr (List.mem_cons_of_mem _ g)
        · rw [g2 most]; simp [hitRow, hf]
    · intro h
      obtain ⟨g1, g2⟩ := h2 h
      by_cases hf : freeV m v = true
      · rw [if_pos hf] at g1
        cases acc with
        | none => cases g1
        | some a => dsimp only at g1; split at g1 <;> cases g1
      · rw [if_neg hf] at g1
        exact ⟨g1, fun most => by simp [hitRow, hf, g2 most]⟩
theorem least_some {t : List (List Int)} {x : Tm} {n : Int} (h : leastP t x = some n) : ∃ row, t[x.u]? = some row ∧ n ∈ row ∧ ∀ most : Int, decide (n ≤ most) = hitRow x.m most row 0 := by
  unfold leastP at h
  split at h
  · rename_i row hr
    obtain ⟨h1, h2⟩ := (least_go x.m row 0 none).1 n h
    refine ⟨row, hr, by rcases h1 with h1 | h1; cases h1; exact h1, fun most => by simpa using h2 most⟩
  · cases h
theorem least_none {t : List (List Int)} {x : Tm} (h : leastP t x = none) (most : Int) : (match t[x.u]? with | some row => hitRow x.m most row 0 | none => false) = false := by
  unfold leastP at h
  split at h
  · rename_i row hr
    exact ((least_go x.m row 0 none).2 h).2 most
  · rfl
/-- Hits by the ways is the reference's Hits. -/
theorem hits_same (t : List (List Int)) (lim : List Int) : ∀ core : List Tm, hitC lim (raisesP t core) = hitsR t lim core
  | [] => rfl
  | x :: core => by
    have ih := hits_same t lim core
    unfold hitC hitsR raisesP at *
    rw [List.filterMap_cons, List.any_cons]
    cases hl : leastP t x with
    | none => simp only [Option.map_none]; rw [ih, least_none hl]; rfl
    | some n =>
      obtain ⟨row, hr, _, hm⟩ := least_some hl
      simp only [Option.map_some, List.any_cons]
      rw [ih, hr]
      dsimp only
      rw [← hm]
      rfl
theorem raises_mem {t : List (List Int)} {core : List Tm} {r : Way} (h : r ∈ raisesP t core) : ∃ row, t[r.1]? = some row ∧ r.2 ∈ row := by
  unfold raisesP at h
  rw [List.mem_filterMap] at h
  obtain ⟨x, _, hx⟩ := h
  cases hl : leastP t x with
  | none => rw [hl] at hx; cases hx
  | some n =>
    rw [hl] at hx
    cases hx
    obtain ⟨row, hr, hn, _⟩ := least_some hl
    exact ⟨row, hr, hn⟩

/-! The limits that are told of: a cost of each row. -/
def InD : List (List Int) → List Int → Prop
  | [], [] => True
  | r :: t, o :: O => o ∈ r ∧ InD t O
  | _, _ => False
theorem inD_len : ∀ {t : List (List Int)} {O : List Int}, InD t O → O.length = t.length
  | [], [], _ => rfl
  | r :: t, o :: O, h => by simp [inD_len h.2]
  | [], _ :: _, h => h.elim
  | _ :: _, [], h => h.elim
theorem inD_set : ∀ {t : List (List Int)} {O : List Int} {u : Nat} {c : Int} {row : List Int}, InD t O → t[u]? = some row → c ∈ row → InD t (O.set u c)
  | [], [], _, _, _, _, h, _ => by simp at h
  | r :: t, o :: O, 0, c, row, h, hr, hc => by
    simp at hr
    subst hr
    exact ⟨hc, h.2⟩
  | r :: t, o :: O, u + 1, c, row, h, hr, hc => ⟨h.1, inD_set h.2 (by simpa using hr) hc⟩
  | [], _ :: _, _, _, _, h, _, _ => h.elim
  | _ :: _, [], _, _, _, h, _, _ => h.elim
def minR : List Int → Int
  | [] => 0
  | c :: row => row.foldl min c
theorem fold_min : ∀ (row : List Int) (c : Int), (row.foldl min c = c ∨ row.foldl min c ∈ row) ∧ row.foldl min c ≤ c ∧ ∀ d ∈ row, row.foldl min c ≤ d
  | [], c => ⟨.inl rfl, Int.le_refl _, fun d h => by simp at h⟩
  | a :: row, c => by
    obtain ⟨h1, h2, h3⟩ := fold_min row (min c a)
    rw [List.foldl_cons]
    refine ⟨?_, by omega, fun d hd => ?_⟩
    · rcases h1 with h1 | h1
      · by_cases hca : c ≤ a
        · left; rw [h1]; omega
        · right; rw [h1, show min c a = a by omega]; simp
      · exact .inr (List.mem_cons_of_mem _ h1)
    · rcases List.mem_cons.1 hd with rfl | hd
      · omega
      · exact h3 d hd
theorem min_ok {row : List Int} (h : row ≠ []) : minR row ∈ row ∧ ∀ d ∈ row, minR row ≤ d := by
  cases row with
  | nil => exact absurd rfl h
  | cons c row =>
    obtain ⟨h1, h2, h3⟩ := fold_min row c
    refine ⟨?_, fun d hd => ?_⟩
    · rcases h1 with h1 | h1
      · show row.foldl min c ∈ c :: row
        rw [h1]; simp
      · exact List.mem_cons_of_mem _ h1
    · rcases List.mem_cons.1 hd with rfl | hd
      · exact h2
      · exact h3 d hd
theorem min_inD : ∀ {t : List (List Int)}, (∀ r ∈ t, r ≠ []) → InD t (t.map minR)
  | [], _ => trivial
  | r :: t, h => ⟨(min_ok (h r (by simp))).1, min_inD fun s hs => h s (List.mem_cons_of_mem _ hs)⟩
theorem min_le : ∀ {t : List (List Int)} {O : List Int}, (∀ r ∈ t, r ≠ []) → InD t O → LeL (t.map minR) O
  | [], [], _, _ => trivial
  | r :: t, o :: O, h, k => ⟨(min_ok (h r (by simp))).2 o k.1, min_le (fun s hs => h s (List.mem_cons_of_mem _ hs)) k.2⟩
  | [], _ :: _, _, k => k.elim
  | _ :: _, [], _, k => k.elim
def maxR : List Int → Int
  | [] => 0
  | c :: row => row.foldl max c
theorem fold_max : ∀ (row : List Int) (c : Int), (row.foldl max c = c ∨ row.foldl max c ∈ row) ∧ c ≤ row.foldl max c ∧ ∀ d ∈ row, d ≤ row.foldl max c
  | [], c => ⟨.inl rfl, Int.le_refl _, fun d h => by simp at h⟩
  | a :: row, c => by
    obtain ⟨h1, h2, h3⟩ := fold_max row (max c a)
    rw [List.foldl_cons]
    refine ⟨?_, by omega, fun d hd => ?_⟩
    · rcases h1 with h1 | h1
      · by_cases hca : a ≤ c
        · left; rw [h1]; omega
        · right; rw [h1, show max c a = a by omega]; simp
      · exact .inr (List.mem_cons_of_mem _ h1)
    · rcases List.mem_cons.1 hd with rfl | hd
      · omega
      · exact h3 d hd
theorem max_ok {row : List Int} (h : row ≠ []) : maxR row ∈ row ∧ ∀ d ∈ row, d ≤ maxR row := by
  cases row with
  | nil => exact absurd rfl h
  | cons c row =>
    obtain ⟨h1, h2, h3⟩ := fold_max row c
    refine ⟨?_, fun d hd => ?_⟩
    · rcases h1 with h1 | h1
      · show row.foldl max c ∈ c :: row
        rw [h1]; simp
      · exact List.mem_cons_of_mem _ h1
    · rcases List.mem_cons.1 hd with rfl | hd
      · exact h2
      · exact h3 d hd
theorem max_inD : ∀ {t : List (List Int)}, (∀ r ∈ t, r ≠ []) → InD t (t.map maxR)
  | [], _ => trivial
  | r :: t, h => ⟨(max_ok (h r (by simp))).1, max_inD fun s hs => h s (List.mem_cons_of_mem _ hs)⟩

/-- The least limit that hits all cores; among equals the first. -/
def BestL (t : List (List Int)) (cores : List (List Tm)) (n : Int) (L : List Int) : Prop :=
  InD t L ∧ (∀ c ∈ cores, hitsR t L c = true) ∧ n = L.sum ∧ ∀ O, InD t O → (∀ c ∈ cores, hitsR t O c = true) → n < O.sum ∨ (n = O.sum ∧ lexLt O L = false)
theorem best_one {t : List (List Int)} {cores : List (List Tm)} {n m : Int} {L K : List Int} (h : BestL t cores n L) (k : BestL t cores m K) : n = m ∧ L = K := by
  obtain ⟨h1, h2, h3, h4⟩ := h
  obtain ⟨k1, k2, k3, k4⟩ := k
  have a := h4 K k1 k2
  have b := k4 L h1 h2
  rw [← k3] at a
  rw [← h3] at b
  rcases a with a | ⟨a, a2⟩
  · rcases b with b | ⟨b, _⟩ <;> omega
  · rcases b with b | ⟨b, b2⟩
    · omega
    · refine ⟨a, ?_⟩
      rcases lex_total L K with x | x | x
      · rw [x] at b2; cases b2
      · exact x
      · rw [x] at a2; cases a2

/-! The program's Low. -/
def fuelH (all : List (List Way)) : Nat := all.flatten.length + 1
def lowP (srt : List Int → List Way → List Way) (t : List (List Int)) (cores : List (List Tm)) : Option (Int × List Int) :=
  if (cores.any fun c => (raisesP t c).isEmpty) = true then none
  else match (deeperH srt (cores.map (raisesP t)) (fuelH (cores.map (raisesP t))) (t.map minR) (t.map minR).sum ⟨[], none, 0⟩).best with
    | some b => some ((deeperH srt (cores.map (raisesP t)) (fuelH (cores.map (raisesP t))) (t.map minR) (t.map minR).sum ⟨[], none, 0⟩).low, b)
    | none => none
theorem all_hits {t : List (List Int)} {cores : List (List Tm)} {O : List Int} : hitAll (cores.map (raisesP t)) O ↔ ∀ c ∈ cores, hitsR t O c = true := by
  unfold hitAll
  constructor
  · intro h c hc
    rw [← hits_same]
    exact h _ (List.mem_map.2 ⟨c, hc, rfl⟩)
  · intro h l hl
    obtain ⟨c, hc, rfl⟩ := List.mem_map.1 hl
    rw [hits_same]
    exact h c hc
theorem raises_none {t : List (List Int)} {cores : List (List Tm)} (h : (cores.any fun c => (raisesP t c).isEmpty) = true) (O : List Int) : ¬ ∀ c ∈ cores, hitsR t O c = true := by
  obtain ⟨c, hc, he⟩ := List.any_eq_true.1 h
  intro ha
  have := ha c hc
  rw [← hits_same, List.isEmpty_iff.1 he] at this
  cases this
theorem lowP_ok {srt : List Int → List Way → List Way} (hsrt : ∀ lim l r, r ∈ srt lim l ↔ r ∈ l) {t : List (List Int)} (ht : ∀ r ∈ t, r ≠ []) (cores : List (List Tm)) :
    (∀ n L, lowP srt t cores = some (n, L) → BestL t cores n L) ∧ (lowP srt t cores = none → ∀ O, InD t O → ¬ ∀ c ∈ cores, hitsR t O c = true) := by
  have hw : ∀ l ∈ cores.map (raisesP t), ∀ r ∈ l, ∃ row, t[r.1]? = some row ∧ r.2 ∈ row := by
    intro l hl r hr
    obtain ⟨c, _, rfl⟩ := List.mem_map.1 hl
    exact raises_mem hr
  have hb : ∀ l ∈ cores.map (raisesP t), ∀ r ∈ l, r.1 < t.length := fun l hl r hr => by
    obtain ⟨row, h1, _⟩ := hw l hl r hr
    exact (List.getElem?_eq_some_iff.1 h1).1
  obtain ⟨hs, hall⟩ := search_ok (Dom := InD t) (N := t.length) (f := fuelH (cores.map (raisesP t))) (lim := t.map minR) hb hsrt
    (fun lim hd l hl r hr _ => by obtain ⟨row, h1, h2⟩ := hw l hl r hr; exact inD_set hd h1 h2)
    (by unfold fuelH muH; have := List.length_filter_le (fun r : Way => !hitW (t.map minR) r) (cores.map (raisesP t)).flatten; omega) (by simp) (min_inD ht)
  unfold lowP
  split
  · rename_i hn
    exact ⟨fun n L h => (by cases h), fun _ O _ => raises_none hn O⟩
  · rename_i hn
    generalize deeperH srt (cores.map (raisesP t)) (fuelH (cores.map (raisesP t))) (t.map minR) (t.map minR).sum ⟨[], none, 0⟩ = st at *
    cases hst : st.best with
    | none =>
      refine ⟨fun n L h => (by cases h), fun _ O hO hh => ?_⟩
      obtain ⟨b, h1, _⟩ := hall O (min_le ht hO) (all_hits.2 hh)
      rw [hst] at h1
      cases h1
    | some b =>
      refine ⟨fun n L h => ?_, fun h => by cases h⟩
      cases h
      obtain ⟨s1, s2, s3⟩ := hs b hst
      refine ⟨s3, all_hits.1 s2, s1, fun O hO hh => ?_⟩
      obtain ⟨b2, h1, h2⟩ := hall O (min_le ht hO) (all_hits.2 hh)
      rw [hst] at h1
      cases h1
      exact h2
/-- It tells of one just if there is one. -/
theorem lowP_some {srt : List Int → List Way → List Way} (hsrt : ∀ lim l r, r ∈ srt lim l ↔ r ∈ l) {t : List (List Int)} (ht : ∀ r ∈ t, r ≠ []) {cores : List (List Tm)} : (∃ n L, lowP srt t cores = some (n, L)) ↔ ∃ O, InD t O ∧ ∀ c ∈ cores, hitsR t O c = true := by
  obtain ⟨h1, h2⟩ := lowP_ok hsrt ht cores
  constructor
  · rintro ⟨n, L, h⟩
    obtain ⟨a, b, _⟩ := h1 n L h
    exact ⟨L, a, b⟩
  · rintro ⟨O, hO, hh⟩
    cases h : lowP srt t cores with
    | none => exact absurd hh (h2 h O hO)
    | some p => exact ⟨p.1, p.2, rfl⟩
end Go.Proofs.YtmfdpdnokiidlaaDoor
