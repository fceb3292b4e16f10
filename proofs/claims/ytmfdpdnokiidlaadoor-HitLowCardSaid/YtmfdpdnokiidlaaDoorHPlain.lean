/-
  Plain law of chapter 36: the search with a memory and a bound finds the least limit that hits all cores. Conditions: none.
-/
import Derived.Calls
namespace Go.Proofs.YtmfdpdnokiidlaaDoor
set_option linter.unusedSimpArgs false
set_option linter.unusedVariables false

/-! Limits: lists of numbers, one below the other at each place. -/
def LeL : List Int → List Int → Prop
  | [], [] => True
  | a :: x, b :: y => a ≤ b ∧ LeL x y
  | _, _ => False
theorem le_refl : ∀ x : List Int, LeL x x
  | [] => trivial
  | a :: x => ⟨Int.le_refl a, le_refl x⟩
theorem le_trans : ∀ {x y z : List Int}, LeL x y → LeL y z → LeL x z
  | [], [], [], _, _ => trivial
  | a :: x, b :: y, c :: z, h, k => ⟨Int.le_trans h.1 k.1, le_trans h.2 k.2⟩
  | [], [], _ :: _, _, k => k.elim
  | [], _ :: _, _, h, _ => h.elim
  | _ :: _, [], _, h, _ => h.elim
  | _ :: _, _ :: _, [], _, k => k.elim
theorem le_anti : ∀ {x y : List Int}, LeL x y → LeL y x → x = y
  | [], [], _, _ => rfl
  | a :: x, b :: y, h, k => by rw [Int.le_antisymm h.1 k.1, le_anti h.2 k.2]
  | [], _ :: _, h, _ => h.elim
  | _ :: _, [], h, _ => h.elim
theorem le_sum : ∀ {x y : List Int}, LeL x y → x.sum ≤ y.sum ∧ (x.sum = y.sum → x = y)
  | [], [], _ => ⟨Int.le_refl _, fun _ => rfl⟩
  | a :: x, b :: y, h => by
    obtain ⟨h1, h2⟩ := le_sum h.2
    have h3 := h.1
    simp only [List.sum_cons]
    refine ⟨by omega, fun e => ?_⟩
    have : a = b := by omega
    rw [this, h2 (by omega)]
  | [], _ :: _, h => h.elim
  | _ :: _, [], h => h.elim
theorem le_len : ∀ {x y : List Int}, LeL x y → x.length = y.length
  | [], [], _ => rfl
  | a :: x, b :: y, h => by simp [le_len h.2]
  | [], _ :: _, h => h.elim
  | _ :: _, [], h => h.elim
theorem le_at : ∀ {x y : List Int}, LeL x y → ∀ i : Nat, x.getD i 0 ≤ y.getD i 0
  | [], [], _, i => by simp
  | a :: x, b :: y, h, 0 => by simpa using h.1
  | a :: x, b :: y, h, i + 1 => by simpa using le_at h.2 i
  | [], _ :: _, h, _ => h.elim
  | _ :: _, [], h, _ => h.elim
theorem le_set : ∀ {x y : List Int} {u : Nat} {c : Int}, LeL x y → c ≤ y.getD u 0 → LeL (x.set u c) y
  | [], [], _, _, _, _ => trivial
  | a :: x, b :: y, 0, c, h, k => ⟨by simpa using k, h.2⟩
  | a :: x, b :: y, u + 1, c, h, k => ⟨h.1, le_set h.2 (by simpa using k)⟩
  | [], _ :: _, _, _, h, _ => h.elim
  | _ :: _, [], _, _, h, _ => h.elim
theorem set_le : ∀ {x : List Int} {u : Nat} {c : Int}, x.getD u 0 ≤ c → LeL x (x.set u c)
  | [], _, _, _ => trivial
  | a :: x, 0, c, k => ⟨by simpa using k, le_refl x⟩
  | a :: x, u + 1, c, k => ⟨Int.le_refl a, set_le (by simpa using k)⟩
theorem set_sum : ∀ {x : List Int} {u : Nat} (c : Int), u < x.length → (x.set u c).sum = x.sum + c - x.getD u 0
  | [], _, _, h => absurd h (by simp)
  | a :: x, 0, c, _ => by simp; omega
  | a :: x, u + 1, c, h => by
    have := set_sum (x := x) (u := u) c (by simpa using h)
    simp only [List.set_cons_succ, List.sum_cons, this, List.getD_cons_succ]
    omega
theorem set_at {x : List Int} {u : Nat} (c : Int) (h : u < x.length) (i : Nat) : (x.set u c).getD i 0 = if i = u then c else x.getD i 0 := by
  simp only [List.getD_eq_getElem?_getD, List.getElem?_set]
  by_cases e : i = u
  · subst e; simp [h]
  · simp [e, Ne.symm e]

/-! The order of lists of one length. -/
def lexLt : List Int → List Int → Bool
  | [], [] => false
  | [], _ :: _ => true
  | _ :: _, [] => false
  | a :: x, b :: y => decide (a < b) || (decide (a = b) && lexLt x y)
theorem lex_irrefl : ∀ x : List Int, lexLt x x = false
  | [] => rfl
  | a :: x => by simp [lexLt, lex_irrefl x]
theorem lex_trans : ∀ {x y z : List Int}, lexLt x y = true → lexLt y z = true → lexLt x z = true
  | [], [], _, h, _ => by cases h
  | [], _ :: _, [], _, k => by cases k
  | [], _ :: _, _ :: _, _, _ => rfl
  | _ :: _, [], _, h, _ => by cases h
  | _ :: _, _ :: _, [], _, k => by cases k
  | a :: x, b :: y, c :: z, h, k => by
    simp only [lexLt, Bool.or_eq_true, Bool.and_eq_true, decide_eq_true_eq] at h k ⊢
    rcases h with h | ⟨h, h2⟩ <;> rcases k with k | ⟨k, k2⟩
    · left; omega
    · left; omega
    · left; omega
    · right; exact ⟨by omega, lex_trans h2 k2⟩
theorem lex_total : ∀ (x y : List Int), lexLt x y = true ∨ x = y ∨ lexLt y x = true
  | [], [] => .inr (.inl rfl)
  | [], _ :: _ => .inl rfl
  | _ :: _, [] => .inr (.inr rfl)
  | a :: x, b :: y => by
    simp only [lexLt, Bool.or_eq_true, Bool.and_eq_true, decide_eq_true_eq, List.cons.injEq]
    rcases Int.lt_trichotomy a b with h | h | h
    · exact .inl (.inl h)
    · rcases lex_total x y with k | k | k
      · exact .inl (.inr ⟨h, k⟩)
      · exact .inr (.inl ⟨h, k⟩)
      · exact .inr (.inr (.inr ⟨h.symm, k⟩))
    · exact .inr (.inr (.inl h))

/-! Ways to hit a core: a row, and the limit that it wants. -/
abbrev Way := Nat × Int
def hitW (lim : List Int) (r : Way) : Bool := decide (r.2 ≤ lim.getD r.1 0)
def hitC (lim : List Int) (l : List Way) : Bool := l.any (hitW lim)
def hitAll (all : List (List Way)) (lim : List Int) : Prop := ∀ l ∈ all, hitC lim l = true
theorem hit_more {x y : List Int} {l : List Way} (h : LeL x y) (hx : hitC x l = true) : hitC y l = true := by
  unfold hitC at *
  rw [List.any_eq_true] at *
  obtain ⟨r, hr, h1⟩ := hx
  refine ⟨r, hr, ?_⟩
  unfold hitW at *
  simp only [decide_eq_true_eq] at *
  exact Int.le_trans h1 (le_at h _)

/-! What must be paid beside at least. -/
def oneW (lim : List Int) (one : Int) (r : Way) : Int := if one < 0 ∨ r.2 - lim.getD r.1 0 < one then r.2 - lim.getD r.1 0 else one
def moreGo (lim : List Int) : List (List Way) → List Nat → Int → Int
  | [], _, n => n
  | l :: all, seen, n => if hitC lim l = true ∨ (l.any fun r => seen.contains r.1) = true then moreGo lim all seen n else moreGo lim all (seen ++ l.map Prod.fst) (n + max (l.foldl (oneW lim) (-1)) 0)
def moreL (lim : List Int) (all : List (List Way)) : Int := moreGo lim all [] 0
theorem one_le (lim : List Int) : ∀ (l : List Way) (one : Int), (∀ r ∈ l, 0 < r.2 - lim.getD r.1 0) → (0 ≤ one → l.foldl (oneW lim) one ≤ one) ∧ (∀ r ∈ l, l.foldl (oneW lim) one ≤ r.2 - lim.getD r.1 0) ∧ (0 ≤ one → 0 ≤ l.foldl (oneW lim) one)
  | [], one, _ => ⟨fun _ => Int.le_refl _, fun r hr => by simp at hr, fun h => h⟩
  | r :: l, one, h => by
    have hr := h r (by simp)
    have hb : 0 ≤ oneW lim one r ∧ (0 ≤ one → oneW lim one r ≤ one) ∧ oneW lim one r ≤ r.2 - lim.getD r.1 0 := by
      unfold oneW
      split <;> omega
    obtain ⟨h1, h2, h3⟩ := one_le lim l (oneW lim one r) fun s hs => h s (List.mem_cons_of_mem _ hs)
    rw [List.foldl_cons]
    refine ⟨fun h0 => ?_, fun s hs => ?_, fun _ => h3 hb.1⟩
    · have := h1 hb.1; have := hb.2.1 h0; omega
    · rcases List.mem_cons.1 hs with rfl | hs
      · have := h1 hb.1; have := hb.2.2; omega
      · exact h2 s hs
/-- What lies between two limits, in the rows that were not seen. -/
def gapG : List Int → List Int → Nat → List Nat → Int
  | a :: x, b :: y, i, seen => (if seen.contains i = true then 0 else b - a) + gapG x y (i + 1) seen
  | _, _, _, _ => 0
theorem gap_nil : ∀ {x y : List Int} (i : Nat), LeL x y → gapG x y i [] = y.sum - x.sum
  | [], [], _, _ => by simp [gapG]
  | a :: x, b :: y, i, h => by
    have := gap_nil (i + 1) h.2
    simp [gapG, this]
    omega
  | [], _ :: _, _, h => h.elim
  | _ :: _, [], _, h => h.elim
theorem gap_pos : ∀ {x y : List Int} (i : Nat) (seen : List Nat), LeL x y → 0 ≤ gapG x y i seen
  | [], [], _, _, _ => by simp [gapG]
  | a :: x, b :: y, i, seen, h => by
    have := gap_pos (i + 1) seen h.2
    have := h.1
    rw [gapG]
    split <;> omega
  | [], _ :: _, _, _, h => h.elim
  | _ :: _, [], _, _, h => h.elim
theorem gap_app : ∀ {x y : List Int} (i : Nat) (s t : List Nat), LeL x y → gapG x y i (s ++ t) ≤ gapG x y i s
  | [], [], _, _, _, _ => by simp [gapG]
  | a :: x, b :: y, i, s, t, h => by
    have := gap_app (i + 1) s t h.2
    have := h.1
    rw [gapG, gapG]
    by_cases h1 : s.contains i = true
    · rw [if_pos h1, if_pos (by simp only [List.contains_eq_mem, List.mem_append, decide_eq_true_eq] at *; exact .inl h1)]; omega
    · rw [if_neg h1]; split <;> omega
  | [], _ :: _, _, _, _, h => h.elim
  | _ :: _, [], _, _, _, h => h.elim
theorem gap_take : ∀ {x y : List Int} (i k : Nat) (s t : List Nat), LeL x y → k < x.length → s.contains (i + k) = false → t.contains (i + k) = true → gapG x y i (s ++ t) + (y.getD k 0 - x.getD k 0) ≤ gapG x y i s
  | [], [], _, _, _, _, _, h, _, _ => absurd h (by simp)
  | a :: x, b :: y, i, 0, s, t, h, _, hs, ht => by
    have := gap_app (i + 1) s t h.2
    rw [gapG, gapG]
    simp only [Nat.add_zero] at hs ht
    rw [if_pos (show (s ++ t).contains i = true by simp only [List.contains_eq_mem, List.mem_append, decide_eq_true_eq] at *; exact .inr ht), if_neg (show ¬ s.contains i = true by rw [hs]; decide)]
    simp
    omega
  | a :: x, b :: y, i, k + 1, s, t, h, hk, hs, ht => by
    have := gap_take (i + 1) k s t h.2 (by simpa using hk) (by rw [show i + 1 + k = i + (k + 1) by omega]; exact hs) (by rw [show i + 1 + k = i + (k + 1) by omega]; exact ht)
    have := h.1
    rw [gapG, gapG]
    simp only [List.getD_cons_succ]
    by_cases h1 : s.contains i = true
    · rw [if_pos h1, if_pos (by simp only [List.contains_eq_mem, List.mem_append, decide_eq_true_eq] at *; exact .inl h1)]; omega
    · rw [if_neg h1]; split <;> omega
  | [], _ :: _, _, _, _, _, h, _, _, _ => h.elim
  | _ :: _, [], _, _, _, _, h, _, _, _ => h.elim
theorem more_le {lim O : List Int} (h : LeL lim O) : ∀ (all : List (List Way)) (seen : List Nat) (n : Int), (∀ l ∈ all, hitC O l = true) → (∀ l ∈ all, ∀ r ∈ l, r.1 < lim.length) → moreGo lim all seen n ≤ n + gapG lim O 0 seen
  | [], seen, n, _, _ => by have := gap_pos 0 seen h; rw [moreGo]; omega
  | l :: all, seen, n, hO, hb => by
    have hO2 : ∀ l ∈ all, hitC O l = true := fun m hm => hO m (List.mem_cons_of_mem _ hm)
    have hb2 : ∀ l ∈ all, ∀ r ∈ l, r.1 < lim.length := fun m hm => hb m (List.mem_cons_of_mem _ hm)
    rw [moreGo]
    split
    · exact more_le h all seen n hO2 hb2
    · rename_i hn
      have hn1 : hitC lim l = false := by cases hc : hitC lim l; rfl; exact absurd (.inl hc) hn
      have hn2 : ∀ r ∈ l, seen.contains r.1 = false := fun r hr => by
        cases hc : seen.contains r.1
        · rfl
        · exact absurd (.inr (List.any_eq_true.2 ⟨r, hr, hc⟩)) hn
      have hp : ∀ r ∈ l, 0 < r.2 - lim.getD r.1 0 := fun r hr => by
        have h1 : hitW lim r = false := by
          cases hc : hitW lim r
          · rfl
          · rw [show hitC lim l = true from List.any_eq_true.2 ⟨r, hr, hc⟩] at hn1; cases hn1
        unfold hitW at h1
        simp only [decide_eq_false_iff_not] at h1
        omega
      have ih := more_le h all (seen ++ l.map Prod.fst) (n + max (l.foldl (oneW lim) (-1)) 0) hO2 hb2
      obtain ⟨r, hr, hrO⟩ := List.any_eq_true.1 (hO l (by simp))
      unfold hitW at hrO
      simp only [decide_eq_true_eq] at hrO
      have h1 := (one_le lim l (-1) hp).2.1 r hr
      have h2 := hp r hr
      have h3 := gap_take 0 r.1 seen (l.map Prod.fst) h (hb l (by simp) r hr) (by rw [Nat.zero_add]; exact hn2 r hr) (by rw [Nat.zero_add]; simp only [List.contains_eq_mem, List.mem_map, decide_eq_true_eq]; exact ⟨r, hr, rfl⟩)
      omega
/-- The bound never exceeds what a limit that hits all costs. -/
theorem more_bound {lim O : List Int} {all : List (List Way)} (h : LeL lim O) (hO : hitAll all O) (hb : ∀ l ∈ all, ∀ r ∈ l, r.1 < lim.length) : lim.sum + moreL lim all ≤ O.sum := by
  have := more_le h all [] 0 hO hb
  rw [gap_nil 0 h] at this
  unfold moreL
  omega
theorem more_hit {lim : List Int} : ∀ (all : List (List Way)) (seen : List Nat) (n : Int), (∀ l ∈ all, hitC lim l = true) → moreGo lim all seen n = n
  | [], _, _, _ => rfl
  | l :: all, seen, n, h => by rw [moreGo, if_pos (.inl (h l (by simp)))]; exact more_hit all seen n fun m hm => h m (List.mem_cons_of_mem _ hm)

/-! The search. -/
structure StH where
  seen : List (List Int)
  best : Option (List Int)
  low : Int
def takesH (lim : List Int) (tot : Int) (st : StH) : Bool := match st.best with
  | none => true
  | some b => decide (tot < st.low) || lexLt lim b
/-- The search, with so many steps; srt: a sort of the ways (only that it is a rearrangement matters). -/
def deeperH (srt : List Int → List Way → List Way) (all : List (List Way)) : Nat → List Int → Int → StH → StH
  | 0, _, _, st => st
  | f + 1, lim, tot, st =>
    if st.seen.contains lim = true ∨ (st.best.isSome = true ∧ st.low < tot + moreL lim all) then st
    else match all.find? (fun l => !hitC lim l) with
      | none => if takesH lim tot st = true then ⟨lim :: st.seen, some lim, tot⟩ else ⟨lim :: st.seen, st.best, st.low⟩
      | some l => (srt lim l).foldl (fun s r => deeperH srt all f (lim.set r.1 r.2) (tot + r.2 - lim.getD r.1 0) s) ⟨lim :: st.seen, st.best, st.low⟩

def Beats (st : StH) (O : List Int) : Prop := ∃ b, st.best = some b ∧ (st.low < O.sum ∨ (st.low = O.sum ∧ lexLt O b = false))
def DoneH (all : List (List Way)) (st : StH) (L : List Int) : Prop := ∀ O, LeL L O → hitAll all O → Beats st O
def SoundH (all : List (List Way)) (Dom : List Int → Prop) (st : StH) : Prop := ∀ b, st.best = some b → st.low = b.sum ∧ hitAll all b ∧ Dom b
def InvH (all : List (List Way)) (Dom : List Int → Prop) (anc : List (List Int)) (st : StH) : Prop := SoundH all Dom st ∧ ∀ S ∈ st.seen, DoneH all st S ∨ S ∈ anc
def muH (lim : List Int) (ws : List Way) : Nat := (ws.filter fun r => !hitW lim r).length
theorem filter_lt {α : Type} {p q : α → Bool} : ∀ {ws : List α} {r : α}, (∀ s, q s = true → p s = true) → r ∈ ws → p r = true → q r = false → (ws.filter q).length < (ws.filter p).length
  | [], _, _, h, _, _ => absurd h (by simp)
  | w :: ws, r, hpq, hr, hp, hq => by
    have hle : (ws.filter q).length ≤ (ws.filter p).length := by
      induction ws with
      | nil => simp
      | cons v vs ih =>
        by_cases hv : q v = true
        · rw [List.filter_cons_of_pos hv, List.filter_cons_of_pos (hpq v hv)]
          have ih := fun h => ih h
          by_cases hm : r ∈ w :: vs
          · have := ih hm; simp only [List.length_cons]; omega
          · have hrv : r = v := by simp at hr hm; rcases hr with h | h | h; exact absurd h hm.1; exact h; exact absurd h hm.2
            subst hrv; rw [hv] at hq; cases hq
        · by_cases hm : r ∈ w :: vs
          · have := ih hm
            rw [List.filter_cons_of_neg hv]
            by_cases hpv : p v = true
            · rw [List.filter_cons_of_pos hpv]; simp only [List.length_cons]; omega
            · rw [List.filter_cons_of_neg hpv]; exact this
          · rw [List.filter_cons_of_neg hv]
            have hall : ∀ us : List α, (us.filter q).length ≤ (us.filter p).length := by
              intro us
              induction us with
              | nil => simp
              | cons u us ih2 =>
                by_cases hu : q u = true
                · rw [List.filter_cons_of_pos hu, List.filter_cons_of_pos (hpq u hu)]; simp only [List.length_cons]; omega
                · rw [List.filter_cons_of_neg hu]
                  by_cases hpu : p u = true
                  · rw [List.filter_cons_of_pos hpu]; simp only [List.length_cons]; omega
                  · rw [List.filter_cons_of_neg hpu]; exact ih2
            have := hall vs
            by_cases hpv : p v = true
            · rw [List.filter_cons_of_pos hpv]; simp only [List.length_cons]; omega
            · rw [List.filter_cons_of_neg hpv]; exact this
    rcases List.mem_cons.1 hr with rfl | hr
    · rw [List.filter_cons_of_pos hp, List.filter_cons_of_neg (by rw [hq]; decide)]
      simp only [List.length_cons]
      omega
    · have ih := filter_lt (ws := ws) hpq hr hp hq
      by_cases hw : q w = true
      · rw [List.filter_cons_of_pos hw, List.filter_cons_of_pos (hpq w hw)]; simp only [List.length_cons]; omega
      · rw [List.filter_cons_of_neg hw]
        by_cases hpw : p w = true
        · rw [List.filter_cons_of_pos hpw]; simp only [List.length_cons]; omega
        · rw [List.filter_cons_of_neg hpw]; exact ih
theorem beats_seen {st : StH} {O : List Int} {s : List (List Int)} (h : Beats st O) : Beats ⟨s, st.best, st.low⟩ O := h
theorem mu_step {lim : List Int} {ws : List Way} {r : Way} (hr : r ∈ ws) (hn : hitW lim r = false) (hl : r.1 < lim.length) : muH (lim.set r.1 r.2) ws < muH lim ws := by
  unfold muH
  have hlt : lim.getD r.1 0 < r.2 := by unfold hitW at hn; simp only [decide_eq_false_iff_not] at hn; omega
  refine filter_lt (r := r) (fun s hs => ?_) hr (by rw [hn]; rfl) ?_
  · simp only [Bool.not_eq_true'] at hs ⊢
    unfold hitW at *
    simp only [decide_eq_false_iff_not] at *
    rw [set_at _ hl] at hs
    split at hs
    · rename_i e; rw [e]; omega
    · exact hs
  · unfold hitW
    rw [set_at _ hl, if_pos rfl]
    simp
section
variable {srt : List Int → List Way → List Way} {all : List (List Way)} {Dom : List Int → Prop} {N : Nat}
theorem deeper_ok (hb : ∀ l ∈ all, ∀ r ∈ l, r.1 < N) (hsrt : ∀ lim l r, r ∈ srt lim l ↔ r ∈ l) (hdom : ∀ lim, Dom lim → ∀ l ∈ all, ∀ r ∈ l, hitW lim r = false → Dom (lim.set r.1 r.2)) :
    ∀ (f : Nat) (lim : List Int) (tot : Int) (st : StH) (anc : List (List Int)), muH lim all.flatten < f → lim.length = N → tot = lim.sum → Dom lim → (∀ A ∈ anc, LeL A lim ∧ A ≠ lim) → InvH all Dom anc st →
      InvH all Dom anc (deeperH srt all f lim tot st) ∧ DoneH all (deeperH srt all f lim tot st) lim ∧ ∀ O, Beats st O → Beats (deeperH srt all f lim tot st) O
  | 0, _, _, _, _, h, _, _, _, _, _ => absurd h (by omega)
  | f + 1, lim, tot, st, anc, hmu, hlen, htot, hd, hanc, hinv => by
    have hbl : ∀ l ∈ all, ∀ r ∈ l, r.1 < lim.length := fun l hl r hr => by rw [hlen]; exact hb l hl r hr
    obtain ⟨hs, hseen⟩ := hinv
    rw [deeperH]
    split
    · rename_i hc
      refine ⟨⟨hs, hseen⟩, ?_, fun O h => h⟩
      rcases hc with hc | ⟨hc, hlow⟩
      · rcases hseen lim (by simpa using hc) with h | h
        · exact h
        · exact absurd rfl (hanc lim h).2
      · intro O hO hh
        obtain ⟨b, hbst⟩ := Option.isSome_iff_exists.1 hc
        have := more_bound hO hh hbl
        exact ⟨b, hbst, .inl (by omega)⟩
    · rename_i hc
      have hnp : st.best.isSome = true → ¬ st.low < tot + moreL lim all := fun h1 h2 => hc (.inr ⟨h1, h2⟩)
      cases hf : all.find? (fun l => !hitC lim l) with
      | none =>
        have hh : hitAll all lim := fun l hl => by
          have := List.find?_eq_none.1 hf l hl
          simpa using this
        have h0 : moreL lim all = 0 := more_hit all [] 0 hh
        rw [h0] at hnp
        dsimp only
        split
        · rename_i ht
          have hmono : ∀ O, Beats st O → Beats ⟨lim :: st.seen, some lim, tot⟩ O := by
            rintro O ⟨b, hb1, hb2⟩
            have hle := hnp (by rw [hb1]; rfl)
            unfold takesH at ht
            rw [hb1] at ht
            simp only [Bool.or_eq_true, decide_eq_true_eq] at ht
            refine ⟨lim, rfl, ?_⟩
            show tot < O.sum ∨ (tot = O.sum ∧ lexLt O lim = false)
            rcases hb2 with hb2 | ⟨hb2, hb3⟩
            · left; omega
            · rcases ht with ht | ht
              · left; omega
              · by_cases he : tot < O.sum
                · exact .inl he
                · right
                  refine ⟨by omega, ?_⟩
                  cases hx : lexLt O lim
                  · rfl
                  · rw [lex_trans hx ht] at hb3; cases hb3
          have hdone : DoneH all ⟨lim :: st.seen, some lim, tot⟩ lim := by
            intro O hO _
            refine ⟨lim, rfl, ?_⟩
            show tot < O.sum ∨ (tot = O.sum ∧ lexLt O lim = false)
            obtain ⟨h1, h2⟩ := le_sum hO
            by_cases he : lim.sum = O.sum
            · right
              rw [← h2 he]
              exact ⟨htot, lex_irrefl _⟩
            · left; omega
          refine ⟨⟨?_, ?_⟩, hdone, hmono⟩
          · intro b hb1
            cases hb1
            exact ⟨htot, hh, hd⟩
          · intro S hS
            rcases List.mem_cons.1 hS with rfl | hS
            · exact .inl hdone
            · rcases hseen S hS with h | h
              · exact .inl fun O h1 h2 => hmono O (h O h1 h2)
              · exact .inr h
        · rename_i ht
          have hdone : DoneH all ⟨lim :: st.seen, st.best, st.low⟩ lim := by
            intro O hO _
            unfold takesH at ht
            cases hb1 : st.best with
            | none => rw [hb1] at ht; exact absurd rfl ht
            | some b =>
              rw [hb1] at ht
              have hle := hnp (by rw [hb1]; rfl)
              simp only [Bool.or_eq_true, decide_eq_true_eq, not_or] at ht
              refine ⟨b, rfl, ?_⟩
              show st.low < O.sum ∨ (st.low = O.sum ∧ lexLt O b = false)
              obtain ⟨h1, h2⟩ := le_sum hO
              by_cases he : lim.sum = O.sum
              · right
                rw [← h2 he]
                exact ⟨by omega, by simpa using ht.2⟩
              · left; omega
          refine ⟨⟨hs, fun S hS => ?_⟩, hdone, fun O h => h⟩
          rcases List.mem_cons.1 hS with rfl | hS
          · exact .inl hdone
          · exact hseen S hS
      | some l =>
        have hl : l ∈ all := List.mem_of_find?_eq_some hf
        have hn : hitC lim l = false := by simpa using List.find?_some hf
        have hnr : ∀ r ∈ l, hitW lim r = false := fun r hr => by
          cases hx : hitW lim r
          · rfl
          · rw [show hitC lim l = true from List.any_eq_true.2 ⟨r, hr, hx⟩] at hn; cases hn
        dsimp only
        have key : ∀ (rs : List Way) (s : StH), (∀ r ∈ rs, r ∈ l) → InvH all Dom (lim :: anc) s →
            InvH all Dom (lim :: anc) (rs.foldl (fun s r => deeperH srt all f (lim.set r.1 r.2) (tot + r.2 - lim.getD r.1 0) s) s) ∧
            (∀ r ∈ rs, DoneH all (rs.foldl (fun s r => deeperH srt all f (lim.set r.1 r.2) (tot + r.2 - lim.getD r.1 0) s) s) (lim.set r.1 r.2)) ∧
            ∀ O, Beats s O → Beats (rs.foldl (fun s r => deeperH srt all f (lim.set r.1 r.2) (tot + r.2 - lim.getD r.1 0) s) s) O := by
          intro rs
          induction rs with
          | nil => exact fun s _ hi => ⟨hi, fun r hr => by simp at hr, fun O h => h⟩
          | cons r rs ih =>
            intro s hrs hi
            have hr := hrs r (by simp)
            have hrl := hbl l hl r hr
            have hlt : lim.getD r.1 0 < r.2 := by have := hnr r hr; unfold hitW at this; simp only [decide_eq_false_iff_not] at this; omega
            have hle : LeL lim (lim.set r.1 r.2) := set_le (Int.le_of_lt hlt)
            have hne : lim ≠ lim.set r.1 r.2 := by
              intro e
              have := set_at r.2 hrl r.1
              rw [← e, if_pos rfl] at this
              omega
            have step := deeper_ok hb hsrt hdom f (lim.set r.1 r.2) (tot + r.2 - lim.getD r.1 0) s (lim :: anc)
              (by have := mu_step (List.mem_flatten.2 ⟨l, hl, hr⟩) (hnr r hr) hrl; omega) (by simpa using hlen) (by rw [set_sum _ hrl, htot]) (hdom lim hd l hl r hr (hnr r hr))
              (by
                intro A hA
                rcases List.mem_cons.1 hA with rfl | hA
                · exact ⟨hle, hne⟩
                · obtain ⟨h1, h2⟩ := hanc A hA
                  refine ⟨le_trans h1 hle, fun e => ?_⟩
                  subst e
                  exact h2 (le_anti h1 hle)) hi
            rw [List.foldl_cons]
            obtain ⟨g1, g2, g3⟩ := step
            obtain ⟨i1, i2, i3⟩ := ih _ (fun q hq => hrs q (List.mem_cons_of_mem _ hq)) g1
            refine ⟨i1, fun q hq => ?_, fun O h => i3 O (g3 O h)⟩
            rcases List.mem_cons.1 hq with rfl | hq
            · exact fun O h1 h2 => i3 O (g2 O h1 h2)
            · exact i2 q hq
        have hi0 : InvH all Dom (lim :: anc) ⟨lim :: st.seen, st.best, st.low⟩ := by
          refine ⟨hs, fun S hS => ?_⟩
          rcases List.mem_cons.1 hS with rfl | hS
          · exact .inr (by simp)
          · rcases hseen S hS with h | h
            · exact .inl h
            · exact .inr (List.mem_cons_of_mem _ h)
        obtain ⟨k1, k2, k3⟩ := key (srt lim l) ⟨lim :: st.seen, st.best, st.low⟩ (fun r hr => (hsrt lim l r).1 hr) hi0
        have hdone : DoneH all ((srt lim l).foldl (fun s r => deeperH srt all f (lim.set r.1 r.2) (tot + r.2 - lim.getD r.1 0) s) ⟨lim :: st.seen, st.best, st.low⟩) lim := by
          intro O hO hh
          obtain ⟨r, hr, hrO⟩ := List.any_eq_true.1 (hh l hl)
          unfold hitW at hrO
          simp only [decide_eq_true_eq] at hrO
          exact k2 r ((hsrt lim l r).2 hr) O (le_set hO hrO) hh
        refine ⟨⟨k1.1, fun S hS => ?_⟩, hdone, fun O h => k3 O h⟩
        rcases k1.2 S hS with h | h
        · exact .inl h
        · rcases List.mem_cons.1 h with rfl | h
          · exact .inl hdone
          · exact .inr h
/-- The whole search from the least limit: what it tells beats every limit that hits all cores; it is such a limit. -/
theorem search_ok (hb : ∀ l ∈ all, ∀ r ∈ l, r.1 < N) (hsrt : ∀ lim l r, r ∈ srt lim l ↔ r ∈ l) (hdom : ∀ lim, Dom lim → ∀ l ∈ all, ∀ r ∈ l, hitW lim r = false → Dom (lim.set r.1 r.2))
    {f : Nat} {lim : List Int} (hmu : muH lim all.flatten < f) (hlen : lim.length = N) (hd : Dom lim) :
    SoundH all Dom (deeperH srt all f lim lim.sum ⟨[], none, 0⟩) ∧ ∀ O, LeL lim O → hitAll all O → Beats (deeperH srt all f lim lim.sum ⟨[], none, 0⟩) O := by
  obtain ⟨h1, h2, _⟩ := deeper_ok hb hsrt hdom f lim lim.sum ⟨[], none, 0⟩ [] hmu hlen rfl hd (fun A hA => by simp at hA) ⟨fun b hb => (by cases hb), fun S hS => by simp at hS⟩
  exact ⟨h1.1, h2⟩
end
end Go.Proofs.YtmfdpdnokiidlaaDoor
