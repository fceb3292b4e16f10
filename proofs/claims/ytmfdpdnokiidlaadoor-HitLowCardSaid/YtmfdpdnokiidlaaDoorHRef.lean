/-
  Plain law of chapter 36: the reference's Low is the program's. Conditions: each row has a cost; no cost is below 0.
-/
import Derived.Test.YtmfdpdnokiidlaaDoorHSpec
namespace Go.Proofs.YtmfdpdnokiidlaaDoor
set_option linter.unusedSimpArgs false
set_option linter.unusedVariables false

/-! A row's costs, rising, each once. -/
def insL (c : Int) : List Int → List Int
  | [] => [c]
  | a :: l => if a < c then a :: insL c l else if a = c then a :: l else c :: a :: l
def levelsR (row : List Int) : List Int := if row = [] then [0] else row.foldl (fun l c => insL c l) []
def Rising : List Int → Prop
  | [] => True
  | a :: l => (∀ b ∈ l, a < b) ∧ Rising l
theorem ins_mem (c : Int) : ∀ (l : List Int) (x : Int), x ∈ insL c l ↔ x = c ∨ x ∈ l
  | [], x => by simp [insL]
  | a :: l, x => by
    have ih := ins_mem c l x
    rw [insL]
    split
    · rw [List.mem_cons, ih, List.mem_cons]
      constructor
      · rintro (h | h | h)
        · exact .inr (.inl h)
        · exact .inl h
        · exact .inr (.inr h)
      · rintro (h | h | h)
        · exact .inr (.inl h)
        · exact .inl h
        · exact .inr (.inr h)
    · split
      · rename_i h
        subst h
        rw [List.mem_cons]
        constructor
        · exact .inr
        · rintro (h | h)
          · exact .inl h
          · exact h
      · rw [List.mem_cons]
theorem ins_rise (c : Int) : ∀ {l : List Int}, Rising l → Rising (insL c l)
  | [], _ => ⟨fun b h => by simp at h, trivial⟩
  | a :: l, h => by
    rw [insL]
    split
    · rename_i hac
      refine ⟨fun b hb => ?_, ins_rise c h.2⟩
      rcases (ins_mem c l b).1 hb with rfl | hb
      · exact hac
      · exact h.1 b hb
    · split
      · exact h
      · refine ⟨fun b hb => ?_, h⟩
        rcases List.mem_cons.1 hb with rfl | hb
        · omega
        · have := h.1 b hb; omega
theorem levels_go : ∀ (row l : List Int), Rising l → Rising (row.foldl (fun l c => insL c l) l) ∧ ∀ x, x ∈ row.foldl (fun l c => insL c l) l ↔ x ∈ row ∨ x ∈ l
  | [], l, h => ⟨h, fun x => by simp⟩
  | c :: row, l, h => by
    obtain ⟨h1, h2⟩ := levels_go row (insL c l) (ins_rise c h)
    rw [List.foldl_cons]
    refine ⟨h1, fun x => ?_⟩
    rw [h2, ins_mem, List.mem_cons]
    constructor
    · rintro (h | h | h)
      · exact .inl (.inr h)
      · exact .inl (.inl h)
      · exact .inr h
    · rintro ((h | h) | h)
      · exact .inr (.inl h)
      · exact .inl h
      · exact .inr (.inr h)
theorem levels_ok {row : List Int} (h : row ≠ []) : Rising (levelsR row) ∧ ∀ x, x ∈ levelsR row ↔ x ∈ row := by
  unfold levelsR
  rw [if_neg h]
  obtain ⟨h1, h2⟩ := levels_go row [] trivial
  exact ⟨h1, fun x => by rw [h2]; simp⟩
def askedR (cores : List (List Tm)) (u : Nat) : Bool := cores.any fun c => c.any fun x => x.u == u
def levR (cores : List (List Tm)) (u : Nat) (row : List Int) : List Int := if askedR cores u = true then levelsR row else (levelsR row).take 1
theorem lev_ok {cores : List (List Tm)} {u : Nat} {row : List Int} (h : row ≠ []) : Rising (levR cores u row) ∧ (∀ x ∈ levR cores u row, x ∈ row) ∧ (askedR cores u = true → ∀ x ∈ row, x ∈ levR cores u row) ∧ (askedR cores u = false → minR row ∈ levR cores u row) := by
  obtain ⟨h1, h2⟩ := levels_ok h
  unfold levR
  cases ha : askedR cores u
  · rw [if_neg (by decide)]
    have hm := min_ok h
    have hmm := (h2 _).2 hm.1
    cases hl : levelsR row with
    | nil => rw [hl] at hmm; simp at hmm
    | cons a l =>
      rw [hl] at h1 hmm
      have ham : a ∈ row := (h2 a).1 (by rw [hl]; simp)
      have hle := hm.2 a ham
      have e : minR row = a := by
        rcases List.mem_cons.1 hmm with e | e
        · exact e
        · have := h1.1 _ e; omega
      refine ⟨⟨fun b hb => by simp at hb, trivial⟩, fun x hx => ?_, fun he => (by cases he), fun _ => by rw [e]; simp⟩
      simp at hx
      rw [hx]
      exact ham
  · rw [if_pos rfl]
    exact ⟨h1, fun x hx => (h2 x).1 hx, fun _ x hx => (h2 x).2 hx, fun he => by cases he⟩

/-! The reference's search: rows one behind the other. -/
def lowGo (t : List (List Int)) (cores : List (List Tm)) : List (List Int) → List Int → Int → Option (List Int) × Int → Option (List Int) × Int
  | rows, pre, tot, st => if st.1.isSome = true ∧ st.2 ≤ tot then st else match rows with
    | [] => if (cores.all fun c => hitsR t pre c) = true then (some pre, tot) else st
    | r :: rest => (levR cores pre.length r).foldl (fun s c => lowGo t cores rest (pre ++ [c]) (tot + c) s) st
def lowR (t : List (List Int)) (cores : List (List Tm)) : Option (Int × List Int) :=
  match (lowGo t cores t [] 0 (none, 0)).1 with
  | some b => some ((lowGo t cores t [] 0 (none, 0)).2, b)
  | none => none
/-- A limit of the levels that the reference tries, from the row i on. -/
def InV (cores : List (List Tm)) : List (List Int) → Nat → List Int → Prop
  | [], _, [] => True
  | r :: t, i, o :: O => o ∈ levR cores i r ∧ InV cores t (i + 1) O
  | _, _, _ => False
theorem inV_len {cores : List (List Tm)} : ∀ {t : List (List Int)} {i : Nat} {O : List Int}, InV cores t i O → O.length = t.length
  | [], _, [], _ => rfl
  | r :: t, i, o :: O, h => by simp [inV_len h.2]
  | [], _, _ :: _, h => h.elim
  | _ :: _, _, [], h => h.elim
theorem inV_D {cores : List (List Tm)} : ∀ {t : List (List Int)} {i : Nat} {O : List Int}, (∀ r ∈ t, r ≠ []) → InV cores t i O → InD t O
  | [], _, [], _, _ => trivial
  | r :: t, i, o :: O, hn, h => ⟨(lev_ok (hn r (by simp))).2.1 o h.1, inV_D (fun s hs => hn s (List.mem_cons_of_mem _ hs)) h.2⟩
  | [], _, _ :: _, _, h => h.elim
  | _ :: _, _, [], _, h => h.elim
def BeatR (st : Option (List Int) × Int) (O : List Int) : Prop := ∃ b, st.1 = some b ∧ (st.2 < O.sum ∨ (st.2 = O.sum ∧ lexLt O b = false))
theorem lex_app : ∀ (p x y : List Int), lexLt (p ++ x) (p ++ y) = lexLt x y
  | [], x, y => rfl
  | a :: p, x, y => by simp [lexLt, lex_app p x y]
theorem sum_pos : ∀ {l : List Int}, (∀ x ∈ l, 0 ≤ x) → 0 ≤ l.sum
  | [], _ => by simp
  | a :: l, h => by
    have h1 := h a (by simp)
    have h2 := sum_pos (l := l) fun x hx => h x (List.mem_cons_of_mem _ hx)
    simp only [List.sum_cons]
    omega
theorem inV_pos {cores : List (List Tm)} : ∀ {t : List (List Int)} {i : Nat} {O : List Int}, (∀ r ∈ t, r ≠ [] ∧ ∀ x ∈ r, 0 ≤ x) → InV cores t i O → 0 ≤ O.sum
  | [], _, [], _, _ => by simp
  | r :: t, i, o :: O, hn, h => by
    have h1 := (hn r (by simp)).2 o ((lev_ok (hn r (by simp)).1).2.1 o h.1)
    have h2 := inV_pos (fun s hs => hn s (List.mem_cons_of_mem _ hs)) h.2
    simp only [List.sum_cons]
    omega
  | [], _, _ :: _, _, h => h.elim
  | _ :: _, _, [], _, h => h.elim
theorem sum_app (x y : List Int) : (x ++ y).sum = x.sum + y.sum := by induction x with
  | nil => simp
  | cons a x ih => simp only [List.cons_append, List.sum_cons, ih]; omega
/-- The reference's search: what it tells beats all limits that begin so. -/
theorem low_ok (t : List (List Int)) (cores : List (List Tm)) : ∀ (rows : List (List Int)) (pre : List Int) (tot : Int) (st : Option (List Int) × Int), (∀ r ∈ rows, r ≠ [] ∧ ∀ x ∈ r, 0 ≤ x) → tot = pre.sum →
    (∀ b, st.1 = some b → ∀ os : List Int, os.length = rows.length → lexLt (pre ++ os) b = false) →
    (∀ O, BeatR st O → BeatR (lowGo t cores rows pre tot st) O) ∧
    (∀ os, InV cores rows pre.length os → (∀ c ∈ cores, hitsR t (pre ++ os) c = true) → BeatR (lowGo t cores rows pre tot st) (pre ++ os)) ∧
    (lowGo t cores rows pre tot st = st ∨ ∃ os, InV cores rows pre.length os ∧ (∀ c ∈ cores, hitsR t (pre ++ os) c = true) ∧ (lowGo t cores rows pre tot st).1 = some (pre ++ os) ∧ (lowGo t cores rows pre tot st).2 = (pre ++ os).sum)
  | [], pre, tot, st, hn, ht, hold => by
    rw [lowGo]
    split
    · rename_i hc
      obtain ⟨b, hb⟩ := Option.isSome_iff_exists.1 hc.1
      refine ⟨fun O h => h, fun os ho hh => ?_, .inl rfl⟩
      cases os with
      | nil =>
        refine ⟨b, hb, ?_⟩
        have := hold b hb [] rfl
        have e : (pre ++ ([] : List Int)).sum = tot := by rw [ht]; simp
        rw [e]
        by_cases hl : st.2 < tot
        · exact .inl hl
        · exact .inr ⟨by omega, this⟩
      | cons o os => exact ho.elim
    · rename_i hc
      split
      · rename_i hh
        refine ⟨fun O hO => ?_, fun os ho _ => ?_, .inr ⟨[], trivial, ?_, by simp, by simp [ht]⟩⟩
        · obtain ⟨b, hb, h1⟩ := hO
          have : ¬ st.2 ≤ tot := fun h => hc ⟨by rw [hb]; rfl, h⟩
          refine ⟨pre, rfl, .inl ?_⟩
          show tot < O.sum
          omega
        · cases os with
          | nil => exact ⟨pre, rfl, .inr ⟨by simp [ht], by rw [List.append_nil]; exact lex_irrefl _⟩⟩
          | cons o os => exact ho.elim
        · intro c hcc
          rw [List.append_nil]
          exact List.all_eq_true.1 hh c hcc
      · rename_i hh
        refine ⟨fun O h => h, fun os ho h => ?_, .inl rfl⟩
        cases os with
        | nil =>
          rw [List.append_nil] at h
          exact absurd (List.all_eq_true.2 h) hh
        | cons o os => exact ho.elim
  | r :: rest, pre, tot, st, hn, ht, hold => by
    rw [lowGo]
    split
    · rename_i hc
      obtain ⟨b, hb⟩ := Option.isSome_iff_exists.1 hc.1
      refine ⟨fun O h => h, fun os ho hh => ⟨b, hb, ?_⟩, .inl rfl⟩
      have h1 := hold b hb os (inV_len ho)
      have h2 := inV_pos hn ho
      rw [sum_app, ← ht]
      by_cases hl : st.2 < tot + os.sum
      · exact .inl hl
      · exact .inr ⟨by omega, h1⟩
    · rename_i hc
      have hr := lev_ok (cores := cores) (u := pre.length) (hn r (by simp)).1
      have hn2 : ∀ s ∈ rest, s ≠ [] ∧ ∀ x ∈ s, 0 ≤ x := fun s hs => hn s (List.mem_cons_of_mem _ hs)
      -- over the levels that are left
      have key : ∀ (ls : List Int) (s : Option (List Int) × Int), Rising ls → (∀ x ∈ ls, x ∈ levR cores pre.length r) →
          (∀ b, s.1 = some b → ∀ c ∈ ls, ∀ os : List Int, os.length = rest.length → lexLt (pre ++ c :: os) b = false) →
          (∀ O, BeatR s O → BeatR (ls.foldl (fun s c => lowGo t cores rest (pre ++ [c]) (tot + c) s) s) O) ∧
          (∀ c ∈ ls, ∀ os, InV cores rest (pre.length + 1) os → (∀ k ∈ cores, hitsR t (pre ++ c :: os) k = true) → BeatR (ls.foldl (fun s c => lowGo t cores rest (pre ++ [c]) (tot + c) s) s) (pre ++ c :: os)) ∧
          (ls.foldl (fun s c => lowGo t cores rest (pre ++ [c]) (tot + c) s) s = s ∨ ∃ c ∈ ls, ∃ os, InV cores rest (pre.length + 1) os ∧ (∀ k ∈ cores, hitsR t (pre ++ c :: os) k = true) ∧ (ls.foldl (fun s c => lowGo t cores rest (pre ++ [c]) (tot + c) s) s).1 = some (pre ++ c :: os) ∧ (ls.foldl (fun s c => lowGo t cores rest (pre ++ [c]) (tot + c) s) s).2 = (pre ++ c :: os).sum) := by
        intro ls
        induction ls with
        | nil => exact fun s _ _ _ => ⟨fun O h => h, fun c hc => by simp at hc, .inl rfl⟩
        | cons c ls ih =>
          intro s hris hsub hold2
          have e1 : ∀ os : List Int, (pre ++ [c]) ++ os = pre ++ c :: os := fun os => by simp
          have el : (pre ++ [c]).length = pre.length + 1 := by simp
          have step := low_ok t cores rest (pre ++ [c]) (tot + c) s hn2 (by rw [sum_app, ht]; simp) (fun b hb os hos => by rw [e1]; exact hold2 b hb c (by simp) os hos)
          rw [el] at step
          simp only [e1] at step
          obtain ⟨g1, g2, g3⟩ := step
          rw [List.foldl_cons]
          have hold3 : ∀ b, (lowGo t cores rest (pre ++ [c]) (tot + c) s).1 = some b → ∀ d ∈ ls, ∀ os : List Int, os.length = rest.length → lexLt (pre ++ d :: os) b = false := by
            intro b hb d hd os hos
            rcases g3 with g | ⟨ks, _, _, g, _⟩
            · rw [g] at hb
              exact hold2 b hb d (List.mem_cons_of_mem _ hd) os hos
            · rw [g] at hb
              cases hb
              rw [lex_app]
              have := hris.1 d hd
              simp only [lexLt, Bool.or_eq_false_iff, Bool.and_eq_false_imp, decide_eq_false_iff_not, decide_eq_true_eq]
              exact ⟨by omega, fun e => by omega⟩
          obtain ⟨i1, i2, i3⟩ := ih _ hris.2 (fun x hx => hsub x (List.mem_cons_of_mem _ hx)) hold3
          refine ⟨fun O h => i1 O (g1 O h), fun d hd os ho hh => ?_, ?_⟩
          · rcases List.mem_cons.1 hd with rfl | hd
            · exact i1 _ (g2 os ho hh)
            · exact i2 d hd os ho hh
          · rcases i3 with i | ⟨d, hd, os, j1, j2, j3, j4⟩
            · rw [i]
              rcases g3 with g | ⟨os, j1, j2, j3, j4⟩
              · exact .inl g
              · exact .inr ⟨c, by simp, os, j1, j2, j3, j4⟩
            · exact .inr ⟨d, List.mem_cons_of_mem _ hd, os, j1, j2, j3, j4⟩
      obtain ⟨k1, k2, k3⟩ := key (levR cores pre.length r) st hr.1 (fun x hx => hx) (fun b hb c _ os hos => hold b hb (c :: os) (by simp [hos]))
      refine ⟨k1, fun os ho hh => ?_, ?_⟩
      · cases os with
        | nil => exact ho.elim
        | cons o os => exact k2 o ho.1 os ho.2 hh
      · rcases k3 with k | ⟨c, hc2, os, j1, j2, j3, j4⟩
        · exact .inl k
        · exact .inr ⟨c :: os, ⟨hc2, j1⟩, j2, j3, j4⟩

/-! What is not asked does not matter. -/
def floorL (cores : List (List Tm)) : List (List Int) → Nat → List Int → List Int
  | r :: t, i, o :: O => (if askedR cores i = true then o else minR r) :: floorL cores t (i + 1) O
  | _, _, _ => []
theorem floor_V {cores : List (List Tm)} : ∀ {t : List (List Int)} {i : Nat} {O : List Int}, (∀ r ∈ t, r ≠ []) → InD t O → InV cores t i (floorL cores t i O) ∧ LeL (floorL cores t i O) O
  | [], _, [], _, _ => ⟨trivial, trivial⟩
  | r :: t, i, o :: O, hn, h => by
    have hr := lev_ok (cores := cores) (u := i) (hn r (by simp))
    obtain ⟨h1, h2⟩ := floor_V (cores := cores) (i := i + 1) (fun s hs => hn s (List.mem_cons_of_mem _ hs)) h.2
    refine ⟨⟨?_, h1⟩, ⟨?_, h2⟩⟩
    · cases ha : askedR cores i
      · rw [if_neg (by decide)]; exact hr.2.2.2 ha
      · rw [if_pos rfl]; exact hr.2.2.1 ha o h.1
    · cases ha : askedR cores i
      · rw [if_neg (by decide)]; exact (min_ok (hn r (by simp))).2 o h.1
      · rw [if_pos rfl]; exact Int.le_refl _
  | [], _, _ :: _, _, h => h.elim
  | _ :: _, _, [], _, h => h.elim
theorem floor_at {cores : List (List Tm)} : ∀ {t : List (List Int)} {i : Nat} {O : List Int} (k : Nat), InD t O → askedR cores (i + k) = true → (floorL cores t i O).getD k 0 = O.getD k 0
  | [], _, [], _, _, _ => rfl
  | r :: t, i, o :: O, 0, h, ha => by
    rw [floorL, if_pos (by simpa using ha)]
    simp
  | r :: t, i, o :: O, k + 1, h, ha => by
    rw [floorL]
    simp only [List.getD_cons_succ]
    exact floor_at k h.2 (by rw [show i + 1 + k = i + (k + 1) by omega]; exact ha)
  | [], _, _ :: _, _, h, _ => h.elim
  | _ :: _, _, [], _, h, _ => h.elim
theorem hits_floor {cores : List (List Tm)} {t : List (List Int)} {O : List Int} (hO : InD t O) {c : List Tm} (hc : c ∈ cores) : hitsR t (floorL cores t 0 O) c = hitsR t O c := by
  unfold hitsR
  have : ∀ x ∈ c, (floorL cores t 0 O).getD x.u 0 = O.getD x.u 0 := fun x hx => floor_at x.u hO (by
    rw [Nat.zero_add]
    exact List.any_eq_true.2 ⟨c, hc, List.any_eq_true.2 ⟨x, hx, by simp⟩⟩)
  rw [Bool.eq_iff_iff, List.any_eq_true, List.any_eq_true]
  constructor
  · rintro ⟨x, hx, h⟩
    exact ⟨x, hx, by rw [this x hx] at h; exact h⟩
  · rintro ⟨x, hx, h⟩
    exact ⟨x, hx, by rw [this x hx]; exact h⟩
theorem lowR_ok {t : List (List Int)} (ht : ∀ r ∈ t, r ≠ [] ∧ ∀ x ∈ r, 0 ≤ x) (cores : List (List Tm)) :
    (∀ n L, lowR t cores = some (n, L) → BestL t cores n L) ∧ (lowR t cores = none → ∀ O, InD t O → ¬ ∀ c ∈ cores, hitsR t O c = true) := by
  have hne : ∀ r ∈ t, r ≠ [] := fun r hr => (ht r hr).1
  obtain ⟨_, h2, h3⟩ := low_ok t cores t [] 0 (none, 0) ht rfl (fun b hb => by cases hb)
  simp only [List.nil_append, List.length_nil] at h2 h3
  have hall : ∀ O, InD t O → (∀ c ∈ cores, hitsR t O c = true) → BeatR (lowGo t cores t [] 0 (none, 0)) O := by
    intro O hO hh
    obtain ⟨f1, f2⟩ := floor_V (cores := cores) (i := 0) hne hO
    obtain ⟨b, hb, hx⟩ := h2 _ f1 (fun c hc => by rw [hits_floor hO hc]; exact hh c hc)
    obtain ⟨s1, s2⟩ := le_sum f2
    refine ⟨b, hb, ?_⟩
    by_cases he : (floorL cores t 0 O).sum = O.sum
    · rw [s2 he] at hx; exact hx
    · left
      rcases hx with hx | ⟨hx, _⟩ <;> omega
  unfold lowR
  generalize lowGo t cores t [] 0 (none, 0) = st at *
  cases hst : st.1 with
  | none =>
    refine ⟨fun n L h => (by cases h), fun _ O hO hh => ?_⟩
    obtain ⟨b, h1, _⟩ := hall O hO hh
    rw [hst] at h1
    cases h1
  | some b =>
    refine ⟨fun n L h => ?_, fun h => by cases h⟩
    cases h
    rcases h3 with h3 | ⟨os, j1, j2, j3, j4⟩
    · rw [h3] at hst; cases hst
    · rw [hst] at j3
      cases j3
      refine ⟨inV_D hne j1, j2, j4, fun O hO hh => ?_⟩
      obtain ⟨b2, h1, hx⟩ := hall O hO hh
      rw [hst] at h1
      cases h1
      exact hx
/-- The program's Low is the reference's. -/
theorem low_same {srt : List Int → List Way → List Way} (hsrt : ∀ lim l r, r ∈ srt lim l ↔ r ∈ l) {t : List (List Int)} (ht : ∀ r ∈ t, r ≠ [] ∧ ∀ x ∈ r, 0 ≤ x) (cores : List (List Tm)) : lowP srt t cores = lowR t cores := by
  obtain ⟨p1, p2⟩ := lowP_ok hsrt (fun r hr => (ht r hr).1) cores
  obtain ⟨r1, r2⟩ := lowR_ok ht cores
  cases hp : lowP srt t cores with
  | none =>
    cases hr : lowR t cores with
    | none => rfl
    | some x =>
      obtain ⟨a, b, _⟩ := r1 x.1 x.2 hr
      exact absurd b (p2 hp x.2 a)
  | some y =>
    cases hr : lowR t cores with
    | none =>
      obtain ⟨a, b, _⟩ := p1 y.1 y.2 hp
      exact absurd b (r2 hr y.2 a)
    | some x =>
      obtain ⟨e1, e2⟩ := best_one (p1 y.1 y.2 hp) (r1 x.1 x.2 hr)
      rw [show y = x from Prod.ext e1 e2]
end Go.Proofs.YtmfdpdnokiidlaaDoor
