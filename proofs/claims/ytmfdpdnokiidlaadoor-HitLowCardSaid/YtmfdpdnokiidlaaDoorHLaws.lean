/-
  Plain laws of chapter 36's statements: HitLeast, HitMore, HitNone, HitAdds. Conditions: each row has a cost.
-/
import Derived.Test.YtmfdpdnokiidlaaDoorHRef
namespace Go.Proofs.YtmfdpdnokiidlaaDoor
set_option linter.unusedSimpArgs false
set_option linter.unusedVariables false

section
variable {srt : List Int → List Way → List Way}
/-- What is told is a limit that hits all cores, of that sum. -/
theorem told_ok (hsrt : ∀ lim l r, r ∈ srt lim l ↔ r ∈ l) {t : List (List Int)} (ht : ∀ r ∈ t, r ≠ []) {cores : List (List Tm)} {n : Int} {L : List Int} (h : lowP srt t cores = some (n, L)) : L.length = t.length ∧ n = L.sum ∧ ∀ c ∈ cores, hitsR t L c = true := by
  obtain ⟨a, b, c, _⟩ := (lowP_ok hsrt ht cores).1 n L h
  exact ⟨inD_len a, c, b⟩
/-- No limit that hits all cores costs less. -/
theorem told_least (hsrt : ∀ lim l r, r ∈ srt lim l ↔ r ∈ l) {t : List (List Int)} (ht : ∀ r ∈ t, r ≠ []) {cores : List (List Tm)} {O : List Int} (hO : InD t O) (hh : ∀ c ∈ cores, hitsR t O c = true) : ∃ n L, lowP srt t cores = some (n, L) ∧ n ≤ O.sum := by
  obtain ⟨n, L, h⟩ := (lowP_some hsrt ht).2 ⟨O, hO, hh⟩
  refine ⟨n, L, h, ?_⟩
  rcases ((lowP_ok hsrt ht cores).1 n L h).2.2.2 O hO hh with x | ⟨x, _⟩ <;> omega

/-! HitLeast: values of each row. -/
def costV : List (List Int) → List Nat → List Int
  | r :: t, v :: vs => r.getD v 0 :: costV t vs
  | _, _ => []
def Vals : List (List Int) → List Nat → Prop
  | [], [] => True
  | r :: t, v :: vs => v < r.length ∧ Vals t vs
  | _, _ => False
theorem vals_D : ∀ {t : List (List Int)} {vs : List Nat}, Vals t vs → InD t (costV t vs)
  | [], [], _ => trivial
  | r :: t, v :: vs, h => ⟨by rw [List.getD_eq_getElem?_getD, List.getElem?_eq_getElem h.1]; exact List.getElem_mem h.1, vals_D h.2⟩
  | [], _ :: _, h => h.elim
  | _ :: _, [], h => h.elim
theorem vals_at : ∀ {t : List (List Int)} {vs : List Nat} {u : Nat} {row : List Int}, Vals t vs → t[u]? = some row → ∃ v, vs[u]? = some v ∧ v < row.length ∧ (costV t vs).getD u 0 = row.getD v 0
  | [], [], _, _, _, h => by simp at h
  | r :: t, v :: vs, 0, row, h, hr => by
    simp at hr
    subst hr
    exact ⟨v, by simp, h.1, by simp [costV]⟩
  | r :: t, v :: vs, u + 1, row, h, hr => by
    obtain ⟨w, h1, h2, h3⟩ := vals_at h.2 (u := u) (by simpa using hr)
    exact ⟨w, by simpa using h1, h2, by simpa [costV] using h3⟩
  | [], _ :: _, _, _, h, _ => h.elim
  | _ :: _, [], _, _, h, _ => h.elim
/-- Do values make all terms of a core hold? -/
def heldC (vs : List Nat) (c : List Tm) : Bool := c.all fun x => match vs[x.u]? with
  | some v => x.m.testBit v
  | none => false
theorem hit_row (m : Nat) (most : Int) : ∀ (row : List Int) (i v : Nat), v < row.length → row.getD v 0 ≤ most → freeV m (i + v) = true → hitRow m most row i = true
  | [], _, _, h, _, _ => absurd h (by simp)
  | c :: row, i, 0, _, hc, hf => by
    simp only [Nat.add_zero] at hf
    have hc : c ≤ most := by simpa using hc
    simp [hitRow, hf, hc]
  | c :: row, i, v + 1, h, hc, hf => by
    rw [hitRow, hit_row m most row (i + 1) v (by simpa using h) (by simpa using hc) (by rw [show i + 1 + v = i + (v + 1) by omega]; exact hf)]
    simp
theorem not_held {t : List (List Int)} {vs : List Nat} (hv : Vals t vs) {c : List Tm} (hu : ∀ x ∈ c, x.u < t.length) (h : heldC vs c = false) : hitsR t (costV t vs) c = true := by
  unfold heldC at h
  obtain ⟨x, hx, h1⟩ := List.all_eq_false.1 h
  have hxu := hu x hx
  have hr : t[x.u]? = some t[x.u] := List.getElem?_eq_getElem hxu
  obtain ⟨v, g1, g2, g3⟩ := vals_at hv hr
  rw [g1] at h1
  dsimp only at h1
  refine List.any_eq_true.2 ⟨x, hx, ?_⟩
  rw [hr]
  exact hit_row x.m _ _ 0 v g2 (by rw [g3]; exact Int.le_refl _) (by unfold freeV; rw [Nat.zero_add]; simpa using h1)
theorem least_law (hsrt : ∀ lim l r, r ∈ srt lim l ↔ r ∈ l) {t : List (List Int)} (ht : ∀ r ∈ t, r ≠ []) {cores : List (List Tm)} (hu : ∀ c ∈ cores, ∀ x ∈ c, x.u < t.length) {vs : List Nat} (hv : Vals t vs) (hh : ∀ c ∈ cores, heldC vs c = false) : ∃ n L, lowP srt t cores = some (n, L) ∧ n ≤ (costV t vs).sum :=
  told_least hsrt ht (vals_D hv) fun c hc => not_held hv (hu c hc) (hh c hc)

/-! HitMore. -/
theorem more_law (hsrt : ∀ lim l r, r ∈ srt lim l ↔ r ∈ l) {t : List (List Int)} (ht : ∀ r ∈ t, r ≠ []) {cores ds : List (List Tm)} {m : Int} {K : List Int} (h : lowP srt t (cores ++ ds) = some (m, K)) : ∃ n L, lowP srt t cores = some (n, L) ∧ n ≤ m := by
  obtain ⟨a, b, c, _⟩ := (lowP_ok hsrt ht (cores ++ ds)).1 m K h
  rw [c]
  exact told_least hsrt ht a fun k hk => b k (List.mem_append.2 (.inl hk))

/-! HitNone. -/
theorem none_best {t : List (List Int)} (ht : ∀ r ∈ t, r ≠ []) {cores : List (List Tm)} (hh : ∀ c ∈ cores, hitsR t (t.map minR) c = true) : BestL t cores (t.map minR).sum (t.map minR) := by
  refine ⟨min_inD ht, hh, rfl, fun O hO _ => ?_⟩
  obtain ⟨h1, h2⟩ := le_sum (min_le ht hO)
  by_cases he : (t.map minR).sum = O.sum
  · right
    refine ⟨he, ?_⟩
    rw [← h2 he]
    exact lex_irrefl _
  · left; omega
theorem none_law (hsrt : ∀ lim l r, r ∈ srt lim l ↔ r ∈ l) {t : List (List Int)} (ht : ∀ r ∈ t, r ≠ []) {cores : List (List Tm)} (hh : ∀ c ∈ cores, hitsR t (t.map minR) c = true) : lowP srt t cores = some ((t.map minR).sum, t.map minR) := by
  obtain ⟨n, L, h⟩ := (lowP_some hsrt ht).2 ⟨_, min_inD ht, hh⟩
  obtain ⟨e1, e2⟩ := best_one ((lowP_ok hsrt ht cores).1 n L h) (none_best ht hh)
  rw [h, e1, e2]
/-- A core with a term of no values is hit by every limit. -/
theorem empty_hit {t : List (List Int)} (ht : ∀ r ∈ t, r ≠ []) {u : Nat} (hu : u < t.length) : hitsR t (t.map minR) [⟨u, 0⟩] = true := by
  have hr : t[u]? = some t[u] := List.getElem?_eq_getElem hu
  have hne := ht _ (List.getElem_mem hu)
  refine List.any_eq_true.2 ⟨⟨u, 0⟩, by simp, ?_⟩
  rw [hr]
  dsimp only
  have hm := (min_ok hne).1
  obtain ⟨v, hv, hve⟩ := List.getElem_of_mem hm
  refine hit_row 0 _ _ 0 v hv ?_ (by simp [freeV])
  rw [List.getD_eq_getElem?_getD, List.getElem?_eq_getElem hv]
  simp only [Option.getD_some]
  rw [hve]
  simp [List.getD_eq_getElem?_getD, hr]

/-! HitAdds: costs turned, row by row, by a rising map. -/
def turnT (f : Nat → Int → Int) : Nat → List (List Int) → List (List Int)
  | _, [] => []
  | i, r :: t => r.map (f i) :: turnT f (i + 1) t
def turnO (f : Nat → Int → Int) : Nat → List Int → List Int
  | _, [] => []
  | i, o :: O => f i o :: turnO f (i + 1) O
theorem turn_at (f : Nat → Int → Int) : ∀ (t : List (List Int)) (i u : Nat), (turnT f i t)[u]? = (t[u]?).map fun r => r.map (f (i + u))
  | [], i, u => by simp [turnT]
  | r :: t, i, 0 => by simp [turnT]
  | r :: t, i, u + 1 => by simp [turnT, turn_at f t (i + 1) u, show i + 1 + u = i + (u + 1) by omega]
theorem turnO_at (f : Nat → Int → Int) : ∀ (O : List Int) (i u : Nat), u < O.length → (turnO f i O).getD u 0 = f (i + u) (O.getD u 0)
  | [], _, _, h => absurd h (by simp)
  | o :: O, i, 0, _ => by simp [turnO]
  | o :: O, i, u + 1, h => by
    have := turnO_at f O (i + 1) u (by simpa using h)
    rw [turnO, List.getD_cons_succ, this, List.getD_cons_succ, show i + 1 + u = i + (u + 1) by omega]
theorem turn_D (f : Nat → Int → Int) : ∀ {t : List (List Int)} {i : Nat} {O : List Int}, InD t O → InD (turnT f i t) (turnO f i O)
  | [], _, [], _ => trivial
  | r :: t, i, o :: O, h => ⟨List.mem_map.2 ⟨o, h.1, rfl⟩, turn_D f h.2⟩
  | [], _, _ :: _, h => h.elim
  | _ :: _, _, [], h => h.elim
theorem turn_back (f : Nat → Int → Int) : ∀ {t : List (List Int)} {i : Nat} {P : List Int}, InD (turnT f i t) P → ∃ O, InD t O ∧ P = turnO f i O
  | [], _, [], _ => ⟨[], trivial, rfl⟩
  | r :: t, i, p :: P, h => by
    obtain ⟨o, h1, h2⟩ := List.mem_map.1 h.1
    obtain ⟨O, g1, g2⟩ := turn_back f h.2
    exact ⟨o :: O, ⟨h1, g1⟩, by rw [turnO, g2, h2]⟩
  | [], _, _ :: _, h => h.elim
  | _ :: _, _, [], h => h.elim
theorem hitRow_map {g : Int → Int} (hg : ∀ a b, g a ≤ g b ↔ a ≤ b) (m : Nat) (most : Int) : ∀ (row : List Int) (i : Nat), hitRow m (g most) (row.map g) i = hitRow m most row i
  | [], _ => rfl
  | c :: row, i => by
    rw [List.map_cons, hitRow, hitRow, hitRow_map hg m most row (i + 1)]
    congr 2
    rw [decide_eq_decide]
    exact hg c most
theorem hits_turn {f : Nat → Int → Int} (hf : ∀ i a b, f i a ≤ f i b ↔ a ≤ b) {t : List (List Int)} {O : List Int} (hO : InD t O) (c : List Tm) : hitsR (turnT f 0 t) (turnO f 0 O) c = hitsR t O c := by
  unfold hitsR
  congr 1
  funext x
  rw [turn_at]
  cases hr : t[x.u]? with
  | none => rfl
  | some row =>
    simp only [Option.map_some]
    rw [turnO_at f O 0 x.u (by rw [inD_len hO]; exact (List.getElem?_eq_some_iff.1 hr).1)]
    exact hitRow_map (hf _) x.m _ row 0
/-- Low of turned costs: the sum that the turned limit has, where sums keep their order. -/
theorem turn_law (hsrt : ∀ lim l r, r ∈ srt lim l ↔ r ∈ l) {f : Nat → Int → Int} (hf : ∀ i a b, f i a ≤ f i b ↔ a ≤ b) {t : List (List Int)} (ht : ∀ r ∈ t, r ≠ []) {S : Int → Int} (hS : ∀ a b, a ≤ b → S a ≤ S b) (hsum : ∀ O, InD t O → (turnO f 0 O).sum = S O.sum) (ht2 : ∀ r ∈ turnT f 0 t, r ≠ []) (cores : List (List Tm)) :
    (∀ n L, lowP srt t cores = some (n, L) → ∃ K, lowP srt (turnT f 0 t) cores = some (S n, K)) ∧ (lowP srt t cores = none → lowP srt (turnT f 0 t) cores = none) := by
  constructor
  · intro n L h
    obtain ⟨a, b, c, d⟩ := (lowP_ok hsrt ht cores).1 n L h
    obtain ⟨m, K, h2⟩ := (lowP_some hsrt ht2 (cores := cores)).2 ⟨turnO f 0 L, turn_D f a, fun k hk => by rw [hits_turn hf a]; exact b k hk⟩
    obtain ⟨a2, b2, c2, d2⟩ := (lowP_ok hsrt ht2 cores).1 m K h2
    obtain ⟨O, hO, rfl⟩ := turn_back f a2
    have h3 := d2 (turnO f 0 L) (turn_D f a) (fun k hk => by rw [hits_turn hf a]; exact b k hk)
    have h4 := d O hO (fun k hk => by rw [← hits_turn hf hO]; exact b2 k hk)
    rw [hsum L a, ← c] at h3
    rw [hsum O hO] at c2
    have h5 : S n ≤ S O.sum := hS _ _ (by rcases h4 with h4 | ⟨h4, _⟩ <;> omega)
    have : m = S n := by rcases h3 with h3 | ⟨h3, _⟩ <;> omega
    exact ⟨_, by rw [h2, this]⟩
  · intro h
    cases h2 : lowP srt (turnT f 0 t) cores with
    | none => rfl
    | some p =>
      obtain ⟨a2, b2, _, _⟩ := (lowP_ok hsrt ht2 cores).1 p.1 p.2 h2
      obtain ⟨O, hO, e⟩ := turn_back f a2
      refine absurd (fun k hk => ?_) ((lowP_ok hsrt ht cores).2 h O hO)
      rw [← hits_turn hf hO, ← e]
      exact b2 k hk
theorem turn_ne {f : Nat → Int → Int} : ∀ {t : List (List Int)} {i : Nat}, (∀ r ∈ t, r ≠ []) → ∀ r ∈ turnT f i t, r ≠ []
  | [], _, _ => fun r hr => by simp [turnT] at hr
  | s :: t, i, h => fun r hr => by
    rcases List.mem_cons.1 hr with rfl | hr
    · simpa using h s (by simp)
    · exact turn_ne (fun q hq => h q (List.mem_cons_of_mem _ hq)) r hr
def addF (u : Nat) (x : Int) (i : Nat) (c : Int) : Int := if i = u then c + x else c
theorem add_sum (u : Nat) (x : Int) : ∀ (O : List Int) (i : Nat), (turnO (addF u x) i O).sum = O.sum + if i ≤ u ∧ u < i + O.length then x else 0
  | [], i => by rw [if_neg (by simp only [List.length_nil]; omega)]; simp [turnO]
  | o :: O, i => by
    have := add_sum u x O (i + 1)
    rw [turnO, List.sum_cons, this, List.sum_cons]
    unfold addF
    simp only [List.length_cons]
    by_cases h : i = u
    · rw [if_pos h, if_neg (by omega), if_pos (by omega)]; omega
    · rw [if_neg h]
      by_cases h2 : i + 1 ≤ u ∧ u < i + 1 + O.length
      · rw [if_pos h2, if_pos (by omega)]; omega
      · rw [if_neg h2, if_neg (by omega)]; omega
theorem mul_sum (k : Int) : ∀ (O : List Int) (i : Nat), (turnO (fun _ c => c * k) i O).sum = O.sum * k
  | [], i => by simp [turnO]
  | o :: O, i => by
    have := mul_sum k O (i + 1)
    rw [turnO, List.sum_cons, this, List.sum_cons, Int.add_mul]
/-- One row's costs all so much more. -/
theorem add_law (hsrt : ∀ lim l r, r ∈ srt lim l ↔ r ∈ l) {t : List (List Int)} (ht : ∀ r ∈ t, r ≠ []) {u : Nat} (hu : u < t.length) (x : Int) (cores : List (List Tm)) :
    (∀ n L, lowP srt t cores = some (n, L) → ∃ K, lowP srt (turnT (addF u x) 0 t) cores = some (n + x, K)) ∧ (lowP srt t cores = none → lowP srt (turnT (addF u x) 0 t) cores = none) :=
  turn_law hsrt (f := addF u x) (fun i a b => by unfold addF; split <;> omega) ht (S := fun s => s + x) (fun a b h => by omega) (fun O hO => by rw [add_sum, if_pos (by rw [inD_len hO]; omega)]) (turn_ne ht) cores
/-- All costs so many times as much. -/
theorem mul_law (hsrt : ∀ lim l r, r ∈ srt lim l ↔ r ∈ l) {t : List (List Int)} (ht : ∀ r ∈ t, r ≠ []) {k : Int} (hk : 0 < k) (cores : List (List Tm)) :
    (∀ n L, lowP srt t cores = some (n, L) → ∃ K, lowP srt (turnT (fun _ c => c * k) 0 t) cores = some (n * k, K)) ∧ (lowP srt t cores = none → lowP srt (turnT (fun _ c => c * k) 0 t) cores = none) :=
  turn_law hsrt (f := fun _ c => c * k) (fun i a b => Int.mul_le_mul_iff_of_pos_right hk) ht (S := fun s => s * k) (fun a b h => Int.mul_le_mul_of_nonneg_right h (Int.le_of_lt hk)) (fun O _ => mul_sum k O 0) (turn_ne ht) cores
end
end Go.Proofs.YtmfdpdnokiidlaaDoor
