/-
  Chapter 36: two lists of cores one behind the other in memory; the limit that Low tells, its sum. Conditions: none.
-/
import Derived.Test.YtmfdpdnokiidlaaDoorHBase
namespace Go.Proofs.YtmfdpdnokiidlaaDoor
open Go.ChangeShapes Go.WideShapes Go.ChangeAt Go.RowKit
set_option linter.unusedVariables false
set_option linter.unusedSimpArgs false

def CorRows (W : World) (base : Nat) (vs : List Value) (ks : List (List Tm)) : Prop :=
  ∀ (i : Nat) (r : List Tm), ks[i]? = some r → ∃ Ai ci, vs[i]? = some (.slice Ai r.length ci) ∧ r.length ≤ ci ∧ W.ownsRow base 39 2 (.slice Ai r.length ci) r.length (r.flatMap tmCells)
theorem CorRows.stay {W W' : World} {base base' : Nat} {vs : List Value} {ks : List (List Tm)} (h : CorRows W base vs ks) (hb : base' ≤ base) (hk : ∀ g, base ≤ g → g < W.heap.size → W'.heap[g]? = W.heap[g]?) : CorRows W' base' vs ks := fun i r hr => by
  obtain ⟨Ai, ci, g1, g2, g3⟩ := h i r hr
  exact ⟨Ai, ci, g1, g2, own_mono (own_stay g3 fun g _ => hk g) hb⟩
theorem cor_join {W : World} {base : Nat} {v : Value} {K1 K2 : List (List Tm)} {vs1 vs2 : List Value} (o : W.ownsRow base 33 1 v (K1.length + K2.length) (vs1 ++ vs2)) (hl : vs1.length = K1.length) (h1 : CorRows W base vs1 K1) (h2 : CorRows W base vs2 K2) : CorAt W base v (K1 ++ K2) := by
  refine ⟨vs1 ++ vs2, by rw [List.length_append]; exact o, fun i r hr => ?_⟩
  by_cases hi : i < K1.length
  · rw [List.getElem?_append_left hi] at hr
    obtain ⟨Ai, ci, g1, g2, g3⟩ := h1 i r hr
    exact ⟨Ai, ci, by rw [List.getElem?_append_left (by omega)]; exact g1, g2, g3⟩
  · rw [List.getElem?_append_right (by omega)] at hr
    obtain ⟨Ai, ci, g1, g2, g3⟩ := h2 _ r hr
    exact ⟨Ai, ci, by rw [List.getElem?_append_right (by omega), hl]; exact g1, g2, g3⟩
theorem one_cell {vs : List Value} {W : World} {base : Nat} {ks : List (List Tm)} (hl : vs.length = ks.length) (h : CorRows W base vs ks) : ∀ u ∈ vs, u.oneCell' = true := fun u hu => by
  obtain ⟨i, hi, rfl⟩ := List.getElem_of_mem hu
  have hr : ks[i]? = some (ks[i]'(by omega)) := List.getElem?_eq_getElem (by omega)
  obtain ⟨Ai, ci, g1, _, _⟩ := h i _ hr
  rw [List.getElem?_eq_getElem hi] at g1
  rw [Option.some.inj g1]
  rfl
theorem inD_lim : ∀ {t : List (List Int)} {L : List Int}, TabOk t → InD t L → Lim L
  | [], [], _, _ => fun x hx => by simp at hx
  | r :: t, o :: L, h, k => fun x hx => by
    rcases List.mem_cons.1 hx with rfl | hx
    · exact (h r (by simp)).2 _ k.1
    · exact inD_lim (fun s hs => h s (List.mem_cons_of_mem _ hs)) k.2 x hx
  | [], _ :: _, _, k => k.elim
  | _ :: _, [], _, k => k.elim
theorem sum_take {L : List Int} {k : Nat} (hk : k < L.length) : (L.take (k + 1)).sum = (L.take k).sum + L.getD k 0 := by
  rw [List.take_succ_eq_append_getElem hk, List.sum_append, List.getD_eq_getElem?_getD, List.getElem?_eq_getElem hk]
  simp
theorem take_bd {L : List Int} (h : Lim L) {k : Nat} (hk : k ≤ 100) : 0 ≤ (L.take k).sum ∧ (L.take k).sum ≤ 1677721600 := by
  have h1 : Lim (L.take k) := fun x hx => h x (List.mem_of_mem_take hx)
  have h2 := sum_bd h1
  have h3 : (L.take k).length ≤ k := by simp; omega
  omega
/-- What more cores do to what Low tells: it is not less. -/
theorem more_two {T : List (List Int)} (hT : TabOk T) (K1 K2 : List (List Tm)) :
    (∃ n L, lowP SRT T K1 = some (n, L) ∧ L.length = T.length ∧ Lim L ∧ n = L.sum ∧ (∀ c ∈ K1, hitsR T L c = true) ∧ ∀ m K, lowP SRT T (K1 ++ K2) = some (m, K) → n ≤ m) ∨ (lowP SRT T K1 = none ∧ lowP SRT T (K1 ++ K2) = none) := by
  have hne := tab_ne hT
  cases h1 : lowP SRT T K1 with
  | none =>
    right
    cases h2 : lowP SRT T (K1 ++ K2) with
    | none => exact ⟨rfl, rfl⟩
    | some p =>
      obtain ⟨n, L, h, _⟩ := more_law SRT_mem hne (ds := K2) (m := p.1) (K := p.2) h2
      rw [h1] at h
      cases h
  | some p =>
    left
    obtain ⟨n, L⟩ := p
    obtain ⟨a, b, c, _⟩ := (lowP_ok SRT_mem hne K1).1 n L h1
    refine ⟨n, L, rfl, inD_len a, inD_lim hT a, c, b, fun m K h2 => ?_⟩
    obtain ⟨n2, L2, h, hle⟩ := more_law SRT_mem hne (ds := K2) (m := m) (K := K) h2
    rw [h1] at h
    cases h
    exact hle
/-- Low's results, whatever it tells. -/
theorem low_parts {o : Option (Int × List Int)} {e : Ending} {w' : World} (h : LowRet o e w') : ∃ (n : Int) (A : Option Addr) (k cap : Nat) (b : Bool), e = .returned (.tuple #[.int .i64 n, .slice A k cap, .bool b]) ∧ (b = true → ∃ L, o = some (n, L)) := by
  cases o with
  | none => exact ⟨0, none, 0, 0, false, h, fun h => by cases h⟩
  | some p =>
    obtain ⟨g, cap, h1, _, _⟩ := h
    exact ⟨p.1, _, _, _, true, h1, fun _ => ⟨p.2, rfl⟩⟩
end Go.Proofs.YtmfdpdnokiidlaaDoor
