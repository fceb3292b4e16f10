/-
  Chapter 36: a number's digits by the rows' lengths: values of each row, their cost; what Low's results tell. Conditions: none.
-/
import Derived.Test.YtmfdpdnokiidlaaDoorHJoin
namespace Go.Proofs.YtmfdpdnokiidlaaDoor
open Go.ChangeShapes Go.WideShapes Go.ChangeAt Go.RowKit
set_option linter.unusedVariables false
set_option linter.unusedSimpArgs false

def digR : List (List Int) → Nat → List Nat
  | [], _ => []
  | r :: t, k => (k % r.length) :: digR t (k / r.length)
theorem vals_dig : ∀ {T : List (List Int)}, TabOk T → ∀ k, Vals T (digR T k)
  | [], _, _ => trivial
  | r :: t, h, k => ⟨Nat.mod_lt _ (h r (by simp)).1.1, vals_dig (fun s hs => h s (List.mem_cons_of_mem _ hs)) _⟩
theorem dig_len : ∀ (T : List (List Int)) (k : Nat), (digR T k).length = T.length
  | [], _ => rfl
  | r :: t, k => by rw [digR, List.length_cons, List.length_cons, dig_len t]
theorem dig_lt : ∀ {T : List (List Int)}, TabOk T → ∀ k, ∀ v ∈ digR T k, v < 5
  | [], _, _, v, hv => by simp [digR] at hv
  | r :: t, h, k, v, hv => by
    rw [digR, List.mem_cons] at hv
    rcases hv with rfl | hv
    · have h1 := (h r (by simp)).1
      have := Nat.mod_lt k h1.1
      omega
    · exact dig_lt (fun s hs => h s (List.mem_cons_of_mem _ hs)) _ v hv
/-- After so many rows: the digits so far, what is left of the number, what the digits so far cost. -/
def DgAt (T : List (List Int)) (i u : Nat) (pre : List Nat) (k : Nat) (tot : Int) : Prop :=
  pre ++ digR (T.drop u) k = digR T i ∧ pre.length = u ∧ tot + (costV (T.drop u) (digR (T.drop u) k)).sum = (costV T (digR T i)).sum ∧ 0 ≤ tot ∧ tot ≤ (u : Int) * 16777216 ∧ k ≤ i
theorem dig_0 (T : List (List Int)) (i : Nat) : DgAt T i 0 [] i 0 := ⟨by simp, rfl, by simp, by omega, by omega, Nat.le_refl _⟩
theorem dig_step {T : List (List Int)} (hT : TabOk T) {i u : Nat} {pre : List Nat} {k : Nat} {tot : Int} {row : List Int} (hr : T[u]? = some row) (h : DgAt T i u pre k tot) : DgAt T i (u + 1) (pre ++ [k % row.length]) (k / row.length) (tot + row.getD (k % row.length) 0) := by
  obtain ⟨h1, h2, h3, h4, h5, h6⟩ := h
  obtain ⟨hlt, rfl⟩ := List.getElem?_eq_some_iff.1 hr
  have hd : T.drop u = T[u] :: T.drop (u + 1) := List.drop_eq_getElem_cons hlt
  rw [hd, digR] at h1
  rw [hd, digR, costV, List.sum_cons] at h3
  obtain ⟨⟨g1, g2⟩, g3⟩ := hT _ (List.getElem_mem hlt)
  have hm := Nat.mod_lt k g1
  have hc := g3 (T[u].getD (k % T[u].length) 0) (by rw [List.getD_eq_getElem?_getD, List.getElem?_eq_getElem hm]; exact List.getElem_mem _)
  refine ⟨by rw [List.append_assoc]; exact h1, by simp [h2], by omega, by omega, by omega, Nat.le_trans (Nat.div_le_self _ _) h6⟩
theorem dig_end {T : List (List Int)} {i : Nat} {pre : List Nat} {k : Nat} {tot : Int} (h : DgAt T i T.length pre k tot) : pre = digR T i ∧ tot = (costV T (digR T i)).sum := by
  obtain ⟨h1, _, h3, _⟩ := h
  rw [List.drop_length] at h1 h3
  simp [digR, costV] at h1 h3
  exact ⟨h1, h3⟩
theorem low_parts2 {o : Option (Int × List Int)} {e : Ending} {w' : World} (h : LowRet o e w') : ∃ (n : Int) (A : Option Addr) (k cap : Nat) (b : Bool), e = .returned (.tuple #[.int .i64 n, .slice A k cap, .bool b]) ∧ (b = true → ∃ L, o = some (n, L)) ∧ (b = false → o = none) := by
  cases o with
  | none => exact ⟨0, none, 0, 0, false, h, (fun h => by cases h), fun _ => rfl⟩
  | some p =>
    obtain ⟨g, cap, h1, _, _⟩ := h
    exact ⟨p.1, _, _, _, true, h1, fun _ => ⟨p.2, rfl⟩, fun h => by cases h⟩
/-- What the statement asks at values that make no core hold. -/
theorem least_at {T : List (List Int)} (hT : TabOk T) {K : List (List Tm)} (hu : ∀ c ∈ K, ∀ x ∈ c, x.u < T.length) {i : Nat} (hh : K.any (heldC (digR T i)) = false) {n : Int} {b : Bool} (h1 : b = true → ∃ L, lowP SRT T K = some (n, L)) (h2 : b = false → lowP SRT T K = none) : b = true ∧ n ≤ (costV T (digR T i)).sum := by
  obtain ⟨m, L, g1, g2⟩ := least_law SRT_mem (tab_ne hT) (cores := K) hu (vals_dig hT i) (fun c hc => by
    cases hq : heldC (digR T i) c
    · rfl
    · rw [List.any_eq_true.2 ⟨c, hc, hq⟩] at hh; cases hh)
  cases b with
  | false => rw [h2 rfl] at g1; cases g1
  | true =>
    obtain ⟨L2, g3⟩ := h1 rfl
    rw [g3] at g1
    cases g1
    exact ⟨rfl, g2⟩
end Go.Proofs.YtmfdpdnokiidlaaDoor
