/-
  Chapter 36: what hit.Low's closure calls, over its variables in memory; bounds on its numbers; the search's steps; the operations on the set. Conditions: none of a run's own.
-/
import Derived.Test.YtmfdpdnokiidlaaDoorHDeepM
namespace Go.Proofs.YtmfdpdnokiidlaaDoor
open Go.ChangeShapes Go.WideShapes Go.ChangeAt Go.RowKit Go.MapKept
set_option linter.unusedVariables false
set_option linter.unusedSimpArgs false

theorem rdI_more {w : World} {B B' : Nat} {A : Option Addr} {l : List Int} (h : RdI w B A l) (hB : B ≤ B') : RdI w B' A l :=
  ⟨h.1, fun h0 => by obtain ⟨b, off, e, hb, hc⟩ := h.2 h0; exact ⟨b, off, e, by omega, hc⟩⟩
theorem sum_bd : ∀ {l : List Int}, Lim l → 0 ≤ l.sum ∧ l.sum ≤ (l.length : Int) * 16777216
  | [], _ => by simp
  | a :: l, h => by
    have h1 := h a (by simp)
    have h2 := sum_bd (l := l) fun x hx => h x (List.mem_cons_of_mem _ hx)
    simp only [List.sum_cons, List.length_cons]
    omega
theorem one_bd {lim : List Int} (hl : Lim lim) : ∀ (l : List Way) (one : Int), (∀ r ∈ l, r.2 ≤ 16777216) → one ≤ 16777216 → l.foldl (oneW lim) one ≤ 16777216
  | [], _, _, h => h
  | r :: l, one, hr, h => by
    rw [List.foldl_cons]
    refine one_bd hl l _ (fun s hs => hr s (List.mem_cons_of_mem _ hs)) ?_
    have := hr r (by simp)
    have := lim_at hl r.1
    unfold oneW
    split <;> omega
theorem more_bd {lim : List Int} (hl : Lim lim) : ∀ (all : List (List Way)) (seen : List Nat) (n : Int), (∀ l ∈ all, ∀ r ∈ l, r.2 ≤ 16777216) → n ≤ moreGo lim all seen n ∧ moreGo lim all seen n ≤ n + (all.length : Int) * 16777216
  | [], _, n, _ => by rw [moreGo]; simp
  | l :: all, seen, n, h => by
    have h1 := one_bd hl l (-1) (h l (by simp)) (by omega)
    rw [moreGo, List.length_cons]
    split
    · have := more_bd hl all seen n fun m hm => h m (List.mem_cons_of_mem _ hm)
      omega
    · have := more_bd hl all (seen ++ l.map Prod.fst) (n + max (l.foldl (oneW lim) (-1)) 0) fun m hm => h m (List.mem_cons_of_mem _ hm)
      omega

/-! The search's steps. -/
def SRT (lim : List Int) (l : List Way) : List Way := srtW (cmpW lim) l
theorem SRT_mem (lim : List Int) (l : List Way) (r : Way) : r ∈ SRT lim l ↔ r ∈ l := srt_mem _ l r
def stopH (all : List (List Way)) (lim : List Int) (tot : Int) (st : StH) : Bool := st.seen.contains lim || (st.best.isSome && decide (st.low < tot + moreL lim all))
theorem stop_iff {all : List (List Way)} {lim : List Int} {tot : Int} {st : StH} : stopH all lim tot st = true ↔ st.seen.contains lim = true ∨ (st.best.isSome = true ∧ st.low < tot + moreL lim all) := by
  unfold stopH
  simp
theorem deep_stop {all : List (List Way)} {f : Nat} {lim : List Int} {tot : Int} {st : StH} (h : stopH all lim tot st = true) : deeperH SRT all (f + 1) lim tot st = st := by
  rw [deeperH, if_pos (stop_iff.1 h)]
theorem deep_none {all : List (List Way)} {f : Nat} {lim : List Int} {tot : Int} {st : StH} (h : stopH all lim tot st = false) (hf : all.find? (fun l => !hitC lim l) = none) :
    deeperH SRT all (f + 1) lim tot st = if takesH lim tot st = true then ⟨lim :: st.seen, some lim, tot⟩ else ⟨lim :: st.seen, st.best, st.low⟩ := by
  rw [deeperH, if_neg (fun hc => by rw [stop_iff.2 hc] at h; cases h), hf]
def stepH (all : List (List Way)) (f : Nat) (lim : List Int) (tot : Int) (s : StH) (r : Way) : StH := deeperH SRT all f (lim.set r.1 r.2) (tot + r.2 - lim.getD r.1 0) s
theorem deep_some {all : List (List Way)} {f : Nat} {lim : List Int} {tot : Int} {st : StH} {l : List Way} (h : stopH all lim tot st = false) (hf : all.find? (fun l => !hitC lim l) = some l) :
    deeperH SRT all (f + 1) lim tot st = (SRT lim l).foldl (stepH all f lim tot) ⟨lim :: st.seen, st.best, st.low⟩ := by
  rw [deeperH, if_neg (fun hc => by rw [stop_iff.2 hc] at h; cases h), hf]
  rfl
theorem fold_take {all : List (List Way)} {f : Nat} {lim : List Int} {tot : Int} {st : StH} {l : List Way} {k : Nat} {x : Way} (hx : l[k]? = some x) : (l.take (k + 1)).foldl (stepH all f lim tot) st = deeperH SRT all f (lim.set x.1 x.2) (tot + x.2 - lim.getD x.1 0) ((l.take k).foldl (stepH all f lim tot) st) := by
  obtain ⟨hlt, rfl⟩ := List.getElem?_eq_some_iff.1 hx
  rw [List.take_succ_eq_append_getElem hlt, List.foldl_append]
  rfl
theorem set_back {lim : List Int} {u : Nat} (c : Int) (hu : u < lim.length) : (lim.set u c).set u (lim.getD u 0) = lim := by
  rw [List.set_set, List.getD_eq_getElem?_getD, List.getElem?_eq_getElem hu]
  exact List.set_getElem_self hu

/-! Calls. -/
section
variable {p : DPar} {lim : List Int} {st : StH} {W : World}
theorem deep_key (h : DIn p lim st W) (ok : DOk p) : Calls Tryd.prog 25 #[.slice (some ⟨p.bL, 0, none⟩) p.N p.N] W fun e w' => e = .returned (.string ⟨(keyL lim).toArray⟩) ∧ Below W.heap.size W w' := by
  have o1 := ok.o1
  have o2 := ok.o2
  have o3 := ok.o3
  have n0 := ok.n0
  have n1 := ok.n1
  have hs := h.size
  have c := key_any (some ⟨p.bL, 0, none⟩) p.N (p.bL + 1) lim W h.rd (by omega) h.lims (by rw [h.len]; omega) (by rw [h.len]; omega) (h.tab W (Below.refl _ _))
  rwa [h.len] at c
theorem deep_more (h : DIn p lim st W) (ok : DOk p) : Calls Tryd.prog 26 #[.slice (some ⟨p.bL, 0, none⟩) p.N p.N, .slice p.A p.all.length p.ca] W fun e w' => e = .returned (.int .i64 (moreL lim p.all)) ∧ Below W.heap.size W w' := by
  have o1 := ok.o1
  have o2 := ok.o2
  have o3 := ok.o3
  have n1 := ok.n1
  have al := ok.al
  have hs := h.size
  have c := more_any (some ⟨p.bL, 0, none⟩) p.A p.N p.ca p.hi lim p.all W (rdI_more h.rd (by omega)) h.rda (by omega) h.lims (by rw [h.len]; omega) (fun l hl => by rw [h.len]; exact ok.ways l hl) (by omega)
  rwa [h.len] at c
theorem deep_index (h : DIn p lim st W) (ok : DOk p) : Calls Tryd.prog 27 #[.slice p.A p.all.length p.ca, .func (.func 28) #[] #[.pointer (some ⟨p.bL + 1, 0, none⟩)]] W fun e w' =>
      ((e = .returned (.int .i64 (-1)) ∧ p.all.find? (fun l => !hitC lim l) = none) ∨ ∃ (k : Nat) (l : List Way), e = .returned (.int .i64 (k : Nat)) ∧ p.all[k]? = some l ∧ p.all.find? (fun l => !hitC lim l) = some l) ∧ Below W.heap.size W w' := by
  have o1 := ok.o1
  have o2 := ok.o2
  have o3 := ok.o3
  have n1 := ok.n1
  have al := ok.al
  have hs := h.size
  refine indexl_any p.A p.ca p.hi (p.bL + 1) p.all (fun l => !hitC lim l) W h.rda (by omega) (by omega) (fun l hl Al cl W2 hb2 hr2 => ?_)
  have h2 := h.call ok hb2
  have hli := h2.limv
  have hs2 := h2.size
  have c := unhit_any (some ⟨p.bL, 0, none⟩) Al p.N cl p.hi (p.bL + 1) lim l W2 (rdI_more h2.rd (by omega)) hr2 (by omega) (by rw [h.len]; exact ok.ways l hl) (by rw [h.len]; omega) (by rw [h.len]; exact hli)
  exact c
/-- Clone of the limit's row: a row of the call's own. -/
theorem deep_clone (h : DIn p lim st W) (ok : DOk p) : Calls Tryd.prog 31 #[.slice (some ⟨p.bL, 0, none⟩) p.N p.N] W fun e w' => (∃ g cap, e = .returned (.slice (some ⟨g, 0, none⟩) p.N cap) ∧ p.N ≤ cap ∧ W.heap.size ≤ g ∧ g < w'.heap.size ∧ Cells w' g (lim.map (Value.int .i64))) ∧ Below W.heap.size W w' := by
  have n1 := ok.n1
  have hlen := h.len
  refine (Tryd.slices_Clone_int p.bL 0 p.N p.N lim W (by omega) (by omega) (fun j hj => ?_)).mono ?_
  · rw [Nat.zero_add]
    refine h.row.1 j _ ?_
    rw [List.getElem?_map, List.getElem?_eq_getElem hj, List.getD_eq_getElem?_getD, List.getElem?_eq_getElem hj]
    rfl
  · rintro e w' ⟨v', rfl, hown, hne, hb1⟩
    refine ⟨?_, hb1⟩
    rw [List.take_of_length_le (by omega)] at hown
    rcases hown.2 with ⟨rfl, _⟩ | ⟨g, cap, cur, rfl, hg, hh, hcap, _⟩
    · exact absurd rfl hne
    · refine ⟨g, cap, rfl, hcap, hg, (Array.getElem?_eq_some_iff.1 hh).1, fun j u hu => ?_⟩
      have := hown.cells (g := g) rfl j u hu
      rwa [add_plain, Nat.zero_add] at this
theorem deep_cmp (h : DIn p lim st W) (ok : DOk p) {b : List Int} {A' : Option Addr} {c' B : Nat} (hb : RdI W B A' b) (hl : b.length = p.N) : Calls Tryd.prog 30 #[.slice (some ⟨p.bL, 0, none⟩) p.N p.N, .slice A' p.N c'] W fun e w' => (∃ r : Int, e = .returned (.int .i64 r) ∧ decide (r < 0) = lexLt lim b) ∧ w' = W := by
  have n1 := ok.n1
  have hlen := h.len
  have c := compare_any (some ⟨p.bL, 0, none⟩) A' p.N c' (p.bL + 1 + B) lim b W (rdI_more h.rd (by omega)) (rdI_more hb (by omega)) (by omega) (by omega)
  rwa [h.len] at c
end

/-! The set at an operation of a region that draws. -/
theorem want_if {c : Prop} [Decidable c] {A B : Prop} (hc : c) (h : A) : if c then A else B := by rw [if_pos hc]; exact h
theorem oper_put_set {P : Program} {d : TypeDesc} {w : World} {o : Oper} {a : Act} {K : Act → World → Prop} {Q : Exit → Act → World → Prop}
    (d0 : Option Tmp) (hd0 : o.dst = d0) (m x v : Operand) (t : TypeId) (hop : o.op = Op.mapUpdate t m x v)
    (k e : TypeId) (ht : P.underlying t = some (.map k e)) (hk : P.underlying k = some d) (b : Nat) (ks : List Value)
    (hm : a.eval m = .map (some b)) (hown : SetB d w b ks) (key : Value) (hx : a.eval x = key) (hv : a.eval v = .bool true) (hkey : IsKey d key)
    (hK : ∀ w', SetB d w' b (key :: ks) → w.grownBy w' (some b) → K (a.put d0 undef) w') : Oper.wp P o a w K Q := by
  obtain ⟨w', hrun, r1, r2⟩ := hown.put ht hk hkey
  subst hd0
  unfold Oper.wp
  simp [execOp, hop, hm, hx, hv, hrun, Result.andThen]
  exact hK _ r1 r2
theorem oper_look_set {P : Program} {d : TypeDesc} {w : World} {o : Oper} {a : Act} {K : Act → World → Prop} {Q : Exit → Act → World → Prop}
    (d0 : Option Tmp) (hd0 : o.dst = d0) (m x : Operand) (t : TypeId) (hop : o.op = Op.lookup t m x false)
    (k e : TypeId) (ht : P.underlying t = some (.map k e)) (hk : P.underlying k = some d) (hz : (zeroValue e).run P w = .ok (.bool false) w) (b : Nat) (ks : List Value)
    (hm : a.eval m = .map (some b)) (hown : SetB d w b ks) (key : Value) (hx : a.eval x = key) (hkey : IsKey d key) (r : Bool) (hr : r = true ↔ key ∈ ks)
    (hK : K (a.put d0 (.bool r)) w) : Oper.wp P o a w K Q := by
  have hrun := hown.look ht hk hz hkey hr
  subst hd0
  unfold Oper.wp
  simp [execOp, hop, hm, hx, hrun, Result.andThen]
  exact hK
end Go.Proofs.YtmfdpdnokiidlaaDoor
