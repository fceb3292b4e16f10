/-
  The walk of chapter 6's reference Parse. Conditions: the text's size.
-/
import Derived.Test.YthaagngoefieaaaDoorG5
import Derived.Test.YthaagngoefieaaaDoorG4
namespace Go.Proofs.YthaagngoefieaaaDoor
open Go.ChangeShapes Go.WideShapes Go.ChangeAt Go.RowKit
set_option linter.unusedVariables false
set_option linter.unusedSimpArgs false

def nil7 : List Value := [.int .i64 0, .int .i64 0, .int .i64 0, .int .i64 0, .int .i64 0, .string ⟨#[]⟩, .string ⟨#[]⟩]
/-- A comparator as a value. -/
def cvC (c : Cmp) : Value := .agg #[.int .i64 c.op, .int .i64 c.parts, .int .i64 c.v.maj, .int .i64 c.v.min, .int .i64 c.v.pat, .string ⟨c.v.pre.toArray⟩, .string ⟨c.v.build.toArray⟩]
/-- What Parse gives. -/
def parse6V (x : Option Cmp) : Value :=
  match x with
  | some c => .tuple #[cvC c, .int .i64 0]
  | none => .tuple #[.agg #[.int .i64 0, .int .i64 0, .int .i64 0, .int .i64 0, .int .i64 0, .string ⟨#[]⟩, .string ⟨#[]⟩], .int .i64 6]

/-- The pieces that count: a Star's last one is the star. -/
def piecesR (op : Int) (y : List UInt8) : List (List UInt8) := if op = 9 then (splitL (aheadL y 45) 46).dropLast else splitL (aheadL y 45) 46
theorem rawR_split {s y : ByteArray} {op : Int} (h : (op ≠ 9 ∧ signOf s.data.toList = op ∧ y.data.toList = s.data.toList.drop (signL op).length) ∨ (signOf s.data.toList = 9 ∧ y = s ∧ op = if s.data.toList.getLast? = some 42 then 9 else 7)) :
    rawR s.data.toList = madeC op (piecesR op y.data.toList) (fromL y.data.toList 45).tail := by
  unfold rawR piecesR
  rcases h with ⟨h1, h2, h3⟩ | ⟨h1, rfl, h3⟩
  · rw [h2, if_neg h1, if_neg h1, h3]
  · rw [if_pos h1]
    split at h3
    · rename_i h4
      subst h3
      rw [if_pos h4, if_pos rfl]
    · rename_i h4
      subst h3
      rw [if_neg h4, if_neg (by decide)]
/-- The reference's last look. -/
def lookR (s : List UInt8) (x : Option Cmp) : Option Cmp :=
  match x with
  | some c => if printC c ≠ [] ∧ (printC c = s ∨ printC c = 94 :: s) then some c else none
  | none => none
theorem parseR_look (s : List UInt8) : parseR s = lookR s (rawR s) := rfl
theorem lookR_yes {s : List UInt8} {c : Cmp} (h0 : printC c ≠ []) (h : printC c = s ∨ printC c = 94 :: s) : lookR s (some c) = some c := by unfold lookR; exact if_pos ⟨h0, h⟩
theorem lookR_no0 {s : List UInt8} {c : Cmp} (h0 : printC c = []) : lookR s (some c) = none := by unfold lookR; exact if_neg fun h => h.1 h0
theorem lookR_no {s : List UInt8} {c : Cmp} (h1 : printC c ≠ s) (h2 : printC c ≠ 94 :: s) : lookR s (some c) = none := by
  unfold lookR
  exact if_neg fun h => by rcases h.2 with h | h; exact h1 h; exact h2 h

theorem rparse6_res (W : World) (tmps : Array Value) (b : Nat) {x0 x1 x2 x3 x4 x5 x6 : Value} (h2 : tmps[2]?.getD undef = .pointer (some ⟨b, 0, none⟩)) (h : Cells W b [x0, x1, x2, x3, x4, x5, x6]) :
    (results Tryd.f13 tmps).run Tryd.prog W = .ok (.tuple #[.agg #[x0, x1, x2, x3, x4, x5, x6], tmps[3]?.getD undef]) W := by
  obtain ⟨k0, k1, k2, k3, k4, k5, k6⟩ := cells7L h
  simp [results, Tryd.results13, h2, go_sem, k0, k1, k2, k3, k4, k5, k6]

theorem rd_cut {w : World} {B n : Nat} {A : Option Addr} {ps : List (List UInt8)} (h : Rd w B A n (BS ps)) (hn : 0 < n) : Rd w B A (n - 1) (BS ps.dropLast) := by
  have hl : ps.length = n := by have := h.1; rwa [bs_len] at this
  refine ⟨by rw [bs_len, List.length_dropLast, hl], fun _ => ?_⟩
  obtain ⟨b, off, e, hb, hc⟩ := h.2 hn
  refine ⟨b, off, e, hb, fun j u hu => hc j u ?_⟩
  unfold BS at hu ⊢
  rw [List.getElem?_map] at hu ⊢
  have hj : j < ps.dropLast.length := by
    rcases Nat.lt_or_ge j ps.dropLast.length with g | g
    · exact g
    · rw [List.getElem?_eq_none g] at hu; cases hu
  rw [List.getElem?_dropLast] at hu
  rw [List.length_dropLast] at hj
  rwa [if_pos hj] at hu
theorem rd_own2 {w : World} {base n : Nat} {e : TypeId} {v : Value} {xs : List Value} (h : w.ownsRow base e 1 v n xs) (hn : 0 < n) : ∃ g cap, v = .slice (some ⟨g, 0, none⟩) n cap ∧ n ≤ cap ∧ Rd w w.heap.size (some ⟨g, 0, none⟩) n xs := by
  have hl : xs.length = n := by simpa using h.1
  rcases h.2 with ⟨rfl, rfl⟩ | ⟨g, cap, cur, rfl, _, hh, hnc, _⟩
  · omega
  · refine ⟨g, cap, rfl, hnc, hl, fun _ => ⟨g, 0, rfl, (Array.getElem?_eq_some_iff.1 hh).1, fun j u hu => ?_⟩⟩
    have hc := h.cells (g := g) rfl j u hu
    rwa [add_plain] at hc
theorem pieces_le {op : Int} {y p : List UInt8} (h : p ∈ piecesR op y) : p.length ≤ y.length := by
  have h2 : p ∈ splitL (aheadL y 45) 46 := by
    unfold piecesR at h
    split at h
    · exact List.dropLast_subset _ h
    · exact h
  exact Nat.le_trans (piece_le h2) (ahead_le _ _)

/-- What the pieces give, as the walk takes it: none, or the numbers. -/
theorem made_none {op : Int} {ps : List (List UInt8)} {t : List UInt8} (h : numsL ps = none) : madeC op ps t = none := by unfold madeC; rw [h]
theorem made_some {op : Int} {ps : List (List UInt8)} {t : List UInt8} {a b c : Int} (h : numsL ps = some (a, b, c)) : madeC op ps t = some ⟨op, ps.length, ⟨a, b, c, t, []⟩⟩ := by unfold madeC; rw [h]
theorem parse6_some (op n a b c : Int) (p q : ByteArray) : Ending.returned (.tuple #[.agg #[.int .i64 op, .int .i64 n, .int .i64 a, .int .i64 b, .int .i64 c, .string p, .string q], .int .i64 0]) = .returned (parse6V (some (cmpS op n a b c p q))) := by
  simp [parse6V, cvC, cmpS, verS, back]
/-- The last look, as the walk takes it. -/
theorem look_facts (s : ByteArray) (c : Cmp) : ∃ b1 b2 b3 : Bool,
    ((⟨(printC c).toArray⟩ : ByteArray).toList.isEmpty = b1 ∧ (!(⟨(printC c).toArray⟩ : ByteArray).toList.isEmpty) = !b1 ∧ ((⟨(printC c).toArray⟩ : ByteArray).toList == s.toList) = b2 ∧ ((⟨(printC c).toArray⟩ : ByteArray).toList != s.toList) = !b2 ∧ ((⟨(printC c).toArray⟩ : ByteArray).toList == ((⟨#[94]⟩ : ByteArray) ++ s).toList) = b3 ∧ ((⟨(printC c).toArray⟩ : ByteArray).toList != ((⟨#[94]⟩ : ByteArray) ++ s).toList) = !b3) ∧
    lookR s.data.toList (some c) = match b1, b2, b3 with | true, _, _ => none | false, true, _ => some c | false, false, true => some c | false, false, false => none := by
  refine ⟨_, _, _, ⟨rfl, rfl, rfl, rfl, rfl, rfl⟩, ?_⟩
  have e1 : (⟨(printC c).toArray⟩ : ByteArray).toList = printC c := by rw [Lib.toList_data]
  have e3 : ((⟨#[94]⟩ : ByteArray) ++ s).toList = 94 :: s.data.toList := by rw [Lib.toList_data, app_list]; rfl
  rw [e1, e3, Lib.toList_data]
  cases h1 : (printC c).isEmpty
  · have g1 : printC c ≠ [] := by intro e; rw [e] at h1; cases h1
    cases h2 : (printC c == s.data.toList)
    · have g2 : printC c ≠ s.data.toList := by simpa using h2
      cases h3 : (printC c == 94 :: s.data.toList)
      · have g3 : printC c ≠ 94 :: s.data.toList := by simpa using h3
        exact lookR_no g2 g3
      · exact lookR_yes g1 (.inr (by simpa using h3))
    · exact lookR_yes g1 (.inl (by simpa using h2))
  · exact lookR_no0 (List.isEmpty_iff.1 h1)
theorem split_pos (l : List UInt8) (b : UInt8) : 0 < (splitL l b).length := by rw [split_count]; omega
set_option maxRecDepth 8192 in
set_option maxHeartbeats 4000000 in
theorem rparse6_any (s : ByteArray) (w : World) (hs : s.size ≤ 300000) :
    Calls Tryd.prog 13 #[.string s] w fun e w' => e = .returned (parse6V (parseR s.data.toList)) ∧ Below w.heap.size w w' := by
  rw [parseR_look]
  go_enter Tryd.func13, Tryd.ntmps13
  go_wp2_with fail
  have hL := loc_new (loc_start w) w.heap.size nil7 26
  refine (rsplit6_any s _ (by omega)).mono ?_
  rintro e w1 ⟨⟨op, y, rfl, hsp⟩, hb1⟩
  have hL := loc_call hL hb1
  have HR := Lib.hid (rawR_split hsp)
  have hy : y.size ≤ s.size := by
    rcases hsp with ⟨_, _, h⟩ | ⟨_, h, _⟩
    · have := congrArg List.length h
      rw [len_size, List.length_drop, len_size] at this
      omega
    · rw [h]; exact Nat.le_refl _
  clear hsp hb1
  go_wp2_with fail
  refine (rpre_any y _ (by unfold maxLen; omega)).mono ?_
  rintro e w2 ⟨⟨x, t, rfl, hbe⟩, hb2⟩
  have hL := loc_call hL hb2
  have hlx := congrArg List.length hbe.1
  have hlt := congrArg List.length hbe.2
  have hla := ahead_le y.data.toList 45
  have hlf : (fromL y.data.toList 45).length ≤ y.data.toList.length := by
    have := congrArg List.length (ahead_from y.data.toList 45)
    rw [List.length_append] at this
    omega
  rw [List.length_tail] at hlx
  rw [len_size] at hlx hlt hla hlf
  have HR2 : Hid (rawR s.data.toList = madeC op (if op = 9 then (splitL t.data.toList 46).dropLast else splitL t.data.toList 46) x.data.toList) := by
    rw [hbe.1, hbe.2]; exact HR.out
  clear hbe hb2 HR
  go_wp2_with fail
  have hsa : ∀ W : World, Calls Tryd.prog 37 #[.string t, .int .u8 46] W fun e w' => (∃ v, e = .returned v ∧ w'.ownsRow W.heap.size 9 1 v (splitL t.data.toList 46).length (BS (splitL t.data.toList 46))) ∧ Below W.heap.size W w' := fun W => rsplit_any t 46 W (by omega)
  refine (hsa _).mono ?_
  rintro e w3 ⟨⟨v, rfl, hown⟩, hb3⟩
  have hL := loc_call hL hb3
  have hpos := split_pos t.data.toList 46
  have hlen := split_len_le t.data.toList 46
  rw [len_size] at hlen
  have HLE : Hid (∀ q ∈ splitL t.data.toList 46, q.length ≤ 1048576) := fun q hq => by have := piece_le hq; rw [len_size] at this; omega
  clear hb3 hsa
  generalize splitL t.data.toList 46 = ps at *
  obtain ⟨g, cap, rfl, hcap, hrd⟩ := rd_own2 hown hpos
  clear hown
  by_cases h9 : op = 9
  · subst h9
    have hrd2 := rd_cut hrd hpos
    have HQL : Hid (ps.dropLast.length = ps.length - 1) := List.length_dropLast
    have HLQ : Hid (∀ q ∈ ps.dropLast, q.length ≤ 1048576) := fun q hq => HLE.out q (List.dropLast_subset _ hq)
    have HR3 : Hid (rawR s.data.toList = madeC 9 ps.dropLast x.data.toList) := HR2.out.trans (by rw [if_pos rfl])
    have i0 : (ps.length : Int) - 1 = ((ps.length - 1 : Nat) : Int) := by omega
    have i1 : ((ps.length - 1 : Nat) : Int) ≤ (cap : Int) := by omega
    have i2 : ps.length - 1 ≤ cap := by omega
    have i3 : ps.length - 1 ≤ 300001 := by omega
    clear hrd HLE HR2 hpos hcap
    generalize ps.dropLast = qs at *
    generalize ps.length - 1 = n1 at *
    go_wp2_with fail
    clear i0 i1 i2
    refine (rnums6_any (some ⟨g, 0, none⟩) n1 cap w3.heap.size qs w3 hrd2 (Nat.le_refl _) (by omega) HLQ.out).mono ?_
    rintro e w4 ⟨rfl, hb4⟩
    have hL := loc_call hL hb4
    clear hb4 hrd2
    cases hN : numsL qs with
    | none =>
      have HF : Hid (lookR s.data.toList (rawR s.data.toList) = none) := by show lookR _ _ = none; rw [HR3.out, made_none hN]; rfl
      clear hN HR3
      have hL := loc_box hL (.cells #[.int .i64 0, .int .i64 0, .int .i64 0, .string ⟨#[]⟩, .string ⟨#[]⟩] 24)
      obtain ⟨c0, c1, c2, c3, c4, c5, c6⟩ := cells7L (loc_own hL 0 rfl).1
      have f := (loc_own hL 0 rfl).2
      dsimp only [numsV6]
      go_wp2_with fail
      have hL2 := loc_put hL 0 0 nil7 rfl (by simp [nil7])
      refine bodyPost_ret (rparse6_res _ _ w.heap.size rfl (loc_own hL2 0 rfl).1) rfl ?_
      exact ⟨by rw [HF.out]; rfl, hL2.1⟩
    | some abc =>
      obtain ⟨a, b, c⟩ := abc
      have HF : Hid (lookR s.data.toList (rawR s.data.toList) = lookR s.data.toList (some (cmpS 9 (n1 : Int) a b c x ⟨#[]⟩))) := by show lookR _ _ = lookR _ _; rw [HR3.out, made_some hN, HQL.out]; rfl
      clear hN HR3
      dsimp only [numsV6]
      go_wp2_with fail
      have hL := loc_new (loc_new hL w4.heap.size [.int .i64 a, .int .i64 b, .int .i64 c, .string x, .string ⟨#[]⟩] 24) (w4.heap.size + 1) [.int .i64 9, .int .i64 (n1 : Int), .int .i64 a, .int .i64 b, .int .i64 c, .string x, .string ⟨#[]⟩] 26
      refine (rcprint_any 9 (n1 : Int) a b c x ⟨#[]⟩ _ (by omega) (by decide)).mono ?_
      rintro e w6 ⟨rfl, hb6⟩
      have hL := loc_call hL hb6
      clear hb6
      obtain ⟨b1, b2, b3, hfacts, hres⟩ := look_facts s (cmpS 9 (n1 : Int) a b c x ⟨#[]⟩)
      obtain ⟨t1, t2, t3, t4, t5, t6⟩ := hfacts
      have HF2 := Lib.hid (HF.out.trans hres)
      clear hres HF
      generalize (⟨(printC (cmpS 9 (n1 : Int) a b c x ⟨#[]⟩)).toArray⟩ : ByteArray) = P at *
      obtain ⟨c0, c1, c2, c3, c4, c5, c6⟩ := cells7L (loc_own hL 0 rfl).1
      obtain ⟨d0, d1, d2, d3, d4, d5, d6⟩ := cells7L (loc_own hL 2 rfl).1
      have f := (loc_own hL 0 rfl).2
      have hL2 := loc_put hL 0 0 nil7 rfl (by simp [nil7])
      have hL3 := loc_put hL 0 0 [.int .i64 9, .int .i64 (n1 : Int), .int .i64 a, .int .i64 b, .int .i64 c, .string x, .string ⟨#[]⟩] rfl (by simp [nil7])
      cases b1
      · cases b2
        · cases b3
          · go_wp2_with fail
            refine bodyPost_ret (rparse6_res _ _ w.heap.size rfl (loc_own hL2 0 rfl).1) rfl ?_
            exact ⟨by rw [HF2.out]; rfl, hL2.1⟩
          · go_wp2_with fail
            refine bodyPost_ret (rparse6_res _ _ w.heap.size rfl (loc_own hL3 0 rfl).1) rfl ?_
            exact ⟨by rw [HF2.out]; exact parse6_some _ _ _ _ _ _ _, hL3.1⟩
        · go_wp2_with fail
          refine bodyPost_ret (rparse6_res _ _ w.heap.size rfl (loc_own hL3 0 rfl).1) rfl ?_
          exact ⟨by rw [HF2.out]; exact parse6_some _ _ _ _ _ _ _, hL3.1⟩
      · go_wp2_with fail
        refine bodyPost_ret (rparse6_res _ _ w.heap.size rfl (loc_own hL2 0 rfl).1) rfl ?_
        exact ⟨by rw [HF2.out]; rfl, hL2.1⟩
  · have HR3 : Hid (rawR s.data.toList = madeC op ps x.data.toList) := HR2.out.trans (by rw [if_neg h9])
    have HLQ := HLE
    have hrd2 := hrd
    have h9b : (op == 9) = false := by simpa using h9
    have i3 : ps.length ≤ 300001 := by omega
    clear hrd HLE HR2 hpos hcap h9
    generalize ps = qs at *
    generalize hn1 : qs.length = n1 at *
    have HQL := Lib.hid hn1
    clear hn1
    go_wp2_with fail
    clear h9b
    refine (rnums6_any (some ⟨g, 0, none⟩) n1 cap w3.heap.size qs w3 hrd2 (Nat.le_refl _) (by omega) HLQ.out).mono ?_
    rintro e w4 ⟨rfl, hb4⟩
    have hL := loc_call hL hb4
    clear hb4 hrd2
    cases hN : numsL qs with
    | none =>
      have HF : Hid (lookR s.data.toList (rawR s.data.toList) = none) := by show lookR _ _ = none; rw [HR3.out, made_none hN]; rfl
      clear hN HR3
      have hL := loc_box hL (.cells #[.int .i64 0, .int .i64 0, .int .i64 0, .string ⟨#[]⟩, .string ⟨#[]⟩] 24)
      obtain ⟨c0, c1, c2, c3, c4, c5, c6⟩ := cells7L (loc_own hL 0 rfl).1
      have f := (loc_own hL 0 rfl).2
      dsimp only [numsV6]
      go_wp2_with fail
      have hL2 := loc_put hL 0 0 nil7 rfl (by simp [nil7])
      refine bodyPost_ret (rparse6_res _ _ w.heap.size rfl (loc_own hL2 0 rfl).1) rfl ?_
      exact ⟨by rw [HF.out]; rfl, hL2.1⟩
    | some abc =>
      obtain ⟨a, b, c⟩ := abc
      have HF : Hid (lookR s.data.toList (rawR s.data.toList) = lookR s.data.toList (some (cmpS op (n1 : Int) a b c x ⟨#[]⟩))) := by show lookR _ _ = lookR _ _; rw [HR3.out, made_some hN, HQL.out]; rfl
      clear hN HR3
      dsimp only [numsV6]
      go_wp2_with fail
      have hL := loc_new (loc_new hL w4.heap.size [.int .i64 a, .int .i64 b, .int .i64 c, .string x, .string ⟨#[]⟩] 24) (w4.heap.size + 1) [.int .i64 op, .int .i64 (n1 : Int), .int .i64 a, .int .i64 b, .int .i64 c, .string x, .string ⟨#[]⟩] 26
      refine (rcprint_any op (n1 : Int) a b c x ⟨#[]⟩ _ (by omega) (by decide)).mono ?_
      rintro e w6 ⟨rfl, hb6⟩
      have hL := loc_call hL hb6
      clear hb6
      obtain ⟨b1, b2, b3, hfacts, hres⟩ := look_facts s (cmpS op (n1 : Int) a b c x ⟨#[]⟩)
      obtain ⟨t1, t2, t3, t4, t5, t6⟩ := hfacts
      have HF2 := Lib.hid (HF.out.trans hres)
      clear hres HF
      generalize (⟨(printC (cmpS op (n1 : Int) a b c x ⟨#[]⟩)).toArray⟩ : ByteArray) = P at *
      obtain ⟨c0, c1, c2, c3, c4, c5, c6⟩ := cells7L (loc_own hL 0 rfl).1
      obtain ⟨d0, d1, d2, d3, d4, d5, d6⟩ := cells7L (loc_own hL 2 rfl).1
      have f := (loc_own hL 0 rfl).2
      have hL2 := loc_put hL 0 0 nil7 rfl (by simp [nil7])
      have hL3 := loc_put hL 0 0 [.int .i64 op, .int .i64 (n1 : Int), .int .i64 a, .int .i64 b, .int .i64 c, .string x, .string ⟨#[]⟩] rfl (by simp [nil7])
      cases b1
      · cases b2
        · cases b3
          · go_wp2_with fail
            refine bodyPost_ret (rparse6_res _ _ w.heap.size rfl (loc_own hL2 0 rfl).1) rfl ?_
            exact ⟨by rw [HF2.out]; rfl, hL2.1⟩
          · go_wp2_with fail
            refine bodyPost_ret (rparse6_res _ _ w.heap.size rfl (loc_own hL3 0 rfl).1) rfl ?_
            exact ⟨by rw [HF2.out]; exact parse6_some _ _ _ _ _ _ _, hL3.1⟩
        · go_wp2_with fail
          refine bodyPost_ret (rparse6_res _ _ w.heap.size rfl (loc_own hL3 0 rfl).1) rfl ?_
          exact ⟨by rw [HF2.out]; exact parse6_some _ _ _ _ _ _ _, hL3.1⟩
      · go_wp2_with fail
        refine bodyPost_ret (rparse6_res _ _ w.heap.size rfl (loc_own hL2 0 rfl).1) rfl ?_
        exact ⟨by rw [HF2.out]; rfl, hL2.1⟩
end Go.Proofs.YthaagngoefieaaaDoor
