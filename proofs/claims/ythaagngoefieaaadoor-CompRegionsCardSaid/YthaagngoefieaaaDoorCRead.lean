/-
  The walk of chapter 6's read, the program's. Conditions: the text's size; strconv's table reads as it is laid.
-/
import Derived.Test.YthaagngoefieaaaDoorCRParse
import Derived.Test.YthaagngoefieaaaDoorG4
import Derived.Test.YthaagngoefieaaaDoorG2
import Derived.Deep.CutBlock
import Derived.Deep.DeepCutAuto
import Derived.Deep.LoopGhost
namespace Go.Proofs.YthaagngoefieaaaDoor
open Go.ChangeShapes Go.WideShapes Go.ChangeAt Go.RowKit
set_option linter.unusedVariables false
set_option linter.unusedSimpArgs false

def c7 (op ps a b c : Int) (p : ByteArray) : List Value := [.int .i64 op, .int .i64 ps, .int .i64 a, .int .i64 b, .int .i64 c, .string p, .string ⟨#[]⟩]
def ops8 : List Value := ordS.map (Value.int .i64)
/-- What read gives. -/
def read6V (x : Option Cmp) : Value :=
  match x with
  | some c => .tuple #[cvC c, .bool true]
  | none => .tuple #[.agg #[.int .i64 0, .int .i64 0, .int .i64 0, .int .i64 0, .int .i64 0, .string ⟨#[]⟩, .string ⟨#[]⟩], .bool false]
theorem read6_some (op n a b c : Int) (p q : ByteArray) : Ending.returned (.tuple #[.agg #[.int .i64 op, .int .i64 n, .int .i64 a, .int .i64 b, .int .i64 c, .string p, .string q], .bool true]) = .returned (read6V (some (cmpS op n a b c p q))) := by
  simp [read6V, cvC, cmpS, verS, back]
theorem read6_res (W : World) (tmps : Array Value) (b : Nat) {x0 x1 x2 x3 x4 x5 x6 : Value} (h2 : tmps[2]?.getD undef = .pointer (some ⟨b, 0, none⟩)) (h : Cells W b [x0, x1, x2, x3, x4, x5, x6]) :
    (results Tryd.f34 tmps).run Tryd.prog W = .ok (.tuple #[.agg #[x0, x1, x2, x3, x4, x5, x6], tmps[3]?.getD undef]) W := by
  obtain ⟨k0, k1, k2, k3, k4, k5, k6⟩ := cells7L h
  simp [results, Tryd.results34, h2, go_sem, k0, k1, k2, k3, k4, k5, k6]
/-- The program's last look. -/
def lookP (s : List UInt8) (x : Option Cmp) : Option Cmp :=
  match x with
  | some c => if mayC c = true ∧ printC c = s then some c else none
  | none => none
theorem readC_look (s : List UInt8) : readC s = lookP s (rawP s) := rfl
theorem lookP_facts (s : ByteArray) (c : Cmp) : ∃ b1 b2 : Bool, (mayC c = b1 ∧ ((⟨(printC c).toArray⟩ : ByteArray).toList == s.toList) = b2 ∧ ((⟨(printC c).toArray⟩ : ByteArray).toList != s.toList) = !b2) ∧
    lookP s.data.toList (some c) = match b1, b2 with | true, true => some c | _, _ => none := by
  refine ⟨_, _, ⟨rfl, rfl, rfl⟩, ?_⟩
  have e1 : (⟨(printC c).toArray⟩ : ByteArray).toList = printC c := by rw [Lib.toList_data]
  rw [e1, Lib.toList_data]
  show (if mayC c = true ∧ printC c = s.data.toList then some c else none) = _
  cases h1 : mayC c
  · rw [if_neg (by simp)]
  · cases h2 : (printC c == s.data.toList)
    · have g2 : printC c ≠ s.data.toList := by simpa using h2
      rw [if_neg (by simp [g2])]
    · have g2 : printC c = s.data.toList := by simpa using h2
      rw [if_pos ⟨rfl, g2⟩]
theorem rawP_op {s y x t : ByteArray} {op : Int} (h9 : op ≠ 9) (h : signOf s.data.toList = op ∧ y.data.toList = s.data.toList.drop (signL op).length) (hb : Behind y 45 x t) :
    rawP s.data.toList = madeC op (splitL t.data.toList 46) x.data.toList := by
  unfold rawP
  rw [h.1, if_neg h9, ← h.2, hb.1, hb.2]
theorem rawP_star {s x t : ByteArray} (h : signOf s.data.toList = 9) (hb : Behind s 45 x t) :
    rawP s.data.toList = match offStar (splitL t.data.toList 46) with | some l => madeC 9 l x.data.toList | none => none := by
  unfold rawP
  rw [if_pos h, hb.1, hb.2]
  rfl
/-- A row of the call's own among its blocks. -/
theorem loc_row {w W W' : World} {L : List (Nat × List Value)} {e : TypeId} {n : Nat} {v : Value} {xs : List Value} (h : Loc w W L) (ho : W'.ownsRow W.heap.size e 1 v n xs) (hb : Below W.heap.size W W') (hn : 0 < n) :
    ∃ g cap, v = .slice (some ⟨g, 0, none⟩) n cap ∧ n ≤ cap ∧ Loc w W' (L ++ [(g, xs)]) := by
  have h2 := loc_call h hb
  rcases ho.2 with ⟨rfl, rfl⟩ | ⟨g, cap, cur, rfl, hg, hh, hnc, _⟩
  · omega
  · refine ⟨g, cap, rfl, hnc, h2.1, ?_, fun x hx => ?_⟩
    · rw [List.pairwise_append]
      refine ⟨h2.2.1, by simp, fun x hx y hy => ?_⟩
      rw [List.mem_singleton] at hy
      subst hy
      exact Nat.ne_of_lt (Nat.lt_of_lt_of_le (h.2.2 x hx).2.1 hg)
    · rcases List.mem_append.1 hx with hx | hx
      · exact h2.2.2 x hx
      · rw [List.mem_singleton] at hx
        subst hx
        refine ⟨Nat.le_trans h.1.size hg, (Array.getElem?_eq_some_iff.1 hh).1, fun j u hu => ?_, fun o => ?_⟩
        · have hc := ho.cells (g := g) rfl j u hu
          rw [add_plain, Nat.zero_add] at hc
          exact hc
        · simp [World.frozen?, hh]
theorem bs_at {ps : List (List UInt8)} {k : Nat} (h : k < ps.length) : ∃ p, ps[k]? = some p ∧ (BS ps)[k]? = some (.string ⟨p.toArray⟩) :=
  ⟨ps[k], List.getElem?_eq_getElem h, by simp [BS, List.getElem?_eq_getElem h]⟩
theorem nums3 (ps : List (List UInt8)) (k : Nat) : ∃ a b c : Int, numsTo ps k = [a, b, c] := ⟨_, _, _, rfl⟩
theorem numsTo_at {ps : List (List UInt8)} {k : Nat} {p : List UInt8} (h3 : k < 3) (hp : ps[k]? = some p) : (numsTo ps k).set k (((numB p).1 : Nat) : Int) = numsTo ps (k + 1) := by
  have := numsTo_set ps h3
  unfold numAt at this
  rw [hp] at this
  exact this
/-- The state of the loop over the pieces. -/
def Num3 (w W : World) (op n : Int) (x : ByteArray) (ps : List (List UInt8)) (g : Nat) (xs : List Value) (k : Nat) : Prop :=
  okTo ps k ∧ ∃ a b c : Int, numsTo ps k = [a, b, c] ∧ Loc w W [(w.heap.size, nil7), (w.heap.size + 1, c7 op n a b c x), (g, xs)]
/-- Behind the search for a sign. -/
def Read1 (w : World) (s : ByteArray) (r : Value) (W : World) : Prop :=
  ∃ (y : ByteArray) (op : Int), r = .string y ∧ ((op ≠ 9 ∧ signOf s.data.toList = op ∧ y.data.toList = s.data.toList.drop (signL op).length) ∨ (signOf s.data.toList = 9 ∧ op = 9 ∧ y = s)) ∧ Loc w W [(w.heap.size, nil7), (w.heap.size + 1, c7 op 0 0 0 0 ⟨#[]⟩)]
/-- The search's state. -/
def Sig (w : World) (s : ByteArray) (k : Nat) (W : World) : Prop :=
  NoSign s.data.toList k ∧ Loc w W [(w.heap.size, nil7), (w.heap.size + 1, c7 9 0 0 0 0 ⟨#[]⟩), (w.heap.size + 2, ops8)]
/-- Behind the search for a Pre. -/
def Read2 (w : World) (y : ByteArray) (op : Int) (r : Value) (W : World) : Prop :=
  ∃ (x t : ByteArray), r = .string t ∧ Behind y 45 x t ∧ Loc w W [(w.heap.size, nil7), (w.heap.size + 1, c7 op 0 0 0 0 x)]

set_option maxRecDepth 8192 in
set_option maxHeartbeats 4000000 in
theorem read6_any (s : ByteArray) (w : World) (hT : Tab w) (hs : s.size ≤ 300001) :
    Calls Tryd.prog 34 #[.string s] w fun e w' => e = .returned (read6V (readC s.data.toList)) ∧ Below w.heap.size w w' := by
  rw [readC_look]
  go_enter Tryd.func34, Tryd.ntmps34
  go_upto_block 0 with fail
  go_cut [5] (fun r wx => Read1 w s r wx)
  case first =>
    go_wp2_with fail
    go_loopw [5, 7, 18] (fun r _ i wr => ∃ k : Nat, k ≤ 8 ∧ r = .string s ∧ i = .int .i64 k ∧ Sig w s k wr) (fun _ _ i _ => 8 - (intOf i).toNat)
    case atStart =>
      refine ⟨0, by omega, rfl, rfl, fun j hj => absurd hj (by omega), ?_⟩
      exact loc_new (loc_new (loc_new (loc_start w) w.heap.size nil7 _) (w.heap.size + 1) (c7 9 0 0 0 0 ⟨#[]⟩) _) (w.heap.size + 2) ops8 _
    case round =>
      obtain ⟨k, hk, rfl, rfl, hst⟩ := hrel
      have hL := hst.2
      have HN := Lib.hid hst.1
      clear hst
      by_cases hlt : k < 8
      · have hc : wr.cell? ⟨w.heap.size + 2, k, none⟩ = some (.int .i64 (opAt k)) := (loc_own hL 2 rfl).1 k _ (by unfold ops8; rw [List.getElem?_map, op_at hlt]; rfl)
        have i1 : (k : Int) < 8 := by omega
        have cb := fun V => begins_any s (signS (opAt k)) V (by omega) (Nat.le_trans (sign_size _) (by omega))
        rw [sign_list] at cb
        have HP := Lib.hid (show opAt k ≠ 9 by
          rcases (show k = 0 ∨ k = 1 ∨ k = 2 ∨ k = 3 ∨ k = 4 ∨ k = 5 ∨ k = 6 ∨ k = 7 by omega) with rfl | rfl | rfl | rfl | rfl | rfl | rfl | rfl <;> decide)
        have cs := fun V => sign_any (opAt k) V
        have hsz := sign_size (opAt k)
        cases hb : (signL (opAt k)).isPrefixOf s.data.toList
        · have HQ := Lib.hid (nosign_succ HN.out hb)
          rw [hb] at cb
          clear hb
          generalize signS (opAt k) = g at *
          go_wp2_with (first | (go_at_call 39; refine (cs _).mono ?_; rintro e w2 ⟨rfl, rfl⟩) | (go_at_call 65; refine (cb _).mono ?_; rintro e w2 ⟨rfl, rfl⟩))
          go_roundw
          case rel => exact ⟨k + 1, by omega, rfl, by go_num, HQ.out, hL⟩
          case measure => simp [intOf]; omega
        · have HO := Lib.hid (signof_at HN.out hlt hb)
          have HR := Lib.hid (sign_rest (opAt k) s)
          have hft := sign_fits hb
          rw [hb] at cb
          clear hb
          obtain ⟨c0, c1, c2, c3, c4, c5, c6⟩ := cells7L (loc_own hL 1 rfl).1
          have f0 := (loc_own hL 1 rfl).2 0
          generalize signS (opAt k) = g at *
          go_wp2_with (first | (go_at_call 39; refine (cs _).mono ?_; rintro e w2 ⟨rfl, rfl⟩) | (go_at_call 65; refine (cb _).mono ?_; rintro e w2 ⟨rfl, rfl⟩))
          go_meet
          have hL2 := loc_put hL 1 0 [.int .i64 (opAt k)] rfl (by simp [c7])
          exact ⟨_, opAt k, rfl, .inl ⟨HP.out, HO.out, HR.out⟩, loc_init (M := [(w.heap.size + 2, ops8)]) hL2⟩
      · obtain rfl : k = 8 := by omega
        have HO := Lib.hid (signof_none HN.out)
        go_wp2_with fail
        go_meet
        exact ⟨_, 9, rfl, .inr ⟨HO.out, rfl, rfl⟩, loc_init (M := [(w.heap.size + 2, ops8)]) hL⟩
  case rest =>
    obtain ⟨y, op, rfl, hop, hL⟩ := hcut
    have HOP := Lib.hid hop
    have hy : y.size ≤ s.size := by
      rcases hop with ⟨_, _, h⟩ | ⟨_, _, h⟩
      · have := congrArg List.length h
        rw [len_size, List.length_drop, len_size] at this
        omega
      · rw [h]; exact Nat.le_refl _
    clear hop
    go_upto_block 2 with fail
    go_cut [5] (fun r wx => Read2 w y op r wx)
    case first =>
      go_wp2_with fail
      go_loopw [5, 8, 36] (fun r _ i wr => ∃ k : Nat, k ≤ y.size ∧ r = .string y ∧ i = .int .i64 k ∧ (y.data.toList.take k).all (· != 45) = true ∧ Loc w wr [(w.heap.size, nil7), (w.heap.size + 1, c7 op 0 0 0 0 ⟨#[]⟩)]) (fun _ _ i _ => y.size - (intOf i).toNat)
      case atStart => exact ⟨0, by omega, rfl, rfl, rfl, hL⟩
      case round =>
        obtain ⟨k, hk, rfl, rfl, hp, hL⟩ := hrel
        have HQ := Lib.hid hp
        clear hp
        by_cases hlt : k < y.size
        · by_cases hc : y[k] = 45
          · have HF := Lib.hid (behind_at hlt hc HQ.out)
            have hbb : ((y[k].toNat : Int) == 45) = true := by simp [hc]
            clear hc
            obtain ⟨c0, c1, c2, c3, c4, c5, c6⟩ := cells7L (loc_own hL 1 rfl).1
            have f5 := (loc_own hL 1 rfl).2 5
            go_wp2_with fail
            go_meet
            have hL2 := loc_put hL 1 5 [.string (y.extract (k + 1) y.size)] rfl (by simp [c7])
            exact ⟨_, _, rfl, HF.out, hL2⟩
          · have HP := Lib.hid (ne_step hlt HQ.out hc)
            have hbb : ((y[k].toNat : Int) == 45) = false := by
              rw [beq_eq_false_iff_ne]
              exact fun e => hc (UInt8.toNat_inj.1 (by show _ = 45; omega))
            clear hc
            go_wp2_with fail
            go_roundw
            case rel => exact ⟨k + 1, by omega, rfl, by go_num, HP.out, hL⟩
            case measure => simp [intOf]; omega
        · obtain rfl : k = y.size := by omega
          have HE := Lib.hid (behind_none HQ.out)
          go_wp2_with fail
          go_meet
          exact ⟨_, _, rfl, HE.out, hL⟩
    case rest =>
    obtain ⟨x, t, rfl, hbe, hL⟩ := hcut
    have hlx := congrArg List.length hbe.1
    have hlt := congrArg List.length hbe.2
    have hla := ahead_le y.data.toList 45
    have hlf : (fromL y.data.toList 45).length ≤ y.data.toList.length := by
      have := congrArg List.length (ahead_from y.data.toList 45)
      rw [List.length_append] at this
      omega
    rw [List.length_tail] at hlx
    rw [len_size] at hlx hlt hla hlf
    have HBE := Lib.hid hbe
    clear hbe
    go_wp2_with fail
    have hsa : ∀ W : World, Calls Tryd.prog 50 #[.string t, .int .u8 46] W fun e w' => (∃ v, e = .returned v ∧ w'.ownsRow W.heap.size 9 1 v (splitL t.data.toList 46).length (BS (splitL t.data.toList 46))) ∧ Below W.heap.size W w' := fun W => split_any t 46 W (by omega)
    refine (hsa _).mono ?_
    rintro e w3 ⟨⟨v, rfl, hown⟩, hb3⟩
    have hpos := split_pos t.data.toList 46
    obtain ⟨g, cap, rfl, hcap, hL⟩ := loc_row hL hown hb3 hpos
    have hlen := split_len_le t.data.toList 46
    rw [len_size] at hlen
    have HLE : Hid (∀ q ∈ splitL t.data.toList 46, q.length ≤ 1048576) := fun q hq => by have := piece_le hq; rw [len_size] at this; omega
    clear hb3 hsa hown
    by_cases h9 : op = 9
    · subst h9
      obtain ⟨hsg, hys⟩ : signOf s.data.toList = 9 ∧ y = s := by
        rcases HOP.out with h | h
        · exact absurd rfl h.1
        · exact ⟨h.1, h.2.2⟩
      have HR := Lib.hid (rawP_star hsg (hys ▸ HBE.out))
      clear HBE HOP hsg hys
      generalize splitL t.data.toList 46 = ps at *
      obtain ⟨c0, c1, c2, c3, c4, c5, c6⟩ := cells7L (loc_own hL 1 rfl).1
      obtain ⟨d0, d1, d2, d3, d4, d5, d6⟩ := cells7L (loc_own hL 0 rfl).1
      have f1 := (loc_own hL 1 rfl).2 1
      have f0 := (loc_own hL 0 rfl).2
      have hlk : ps.length - 1 < ps.length := by omega
      obtain ⟨p, hp, hp2⟩ := bs_at hlk
      have hc := (loc_own hL 2 rfl).1 _ _ hp2
      have hlast : ps.getLast? = some p := by rw [List.getLast?_eq_getElem?]; exact hp
      have HAT : Hid (∀ k, k < ps.length - 1 → ∃ p, ps.dropLast[k]? = some p ∧ (BS ps)[k]? = some (.string ⟨p.toArray⟩)) := by
        intro k hk
        obtain ⟨p, h1, h2⟩ := bs_at (ps := ps) (show k < ps.length by omega)
        exact ⟨p, by rw [List.getElem?_dropLast, if_pos hk]; exact h1, h2⟩
      have HQL : Hid (ps.dropLast.length = ps.length - 1) := List.length_dropLast
      have HLQ : Hid (∀ q ∈ ps.dropLast, q.length ≤ 1048576) := fun q hq => HLE.out q (List.dropLast_subset _ hq)
      have i0 : (ps.length : Int) - 1 = ((ps.length - 1 : Nat) : Int) := by omega
      have i1 : ((ps.length - 1 : Nat) : Int) ≤ (cap : Int) := by omega
      have i2 : ps.length - 1 ≤ cap := by omega
      have i3 : ps.length - 1 ≤ 300002 := by omega
      have i5 : ((ps.length - 1 : Nat) : Int) < (ps.length : Int) := by omega
      have eP : (⟨p.toArray⟩ : ByteArray).toList = p := by rw [Lib.toList_data]
      by_cases hps : p = [42]
      · have HR3 : Hid (rawP s.data.toList = madeC 9 ps.dropLast x.data.toList) := HR.out.trans (by unfold offStar; rw [hlast, hps, if_pos rfl])
        have t1 : ((⟨p.toArray⟩ : ByteArray).toList == [42]) = true := by rw [eP, hps]; rfl
        have t2 : ((⟨p.toArray⟩ : ByteArray).toList != [42]) = false := by rw [eP, hps]; rfl
        generalize BS ps = xs at *
        clear HLE HR hpos hcap hp hp2 hlast hps hlk eP
        generalize (⟨p.toArray⟩ : ByteArray) = P at *
        generalize ps.dropLast = qs at *
        generalize ps.length - 1 = n1 at *
        by_cases h3 : n1 ≤ 3
        · have i4 : ¬ (3 : Int) < (n1 : Int) := by omega
          go_wp2_with fail
          have hL1 := loc_put hL 1 1 [.int .i64 (n1 : Int)] rfl (by simp [c7])
          clear c0 c1 c2 c3 c4 c5 c6 d0 d1 d2 d3 d4 d5 d6 f1 f0 hL i4
          go_loopw [80] (fun i wr => ∃ k : Nat, k ≤ n1 ∧ i = .int .i64 k ∧ Num3 w wr 9 (n1 : Int) x qs g xs k) (fun i _ => n1 - (intOf i).toNat)
          case atStart => exact ⟨0, by omega, rfl, fun j p hj => absurd hj (by omega), 0, 0, 0, rfl, hL1⟩
          case round =>
            obtain ⟨k, hk, rfl, hok, va, vb, vc, hv, hL⟩ := hrel
            have HOK := Lib.hid hok
            clear hok hL1
            by_cases hlt : k < n1
            · obtain ⟨p, hp, hp2⟩ := HAT.out k hlt
              have hc := (loc_own hL 2 rfl).1 _ _ hp2
              have hps : p.length ≤ 1048576 := HLQ.out p (List.mem_of_getElem? hp)
              have hsz := str_size p
              have cn := fun W => number_any ⟨p.toArray⟩ W (by unfold maxLen; omega)
              have e1 : (⟨p.toArray⟩ : ByteArray).data.toList = p := by simp
              rw [e1] at cn
              have hg1 := loc_lt hL 1 rfl
              have i5 : (k : Int) < (n1 : Int) := by omega
              clear e1 hsz hp2 hps
              cases hnb : (numB p).2
              · have HF : Hid (lookP s.data.toList (rawP s.data.toList) = none) := by show lookP _ _ = none; rw [HR3.out, made_none (nums_stop (by rw [HQL.out]; exact h3) hp hnb)]; rfl
                rw [hnb] at cn
                clear hnb hp hv
                generalize (⟨p.toArray⟩ : ByteArray) = P at *
                generalize (numB p).1 = v at *
                go_wp2_with fail
                refine (cn _).mono ?_
                rintro e w5 ⟨rfl, hb5⟩
                have hL := loc_call hL hb5
                clear hb5 hc
                obtain ⟨d0, d1, d2, d3, d4, d5, d6⟩ := cells7L (loc_own hL 0 rfl).1
                have f0 := (loc_own hL 0 rfl).2
                go_wp2_with fail
                have hL2 := loc_put hL 0 0 nil7 rfl (by simp [nil7])
                refine bodyPost_ret (read6_res _ _ w.heap.size rfl (loc_own hL2 0 rfl).1) rfl ?_
                exact ⟨by rw [HF.out]; rfl, hL2.1⟩
              · have HO := Lib.hid (okTo_succ HOK.out hp hnb)
                have HSET := Lib.hid (numsTo_at (ps := qs) (k := k) (by omega) hp)
                rw [hv] at HSET
                rw [hnb] at cn
                clear hnb hp hv
                generalize (⟨p.toArray⟩ : ByteArray) = P at *
                generalize (numB p).1 = v at *
                rcases (show k = 0 ∨ k = 1 ∨ k = 2 by omega) with rfl | rfl | rfl
                · go_wp2_with fail
                  refine (cn _).mono ?_
                  rintro e w5 ⟨rfl, hb5⟩
                  have hL := loc_call hL hb5
                  clear hb5 hc
                  obtain ⟨c0, c1, c2, c3, c4, c5, c6⟩ := cells7L (loc_own hL 1 rfl).1
                  have f2 := (loc_own hL 1 rfl).2 2
                  go_wp2_with fail
                  go_roundw
                  case rel =>
                    refine ⟨1, by omega, rfl, HO.out, (v : Int), vb, vc, HSET.out.symm, ?_⟩
                    exact loc_put hL 1 2 [.int .i64 (v : Int)] rfl (by simp [c7])
                  case measure => simp [intOf]; omega
                · go_wp2_with fail
                  refine (cn _).mono ?_
                  rintro e w5 ⟨rfl, hb5⟩
                  have hL := loc_call hL hb5
                  clear hb5 hc
                  obtain ⟨c0, c1, c2, c3, c4, c5, c6⟩ := cells7L (loc_own hL 1 rfl).1
                  have f3 := (loc_own hL 1 rfl).2 3
                  go_wp2_with fail
                  go_roundw
                  case rel =>
                    refine ⟨2, by omega, rfl, HO.out, va, (v : Int), vc, HSET.out.symm, ?_⟩
                    exact loc_put hL 1 3 [.int .i64 (v : Int)] rfl (by simp [c7])
                  case measure => simp [intOf]; omega
                · go_wp2_with fail
                  refine (cn _).mono ?_
                  rintro e w5 ⟨rfl, hb5⟩
                  have hL := loc_call hL hb5
                  clear hb5 hc
                  obtain ⟨c0, c1, c2, c3, c4, c5, c6⟩ := cells7L (loc_own hL 1 rfl).1
                  have f4 := (loc_own hL 1 rfl).2 4
                  go_wp2_with fail
                  go_roundw
                  case rel =>
                    refine ⟨3, by omega, rfl, HO.out, va, vb, (v : Int), HSET.out.symm, ?_⟩
                    exact loc_put hL 1 4 [.int .i64 (v : Int)] rfl (by simp [c7])
                  case measure => simp [intOf]; omega
            · obtain rfl : k = n1 := by omega
              have i5 : ¬ (k : Int) < (k : Int) := by omega
              obtain ⟨va', vb', vc', hv', hN⟩ := nums_all (ps := qs) (by rw [HQL.out]; exact h3) (by rw [HQL.out]; exact HOK.out)
              rw [HQL.out, hv] at hv'
              injection hv' with g1 hv'
              injection hv' with g2 hv'
              injection hv' with g3 hv'
              subst g1 g2 g3
              have HF : Hid (lookP s.data.toList (rawP s.data.toList) = lookP s.data.toList (some (cmpS 9 (k : Int) va vb vc x ⟨#[]⟩))) := by show lookP _ _ = lookP _ _; rw [HR3.out, made_some hN, HQL.out]; rfl
              clear hN hv HOK hv'
              obtain ⟨b1, b2, hfacts, hres⟩ := lookP_facts s (cmpS 9 (k : Int) va vb vc x ⟨#[]⟩)
              have HF2 := Lib.hid (HF.out.trans hres)
              obtain ⟨t1, t2, t3⟩ := hfacts
              have cM := fun W => cmay_any 9 (k : Int) va vb vc x ⟨#[]⟩ W (by omega) (by decide)
              have cP := fun W (hT : Tab W) => cprint_any 9 (k : Int) va vb vc x ⟨#[]⟩ W hT (by omega) (by decide)
              rw [t1] at cM
              clear hres HF t1
              generalize (⟨(printC (cmpS 9 (k : Int) va vb vc x ⟨#[]⟩)).toArray⟩ : ByteArray) = P at *
              unfold cvV at cM cP
              have HT := Lib.hid hT
              clear hT
              obtain ⟨c0, c1, c2, c3, c4, c5, c6⟩ := cells7L (loc_own hL 1 rfl).1
              cases b1
              · go_wp2_with fail
                refine (cM _).mono ?_
                rintro e w5 ⟨rfl, hb5⟩
                have hL := loc_call hL hb5
                clear hb5 c0 c1 c2 c3 c4 c5 c6
                obtain ⟨d0, d1, d2, d3, d4, d5, d6⟩ := cells7L (loc_own hL 0 rfl).1
                have f0 := (loc_own hL 0 rfl).2
                go_wp2_with fail
                have hL2 := loc_put hL 0 0 nil7 rfl (by simp [nil7])
                refine bodyPost_ret (read6_res _ _ w.heap.size rfl (loc_own hL2 0 rfl).1) rfl ?_
                exact ⟨by rw [HF2.out]; rfl, hL2.1⟩
              · go_wp2_with fail
                refine (cM _).mono ?_
                rintro e w5 ⟨rfl, hb5⟩
                have hL := loc_call hL hb5
                clear hb5 c0 c1 c2 c3 c4 c5 c6
                obtain ⟨c0, c1, c2, c3, c4, c5, c6⟩ := cells7L (loc_own hL 1 rfl).1
                go_wp2_with fail
                refine (cP _ (tab_below HT.out hL.1)).mono ?_
                rintro e w6 ⟨rfl, hb6⟩
                have hL := loc_call hL hb6
                clear hb6 c0 c1 c2 c3 c4 c5 c6
                obtain ⟨c0, c1, c2, c3, c4, c5, c6⟩ := cells7L (loc_own hL 1 rfl).1
                obtain ⟨d0, d1, d2, d3, d4, d5, d6⟩ := cells7L (loc_own hL 0 rfl).1
                have f0 := (loc_own hL 0 rfl).2
                cases b2
                · go_wp2_with fail
                  have hL2 := loc_put hL 0 0 nil7 rfl (by simp [nil7])
                  refine bodyPost_ret (read6_res _ _ w.heap.size rfl (loc_own hL2 0 rfl).1) rfl ?_
                  exact ⟨by rw [HF2.out]; rfl, hL2.1⟩
                · go_wp2_with fail
                  have hL2 := loc_put hL 0 0 (c7 9 (k : Int) va vb vc x) rfl (by simp [nil7, c7])
                  refine bodyPost_ret (read6_res _ _ w.heap.size rfl (loc_own hL2 0 rfl).1) rfl ?_
                  exact ⟨by rw [HF2.out]; exact read6_some _ _ _ _ _ _ _, hL2.1⟩
        · have i4 : (3 : Int) < (n1 : Int) := by omega
          have HF : Hid (lookP s.data.toList (rawP s.data.toList) = none) := by show lookP _ _ = none; rw [HR3.out, made_none (nums_long (by rw [HQL.out]; omega))]; rfl
          clear h3
          go_wp2_with fail
          have hL2 := loc_put hL 0 0 nil7 rfl (by simp [nil7])
          refine bodyPost_ret (read6_res _ _ w.heap.size rfl (loc_own hL2 0 rfl).1) rfl ?_
          exact ⟨by rw [HF.out]; rfl, hL2.1⟩
      · have HF : Hid (lookP s.data.toList (rawP s.data.toList) = none) := by
          show lookP _ _ = none
          rw [HR.out]
          unfold offStar
          rw [hlast, if_neg (by simpa using hps)]
          rfl
        have t1 : ((⟨p.toArray⟩ : ByteArray).toList == [42]) = false := by rw [eP]; simpa using hps
        have t2 : ((⟨p.toArray⟩ : ByteArray).toList != [42]) = true := by rw [eP]; simpa using hps
        clear HLE HR hpos hcap hp hp2 hlast hps hlk eP HQL HLQ HAT
        generalize (⟨p.toArray⟩ : ByteArray) = P at *
        generalize ps.length - 1 = n1 at *
        go_wp2_with fail
        have hL2 := loc_put hL 0 0 nil7 rfl (by simp [nil7])
        refine bodyPost_ret (read6_res _ _ w.heap.size rfl (loc_own hL2 0 rfl).1) rfl ?_
        exact ⟨by rw [HF.out]; rfl, hL2.1⟩
    · have HR3 := Lib.hid (rawP_op h9 (by rcases HOP.out with h | h; exact h.2; exact absurd h.2.1 h9) HBE.out)
      clear HBE HOP
      generalize splitL t.data.toList 46 = qs at *
      have h9b : (op == 9) = false := by simpa using h9
      have HLQ := HLE
      generalize hn1 : qs.length = n1 at *
      have HQL := Lib.hid hn1
      have HAT : Hid (∀ k, k < n1 → ∃ p, qs[k]? = some p ∧ (BS qs)[k]? = some (.string ⟨p.toArray⟩)) := fun k hk => bs_at (by omega)
      have i3 : n1 ≤ 300002 := by omega
      clear hn1 HLE hpos hcap h9
      generalize BS qs = xs at *
      obtain ⟨c0, c1, c2, c3, c4, c5, c6⟩ := cells7L (loc_own hL 1 rfl).1
      obtain ⟨d0, d1, d2, d3, d4, d5, d6⟩ := cells7L (loc_own hL 0 rfl).1
      have f1 := (loc_own hL 1 rfl).2 1
      have f0 := (loc_own hL 0 rfl).2
      by_cases h3 : n1 ≤ 3
      · have i4 : ¬ (3 : Int) < (n1 : Int) := by omega
        go_wp2_with fail
        have hL1 := loc_put hL 1 1 [.int .i64 (n1 : Int)] rfl (by simp [c7])
        clear c0 c1 c2 c3 c4 c5 c6 d0 d1 d2 d3 d4 d5 d6 f1 f0 hL i4
        go_loopw [80] (fun i wr => ∃ k : Nat, k ≤ n1 ∧ i = .int .i64 k ∧ Num3 w wr op (n1 : Int) x qs g xs k) (fun i _ => n1 - (intOf i).toNat)
        case atStart => exact ⟨0, by omega, rfl, fun j p hj => absurd hj (by omega), 0, 0, 0, rfl, hL1⟩
        case round =>
          obtain ⟨k, hk, rfl, hok, va, vb, vc, hv, hL⟩ := hrel
          have HOK := Lib.hid hok
          clear hok hL1
          by_cases hlt : k < n1
          · obtain ⟨p, hp, hp2⟩ := HAT.out k hlt
            have hc := (loc_own hL 2 rfl).1 _ _ hp2
            have hps : p.length ≤ 1048576 := HLQ.out p (List.mem_of_getElem? hp)
            have hsz := str_size p
            have cn := fun W => number_any ⟨p.toArray⟩ W (by unfold maxLen; omega)
            have e1 : (⟨p.toArray⟩ : ByteArray).data.toList = p := by simp
            rw [e1] at cn
            have hg1 := loc_lt hL 1 rfl
            have i5 : (k : Int) < (n1 : Int) := by omega
            clear e1 hsz hp2 hps
            cases hnb : (numB p).2
            · have HF : Hid (lookP s.data.toList (rawP s.data.toList) = none) := by show lookP _ _ = none; rw [HR3.out, made_none (nums_stop (by rw [HQL.out]; exact h3) hp hnb)]; rfl
              rw [hnb] at cn
              clear hnb hp hv
              generalize (⟨p.toArray⟩ : ByteArray) = P at *
              generalize (numB p).1 = v at *
              go_wp2_with fail
              refine (cn _).mono ?_
              rintro e w5 ⟨rfl, hb5⟩
              have hL := loc_call hL hb5
              clear hb5 hc
              obtain ⟨d0, d1, d2, d3, d4, d5, d6⟩ := cells7L (loc_own hL 0 rfl).1
              have f0 := (loc_own hL 0 rfl).2
              go_wp2_with fail
              have hL2 := loc_put hL 0 0 nil7 rfl (by simp [nil7])
              refine bodyPost_ret (read6_res _ _ w.heap.size rfl (loc_own hL2 0 rfl).1) rfl ?_
              exact ⟨by rw [HF.out]; rfl, hL2.1⟩
            · have HO := Lib.hid (okTo_succ HOK.out hp hnb)
              have HSET := Lib.hid (numsTo_at (ps := qs) (k := k) (by omega) hp)
              rw [hv] at HSET
              rw [hnb] at cn
              clear hnb hp hv
              generalize (⟨p.toArray⟩ : ByteArray) = P at *
              generalize (numB p).1 = v at *
              rcases (show k = 0 ∨ k = 1 ∨ k = 2 by omega) with rfl | rfl | rfl
              · go_wp2_with fail
                refine (cn _).mono ?_
                rintro e w5 ⟨rfl, hb5⟩
                have hL := loc_call hL hb5
                clear hb5 hc
                obtain ⟨c0, c1, c2, c3, c4, c5, c6⟩ := cells7L (loc_own hL 1 rfl).1
                have f2 := (loc_own hL 1 rfl).2 2
                go_wp2_with fail
                go_roundw
                case rel =>
                  refine ⟨1, by omega, rfl, HO.out, (v : Int), vb, vc, HSET.out.symm, ?_⟩
                  exact loc_put hL 1 2 [.int .i64 (v : Int)] rfl (by simp [c7])
                case measure => simp [intOf]; omega
              · go_wp2_with fail
                refine (cn _).mono ?_
                rintro e w5 ⟨rfl, hb5⟩
                have hL := loc_call hL hb5
                clear hb5 hc
                obtain ⟨c0, c1, c2, c3, c4, c5, c6⟩ := cells7L (loc_own hL 1 rfl).1
                have f3 := (loc_own hL 1 rfl).2 3
                go_wp2_with fail
                go_roundw
                case rel =>
                  refine ⟨2, by omega, rfl, HO.out, va, (v : Int), vc, HSET.out.symm, ?_⟩
                  exact loc_put hL 1 3 [.int .i64 (v : Int)] rfl (by simp [c7])
                case measure => simp [intOf]; omega
              · go_wp2_with fail
                refine (cn _).mono ?_
                rintro e w5 ⟨rfl, hb5⟩
                have hL := loc_call hL hb5
                clear hb5 hc
                obtain ⟨c0, c1, c2, c3, c4, c5, c6⟩ := cells7L (loc_own hL 1 rfl).1
                have f4 := (loc_own hL 1 rfl).2 4
                go_wp2_with fail
                go_roundw
                case rel =>
                  refine ⟨3, by omega, rfl, HO.out, va, vb, (v : Int), HSET.out.symm, ?_⟩
                  exact loc_put hL 1 4 [.int .i64 (v : Int)] rfl (by simp [c7])
                case measure => simp [intOf]; omega
          · obtain rfl : k = n1 := by omega
            have i5 : ¬ (k : Int) < (k : Int) := by omega
            obtain ⟨va', vb', vc', hv', hN⟩ := nums_all (ps := qs) (by rw [HQL.out]; exact h3) (by rw [HQL.out]; exact HOK.out)
            rw [HQL.out, hv] at hv'
            injection hv' with g1 hv'
            injection hv' with g2 hv'
            injection hv' with g3 hv'
            subst g1 g2 g3
            have HF : Hid (lookP s.data.toList (rawP s.data.toList) = lookP s.data.toList (some (cmpS op (k : Int) va vb vc x ⟨#[]⟩))) := by show lookP _ _ = lookP _ _; rw [HR3.out, made_some hN, HQL.out]; rfl
            clear hN hv HOK hv'
            obtain ⟨b1, b2, hfacts, hres⟩ := lookP_facts s (cmpS op (k : Int) va vb vc x ⟨#[]⟩)
            have HF2 := Lib.hid (HF.out.trans hres)
            obtain ⟨t1, t2, t3⟩ := hfacts
            have cM := fun W => cmay_any op (k : Int) va vb vc x ⟨#[]⟩ W (by omega) (by decide)
            have cP := fun W (hT : Tab W) => cprint_any op (k : Int) va vb vc x ⟨#[]⟩ W hT (by omega) (by decide)
            rw [t1] at cM
            clear hres HF t1
            generalize (⟨(printC (cmpS op (k : Int) va vb vc x ⟨#[]⟩)).toArray⟩ : ByteArray) = P at *
            unfold cvV at cM cP
            have HT := Lib.hid hT
            clear hT
            obtain ⟨c0, c1, c2, c3, c4, c5, c6⟩ := cells7L (loc_own hL 1 rfl).1
            cases b1
            · go_wp2_with fail
              refine (cM _).mono ?_
              rintro e w5 ⟨rfl, hb5⟩
              have hL := loc_call hL hb5
              clear hb5 c0 c1 c2 c3 c4 c5 c6
              obtain ⟨d0, d1, d2, d3, d4, d5, d6⟩ := cells7L (loc_own hL 0 rfl).1
              have f0 := (loc_own hL 0 rfl).2
              go_wp2_with fail
              have hL2 := loc_put hL 0 0 nil7 rfl (by simp [nil7])
              refine bodyPost_ret (read6_res _ _ w.heap.size rfl (loc_own hL2 0 rfl).1) rfl ?_
              exact ⟨by rw [HF2.out]; rfl, hL2.1⟩
            · go_wp2_with fail
              refine (cM _).mono ?_
              rintro e w5 ⟨rfl, hb5⟩
              have hL := loc_call hL hb5
              clear hb5 c0 c1 c2 c3 c4 c5 c6
              obtain ⟨c0, c1, c2, c3, c4, c5, c6⟩ := cells7L (loc_own hL 1 rfl).1
              go_wp2_with fail
              refine (cP _ (tab_below HT.out hL.1)).mono ?_
              rintro e w6 ⟨rfl, hb6⟩
              have hL := loc_call hL hb6
              clear hb6 c0 c1 c2 c3 c4 c5 c6
              obtain ⟨c0, c1, c2, c3, c4, c5, c6⟩ := cells7L (loc_own hL 1 rfl).1
              obtain ⟨d0, d1, d2, d3, d4, d5, d6⟩ := cells7L (loc_own hL 0 rfl).1
              have f0 := (loc_own hL 0 rfl).2
              cases b2
              · go_wp2_with fail
                have hL2 := loc_put hL 0 0 nil7 rfl (by simp [nil7])
                refine bodyPost_ret (read6_res _ _ w.heap.size rfl (loc_own hL2 0 rfl).1) rfl ?_
                exact ⟨by rw [HF2.out]; rfl, hL2.1⟩
              · go_wp2_with fail
                have hL2 := loc_put hL 0 0 (c7 op (k : Int) va vb vc x) rfl (by simp [nil7, c7])
                refine bodyPost_ret (read6_res _ _ w.heap.size rfl (loc_own hL2 0 rfl).1) rfl ?_
                exact ⟨by rw [HF2.out]; exact read6_some _ _ _ _ _ _ _, hL2.1⟩
      · have i4 : (3 : Int) < (n1 : Int) := by omega
        have HF : Hid (lookP s.data.toList (rawP s.data.toList) = none) := by show lookP _ _ = none; rw [HR3.out, made_none (nums_long (by rw [HQL.out]; omega))]; rfl
        clear h3
        go_wp2_with fail
        have hL2 := loc_put hL 0 0 nil7 rfl (by simp [nil7])
        refine bodyPost_ret (read6_res _ _ w.heap.size rfl (loc_own hL2 0 rfl).1) rfl ?_
        exact ⟨by rw [HF.out]; rfl, hL2.1⟩
end Go.Proofs.YthaagngoefieaaaDoor
