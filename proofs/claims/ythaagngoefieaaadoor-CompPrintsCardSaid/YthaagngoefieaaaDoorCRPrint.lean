/-
  The walks of chapter 6's reference told and Print. Conditions: Pre and Build have at most 1048576 bytes.
-/
import Derived.Test.YthaagngoefieaaaDoorCPrint
import Derived.Test.YthaagngoefieaaaDoorCJoin
namespace Go.Proofs.YthaagngoefieaaaDoor
open Go.ChangeShapes Go.WideShapes Go.ChangeAt Go.RowKit
set_option linter.unusedVariables false
set_option linter.unusedSimpArgs false

theorem keepT {w W W' : World} {x1 x2 x3 x4 : Value} (hb : Below W.heap.size W W')
    (h : W.cell? ⟨w.heap.size, 1, none⟩ = some x1 ∧ W.cell? ⟨w.heap.size, 2, none⟩ = some x2 ∧ W.cell? ⟨w.heap.size, 3, none⟩ = some x3 ∧ W.cell? ⟨w.heap.size, 4, none⟩ = some x4 ∧ w.heap.size < W.heap.size ∧ Below w.heap.size w W) :
    W'.cell? ⟨w.heap.size, 1, none⟩ = some x1 ∧ W'.cell? ⟨w.heap.size, 2, none⟩ = some x2 ∧ W'.cell? ⟨w.heap.size, 3, none⟩ = some x3 ∧ W'.cell? ⟨w.heap.size, 4, none⟩ = some x4 ∧ w.heap.size < W'.heap.size ∧ Below w.heap.size w W' := by
  obtain ⟨h1, h2, h3, h4, hlt, hB⟩ := h
  exact ⟨(hb.cell (p := ⟨_, 1, none⟩) hlt).trans h1, (hb.cell (p := ⟨_, 2, none⟩) hlt).trans h2, (hb.cell (p := ⟨_, 3, none⟩) hlt).trans h3, (hb.cell (p := ⟨_, 4, none⟩) hlt).trans h4, Nat.lt_of_lt_of_le hlt hb.size, hB.trans (hb.mono hB.size)⟩
theorem told_rd {W : World} {B : Nat} {x y z : ByteArray} {lx ly lz : List UInt8} (hx : x = ⟨lx.toArray⟩) (hy : y = ⟨ly.toArray⟩) (hz : z = ⟨lz.toArray⟩) (h0 : W.cell? ⟨B, 0, none⟩ = some (.string x)) (h1 : W.cell? ⟨B, 1, none⟩ = some (.string y)) (h2 : W.cell? ⟨B, 2, none⟩ = some (.string z)) (hB : B < W.heap.size) (n : Nat) (hn : n ≤ 3) :
    Rd W W.heap.size (some ⟨B, 0, none⟩) n (BS ([lx, ly, lz].take n)) := by
  subst hx hy hz
  refine ⟨by rw [bs_len, List.length_take]; simp; omega, fun _ => ⟨B, 0, rfl, hB, ?_⟩⟩
  intro j u hu
  have hj : j < 3 := by
    have := (List.getElem?_eq_some_iff.1 hu).1
    rw [bs_len, List.length_take] at this
    simp at this
    omega
  unfold BS at hu
  rw [List.getElem?_map, List.getElem?_take] at hu
  split at hu
  · rcases (show j = 0 ∨ j = 1 ∨ j = 2 by omega) with rfl | rfl | rfl
    · simp at hu; rw [← hu]; exact h0
    · simp at hu; rw [← hu]; exact h1
    · simp at hu; rw [← hu]; exact h2
  · simp at hu

/-- What told leaves in its slot: three texts in a block of their own. -/
def St3 (w : World) (x y z : ByteArray) (ps : Int) (s : Value) (W : World) : Prop :=
  ∃ B, s = .slice (some ⟨B, 0, none⟩) 3 3 ∧ W.cell? ⟨B, 0, none⟩ = some (.string x) ∧ W.cell? ⟨B, 1, none⟩ = some (.string y) ∧ W.cell? ⟨B, 2, none⟩ = some (.string z) ∧ B < W.heap.size ∧ W.cell? ⟨w.heap.size, 1, none⟩ = some (.int .i64 ps) ∧ Below w.heap.size w W
theorem st3_alloc {w W : World} {x y z : ByteArray} {ps : Int} {t : TypeId} {P2 P3 P4 P5 : Prop} (h : (W.alloc (.cells #[.string x, .string y, .string z] t)).cell? ⟨w.heap.size, 1, none⟩ = some (.int .i64 ps) ∧ P2 ∧ P3 ∧ P4 ∧ P5 ∧ Below w.heap.size w (W.alloc (.cells #[.string x, .string y, .string z] t))) :
    St3 w x y z ps (.slice (some ⟨W.heap.size, 0, none⟩) 3 3) (W.alloc (.cells #[.string x, .string y, .string z] t)) := by
  have hc := cells_below (cells_new W [.string x, .string y, .string z] t) (Nat.lt_succ_self _) (by simpa using Below.refl _ _)
  exact ⟨_, rfl, hc 0 _ rfl, hc 1 _ rfl, hc 2 _ rfl, by simp, h.1, h.2.2.2.2.2⟩

set_option maxRecDepth 8192 in
set_option maxHeartbeats 4000000 in
theorem told_any (op ps a b c : Int) (p q : ByteArray) (w : World) (ha0 : 0 ≤ a) (ha1 : a ≤ 9999) (hb0 : 0 ≤ b) (hb1 : b ≤ 9999) (hc0 : 0 ≤ c) (hc1 : c ≤ 9999) (hps : ps = 0 ∨ ps = 1 ∨ ps = 2 ∨ ps = 3) :
    Calls Tryd.prog 43 #[cvV op ps a b c p q] w fun e w' => (∃ B, e = .returned (.slice (some ⟨B, 0, none⟩) ps.toNat 3) ∧ Rd w' w'.heap.size (some ⟨B, 0, none⟩) ps.toNat (BS (toldL (cmpS op ps a b c p q)))) ∧ Below w.heap.size w w' := by
  have hTl : toldL (cmpS op ps a b c p q) = [Lib.itoa a, Lib.itoa b, Lib.itoa c].take ps.toNat := rfl
  rw [hTl]
  clear hTl
  unfold cvV
  obtain ⟨dg, hdg⟩ : ∃ dg : Int → ByteArray, dg = fun n => ⟨(Lib.itoa n).toArray⟩ := ⟨_, rfl⟩
  have hd : ∀ (n : Int) (W : World), 0 ≤ n → n ≤ 9999 → Calls Tryd.prog 75 #[.int .i64 n] W fun e w' => e = .returned (.string (dg n)) ∧ Below W.heap.size W w' := by
    subst hdg
    exact fun n W h0 h1 => rdigits_any n W (by omega) (by omega)
  have HA := Lib.hid (show dg a = ⟨(Lib.itoa a).toArray⟩ by rw [hdg])
  have HB := Lib.hid (show dg b = ⟨(Lib.itoa b).toArray⟩ by rw [hdg])
  have HC := Lib.hid (show dg c = ⟨(Lib.itoa c).toArray⟩ by rw [hdg])
  clear hdg
  generalize Lib.itoa a = la at *
  generalize Lib.itoa b = lb at *
  generalize Lib.itoa c = lc at *
  have HPS := Lib.hid hps
  clear hps
  go_enter Tryd.func43, Tryd.ntmps43
  go_wp2
  generalize hwb : w.alloc _ = wb
  have hbb : Below w.heap.size w wb := by rw [← hwb]; exact box_below _ _
  have hlb : w.heap.size < wb.heap.size := by rw [← hwb]; simp
  obtain ⟨k0, k1, k2, k3, k4, k5, k6⟩ := cells7 w (.int .i64 op) (.int .i64 ps) (.int .i64 a) (.int .i64 b) (.int .i64 c) (.string p) (.string q) _ (w1 := wb) (by rw [← hwb]; exact Below.refl _ _)
  clear hwb k0 k5 k6
  have hB2 : Below w.heap.size w wb.drew := below_drewN hbb 1
  go_cut [3] from 3 to 16 (fun s wx => St3 w (dg a) (dg b) (dg c) ps s wx)
  case first =>
    go_region_held3 (fun W => W.cell? ⟨w.heap.size, 1, none⟩ = some (.int .i64 ps) ∧ W.cell? ⟨w.heap.size, 2, none⟩ = some (.int .i64 a) ∧ W.cell? ⟨w.heap.size, 3, none⟩ = some (.int .i64 b) ∧ W.cell? ⟨w.heap.size, 4, none⟩ = some (.int .i64 c) ∧ w.heap.size < W.heap.size ∧ Below w.heap.size w W)
      (first | ((refine keepT hb' ?_; assumption)) | ((refine keepT (box_below _ _) ?_; assumption)) | assumption | ((refine ⟨?_, ?_, ?_, ?_, ?_, ?_⟩ <;> first | assumption | (simp; assumption))))
      (first | (go_at_call 75; refine (hd _ _ ?_ ?_).mono ?_; assumption; assumption; rintro e w' ⟨rfl, hb'⟩))
    all_goals
      go_wp2_with fail
      go_meet
      exact st3_alloc (by assumption)
  case rest =>
    obtain ⟨B, rfl, j0, j1, j2, hlB, k1, hB⟩ := hcut
    have hR := Lib.hid (told_rd HA.out HB.out HC.out j0 j1 j2 hlB)
    clear j0 j1 j2 hd HA HB HC
    rcases HPS.out with rfl | rfl | rfl | rfl
    all_goals
      go_wp2
      go_ret
      exact ⟨⟨B, rfl, hR.out _ (by decide)⟩, hB⟩

theorem parts_c {op ps a b c : Int} {p q : ByteArray} (hm : mayC (cmpS op ps a b c p q) = true) : ps = 0 ∨ ps = 1 ∨ ps = 2 ∨ ps = 3 := by
  obtain ⟨-, -, -, ⟨h1, h2⟩, -⟩ := may_c hm
  simp only [cmpS] at h1 h2
  unfold leastC at h1
  unfold mostC at h2
  by_cases h9 : op = 9
  · rw [if_pos h9] at h1 h2; omega
  · rw [if_neg h9] at h1 h2; omega
theorem told_short {op ps a b c : Int} {p q : ByteArray} (hm : mayC (cmpS op ps a b c p q) = true) : ∀ x ∈ toldL (cmpS op ps a b c p q), x.length ≤ 20 := by
  obtain ⟨-, hv, -⟩ := may_c hm
  obtain ⟨⟨ha0, ha1⟩, ⟨hb0, hb1⟩, ⟨hc0, hc1⟩⟩ := may_parts hv
  simp only [cmpS, verS] at ha0 ha1 hb0 hb1 hc0 hc1
  intro x hx
  have hx := List.mem_of_mem_take hx
  simp only [cmpS, verS, List.mem_cons, List.not_mem_nil, or_false] at hx
  rcases hx with rfl | rfl | rfl
  · exact itoa_len ha0 ha1
  · exact itoa_len hb0 hb1
  · exact itoa_len hc0 hc1
theorem join_small (b : UInt8) : ∀ l : List (List UInt8), (∀ x ∈ l, x.length ≤ 20) → (joinL l b).length ≤ 21 * l.length
  | [], _ => by simp [joinL]
  | [x], h => by
    have h0 := h x (by simp)
    have h1 : joinL [x] b = x := by simp [joinL]
    rw [h1]
    simp
    omega
  | x :: y :: r, h => by
    have h0 := h x (by simp)
    have h1 := join_small b (y :: r) (fun z hz => h z (by simp at hz ⊢; exact .inr hz))
    rw [joinL_cons, List.length_append, List.length_cons]
    simp only [List.length_cons] at h1 ⊢
    omega
theorem rjoin46 (A : Option Addr) (n c B : Nat) (ps : List (List UInt8)) (w : World) (h : Rd w B A n (BS ps)) (hB : B ≤ w.heap.size) (hn : n ≤ 4) (hl : (joinL ps 46).length ≤ 100) :
    Calls Tryd.prog 44 #[.slice A n c, .int .u8 46] w fun e w' => e = .returned (.string ⟨(joinL ps 46).toArray⟩) ∧ Below w.heap.size w w' :=
  rjoin_any A n c B ps 46 w h hB (by omega) (by omega)

theorem rd_olds {W : World} {B n : Nat} {xs : List Value} (h : Rd W W.heap.size (some ⟨B, 0, none⟩) n xs) (o : Obj) : ∀ b, some (⟨B, 0, none⟩ : Addr) = some b → ∀ j u, xs[j]? = some u → (W.alloc o).drew.cell? (b.add j) = some u := by
  rintro b e j u hu
  obtain rfl := Option.some.inj e
  have hj := (List.getElem?_eq_some_iff.1 hu).1
  obtain ⟨b', off', e', hlt, hc⟩ := h.2 (by have := h.1; omega)
  injection e' with e'
  injection e' with e1 e2
  subst e1 e2
  have hb : Below W.heap.size W (W.alloc o).drew := below_drewN (box_below W o) 1
  rw [add_plain]
  exact (hb.cell (p := ⟨B, 0 + j, none⟩) hlt).trans (hc j u hu)

set_option maxRecDepth 8192 in
set_option maxHeartbeats 4000000 in
theorem rcprint_star (op ps a b c : Int) (p q : ByteArray) (w : World) (hp : p.size ≤ 1048576) (hq : q.size ≤ 1048576) (hm : mayC (cmpS op ps a b c p q) = true) (hps : ps = 0 ∨ ps = 1 ∨ ps = 2 ∨ ps = 3) (h9 : op = 9) :
    Calls Tryd.prog 17 #[cvV op ps a b c p q] w fun e w' => e = .returned (.string ⟨(printC (cmpS op ps a b c p q)).toArray⟩) ∧ Below w.heap.size w w' := by
  have hmay := fun W => rcmay_any op ps a b c p q W hp hq
  have hR := Lib.hid (printC_yes hm)
  obtain ⟨-, hv, -⟩ := may_c hm
  obtain ⟨⟨ha0, ha1⟩, ⟨hb0, hb1⟩, ⟨hc0, hc1⟩⟩ := may_parts hv
  simp only [cmpS, verS] at ha0 ha1 hb0 hb1 hc0 hc1
  have hsh := told_short hm
  have hlen := told_len hm
  rw [hm] at hmay
  have htold := fun W => told_any op ps a b c p q W ha0 ha1 hb0 hb1 hc0 hc1 hps
  clear hm ha0 ha1 hb0 hb1 hc0 hc1 hv
  have hS : starC (cmpS op ps a b c p q) = joinL (toldL (cmpS op ps a b c p q) ++ [[42]]) 46 := rfl
  rw [show (cmpS op ps a b c p q).op = op from rfl, if_pos h9, hS] at hR
  rw [show (cmpS op ps a b c p q).parts = ps from rfl] at hlen
  clear hS
  generalize printC (cmpS op ps a b c p q) = R at *
  generalize toldL (cmpS op ps a b c p q) = T at *
  have hj : (joinL (T ++ [[42]]) 46).length ≤ 100 := by
    have h1 := join_small 46 (T ++ [[42]]) (by
      intro x hx
      simp only [List.mem_append, List.mem_cons, List.not_mem_nil, or_false] at hx
      rcases hx with hx | rfl
      · exact hsh x hx
      · decide)
    rw [List.length_append] at h1
    simp only [List.length_cons, List.length_nil] at h1
    omega
  have hln : T.length ≤ 3 := by omega
  have HJ := Lib.hid hj
  have HT := Lib.hid hlen
  clear hj hsh hlen
  subst h9
  unfold cvV at *
  obtain ⟨i0, hi0, hz0, hz1, hz2⟩ := info_parts info_str
  rcases hps with rfl | rfl | rfl | rfl
  all_goals
    go_enter Tryd.func17, Tryd.ntmps17
    go_wp2_with (first
      | (go_at_call 16; refine (hmay _).mono ?_; rintro e w1 ⟨rfl, hbm⟩; obtain ⟨k0, k1, k2, k3, k4, k5, k6⟩ := cells7 w _ _ _ _ _ _ _ _ (by simpa using hbm); have hB1 := (box_below w _).trans (hbm.mono (by simp)); have hlt1 : w.heap.size < w1.heap.size := (by have := hbm.size; simp at this; omega); clear hbm)
      | (go_at_call 43; refine (htold _).mono ?_; rintro e w2 ⟨⟨B, rfl, hrd⟩, hbt⟩; replace k0 := (hbt.cell (p := ⟨w.heap.size, 0, none⟩) hlt1).trans k0; replace k1 := (hbt.cell (p := ⟨w.heap.size, 1, none⟩) hlt1).trans k1; have hB2 := hB1.trans (hbt.mono hB1.size); have hlt2 := Nat.lt_of_lt_of_le hlt1 hbt.size; have HRD := Lib.hid hrd; clear hrd hbt hB1 hlt1 k2 k3 k4 k5 k6)
      | (at_builtin; refine wpList_append_grows _ rfl (.tmp 18) (.tmp 19) 57 rfl 9 i0 (.string ByteArray.empty) 1 16 Tryd.underlying57 hi0 hz0 hz1 hz2 rfl (by decide) (some ⟨B, 0, none⟩) _ _ (BS T) rfl (fun h => nomatch h) (by have := HRD.out.1; simpa using this) (rd_olds HRD.out _) ⟨w2.heap.size, 0, none⟩ 1 1 [.string ⟨#[42]⟩] rfl rfl ?c1 ?c2 (by omega) (by unfold maxLen; omega) (by omega) ?grow))
    case c1 => intro j u hj; match j, hj with | 0, hj => simp at hj; subst hj; simp [Addr.add, go_sem]
    case c2 => intro u hu; simp at hu; subst hu; rfl
    case grow =>
      intro v' w' hown hgrow
      obtain ⟨A, cap, rfl, hrd'⟩ := rd_own hown
      have hbs := bs_snoc T [42] ⟨#[42]⟩ rfl
      rw [hbs] at hrd'
      have hB3 : Below w.heap.size w (w2.alloc (.cells #[.string ⟨#[42]⟩] 9)) := hB2.alloc (by omega) _
      have hB4 := hB3.grown hgrow (by simp; omega) (fun k h => by cases h)
      have hjn := rjoin46 A _ cap _ (T ++ [[42]]) w' hrd' (Nat.le_refl _) (by decide) HJ.out
      go_wp2_with (go_at_call 44; refine hjn.mono ?_; rintro e w5 ⟨rfl, hb5⟩)
      go_ret
      refine ⟨?_, hB4.trans (hb5.mono hB4.size)⟩
      rw [hR.out]
      rfl

set_option maxRecDepth 8192 in
set_option maxHeartbeats 4000000 in
theorem rcprint_op (op ps a b c : Int) (p q : ByteArray) (w : World) (hp : p.size ≤ 1048576) (hq : q.size ≤ 1048576) (hm : mayC (cmpS op ps a b c p q) = true) (hps : ps = 0 ∨ ps = 1 ∨ ps = 2 ∨ ps = 3) (h9 : op ≠ 9) :
    Calls Tryd.prog 17 #[cvV op ps a b c p q] w fun e w' => e = .returned (.string ⟨(printC (cmpS op ps a b c p q)).toArray⟩) ∧ Below w.heap.size w w' := by
  have hmay := fun W => rcmay_any op ps a b c p q W hp hq
  have hR := Lib.hid (printC_yes hm)
  obtain ⟨-, hv, -⟩ := may_c hm
  obtain ⟨⟨ha0, ha1⟩, ⟨hb0, hb1⟩, ⟨hc0, hc1⟩⟩ := may_parts hv
  simp only [cmpS, verS] at ha0 ha1 hb0 hb1 hc0 hc1
  have hsh := told_short hm
  have hlen := told_len hm
  rw [hm] at hmay
  have htold := fun W => told_any op ps a b c p q W ha0 ha1 hb0 hb1 hc0 hc1 hps
  clear hm ha0 ha1 hb0 hb1 hc0 hc1 hv
  have hS : bodyC (cmpS op ps a b c p q) = joinL (toldL (cmpS op ps a b c p q)) 46 ++ segB 45 p.data.toList := rfl
  rw [show (cmpS op ps a b c p q).op = op from rfl, if_neg h9, hS] at hR
  rw [show (cmpS op ps a b c p q).parts = ps from rfl] at hlen
  clear hS
  generalize printC (cmpS op ps a b c p q) = R at *
  generalize toldL (cmpS op ps a b c p q) = T at *
  have hj : (joinL T 46).length ≤ 100 := by
    have h1 := join_small 46 T hsh
    omega
  have hln : T.length ≤ 3 := by omega
  have HJ := Lib.hid hj
  have hjs : (⟨(joinL T 46).toArray⟩ : ByteArray).size ≤ 100 := by rw [str_size]; exact hj
  have HJL : Hid ((⟨(joinL T 46).toArray⟩ : ByteArray).data.toList = joinL T 46) := by show _ = _; simp
  have hjn := fun (A : Option Addr) (c B : Nat) (W : World) (h : Rd W B A ps.toNat (BS T)) (hB : B ≤ W.heap.size) => rjoin46 A ps.toNat c B T W h hB (by omega) hj
  have HPS := Lib.hid hps
  clear hj hsh hlen hps
  have hop9 : (op == 9) = false := by simpa using h9
  have hss := sign_size op
  have hcs := fun W => rsign_any op W
  have HS := Lib.hid (sign_list op)
  generalize signS op = sg at *
  generalize (⟨(joinL T 46).toArray⟩ : ByteArray) = J at *
  have o1 : ¬ 9223372036854775807 < sg.size + J.size := by omega
  have o2 : ¬ 9223372036854775807 < sg.size + J.size + 1 := by omega
  have o3 : ¬ 9223372036854775807 < sg.size + J.size + 1 + p.size := by omega
  clear h9
  unfold cvV at *
  by_cases hp0 : p.size = 0
  all_goals
    first
      | (have hpe := Lib.hid (seg_no 45 hp0); have he1 := empty_str p hp0)
      | (have hpe := Lib.hid (seg_yes 45 hp0); obtain ⟨he1, he4⟩ := empty_no (s := p) (by omega))
    go_enter Tryd.func17, Tryd.ntmps17
    go_wp2_with (first
      | (go_at_call 16; refine (hmay _).mono ?_; rintro e w1 ⟨rfl, hbm⟩; obtain ⟨k0, k1, k2, k3, k4, k5, k6⟩ := cells7 w _ _ _ _ _ _ _ _ (by simpa using hbm); have hB1 := (box_below w _).trans (hbm.mono (by simp)); have hlt1 : w.heap.size < w1.heap.size := (by have := hbm.size; simp at this; omega); clear hbm)
      | (go_at_call 43; refine (htold _).mono ?_; rintro e w2 ⟨⟨B, rfl, hrd⟩, hbt⟩; replace k0 := (hbt.cell (p := ⟨w.heap.size, 0, none⟩) hlt1).trans k0; replace k5 := (hbt.cell (p := ⟨w.heap.size, 5, none⟩) hlt1).trans k5; have hB2 := hB1.trans (hbt.mono hB1.size); have hlt2 := Nat.lt_of_lt_of_le hlt1 hbt.size; have HRD := Lib.hid hrd; clear hrd hbt hB1 hlt1 k1 k2 k3 k4 k6)
      | (go_at_call 45; refine (hcs _).mono ?_; rintro e w3 ⟨rfl, rfl⟩)
      | (go_at_call 44; refine (hjn _ _ _ _ HRD.out (Nat.le_refl _)).mono ?_; rintro e w5 ⟨rfl, hb5⟩; replace k5 := (hb5.cell (p := ⟨w.heap.size, 5, none⟩) hlt2).trans k5; have hB3 := hB2.trans (hb5.mono hB2.size); clear hB2 hb5))
    all_goals
      go_ret
      refine ⟨str_ext ?_, by assumption⟩
      rw [hR.out, hpe.out]
      simp only [app_list, HS.out, HJL.out]
      simp

theorem rcprint_any (op ps a b c : Int) (p q : ByteArray) (w : World) (hp : p.size ≤ 1048576) (hq : q.size ≤ 1048576) :
    Calls Tryd.prog 17 #[cvV op ps a b c p q] w fun e w' => e = .returned (.string ⟨(printC (cmpS op ps a b c p q)).toArray⟩) ∧ Below w.heap.size w w' := by
  cases hm : mayC (cmpS op ps a b c p q)
  · have hmay := fun W => rcmay_any op ps a b c p q W hp hq
    rw [printC_no hm]
    rw [hm] at hmay
    unfold cvV at *
    go_enter Tryd.func17, Tryd.ntmps17
    go_wp2_with (go_at_call 16; refine (hmay _).mono ?_; rintro e w1 ⟨rfl, hb1⟩)
    go_ret
    exact ⟨rfl, (box_below w _).trans (hb1.mono (by simp))⟩
  · have hps := parts_c hm
    by_cases h9 : op = 9
    · exact rcprint_star op ps a b c p q w hp hq hm hps h9
    · exact rcprint_op op ps a b c p q w hp hq hm hps h9
end Go.Proofs.YthaagngoefieaaaDoor
