/-
  Merged parts, one behind another; each says ahead what it proves: CJoin CRPrint CBegins CPre CRSplit CPrAny CCaret.
-/
import Derived.Test.YthaagngoefieaaaDoorG2
import Derived.BigQuiet
import Derived.Deep.QuietTactic
import Derived.Test.YthaagngoefieaaaDoorCPrint
import Derived.Test.YthaagngoefieaaaDoorG3
import Derived.Test.YthaagngoefieaaaDoorG1

/-
  The walk of the reference's Join of chapter 1 (the same text stands in XIdJoin beside a walk that this seat's program has not). Conditions: the list reads as texts; their lengths are bounded.
-/
section
namespace Go.Proofs.YthaagngoefieaaaDoor
open Go.ChangeShapes Go.WideShapes Go.ChangeAt Go.RowKit
set_option linter.unusedVariables false

/-- What k texts are, joined. -/
def joinTo (ps : List (List UInt8)) (b : UInt8) (k : Nat) : List UInt8 := joinL (ps.take k) b
theorem joinTo_first (ps : List (List UInt8)) (b : UInt8) (p : List UInt8) (hp : ps[0]? = some p) : joinTo ps b 1 = p := by
  obtain ⟨hlt, rfl⟩ := List.getElem?_eq_some_iff.1 hp
  unfold joinTo
  rw [List.take_succ_eq_append_getElem hlt, joinL_snoc, if_pos (by simp)]
theorem joinTo_next (ps : List (List UInt8)) (b : UInt8) (k : Nat) (p : List UInt8) (hk : 0 < k) (hp : ps[k]? = some p) : joinTo ps b (k + 1) = joinTo ps b k ++ b :: p := by
  obtain ⟨hlt, rfl⟩ := List.getElem?_eq_some_iff.1 hp
  unfold joinTo
  rw [List.take_succ_eq_append_getElem hlt, joinL_snoc, if_neg]
  intro e
  have := congrArg List.length e
  rw [List.length_take, List.length_nil] at this
  omega
theorem joinTo_le (ps : List (List UInt8)) (b : UInt8) (k : Nat) (hk : k ≤ ps.length) : (joinTo ps b k).length ≤ (joinL ps b).length := by
  have h : ∀ j, k + j ≤ ps.length → (joinTo ps b k).length ≤ (joinTo ps b (k + j)).length := by
    intro j
    induction j with
    | zero => intro _; exact Nat.le_refl _
    | succ j ih =>
      intro hj
      have h1 := ih (by omega)
      have hp : ps[k + j]? = some (ps[k + j]'(by omega)) := List.getElem?_eq_getElem (by omega)
      by_cases h0 : k + j = 0
      · have : k = 0 := by omega
        subst this
        simp [joinTo, joinL]
      · have := joinTo_next ps b (k + j) _ (by omega) hp
        rw [← Nat.add_assoc, this, List.length_append]
        omega
  have := h (ps.length - k) (by omega)
  rw [show k + (ps.length - k) = ps.length from by omega] at this
  unfold joinTo at this ⊢
  rwa [List.take_length] at this
theorem conv_by (w : World) (c : Int) : (convert 92 9 (.slice (some ⟨w.heap.size, 0, none⟩) 1 1)).run Tryd.prog (w.alloc (.cells #[.int .u8 c] 5)) = .ok (.string (strOfNums [c])) (w.alloc (.cells #[.int .u8 c] 5)) := by
  refine run_convert_bytes_arg (P := Tryd.prog) _ 92 5 Tryd.underlying92 Tryd.underlying5 w.heap.size 0 1 1 [c] rfl (fun i hi => ?_) 9 Tryd.underlying9
  obtain rfl : i = 0 := by omega
  have := cell_one_new w (.int .u8 c) 5 0 _ rfl
  rw [add_plain] at this
  exact this
theorem mk_append (a b : List UInt8) : (⟨a.toArray⟩ : ByteArray) ++ ⟨b.toArray⟩ = ⟨(a ++ b).toArray⟩ := by
  apply ByteArray.ext
  rw [ByteArray.data_append]
  simp
theorem one_byte (b : UInt8) : strOfNums [(b.toNat : Int)] = ⟨[b].toArray⟩ := by
  apply ByteArray.ext
  apply Array.toList_inj.1
  rw [strOfNums_data]
  simp

set_option maxHeartbeats 2000000 in
theorem rjoin_any (A : Option Addr) (n c B : Nat) (ps : List (List UInt8)) (b : UInt8) (w : World) (h : Rd w B A n (BS ps)) (hB : B ≤ w.heap.size) (hn : n ≤ 1073741824) (hl : (joinL ps b).length ≤ 1073741824) :
    Calls Tryd.prog 44 #[.slice A n c, .int .u8 (b.toNat : Int)] w fun e w' => e = .returned (.string ⟨(joinL ps b).toArray⟩) ∧ Below w.heap.size w w' := by
  have hpl : ps.length = n := by have := h.1; rwa [bs_len] at this
  have HP := Lib.hid hpl
  have HL : Hid (∀ k, k ≤ n → (joinTo ps b k).length ≤ 1073741824) := fun k hk => Nat.le_trans (joinTo_le ps b k (by omega)) hl
  have H := Lib.hid h
  clear h hpl hl
  have hcv := conv_by
  go_enter Tryd.func44, Tryd.ntmps44
  go_wp2
  go_loopw [5, 6] (fun s i wr => ∃ k : Nat, k ≤ n ∧ i = .int .i64 k ∧ s = .string ⟨(joinTo ps b k).toArray⟩ ∧ Below w.heap.size w wr) (fun _ i _ => n - (intOf i).toNat)
  case atStart => exact ⟨0, by omega, rfl, rfl, Below.refl _ _⟩
  case round =>
    obtain ⟨k, hk, rfl, rfl, hbel⟩ := hrel
    have hln := HL.out k hk
    have hsz := hbel.size
    by_cases hlt : k < n
    · obtain ⟨bb, off, p, rfl, hbb, hp, hc⟩ := rds_cell (rd_below H.out (hbel.mono hB)) hlt
      have hln1 := HL.out (k + 1) (by omega)
      have hps := str_size p
      by_cases h0 : k = 0
      · subst h0
        have HJ := Lib.hid (joinTo_first ps b p hp)
        rw [HJ.out] at hln1
        have hc0 : wr.cell? ⟨bb, off, none⟩ = some (.string ⟨p.toArray⟩) := hc
        clear hc
        have HM := Lib.hid (mk_append (joinTo ps b 0) p)
        have hs0 := str_size (joinTo ps b 0)
        have hsa : (⟨(joinTo ps b 0).toArray⟩ : ByteArray).size ≤ 1073741824 := by omega
        have hsb : (⟨p.toArray⟩ : ByteArray).size ≤ 1073741824 := by omega
        clear hp hps hs0
        generalize (⟨p.toArray⟩ : ByteArray) = tp at *
        generalize (⟨(joinTo ps b 0).toArray⟩ : ByteArray) = tj at *
        go_wp2
        go_roundw
        case rel =>
          refine ⟨1, by omega, rfl, ?_, hbel⟩
          rw [HM.out, HJ.out]
          rfl
        case measure => simp [intOf]; omega
      · have HJ := Lib.hid (joinTo_next ps b k p (by omega) hp)
        rw [HJ.out, List.length_append, List.length_cons] at hln1
        have HM := Lib.hid (mk_append (joinTo ps b k) [b])
        have HM2 := Lib.hid (mk_append (joinTo ps b k ++ [b]) p)
        have hs0 := str_size (joinTo ps b k)
        have hsa : (⟨(joinTo ps b k).toArray⟩ : ByteArray).size ≤ 1073741824 := by omega
        have hsb : (⟨p.toArray⟩ : ByteArray).size ≤ 1073741824 := by omega
        have hs1 : (strOfNums [(b.toNat : Int)]).size = 1 := by rw [strOfNums_size]; rfl
        have HO := Lib.hid (one_byte b)
        have hkp : (0 : Int) < (k : Int) := by omega
        have hc1 : ∀ o : Obj, (wr.alloc o).cell? ⟨bb, off + k, none⟩ = some (.string ⟨p.toArray⟩) := fun o => (World.cell?_alloc_lt wr o _ (show bb < wr.heap.size by omega)).trans hc
        have hs2 : ((⟨(joinTo ps b k).toArray⟩ : ByteArray) ++ strOfNums [(b.toNat : Int)]).size ≤ 1073741825 := by
          rw [ByteArray.size_append, hs1]; omega
        clear hp hps hs0
        generalize (⟨p.toArray⟩ : ByteArray) = tp at *
        generalize (⟨(joinTo ps b k).toArray⟩ : ByteArray) = tj at *
        go_wp2
        go_roundw
        case rel =>
          refine ⟨k + 1, by omega, by go_num, ?_, hbel.alloc hsz _⟩
          rw [HO.out, HM.out, HM2.out, HJ.out, List.append_assoc]
          rfl
        case measure => simp [intOf]; omega
    · obtain rfl : k = n := by omega
      have HE : Hid (joinTo ps b k = joinL ps b) := by
        unfold joinTo
        rw [List.take_of_length_le (by rw [HP.out]; exact Nat.le_refl _)]
        rfl
      go_wp2
      go_ret
      exact ⟨by rw [← HE.out]; rfl, hbel⟩
end Go.Proofs.YthaagngoefieaaaDoor
end

/-
  The walks of chapter 6's reference told and Print. Conditions: Pre and Build have at most 1048576 bytes.
-/
section
namespace Go.Proofs.YthaagngoefieaaaDoor
open Go.ChangeShapes Go.WideShapes Go.ChangeAt Go.RowKit
set_option linter.unusedVariables false
set_option linter.unusedSimpArgs false

theorem keepT {w W W' : World} {x1 x2 x3 x4 : Value} (hb : Below W.heap.size W W')
    (h : W.cell? ⟨w.heap.size, 1, none⟩ = some x1 ∧ W.cell? ⟨w.heap.size, 2, none⟩ = some x2 ∧ W.cell? ⟨w.heap.size, 3, none⟩ = some x3 ∧ W.cell? ⟨w.heap.size, 4, none⟩ = some x4 ∧ w.heap.size < W.heap.size ∧ Below w.heap.size w W) :
    W'.cell? ⟨w.heap.size, 1, none⟩ = some x1 ∧ W'.cell? ⟨w.heap.size, 2, none⟩ = some x2 ∧ W'.cell? ⟨w.heap.size, 3, none⟩ = some x3 ∧ W'.cell? ⟨w.heap.size, 4, none⟩ = some x4 ∧ w.heap.size < W'.heap.size ∧ Below w.heap.size w W' := by
  obtain ⟨h1, h2, h3, h4, hlt, hB⟩ := h
  exact ⟨(hb.cell (p := ⟨_, 1, none⟩) hlt).trans h1, (hb.cell (p := ⟨_, 2, none⟩) hlt).trans h2, (hb.cell (p := ⟨_, 3, none⟩) hlt).trans h3, (hb.cell (p := ⟨_, 4, none⟩) hlt).trans h4, Nat.lt_of_lt_of_le hlt hb.size, hB.trans (hb.mono hB.size)⟩
theorem told_rd {W : World} {B : Nat} {x y z : ByteArray} {lx ly lz : List UInt8} (hx : x = ⟨lx.toArray⟩) (hy : y = ⟨ly.toArray⟩) (hz : z = ⟨lz.toArray⟩) (h0 : W.cell? ⟨B, 0, none⟩ = some (.string x)) (h1 : W.cell? ⟨B, 1, none⟩ = some (.string y)) (h2 : W.cell? ⟨B, 2, none⟩ = some (.string z)) (hB : B < W.heap.size) (n : Nat) (hn : n ≤ 3) :
    Rd W W.heap.size (some ⟨B, 0, none⟩) n (BS ([lx, ly, lz].take n)) := by
  subst hx hy hz
  refine ⟨by rw [bs_len, List.length_take]; simp; omega, fun _ => ⟨B, 0, rfl, hB, ?_⟩⟩
  intro j u hu
  have hj : j < 3 := by
    have := (List.getElem?_eq_some_iff.1 hu).1
    rw [bs_len, List.length_take] at this
    simp at this
    omega
  unfold BS at hu
  rw [List.getElem?_map, List.getElem?_take] at hu
  split at hu
  · rcases (show j = 0 ∨ j = 1 ∨ j = 2 by omega) with rfl | rfl | rfl
    · simp at hu; rw [← hu]; exact h0
    · simp at hu; rw [← hu]; exact h1
    · simp at hu; rw [← hu]; exact h2
  · simp at hu

/-- What told leaves in its slot: three texts in a block of their own. -/
def St3 (w : World) (x y z : ByteArray) (ps : Int) (s : Value) (W : World) : Prop :=
  ∃ B, s = .slice (some ⟨B, 0, none⟩) 3 3 ∧ W.cell? ⟨B, 0, none⟩ = some (.string x) ∧ W.cell? ⟨B, 1, none⟩ = some (.string y) ∧ W.cell? ⟨B, 2, none⟩ = some (.string z) ∧ B < W.heap.size ∧ W.cell? ⟨w.heap.size, 1, none⟩ = some (.int .i64 ps) ∧ Below w.heap.size w W
theorem st3_alloc {w W : World} {x y z : ByteArray} {ps : Int} {t : TypeId} {P2 P3 P4 P5 : Prop} (h : (W.alloc (.cells #[.string x, .string y, .string z] t)).cell? ⟨w.heap.size, 1, none⟩ = some (.int .i64 ps) ∧ P2 ∧ P3 ∧ P4 ∧ P5 ∧ Below w.heap.size w (W.alloc (.cells #[.string x, .string y, .string z] t))) :
    St3 w x y z ps (.slice (some ⟨W.heap.size, 0, none⟩) 3 3) (W.alloc (.cells #[.string x, .string y, .string z] t)) := by
  have hc := cells_below (cells_new W [.string x, .string y, .string z] t) (Nat.lt_succ_self _) (by simpa using Below.refl _ _)
  exact ⟨_, rfl, hc 0 _ rfl, hc 1 _ rfl, hc 2 _ rfl, by simp, h.1, h.2.2.2.2.2⟩

set_option maxRecDepth 8192 in
set_option maxHeartbeats 4000000 in
theorem told_any (op ps a b c : Int) (p q : ByteArray) (w : World) (ha0 : 0 ≤ a) (ha1 : a ≤ 9999) (hb0 : 0 ≤ b) (hb1 : b ≤ 9999) (hc0 : 0 ≤ c) (hc1 : c ≤ 9999) (hps : ps = 0 ∨ ps = 1 ∨ ps = 2 ∨ ps = 3) :
    Calls Tryd.prog 43 #[cvV op ps a b c p q] w fun e w' => (∃ B, e = .returned (.slice (some ⟨B, 0, none⟩) ps.toNat 3) ∧ Rd w' w'.heap.size (some ⟨B, 0, none⟩) ps.toNat (BS (toldL (cmpS op ps a b c p q)))) ∧ Below w.heap.size w w' := by
  have hTl : toldL (cmpS op ps a b c p q) = [Lib.itoa a, Lib.itoa b, Lib.itoa c].take ps.toNat := rfl
  rw [hTl]
  clear hTl
  unfold cvV
  obtain ⟨dg, hdg⟩ : ∃ dg : Int → ByteArray, dg = fun n => ⟨(Lib.itoa n).toArray⟩ := ⟨_, rfl⟩
  have hd : ∀ (n : Int) (W : World), 0 ≤ n → n ≤ 9999 → Calls Tryd.prog 75 #[.int .i64 n] W fun e w' => e = .returned (.string (dg n)) ∧ Below W.heap.size W w' := by
    subst hdg
    exact fun n W h0 h1 => rdigits_any n W (by omega) (by omega)
  have HA := Lib.hid (show dg a = ⟨(Lib.itoa a).toArray⟩ by rw [hdg])
  have HB := Lib.hid (show dg b = ⟨(Lib.itoa b).toArray⟩ by rw [hdg])
  have HC := Lib.hid (show dg c = ⟨(Lib.itoa c).toArray⟩ by rw [hdg])
  clear hdg
  generalize Lib.itoa a = la at *
  generalize Lib.itoa b = lb at *
  generalize Lib.itoa c = lc at *
  have HPS := Lib.hid hps
  clear hps
  go_enter Tryd.func43, Tryd.ntmps43
  go_wp2
  generalize hwb : w.alloc _ = wb
  have hbb : Below w.heap.size w wb := by rw [← hwb]; exact box_below _ _
  have hlb : w.heap.size < wb.heap.size := by rw [← hwb]; simp
  obtain ⟨k0, k1, k2, k3, k4, k5, k6⟩ := cells7 w (.int .i64 op) (.int .i64 ps) (.int .i64 a) (.int .i64 b) (.int .i64 c) (.string p) (.string q) _ (w1 := wb) (by rw [← hwb]; exact Below.refl _ _)
  clear hwb k0 k5 k6
  have hB2 : Below w.heap.size w wb.drew := below_drewN hbb 1
  go_cut [3] from 3 to 16 (fun s wx => St3 w (dg a) (dg b) (dg c) ps s wx)
  case first =>
    go_region_held3 (fun W => W.cell? ⟨w.heap.size, 1, none⟩ = some (.int .i64 ps) ∧ W.cell? ⟨w.heap.size, 2, none⟩ = some (.int .i64 a) ∧ W.cell? ⟨w.heap.size, 3, none⟩ = some (.int .i64 b) ∧ W.cell? ⟨w.heap.size, 4, none⟩ = some (.int .i64 c) ∧ w.heap.size < W.heap.size ∧ Below w.heap.size w W)
      (first | ((refine keepT hb' ?_; assumption)) | ((refine keepT (box_below _ _) ?_; assumption)) | assumption | ((refine ⟨?_, ?_, ?_, ?_, ?_, ?_⟩ <;> first | assumption | (simp; assumption))))
      (first | (go_at_call 75; refine (hd _ _ ?_ ?_).mono ?_; assumption; assumption; rintro e w' ⟨rfl, hb'⟩))
    all_goals
      go_wp2_with fail
      go_meet
      exact st3_alloc (by assumption)
  case rest =>
    obtain ⟨B, rfl, j0, j1, j2, hlB, k1, hB⟩ := hcut
    have hR := Lib.hid (told_rd HA.out HB.out HC.out j0 j1 j2 hlB)
    clear j0 j1 j2 hd HA HB HC
    rcases HPS.out with rfl | rfl | rfl | rfl
    all_goals
      go_wp2
      go_ret
      exact ⟨⟨B, rfl, hR.out _ (by decide)⟩, hB⟩

theorem parts_c {op ps a b c : Int} {p q : ByteArray} (hm : mayC (cmpS op ps a b c p q) = true) : ps = 0 ∨ ps = 1 ∨ ps = 2 ∨ ps = 3 := by
  obtain ⟨-, -, -, ⟨h1, h2⟩, -⟩ := may_c hm
  simp only [cmpS] at h1 h2
  unfold leastC at h1
  unfold mostC at h2
  by_cases h9 : op = 9
  · rw [if_pos h9] at h1 h2; omega
  · rw [if_neg h9] at h1 h2; omega
theorem told_short {op ps a b c : Int} {p q : ByteArray} (hm : mayC (cmpS op ps a b c p q) = true) : ∀ x ∈ toldL (cmpS op ps a b c p q), x.length ≤ 20 := by
  obtain ⟨-, hv, -⟩ := may_c hm
  obtain ⟨⟨ha0, ha1⟩, ⟨hb0, hb1⟩, ⟨hc0, hc1⟩⟩ := may_parts hv
  simp only [cmpS, verS] at ha0 ha1 hb0 hb1 hc0 hc1
  intro x hx
  have hx := List.mem_of_mem_take hx
  simp only [cmpS, verS, List.mem_cons, List.not_mem_nil, or_false] at hx
  rcases hx with rfl | rfl | rfl
  · exact itoa_len ha0 ha1
  · exact itoa_len hb0 hb1
  · exact itoa_len hc0 hc1
theorem join_small (b : UInt8) : ∀ l : List (List UInt8), (∀ x ∈ l, x.length ≤ 20) → (joinL l b).length ≤ 21 * l.length
  | [], _ => by simp [joinL]
  | [x], h => by
    have h0 := h x (by simp)
    have h1 : joinL [x] b = x := by simp [joinL]
    rw [h1]
    simp
    omega
  | x :: y :: r, h => by
    have h0 := h x (by simp)
    have h1 := join_small b (y :: r) (fun z hz => h z (by simp at hz ⊢; exact .inr hz))
    rw [joinL_cons, List.length_append, List.length_cons]
    simp only [List.length_cons] at h1 ⊢
    omega
theorem rjoin46 (A : Option Addr) (n c B : Nat) (ps : List (List UInt8)) (w : World) (h : Rd w B A n (BS ps)) (hB : B ≤ w.heap.size) (hn : n ≤ 4) (hl : (joinL ps 46).length ≤ 100) :
    Calls Tryd.prog 44 #[.slice A n c, .int .u8 46] w fun e w' => e = .returned (.string ⟨(joinL ps 46).toArray⟩) ∧ Below w.heap.size w w' :=
  rjoin_any A n c B ps 46 w h hB (by omega) (by omega)

theorem rd_olds {W : World} {B n : Nat} {xs : List Value} (h : Rd W W.heap.size (some ⟨B, 0, none⟩) n xs) (o : Obj) : ∀ b, some (⟨B, 0, none⟩ : Addr) = some b → ∀ j u, xs[j]? = some u → (W.alloc o).drew.cell? (b.add j) = some u := by
  rintro b e j u hu
  obtain rfl := Option.some.inj e
  have hj := (List.getElem?_eq_some_iff.1 hu).1
  obtain ⟨b', off', e', hlt, hc⟩ := h.2 (by have := h.1; omega)
  injection e' with e'
  injection e' with e1 e2
  subst e1 e2
  have hb : Below W.heap.size W (W.alloc o).drew := below_drewN (box_below W o) 1
  rw [add_plain]
  exact (hb.cell (p := ⟨B, 0 + j, none⟩) hlt).trans (hc j u hu)

set_option maxRecDepth 8192 in
set_option maxHeartbeats 4000000 in
theorem rcprint_star (op ps a b c : Int) (p q : ByteArray) (w : World) (hp : p.size ≤ 1048576) (hq : q.size ≤ 1048576) (hm : mayC (cmpS op ps a b c p q) = true) (hps : ps = 0 ∨ ps = 1 ∨ ps = 2 ∨ ps = 3) (h9 : op = 9) :
    Calls Tryd.prog 17 #[cvV op ps a b c p q] w fun e w' => e = .returned (.string ⟨(printC (cmpS op ps a b c p q)).toArray⟩) ∧ Below w.heap.size w w' := by
  have hmay := fun W => rcmay_any op ps a b c p q W hp hq
  have hR := Lib.hid (printC_yes hm)
  obtain ⟨-, hv, -⟩ := may_c hm
  obtain ⟨⟨ha0, ha1⟩, ⟨hb0, hb1⟩, ⟨hc0, hc1⟩⟩ := may_parts hv
  simp only [cmpS, verS] at ha0 ha1 hb0 hb1 hc0 hc1
  have hsh := told_short hm
  have hlen := told_len hm
  rw [hm] at hmay
  have htold := fun W => told_any op ps a b c p q W ha0 ha1 hb0 hb1 hc0 hc1 hps
  clear hm ha0 ha1 hb0 hb1 hc0 hc1 hv
  have hS : starC (cmpS op ps a b c p q) = joinL (toldL (cmpS op ps a b c p q) ++ [[42]]) 46 := rfl
  rw [show (cmpS op ps a b c p q).op = op from rfl, if_pos h9, hS] at hR
  rw [show (cmpS op ps a b c p q).parts = ps from rfl] at hlen
  clear hS
  generalize printC (cmpS op ps a b c p q) = R at *
  generalize toldL (cmpS op ps a b c p q) = T at *
  have hj : (joinL (T ++ [[42]]) 46).length ≤ 100 := by
    have h1 := join_small 46 (T ++ [[42]]) (by
      intro x hx
      simp only [List.mem_append, List.mem_cons, List.not_mem_nil, or_false] at hx
      rcases hx with hx | rfl
      · exact hsh x hx
      · decide)
    rw [List.length_append] at h1
    simp only [List.length_cons, List.length_nil] at h1
    omega
  have hln : T.length ≤ 3 := by omega
  have HJ := Lib.hid hj
  have HT := Lib.hid hlen
  clear hj hsh hlen
  subst h9
  unfold cvV at *
  obtain ⟨i0, hi0, hz0, hz1, hz2⟩ := info_parts info_str
  rcases hps with rfl | rfl | rfl | rfl
  all_goals
    go_enter Tryd.func17, Tryd.ntmps17
    go_wp2_with (first
      | (go_at_call 16; refine (hmay _).mono ?_; rintro e w1 ⟨rfl, hbm⟩; obtain ⟨k0, k1, k2, k3, k4, k5, k6⟩ := cells7 w _ _ _ _ _ _ _ _ (by simpa using hbm); have hB1 := (box_below w _).trans (hbm.mono (by simp)); have hlt1 : w.heap.size < w1.heap.size := (by have := hbm.size; simp at this; omega); clear hbm)
      | (go_at_call 43; refine (htold _).mono ?_; rintro e w2 ⟨⟨B, rfl, hrd⟩, hbt⟩; replace k0 := (hbt.cell (p := ⟨w.heap.size, 0, none⟩) hlt1).trans k0; replace k1 := (hbt.cell (p := ⟨w.heap.size, 1, none⟩) hlt1).trans k1; have hB2 := hB1.trans (hbt.mono hB1.size); have hlt2 := Nat.lt_of_lt_of_le hlt1 hbt.size; have HRD := Lib.hid hrd; clear hrd hbt hB1 hlt1 k2 k3 k4 k5 k6)
      | (at_builtin; refine wpList_append_grows _ rfl (.tmp 18) (.tmp 19) 57 rfl 9 i0 (.string ByteArray.empty) 1 16 Tryd.underlying57 hi0 hz0 hz1 hz2 rfl (by decide) (some ⟨B, 0, none⟩) _ _ (BS T) rfl (fun h => nomatch h) (by have := HRD.out.1; simpa using this) (rd_olds HRD.out _) ⟨w2.heap.size, 0, none⟩ 1 1 [.string ⟨#[42]⟩] rfl rfl ?c1 ?c2 (by omega) (by unfold maxLen; omega) (by omega) ?grow))
    case c1 => intro j u hj; match j, hj with | 0, hj => simp at hj; subst hj; simp [Addr.add, go_sem]
    case c2 => intro u hu; simp at hu; subst hu; rfl
    case grow =>
      intro v' w' hown hgrow
      obtain ⟨A, cap, rfl, hrd'⟩ := rd_own hown
      have hbs := bs_snoc T [42] ⟨#[42]⟩ rfl
      rw [hbs] at hrd'
      have hB3 : Below w.heap.size w (w2.alloc (.cells #[.string ⟨#[42]⟩] 9)) := hB2.alloc (by omega) _
      have hB4 := hB3.grown hgrow (by simp; omega) (fun k h => by cases h)
      have hjn := rjoin46 A _ cap _ (T ++ [[42]]) w' hrd' (Nat.le_refl _) (by decide) HJ.out
      go_wp2_with (go_at_call 44; refine hjn.mono ?_; rintro e w5 ⟨rfl, hb5⟩)
      go_ret
      refine ⟨?_, hB4.trans (hb5.mono hB4.size)⟩
      rw [hR.out]
      rfl

set_option maxRecDepth 8192 in
set_option maxHeartbeats 4000000 in
theorem rcprint_op (op ps a b c : Int) (p q : ByteArray) (w : World) (hp : p.size ≤ 1048576) (hq : q.size ≤ 1048576) (hm : mayC (cmpS op ps a b c p q) = true) (hps : ps = 0 ∨ ps = 1 ∨ ps = 2 ∨ ps = 3) (h9 : op ≠ 9) :
    Calls Tryd.prog 17 #[cvV op ps a b c p q] w fun e w' => e = .returned (.string ⟨(printC (cmpS op ps a b c p q)).toArray⟩) ∧ Below w.heap.size w w' := by
  have hmay := fun W => rcmay_any op ps a b c p q W hp hq
  have hR := Lib.hid (printC_yes hm)
  obtain ⟨-, hv, -⟩ := may_c hm
  obtain ⟨⟨ha0, ha1⟩, ⟨hb0, hb1⟩, ⟨hc0, hc1⟩⟩ := may_parts hv
  simp only [cmpS, verS] at ha0 ha1 hb0 hb1 hc0 hc1
  have hsh := told_short hm
  have hlen := told_len hm
  rw [hm] at hmay
  have htold := fun W => told_any op ps a b c p q W ha0 ha1 hb0 hb1 hc0 hc1 hps
  clear hm ha0 ha1 hb0 hb1 hc0 hc1 hv
  have hS : bodyC (cmpS op ps a b c p q) = joinL (toldL (cmpS op ps a b c p q)) 46 ++ segB 45 p.data.toList := rfl
  rw [show (cmpS op ps a b c p q).op = op from rfl, if_neg h9, hS] at hR
  rw [show (cmpS op ps a b c p q).parts = ps from rfl] at hlen
  clear hS
  generalize printC (cmpS op ps a b c p q) = R at *
  generalize toldL (cmpS op ps a b c p q) = T at *
  have hj : (joinL T 46).length ≤ 100 := by
    have h1 := join_small 46 T hsh
    omega
  have hln : T.length ≤ 3 := by omega
  have HJ := Lib.hid hj
  have hjs : (⟨(joinL T 46).toArray⟩ : ByteArray).size ≤ 100 := by rw [str_size]; exact hj
  have HJL : Hid ((⟨(joinL T 46).toArray⟩ : ByteArray).data.toList = joinL T 46) := by show _ = _; simp
  have hjn := fun (A : Option Addr) (c B : Nat) (W : World) (h : Rd W B A ps.toNat (BS T)) (hB : B ≤ W.heap.size) => rjoin46 A ps.toNat c B T W h hB (by omega) hj
  have HPS := Lib.hid hps
  clear hj hsh hlen hps
  have hop9 : (op == 9) = false := by simpa using h9
  have hss := sign_size op
  have hcs := fun W => rsign_any op W
  have HS := Lib.hid (sign_list op)
  generalize signS op = sg at *
  generalize (⟨(joinL T 46).toArray⟩ : ByteArray) = J at *
  have o1 : ¬ 9223372036854775807 < sg.size + J.size := by omega
  have o2 : ¬ 9223372036854775807 < sg.size + J.size + 1 := by omega
  have o3 : ¬ 9223372036854775807 < sg.size + J.size + 1 + p.size := by omega
  clear h9
  unfold cvV at *
  by_cases hp0 : p.size = 0
  all_goals
    first
      | (have hpe := Lib.hid (seg_no 45 hp0); have he1 := empty_str p hp0)
      | (have hpe := Lib.hid (seg_yes 45 hp0); obtain ⟨he1, he4⟩ := empty_no (s := p) (by omega))
    go_enter Tryd.func17, Tryd.ntmps17
    go_wp2_with (first
      | (go_at_call 16; refine (hmay _).mono ?_; rintro e w1 ⟨rfl, hbm⟩; obtain ⟨k0, k1, k2, k3, k4, k5, k6⟩ := cells7 w _ _ _ _ _ _ _ _ (by simpa using hbm); have hB1 := (box_below w _).trans (hbm.mono (by simp)); have hlt1 : w.heap.size < w1.heap.size := (by have := hbm.size; simp at this; omega); clear hbm)
      | (go_at_call 43; refine (htold _).mono ?_; rintro e w2 ⟨⟨B, rfl, hrd⟩, hbt⟩; replace k0 := (hbt.cell (p := ⟨w.heap.size, 0, none⟩) hlt1).trans k0; replace k5 := (hbt.cell (p := ⟨w.heap.size, 5, none⟩) hlt1).trans k5; have hB2 := hB1.trans (hbt.mono hB1.size); have hlt2 := Nat.lt_of_lt_of_le hlt1 hbt.size; have HRD := Lib.hid hrd; clear hrd hbt hB1 hlt1 k1 k2 k3 k4 k6)
      | (go_at_call 45; refine (hcs _).mono ?_; rintro e w3 ⟨rfl, rfl⟩)
      | (go_at_call 44; refine (hjn _ _ _ _ HRD.out (Nat.le_refl _)).mono ?_; rintro e w5 ⟨rfl, hb5⟩; replace k5 := (hb5.cell (p := ⟨w.heap.size, 5, none⟩) hlt2).trans k5; have hB3 := hB2.trans (hb5.mono hB2.size); clear hB2 hb5))
    all_goals
      go_ret
      refine ⟨str_ext ?_, by assumption⟩
      rw [hR.out, hpe.out]
      simp only [app_list, HS.out, HJL.out]
      simp

theorem rcprint_any (op ps a b c : Int) (p q : ByteArray) (w : World) (hp : p.size ≤ 1048576) (hq : q.size ≤ 1048576) :
    Calls Tryd.prog 17 #[cvV op ps a b c p q] w fun e w' => e = .returned (.string ⟨(printC (cmpS op ps a b c p q)).toArray⟩) ∧ Below w.heap.size w w' := by
  cases hm : mayC (cmpS op ps a b c p q)
  · have hmay := fun W => rcmay_any op ps a b c p q W hp hq
    rw [printC_no hm]
    rw [hm] at hmay
    unfold cvV at *
    go_enter Tryd.func17, Tryd.ntmps17
    go_wp2_with (go_at_call 16; refine (hmay _).mono ?_; rintro e w1 ⟨rfl, hb1⟩)
    go_ret
    exact ⟨rfl, (box_below w _).trans (hb1.mono (by simp))⟩
  · have hps := parts_c hm
    by_cases h9 : op = 9
    · exact rcprint_star op ps a b c p q w hp hq hm hps h9
    · exact rcprint_op op ps a b c p q w hp hq hm hps h9
end Go.Proofs.YthaagngoefieaaaDoor
end

/-
  The walks of chapter 6's begins, the program's and the reference's. Conditions: none.
-/
section
namespace Go.Proofs.YthaagngoefieaaaDoor
open Go.ChangeShapes Go.WideShapes Go.ChangeAt Go.RowKit
set_option linter.unusedVariables false
set_option linter.unusedSimpArgs false

theorem begins_no {s t : ByteArray} (h : s.size < t.size) : t.data.toList.isPrefixOf s.data.toList = false := by
  rw [Bool.eq_false_iff, ne_eq, List.isPrefixOf_iff_prefix]
  intro hp
  have := hp.length_le
  rw [len_size, len_size] at this
  omega
theorem begins_is {s t : ByteArray} (h : t.size ≤ s.size) : ((s.extract 0 t.size).toList == t.toList) = t.data.toList.isPrefixOf s.data.toList := by
  rw [Bool.eq_iff_iff, List.isPrefixOf_iff_prefix, beq_iff_eq, List.prefix_iff_eq_take, len_size, Lib.toList_data, Lib.toList_data, ext_list, List.drop_zero]
  exact ⟨Eq.symm, Eq.symm⟩
theorem begins_any (s t : ByteArray) (w : World) (hs : s.size ≤ 1048577) (ht : t.size ≤ 1048577) :
    Calls Tryd.prog 65 #[.string s, .string t] w fun e w' => e = .returned (.bool (t.data.toList.isPrefixOf s.data.toList)) ∧ w = w' := by
  by_cases h : t.size ≤ s.size
  · have hb := Lib.hid (begins_is h)
    have h' : (t.size : Int) ≤ (s.size : Int) := by omega
    go_enter Tryd.func65, Tryd.ntmps65
    go_wp2
    go_ret
    exact ⟨ret_bool hb.out, rfl⟩
  · rw [begins_no (by omega)]
    have h' : ¬ (t.size : Int) ≤ (s.size : Int) := by omega
    go_enter Tryd.func65, Tryd.ntmps65
    go_wp2
    go_ret
    exact ⟨rfl, rfl⟩
theorem rbegins_any (s t : ByteArray) (w : World) (hs : s.size ≤ 1048577) (ht : t.size ≤ 1048577) :
    Calls Tryd.prog 67 #[.string s, .string t] w fun e w' => e = .returned (.bool (t.data.toList.isPrefixOf s.data.toList)) ∧ w = w' := by
  by_cases h : t.size ≤ s.size
  · have hb := Lib.hid (begins_is h)
    have h' : (t.size : Int) ≤ (s.size : Int) := by omega
    go_enter Tryd.func67, Tryd.ntmps67
    go_wp2
    go_ret
    exact ⟨ret_bool hb.out, rfl⟩
  · rw [begins_no (by omega)]
    have h' : ¬ (t.size : Int) ≤ (s.size : Int) := by omega
    go_enter Tryd.func67, Tryd.ntmps67
    go_wp2
    go_ret
    exact ⟨rfl, rfl⟩
end Go.Proofs.YthaagngoefieaaaDoor
end

/-
  A text parted at its first sign of a Pre: facts (some stand in XVParts beside walks that this seat's program has not), and the walk of chapter 6's reference pre. Conditions: the text's size.
-/
section
namespace Go.Proofs.YthaagngoefieaaaDoor
open Go.ChangeShapes Go.WideShapes Go.ChangeAt Go.RowKit
set_option linter.unusedVariables false

theorem cut_at {l : List UInt8} {c : UInt8} {k : Nat} (h : l[k]? = some c) (h0 : (l.take k).all (· != c) = true) : aheadL l c = l.take k ∧ fromL l c = l.drop k := by
  induction l generalizing k with
  | nil => simp at h
  | cons x l ih =>
    cases k with
    | zero =>
      simp at h
      subst h
      simp [aheadL, fromL]
    | succ k =>
      rw [List.take_succ_cons, List.all_cons, Bool.and_eq_true] at h0
      obtain ⟨a, b⟩ := ih (by simpa using h) h0.2
      unfold aheadL fromL at *
      rw [List.takeWhile_cons, List.dropWhile_cons, h0.1]
      simp [a, b]
theorem ahead_le (l : List UInt8) (c : UInt8) : (aheadL l c).length ≤ l.length := by
  unfold aheadL
  exact List.Sublist.length_le (List.takeWhile_sublist _)
theorem ahead_from (l : List UInt8) (c : UInt8) : aheadL l c ++ fromL l c = l := List.takeWhile_append_dropWhile

/-- What stands ahead of the first c, and what behind it. -/
def Behind (s : ByteArray) (c : UInt8) (x y : ByteArray) : Prop := x.data.toList = (fromL s.data.toList c).tail ∧ y.data.toList = aheadL s.data.toList c

theorem behind_at {s : ByteArray} {c : UInt8} {k : Nat} (h : k < s.size) (hc : s[k] = c) (h0 : (s.data.toList.take k).all (· != c) = true) : Behind s c (s.extract (k + 1) s.size) (s.extract 0 k) := by
  have hb := byte_some s k h
  rw [hc] at hb
  obtain ⟨a, b⟩ := cut_at hb h0
  unfold Behind
  rw [a, b, ext_list, ext_list, List.drop_zero, List.take_of_length_le (by rw [len_size]; exact Nat.le_refl _), List.tail_drop]
  exact ⟨rfl, rfl⟩
theorem behind_none {s : ByteArray} {c : UInt8} (h0 : (s.data.toList.take s.size).all (· != c) = true) : Behind s c ⟨#[]⟩ s := by
  rw [List.take_of_length_le (by rw [len_size]; exact Nat.le_refl _)] at h0
  obtain ⟨a, b⟩ := cut_none h0
  unfold Behind
  rw [a, b]
  exact ⟨rfl, rfl⟩
theorem ne_step {s : ByteArray} {c : UInt8} {k : Nat} (h : k < s.size) (h0 : (s.data.toList.take k).all (· != c) = true) (hc : s[k] ≠ c) : (s.data.toList.take (k + 1)).all (· != c) = true :=
  all_take_succ (byte_some s k h) h0 (by simp [hc])

set_option maxHeartbeats 1000000 in
theorem rpre_any (s : ByteArray) (w : World) (hs : s.size ≤ maxLen) :
    Calls Tryd.prog 36 #[.string s] w fun e w' => (∃ x y, e = .returned (.tuple #[.string y, .string x]) ∧ Behind s 45 x y) ∧ Below w.heap.size w w' := by
  unfold maxLen at hs
  go_enter Tryd.func36, Tryd.ntmps36
  go_wp2
  go_loop [4] (fun i => ∃ k : Nat, k ≤ s.size ∧ i = .int .i64 k ∧ (s.data.toList.take k).all (· != 45) = true) (fun i => s.size - (intOf i).toNat)
  case atStart => exact ⟨0, by omega, rfl, rfl⟩
  case round =>
    obtain ⟨k, hk, rfl, hp⟩ := hrel
    have HQ := Lib.hid hp
    clear hp
    by_cases hlt : k < s.size
    · by_cases hc : s[k] = 45
      · have HF := Lib.hid (behind_at hlt hc HQ.out)
        have hbb : ((s[k].toNat : Int) == 45) = true := by simp [hc]
        clear hc
        go_wp2
        go_quiet (fail)
        go_wp2
        go_ret2
        exact ⟨⟨_, _, rfl, HF.out⟩, below_drewN (Below.refl _ _) _⟩
      · have HP := Lib.hid (ne_step hlt HQ.out hc)
        have hbb : ((s[k].toNat : Int) == 45) = false := by
          rw [beq_eq_false_iff_ne]
          exact fun e => hc (UInt8.toNat_inj.1 (by show _ = 45; omega))
        clear hc
        go_wp2
        go_round
        case rel => exact ⟨k + 1, by omega, by go_num, HP.out⟩
        case measure => simp [intOf]; omega
    · obtain rfl : k = s.size := by omega
      have HE := Lib.hid (behind_none HQ.out)
      go_wp2
      go_ret2
      exact ⟨⟨_, _, rfl, HE.out⟩, Below.refl _ _⟩
end Go.Proofs.YthaagngoefieaaaDoor
end

/-
  The walk of chapter 6's reference split. Conditions: the text's size.
-/
section
namespace Go.Proofs.YthaagngoefieaaaDoor
open Go.ChangeShapes Go.WideShapes Go.ChangeAt Go.RowKit
set_option linter.unusedVariables false
set_option linter.unusedSimpArgs false

theorem sign_fits {op : Int} {s : ByteArray} (h : (signL op).isPrefixOf s.data.toList = true) : (signS op).size ≤ s.size := by
  rw [List.isPrefixOf_iff_prefix] at h
  have := h.length_le
  rw [len_size] at this
  unfold signS
  rw [str_size]
  exact this
theorem sign_rest (op : Int) (s : ByteArray) : (s.extract (signS op).size s.size).data.toList = s.data.toList.drop (signL op).length := by
  rw [ext_list, List.take_of_length_le (by rw [len_size]; exact Nat.le_refl _)]
  unfold signS
  rw [str_size]
/-- The order in which the signs are tried. -/
def ordS : List Int := [2, 4, 6, 1, 3, 5, 7, 8]
def opAt (k : Nat) : Int := ordS.getD k 0
theorem op_at {k : Nat} (h : k < 8) : ordS[k]? = some (opAt k) := by
  rcases (show k = 0 ∨ k = 1 ∨ k = 2 ∨ k = 3 ∨ k = 4 ∨ k = 5 ∨ k = 6 ∨ k = 7 by omega) with rfl | rfl | rfl | rfl | rfl | rfl | rfl | rfl <;> rfl
/-- None of the first k signs. -/
def NoSign (l : List UInt8) (k : Nat) : Prop := ∀ j, j < k → (signL (opAt j)).isPrefixOf l = false
theorem nosign_succ {l : List UInt8} {k : Nat} (h : NoSign l k) (hk : (signL (opAt k)).isPrefixOf l = false) : NoSign l (k + 1) := by
  intro j hj
  rcases Nat.lt_succ_iff_lt_or_eq.1 hj with h1 | rfl
  · exact h j h1
  · exact hk
theorem signof_at {l : List UInt8} {k : Nat} (h : NoSign l k) (hk : k < 8) (hp : (signL (opAt k)).isPrefixOf l = true) : signOf l = opAt k := by
  have n : ∀ j, j < k → ¬ (signL (opAt j)).isPrefixOf l = true := fun j hj => by rw [h j hj]; decide
  unfold signOf
  rcases (show k = 0 ∨ k = 1 ∨ k = 2 ∨ k = 3 ∨ k = 4 ∨ k = 5 ∨ k = 6 ∨ k = 7 by omega) with rfl | rfl | rfl | rfl | rfl | rfl | rfl | rfl
  · exact (if_pos hp).trans rfl
  · exact (if_neg (n 0 (by omega))).trans ((if_pos hp).trans rfl)
  · exact (if_neg (n 0 (by omega))).trans ((if_neg (n 1 (by omega))).trans ((if_pos hp).trans rfl))
  · exact (if_neg (n 0 (by omega))).trans ((if_neg (n 1 (by omega))).trans ((if_neg (n 2 (by omega))).trans ((if_pos hp).trans rfl)))
  · exact (if_neg (n 0 (by omega))).trans ((if_neg (n 1 (by omega))).trans ((if_neg (n 2 (by omega))).trans ((if_neg (n 3 (by omega))).trans ((if_pos hp).trans rfl))))
  · exact (if_neg (n 0 (by omega))).trans ((if_neg (n 1 (by omega))).trans ((if_neg (n 2 (by omega))).trans ((if_neg (n 3 (by omega))).trans ((if_neg (n 4 (by omega))).trans ((if_pos hp).trans rfl)))))
  · exact (if_neg (n 0 (by omega))).trans ((if_neg (n 1 (by omega))).trans ((if_neg (n 2 (by omega))).trans ((if_neg (n 3 (by omega))).trans ((if_neg (n 4 (by omega))).trans ((if_neg (n 5 (by omega))).trans ((if_pos hp).trans rfl))))))
  · exact (if_neg (n 0 (by omega))).trans ((if_neg (n 1 (by omega))).trans ((if_neg (n 2 (by omega))).trans ((if_neg (n 3 (by omega))).trans ((if_neg (n 4 (by omega))).trans ((if_neg (n 5 (by omega))).trans ((if_neg (n 6 (by omega))).trans ((if_pos hp).trans rfl)))))))
theorem signof_none {l : List UInt8} (h : NoSign l 8) : signOf l = 9 := by
  have n : ∀ j, j < 8 → ¬ (signL (opAt j)).isPrefixOf l = true := fun j hj => by rw [h j hj]; decide
  unfold signOf
  exact (if_neg (n 0 (by omega))).trans ((if_neg (n 1 (by omega))).trans ((if_neg (n 2 (by omega))).trans ((if_neg (n 3 (by omega))).trans ((if_neg (n 4 (by omega))).trans ((if_neg (n 5 (by omega))).trans ((if_neg (n 6 (by omega))).trans ((if_neg (n 7 (by omega))).trans (rfl))))))))

/-- What the reference's split gives. -/
def SplitR (s : ByteArray) (e : Ending) : Prop :=
  ∃ op y, e = .returned (.tuple #[.int .i64 op, .string y]) ∧ ((op ≠ 9 ∧ signOf s.data.toList = op ∧ y.data.toList = s.data.toList.drop (signL op).length) ∨ (signOf s.data.toList = 9 ∧ y = s ∧ op = if s.data.toList.getLast? = some 42 then 9 else 7))

set_option maxHeartbeats 2000000 in
theorem rsplit6_any (s : ByteArray) (w : World) (hs : s.size ≤ 1048577) :
    Calls Tryd.prog 35 #[.string s] w fun e w' => SplitR s e ∧ Below w.heap.size w w' := by
  go_enter Tryd.func35, Tryd.ntmps35
  go_wp2
  generalize hW : w.alloc _ = W
  have hB : Below w.heap.size w W := by rw [← hW]; exact box_below _ _
  have hC : ∀ j u, (ordS.map (fun x => Value.int .i64 x))[j]? = some u → W.cell? ⟨w.heap.size, j, none⟩ = some u := by
    rw [← hW]
    exact fun j u hu => cells_below (cells_new w (ordS.map (fun x => Value.int .i64 x)) 3) (Nat.lt_succ_self _) (Below.refl _ _) j u hu
  have HC := Lib.hid hC
  clear hW hC
  go_loop [5, 6] (fun i _ => ∃ k : Nat, k ≤ 8 ∧ i = .int .i64 k ∧ NoSign s.data.toList k) (fun i _ => 8 - (intOf i).toNat)
  case atStart => exact ⟨0, by omega, rfl, fun j hj => absurd hj (by omega)⟩
  case round =>
    obtain ⟨k, hk, rfl, hn⟩ := hrel
    have HN := Lib.hid hn
    clear hn
    by_cases hlt : k < 8
    · have hc : W.cell? ⟨w.heap.size, k, none⟩ = some (.int .i64 (opAt k)) := HC.out k _ (by rw [List.getElem?_map, op_at hlt]; rfl)
      have i1 : (k : Int) < 8 := by omega
      have cb := fun V => rbegins_any s (signS (opAt k)) V hs (Nat.le_trans (sign_size _) (by omega))
      rw [sign_list] at cb
      have HP := Lib.hid (show opAt k ≠ 9 by
        rcases (show k = 0 ∨ k = 1 ∨ k = 2 ∨ k = 3 ∨ k = 4 ∨ k = 5 ∨ k = 6 ∨ k = 7 by omega) with rfl | rfl | rfl | rfl | rfl | rfl | rfl | rfl <;> decide)
      have cs := fun V => rsign_any (opAt k) V
      have hsz := sign_size (opAt k)
      cases hb : (signL (opAt k)).isPrefixOf s.data.toList
      · have HQ := Lib.hid (nosign_succ HN.out hb)
        rw [hb] at cb
        clear hb
        generalize signS (opAt k) = g at *
        go_wp2_with (first | (go_at_call 45; refine (cs _).mono ?_; rintro e w2 ⟨rfl, rfl⟩) | (go_at_call 67; refine (cb _).mono ?_; rintro e w2 ⟨rfl, rfl⟩))
        go_round
        case rel => exact ⟨k + 1, by omega, by go_num, HQ.out⟩
        case measure => simp [intOf]; omega
      · have HO := Lib.hid (signof_at HN.out hlt hb)
        have HR := Lib.hid (sign_rest (opAt k) s)
        have hft := sign_fits hb
        rw [hb] at cb
        clear hb
        generalize signS (opAt k) = g at *
        go_wp2_with (first | (go_at_call 45; refine (cs _).mono ?_; rintro e w2 ⟨rfl, rfl⟩) | (go_at_call 67; refine (cb _).mono ?_; rintro e w2 ⟨rfl, rfl⟩))
        go_quiet (fail)
        go_wp2
        go_ret2
        exact ⟨⟨_, _, rfl, Or.inl ⟨HP.out, HO.out, HR.out⟩⟩, below_drewN hB _⟩
    · obtain rfl : k = 8 := by omega
      have HO := Lib.hid (signof_none HN.out)
      by_cases h0 : s.size = 0
      · have HL := Lib.hid (show s.data.toList.getLast? = none by rw [List.getLast?_eq_none_iff]; exact List.eq_nil_of_length_eq_zero (by rw [len_size]; exact h0))
        have i1 : ¬ (0 : Int) < (s.size : Int) := by omega
        go_wp2
        go_ret2
        exact ⟨⟨_, _, rfl, Or.inr ⟨HO.out, rfl, by rw [HL.out]; rfl⟩⟩, hB⟩
      · have hlk : s.size - 1 < s.size := by omega
        have HL := Lib.hid (show s.data.toList.getLast? = some (s[s.size - 1]) by rw [List.getLast?_eq_getElem?, len_size]; exact byte_some s _ hlk)
        have i1 : (0 : Int) < (s.size : Int) := by omega
        have i2 : (s.size : Int) - 1 = ((s.size - 1 : Nat) : Int) := by omega
        by_cases hc : s[s.size - 1] = 42
        · have hbb : ((s[s.size - 1].toNat : Int) == 42) = true := by simp [hc]
          have HL2 := Lib.hid (show (if s.data.toList.getLast? = some 42 then (9 : Int) else 7) = 9 by rw [HL.out, hc]; rfl)
          clear hc HL
          go_wp2
          go_ret2
          exact ⟨⟨_, _, rfl, Or.inr ⟨HO.out, rfl, HL2.out.symm⟩⟩, hB⟩
        · have hbb : ((s[s.size - 1].toNat : Int) == 42) = false := by
            rw [beq_eq_false_iff_ne]
            exact fun e => hc (UInt8.toNat_inj.1 (by show _ = 42; omega))
          have HL2 := Lib.hid (show (if s.data.toList.getLast? = some 42 then (9 : Int) else 7) = 7 by rw [HL.out, if_neg (by simpa using hc)])
          clear hc HL
          go_wp2
          go_ret2
          exact ⟨⟨_, _, rfl, Or.inr ⟨HO.out, rfl, HL2.out.symm⟩⟩, hB⟩
end Go.Proofs.YthaagngoefieaaaDoor
end

/-
  The contract of chapter 6's Print, the program's, of any comparator. Conditions: Pre and Build have at most 1048576 bytes; strconv's table reads as it is laid.
-/
section
namespace Go.Proofs.YthaagngoefieaaaDoor
open Go.ChangeShapes Go.WideShapes Go.ChangeAt Go.RowKit
set_option linter.unusedVariables false

theorem cprint_any (op ps a b c : Int) (p q : ByteArray) (w : World) (hT : Tab w) (hp : p.size ≤ 1048576) (hq : q.size ≤ 1048576) :
    Calls Tryd.prog 14 #[cvV op ps a b c p q] w fun e w' => e = .returned (.string ⟨(printC (cmpS op ps a b c p q)).toArray⟩) ∧ Below w.heap.size w w' := by
  cases hm : mayC (cmpS op ps a b c p q)
  · have hmay := fun W => cmay_any op ps a b c p q W hp hq
    rw [printC_no hm]
    rw [hm] at hmay
    unfold cvV at *
    go_enter Tryd.func14, Tryd.ntmps14
    go_wp2_with (go_at_call 15; refine (hmay _).mono ?_; rintro e w1 ⟨rfl, hb1⟩)
    go_ret
    exact ⟨rfl, (box_below w _).trans (hb1.mono (by simp))⟩
  · obtain ⟨-, -, -, ⟨h1, h2⟩, h3, -⟩ := may_c hm
    have hps := parts_c hm
    simp only [cmpS] at h1 h2 h3
    have h3' : p.size = 0 ∨ 3 ≤ ps := by
      rcases h3 with h3 | h3
      · left
        have : p.data.toList.length = 0 := by
          have h4 : p.data.toList = [] := h3
          rw [h4]; rfl
        rwa [len_size] at this
      · exact Or.inr h3
    unfold leastC at h1
    unfold mostC at h2
    by_cases h9 : op = 9
    · subst h9
      simp only [if_true] at h1 h2
      have hp0 : p.size = 0 := by omega
      rcases hps with rfl | rfl | rfl | rfl
      · exact cprint_star0 a b c p q w hT hp0 hq hm
      · exact cprint_star1 a b c p q w hT hp0 hq hm
      · exact cprint_star2 a b c p q w hT hp0 hq hm
      · omega
    · rw [if_neg h9] at h1 h2
      rcases hps with rfl | rfl | rfl | rfl
      · omega
      · exact cprint_op1 op a b c p q w hT h9 (by omega) hq hm
      · exact cprint_op2 op a b c p q w hT h9 (by omega) hq hm
      · by_cases hp0 : p.size = 0
        · exact cprint_op3 op a b c p q w hT h9 hp0 hq hm
        · exact cprint_op3p op a b c p q w hT h9 hp0 hp hq hm
end Go.Proofs.YthaagngoefieaaaDoor
end

/-
  The walks of chapter 6's caret and of the reference's turns. Conditions: the parts are 0 .. 3.
-/
section
namespace Go.Proofs.YthaagngoefieaaaDoor
open Go.ChangeShapes Go.WideShapes Go.ChangeAt Go.RowKit
set_option linter.unusedVariables false
set_option linter.unusedSimpArgs false

def caretP (c : Cmp) : Int := if c.v.maj ≠ 0 then 0 else if c.v.min ≠ 0 then 1 else if c.v.pat ≠ 0 then 2 else c.parts - 1
def turnsR (c : Cmp) : Int := if 0 < c.v.maj ∨ c.parts = 1 then 0 else if 0 < c.v.min ∨ c.parts = 2 then 1 else 2
theorem ret_int {a b : Int} (h : a = b) : Ending.returned (.int .i64 a) = .returned (.int .i64 b) := by rw [h]

set_option maxHeartbeats 2000000 in
theorem caret_any (op ps a b c : Int) (p q : ByteArray) (w : World) (h0 : 0 ≤ ps) (h3 : ps ≤ 3) :
    Calls Tryd.prog 57 #[cvV op ps a b c p q] w fun e w' => e = .returned (.int .i64 (caretP (cmpS op ps a b c p q))) ∧ Below w.heap.size w w' := by
  have HM := Lib.hid (show caretP (cmpS op ps a b c p q) = (if a ≠ 0 then 0 else if b ≠ 0 then 1 else if c ≠ 0 then 2 else ps - 1) from rfl)
  generalize caretP (cmpS op ps a b c p q) = R at *
  unfold cvV
  go_enter Tryd.func57, Tryd.ntmps57
  go_wp2
  all_goals
    go_ret
    refine ⟨ret_int ?_, by first | assumption | exact box_below _ _⟩
    rw [HM.out]
    try simp only [beq_iff_eq, bne_iff_ne, ne_eq, beq_eq_false_iff_ne, bne_eq_false_iff_eq] at *
    first
      | (simp_all; done)
      | (simp_all; omega)
      | (split <;> first | rfl | omega | (split <;> first | rfl | omega | (split <;> first | rfl | omega)))

set_option maxHeartbeats 2000000 in
theorem turns_any (op ps a b c : Int) (p q : ByteArray) (w : World) (h0 : 0 ≤ ps) (h3 : ps ≤ 3) :
    Calls Tryd.prog 91 #[cvV op ps a b c p q] w fun e w' => e = .returned (.int .i64 (turnsR (cmpS op ps a b c p q))) ∧ Below w.heap.size w w' := by
  have HM := Lib.hid (show turnsR (cmpS op ps a b c p q) = (if 0 < a ∨ ps = 1 then 0 else if 0 < b ∨ ps = 2 then 1 else 2) from rfl)
  generalize turnsR (cmpS op ps a b c p q) = R at *
  unfold cvV
  go_enter Tryd.func91, Tryd.ntmps91
  go_wp2
  all_goals
    go_ret
    refine ⟨ret_int ?_, by first | assumption | exact box_below _ _⟩
    rw [HM.out]
    try simp only [beq_iff_eq, bne_iff_ne, ne_eq, beq_eq_false_iff_ne, bne_eq_false_iff_eq] at *
    first
      | (simp_all; done)
      | (simp_all; omega)
      | (split <;> first | rfl | omega | (split <;> first | rfl | omega | (split <;> first | rfl | omega)))
end Go.Proofs.YthaagngoefieaaaDoor
end
