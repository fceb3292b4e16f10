/-
  The walks of chapter 2's Print, the program's and the reference's. Conditions: Pre and Build have at most 1048576 bytes; strconv's table reads as it is laid.
-/
import Derived.Test.YtabcpbmnemfnbaaDoorVMay
import Derived.Test.YtabcpbmnemfnbaaDoorIdDigits
import Derived.Deep.RegionHeld3
import Derived.Deep.DeepCutAuto
namespace Go.Proofs.YtabcpbmnemfnbaaDoor
open Go.ChangeShapes Go.WideShapes Go.ChangeAt Go.RowKit
set_option linter.unusedVariables false

/-- A version's five cells. -/
def Five (w : World) (b : Nat) (x0 x1 x2 x3 x4 : Value) : Prop :=
  w.cell? ⟨b, 0, none⟩ = some x0 ∧ w.cell? ⟨b, 1, none⟩ = some x1 ∧ w.cell? ⟨b, 2, none⟩ = some x2 ∧ w.cell? ⟨b, 3, none⟩ = some x3 ∧ w.cell? ⟨b, 4, none⟩ = some x4
theorem five_below {w w' : World} {b B : Nat} {x0 x1 x2 x3 x4 : Value} (h : Five w b x0 x1 x2 x3 x4) (hb : b < B) (hw : Below B w w') : Five w' b x0 x1 x2 x3 x4 :=
  ⟨(hw.cell (p := ⟨b, 0, none⟩) hb).trans h.1, (hw.cell (p := ⟨b, 1, none⟩) hb).trans h.2.1, (hw.cell (p := ⟨b, 2, none⟩) hb).trans h.2.2.1, (hw.cell (p := ⟨b, 3, none⟩) hb).trans h.2.2.2.1, (hw.cell (p := ⟨b, 4, none⟩) hb).trans h.2.2.2.2⟩

theorem held_below {w W : World} {x0 x1 x2 x3 x4 : Value} (h : W.cell? ⟨w.heap.size, 0, none⟩ = some x0 ∧ W.cell? ⟨w.heap.size, 1, none⟩ = some x1 ∧ W.cell? ⟨w.heap.size, 2, none⟩ = some x2 ∧ W.cell? ⟨w.heap.size, 3, none⟩ = some x3 ∧ W.cell? ⟨w.heap.size, 4, none⟩ = some x4 ∧ w.heap.size < W.heap.size ∧ Below w.heap.size w W) : Below w.heap.size w W := h.2.2.2.2.2.2
theorem five_keep {w W W' : World} {x0 x1 x2 x3 x4 : Value} (hb : Below W.heap.size W W')
    (h : W.cell? ⟨w.heap.size, 0, none⟩ = some x0 ∧ W.cell? ⟨w.heap.size, 1, none⟩ = some x1 ∧ W.cell? ⟨w.heap.size, 2, none⟩ = some x2 ∧ W.cell? ⟨w.heap.size, 3, none⟩ = some x3 ∧ W.cell? ⟨w.heap.size, 4, none⟩ = some x4 ∧ w.heap.size < W.heap.size ∧ Below w.heap.size w W) :
    W'.cell? ⟨w.heap.size, 0, none⟩ = some x0 ∧ W'.cell? ⟨w.heap.size, 1, none⟩ = some x1 ∧ W'.cell? ⟨w.heap.size, 2, none⟩ = some x2 ∧ W'.cell? ⟨w.heap.size, 3, none⟩ = some x3 ∧ W'.cell? ⟨w.heap.size, 4, none⟩ = some x4 ∧ w.heap.size < W'.heap.size ∧ Below w.heap.size w W' := by
  obtain ⟨h0, h1, h2, h3, h4, hlt, hB⟩ := h
  obtain ⟨a0, a1, a2, a3, a4⟩ := five_below ⟨h0, h1, h2, h3, h4⟩ hlt hb
  exact ⟨a0, a1, a2, a3, a4, Nat.lt_of_lt_of_le hlt hb.size, hB.trans (hb.mono hB.size)⟩

theorem print_no (v : Ver) (h : mayV v = false) : printV v = [] := by unfold printV; rw [h]; rfl
theorem print_yes (v : Ver) (h : mayV v = true) : printV v = numsV v ++ segB 45 v.pre ++ segB 43 v.build := by unfold printV; rw [h]; rfl
theorem may_parts {v : Ver} (h : mayV v = true) : (0 ≤ v.maj ∧ v.maj ≤ 9999) ∧ (0 ≤ v.min ∧ v.min ≤ 9999) ∧ (0 ≤ v.pat ∧ v.pat ≤ 9999) := by
  unfold mayV at h
  simp only [Bool.and_eq_true] at h
  exact ⟨(fits_iff _).1 h.1.1.1.1, (fits_iff _).1 h.1.1.1.2, (fits_iff _).1 h.1.1.2⟩
theorem itoa_len {n : Int} (h0 : 0 ≤ n) (h1 : n ≤ 9999) : (Lib.itoa n).length ≤ 20 := by
  unfold Lib.itoa
  rw [if_neg (by omega)]
  exact dec_len _ (by omega)

theorem str_ext {x : ByteArray} {l : List UInt8} (h : x.data.toList = l) : Ending.returned (.string x) = .returned (.string ⟨l.toArray⟩) := by subst h; rw [back]
theorem app_list (x y : ByteArray) : (x ++ y).data.toList = x.data.toList ++ y.data.toList := by rw [ByteArray.data_append, Array.toList_append]
theorem seg_no (c : UInt8) {p : ByteArray} (h : p.size = 0) : segB c p.data.toList = [] := by
  obtain rfl := empty_is h
  rfl
theorem seg_yes (c : UInt8) {p : ByteArray} (h : p.size ≠ 0) : segB c p.data.toList = c :: p.data.toList := by
  unfold segB
  rw [if_neg]
  intro e
  have := congrArg List.length e
  rw [len_size] at this
  exact h this
theorem nums_list (dg : Int → ByteArray) (a b c : Int) (p q : ByteArray) (h : dg = fun n => ⟨(Lib.itoa n).toArray⟩) : (dg a ++ ⟨#[46]⟩ ++ dg b ++ ⟨#[46]⟩ ++ dg c).data.toList = numsV (verS a b c p q) := by
  subst h
  simp only [app_list, numsV, verS]
  simp

set_option maxHeartbeats 2000000 in
theorem print_any (a b c : Int) (p q : ByteArray) (w : World) (hT : Tab w) (hp : p.size ≤ 1048576) (hq : q.size ≤ 1048576) :
    Calls Tryd.prog 16 #[.agg #[.int .i64 a, .int .i64 b, .int .i64 c, .string p, .string q]] w fun e w' => e = .returned (.string ⟨(printV (verS a b c p q)).toArray⟩) ∧ Below w.heap.size w w' := by
  have hmay := fun W => may_any a b c p q W hp hq
  cases hm : mayV (verS a b c p q)
  · rw [print_no _ hm]
    rw [hm] at hmay
    go_enter Tryd.func16, Tryd.ntmps16
    go_wp2_with (go_at_call 17; refine (hmay _).mono ?_; rintro e w1 ⟨rfl, hb1⟩)
    go_ret
    exact ⟨rfl, (box_below w _).trans (hb1.mono (by simp))⟩
  · have hR := Lib.hid (print_yes _ hm)
    have HT := Lib.hid hT
    clear hT
    obtain ⟨⟨ha0, ha1⟩, ⟨hb0, hb1⟩, ⟨hc0, hc1⟩⟩ := may_parts hm
    rw [hm] at hmay
    simp only [verS] at ha0 ha1 hb0 hb1 hc0 hc1
    obtain ⟨dg, hdg⟩ : ∃ dg : Int → ByteArray, dg = fun n => ⟨(Lib.itoa n).toArray⟩ := ⟨_, rfl⟩
    have hd : ∀ (n : Int) (W : World), 0 ≤ n → n ≤ 9999 → Below w.heap.size w W → Calls Tryd.prog 38 #[.int .i64 n] W fun e w' => e = .returned (.string (dg n)) ∧ Below W.heap.size W w' := by
      subst hdg
      exact fun n W h0 h1 hW => digits_any n W (by omega) (by omega) (tab_below HT.out hW)
    have hsz : ∀ n : Int, 0 ≤ n → n ≤ 9999 → (dg n).size ≤ 20 := by
      subst hdg
      intro n h0 h1
      show (⟨(Lib.itoa n).toArray⟩ : ByteArray).size ≤ 20
      rw [str_size]
      exact itoa_len h0 h1
    have hsa := hsz a ha0 ha1
    have hsb := hsz b hb0 hb1
    have hsc := hsz c hc0 hc1
    clear hsz
    have HDG := Lib.hid hdg
    clear hdg
    go_enter Tryd.func16, Tryd.ntmps16
    go_wp2_with (go_at_call 17; refine (hmay _).mono ?_; rintro e w1 ⟨rfl, hb1⟩)
    obtain ⟨k0, k1, k2, k3, k4⟩ := cells5 w _ _ _ _ _ _ (by simpa using hb1)
    have hB1 := (box_below w _).trans (hb1.mono (by simp))
    have hlt1 : w.heap.size < w1.heap.size := by have := hb1.size; simp at this; omega
    clear hb1
    have hB2 : Below w.heap.size w w1.drew := below_drewN hB1 1
    have o1 : ¬ 9223372036854775807 < (dg a).size + 1 := by omega
    have o2 : ¬ 9223372036854775807 < (dg a).size + 1 + (dg b).size := by omega
    have o3 : ¬ 9223372036854775807 < (dg a).size + 1 + (dg b).size + 1 := by omega
    have o4 : ¬ 9223372036854775807 < (dg a).size + 1 + (dg b).size + 1 + (dg c).size := by omega
    go_cut [3] from 7 to 19 (fun s wx => s = .string (dg a ++ ⟨#[46]⟩ ++ dg b ++ ⟨#[46]⟩ ++ dg c) ∧ wx.cell? ⟨w.heap.size, 0, none⟩ = some (.int .i64 a) ∧ wx.cell? ⟨w.heap.size, 1, none⟩ = some (.int .i64 b) ∧ wx.cell? ⟨w.heap.size, 2, none⟩ = some (.int .i64 c) ∧ wx.cell? ⟨w.heap.size, 3, none⟩ = some (.string p) ∧ wx.cell? ⟨w.heap.size, 4, none⟩ = some (.string q) ∧ w.heap.size < wx.heap.size ∧ Below w.heap.size w wx)
    case first =>
      go_region_held3 (fun W => W.cell? ⟨w.heap.size, 0, none⟩ = some (.int .i64 a) ∧ W.cell? ⟨w.heap.size, 1, none⟩ = some (.int .i64 b) ∧ W.cell? ⟨w.heap.size, 2, none⟩ = some (.int .i64 c) ∧ W.cell? ⟨w.heap.size, 3, none⟩ = some (.string p) ∧ W.cell? ⟨w.heap.size, 4, none⟩ = some (.string q) ∧ w.heap.size < W.heap.size ∧ Below w.heap.size w W)
        (first | ((refine five_keep hb' ?_; assumption)) | assumption | ((refine ⟨?_, ?_, ?_, ?_, ?_, ?_, ?_⟩ <;> first | assumption | (simp; assumption))))
        (first | (go_at_call 38; refine (hd _ _ ?_ ?_ ?_).mono ?_; assumption; assumption; (first | assumption | (apply held_below; assumption)); rintro e w' ⟨rfl, hb'⟩))
      all_goals
        go_wp2_with fail
        go_meet
        exact ⟨rfl, by assumption⟩
    case rest =>
      obtain ⟨rfl, e0, e1, e2, e3, e4, hlt2, hB3⟩ := hcut
      clear hd k0 k1 k2 k3 k4 hB1 hB2 hlt1 HT
      have HN := Lib.hid (nums_list dg a b c p q HDG.out)
      have hNs : (dg a ++ ⟨#[46]⟩ ++ dg b ++ ⟨#[46]⟩ ++ dg c).size ≤ 100 := by
        have hone : (⟨#[46]⟩ : ByteArray).size = 1 := rfl
        rw [ByteArray.size_append, ByteArray.size_append, ByteArray.size_append, ByteArray.size_append, hone]
        omega
      generalize (dg a ++ ⟨#[46]⟩ ++ dg b ++ ⟨#[46]⟩ ++ dg c) = N at *
      clear HDG hsa hsb hsc
      by_cases hp0 : p.size = 0
      · have he1 := empty_str p hp0
        by_cases hq0 : q.size = 0
        · have he2 := empty_str q hq0
          go_wp2
          go_ret
          refine ⟨str_ext ?_, hB3⟩
          rw [HN.out, hR.out]
          show _ = _ ++ segB 45 p.data.toList ++ segB 43 q.data.toList
          rw [seg_no _ hp0, seg_no _ hq0, List.append_nil, List.append_nil]
        · obtain ⟨he2, he3⟩ := empty_no (s := q) (by omega)
          go_wp2
          go_ret
          refine ⟨str_ext ?_, hB3⟩
          rw [app_list, app_list, HN.out, hR.out]
          show _ = _ ++ segB 45 p.data.toList ++ segB 43 q.data.toList
          rw [seg_no _ hp0, seg_yes _ hq0, List.append_nil]
          rfl
      · obtain ⟨he1, he4⟩ := empty_no (s := p) (by omega)
        by_cases hq0 : q.size = 0
        · have he2 := empty_str q hq0
          go_wp2
          go_ret
          refine ⟨str_ext ?_, hB3⟩
          rw [app_list, app_list, HN.out, hR.out]
          show _ = _ ++ segB 45 p.data.toList ++ segB 43 q.data.toList
          rw [seg_yes _ hp0, seg_no _ hq0, List.append_nil]
          rfl
        · obtain ⟨he2, he3⟩ := empty_no (s := q) (by omega)
          go_wp2
          go_ret
          refine ⟨str_ext ?_, hB3⟩
          rw [app_list, app_list, app_list, app_list, HN.out, hR.out]
          show _ = _ ++ segB 45 p.data.toList ++ segB 43 q.data.toList
          rw [seg_yes _ hp0, seg_yes _ hq0]
          rfl
end Go.Proofs.YtabcpbmnemfnbaaDoor
