/-
  The walks of chapter 2's reference Numbers and Print. Conditions: Pre and Build have at most 1048576 bytes.
-/
import Derived.Test.YtabcpbmnemfnbaaDoorVPrint
namespace Go.Proofs.YtabcpbmnemfnbaaDoor
open Go.ChangeShapes Go.WideShapes Go.ChangeAt Go.RowKit
set_option linter.unusedVariables false

set_option maxHeartbeats 2000000 in
theorem rnums_any (a b c : Int) (p q : ByteArray) (w : World) (ha0 : 0 ≤ a) (ha1 : a ≤ 9999) (hb0 : 0 ≤ b) (hb1 : b ≤ 9999) (hc0 : 0 ≤ c) (hc1 : c ≤ 9999) (dg : Int → ByteArray)
    (hd : ∀ (n : Int) (W : World), 0 ≤ n → n ≤ 9999 → Calls Tryd.prog 56 #[.int .i64 n] W fun e w' => e = .returned (.string (dg n)) ∧ Below W.heap.size W w')
    (hsa : (dg a).size ≤ 20) (hsb : (dg b).size ≤ 20) (hsc : (dg c).size ≤ 20) :
    Calls Tryd.prog 44 #[.agg #[.int .i64 a, .int .i64 b, .int .i64 c, .string p, .string q]] w fun e w' => e = .returned (.string (dg a ++ ⟨#[46]⟩ ++ dg b ++ ⟨#[46]⟩ ++ dg c)) ∧ Below w.heap.size w w' := by
  go_enter Tryd.func44, Tryd.ntmps44
  go_wp2
  generalize hwb : w.alloc (.cells #[.int .i64 a, .int .i64 b, .int .i64 c, .string p, .string q] 24) = wb
  have hbb : Below w.heap.size w wb := by rw [← hwb]; exact box_below _ _
  have hlb : w.heap.size < wb.heap.size := by rw [← hwb]; simp
  obtain ⟨k0, k1, k2, k3, k4⟩ : Five wb w.heap.size (.int .i64 a) (.int .i64 b) (.int .i64 c) (.string p) (.string q) := by
    rw [← hwb]
    exact cells5 w _ _ _ _ _ _ (by simpa using Below.refl _ _)
  clear hwb
  have o1 : ¬ 9223372036854775807 < (dg a).size + 1 := by omega
  have o2 : ¬ 9223372036854775807 < (dg a).size + 1 + (dg b).size := by omega
  have o3 : ¬ 9223372036854775807 < (dg a).size + 1 + (dg b).size + 1 := by omega
  have o4 : ¬ 9223372036854775807 < (dg a).size + 1 + (dg b).size + 1 + (dg c).size := by omega
  have hB2 : Below w.heap.size w wb.drew := below_drewN hbb 1
  go_region_held3 (fun W => W.cell? ⟨w.heap.size, 0, none⟩ = some (.int .i64 a) ∧ W.cell? ⟨w.heap.size, 1, none⟩ = some (.int .i64 b) ∧ W.cell? ⟨w.heap.size, 2, none⟩ = some (.int .i64 c) ∧ W.cell? ⟨w.heap.size, 3, none⟩ = some (.string p) ∧ W.cell? ⟨w.heap.size, 4, none⟩ = some (.string q) ∧ w.heap.size < W.heap.size ∧ Below w.heap.size w W)
    (first | ((refine five_keep hb' ?_; assumption)) | assumption | ((refine ⟨?_, ?_, ?_, ?_, ?_, ?_, ?_⟩ <;> first | assumption | (simp; assumption))))
    (first | (go_at_call 56; refine (hd _ _ ?_ ?_).mono ?_; assumption; assumption; rintro e w' ⟨rfl, hb'⟩))
  all_goals
    go_wp2_with fail
    have hB : Below w.heap.size w w' := by first | assumption | (apply held_below; assumption)
    refine (hd _ _ hc0 hc1).mono ?_
    rintro e w4 ⟨rfl, hb4⟩
    go_wp2
    go_ret
    exact ⟨rfl, hB.trans (hb4.mono hB.size)⟩

set_option maxHeartbeats 2000000 in
theorem rprint_any (a b c : Int) (p q : ByteArray) (w : World) (hp : p.size ≤ 1048576) (hq : q.size ≤ 1048576) :
    Calls Tryd.prog 19 #[.agg #[.int .i64 a, .int .i64 b, .int .i64 c, .string p, .string q]] w fun e w' => e = .returned (.string ⟨(printV (verS a b c p q)).toArray⟩) ∧ Below w.heap.size w w' := by
  have hmay := fun W => rmay_any a b c p q W hp hq
  cases hm : mayV (verS a b c p q)
  · rw [print_no _ hm]
    rw [hm] at hmay
    go_enter Tryd.func19, Tryd.ntmps19
    go_wp2_with (go_at_call 18; refine (hmay _).mono ?_; rintro e w1 ⟨rfl, hb1⟩)
    go_ret
    exact ⟨rfl, (box_below w _).trans (hb1.mono (by simp))⟩
  · have hR := Lib.hid (print_yes _ hm)
    obtain ⟨⟨ha0, ha1⟩, ⟨hb0, hb1⟩, ⟨hc0, hc1⟩⟩ := may_parts hm
    rw [hm] at hmay
    simp only [verS] at ha0 ha1 hb0 hb1 hc0 hc1
    obtain ⟨dg, hdg⟩ : ∃ dg : Int → ByteArray, dg = fun n => ⟨(Lib.itoa n).toArray⟩ := ⟨_, rfl⟩
    have hd : ∀ (n : Int) (W : World), 0 ≤ n → n ≤ 9999 → Calls Tryd.prog 56 #[.int .i64 n] W fun e w' => e = .returned (.string (dg n)) ∧ Below W.heap.size W w' := by
      subst hdg
      exact fun n W h0 h1 => rdigits_any n W (by omega) (by omega)
    have hsz : ∀ n : Int, 0 ≤ n → n ≤ 9999 → (dg n).size ≤ 20 := by
      subst hdg
      intro n h0 h1
      show (⟨(Lib.itoa n).toArray⟩ : ByteArray).size ≤ 20
      rw [str_size]
      exact itoa_len h0 h1
    have hsa := hsz a ha0 ha1
    have hsb := hsz b hb0 hb1
    have hsc := hsz c hc0 hc1
    have hnum := fun W => rnums_any a b c p q W ha0 ha1 hb0 hb1 hc0 hc1 dg hd hsa hsb hsc
    have HN := Lib.hid (nums_list dg a b c p q hdg)
    have hNs : (dg a ++ ⟨#[46]⟩ ++ dg b ++ ⟨#[46]⟩ ++ dg c).size ≤ 100 := by
      have hone : (⟨#[46]⟩ : ByteArray).size = 1 := rfl
      rw [ByteArray.size_append, ByteArray.size_append, ByteArray.size_append, ByteArray.size_append, hone]
      omega
    generalize (dg a ++ ⟨#[46]⟩ ++ dg b ++ ⟨#[46]⟩ ++ dg c) = N at *
    clear hd hsz hsa hsb hsc hdg
    have go : ∀ (bp bq : Bool), p.toList.isEmpty = bp → q.toList.isEmpty = bq → Calls Tryd.prog 19 #[.agg #[.int .i64 a, .int .i64 b, .int .i64 c, .string p, .string q]] w fun e w' => e = .returned (.string (if bp = true then (if bq = true then N else N ++ ⟨#[43]⟩ ++ q) else (if bq = true then N ++ ⟨#[45]⟩ ++ p else N ++ ⟨#[45]⟩ ++ p ++ ⟨#[43]⟩ ++ q))) ∧ Below w.heap.size w w' := by
      intro bp bq he1 he2
      clear HN hR
      cases bp <;> cases bq
      all_goals
        go_enter Tryd.func19, Tryd.ntmps19
        go_wp2_with (first
          | (go_at_call 18; refine (hmay _).mono ?_; rintro e w1 ⟨rfl, hb1⟩; have hb2 := (box_below w _).trans (hb1.mono (by simp)); have hlt : w.heap.size < w1.heap.size := (by have := hb1.size; simp at this; omega); have hf1 : Five w1 w.heap.size (.int .i64 a) (.int .i64 b) (.int .i64 c) (.string p) (.string q) := cells5 w _ _ _ _ _ _ (by simpa using hb1); obtain ⟨k0, k1, k2, k3, k4⟩ := id hf1)
          | (go_at_call 44; refine (hnum _).mono ?_; rintro e w3 ⟨rfl, hb3⟩; have hb4 := hb2.trans (hb3.mono hb2.size); obtain ⟨l0, l1, l2, l3, l4⟩ := five_below hf1 hlt hb3))
        go_ret
        exact ⟨rfl, hb4⟩
    by_cases hp0 : p.size = 0
    · by_cases hq0 : q.size = 0
      · refine (go true true (empty_str p hp0) (empty_str q hq0)).mono ?_
        rintro e w' ⟨rfl, hb⟩
        refine ⟨str_ext ?_, hb⟩
        rw [hR.out]
        show N.data.toList = _ ++ segB 45 p.data.toList ++ segB 43 q.data.toList
        rw [HN.out, seg_no _ hp0, seg_no _ hq0, List.append_nil, List.append_nil]
      · refine (go true false (empty_str p hp0) (empty_no (by omega)).1).mono ?_
        rintro e w' ⟨rfl, hb⟩
        refine ⟨str_ext ?_, hb⟩
        rw [hR.out]
        show (N ++ ⟨#[43]⟩ ++ q).data.toList = _ ++ segB 45 p.data.toList ++ segB 43 q.data.toList
        rw [app_list, app_list, HN.out, seg_no _ hp0, seg_yes _ hq0, List.append_nil]
        simp
    · by_cases hq0 : q.size = 0
      · refine (go false true (empty_no (by omega)).1 (empty_str q hq0)).mono ?_
        rintro e w' ⟨rfl, hb⟩
        refine ⟨str_ext ?_, hb⟩
        rw [hR.out]
        show (N ++ ⟨#[45]⟩ ++ p).data.toList = _ ++ segB 45 p.data.toList ++ segB 43 q.data.toList
        rw [app_list, app_list, HN.out, seg_yes _ hp0, seg_no _ hq0, List.append_nil]
        simp
      · refine (go false false (empty_no (by omega)).1 (empty_no (by omega)).1).mono ?_
        rintro e w' ⟨rfl, hb⟩
        refine ⟨str_ext ?_, hb⟩
        rw [hR.out]
        show (N ++ ⟨#[45]⟩ ++ p ++ ⟨#[43]⟩ ++ q).data.toList = _ ++ segB 45 p.data.toList ++ segB 43 q.data.toList
        rw [app_list, app_list, app_list, app_list, HN.out, seg_yes _ hp0, seg_yes _ hq0]
        simp
end Go.Proofs.YtabcpbmnemfnbaaDoor
