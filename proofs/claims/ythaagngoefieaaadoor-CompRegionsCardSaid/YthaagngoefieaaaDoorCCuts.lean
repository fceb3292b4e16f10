/-
  The walk of chapter 4's reference cuts: the cuts of spans, rising. Conditions: at most 100000 spans; Pre and Build of each cut have at most 1048576 bytes.
-/
import Derived.Test.YthaagngoefieaaaDoorCPut
import Derived.Test.YthaagngoefieaaaDoorCHigh
namespace Go.Proofs.YthaagngoefieaaaDoor
open Go.ChangeShapes Go.WideShapes Go.ChangeAt Go.RowKit
set_option linter.unusedVariables false
set_option linter.unusedSimpArgs false

theorem put_len (c : CutC) : ∀ l : List CutC, l.length ≤ (putC l c).length ∧ (putC l c).length ≤ l.length + 1
  | [] => by simp [putC]
  | x :: l => by
    have h := put_len c l
    rw [putC]
    split
    · simp only [List.length_cons]; omega
    · split
      · simp only [List.length_cons]; omega
      · simp only [List.length_cons]; omega
theorem put_ok {c : CutC} (hc : okC c) : ∀ {l : List CutC}, (∀ x ∈ l, okC x) → ∀ x ∈ putC l c, okC x
  | [], _ => fun x hx => by simp [putC] at hx; subst hx; exact hc
  | y :: l, h => fun x hx => by
    have ih := put_ok hc (l := l) fun z hz => h z (List.mem_cons_of_mem _ hz)
    rw [putC] at hx
    split at hx
    · rcases List.mem_cons.1 hx with rfl | hx
      · exact h _ (by simp)
      · exact ih x hx
    · split at hx
      · exact h x hx
      · rcases List.mem_cons.1 hx with rfl | hx
        · exact hc
        · exact h x hx
theorem cuts_succ {l : List SpanC} {k : Nat} {s : SpanC} (hs : l[k]? = some s) : cutsC (l.take (k + 1)) = putC (putC (cutsC (l.take k)) s.f) s.t := by
  obtain ⟨hlt, rfl⟩ := List.getElem?_eq_some_iff.1 hs
  unfold cutsC
  rw [List.take_succ_eq_append_getElem hlt, List.foldl_append]
  rfl
theorem cuts_bd {l : List SpanC} (hok : ∀ s ∈ l, okS s) : ∀ k, k ≤ l.length → (∀ x ∈ cutsC (l.take k), okC x) ∧ 2 ≤ (cutsC (l.take k)).length ∧ (cutsC (l.take k)).length ≤ 2 + 2 * k
  | 0, _ => ⟨fun x hx => by simp [cutsC] at hx; rcases hx with rfl | rfl; exact okC_first; exact okC_last, by simp [cutsC], by simp [cutsC]⟩
  | k + 1, h => by
    obtain ⟨h1, h2, h3⟩ := cuts_bd hok k (by omega)
    have hs : l[k]? = some l[k] := List.getElem?_eq_getElem (by omega)
    have ho := hok _ (List.getElem_mem (show k < l.length by omega))
    rw [cuts_succ hs]
    have g1 := put_len (l[k]).f (cutsC (l.take k))
    have g2 := put_len (l[k]).t (putC (cutsC (l.take k)) (l[k]).f)
    exact ⟨put_ok ho.2 (put_ok ho.1 h1), by omega, by omega⟩
def CutsAt (w W : World) (l : List SpanC) (A : Option Addr) (n cap k : Nat) : Prop := n = (cutsC (l.take k)).length ∧ n ≤ cap ∧ RdC W W.heap.size A (cutsC (l.take k)) ∧ Below w.heap.size w W
theorem start_rdc (w : World) : RdC (w.alloc (.cells #[.int .i64 (-1), .int .i64 0, .int .i64 0, .int .i64 0, .string ⟨#[]⟩, .string ⟨#[]⟩, .bool false, .int .i64 1, .int .i64 0, .int .i64 0, .int .i64 0, .string ⟨#[]⟩, .string ⟨#[]⟩, .bool false] 48)) (w.alloc (.cells #[.int .i64 (-1), .int .i64 0, .int .i64 0, .int .i64 0, .string ⟨#[]⟩, .string ⟨#[]⟩, .bool false, .int .i64 1, .int .i64 0, .int .i64 0, .int .i64 0, .string ⟨#[]⟩, .string ⟨#[]⟩, .bool false] 48)).heap.size (some ⟨w.heap.size, 0, none⟩) (cutsC []) := fun _ => by
  refine ⟨w.heap.size, rfl, by simp, ?_⟩
  exact cells_new w [.int .i64 (-1), .int .i64 0, .int .i64 0, .int .i64 0, .string ⟨#[]⟩, .string ⟨#[]⟩, .bool false, .int .i64 1, .int .i64 0, .int .i64 0, .int .i64 0, .string ⟨#[]⟩, .string ⟨#[]⟩, .bool false] 48
set_option maxRecDepth 8192 in
set_option maxHeartbeats 8000000 in
theorem rcuts_any (A : Option Addr) (n cap B : Nat) (l : List SpanC) (w : World) (h : RdS w B A l) (hl : l.length = n) (hok : ∀ s ∈ l, okS s) (hB : B ≤ w.heap.size) (hn : n ≤ 100000) :
    Calls Tryd.prog 58 #[.slice A n cap] w (RowC (cutsC l) w) := by
  have H := Lib.hid h
  have HL := Lib.hid hl
  have HD := Lib.hid (cuts_bd hok)
  clear h hl
  go_enter Tryd.func58, Tryd.ntmps58
  go_wp2_with fail
  refine (first_any _).mono ?_
  rintro e w1 ⟨rfl, hb1⟩
  go_wp2_with fail
  refine (last_any _).mono ?_
  rintro e w2 ⟨rfl, hb2⟩
  have hB2 := hb1.trans (hb2.mono hb1.size)
  have hst := start_rdc w2
  have hB3 := hB2.trans ((box_below w2 (.cells #[.int .i64 (-1), .int .i64 0, .int .i64 0, .int .i64 0, .string ⟨#[]⟩, .string ⟨#[]⟩, .bool false, .int .i64 1, .int .i64 0, .int .i64 0, .int .i64 0, .string ⟨#[]⟩, .string ⟨#[]⟩, .bool false] 48)).mono hB2.size)
  dsimp only [cutV, cutCells, firstC, lastC, noVer]
  go_wp2_with fail
  generalize hW : World.alloc w2 _ = W3
  have hst : RdC W3 W3.heap.size (some ⟨w2.heap.size, 0, none⟩) (cutsC []) := by rw [← hW]; exact hst
  have hB3 : Below w.heap.size w W3 := by rw [← hW]; exact hB3
  clear hW
  generalize w2.heap.size = b2 at *
  go_loopw [3, 4] (fun s i wr => ∃ (k m co : Nat) (Ao : Option Addr), k ≤ n ∧ s = .slice Ao m co ∧ i = .int .i64 k ∧ CutsAt w wr l Ao m co k) (fun _ i _ => n - (intOf i).toNat)
  case atStart => exact ⟨0, 2, 2, _, by omega, rfl, rfl, rfl, Nat.le_refl _, hst, hB3⟩
  case round =>
    obtain ⟨k, m, co, Ao, hk, rfl, rfl, hst⟩ := hrel
    have HM := Lib.hid hst.1
    have hmc := hst.2.1
    have HR := Lib.hid hst.2.2.1
    have hbw := hst.2.2.2
    clear hst hB3 hB2 hb1 hb2
    obtain ⟨hko, hk2, hkm⟩ := HD.out k (by rw [HL.out]; exact hk)
    have HK := Lib.hid hko
    clear hko
    rw [← HM.out] at hk2 hkm
    have hge := hbw.size
    by_cases hlt : k < n
    · have hrd := rds_below H.out (hbw.mono hB)
      obtain ⟨b, e, a, x, c, p, q, f, e', a', x', c', p', q', f', rfl, hbB, hs, ⟨hp, hq, hp', hq'⟩, k0, k1, k2, k3, k4, k5, k6, k7, k8, k9, k10, k11, k12, k13⟩ := rds_at hrd hok (k := k) (by rw [HL.out]; exact hlt)
      have i1 : (k : Int) < (n : Int) := by omega
      have HN := Lib.hid (cuts_succ hs)
      clear hs hrd
      have hbw2 : Below w.heap.size w wr.drew := hbw.drew
      go_wp2_with fail
      refine wp_region_held_drew (S := fun W => (W.cell? ⟨b, k * 14, none⟩ = some (.int .i64 e) ∧ W.cell? ⟨b, k * 14 + 1, none⟩ = some (.int .i64 a) ∧ W.cell? ⟨b, k * 14 + 2, none⟩ = some (.int .i64 x) ∧ W.cell? ⟨b, k * 14 + 3, none⟩ = some (.int .i64 c) ∧ W.cell? ⟨b, k * 14 + 4, none⟩ = some (.string p) ∧ W.cell? ⟨b, k * 14 + 5, none⟩ = some (.string q) ∧ W.cell? ⟨b, k * 14 + 6, none⟩ = some (.bool f) ∧ W.cell? ⟨b, k * 14 + 7, none⟩ = some (.int .i64 e') ∧ W.cell? ⟨b, k * 14 + 8, none⟩ = some (.int .i64 a') ∧ W.cell? ⟨b, k * 14 + 9, none⟩ = some (.int .i64 x') ∧ W.cell? ⟨b, k * 14 + 10, none⟩ = some (.int .i64 c') ∧ W.cell? ⟨b, k * 14 + 11, none⟩ = some (.string p') ∧ W.cell? ⟨b, k * 14 + 12, none⟩ = some (.string q') ∧ W.cell? ⟨b, k * 14 + 13, none⟩ = some (.bool f')) ∧ Below w.heap.size w W) (by kernel_rfl) ⟨⟨k0, k1, k2, k3, k4, k5, k6, k7, k8, k9, k10, k11, k12, k13⟩, hbw2⟩ (fun hHeld => ?_)
      refine takeD (i := 0) (d := some 14) (v := ?_) rfl rfl (by kernel_rfl) (by kernel_rfl) (by kernel_rfl) (fun _ _ _ h => h) (Or.inl ⟨by rfl, ?_⟩) (by assumption) ?_
      rotate_left
      · intro wS hSw; (try dsimp only at hSw); go_simp; (try with_reducible rfl)
      try simp only [Act.put, List.setIfInBounds_toArray, List.set_cons_zero, List.set_cons_succ]
      refine takeD (i := 1) (d := some 15) (v := ?_) rfl rfl (by kernel_rfl) (by kernel_rfl) (by kernel_rfl) (fun _ _ _ h => h) (Or.inl ⟨by rfl, ?_⟩) (by assumption) ?_
      rotate_left
      · intro wS hSw; (try dsimp only at hSw); go_simp; (try with_reducible rfl)
      try simp only [Act.put, List.setIfInBounds_toArray, List.set_cons_zero, List.set_cons_succ]
      refine takeD (i := 2) (d := some 16) (v := ?_) rfl rfl (by kernel_rfl) (by kernel_rfl) (by kernel_rfl) (fun _ _ _ h => h) (Or.inl ⟨by rfl, ?_⟩) (by assumption) ?_
      rotate_left
      · intro wS hSw; (try dsimp only at hSw); go_simp; (try with_reducible rfl)
      try simp only [Act.put, List.setIfInBounds_toArray, List.set_cons_zero, List.set_cons_succ]
      refine takeD (i := 3) (d := some 17) (v := ?_) rfl rfl (by kernel_rfl) (by kernel_rfl) (by kernel_rfl) (fun _ _ _ h => h) (Or.inl ⟨by rfl, ?_⟩) (by assumption) ?_
      rotate_left
      · intro wS hSw; (try dsimp only at hSw); go_simp; (try with_reducible rfl)
      try simp only [Act.put, List.setIfInBounds_toArray, List.set_cons_zero, List.set_cons_succ]
      refine takeD (i := 4) (d := some 18) (v := ?_) rfl rfl (by kernel_rfl) (by kernel_rfl) (by kernel_rfl) (fun _ _ _ h => h) (Or.inl ⟨by rfl, ?_⟩) (by assumption) ?_
      rotate_left
      · intro wS hSw; (try dsimp only at hSw); go_simp; (try with_reducible rfl)
      try simp only [Act.put, List.setIfInBounds_toArray, List.set_cons_zero, List.set_cons_succ]
      refine takeD (i := 5) (d := some 19) (v := ?_) rfl rfl (by kernel_rfl) (by kernel_rfl) (by kernel_rfl) (fun _ _ _ h => h) (Or.inl ⟨by rfl, ?_⟩) (by assumption) ?_
      rotate_left
      · intro wS hSw; (try dsimp only at hSw); go_simp; (try with_reducible rfl)
      try simp only [Act.put, List.setIfInBounds_toArray, List.set_cons_zero, List.set_cons_succ]
      refine takeD (i := 7) (d := some 21) (v := ?_) rfl rfl (by kernel_rfl) (by kernel_rfl) (by kernel_rfl) (fun _ _ _ h => h) (Or.inl ⟨by rfl, ?_⟩) (by assumption) ?_
      rotate_left
      · intro wS hSw; (try dsimp only at hSw); go_simp; (try with_reducible rfl)
      try simp only [Act.put, List.setIfInBounds_toArray, List.set_cons_zero, List.set_cons_succ]
      refine takeD (i := 8) (d := some 22) (v := ?_) rfl rfl (by kernel_rfl) (by kernel_rfl) (by kernel_rfl) (fun _ _ _ h => h) (Or.inl ⟨by rfl, ?_⟩) (by assumption) ?_
      rotate_left
      · intro wS hSw; (try dsimp only at hSw); go_simp; (try with_reducible rfl)
      try simp only [Act.put, List.setIfInBounds_toArray, List.set_cons_zero, List.set_cons_succ]
      refine takeD (i := 9) (d := some 23) (v := ?_) rfl rfl (by kernel_rfl) (by kernel_rfl) (by kernel_rfl) (fun _ _ _ h => h) (Or.inl ⟨by rfl, ?_⟩) (by assumption) ?_
      rotate_left
      · intro wS hSw; (try dsimp only at hSw); go_simp; (try with_reducible rfl)
      try simp only [Act.put, List.setIfInBounds_toArray, List.set_cons_zero, List.set_cons_succ]
      refine takeD (i := 10) (d := some 24) (v := ?_) rfl rfl (by kernel_rfl) (by kernel_rfl) (by kernel_rfl) (fun _ _ _ h => h) (Or.inl ⟨by rfl, ?_⟩) (by assumption) ?_
      rotate_left
      · intro wS hSw; (try dsimp only at hSw); go_simp; (try with_reducible rfl)
      try simp only [Act.put, List.setIfInBounds_toArray, List.set_cons_zero, List.set_cons_succ]
      refine takeD (i := 11) (d := some 25) (v := ?_) rfl rfl (by kernel_rfl) (by kernel_rfl) (by kernel_rfl) (fun _ _ _ h => h) (Or.inl ⟨by rfl, ?_⟩) (by assumption) ?_
      rotate_left
      · intro wS hSw; (try dsimp only at hSw); go_simp; (try with_reducible rfl)
      try simp only [Act.put, List.setIfInBounds_toArray, List.set_cons_zero, List.set_cons_succ]
      refine wpAnyH_ready (rs := [6]) (by kernel_rfl) (by simp) ?_
      refine consD (d := some 20) rfl rfl (fun K hK => ?_) AllReadyH.nil
      go_simp
      have hr0 : RdC wr.drew wr.heap.size Ao (cutsC (l.take k)) := HR.out
      have mp4 := rput_any Ao m co wr.heap.size (cutsC (l.take k)) e a x c p q f wr.drew hr0 HM.out.symm HK.out (Nat.le_refl _) (by omega) (by omega) hmc hp hq
      unfold cutW at mp4
      (go_at_call 88; (with_reducible refine (mp4).mono ?_); rintro r w4 ⟨A4, n4, cap4, rfl, hn4, hc4, hr4, hb4⟩)
      have HN4 := Lib.hid hn4
      clear hn4
      have hbM4 := hbw2.trans (hb4.mono hbw2.size)
      have hbb : b < wr.drew.heap.size := by show b < wr.heap.size; omega
      refine hK.out _ _ ⟨keep14 hb4 hbb hHeld.1, hbM4⟩ (fun hHeld => ?_)
      clear hK K
      try simp only [Act.put, List.setIfInBounds_toArray, List.set_cons_zero, List.set_cons_succ]
      refine wpAnyH_ready (rs := [12]) (by kernel_rfl) (by simp) ?_
      refine consD (d := some 26) rfl rfl (fun K hK => ?_) AllReadyH.nil
      go_simp
      have g1 := put_len (cutS e a x c p q f) (cutsC (l.take k))
      rw [← HM.out, ← HN4.out] at g1
      have hk4 := put_ok (c := cutS e a x c p q f) (by exact ⟨by show p.data.toList.length ≤ _; rw [len_size]; exact hp, by show q.data.toList.length ≤ _; rw [len_size]; exact hq⟩) HK.out
      have mp5 := rput_any A4 n4 cap4 w4.heap.size _ e' a' x' c' p' q' f' w4 hr4 HN4.out.symm hk4 (Nat.le_refl _) (by omega) (by omega) hc4 hp' hq'
      unfold cutW at mp5
      (go_at_call 88; (with_reducible refine (mp5).mono ?_); rintro r w5 ⟨A5, n5, cap5, rfl, hn5, hc5, hr5, hb5⟩)
      have HN5 := Lib.hid hn5
      clear hn5
      have hbM5 := hbM4.trans (hb5.mono hbM4.size)
      refine hK.out _ _ ⟨keep14 hb5 (Nat.lt_of_lt_of_le hbb hb4.size) hHeld.1, hbM5⟩ (fun hHeld => ?_)
      clear hK K
      try simp only [Act.put, List.setIfInBounds_toArray, List.set_cons_zero, List.set_cons_succ]
      refine takeD (i := 13) (d := some 3) (v := ?_) rfl rfl (by kernel_rfl) (by kernel_rfl) (by kernel_rfl) (fun _ _ _ h => h) (Or.inl ⟨by rfl, ?_⟩) (by assumption) ?_
      rotate_left
      · intro wS hSw; (try dsimp only at hSw); go_simp; (try with_reducible rfl)
      try simp only [Act.put, List.setIfInBounds_toArray, List.set_cons_zero, List.set_cons_succ]
      refine wpAnyH_done (by kernel_rfl) ?_ _
      go_wp2_with fail
      go_roundw
      case rel => exact ⟨k + 1, n5, cap5, A5, by omega, rfl, by go_num, by rw [HN.out]; exact HN5.out, hc5, by rw [HN.out]; exact hr5, hbM5⟩
      case measure => simp [intOf]; omega
    · obtain rfl : k = n := by omega
      have HE : Hid (cutsC (l.take k) = cutsC l) := by rw [List.take_of_length_le (by rw [HL.out]; exact Nat.le_refl _)]; exact rfl
      go_wp2_with fail
      go_ret
      exact ⟨Ao, m, co, rfl, by rw [← HE.out]; exact HM.out, hmc, by rw [← HE.out]; exact HR.out, hbw⟩
end Go.Proofs.YthaagngoefieaaaDoor
