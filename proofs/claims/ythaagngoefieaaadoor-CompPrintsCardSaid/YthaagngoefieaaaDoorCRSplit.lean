/-
  The walk of chapter 6's reference split. Conditions: the text's size.
-/
import Derived.Test.YthaagngoefieaaaDoorCBegins
import Derived.Test.YthaagngoefieaaaDoorCPrint
import Derived.Test.YthaagngoefieaaaDoorCPre
namespace Go.Proofs.YthaagngoefieaaaDoor
open Go.ChangeShapes Go.WideShapes Go.ChangeAt Go.RowKit
set_option linter.unusedVariables false
set_option linter.unusedSimpArgs false

theorem sign_fits {op : Int} {s : ByteArray} (h : (signL op).isPrefixOf s.data.toList = true) : (signS op).size ≤ s.size := by
  rw [List.isPrefixOf_iff_prefix] at h
  have := h.length_le
  rw [len_size] at this
  unfold signS
  rw [str_size]
  exact this
theorem sign_rest (op : Int) (s : ByteArray) : (s.extract (signS op).size s.size).data.toList = s.data.toList.drop (signL op).length := by
  rw [ext_list, List.take_of_length_le (by rw [len_size]; exact Nat.le_refl _)]
  unfold signS
  rw [str_size]
/-- The order in which the signs are tried. -/
def ordS : List Int := [2, 4, 6, 1, 3, 5, 7, 8]
def opAt (k : Nat) : Int := ordS.getD k 0
theorem op_at {k : Nat} (h : k < 8) : ordS[k]? = some (opAt k) := by
  rcases (show k = 0 ∨ k = 1 ∨ k = 2 ∨ k = 3 ∨ k = 4 ∨ k = 5 ∨ k = 6 ∨ k = 7 by omega) with rfl | rfl | rfl | rfl | rfl | rfl | rfl | rfl <;> rfl
/-- None of the first k signs. -/
def NoSign (l : List UInt8) (k : Nat) : Prop := ∀ j, j < k → (signL (opAt j)).isPrefixOf l = false
theorem nosign_succ {l : List UInt8} {k : Nat} (h : NoSign l k) (hk : (signL (opAt k)).isPrefixOf l = false) : NoSign l (k + 1) := by
  intro j hj
  rcases Nat.lt_succ_iff_lt_or_eq.1 hj with h1 | rfl
  · exact h j h1
  · exact hk
theorem signof_at {l : List UInt8} {k : Nat} (h : NoSign l k) (hk : k < 8) (hp : (signL (opAt k)).isPrefixOf l = true) : signOf l = opAt k := by
  have n : ∀ j, j < k → ¬ (signL (opAt j)).isPrefixOf l = true := fun j hj => by rw [h j hj]; decide
  unfold signOf
  rcases (show k = 0 ∨ k = 1 ∨ k = 2 ∨ k = 3 ∨ k = 4 ∨ k = 5 ∨ k = 6 ∨ k = 7 by omega) with rfl | rfl | rfl | rfl | rfl | rfl | rfl | rfl
  · exact (if_pos hp).trans rfl
  · exact (if_neg (n 0 (by omega))).trans ((if_pos hp).trans rfl)
  · exact (if_neg (n 0 (by omega))).trans ((if_neg (n 1 (by omega))).trans ((if_pos hp).trans rfl))
  · exact (if_neg (n 0 (by omega))).trans ((if_neg (n 1 (by omega))).trans ((if_neg (n 2 (by omega))).trans ((if_pos hp).trans rfl)))
  · exact (if_neg (n 0 (by omega))).trans ((if_neg (n 1 (by omega))).trans ((if_neg (n 2 (by omega))).trans ((if_neg (n 3 (by omega))).trans ((if_pos hp).trans rfl))))
  · exact (if_neg (n 0 (by omega))).trans ((if_neg (n 1 (by omega))).trans ((if_neg (n 2 (by omega))).trans ((if_neg (n 3 (by omega))).trans ((if_neg (n 4 (by omega))).trans ((if_pos hp).trans rfl)))))
  · exact (if_neg (n 0 (by omega))).trans ((if_neg (n 1 (by omega))).trans ((if_neg (n 2 (by omega))).trans ((if_neg (n 3 (by omega))).trans ((if_neg (n 4 (by omega))).trans ((if_neg (n 5 (by omega))).trans ((if_pos hp).trans rfl))))))
  · exact (if_neg (n 0 (by omega))).trans ((if_neg (n 1 (by omega))).trans ((if_neg (n 2 (by omega))).trans ((if_neg (n 3 (by omega))).trans ((if_neg (n 4 (by omega))).trans ((if_neg (n 5 (by omega))).trans ((if_neg (n 6 (by omega))).trans ((if_pos hp).trans rfl)))))))
theorem signof_none {l : List UInt8} (h : NoSign l 8) : signOf l = 9 := by
  have n : ∀ j, j < 8 → ¬ (signL (opAt j)).isPrefixOf l = true := fun j hj => by rw [h j hj]; decide
  unfold signOf
  exact (if_neg (n 0 (by omega))).trans ((if_neg (n 1 (by omega))).trans ((if_neg (n 2 (by omega))).trans ((if_neg (n 3 (by omega))).trans ((if_neg (n 4 (by omega))).trans ((if_neg (n 5 (by omega))).trans ((if_neg (n 6 (by omega))).trans ((if_neg (n 7 (by omega))).trans (rfl))))))))

/-- What the reference's split gives. -/
def SplitR (s : ByteArray) (e : Ending) : Prop :=
  ∃ op y, e = .returned (.tuple #[.int .i64 op, .string y]) ∧ ((op ≠ 9 ∧ signOf s.data.toList = op ∧ y.data.toList = s.data.toList.drop (signL op).length) ∨ (signOf s.data.toList = 9 ∧ y = s ∧ op = if s.data.toList.getLast? = some 42 then 9 else 7))

set_option maxHeartbeats 2000000 in
theorem rsplit6_any (s : ByteArray) (w : World) (hs : s.size ≤ 1048577) :
    Calls Tryd.prog 35 #[.string s] w fun e w' => SplitR s e ∧ Below w.heap.size w w' := by
  go_enter Tryd.func35, Tryd.ntmps35
  go_wp2
  generalize hW : w.alloc _ = W
  have hB : Below w.heap.size w W := by rw [← hW]; exact box_below _ _
  have hC : ∀ j u, (ordS.map (fun x => Value.int .i64 x))[j]? = some u → W.cell? ⟨w.heap.size, j, none⟩ = some u := by
    rw [← hW]
    exact fun j u hu => cells_below (cells_new w (ordS.map (fun x => Value.int .i64 x)) 3) (Nat.lt_succ_self _) (Below.refl _ _) j u hu
  have HC := Lib.hid hC
  clear hW hC
  go_loop [5, 6] (fun i _ => ∃ k : Nat, k ≤ 8 ∧ i = .int .i64 k ∧ NoSign s.data.toList k) (fun i _ => 8 - (intOf i).toNat)
  case atStart => exact ⟨0, by omega, rfl, fun j hj => absurd hj (by omega)⟩
  case round =>
    obtain ⟨k, hk, rfl, hn⟩ := hrel
    have HN := Lib.hid hn
    clear hn
    by_cases hlt : k < 8
    · have hc : W.cell? ⟨w.heap.size, k, none⟩ = some (.int .i64 (opAt k)) := HC.out k _ (by rw [List.getElem?_map, op_at hlt]; rfl)
      have i1 : (k : Int) < 8 := by omega
      have cb := fun V => rbegins_any s (signS (opAt k)) V hs (Nat.le_trans (sign_size _) (by omega))
      rw [sign_list] at cb
      have HP := Lib.hid (show opAt k ≠ 9 by
        rcases (show k = 0 ∨ k = 1 ∨ k = 2 ∨ k = 3 ∨ k = 4 ∨ k = 5 ∨ k = 6 ∨ k = 7 by omega) with rfl | rfl | rfl | rfl | rfl | rfl | rfl | rfl <;> decide)
      have cs := fun V => rsign_any (opAt k) V
      have hsz := sign_size (opAt k)
      cases hb : (signL (opAt k)).isPrefixOf s.data.toList
      · have HQ := Lib.hid (nosign_succ HN.out hb)
        rw [hb] at cb
        clear hb
        generalize signS (opAt k) = g at *
        go_wp2_with (first | (go_at_call 45; refine (cs _).mono ?_; rintro e w2 ⟨rfl, rfl⟩) | (go_at_call 67; refine (cb _).mono ?_; rintro e w2 ⟨rfl, rfl⟩))
        go_round
        case rel => exact ⟨k + 1, by omega, by go_num, HQ.out⟩
        case measure => simp [intOf]; omega
      · have HO := Lib.hid (signof_at HN.out hlt hb)
        have HR := Lib.hid (sign_rest (opAt k) s)
        have hft := sign_fits hb
        rw [hb] at cb
        clear hb
        generalize signS (opAt k) = g at *
        go_wp2_with (first | (go_at_call 45; refine (cs _).mono ?_; rintro e w2 ⟨rfl, rfl⟩) | (go_at_call 67; refine (cb _).mono ?_; rintro e w2 ⟨rfl, rfl⟩))
        go_quiet (fail)
        go_wp2
        go_ret2
        exact ⟨⟨_, _, rfl, Or.inl ⟨HP.out, HO.out, HR.out⟩⟩, below_drewN hB _⟩
    · obtain rfl : k = 8 := by omega
      have HO := Lib.hid (signof_none HN.out)
      by_cases h0 : s.size = 0
      · have HL := Lib.hid (show s.data.toList.getLast? = none by rw [List.getLast?_eq_none_iff]; exact List.eq_nil_of_length_eq_zero (by rw [len_size]; exact h0))
        have i1 : ¬ (0 : Int) < (s.size : Int) := by omega
        go_wp2
        go_ret2
        exact ⟨⟨_, _, rfl, Or.inr ⟨HO.out, rfl, by rw [HL.out]; rfl⟩⟩, hB⟩
      · have hlk : s.size - 1 < s.size := by omega
        have HL := Lib.hid (show s.data.toList.getLast? = some (s[s.size - 1]) by rw [List.getLast?_eq_getElem?, len_size]; exact byte_some s _ hlk)
        have i1 : (0 : Int) < (s.size : Int) := by omega
        have i2 : (s.size : Int) - 1 = ((s.size - 1 : Nat) : Int) := by omega
        by_cases hc : s[s.size - 1] = 42
        · have hbb : ((s[s.size - 1].toNat : Int) == 42) = true := by simp [hc]
          have HL2 := Lib.hid (show (if s.data.toList.getLast? = some 42 then (9 : Int) else 7) = 9 by rw [HL.out, hc]; rfl)
          clear hc HL
          go_wp2
          go_ret2
          exact ⟨⟨_, _, rfl, Or.inr ⟨HO.out, rfl, HL2.out.symm⟩⟩, hB⟩
        · have hbb : ((s[s.size - 1].toNat : Int) == 42) = false := by
            rw [beq_eq_false_iff_ne]
            exact fun e => hc (UInt8.toNat_inj.1 (by show _ = 42; omega))
          have HL2 := Lib.hid (show (if s.data.toList.getLast? = some 42 then (9 : Int) else 7) = 7 by rw [HL.out, if_neg (by simpa using hc)])
          clear hc HL
          go_wp2
          go_ret2
          exact ⟨⟨_, _, rfl, Or.inr ⟨HO.out, rfl, HL2.out.symm⟩⟩, hB⟩
end Go.Proofs.YthaagngoefieaaaDoor
