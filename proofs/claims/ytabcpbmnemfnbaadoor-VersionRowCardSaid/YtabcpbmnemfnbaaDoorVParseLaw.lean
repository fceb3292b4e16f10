/-
  Plain law of chapter 2's Parse: as the program decides it. Conditions: none.
-/
import Derived.Test.YtabcpbmnemfnbaaDoorVRParse
import Derived.Test.YtabcpbmnemfnbaaDoorVParsePlain
namespace Go.Proofs.YtabcpbmnemfnbaaDoor

theorem three_yes {ps : List (List UInt8)} (h : (threeR ps).2.2.2 = true) : ∃ a b c, ps = [a, b, c] ∧ (numB a).2 = true ∧ (numB b).2 = true ∧ (numB c).2 = true := by
  match ps, h with
  | [a, b, c], h =>
    simp only [threeR, Bool.and_eq_true] at h
    exact ⟨a, b, c, rfl, h.1.1, h.1.2, h.2⟩
theorem parse_prog (s : List UInt8) : parseV s =
    if (threeR (splitL (aheadL (aheadL s 43) 45) 46)).2.2.2 = true ∧
      mayV ⟨(threeR (splitL (aheadL (aheadL s 43) 45) 46)).1, (threeR (splitL (aheadL (aheadL s 43) 45) 46)).2.1, (threeR (splitL (aheadL (aheadL s 43) 45) 46)).2.2.1, (fromL (aheadL s 43) 45).tail, (fromL s 43).tail⟩ = true ∧
      printV ⟨(threeR (splitL (aheadL (aheadL s 43) 45) 46)).1, (threeR (splitL (aheadL (aheadL s 43) 45) 46)).2.1, (threeR (splitL (aheadL (aheadL s 43) 45) 46)).2.2.1, (fromL (aheadL s 43) 45).tail, (fromL s 43).tail⟩ = s
    then some ⟨(threeR (splitL (aheadL (aheadL s 43) 45) 46)).1, (threeR (splitL (aheadL (aheadL s 43) 45) 46)).2.1, (threeR (splitL (aheadL (aheadL s 43) 45) 46)).2.2.1, (fromL (aheadL s 43) 45).tail, (fromL s 43).tail⟩ else none := by
  rw [parse_eq]
  by_cases h : (threeR (splitL (aheadL (aheadL s 43) 45) 46)).2.2.2 = true
  · obtain ⟨a, b, c, hps, ha, hb, hc⟩ := three_yes h
    have hn := nums_three hps ha hb hc (fromL (aheadL s 43) 45).tail (fromL s 43).tail
    by_cases hm : mayV ⟨(threeR (splitL (aheadL (aheadL s 43) 45) 46)).1, (threeR (splitL (aheadL (aheadL s 43) 45) 46)).2.1, (threeR (splitL (aheadL (aheadL s 43) 45) 46)).2.2.1, (fromL (aheadL s 43) 45).tail, (fromL s 43).tail⟩ = true
    · have hpb := print_back hm (s := s) (by rw [hps]; exact hn) rfl rfl
      by_cases hx : (fromL (aheadL s 43) 45).length ≠ 1 ∧ (fromL s 43).length ≠ 1
      · rw [if_pos ⟨h, hx.1, hx.2, hm⟩, if_pos ⟨h, hm, hpb.2 hx⟩]
      · rw [if_neg (fun y => hx ⟨y.2.1, y.2.2.1⟩), if_neg (fun y => hx (hpb.1 y.2.2))]
    · rw [if_neg (fun y => hm y.2.2.2), if_neg (fun y => hm y.2.1)]
  · rw [if_neg (fun y => h y.1), if_neg (fun y => h y.1)]
end Go.Proofs.YtabcpbmnemfnbaaDoor
