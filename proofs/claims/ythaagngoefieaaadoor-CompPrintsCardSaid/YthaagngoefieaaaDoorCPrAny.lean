/-
  The contract of chapter 6's Print, the program's, of any comparator. Conditions: Pre and Build have at most 1048576 bytes; strconv's table reads as it is laid.
-/
import Derived.Test.YthaagngoefieaaaDoorCRPrint
namespace Go.Proofs.YthaagngoefieaaaDoor
open Go.ChangeShapes Go.WideShapes Go.ChangeAt Go.RowKit
set_option linter.unusedVariables false

theorem cprint_any (op ps a b c : Int) (p q : ByteArray) (w : World) (hT : Tab w) (hp : p.size ≤ 1048576) (hq : q.size ≤ 1048576) :
    Calls Tryd.prog 14 #[cvV op ps a b c p q] w fun e w' => e = .returned (.string ⟨(printC (cmpS op ps a b c p q)).toArray⟩) ∧ Below w.heap.size w w' := by
  cases hm : mayC (cmpS op ps a b c p q)
  · have hmay := fun W => cmay_any op ps a b c p q W hp hq
    rw [printC_no hm]
    rw [hm] at hmay
    unfold cvV at *
    go_enter Tryd.func14, Tryd.ntmps14
    go_wp2_with (go_at_call 15; refine (hmay _).mono ?_; rintro e w1 ⟨rfl, hb1⟩)
    go_ret
    exact ⟨rfl, (box_below w _).trans (hb1.mono (by simp))⟩
  · obtain ⟨-, -, -, ⟨h1, h2⟩, h3, -⟩ := may_c hm
    have hps := parts_c hm
    simp only [cmpS] at h1 h2 h3
    have h3' : p.size = 0 ∨ 3 ≤ ps := by
      rcases h3 with h3 | h3
      · left
        have : p.data.toList.length = 0 := by
          have h4 : p.data.toList = [] := h3
          rw [h4]; rfl
        rwa [len_size] at this
      · exact Or.inr h3
    unfold leastC at h1
    unfold mostC at h2
    by_cases h9 : op = 9
    · subst h9
      simp only [if_true] at h1 h2
      have hp0 : p.size = 0 := by omega
      rcases hps with rfl | rfl | rfl | rfl
      · exact cprint_star0 a b c p q w hT hp0 hq hm
      · exact cprint_star1 a b c p q w hT hp0 hq hm
      · exact cprint_star2 a b c p q w hT hp0 hq hm
      · omega
    · rw [if_neg h9] at h1 h2
      rcases hps with rfl | rfl | rfl | rfl
      · omega
      · exact cprint_op1 op a b c p q w hT h9 (by omega) hq hm
      · exact cprint_op2 op a b c p q w hT h9 (by omega) hq hm
      · by_cases hp0 : p.size = 0
        · exact cprint_op3 op a b c p q w hT h9 hp0 hq hm
        · exact cprint_op3p op a b c p q w hT h9 hp0 hp hq hm
end Go.Proofs.YthaagngoefieaaaDoor
