/-
  Facts on decimal numbers for the walks of chapter 1. Conditions: none.
-/
import Derived.Test.YthaagngoefieaaaDoorIdBase
namespace Go.Proofs.YthaagngoefieaaaDoor

theorem num_yes {l : List UInt8} (h1 : 1 ≤ l.length) (h2 : l.length ≤ 4) (h3 : l.length = 1 ∨ (l.getD 0 0).toNat ≠ 48) (h4 : l.all digB = true) : numB l = (valL l, true) := by
  have : numOk l = true := by
    unfold numOk
    rw [h4]
    rcases h3 with h3 | h3
    · simp [h3]
    · rw [beq_eq_false_iff_ne.2 (fun e => h3 (by rw [e]; rfl))]
      simp [h1, h2]
  unfold numB
  rw [if_pos this]
theorem num_no {l : List UInt8} (h : l.length = 0 ∨ 4 < l.length ∨ (1 < l.length ∧ (l.getD 0 0).toNat = 48) ∨ l.all digB = false) : numB l = (0, false) := by
  have : numOk l = false := by
    unfold numOk
    rcases h with h | h | h | h
    · simp [h]
    · have : decide (l.length ≤ 4) = false := by simp; omega
      rw [this]; simp
    · have e : l.getD 0 0 = 48 := UInt8.toNat_inj.1 h.2
      rw [e]
      simp
      omega
    · rw [h, Bool.and_false]
  unfold numB
  rw [this]
  simp
theorem num_stop {s : ByteArray} {k : Nat} (h : k < s.size) (hc : ¬ (48 ≤ s[k].toNat ∧ s[k].toNat ≤ 57)) : numB s.data.toList = (0, false) :=
  num_no (Or.inr (Or.inr (Or.inr (all_stop (byte_some s k h) (dig_not hc)))))
theorem num_step {s : ByteArray} {k : Nat} (h : k < s.size) (hp : (s.data.toList.take k).all digB = true) (h1 : 48 ≤ s[k].toNat) (h2 : s[k].toNat ≤ 57) :
    (s.data.toList.take (k + 1)).all digB = true ∧ 10 * (valL (s.data.toList.take k) : Int) + ((s[k].toNat : Int) - 48) = (valL (s.data.toList.take (k + 1)) : Int) := by
  refine ⟨all_take_succ (byte_some s k h) hp ((dig_iff _).2 ⟨h1, h2⟩), ?_⟩
  rw [valL_take _ k _ (byte_some s k h)]
  omega
theorem val_bd {l : List UInt8} {k : Nat} (hk : k ≤ l.length) (h : (l.take k).all digB = true) : valL (l.take k) < 10 ^ k := by
  have := valL_lt (l.take k) h k (by simp; omega)
  rwa [List.take_take, Nat.min_self] at this
end Go.Proofs.YthaagngoefieaaaDoor
