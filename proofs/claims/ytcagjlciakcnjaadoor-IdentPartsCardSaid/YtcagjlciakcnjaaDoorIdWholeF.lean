/-
  Facts for the laws on cutting and joining of chapter 1. Conditions: none.
-/
import Derived.Test.YtcagjlciakcnjaaDoorIdAwake
namespace Go.Proofs.YtcagjlciakcnjaaDoor
open Go.RowKit

theorem mem_join_le {ps : List (List UInt8)} {p : List UInt8} (b : UInt8) (h : p ∈ ps) : p.length ≤ (joinL ps b).length := by
  cases ps with
  | nil => simp at h
  | cons q r =>
    unfold joinL
    rw [List.length_append]
    rcases List.mem_cons.1 h with rfl | h
    · omega
    · obtain ⟨s, t, rfl⟩ := List.append_of_mem h
      rw [List.flatMap_append, List.flatMap_cons, List.length_append, List.length_append, List.length_cons]
      omega
theorem piece_no {p : List UInt8} {b : UInt8} (h : b ∉ p) (k : Nat) (hk : k < (⟨p.toArray⟩ : ByteArray).size) : (((⟨p.toArray⟩ : ByteArray)[k]'hk).toNat : Int) ≠ (b.toNat : Int) := by
  intro e
  apply h
  have e2 : (⟨p.toArray⟩ : ByteArray)[k]'hk = b := UInt8.toNat_inj.1 (by omega)
  have e3 := byte_some ⟨p.toArray⟩ k hk
  rw [e2] at e3
  exact List.mem_of_getElem? e3
theorem count_take (s : ByteArray) (b : UInt8) (k : Nat) (h : k < s.size) : (s.data.toList.take (k + 1)).count b = (s.data.toList.take k).count b + if s[k] = b then 1 else 0 := by
  have hb := byte_some s k h
  obtain ⟨hlt, he⟩ := List.getElem?_eq_some_iff.1 hb
  rw [List.take_succ_eq_append_getElem hlt, List.count_append, he, List.count_singleton]
  simp [beq_iff_eq]
theorem count_le (l : List UInt8) (b : UInt8) (k : Nat) : (l.take k).count b ≤ k := Nat.le_trans List.count_le_length (by simp; omega)
theorem back (s : ByteArray) : (⟨s.data.toList.toArray⟩ : ByteArray) = s := by
  obtain ⟨a⟩ := s
  simp
end Go.Proofs.YtcagjlciakcnjaaDoor
