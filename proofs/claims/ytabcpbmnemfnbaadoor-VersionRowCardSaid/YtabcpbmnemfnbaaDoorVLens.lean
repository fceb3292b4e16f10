/-
  Lengths of a version's texts. Conditions: none.
-/
import Derived.Test.YtabcpbmnemfnbaaDoorVAwake
namespace Go.Proofs.YtabcpbmnemfnbaaDoor

theorem seg_len (c : UInt8) (t : List UInt8) : t.length ≤ (segB c t).length := by
  unfold segB
  split
  · rename_i h; subst h; simp
  · simp
theorem print_lens {v : Ver} (h : mayV v = true) : v.pre.length ≤ (printV v).length ∧ v.build.length ≤ (printV v).length := by
  rw [print_yes v h]
  have h1 := seg_len 45 v.pre
  have h2 := seg_len 43 v.build
  simp only [List.length_append]
  omega
theorem parse_lens {s : ByteArray} {r0 r1 r2 : Int} {r3 r4 : List UInt8} (h : parseV s.data.toList = some ⟨r0, r1, r2, r3, r4⟩) {n : Nat} (hn : s.size ≤ n) : (⟨r3.toArray⟩ : ByteArray).size ≤ n ∧ (⟨r4.toArray⟩ : ByteArray).size ≤ n := by
  obtain ⟨hp, hm⟩ := parse_print h
  obtain ⟨h1, h2⟩ := print_lens hm
  rw [hp, len_size] at h1 h2
  rw [str_size, str_size]
  exact ⟨Nat.le_trans h1 hn, Nat.le_trans h2 hn⟩
end Go.Proofs.YtabcpbmnemfnbaaDoor
