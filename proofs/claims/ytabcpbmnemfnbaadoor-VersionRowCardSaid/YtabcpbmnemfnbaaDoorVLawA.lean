/-
  Small plain facts for chapter 2's laws. Conditions: none.
-/
import Derived.Test.YtabcpbmnemfnbaaDoorVHeld
import Derived.Test.YtabcpbmnemfnbaaDoorVBack
namespace Go.Proofs.YtabcpbmnemfnbaaDoor
open Go.RowKit

/-- What Bump and Next return has five fields and a bool, whatever it is. -/
theorem bump_vals (o : Option Ver) : ∃ (x0 x1 x2 : Int) (x3 x4 : ByteArray) (xb : Bool), bumpVal o = .tuple #[.agg #[.int .i64 x0, .int .i64 x1, .int .i64 x2, .string x3, .string x4], .bool xb] := by
  cases o with
  | none => exact ⟨0, 0, 0, ⟨#[]⟩, ⟨#[]⟩, false, rfl⟩
  | some v => exact ⟨v.maj, v.min, v.pat, ⟨v.pre.toArray⟩, ⟨v.build.toArray⟩, true, rfl⟩
theorem seg_le (c : UInt8) (t : List UInt8) : (segB c t).length ≤ t.length + 1 := by
  unfold segB
  split
  · simp
  · simp
theorem print_len {v : Ver} (h : mayV v = true) : (printV v).length ≤ 64 + v.pre.length + v.build.length := by
  obtain ⟨⟨a0, a1⟩, ⟨b0, b1⟩, ⟨c0, c1⟩⟩ := may_parts h
  have la := itoa_len a0 a1
  have lb := itoa_len b0 b1
  have lc := itoa_len c0 c1
  have h1 := seg_le 45 v.pre
  have h2 := seg_le 43 v.build
  rw [print_yes v h]
  unfold numsV
  simp only [List.length_append, List.length_cons]
  omega
theorem parse_nil : parseV [] = none := by decide +kernel
end Go.Proofs.YtabcpbmnemfnbaaDoor
