/-
  The walk of chapter 2's awake. Conditions: strconv's table reads as it is laid.
-/
import Derived.Test.YtabcpbmnemfnbaaDoorVParse
import Derived.Test.YtabcpbmnemfnbaaDoorVComp
import Derived.Test.YtabcpbmnemfnbaaDoorVNext
import Derived.Test.YtabcpbmnemfnbaaDoorTab
namespace Go.Proofs.YtabcpbmnemfnbaaDoor
open Go.ChangeShapes Go.WideShapes Go.ChangeAt Go.RowKit
set_option linter.unusedVariables false

theorem parse_print {s : List UInt8} {v : Ver} (h : parseV s = some v) : printV v = s ∧ mayV v = true := by
  rw [parse_prog] at h
  split at h
  · rename_i hc
    obtain ⟨rfl⟩ := Option.some.inj h
    exact ⟨hc.2.2, hc.2.1⟩
  · cases h

theorem w_p1 : parseV (⟨#[49, 46, 50, 46, 51, 45, 114, 99, 46, 49, 43, 55]⟩ : ByteArray).data.toList = some (verS 1 2 3 ⟨#[114, 99, 46, 49]⟩ ⟨#[55]⟩) := by decide +kernel
theorem w_p2 : parseV (⟨#[49, 46, 50, 46, 51]⟩ : ByteArray).data.toList = some (verS 1 2 3 ⟨#[]⟩ ⟨#[]⟩) := by decide +kernel
theorem w_p3 : parseV (⟨#[49, 46, 48, 50, 46, 51]⟩ : ByteArray).data.toList = none := by decide +kernel
theorem w_next : nextV (verS 1 2 3 ⟨#[114, 99, 46, 49]⟩ ⟨#[55]⟩) = some (verS 1 2 3 ⟨#[]⟩ ⟨#[]⟩) := by decide +kernel
theorem w_comp : compV (verS 1 2 3 ⟨#[114, 99, 46, 49]⟩ ⟨#[55]⟩) (verS 1 2 3 ⟨#[]⟩ ⟨#[]⟩) = -1 := by decide +kernel

set_option maxHeartbeats 2000000 in
theorem awake_any (w : World) (hT : Tab w) :
    Calls Tryd.prog 13 #[] w fun e w' => e = .returned (.bool true) ∧ Below w.heap.size w w' := by
  have c1 : ∀ W : World, Tab W → Calls Tryd.prog 14 #[.string ⟨#[49, 46, 50, 46, 51, 45, 114, 99, 46, 49, 43, 55]⟩] W fun e w' => e = .returned (.tuple #[.agg #[.int .i64 1, .int .i64 2, .int .i64 3, .string ⟨#[114, 99, 46, 49]⟩, .string ⟨#[55]⟩], .int .i64 0]) ∧ Below W.heap.size W w' := by
    intro W h
    have := parse_any ⟨#[49, 46, 50, 46, 51, 45, 114, 99, 46, 49, 43, 55]⟩ W h (by decide)
    rw [w_p1] at this
    exact this
  have c2 : ∀ W : World, Tab W → Calls Tryd.prog 14 #[.string ⟨#[49, 46, 50, 46, 51]⟩] W fun e w' => e = .returned (.tuple #[.agg #[.int .i64 1, .int .i64 2, .int .i64 3, .string ⟨#[]⟩, .string ⟨#[]⟩], .int .i64 0]) ∧ Below W.heap.size W w' := by
    intro W h
    have := parse_any ⟨#[49, 46, 50, 46, 51]⟩ W h (by decide)
    rw [w_p2] at this
    exact this
  have c3 : ∀ W : World, Tab W → Calls Tryd.prog 14 #[.string ⟨#[49, 46, 48, 50, 46, 51]⟩] W fun e w' => e = .returned (.tuple #[.agg #[.int .i64 0, .int .i64 0, .int .i64 0, .string ⟨#[]⟩, .string ⟨#[]⟩], .int .i64 5]) ∧ Below W.heap.size W w' := by
    intro W h
    have := parse_any ⟨#[49, 46, 48, 50, 46, 51]⟩ W h (by decide)
    rw [w_p3] at this
    exact this
  have c4 : ∀ W : World, Calls Tryd.prog 27 #[.agg #[.int .i64 1, .int .i64 2, .int .i64 3, .string ⟨#[114, 99, 46, 49]⟩, .string ⟨#[55]⟩]] W fun e w' => e = .returned (.tuple #[.agg #[.int .i64 1, .int .i64 2, .int .i64 3, .string ⟨#[]⟩, .string ⟨#[]⟩], .bool true]) ∧ Below W.heap.size W w' := by
    intro W
    have := next_any 1 2 3 ⟨#[114, 99, 46, 49]⟩ ⟨#[55]⟩ W (by decide) (by decide)
    rw [w_next] at this
    exact this
  have c5 : ∀ W : World, Tab W → Calls Tryd.prog 16 #[.agg #[.int .i64 1, .int .i64 2, .int .i64 3, .string ⟨#[114, 99, 46, 49]⟩, .string ⟨#[55]⟩]] W fun e w' => e = .returned (.string ⟨#[49, 46, 50, 46, 51, 45, 114, 99, 46, 49, 43, 55]⟩) ∧ Below W.heap.size W w' := by
    intro W h
    have := print_any 1 2 3 ⟨#[114, 99, 46, 49]⟩ ⟨#[55]⟩ W h (by decide) (by decide)
    rw [(parse_print w_p1).1] at this
    exact this
  have c6 : ∀ W : World, Calls Tryd.prog 20 #[.agg #[.int .i64 1, .int .i64 2, .int .i64 3, .string ⟨#[114, 99, 46, 49]⟩, .string ⟨#[55]⟩], .agg #[.int .i64 1, .int .i64 2, .int .i64 3, .string ⟨#[]⟩, .string ⟨#[]⟩]] W fun e w' => e = .returned (.int .i64 (-1)) ∧ Below W.heap.size W w' := by
    intro W
    have := compare_any 1 2 3 ⟨#[114, 99, 46, 49]⟩ ⟨#[55]⟩ 1 2 3 ⟨#[]⟩ ⟨#[]⟩ W (by decide) (by decide) (by decide) (by decide)
    rw [w_comp] at this
    exact this
  have HT := Lib.hid hT
  clear hT
  go_enter Tryd.func13, Tryd.ntmps13
  go_wp2_with fail
  refine (c1 _ HT.out).mono ?_
  rintro e w0 ⟨rfl, hb⟩
  have hB := hb
  clear hb
  go_wp2_with fail
  have hv := (room_new w0 (.int .i64 1) (.int .i64 2) (.int .i64 3) (.string ⟨#[114, 99, 46, 49]⟩) (.string ⟨#[55]⟩) 24).1
  have zv : w0.heap.size < (w0.alloc (.cells #[.int .i64 1, .int .i64 2, .int .i64 3, .string ⟨#[114, 99, 46, 49]⟩, .string ⟨#[55]⟩] 24)).heap.size := by simp
  have hB := hB.trans ((box_below w0 (.cells #[.int .i64 1, .int .i64 2, .int .i64 3, .string ⟨#[114, 99, 46, 49]⟩, .string ⟨#[55]⟩] 24)).mono hB.size)
  generalize w0.alloc (.cells #[.int .i64 1, .int .i64 2, .int .i64 3, .string ⟨#[114, 99, 46, 49]⟩, .string ⟨#[55]⟩] 24) = W1 at *
  refine (c2 _ (tab_below HT.out hB)).mono ?_
  rintro e w2 ⟨rfl, hb⟩
  have hv := five_below hv zv hb
  have zv := Nat.lt_of_lt_of_le zv hb.size
  have hB := hB.trans ((hb).mono hB.size)
  clear hb
  obtain ⟨v0, v1, v2, v3, v4⟩ := id hv
  go_wp2_with fail
  clear v0 v1 v2 v3 v4
  have hv := five_below hv zv (box_below w2 (.cells #[.int .i64 1, .int .i64 2, .int .i64 3, .string ⟨#[]⟩, .string ⟨#[]⟩] 24))
  have zv := Nat.lt_of_lt_of_le zv (box_below w2 (.cells #[.int .i64 1, .int .i64 2, .int .i64 3, .string ⟨#[]⟩, .string ⟨#[]⟩] 24)).size
  have hu := (room_new w2 (.int .i64 1) (.int .i64 2) (.int .i64 3) (.string ⟨#[]⟩) (.string ⟨#[]⟩) 24).1
  have zu : w2.heap.size < (w2.alloc (.cells #[.int .i64 1, .int .i64 2, .int .i64 3, .string ⟨#[]⟩, .string ⟨#[]⟩] 24)).heap.size := by simp
  have hB := hB.trans ((box_below w2 (.cells #[.int .i64 1, .int .i64 2, .int .i64 3, .string ⟨#[]⟩, .string ⟨#[]⟩] 24)).mono hB.size)
  generalize w2.alloc (.cells #[.int .i64 1, .int .i64 2, .int .i64 3, .string ⟨#[]⟩, .string ⟨#[]⟩] 24) = W3 at *
  refine (c4 _).mono ?_
  rintro e w4 ⟨rfl, hb⟩
  have hv := five_below hv zv hb
  have zv := Nat.lt_of_lt_of_le zv hb.size
  have hu := five_below hu zu hb
  have zu := Nat.lt_of_lt_of_le zu hb.size
  have hB := hB.trans ((hb).mono hB.size)
  clear hb
  go_wp2_with fail
  have hv := five_below hv zv (box_below w4 (.cells #[.int .i64 1, .int .i64 2, .int .i64 3, .string ⟨#[]⟩, .string ⟨#[]⟩] 24))
  have zv := Nat.lt_of_lt_of_le zv (box_below w4 (.cells #[.int .i64 1, .int .i64 2, .int .i64 3, .string ⟨#[]⟩, .string ⟨#[]⟩] 24)).size
  have hu := five_below hu zu (box_below w4 (.cells #[.int .i64 1, .int .i64 2, .int .i64 3, .string ⟨#[]⟩, .string ⟨#[]⟩] 24))
  have zu := Nat.lt_of_lt_of_le zu (box_below w4 (.cells #[.int .i64 1, .int .i64 2, .int .i64 3, .string ⟨#[]⟩, .string ⟨#[]⟩] 24)).size
  have hn := (room_new w4 (.int .i64 1) (.int .i64 2) (.int .i64 3) (.string ⟨#[]⟩) (.string ⟨#[]⟩) 24).1
  have zn : w4.heap.size < (w4.alloc (.cells #[.int .i64 1, .int .i64 2, .int .i64 3, .string ⟨#[]⟩, .string ⟨#[]⟩] 24)).heap.size := by simp
  have hB := hB.trans ((box_below w4 (.cells #[.int .i64 1, .int .i64 2, .int .i64 3, .string ⟨#[]⟩, .string ⟨#[]⟩] 24)).mono hB.size)
  generalize w4.alloc (.cells #[.int .i64 1, .int .i64 2, .int .i64 3, .string ⟨#[]⟩, .string ⟨#[]⟩] 24) = W5 at *
  refine (c3 _ (tab_below HT.out hB)).mono ?_
  rintro e w6 ⟨rfl, hb⟩
  have hv := five_below hv zv hb
  have zv := Nat.lt_of_lt_of_le zv hb.size
  have hu := five_below hu zu hb
  have zu := Nat.lt_of_lt_of_le zu hb.size
  have hn := five_below hn zn hb
  have zn := Nat.lt_of_lt_of_le zn hb.size
  have hB := hB.trans ((hb).mono hB.size)
  clear hb
  obtain ⟨v0, v1, v2, v3, v4⟩ := id hv
  go_wp2_with fail
  clear v0 v1 v2 v3 v4
  have hv := five_below hv zv (box_below w6 (.cells #[.int .i64 0, .int .i64 0, .int .i64 0, .string ⟨#[]⟩, .string ⟨#[]⟩] 24))
  have zv := Nat.lt_of_lt_of_le zv (box_below w6 (.cells #[.int .i64 0, .int .i64 0, .int .i64 0, .string ⟨#[]⟩, .string ⟨#[]⟩] 24)).size
  have hu := five_below hu zu (box_below w6 (.cells #[.int .i64 0, .int .i64 0, .int .i64 0, .string ⟨#[]⟩, .string ⟨#[]⟩] 24))
  have zu := Nat.lt_of_lt_of_le zu (box_below w6 (.cells #[.int .i64 0, .int .i64 0, .int .i64 0, .string ⟨#[]⟩, .string ⟨#[]⟩] 24)).size
  have hn := five_below hn zn (box_below w6 (.cells #[.int .i64 0, .int .i64 0, .int .i64 0, .string ⟨#[]⟩, .string ⟨#[]⟩] 24))
  have zn := Nat.lt_of_lt_of_le zn (box_below w6 (.cells #[.int .i64 0, .int .i64 0, .int .i64 0, .string ⟨#[]⟩, .string ⟨#[]⟩] 24)).size
  have hx := (room_new w6 (.int .i64 0) (.int .i64 0) (.int .i64 0) (.string ⟨#[]⟩) (.string ⟨#[]⟩) 24).1
  have zx : w6.heap.size < (w6.alloc (.cells #[.int .i64 0, .int .i64 0, .int .i64 0, .string ⟨#[]⟩, .string ⟨#[]⟩] 24)).heap.size := by simp
  have hB := hB.trans ((box_below w6 (.cells #[.int .i64 0, .int .i64 0, .int .i64 0, .string ⟨#[]⟩, .string ⟨#[]⟩] 24)).mono hB.size)
  generalize w6.alloc (.cells #[.int .i64 0, .int .i64 0, .int .i64 0, .string ⟨#[]⟩, .string ⟨#[]⟩] 24) = W7 at *
  refine (c5 _ (tab_below HT.out hB)).mono ?_
  rintro e w8 ⟨rfl, hb⟩
  have hv := five_below hv zv hb
  have zv := Nat.lt_of_lt_of_le zv hb.size
  have hu := five_below hu zu hb
  have zu := Nat.lt_of_lt_of_le zu hb.size
  have hn := five_below hn zn hb
  have zn := Nat.lt_of_lt_of_le zn hb.size
  have hx := five_below hx zx hb
  have zx := Nat.lt_of_lt_of_le zx hb.size
  have hB := hB.trans ((hb).mono hB.size)
  clear hb
  obtain ⟨v0, v1, v2, v3, v4⟩ := id hv
  obtain ⟨u0, u1, u2, u3, u4⟩ := id hu
  go_wp2_with fail
  clear v0 v1 v2 v3 v4 u0 u1 u2 u3 u4
  refine (c6 _).mono ?_
  rintro e w9 ⟨rfl, hb⟩
  have hv := five_below hv zv hb
  have zv := Nat.lt_of_lt_of_le zv hb.size
  have hu := five_below hu zu hb
  have zu := Nat.lt_of_lt_of_le zu hb.size
  have hn := five_below hn zn hb
  have zn := Nat.lt_of_lt_of_le zn hb.size
  have hx := five_below hx zx hb
  have zx := Nat.lt_of_lt_of_le zx hb.size
  have hB := hB.trans ((hb).mono hB.size)
  clear hb
  obtain ⟨u0, u1, u2, u3, u4⟩ := id hu
  obtain ⟨n0, n1, n2, n3, n4⟩ := id hn
  go_wp2_with fail
  go_ret
  exact ⟨rfl, hB⟩
end Go.Proofs.YtabcpbmnemfnbaaDoor
