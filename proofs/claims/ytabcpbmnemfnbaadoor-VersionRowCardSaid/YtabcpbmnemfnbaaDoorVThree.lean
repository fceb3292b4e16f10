/-
  The walk of chapter 2's reference three. Conditions: the list reads as texts of at most 1048576 bytes.
-/
import Derived.Test.YtabcpbmnemfnbaaDoorVParts
import Derived.Handy
namespace Go.Proofs.YtabcpbmnemfnbaaDoor
open Go.ChangeShapes Go.WideShapes Go.ChangeAt Go.RowKit
set_option linter.unusedVariables false

/-- Three numbers and whether they are, of three texts. -/
def threeR (ps : List (List UInt8)) : Int × Int × Int × Bool :=
  match ps with
  | [a, b, c] => ((numB a).1, (numB b).1, (numB c).1, (numB a).2 && (numB b).2 && (numB c).2)
  | _ => (0, 0, 0, false)
theorem three_other {ps : List (List UInt8)} (h : ps.length ≠ 3) : threeR ps = (0, 0, 0, false) := by
  unfold threeR
  match ps, h with
  | [], _ => rfl
  | [_], _ => rfl
  | [_, _], _ => rfl
  | [_, _, _], h => exact absurd rfl h
  | _ :: _ :: _ :: _ :: _, _ => rfl
theorem old_cell (w : World) (b o B : Nat) (v : Value) (hb : b < B) (hB : B ≤ w.heap.size) (h : w.cell? ⟨b, o, none⟩ = some v) (o1 o2 : Obj) : ((w.alloc o1).alloc o2).cell? ⟨b, o, none⟩ = some v := by
  have hbel : Below w.heap.size w ((w.alloc o1).alloc o2) := (box_below w o1).alloc (by simp) o2
  exact (hbel.cell (p := ⟨b, o, none⟩) (Nat.lt_of_lt_of_le hb hB)).trans h
theorem two_below (w : World) (o1 o2 : Obj) : Below w.heap.size w ((w.alloc o1).alloc o2) := (box_below w o1).alloc (by simp) o2

set_option maxHeartbeats 2000000 in
theorem three_any (A : Option Addr) (c B : Nat) (ps : List (List UInt8)) (w : World) (hB : B ≤ w.heap.size) (h : Rd w B A ps.length (BS ps)) (hle : ∀ q ∈ ps, q.length ≤ 1048576) (hn : ps.length ≤ 1048577) :
    Calls Tryd.prog 36 #[.slice A ps.length c] w fun e w' => e = .returned (.tuple #[.agg #[.int .i64 (threeR ps).1, .int .i64 (threeR ps).2.1, .int .i64 (threeR ps).2.2.1, .string ⟨#[]⟩, .string ⟨#[]⟩], .bool (threeR ps).2.2.2]) ∧ Below w.heap.size w w' := by
  by_cases h3 : ps.length = 3
  · match ps, h3 with
    | [x, y, z], _ =>
      obtain ⟨b, off, p0, rfl, hb0, hp0, hc0⟩ := rds_cell h (k := 0) (by simp)
      obtain ⟨b', off', p1, e1, hb1, hp1, hc1⟩ := rds_cell h (k := 1) (by simp)
      obtain ⟨b'', off'', p2, e2, hb2, hp2, hc2⟩ := rds_cell h (k := 2) (by simp)
      injection e1 with e1
      injection e2 with e2
      cases e1
      cases e2
      cases hp0
      cases hp1
      cases hp2
      have hx := hle x (by simp)
      have hy := hle y (by simp)
      have hz := hle z (by simp)
      have nx := fun W => rnumber_any ⟨x.toArray⟩ W (by rw [str_size]; unfold maxLen; omega)
      have ny := fun W => rnumber_any ⟨y.toArray⟩ W (by rw [str_size]; unfold maxLen; omega)
      have nz := fun W => rnumber_any ⟨z.toArray⟩ W (by rw [str_size]; unfold maxLen; omega)
      dsimp only at nx ny nz
      show Calls _ _ _ _ (fun e w' => e = .returned (.tuple #[.agg #[.int .i64 (numB x).1, .int .i64 (numB y).1, .int .i64 (numB z).1, .string ⟨#[]⟩, .string ⟨#[]⟩], .bool ((numB x).2 && (numB y).2 && (numB z).2)]) ∧ Below w.heap.size w w')
      have c0 := old_cell w b _ B _ hb0 hB hc0
      have c1 := old_cell w b _ B _ hb0 hB hc1
      have c2 := old_cell w b _ B _ hb0 hB hc2
      clear h hle hx hy hz hc0 hc1 hc2
      generalize numB x = n0 at *
      generalize numB y = n1 at *
      generalize numB z = n2 at *
      generalize (⟨x.toArray⟩ : ByteArray) = tx at *
      generalize (⟨y.toArray⟩ : ByteArray) = ty at *
      generalize (⟨z.toArray⟩ : ByteArray) = tz at *
      obtain ⟨v0, i0⟩ := n0
      obtain ⟨v1, i1⟩ := n1
      obtain ⟨v2, i2⟩ := n2
      simp only [List.length_cons, List.length_nil, Nat.add_zero] at *
      cases i0 <;> cases i1 <;> cases i2
      all_goals
        go_enter Tryd.func36, Tryd.ntmps36
        go_wp2_with fail
        refine (nx _).mono ?_
        rintro e w1 ⟨rfl, rfl⟩
        go_wp2_with fail
        refine (ny _).mono ?_
        rintro e w1 ⟨rfl, rfl⟩
        go_wp2_with fail
        refine (nz _).mono ?_
        rintro e w1 ⟨rfl, rfl⟩
        go_wp2
        go_returns
        exact ⟨rfl, two_below _ _ _⟩
  · rw [three_other h3]
    have h3b : ((ps.length : Int) == 3) = false := by simp; omega
    have h3c : ((ps.length : Int) != 3) = true := by simp; omega
    generalize ps.length = n at *
    go_enter Tryd.func36, Tryd.ntmps36
    go_wp2
    go_returns
    exact ⟨rfl, two_below _ _ _⟩
end Go.Proofs.YtabcpbmnemfnbaaDoor
