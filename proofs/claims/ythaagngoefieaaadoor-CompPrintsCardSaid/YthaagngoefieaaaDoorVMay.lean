/-
  The walks of chapter 2's May, the program's and the reference's. Conditions: Pre and Build have at most 1048576 bytes.
-/
import Derived.Test.YthaagngoefieaaaDoorVPre
namespace Go.Proofs.YthaagngoefieaaaDoor
open Go.ChangeShapes Go.WideShapes Go.ChangeAt Go.RowKit
set_option linter.unusedVariables false

/-- A version as the program holds it. -/
def verS (a b c : Int) (p q : ByteArray) : Ver := ⟨a, b, c, p.data.toList, q.data.toList⟩
theorem may_eq (a b c : Int) (p q : ByteArray) : mayV (verS a b c p q) = (fitsB a && fitsB b && fitsB c && optB true p.data.toList && optB false q.data.toList) := by
  unfold mayV verS optB; simp
theorem opt_pre {p : ByteArray} (h : 0 < p.size) : optB true p.data.toList = preB p.data.toList := by
  unfold optB; rw [list_nonempty h]; simp
theorem opt_tag {p : ByteArray} (h : 0 < p.size) : optB false p.data.toList = tagsB p.data.toList := by
  unfold optB; rw [list_nonempty h]; simp
theorem cells5 (w : World) (x0 x1 x2 x3 x4 : Value) (t : TypeId) {w' : World} (hb : Below (w.heap.size + 1) (w.alloc (.cells #[x0, x1, x2, x3, x4] t)) w') :
    w'.cell? ⟨w.heap.size, 0, none⟩ = some x0 ∧ w'.cell? ⟨w.heap.size, 1, none⟩ = some x1 ∧ w'.cell? ⟨w.heap.size, 2, none⟩ = some x2 ∧ w'.cell? ⟨w.heap.size, 3, none⟩ = some x3 ∧ w'.cell? ⟨w.heap.size, 4, none⟩ = some x4 := by
  refine ⟨?_, ?_, ?_, ?_, ?_⟩
  all_goals
    rw [hb.cell (by simp)]
    simp [go_sem]


/-- The facts that the walk of May takes: what the callees answer, each by its Bool. -/
theorem box_below (w : World) (o : Obj) : Below w.heap.size w (w.alloc o) := (Below.refl _ _).alloc (Nat.le_refl _) _

set_option maxHeartbeats 1000000 in
theorem may_n0 (a b c : Int) (p q : ByteArray) (w : World) (e1 : fitsB a = false) :
    Calls Tryd.prog 41 #[.agg #[.int .i64 a, .int .i64 b, .int .i64 c, .string p, .string q]] w fun e w' => e = .returned (.bool false) ∧ Below w.heap.size w w' := by
  go_enter Tryd.func41, Tryd.ntmps41
  go_wp2_with (go_at_call 70; refine (fits_any _ _).mono ?_; rintro e w3 ⟨rfl, rfl⟩)
  go_ret
  exact ⟨rfl, box_below _ _⟩
set_option maxHeartbeats 1000000 in
theorem may_n1 (a b c : Int) (p q : ByteArray) (w : World) (e1 : fitsB a = true) (e2 : fitsB b = false) :
    Calls Tryd.prog 41 #[.agg #[.int .i64 a, .int .i64 b, .int .i64 c, .string p, .string q]] w fun e w' => e = .returned (.bool false) ∧ Below w.heap.size w w' := by
  go_enter Tryd.func41, Tryd.ntmps41
  go_wp2_with (go_at_call 70; refine (fits_any _ _).mono ?_; rintro e w3 ⟨rfl, rfl⟩)
  go_ret
  exact ⟨rfl, box_below _ _⟩
set_option maxHeartbeats 1000000 in
theorem may_n2 (a b c : Int) (p q : ByteArray) (w : World) (e1 : fitsB a = true) (e2 : fitsB b = true) (e3 : fitsB c = false) :
    Calls Tryd.prog 41 #[.agg #[.int .i64 a, .int .i64 b, .int .i64 c, .string p, .string q]] w fun e w' => e = .returned (.bool false) ∧ Below w.heap.size w w' := by
  go_enter Tryd.func41, Tryd.ntmps41
  go_wp2_with (go_at_call 70; refine (fits_any _ _).mono ?_; rintro e w3 ⟨rfl, rfl⟩)
  go_ret
  exact ⟨rfl, box_below _ _⟩
set_option maxHeartbeats 1000000 in
theorem may_ee (a b c : Int) (p q : ByteArray) (w : World) (e1 : fitsB a = true) (e2 : fitsB b = true) (e3 : fitsB c = true) (he1 : p.toList.isEmpty = true) (he2 : q.toList.isEmpty = true) :
    Calls Tryd.prog 41 #[.agg #[.int .i64 a, .int .i64 b, .int .i64 c, .string p, .string q]] w fun e w' => e = .returned (.bool true) ∧ Below w.heap.size w w' := by
  go_enter Tryd.func41, Tryd.ntmps41
  go_wp2_with (go_at_call 70; refine (fits_any _ _).mono ?_; rintro e w3 ⟨rfl, rfl⟩)
  go_ret
  exact ⟨rfl, box_below _ _⟩
set_option maxHeartbeats 1000000 in
theorem may_et (a b c : Int) (p q : ByteArray) (w : World) (e1 : fitsB a = true) (e2 : fitsB b = true) (e3 : fitsB c = true) (he1 : p.toList.isEmpty = true) (he2 : q.toList.isEmpty = false) (qb : Bool) (htag : ∀ W : World, Calls Tryd.prog 72 #[.string q] W fun e w' => e = .returned (.bool qb) ∧ Below W.heap.size W w') :
    Calls Tryd.prog 41 #[.agg #[.int .i64 a, .int .i64 b, .int .i64 c, .string p, .string q]] w fun e w' => e = .returned (.bool qb) ∧ Below w.heap.size w w' := by
  go_enter Tryd.func41, Tryd.ntmps41
  go_wp2_with (first | (go_at_call 70; refine (fits_any _ _).mono ?_; rintro e w3 ⟨rfl, rfl⟩) | (go_at_call 72; refine (htag _).mono ?_; rintro e w4 ⟨rfl, hb4⟩))
  go_ret
  exact ⟨rfl, (box_below w _).trans (hb4.mono (by simp))⟩
set_option maxHeartbeats 1000000 in
theorem may_pe (a b c : Int) (p q : ByteArray) (w : World) (e1 : fitsB a = true) (e2 : fitsB b = true) (e3 : fitsB c = true) (he1 : p.toList.isEmpty = false) (he2 : q.toList.isEmpty = true) (pb : Bool) (hpre : ∀ W : World, Calls Tryd.prog 71 #[.string p] W fun e w' => e = .returned (.bool pb) ∧ Below W.heap.size W w') :
    Calls Tryd.prog 41 #[.agg #[.int .i64 a, .int .i64 b, .int .i64 c, .string p, .string q]] w fun e w' => e = .returned (.bool pb) ∧ Below w.heap.size w w' := by
  cases pb
  all_goals
    go_enter Tryd.func41, Tryd.ntmps41
    go_wp2_with (first | (go_at_call 70; refine (fits_any _ _).mono ?_; rintro e w3 ⟨rfl, rfl⟩) | (go_at_call 71; refine (hpre _).mono ?_; rintro e w2 ⟨rfl, hb2⟩; have hb3 := (box_below w _).trans (hb2.mono (by simp)); obtain ⟨k0, k1, k2, k3, k4⟩ := cells5 w _ _ _ _ _ _ (by simpa using hb2)))
    go_ret
    exact ⟨rfl, hb3⟩
set_option maxHeartbeats 1000000 in
theorem may_pt (a b c : Int) (p q : ByteArray) (w : World) (e1 : fitsB a = true) (e2 : fitsB b = true) (e3 : fitsB c = true) (he1 : p.toList.isEmpty = false) (he2 : q.toList.isEmpty = false) (pb : Bool) (hpre : ∀ W : World, Calls Tryd.prog 71 #[.string p] W fun e w' => e = .returned (.bool pb) ∧ Below W.heap.size W w') (qb : Bool) (htag : ∀ W : World, Calls Tryd.prog 72 #[.string q] W fun e w' => e = .returned (.bool qb) ∧ Below W.heap.size W w') :
    Calls Tryd.prog 41 #[.agg #[.int .i64 a, .int .i64 b, .int .i64 c, .string p, .string q]] w fun e w' => e = .returned (.bool (pb && qb)) ∧ Below w.heap.size w w' := by
  cases pb
  · go_enter Tryd.func41, Tryd.ntmps41
    go_wp2_with (first | (go_at_call 70; refine (fits_any _ _).mono ?_; rintro e w3 ⟨rfl, rfl⟩) | (go_at_call 71; refine (hpre _).mono ?_; rintro e w2 ⟨rfl, hb2⟩; have hb3 := (box_below w _).trans (hb2.mono (by simp)); obtain ⟨k0, k1, k2, k3, k4⟩ := cells5 w _ _ _ _ _ _ (by simpa using hb2)))
    go_ret
    exact ⟨rfl, hb3⟩
  · go_enter Tryd.func41, Tryd.ntmps41
    go_wp2_with (first | (go_at_call 70; refine (fits_any _ _).mono ?_; rintro e w3 ⟨rfl, rfl⟩) | (go_at_call 71; refine (hpre _).mono ?_; rintro e w2 ⟨rfl, hb2⟩; have hb3 := (box_below w _).trans (hb2.mono (by simp)); obtain ⟨k0, k1, k2, k3, k4⟩ := cells5 w _ _ _ _ _ _ (by simpa using hb2)) | (go_at_call 72; refine (htag _).mono ?_; rintro e w4 ⟨rfl, hb4⟩))
    go_ret
    exact ⟨rfl, hb3.trans (hb4.mono hb3.size)⟩

theorem may_any (a b c : Int) (p q : ByteArray) (w : World) (hp : p.size ≤ 1048576) (hq : q.size ≤ 1048576) :
    Calls Tryd.prog 41 #[.agg #[.int .i64 a, .int .i64 b, .int .i64 c, .string p, .string q]] w fun e w' => e = .returned (.bool (mayV (verS a b c p q))) ∧ Below w.heap.size w w' := by
  rw [may_eq]
  cases e1 : fitsB a
  · exact may_n0 a b c p q w e1
  cases e2 : fitsB b
  · exact may_n1 a b c p q w e1 e2
  cases e3 : fitsB c
  · exact may_n2 a b c p q w e1 e2 e3
  by_cases hp0 : p.size = 0
  · rw [opt_empty _ _ hp0]
    by_cases hq0 : q.size = 0
    · rw [opt_empty _ _ hq0]
      exact may_ee a b c p q w e1 e2 e3 (empty_str p hp0) (empty_str q hq0)
    · rw [opt_tag (by omega)]
      exact may_et a b c p q w e1 e2 e3 (empty_str p hp0) (empty_no (by omega)).1 _ (fun W => tags_any q W hq)
  · rw [opt_pre (by omega)]
    by_cases hq0 : q.size = 0
    · rw [opt_empty _ _ hq0]
      simp only [Bool.true_and, Bool.and_true]
      exact may_pe a b c p q w e1 e2 e3 (empty_no (by omega)).1 (empty_str q hq0) _ (fun W => pre_any p W hp)
    · rw [opt_tag (by omega)]
      exact may_pt a b c p q w e1 e2 e3 (empty_no (by omega)).1 (empty_no (by omega)).1 _ (fun W => pre_any p W hp) _ (fun W => tags_any q W hq)
set_option maxHeartbeats 1000000 in
theorem rmay_n0 (a b c : Int) (p q : ByteArray) (w : World) (e1 : fitsB a = false) :
    Calls Tryd.prog 42 #[.agg #[.int .i64 a, .int .i64 b, .int .i64 c, .string p, .string q]] w fun e w' => e = .returned (.bool false) ∧ Below w.heap.size w w' := by
  go_enter Tryd.func42, Tryd.ntmps42
  go_wp2_with (go_at_call 73; refine (num_any _ _).mono ?_; rintro e w3 ⟨rfl, rfl⟩)
  go_ret
  exact ⟨rfl, box_below _ _⟩
set_option maxHeartbeats 1000000 in
theorem rmay_n1 (a b c : Int) (p q : ByteArray) (w : World) (e1 : fitsB a = true) (e2 : fitsB b = false) :
    Calls Tryd.prog 42 #[.agg #[.int .i64 a, .int .i64 b, .int .i64 c, .string p, .string q]] w fun e w' => e = .returned (.bool false) ∧ Below w.heap.size w w' := by
  go_enter Tryd.func42, Tryd.ntmps42
  go_wp2_with (go_at_call 73; refine (num_any _ _).mono ?_; rintro e w3 ⟨rfl, rfl⟩)
  go_ret
  exact ⟨rfl, box_below _ _⟩
set_option maxHeartbeats 1000000 in
theorem rmay_n2 (a b c : Int) (p q : ByteArray) (w : World) (e1 : fitsB a = true) (e2 : fitsB b = true) (e3 : fitsB c = false) :
    Calls Tryd.prog 42 #[.agg #[.int .i64 a, .int .i64 b, .int .i64 c, .string p, .string q]] w fun e w' => e = .returned (.bool false) ∧ Below w.heap.size w w' := by
  go_enter Tryd.func42, Tryd.ntmps42
  go_wp2_with (go_at_call 73; refine (num_any _ _).mono ?_; rintro e w3 ⟨rfl, rfl⟩)
  go_ret
  exact ⟨rfl, box_below _ _⟩
set_option maxHeartbeats 1000000 in
theorem rmay_pt (a b c : Int) (p q : ByteArray) (w : World) (e1 : fitsB a = true) (e2 : fitsB b = true) (e3 : fitsB c = true) (pb : Bool) (hpre : ∀ W : World, Calls Tryd.prog 74 #[.string p, .bool true] W fun e w' => e = .returned (.bool pb) ∧ Below W.heap.size W w') (qb : Bool) (htag : ∀ W : World, Calls Tryd.prog 74 #[.string q, .bool false] W fun e w' => e = .returned (.bool qb) ∧ Below W.heap.size W w') :
    Calls Tryd.prog 42 #[.agg #[.int .i64 a, .int .i64 b, .int .i64 c, .string p, .string q]] w fun e w' => e = .returned (.bool (pb && qb)) ∧ Below w.heap.size w w' := by
  cases pb
  · go_enter Tryd.func42, Tryd.ntmps42
    go_wp2_with (first | (go_at_call 73; refine (num_any _ _).mono ?_; rintro e w3 ⟨rfl, rfl⟩) | (refine (hpre _).mono ?_; rintro e w2 ⟨rfl, hb2⟩; have hb3 := (box_below w _).trans (hb2.mono (by simp)); obtain ⟨k0, k1, k2, k3, k4⟩ := cells5 w _ _ _ _ _ _ (by simpa using hb2)))
    go_ret
    exact ⟨rfl, hb3⟩
  · go_enter Tryd.func42, Tryd.ntmps42
    go_wp2_with (go_at_call 73; refine (num_any _ _).mono ?_; rintro e w3 ⟨rfl, rfl⟩)
    refine (hpre _).mono ?_; rintro e w2 ⟨rfl, hb2⟩; have hb3 := (box_below w _).trans (hb2.mono (by simp)); obtain ⟨k0, k1, k2, k3, k4⟩ := cells5 w _ _ _ _ _ _ (by simpa using hb2)
    go_wp2_with fail
    refine (htag _).mono ?_
    rintro e w4 ⟨rfl, hb4⟩
    go_wp2
    go_ret
    exact ⟨rfl, hb3.trans (hb4.mono hb3.size)⟩

theorem rmay_any (a b c : Int) (p q : ByteArray) (w : World) (hp : p.size ≤ 1048576) (hq : q.size ≤ 1048576) :
    Calls Tryd.prog 42 #[.agg #[.int .i64 a, .int .i64 b, .int .i64 c, .string p, .string q]] w fun e w' => e = .returned (.bool (mayV (verS a b c p q))) ∧ Below w.heap.size w w' := by
  rw [may_eq]
  cases e1 : fitsB a
  · exact rmay_n0 a b c p q w e1
  cases e2 : fitsB b
  · exact rmay_n1 a b c p q w e1 e2
  cases e3 : fitsB c
  · exact rmay_n2 a b c p q w e1 e2 e3
  exact rmay_pt a b c p q w e1 e2 e3 _ (fun W => rtags_any p true W hp) _ (fun W => rtags_any q false W hq)
end Go.Proofs.YthaagngoefieaaaDoor
