/-
  The walk of the statements' own Version: a version that may be, by five numbers. Conditions: the list's length and the place are bounded.
-/
import Derived.Test.YtabcpbmnemfnbaaDoorRow
import Derived.Test.YtabcpbmnemfnbaaDoorVRoom2
import Derived.StillTailTactics
namespace Go.Proofs.YtabcpbmnemfnbaaDoor
open Go.ChangeShapes Go.WideShapes Go.ChangeAt Go.RowKit
set_option linter.unusedVariables false

def numT (k : Nat) : Int := [(0 : Int), 1, 2, 3, 0, 1, 10, 9999].getD k 0
def preT (k : Nat) : ByteArray := ([⟨#[]⟩, ⟨#[]⟩, ⟨#[]⟩, ⟨#[]⟩, ⟨#[48]⟩, ⟨#[49]⟩, ⟨#[50]⟩, ⟨#[49, 49]⟩, ⟨#[97]⟩, ⟨#[97, 46, 49]⟩, ⟨#[97, 46, 98]⟩, ⟨#[98]⟩, ⟨#[48, 46, 48]⟩, ⟨#[114, 99, 46, 49]⟩] : List ByteArray).getD k ⟨#[]⟩
def buildT (k : Nat) : ByteArray := ([⟨#[]⟩, ⟨#[]⟩, ⟨#[]⟩, ⟨#[]⟩, ⟨#[48, 48, 55]⟩, ⟨#[120, 46, 49]⟩] : List ByteArray).getD k ⟨#[]⟩
theorem num_cell {k : Nat} (h : k < 8) : (#[.int .i64 0, .int .i64 1, .int .i64 2, .int .i64 3, .int .i64 0, .int .i64 1, .int .i64 10, .int .i64 9999] : Array Value)[k]? = some (.int .i64 (numT k)) := by
  have hk : k = 0 ∨ k = 1 ∨ k = 2 ∨ k = 3 ∨ k = 4 ∨ k = 5 ∨ k = 6 ∨ k = 7 := by omega
  rcases hk with rfl | rfl | rfl | rfl | rfl | rfl | rfl | rfl <;> rfl
theorem pre_cell {k : Nat} (h : k < 14) : (#[.string ⟨#[]⟩, .string ⟨#[]⟩, .string ⟨#[]⟩, .string ⟨#[]⟩, .string ⟨#[48]⟩, .string ⟨#[49]⟩, .string ⟨#[50]⟩, .string ⟨#[49, 49]⟩, .string ⟨#[97]⟩, .string ⟨#[97, 46, 49]⟩, .string ⟨#[97, 46, 98]⟩, .string ⟨#[98]⟩, .string ⟨#[48, 46, 48]⟩, .string ⟨#[114, 99, 46, 49]⟩] : Array Value)[k]? = some (.string (preT k)) := by
  have hk : k = 0 ∨ k = 1 ∨ k = 2 ∨ k = 3 ∨ k = 4 ∨ k = 5 ∨ k = 6 ∨ k = 7 ∨ k = 8 ∨ k = 9 ∨ k = 10 ∨ k = 11 ∨ k = 12 ∨ k = 13 := by omega
  rcases hk with rfl | rfl | rfl | rfl | rfl | rfl | rfl | rfl | rfl | rfl | rfl | rfl | rfl | rfl <;> rfl
theorem build_cell {k : Nat} (h : k < 6) : (#[.string ⟨#[]⟩, .string ⟨#[]⟩, .string ⟨#[]⟩, .string ⟨#[]⟩, .string ⟨#[48, 48, 55]⟩, .string ⟨#[120, 46, 49]⟩] : Array Value)[k]? = some (.string (buildT k)) := by
  have hk : k = 0 ∨ k = 1 ∨ k = 2 ∨ k = 3 ∨ k = 4 ∨ k = 5 := by omega
  rcases hk with rfl | rfl | rfl | rfl | rfl | rfl <;> rfl

theorem still_same' {P : Program} {f : FuncId} {args : Array Value} {w : World} {v : Value} (h : Calls P f args w fun e w' => e = .returned v ∧ w = w') : Calls P f args w fun e w' => e = .returned v ∧ w' = w :=
  h.mono fun _ _ h => ⟨h.1, h.2.symm⟩
theorem version_res (W : World) (tmps : Array Value) (b : Nat) {x0 x1 x2 x3 x4 : Value} (h2 : tmps[4]?.getD undef = .pointer (some ⟨b, 0, none⟩)) (h : Five W b x0 x1 x2 x3 x4) :
    (results Tryd.f24 tmps).run Tryd.prog W = .ok (.agg #[x0, x1, x2, x3, x4]) W := by
  obtain ⟨k0, k1, k2, k3, k4⟩ := h
  simp [results, Tryd.results24, h2, go_sem, k0, k1, k2, k3, k4]

set_option maxHeartbeats 4000000 in
theorem version_any (A : Option Addr) (c B : Nat) (l : List Int) (i : Int) (w : World) (h : Rd w B A l.length (l.map (Value.int .i64))) (hB : B ≤ w.heap.size) (hl : l.length ≤ maxLen) (hw : ∀ z ∈ l, (Lit.int .i64 z).wf = true) (i0 : 0 ≤ i) (i1 : i ≤ 1000) :
    Calls Tryd.prog 24 #[.slice A l.length c, .int .i64 i] w fun e w' => e = .returned (.agg #[.int .i64 (numT (fromN l i 8)), .int .i64 (numT (fromN l (i + 1) 8)), .int .i64 (numT (fromN l (i + 2) 8)), .string (preT (fromN l (i + 3) 14)), .string (buildT (fromN l (i + 4) 6))]) ∧ Below w.heap.size w w' := by
  have HRD := Lib.hid h
  have cf := fun j n W h h0 h1 => from_any A c B l j n W h hl hw h0 h1
  have k0 : fromN l i 8 < 8 := place_lt _ (by omega)
  have k1 : fromN l (i + 1) 8 < 8 := place_lt _ (by omega)
  have k2 : fromN l (i + 2) 8 < 8 := place_lt _ (by omega)
  have k3 : fromN l (i + 3) 14 < 14 := place_lt _ (by omega)
  have k4 : fromN l (i + 4) 6 < 6 := place_lt _ (by omega)
  have s1 : IntKind.i64.wrap (i + 1) = i + 1 := IntWalk.i64_in _ (by omega)
  have s2 : IntKind.i64.wrap (i + 2) = i + 2 := IntWalk.i64_in _ (by omega)
  have s3 : IntKind.i64.wrap (i + 3) = i + 3 := IntWalk.i64_in _ (by omega)
  have s4 : IntKind.i64.wrap (i + 4) = i + 4 := IntWalk.i64_in _ (by omega)
  clear h
  have c0 : ∀ W : World, Rd W B A l.length (l.map (Value.int .i64)) → Calls Tryd.prog 50 #[.slice A l.length c, .int .i64 i, .int .i64 8] W fun e w' => e = .returned (.int .i64 (fromN l i 8 : Nat)) ∧ w' = W := fun W h => still_same' (cf i 8 W h (by omega) (by omega))
  have c1 : ∀ W : World, Rd W B A l.length (l.map (Value.int .i64)) → Calls Tryd.prog 50 #[.slice A l.length c, .int .i64 (i + 1), .int .i64 8] W fun e w' => e = .returned (.int .i64 (fromN l (i + 1) 8 : Nat)) ∧ w' = W := fun W h => still_same' (cf (i + 1) 8 W h (by omega) (by omega))
  have c2 : ∀ W : World, Rd W B A l.length (l.map (Value.int .i64)) → Calls Tryd.prog 50 #[.slice A l.length c, .int .i64 (i + 2), .int .i64 8] W fun e w' => e = .returned (.int .i64 (fromN l (i + 2) 8 : Nat)) ∧ w' = W := fun W h => still_same' (cf (i + 2) 8 W h (by omega) (by omega))
  have c3 : ∀ W : World, Rd W B A l.length (l.map (Value.int .i64)) → Calls Tryd.prog 50 #[.slice A l.length c, .int .i64 (i + 3), .int .i64 14] W fun e w' => e = .returned (.int .i64 (fromN l (i + 3) 14 : Nat)) ∧ w' = W := fun W h => still_same' (cf (i + 3) 14 W h (by omega) (by omega))
  have c4 : ∀ W : World, Rd W B A l.length (l.map (Value.int .i64)) → Calls Tryd.prog 50 #[.slice A l.length c, .int .i64 (i + 4), .int .i64 6] W fun e w' => e = .returned (.int .i64 (fromN l (i + 4) 6 : Nat)) ∧ w' = W := fun W h => still_same' (cf (i + 4) 6 W h (by omega) (by omega))
  have E0 := Lib.hid (num_cell k0)
  have E1 := Lib.hid (num_cell k1)
  have E2 := Lib.hid (num_cell k2)
  have E3 := Lib.hid (pre_cell k3)
  have E4 := Lib.hid (build_cell k4)
  clear cf
  generalize fromN l i 8 = n0 at *
  generalize fromN l (i + 1) 8 = n1 at *
  generalize fromN l (i + 2) 8 = n2 at *
  generalize fromN l (i + 3) 14 = n3 at *
  generalize fromN l (i + 4) 6 = n4 at *
  generalize numT n0 = x0 at *
  generalize numT n1 = x1 at *
  generalize numT n2 = x2 at *
  generalize preT n3 = x3 at *
  generalize buildT n4 = x4 at *
  have j0 : (n0 : Int) < 8 := by omega
  have j1 : (n1 : Int) < 8 := by omega
  have j2 : (n2 : Int) < 8 := by omega
  have j3 : (n3 : Int) < 14 := by omega
  have j4 : (n4 : Int) < 6 := by omega
  go_enter Tryd.func24, Tryd.ntmps24
  go_wp2_with fail
  generalize hwb : (((w.alloc (.cells #[.int .i64 0, .int .i64 0, .int .i64 0, .string ⟨#[]⟩, .string ⟨#[]⟩] 24)).alloc (.cells #[.int .i64 0, .int .i64 1, .int .i64 2, .int .i64 3, .int .i64 0, .int .i64 1, .int .i64 10, .int .i64 9999] 59)).alloc (.cells #[.string ⟨#[]⟩, .string ⟨#[]⟩, .string ⟨#[]⟩, .string ⟨#[]⟩, .string ⟨#[48]⟩, .string ⟨#[49]⟩, .string ⟨#[50]⟩, .string ⟨#[49, 49]⟩, .string ⟨#[97]⟩, .string ⟨#[97, 46, 49]⟩, .string ⟨#[97, 46, 98]⟩, .string ⟨#[98]⟩, .string ⟨#[48, 46, 48]⟩, .string ⟨#[114, 99, 46, 49]⟩] 60)).alloc (.cells #[.string ⟨#[]⟩, .string ⟨#[]⟩, .string ⟨#[]⟩, .string ⟨#[]⟩, .string ⟨#[48, 48, 55]⟩, .string ⟨#[120, 46, 49]⟩] 61) = wb at *
  have hbb : Below w.heap.size w wb := by
    rw [← hwb]
    exact ((((Below.refl _ _).alloc (Nat.le_refl _) _).alloc (by simp) _).alloc (by simp; omega) _).alloc (by simp; omega) _
  have b0 : Room wb w.heap.size (.int .i64 0) (.int .i64 0) (.int .i64 0) (.string ⟨#[]⟩) (.string ⟨#[]⟩) := by
    rw [← hwb]
    exact room_below (room_below (room_below (room_new w _ _ _ _ _ _) (by simp) (box_below _ _)) (by simp; omega) (box_below _ _)) (by simp; omega) (box_below _ _)
  have b1 : Blk wb (w.heap.size + 1) 59 #[.int .i64 0, .int .i64 1, .int .i64 2, .int .i64 3, .int .i64 0, .int .i64 1, .int .i64 10, .int .i64 9999] := by
    have h := ((Blk.new (w.alloc (.cells #[.int .i64 0, .int .i64 0, .int .i64 0, .string ⟨#[]⟩, .string ⟨#[]⟩] 24)) 59 #[.int .i64 0, .int .i64 1, .int .i64 2, .int .i64 3, .int .i64 0, .int .i64 1, .int .i64 10, .int .i64 9999]).alloc (.cells #[.string ⟨#[]⟩, .string ⟨#[]⟩, .string ⟨#[]⟩, .string ⟨#[]⟩, .string ⟨#[48]⟩, .string ⟨#[49]⟩, .string ⟨#[50]⟩, .string ⟨#[49, 49]⟩, .string ⟨#[97]⟩, .string ⟨#[97, 46, 49]⟩, .string ⟨#[97, 46, 98]⟩, .string ⟨#[98]⟩, .string ⟨#[48, 46, 48]⟩, .string ⟨#[114, 99, 46, 49]⟩] 60)).alloc (.cells #[.string ⟨#[]⟩, .string ⟨#[]⟩, .string ⟨#[]⟩, .string ⟨#[]⟩, .string ⟨#[48, 48, 55]⟩, .string ⟨#[120, 46, 49]⟩] 61)
    rw [hwb] at h
    simpa using h
  have b2 : Blk wb (w.heap.size + 1 + 1) 60 #[.string ⟨#[]⟩, .string ⟨#[]⟩, .string ⟨#[]⟩, .string ⟨#[]⟩, .string ⟨#[48]⟩, .string ⟨#[49]⟩, .string ⟨#[50]⟩, .string ⟨#[49, 49]⟩, .string ⟨#[97]⟩, .string ⟨#[97, 46, 49]⟩, .string ⟨#[97, 46, 98]⟩, .string ⟨#[98]⟩, .string ⟨#[48, 46, 48]⟩, .string ⟨#[114, 99, 46, 49]⟩] := by
    have h := (Blk.new ((w.alloc (.cells #[.int .i64 0, .int .i64 0, .int .i64 0, .string ⟨#[]⟩, .string ⟨#[]⟩] 24)).alloc (.cells #[.int .i64 0, .int .i64 1, .int .i64 2, .int .i64 3, .int .i64 0, .int .i64 1, .int .i64 10, .int .i64 9999] 59)) 60 #[.string ⟨#[]⟩, .string ⟨#[]⟩, .string ⟨#[]⟩, .string ⟨#[]⟩, .string ⟨#[48]⟩, .string ⟨#[49]⟩, .string ⟨#[50]⟩, .string ⟨#[49, 49]⟩, .string ⟨#[97]⟩, .string ⟨#[97, 46, 49]⟩, .string ⟨#[97, 46, 98]⟩, .string ⟨#[98]⟩, .string ⟨#[48, 46, 48]⟩, .string ⟨#[114, 99, 46, 49]⟩]).alloc (.cells #[.string ⟨#[]⟩, .string ⟨#[]⟩, .string ⟨#[]⟩, .string ⟨#[]⟩, .string ⟨#[48, 48, 55]⟩, .string ⟨#[120, 46, 49]⟩] 61)
    rw [hwb] at h
    simpa using h
  have b3 : Blk wb (w.heap.size + 1 + 1 + 1) 61 #[.string ⟨#[]⟩, .string ⟨#[]⟩, .string ⟨#[]⟩, .string ⟨#[]⟩, .string ⟨#[48, 48, 55]⟩, .string ⟨#[120, 46, 49]⟩] := by
    have h := Blk.new (((w.alloc (.cells #[.int .i64 0, .int .i64 0, .int .i64 0, .string ⟨#[]⟩, .string ⟨#[]⟩] 24)).alloc (.cells #[.int .i64 0, .int .i64 1, .int .i64 2, .int .i64 3, .int .i64 0, .int .i64 1, .int .i64 10, .int .i64 9999] 59)).alloc (.cells #[.string ⟨#[]⟩, .string ⟨#[]⟩, .string ⟨#[]⟩, .string ⟨#[]⟩, .string ⟨#[48]⟩, .string ⟨#[49]⟩, .string ⟨#[50]⟩, .string ⟨#[49, 49]⟩, .string ⟨#[97]⟩, .string ⟨#[97, 46, 49]⟩, .string ⟨#[97, 46, 98]⟩, .string ⟨#[98]⟩, .string ⟨#[48, 46, 48]⟩, .string ⟨#[114, 99, 46, 49]⟩] 60)) 61 #[.string ⟨#[]⟩, .string ⟨#[]⟩, .string ⟨#[]⟩, .string ⟨#[]⟩, .string ⟨#[48, 48, 55]⟩, .string ⟨#[120, 46, 49]⟩]
    rw [hwb] at h
    simpa using h
  have hrb : Rd wb.drew B A l.length (l.map (Value.int .i64)) := rd_below HRD.out ((below_drewN hbb 1).mono hB)
  clear hwb
  have e0 := (b1.cell _).trans E0.out
  have e1 := (b1.cell _).trans E1.out
  have e2 := (b1.cell _).trans E2.out
  have e3 := (b2.cell _).trans E3.out
  have e4 := (b3.cell _).trans E4.out
  clear b1 b2 b3
  have d0 := c0 _ hrb
  have d1 := c1 _ hrb
  have d2 := c2 _ hrb
  have d3 := c3 _ hrb
  have d4 := c4 _ hrb
  clear c0 c1 c2 c3 c4 hrb
  refine wp_region_still_tail 29 (by kernel_rfl) (by kernel_rfl) ?_
  simp only [List.take_succ_cons, List.take_zero, List.drop_succ_cons, List.drop_zero]
  iterate 2 still_step
  still_call d0
  iterate 5 still_step
  still_call d1
  iterate 5 still_step
  still_call d2
  iterate 5 still_step
  still_call d3
  iterate 5 still_step
  still_call d4
  iterate 2 still_step
  refine wpStill_nil ?_
  change wpList _ _ _ _ _ wb.drew
  have b5 : Room wb.drew w.heap.size (.int .i64 0) (.int .i64 0) (.int .i64 0) (.string ⟨#[]⟩) (.string ⟨#[]⟩) := b0
  have hbd : Below w.heap.size w wb.drew := below_drewN hbb 1
  clear d0 d1 d2 d3 d4 e0 e1 e2 e3 e4 b0
  generalize wb.drew = wd at *
  obtain ⟨⟨l0, l1, l2, l3, l4⟩, lf⟩ := id b5
  have f0 := lf 0
  have f1 := lf 1
  have f2 := lf 2
  have f3 := lf 3
  have f4 := lf 4
  go_wp2_with fail
  have hput := room_put b5 (.int .i64 x0) (.int .i64 x1) (.int .i64 x2) (.string x3) (.string x4)
  refine bodyPost_ret (version_res _ _ w.heap.size rfl hput.1) rfl ?_
  refine ⟨rfl, ?_⟩
  go_grown
end Go.Proofs.YtabcpbmnemfnbaaDoor
