/-
  Chapter 36: the walk of the statements' awake. Conditions: strconv's table reads as it is laid.
-/
import Derived.Test.YtmfdpdnokiidlaaDoorHLow
import Derived.Test.YtmfdpdnokiidlaaDoorHLaws
namespace Go.Proofs.YtmfdpdnokiidlaaDoor
open Go.ChangeShapes Go.WideShapes Go.ChangeAt Go.RowKit
set_option linter.unusedVariables false
set_option linter.unusedSimpArgs false

theorem rd_cells {W : World} {b B : Nat} {xs : List Value} (h : Cells W b xs) (hb : b < B) : Rd W B (some ⟨b, 0, none⟩) xs.length xs :=
  ⟨rfl, fun _ => ⟨b, 0, rfl, hb, fun j u hu => by rw [Nat.zero_add]; exact h j u hu⟩⟩
theorem rdI_cells {W : World} {b B : Nat} {l : List Int} (h : Cells W b (l.map (Value.int .i64))) (hb : b < B) : RdI W B (some ⟨b, 0, none⟩) l := by
  have := rd_cells h hb
  rwa [List.length_map] at this
theorem rdK_cells {W : World} {b B : Nat} {l : List Tm} (h : Cells W b (l.flatMap tmCells)) (hb : b < B) : RdK W B (some ⟨b, 0, none⟩) l := fun _ =>
  ⟨b, 0, rfl, hb, fun j x hx => by
    have c0 := h (j * 2 + 0) _ ((flat_tm l j 0 x hx (by omega)).trans rfl)
    have c1 := h (j * 2 + 1) _ ((flat_tm l j 1 x hx (by omega)).trans rfl)
    rw [Nat.zero_add]
    exact ⟨c0, c1⟩⟩
def awT : List (List Int) := [[0, 3], [0, 1, 5]]
def awK : List (List Tm) := [[⟨0, 1⟩, ⟨1, 1⟩], [⟨1, 3⟩]]
theorem aw_low : lowP SRT awT awK = some (5, [0, 5]) := by decide +kernel
theorem aw_no : lowP SRT awT [[]] = none := by decide +kernel
theorem aw_hit : hitsR awT [0, 5] [⟨1, 3⟩] = true := by decide +kernel
theorem aw_rdT {W : World} {B b0 b1 b2 : Nat} (h0 : Cells W b0 [.int .i64 0, .int .i64 3]) (h1 : Cells W b1 [.int .i64 0, .int .i64 1, .int .i64 5]) (h2 : Cells W b2 [.slice (some ⟨b0, 0, none⟩) 2 2, .slice (some ⟨b1, 0, none⟩) 3 3]) (k0 : b0 < B) (k1 : b1 < B) (k2 : b2 < B) : RdT W B (some ⟨b2, 0, none⟩) awT := by
  refine ⟨_, rd_cells h2 k2, fun i r hr => ?_⟩
  match i, hr with
  | 0, hr => cases hr; exact ⟨_, _, rfl, by decide, rdI_cells (l := [0, 3]) h0 k0⟩
  | 1, hr => cases hr; exact ⟨_, _, rfl, by decide, rdI_cells (l := [0, 1, 5]) h1 k1⟩
  | i + 2, hr => simp [awT] at hr
theorem aw_rdK {W : World} {B b0 b1 b2 : Nat} (h0 : Cells W b0 [.int .i64 0, .int .i64 1, .int .i64 1, .int .i64 1]) (h1 : Cells W b1 [.int .i64 1, .int .i64 3]) (h2 : Cells W b2 [.slice (some ⟨b0, 0, none⟩) 2 2, .slice (some ⟨b1, 0, none⟩) 1 1]) (k0 : b0 < B) (k1 : b1 < B) (k2 : b2 < B) : RdKK W B (some ⟨b2, 0, none⟩) awK := by
  refine ⟨_, rd_cells h2 k2, fun i r hr => ?_⟩
  match i, hr with
  | 0, hr => cases hr; exact ⟨_, _, rfl, by decide, rdK_cells (l := [⟨0, 1⟩, ⟨1, 1⟩]) h0 k0⟩
  | 1, hr => cases hr; exact ⟨_, _, rfl, by decide, rdK_cells (l := [⟨1, 3⟩]) h1 k1⟩
  | i + 2, hr => simp [awK] at hr
theorem aw_rdN {W : World} {B b : Nat} (h : Cells W b [.slice none 0 0]) (hb : b < B) : RdKK W B (some ⟨b, 0, none⟩) [[]] := by
  refine ⟨_, rd_cells h hb, fun i r hr => ?_⟩
  match i, hr with
  | 0, hr => cases hr; exact ⟨_, _, rfl, by decide, fun h => absurd h (by decide)⟩
  | i + 1, hr => simp at hr
theorem aw_ok : TabOk awT := by
  intro r hr
  simp only [awT, List.mem_cons, List.not_mem_nil, or_false] at hr
  rcases hr with rfl | rfl <;> refine ⟨⟨by decide, by decide⟩, fun x hx => ?_⟩ <;> simp at hx <;> omega
set_option maxRecDepth 8192 in
set_option maxHeartbeats 8000000 in
theorem awake_any (w : World) (hT : Tab w) : Calls Tryd.prog 9 #[] w fun e w' => e = .returned (.bool true) ∧ Below w.heap.size w w' := by
  have HT := Lib.hid (fun (W : World) (hb : Below w.heap.size w W) => tab_below hT hb)
  clear hT
  have hL := loc_new (loc_new (loc_new (loc_new (loc_new (loc_new (loc_start w) w.heap.size [.int .i64 0, .int .i64 3] 3) (w.heap.size + 1) [.int .i64 0, .int .i64 1, .int .i64 5] 3) (w.heap.size + 1 + 1) [.slice (some ⟨w.heap.size, 0, none⟩) 2 2, .slice (some ⟨w.heap.size + 1, 0, none⟩) 3 3] 22) (w.heap.size + 1 + 1 + 1) [.int .i64 0, .int .i64 1, .int .i64 1, .int .i64 1] 39) (w.heap.size + 1 + 1 + 1 + 1) [.int .i64 1, .int .i64 3] 39) (w.heap.size + 1 + 1 + 1 + 1 + 1) [.slice (some ⟨w.heap.size + 1 + 1 + 1, 0, none⟩) 2 2, .slice (some ⟨w.heap.size + 1 + 1 + 1 + 1, 0, none⟩) 1 1] 33
  go_enter Tryd.func9, Tryd.ntmps9
  go_wp2_with fail
  generalize hW : World.alloc _ _ = W6
  have hL6 : Loc w W6 [(w.heap.size, [.int .i64 0, .int .i64 3]), (w.heap.size + 1, [.int .i64 0, .int .i64 1, .int .i64 5]), (w.heap.size + 1 + 1, [.slice (some ⟨w.heap.size, 0, none⟩) 2 2, .slice (some ⟨w.heap.size + 1, 0, none⟩) 3 3]), (w.heap.size + 1 + 1 + 1, [.int .i64 0, .int .i64 1, .int .i64 1, .int .i64 1]), (w.heap.size + 1 + 1 + 1 + 1, [.int .i64 1, .int .i64 3]), (w.heap.size + 1 + 1 + 1 + 1 + 1, [.slice (some ⟨w.heap.size + 1 + 1 + 1, 0, none⟩) 2 2, .slice (some ⟨w.heap.size + 1 + 1 + 1 + 1, 0, none⟩) 1 1])] := by rw [← hW]; exact hL
  clear hW hL
  have hT6 := aw_rdT (B := W6.heap.size) (loc_own hL6 0 rfl).1 (loc_own hL6 1 rfl).1 (loc_own hL6 2 rfl).1 (loc_lt hL6 0 rfl) (loc_lt hL6 1 rfl) (loc_lt hL6 2 rfl)
  have hK6 := aw_rdK (B := W6.heap.size) (loc_own hL6 3 rfl).1 (loc_own hL6 4 rfl).1 (loc_own hL6 5 rfl).1 (loc_lt hL6 3 rfl) (loc_lt hL6 4 rfl) (loc_lt hL6 5 rfl)
  have cl := low_any _ _ 2 2 W6.heap.size awT awK W6 hT6 hK6 (Nat.le_refl _) (by decide) aw_ok (by decide) (by decide) (HT.out W6 hL6.1)
  rw [aw_low] at cl
  refine cl.mono ?_
  rintro e w7 ⟨⟨g, cap, rfl, hcap, hrd⟩, hb7⟩
  have hL7 := loc_call hL6 hb7
  have HRD := Lib.hid hrd
  have hL8 := loc_new hL7 w7.heap.size [.slice none 0 0] 33
  clear cl hT6 hK6 hL6 hL7 hrd
  go_wp2_with fail
  generalize hW : World.alloc _ _ = W8
  have hb8 : Below w7.heap.size w7 W8 := by rw [← hW]; exact box_below _ _
  have hL9 : Loc w W8 [(w.heap.size, [.int .i64 0, .int .i64 3]), (w.heap.size + 1, [.int .i64 0, .int .i64 1, .int .i64 5]), (w.heap.size + 1 + 1, [.slice (some ⟨w.heap.size, 0, none⟩) 2 2, .slice (some ⟨w.heap.size + 1, 0, none⟩) 3 3]), (w.heap.size + 1 + 1 + 1, [.int .i64 0, .int .i64 1, .int .i64 1, .int .i64 1]), (w.heap.size + 1 + 1 + 1 + 1, [.int .i64 1, .int .i64 3]), (w.heap.size + 1 + 1 + 1 + 1 + 1, [.slice (some ⟨w.heap.size + 1 + 1 + 1, 0, none⟩) 2 2, .slice (some ⟨w.heap.size + 1 + 1 + 1 + 1, 0, none⟩) 1 1]), (w7.heap.size, [.slice none 0 0])] := by rw [← hW]; exact hL8
  clear hW hL8
  have hT8 := aw_rdT (B := W8.heap.size) (loc_own hL9 0 rfl).1 (loc_own hL9 1 rfl).1 (loc_own hL9 2 rfl).1 (loc_lt hL9 0 rfl) (loc_lt hL9 1 rfl) (loc_lt hL9 2 rfl)
  have hK8 := aw_rdN (B := W8.heap.size) (loc_own hL9 6 rfl).1 (loc_lt hL9 6 rfl)
  have cl := low_any _ _ 2 1 W8.heap.size awT [[]] W8 hT8 hK8 (Nat.le_refl _) (by decide) aw_ok (by decide) (by decide) (HT.out W8 hL9.1)
  rw [aw_no] at cl
  refine cl.mono ?_
  rintro e w9 ⟨rfl, hb9⟩
  have hLa := loc_call hL9 hb9
  have HRD2 := Lib.hid (rdI_below HRD.out (hb8.trans (hb9.mono hb8.size)))
  have hz79 := (hb8.trans (hb9.mono hb8.size)).size
  have hLb := loc_new hLa w9.heap.size [.int .i64 0, .int .i64 5] 3
  clear cl hT8 hK8 hL9 hLa HRD hb8 hb9 hb7
  go_wp2_with fail
  generalize hW : World.alloc _ _ = W10
  have hb10 : Below w9.heap.size w9 W10 := by rw [← hW]; exact box_below _ _
  have hLc : Loc w W10 [(w.heap.size, [.int .i64 0, .int .i64 3]), (w.heap.size + 1, [.int .i64 0, .int .i64 1, .int .i64 5]), (w.heap.size + 1 + 1, [.slice (some ⟨w.heap.size, 0, none⟩) 2 2, .slice (some ⟨w.heap.size + 1, 0, none⟩) 3 3]), (w.heap.size + 1 + 1 + 1, [.int .i64 0, .int .i64 1, .int .i64 1, .int .i64 1]), (w.heap.size + 1 + 1 + 1 + 1, [.int .i64 1, .int .i64 3]), (w.heap.size + 1 + 1 + 1 + 1 + 1, [.slice (some ⟨w.heap.size + 1 + 1 + 1, 0, none⟩) 2 2, .slice (some ⟨w.heap.size + 1 + 1 + 1 + 1, 0, none⟩) 1 1]), (w7.heap.size, [.slice none 0 0]), (w9.heap.size, [.int .i64 0, .int .i64 5])] := by rw [← hW]; exact hLb
  clear hW hLb
  have HRD3 := Lib.hid (rdI_more (rdI_below HRD2.out (hb10.mono hz79)) (show w7.heap.size ≤ W10.heap.size by have := hb10.size; omega))
  have cs := same_any _ _ cap 2 W10.heap.size [0, 5] [0, 5] W10 HRD3.out (rdI_cells (l := [0, 5]) (loc_own hLc 7 rfl).1 (loc_lt hLc 7 rfl)) (Nat.le_refl _) (by decide)
  refine cs.mono ?_
  rintro e w11 ⟨rfl, hb11⟩
  have hLd := loc_call hLc hb11
  have HRD4 := Lib.hid (rdI_below HRD3.out hb11)
  have hz11 := hb11.size
  have hLe := loc_new hLd w11.heap.size [.int .i64 1, .int .i64 3] 39
  clear cs hLc hLd HRD2 HRD3 hb10 hb11
  go_wp2_with fail
  generalize hW : World.alloc _ _ = W12
  have hb12 : Below w11.heap.size w11 W12 := by rw [← hW]; exact box_below _ _
  have hLf : Loc w W12 [(w.heap.size, [.int .i64 0, .int .i64 3]), (w.heap.size + 1, [.int .i64 0, .int .i64 1, .int .i64 5]), (w.heap.size + 1 + 1, [.slice (some ⟨w.heap.size, 0, none⟩) 2 2, .slice (some ⟨w.heap.size + 1, 0, none⟩) 3 3]), (w.heap.size + 1 + 1 + 1, [.int .i64 0, .int .i64 1, .int .i64 1, .int .i64 1]), (w.heap.size + 1 + 1 + 1 + 1, [.int .i64 1, .int .i64 3]), (w.heap.size + 1 + 1 + 1 + 1 + 1, [.slice (some ⟨w.heap.size + 1 + 1 + 1, 0, none⟩) 2 2, .slice (some ⟨w.heap.size + 1 + 1 + 1 + 1, 0, none⟩) 1 1]), (w7.heap.size, [.slice none 0 0]), (w9.heap.size, [.int .i64 0, .int .i64 5]), (w11.heap.size, [.int .i64 1, .int .i64 3])] := by rw [← hW]; exact hLe
  clear hW hLe
  have hT12 := aw_rdT (B := W12.heap.size) (loc_own hLf 0 rfl).1 (loc_own hLf 1 rfl).1 (loc_own hLf 2 rfl).1 (loc_lt hLf 0 rfl) (loc_lt hLf 1 rfl) (loc_lt hLf 2 rfl)
  have ch := hits_any _ _ _ 2 cap 1 W12.heap.size awT [0, 5] [⟨1, 3⟩] W12 hT12 (rdI_more (rdI_below HRD4.out (hb12.mono hz11)) (show W10.heap.size ≤ W12.heap.size by have := hb12.size; omega)) (rdK_cells (l := [⟨1, 3⟩]) (loc_own hLf 8 rfl).1 (loc_lt hLf 8 rfl)) (Nat.le_refl _) (by decide) (fun r hr => (aw_ok r hr).1) (by decide) (by decide) (by decide)
  rw [aw_hit] at ch
  refine ch.mono ?_
  rintro e w13 ⟨rfl, hb13⟩
  have hLg := loc_call hLf hb13
  clear ch hT12 hLf HRD4 hb12 hb13
  go_wp2_with fail
  go_ret
  exact ⟨rfl, hLg.1⟩
end Go.Proofs.YtmfdpdnokiidlaaDoor
