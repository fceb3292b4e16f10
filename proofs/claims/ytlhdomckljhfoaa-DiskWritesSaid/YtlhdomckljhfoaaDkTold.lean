/-
  The walks of chapter 40's look at a disk, and of Load and New, the program's and the reference's. Conditions: the string has the bytes of a disk (told).
-/
import Derived.Test.YtlhdomckljhfoaaDkSlot
namespace Go.Proofs.Ytlhdomckljhfoaa
open Go.ChangeShapes Go.WideShapes Go.ChangeAt Go.RowKit
set_option linter.unusedVariables false
set_option linter.unusedSimpArgs false

abbrev Tri := Int × UInt64 × List UInt8
def stepT (T : Tri) (k : Int) (o : Option (UInt64 × List UInt8)) : Tri :=
  match o with | none => T | some x => if T.1 < 0 ∨ T.2.1.toNat < x.1.toNat then (k, x.1, x.2) else T
theorem stepT_none (T : Tri) (k : Int) : stepT T k none = T := rfl
theorem stepT_yes (T : Tri) (k : Int) (n : UInt64) (t : List UInt8) (h : T.1 < 0 ∨ T.2.1.toNat < n.toNat) : stepT T k (some (n, t)) = (k, n, t) := if_pos h
theorem stepT_no (T : Tri) (k : Int) (n : UInt64) (t : List UInt8) (h : ¬ (T.1 < 0 ∨ T.2.1.toNat < n.toNat)) : stepT T k (some (n, t)) = T := if_neg h
theorem stepT_two (a b : Option (UInt64 × List UInt8)) : stepT (stepT (-1, 0, []) 0 a) 1 b = told2 a b := by
  rcases a with _ | ⟨n, s⟩
  · rcases b with _ | ⟨m, u⟩
    · rfl
    · rw [stepT_none, stepT_yes _ _ _ _ (.inl (by decide))]; rfl
  · rw [stepT_yes _ _ n s (.inl (by decide))]
    rcases b with _ | ⟨m, u⟩
    · rfl
    · by_cases h : n.toNat < m.toNat
      · rw [stepT_yes _ _ m u (.inr h)]
        exact (if_pos (UInt64.lt_iff_toNat_lt.2 h)).symm
      · rw [stepT_no _ _ m u (by
          rintro (h1 | h1)
          · exact absurd h1 (Int.lt_irrefl 0)
          · exact h h1)]
        exact (if_neg (fun e => h (UInt64.lt_iff_toNat_lt.1 e))).symm
def T1 (l : List UInt8) : Tri := stepT (-1, 0, []) 0 (slotP (l.take 10240))
theorem toldP_eq (l : List UInt8) : toldP l = stepT (T1 l) 1 (slotP (l.drop 10240)) := (stepT_two _ _).symm

/-- The state of the program's loop over the two slots. -/
def TSt (l : List UInt8) (a b t i : Value) : Prop :=
  ∃ T : Tri, a = .int .i64 T.1 ∧ b = .int .u64 (ui T.2.1) ∧ t = .string ⟨T.2.2.toArray⟩ ∧ ((i = .int .i64 0 ∧ T = (-1, 0, [])) ∨ (i = .int .i64 1 ∧ T = T1 l) ∨ (i = .int .i64 2 ∧ T = toldP l))
def T3 (T : Tri) : Value := .tuple #[.int .i64 T.1, .int .u64 (ui T.2.1), .string ⟨T.2.2.toArray⟩]
def ToldP (l : List UInt8) (w : World) (e : Ending) (w' : World) : Prop := e = .returned (T3 (toldP l)) ∧ Below w.heap.size w w'

theorem told_slot {W : World} {s : ByteArray} (a b : Nat) (hs : s.size = 20480) (h : b - a = 10240 ∧ b ≤ 20480) (l : List UInt8) (hl : (s.extract a b).data.toList = l) :
    Calls Try.prog 28 #[.string (s.extract a b)] W (SlotP l W) := by
  subst hl
  exact whole_any _ W (by rw [ByteArray.size_extract]; omega)

set_option maxHeartbeats 1000000 in
theorem told_any (s : ByteArray) (w : World) (hs : s.size = 20480) :
    Calls Try.prog 23 #[.agg #[.string s]] w (ToldP s.data.toList w) := by
  have hl : s.data.toList.length = 20480 := by rw [len_size]; exact hs
  have hs1 : 20480 ≤ s.size := by omega
  have hs2 : s.size ≤ 20480 := by omega
  have i2 : (20480 : Int) ≤ (s.size : Int) := by omega
  have c0 := fun W => told_slot (W := W) (s := s) 0 10240 hs (by omega) (s.data.toList.take 10240) (ext_t s _)
  have c1 := fun W => told_slot (W := W) (s := s) 10240 20480 hs (by omega) (s.data.toList.drop 10240) (by rw [ext_dt]; exact List.take_of_length_le (by simp; omega))
  clear hs hl
  go_enter Try.func23, Try.ntmps23
  go_wp2
  go_loopw [5, 6, 7, 12] (fun a b t i wr => TSt s.data.toList a b t i ∧ wr.cell? ⟨w.heap.size, 0, none⟩ = some (.string s) ∧ w.heap.size < wr.heap.size ∧ Below w.heap.size w wr) (fun _ _ _ i _ => 2 - (intOf i).toNat)
  case atStart => exact ⟨⟨(-1, 0, []), rfl, rfl, rfl, .inl ⟨rfl, rfl⟩⟩, by simp [go_sem], by simp, (Below.refl _ _).alloc (Nat.le_refl _) _⟩
  case round =>
    obtain ⟨⟨T, rfl, rfl, rfl, hT⟩, hcell, hlt, hbel⟩ := hrel
    rcases hT with ⟨rfl, hT⟩ | ⟨rfl, hT⟩ | ⟨rfl, hT⟩
    · have HT : Hid (T = (-1, 0, [])) := hT
      obtain ⟨a, b, x⟩ := T
      obtain ⟨rfl, rfl, rfl⟩ : a = -1 ∧ b = 0 ∧ x = [] := by have := HT.out; injection this with h1 h2; injection h2 with h2 h3; exact ⟨h1, h2, h3⟩
      clear HT hT c1
      go_wp2_with fail
      refine (c0 _).mono ?_
      rintro e w1 ⟨⟨n, t, ok, rfl, hok⟩, hb1⟩
      have hcell1 : w1.cell? ⟨w.heap.size, 0, none⟩ = some (.string s) := (hb1.cell hlt).trans hcell
      have hlt1 := Nat.lt_of_lt_of_le hlt hb1.size
      have hbel1 := hbel.trans (hb1.mono hbel.size)
      clear hcell hb1 hbel c0
      rcases hok with ⟨rfl, hok⟩ | ⟨rfl, hok⟩
      · have HK : Hid (T1 s.data.toList = (0, n, t)) := by show _ = _; unfold T1; rw [hok]; exact stepT_yes _ _ _ _ (.inl (by decide))
        clear hok
        go_wp2
        go_roundw
        case rel => exact ⟨⟨(0, n, t), rfl, rfl, rfl, .inr (.inl ⟨rfl, HK.out.symm⟩)⟩, hcell1, hlt1, hbel1⟩
        case measure => simp [intOf]
      · have HK : Hid (T1 s.data.toList = (-1, 0, [])) := by show _ = _; unfold T1; rw [hok]; rfl
        clear hok
        go_wp2
        go_roundw
        case rel => exact ⟨⟨(-1, 0, []), rfl, rfl, rfl, .inr (.inl ⟨rfl, HK.out.symm⟩)⟩, hcell1, hlt1, hbel1⟩
        case measure => simp [intOf]
    · have HT : Hid (T1 s.data.toList = T) := hT.symm
      clear hT c0
      obtain ⟨a, b, x⟩ := T
      go_wp2_with fail
      refine (c1 _).mono ?_
      rintro e w1 ⟨⟨n, t, ok, rfl, hok⟩, hb1⟩
      have hcell1 : w1.cell? ⟨w.heap.size, 0, none⟩ = some (.string s) := (hb1.cell hlt).trans hcell
      have hlt1 := Nat.lt_of_lt_of_le hlt hb1.size
      have hbel1 := hbel.trans (hb1.mono hbel.size)
      clear hcell hb1 hbel c1
      rcases hok with ⟨rfl, hok⟩ | ⟨rfl, hok⟩
      · by_cases h1 : a < 0
        · have HK : Hid (toldP s.data.toList = (1, n, t)) := by show _ = _; rw [toldP_eq, HT.out, hok]; exact stepT_yes _ _ _ _ (.inl h1)
          clear hok
          go_wp2
          go_roundw
          case rel => exact ⟨⟨(1, n, t), rfl, rfl, rfl, .inr (.inr ⟨rfl, HK.out.symm⟩)⟩, hcell1, hlt1, hbel1⟩
          case measure => simp [intOf]
        · have h1b : decide (a < 0) = false := by simpa using h1
          by_cases h2 : b.toNat < n.toNat
          · have HK : Hid (toldP s.data.toList = (1, n, t)) := by show _ = _; rw [toldP_eq, HT.out, hok]; exact stepT_yes _ _ _ _ (.inr h2)
            have h2i : ui b < ui n := by unfold ui; omega
            clear hok h2 h1
            go_wp2
            go_roundw
            case rel => exact ⟨⟨(1, n, t), rfl, rfl, rfl, .inr (.inr ⟨rfl, HK.out.symm⟩)⟩, hcell1, hlt1, hbel1⟩
            case measure => simp [intOf]
          · have HK : Hid (toldP s.data.toList = (a, b, x)) := by show _ = _; rw [toldP_eq, HT.out, hok]; exact stepT_no _ _ _ _ (by rintro (h | h); exact h1 h; exact h2 h)
            have h2i : ui n ≤ ui b := by unfold ui; omega
            clear hok h2 h1
            go_wp2
            go_roundw
            case rel => exact ⟨⟨(a, b, x), rfl, rfl, rfl, .inr (.inr ⟨rfl, HK.out.symm⟩)⟩, hcell1, hlt1, hbel1⟩
            case measure => simp [intOf]
      · have HK : Hid (toldP s.data.toList = (a, b, x)) := by show _ = _; rw [toldP_eq, HT.out, hok]; rfl
        clear hok
        go_wp2
        go_roundw
        case rel => exact ⟨⟨(a, b, x), rfl, rfl, rfl, .inr (.inr ⟨rfl, HK.out.symm⟩)⟩, hcell1, hlt1, hbel1⟩
        case measure => simp [intOf]
    · have HT : Hid (toldP s.data.toList = T) := hT.symm
      clear hT c0 c1
      obtain ⟨a, b, x⟩ := T
      go_wp2
      exact bodyPost_ret (v := .tuple #[.int .i64 a, .int .u64 (ui b), .string ⟨x.toArray⟩]) (by simp [results, Try.results23, go_sem]) rfl ⟨by rw [HT.out]; rfl, hbel⟩
end Go.Proofs.Ytlhdomckljhfoaa
