/-
  The walks of chapter 9's sums: the program's Sum and the reference's Sum both return the plain sum of the bytes that they are handed. Conditions: the slice reads as a list of bytes.
-/
import Derived.Test.YtlhdomckljhfoaaRows
import Derived.Test.YtlhdomckljhfoaaMem
import Derived.Test.YtlhdomckljhfoaaDigPlain
import Derived.WalkKit
import Derived.ProofKit
import Derived.Below
import Derived.WalkSpells
import Derived.WalkLawsBesides
import Derived.Outline
namespace Go.Proofs.Ytlhdomckljhfoaa
open Go.ChangeShapes Go.WideShapes Go.ChangeAt Go.RowKit

/-- A slice value with address A and n elements reads as xs: nil let in; it lies below block B. -/
def Rd (w : World) (B : Nat) (A : Option Addr) (n : Nat) (xs : List Value) : Prop :=
  xs.length = n ∧ (0 < n → ∃ b off, A = some ⟨b, off, none⟩ ∧ b < B ∧ ∀ j u, xs[j]? = some u → w.cell? ⟨b, off + j, none⟩ = some u)

def B8 (l : List UInt8) : List Value := l.map fun c => .int .u8 (bi c)
def B64 (l : List UInt64) : List Value := l.map fun c => .int .u64 (ui c)

theorem ret_int {k : IntKind} {a b : Int} (h : a = b) : Ending.returned (.int k a) = .returned (.int k b) := by rw [h]
theorem val_int {k : IntKind} {a b : Int} (h : a = b) : Value.int k a = .int k b := by rw [h]

theorem rot_any (a : UInt64) (w : World) :
    Calls Try.prog 37 #[.int .u64 (ui a), .int .i64 13] w fun e w' => e = .returned (.int .u64 (ui (rot13 a))) ∧ w = w' := by
  have h13 : bits .and .u64 13 63 = 13 := by decide +kernel
  have H := Lib.hid (rot_eq a)
  go_enter Try.func37, Try.ntmps37
  go_wp2
  go_ret
  exact ⟨ret_int H.out, rfl⟩

theorem turn_any (a : UInt64) (w : World) :
    Calls Try.prog 38 #[.int .u64 (ui a), .int .u64 13] w fun e w' => e = .returned (.int .u64 (ui (rot13 a))) ∧ w = w' := by
  have H := Lib.hid (rot_eq a)
  go_enter Try.func38, Try.ntmps38
  go_wp2
  go_ret
  exact ⟨ret_int H.out, rfl⟩

theorem sumFrom_snoc (h : UInt64) (l : List UInt8) (k : Nat) (c : UInt8) (hk : l[k]? = some c) : sumFrom h (l.take (k + 1)) = step (sumFrom h (l.take k)) c := by
  obtain ⟨hlt, rfl⟩ := List.getElem?_eq_some_iff.1 hk
  rw [List.take_succ_eq_append_getElem hlt, sumFrom_append]
  rfl

theorem rd_cell {w : World} {B n : Nat} {A : Option Addr} {l : List UInt8} (h : Rd w B A n (B8 l)) {k : Nat} (hk : k < n) :
    ∃ b off c, A = some ⟨b, off, none⟩ ∧ b < B ∧ l[k]? = some c ∧ w.cell? ⟨b, off + k, none⟩ = some (.int .u8 (bi c)) := by
  obtain ⟨b, off, e, hb, hc⟩ := h.2 (by omega)
  have hl : k < l.length := by have := h.1; simp [B8] at this; omega
  exact ⟨b, off, l[k], e, hb, List.getElem?_eq_getElem hl, hc k _ (by simp [B8, List.getElem?_eq_getElem hl])⟩

set_option maxHeartbeats 400000 in
theorem sum_any (A : Option Addr) (n cap B : Nat) (l : List UInt8) (w : World) (hr : Rd w B A n (B8 l)) (hn : n ≤ maxLen) :
    Calls Try.prog 31 #[.slice A n cap] w fun e w' => e = .returned (.int .u64 (ui (sum l))) ∧ w = w' := by
  unfold maxLen at hn
  have HR := Lib.hid hr
  clear hr
  go_enter Try.func31, Try.ntmps31
  go_wp2
  go_loop [3, 8] (fun h i => ∃ k : Nat, k ≤ n ∧ i = .int .i64 k ∧ h = .int .u64 (ui (sumFrom 11400714819323198485 (l.take k)))) (fun _ i => n - (intOf i).toNat)
  case atStart => exact ⟨0, Nat.zero_le _, rfl, rfl⟩
  case round =>
    obtain ⟨k, hk, rfl, rfl⟩ := hrel
    by_cases hlt : k < n
    · obtain ⟨b, off, c, rfl, hb, hck, hcell⟩ := rd_cell HR.out hlt
      have HS := Lib.hid (sumFrom_snoc 11400714819323198485 l k c hck)
      clear hck
      generalize sumFrom 11400714819323198485 (l.take k) = h at *
      obtain ⟨hcb0, hcb1⟩ := bi_bd c
      have hx := step_xor h c
      have hm := step_mul h c
      go_wp2_with (go_at_call 37; refine (rot_any _ _).mono ?_; rintro e w' ⟨rfl, rfl⟩)
      go_round
      case rel => exact ⟨k + 1, by omega, by go_num, by rw [HS.out]⟩
      case measure => simp [intOf]; omega
    · have hl : l.length = n := by have := HR.out.1; simpa [B8] using this
      have HT : Hid (l.take k = l) := List.take_of_length_le (by omega)
      have HF := Lib.hid (fin_eq (sumFrom 11400714819323198485 l))
      clear hl
      go_wp2
      go_ret
      exact ⟨ret_int (by rw [HT.out, HF.out]; rfl), rfl⟩

set_option maxHeartbeats 400000 in
theorem rsum_any (A : Option Addr) (n cap B : Nat) (l : List UInt8) (w : World) (hr : Rd w B A n (B8 l)) (hn : n ≤ maxLen) :
    Calls Try.prog 33 #[.slice A n cap] w fun e w' => e = .returned (.int .u64 (ui (sum l))) ∧ w = w' := by
  unfold maxLen at hn
  have HR := Lib.hid hr
  clear hr
  go_enter Try.func33, Try.ntmps33
  go_wp2
  go_loop [3, 4] (fun h i => ∃ k : Nat, k ≤ n ∧ i = .int .i64 k ∧ h = .int .u64 (ui (sumFrom 11400714819323198485 (l.take k)))) (fun _ i => n - (intOf i).toNat)
  case atStart => exact ⟨0, Nat.zero_le _, rfl, rfl⟩
  case round =>
    obtain ⟨k, hk, rfl, rfl⟩ := hrel
    by_cases hlt : k < n
    · obtain ⟨b, off, c, rfl, hb, hck, hcell⟩ := rd_cell HR.out hlt
      have HS := Lib.hid (sumFrom_snoc 11400714819323198485 l k c hck)
      clear hck
      generalize sumFrom 11400714819323198485 (l.take k) = h at *
      obtain ⟨hcb0, hcb1⟩ := bi_bd c
      have hx := step_xor h c
      have hm := step_mul h c
      go_wp2_with (go_at_call 38; refine (turn_any _ _).mono ?_; rintro e w' ⟨rfl, rfl⟩)
      go_round
      case rel => exact ⟨k + 1, by omega, by go_num, by rw [HS.out]⟩
      case measure => simp [intOf]; omega
    · have hl : l.length = n := by have := HR.out.1; simpa [B8] using this
      have HT : Hid (l.take k = l) := List.take_of_length_le (by omega)
      have HF := Lib.hid (fin_eq (sumFrom 11400714819323198485 l))
      clear hl
      go_wp2
      go_ret
      exact ⟨ret_int (by rw [HT.out, HF.out]; rfl), rfl⟩

end Go.Proofs.Ytlhdomckljhfoaa
