/-
  Bytes turned in a loop, for DiskBent. Conditions: none.
-/
import Derived.Test.YtlhdomckljhfoaaDkTell
namespace Go.Proofs.Ytlhdomckljhfoaa
open Go.ChangeShapes Go.WideShapes Go.ChangeAt Go.RowKit
set_option linter.unusedVariables false

def BentSt (w : World) (g : Nat) (wr : World) : Prop := ∃ cur : List UInt8, cur.length = 20480 ∧ Byt wr g cur ∧ Below w.heap.size w wr
theorem add8 (x c : UInt8) : IntKind.u8.wrap (bi x + bi c) = bi (x + c) := by
  unfold bi
  rw [IntKind.wrap_u8, UInt8.toNat_add]
  omega
theorem run_fieldD (S : ByteArray) (W : World) : (Instr.field 25 (.agg #[.string S]) 0).run Try.prog W = .ok (.string S) W := by kernel_rfl
/-- A slice of bytes reads as a list of numbers. -/
structure RdB (w : World) (B : Nat) (A : Option Addr) (n : Nat) : Prop where
  cells : 0 < n → ∃ b off, A = some ⟨b, off, none⟩ ∧ b < B ∧ ∀ (j : Nat), j < n → ∃ c : UInt8, w.cell? ⟨b, off + j, none⟩ = some (.int .u8 (bi c))
theorem RdB.below {w w' : World} {B n : Nat} {A : Option Addr} (h : RdB w B A n) (hb : Below B w w') : RdB w' B A n := by
  refine ⟨fun hn => ?_⟩
  obtain ⟨b, off, e, hlt, hc⟩ := h.cells hn
  exact ⟨b, off, e, hlt, fun j hj => by obtain ⟨c, h⟩ := hc j hj; exact ⟨c, (hb.cell (p := ⟨b, off + j, none⟩) hlt).trans h⟩⟩
theorem row_rdb {w : World} {a : Option Addr} {len cap : Nat} {zs : List Int}
    (h : (a = none ∧ len = 0 ∧ cap = 0 ∧ zs = []) ∨ ∃ x, a = some x ∧ len ≤ cap ∧ cap ≤ maxLen ∧ zs.length = cap ∧ (∀ i, i < zs.length → w.cell? (x.add i) = some (.int .u8 (zs.getD i 0))) ∧ ∀ n ∈ zs, (Lit.int .u8 n).wf = true) : RdB w w.heap.size a len := by
  obtain ⟨h1, h2, h3⟩ := row_rd h
  refine ⟨fun hn => ?_⟩
  obtain ⟨b, off, e, hlt, hc⟩ := h3 hn
  refine ⟨b, off, e, hlt, fun j hj => ?_⟩
  have hjl : j < (zs.take len).length := by omega
  have hz := hc j _ (List.getElem?_eq_getElem hjl)
  refine ⟨UInt8.ofNat (zs.take len)[j].toNat, ?_⟩
  rw [bi_ofNat (bounds_u8 (h2 _ (List.getElem_mem hjl)))]
  exact hz
theorem RdI.one {w : World} {B n : Nat} {A : Option Addr} {ks : List Int} (h : RdI w B A n ks) {k : Nat} (hk : k < n) :
    ∃ b off z0, A = some ⟨b, off, none⟩ ∧ b < B ∧ (-9223372036854775808 ≤ z0 ∧ z0 ≤ 9223372036854775807) ∧ w.cell? ⟨b, off + k, none⟩ = some (.int .i64 z0) := by
  obtain ⟨b, off, e, hlt, hc⟩ := h.cells (by omega)
  have h0 : k < ks.length := by rw [h.len]; omega
  exact ⟨b, off, ks[k], e, hlt, h.bd _ (List.getElem_mem h0), hc k _ (List.getElem?_eq_getElem h0)⟩
theorem tdiv3 (z : Int) (h : -9223372036854775808 ≤ z ∧ z ≤ 9223372036854775807) : -9223372036854775808 ≤ z.tdiv 3 ∧ z.tdiv 3 ≤ 9223372036854775807 := by
  have h1 := Int.mul_tdiv_add_tmod z 3
  have h2 := Int.tmod_lt_of_pos z (show (0 : Int) < 3 by omega)
  have h3 : -3 < z.tmod 3 := by
    have := Int.tmod_lt_of_pos (-z) (show (0 : Int) < 3 by omega)
    rw [Int.neg_tmod] at this
    omega
  omega
end Go.Proofs.Ytlhdomckljhfoaa
