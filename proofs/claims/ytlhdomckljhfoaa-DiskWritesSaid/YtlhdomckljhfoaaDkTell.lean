/-
  What the last statement of DiskTells calls, each call keeping what the others read. Conditions: the disk has its bytes, the rows read as lists.
-/
import Derived.Test.YtlhdomckljhfoaaDkArgs
import Derived.Test.YtlhdomckljhfoaaDkAwake
namespace Go.Proofs.Ytlhdomckljhfoaa
open Go.ChangeShapes Go.WideShapes Go.ChangeAt Go.RowKit
set_option linter.unusedVariables false

/-- The disk in block g, two pairs of rows. -/
structure TellSt (w : World) (g : Nat) (S : ByteArray) (n m : Nat) (L L2 : List Wr) (A1 A2 A3 A4 : Option Addr) (W : World) : Prop where
  keeps : Keeps w g S W
  r1 : RdW W W.heap.size A1 n L
  r2 : RdW W W.heap.size A2 n L
  r3 : RdW W W.heap.size A3 m L2
  r4 : RdW W W.heap.size A4 m L2
theorem TellSt.next {w : World} {g : Nat} {S : ByteArray} {n m : Nat} {L L2 : List Wr} {A1 A2 A3 A4 : Option Addr} {W W' : World} (h : TellSt w g S n m L L2 A1 A2 A3 A4 W) (hb : Below W.heap.size W W') : TellSt w g S n m L L2 A1 A2 A3 A4 W' :=
  ⟨h.keeps.next hb, rdw_next h.r1 hb, rdw_next h.r2 hb, rdw_next h.r3 hb, rdw_next h.r4 hb⟩

section
variable {w : World} {g : Nat} {S : ByteArray} {n m : Nat} {L L2 : List Wr} {A1 A2 A3 A4 : Option Addr}
/-- What Do makes of the disk. -/
def doS (S : ByteArray) (L : List Wr) (wh tn : Int) : ByteArray := ⟨(doP S.data.toList L wh tn).toArray⟩
theorem tell_same1 (hn : n ≤ 1000) (c c' : Nat) (W : World) (h : TellSt w g S n m L L2 A1 A2 A3 A4 W) :
    Calls Try.prog 18 #[.slice A1 n c, .slice A2 n c'] W fun e w' => e = .returned (.bool true) ∧ TellSt w g S n m L L2 A1 A2 A3 A4 w' :=
  (same_any A1 A2 n c c' _ _ L W h.r1 h.r2 (by omega)).mono fun e w' ⟨h1, h2⟩ => ⟨h1, h.next h2⟩
theorem tell_same2 (hn : m ≤ 1000) (c c' : Nat) (W : World) (h : TellSt w g S n m L L2 A1 A2 A3 A4 W) :
    Calls Try.prog 18 #[.slice A3 m c, .slice A4 m c'] W fun e w' => e = .returned (.bool true) ∧ TellSt w g S n m L L2 A1 A2 A3 A4 w' :=
  (same_any A3 A4 m c c' _ _ L2 W h.r3 h.r4 (by omega)).mono fun e w' ⟨h1, h2⟩ => ⟨h1, h.next h2⟩
theorem tell_do (hs : S.size = 20480) (hn : n ≤ 1000) (c : Nat) (hc : n ≤ c) (wh tn : Int) (W : World) (h : TellSt w g S n m L L2 A1 A2 A3 A4 W) :
    Calls Try.prog 19 #[.agg #[.string S], .slice A1 n c, .int .i64 wh, .int .i64 tn] W fun e w' => e = .returned (.agg #[.string (doS S L wh tn)]) ∧ TellSt w g S n m L L2 A1 A2 A3 A4 w' :=
  (do_any S A1 n c _ L wh tn W hs h.r1 (by omega) hc (Nat.le_refl _)).mono fun e w' ⟨h1, h2⟩ => ⟨h1, h.next h2⟩
theorem tell_rdo (hs : S.size = 20480) (hn : n ≤ 1000) (c : Nat) (wh tn : Int) (W : World) (h : TellSt w g S n m L L2 A1 A2 A3 A4 W) :
    Calls Try.prog 20 #[.agg #[.string S], .slice A2 n c, .int .i64 wh, .int .i64 tn] W fun e w' => e = .returned (.agg #[.string (doS S L wh tn)]) ∧ TellSt w g S n m L L2 A1 A2 A3 A4 w' :=
  (rdo_any S A2 n c _ L wh tn W hs h.r2 (by omega) (Nat.le_refl _)).mono fun e w' ⟨h1, h2⟩ => ⟨h1, h.next h2⟩
theorem tell_awake (W : World) (h : TellSt w g S n m L L2 A1 A2 A3 A4 W) :
    Calls Try.prog 10 #[] W fun e w' => e = .returned (.bool true) ∧ TellSt w g S n m L L2 A1 A2 A3 A4 w' :=
  (awake_any W).mono fun e w' ⟨h1, h2⟩ => ⟨h1, h.next h2⟩
end
end Go.Proofs.Ytlhdomckljhfoaa
