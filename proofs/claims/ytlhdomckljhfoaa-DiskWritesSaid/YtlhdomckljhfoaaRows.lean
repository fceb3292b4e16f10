/-
  No cell of these rows narrows 'for every input' (looked for: loops, veiled, ifaces, maps, wideKeys, modest, calm, conditions, laid).
  DERIVED. THE GIVEN ROWS OF THIS SEAT. 7 by the template 'for every input the law returns true; each argument reads behind the call as it read before'; 0 by the template 'total and deterministic' (their statements: YtlhdomckljhfoaaTotals.lean).
  GIVEN WITH THE SEED: the statements are not yours to turn. If you find one false, say at which input.
  Laid BY PROGRAM, IN A SANDBOX (cutbox-rows.mjs): the forced cells as the released guide's own fill.sh prints them over the translation 883963fa1ee88ea0… (all of the seat's roots in one cut). By AI agents, Wed Nov 11 2026. No macro, syntax, notation, axiom, sorry.
-/
import Derived.Test.YtlhdomckljhfoaaChecked
import GoSem.Claim
import GoSem.ClaimJoined
import GoSem.ClaimMapViews
import Derived.JoinedTies
import Derived.KernelRfl
namespace Go.Proofs.Ytlhdomckljhfoaa
/- THE CELL 'sum', in the pinned program and in every row, IS THE sha256 OF THE DUMP (.gsa) THAT YtlhdomckljhfoaaProg.lean LOADS. Nothing in Lean hashes anything: it is a label: what it is worth is what the hold of that sum in a sandbox is worth. -/
noncomputable def Try.pinned : Pinned := { name := "ytlhdomckljhfoaa", sum := "883963fa1ee88ea002b43a67f01e4972c0098849d32737e0b9044ec978ce6448", checked := Try.checked }
namespace Rows
def none {H : Type} : Left H := { results := [], args := [] }

/-- 'linchpinlaw40.DiskTells': WHATEVER THE INPUT: true; the input reads as it did. -/
def diskTellsSpec : ChangeSpec := { name := "diskTells", fn := fun _ => fun
  | [d1, d2, d3, d4, d5, d6] => { results := [.lit (.bool true)], args := [d1, d2, d3, d4, d5, d6] }
  | _ => none }
def diskTellsRow : OpenClaim := { program := "ytlhdomckljhfoaa", sum := "883963fa1ee88ea002b43a67f01e4972c0098849d32737e0b9044ec978ce6448", func := "linchpin/linchpinlaw40.DiskTells", spec := "diskTells", apart := false }
def DiskTellsSaid : Prop := diskTellsRow.holds Try.pinned (OpenSpec.ofChange diskTellsSpec)

/-- ITS FALSE NEIGHBOUR: 'it returns false'. Refute it at one input. -/
def diskTellsWrong : ChangeSpec := { name := "diskTells", fn := fun _ => fun
  | [d1, d2, d3, d4, d5, d6] => { results := [.lit (.bool false)], args := [d1, d2, d3, d4, d5, d6] }
  | _ => none }
def DiskTellsWrongFalsely : Prop := diskTellsRow.holds Try.pinned (OpenSpec.ofChange diskTellsWrong)

/-- 'linchpinlaw40.DiskBent': WHATEVER THE INPUT: true; the input reads as it did. -/
def diskBentSpec : ChangeSpec := { name := "diskBent", fn := fun _ => fun
  | [d1, d2, d3] => { results := [.lit (.bool true)], args := [d1, d2, d3] }
  | _ => none }
def diskBentRow : OpenClaim := { program := "ytlhdomckljhfoaa", sum := "883963fa1ee88ea002b43a67f01e4972c0098849d32737e0b9044ec978ce6448", func := "linchpin/linchpinlaw40.DiskBent", spec := "diskBent", apart := false }
def DiskBentSaid : Prop := diskBentRow.holds Try.pinned (OpenSpec.ofChange diskBentSpec)

/-- ITS FALSE NEIGHBOUR: 'it returns false'. Refute it at one input. -/
def diskBentWrong : ChangeSpec := { name := "diskBent", fn := fun _ => fun
  | [d1, d2, d3] => { results := [.lit (.bool false)], args := [d1, d2, d3] }
  | _ => none }
def DiskBentWrongFalsely : Prop := diskBentRow.holds Try.pinned (OpenSpec.ofChange diskBentWrong)

/-- 'linchpinlaw40.DiskWrites': WHATEVER THE INPUT: true; the input reads as it did. -/
def diskWritesSpec : ChangeSpec := { name := "diskWrites", fn := fun _ => fun
  | [d1, d2, d3, d4] => { results := [.lit (.bool true)], args := [d1, d2, d3, d4] }
  | _ => none }
def diskWritesRow : OpenClaim := { program := "ytlhdomckljhfoaa", sum := "883963fa1ee88ea002b43a67f01e4972c0098849d32737e0b9044ec978ce6448", func := "linchpin/linchpinlaw40.DiskWrites", spec := "diskWrites", apart := false }
def DiskWritesSaid : Prop := diskWritesRow.holds Try.pinned (OpenSpec.ofChange diskWritesSpec)

/-- ITS FALSE NEIGHBOUR: 'it returns false'. Refute it at one input. -/
def diskWritesWrong : ChangeSpec := { name := "diskWrites", fn := fun _ => fun
  | [d1, d2, d3, d4] => { results := [.lit (.bool false)], args := [d1, d2, d3, d4] }
  | _ => none }
def DiskWritesWrongFalsely : Prop := diskWritesRow.holds Try.pinned (OpenSpec.ofChange diskWritesWrong)

/-- 'linchpinlaw40.DiskFalls': WHATEVER THE INPUT: true; the input reads as it did. -/
def diskFallsSpec : ChangeSpec := { name := "diskFalls", fn := fun _ => fun
  | [d1, d2, d3] => { results := [.lit (.bool true)], args := [d1, d2, d3] }
  | _ => none }
def diskFallsRow : OpenClaim := { program := "ytlhdomckljhfoaa", sum := "883963fa1ee88ea002b43a67f01e4972c0098849d32737e0b9044ec978ce6448", func := "linchpin/linchpinlaw40.DiskFalls", spec := "diskFalls", apart := false }
def DiskFallsSaid : Prop := diskFallsRow.holds Try.pinned (OpenSpec.ofChange diskFallsSpec)

/-- ITS FALSE NEIGHBOUR: 'it returns false'. Refute it at one input. -/
def diskFallsWrong : ChangeSpec := { name := "diskFalls", fn := fun _ => fun
  | [d1, d2, d3] => { results := [.lit (.bool false)], args := [d1, d2, d3] }
  | _ => none }
def DiskFallsWrongFalsely : Prop := diskFallsRow.holds Try.pinned (OpenSpec.ofChange diskFallsWrong)

/-- 'linchpinlaw40.DiskHead': WHATEVER THE INPUT: true; the input reads as it did. -/
def diskHeadSpec : ChangeSpec := { name := "diskHead", fn := fun _ => fun
  | [d1, d2] => { results := [.lit (.bool true)], args := [d1, d2] }
  | _ => none }
def diskHeadRow : OpenClaim := { program := "ytlhdomckljhfoaa", sum := "883963fa1ee88ea002b43a67f01e4972c0098849d32737e0b9044ec978ce6448", func := "linchpin/linchpinlaw40.DiskHead", spec := "diskHead", apart := false }
def DiskHeadSaid : Prop := diskHeadRow.holds Try.pinned (OpenSpec.ofChange diskHeadSpec)

/-- ITS FALSE NEIGHBOUR: 'it returns false'. Refute it at one input. -/
def diskHeadWrong : ChangeSpec := { name := "diskHead", fn := fun _ => fun
  | [d1, d2] => { results := [.lit (.bool false)], args := [d1, d2] }
  | _ => none }
def DiskHeadWrongFalsely : Prop := diskHeadRow.holds Try.pinned (OpenSpec.ofChange diskHeadWrong)

/-- 'linchpinlaw40.DiskMany': WHATEVER THE INPUT: true; the input reads as it did. -/
def diskManySpec : ChangeSpec := { name := "diskMany", fn := fun _ => fun
  | [d] => { results := [.lit (.bool true)], args := [d] }
  | _ => none }
def diskManyRow : OpenClaim := { program := "ytlhdomckljhfoaa", sum := "883963fa1ee88ea002b43a67f01e4972c0098849d32737e0b9044ec978ce6448", func := "linchpin/linchpinlaw40.DiskMany", spec := "diskMany", apart := false }
def DiskManySaid : Prop := diskManyRow.holds Try.pinned (OpenSpec.ofChange diskManySpec)

/-- ITS FALSE NEIGHBOUR: 'it returns false'. Refute it at one input. -/
def diskManyWrong : ChangeSpec := { name := "diskMany", fn := fun _ => fun
  | [d] => { results := [.lit (.bool false)], args := [d] }
  | _ => none }
def DiskManyWrongFalsely : Prop := diskManyRow.holds Try.pinned (OpenSpec.ofChange diskManyWrong)

/-- 'linchpinlaw40.DiskElder': WHATEVER THE INPUT: true; the input reads as it did. -/
def diskElderSpec : ChangeSpec := { name := "diskElder", fn := fun _ => fun
  | [d1, d2, d3, d4] => { results := [.lit (.bool true)], args := [d1, d2, d3, d4] }
  | _ => none }
def diskElderRow : OpenClaim := { program := "ytlhdomckljhfoaa", sum := "883963fa1ee88ea002b43a67f01e4972c0098849d32737e0b9044ec978ce6448", func := "linchpin/linchpinlaw40.DiskElder", spec := "diskElder", apart := false }
def DiskElderSaid : Prop := diskElderRow.holds Try.pinned (OpenSpec.ofChange diskElderSpec)

/-- ITS FALSE NEIGHBOUR: 'it returns false'. Refute it at one input. -/
def diskElderWrong : ChangeSpec := { name := "diskElder", fn := fun _ => fun
  | [d1, d2, d3, d4] => { results := [.lit (.bool false)], args := [d1, d2, d3, d4] }
  | _ => none }
def DiskElderWrongFalsely : Prop := diskElderRow.holds Try.pinned (OpenSpec.ofChange diskElderWrong)

/- THE SECOND FORM. 'bulk': how many values and letters a reading holds, each counted each time it is reached (what is shared counts as often as it is met; a slice's spare places count too). A statement '..UptoSaid' is the law's where the arguments, and the package variables that the reading takes, are together of bulk at most 1048576: NARROWER than '..Said'. Prove '..Said' where nothing that the law and all that it calls make is longer than what came in: it says more and counts as full. Else prove '..UptoSaid'. A law counts once. -/
mutual
def uptoBulk {H : Type} : DataW H → Nat
  | .lit (.string bytes) => bytes.length + 1
  | .lit _ => 1
  | .nil => 1
  | .ptr d => uptoBulk d + 1
  | .slice elems spare => uptoBulkAll elems + uptoBulkAll spare + 1
  | .agg parts => uptoBulkAll parts + 1
  | .iface _ d => uptoBulk d + 1
  | .map entries => uptoBulkEntries entries + 1
  | .held _ => 1
def uptoBulkAll {H : Type} : List (DataW H) → Nat
  | [] => 0
  | d :: r => uptoBulk d + uptoBulkAll r
def uptoBulkEntries {H : Type} : List (Lit × DataW H) → Nat
  | [] => 0
  | x :: r => uptoBulkEntry x + uptoBulkEntries r
def uptoBulkEntry {H : Type} : Lit × DataW H → Nat
  | (.string bytes, d) => bytes.length + uptoBulk d + 1
  | (_, d) => uptoBulk d + 1
 end
def uptoSmall : (H : Type) → List (DataW H) → Bool := fun _ ds => decide (uptoBulkAll ds ≤ 1048576)
def OpenSpec.upto (s : _root_.Go.ChangeSpec) : _root_.Go.OpenSpec := { _root_.Go.OpenSpec.ofChange s with cond := some uptoSmall }

/-- 'linchpinlaw40.DiskTells', WHERE WHAT IT READS IS OF BULK AT MOST 1048576: true; the input reads as it did. -/
def diskTellsUptoRow : OpenClaim := { program := "ytlhdomckljhfoaa", sum := "883963fa1ee88ea002b43a67f01e4972c0098849d32737e0b9044ec978ce6448", func := "linchpin/linchpinlaw40.DiskTells", spec := "diskTells", apart := false, narrowed := true }
def DiskTellsUptoSaid : Prop := diskTellsUptoRow.holds Try.pinned (OpenSpec.upto diskTellsSpec)

/-- 'linchpinlaw40.DiskBent', WHERE WHAT IT READS IS OF BULK AT MOST 1048576: true; the input reads as it did. -/
def diskBentUptoRow : OpenClaim := { program := "ytlhdomckljhfoaa", sum := "883963fa1ee88ea002b43a67f01e4972c0098849d32737e0b9044ec978ce6448", func := "linchpin/linchpinlaw40.DiskBent", spec := "diskBent", apart := false, narrowed := true }
def DiskBentUptoSaid : Prop := diskBentUptoRow.holds Try.pinned (OpenSpec.upto diskBentSpec)

/-- 'linchpinlaw40.DiskWrites', WHERE WHAT IT READS IS OF BULK AT MOST 1048576: true; the input reads as it did. -/
def diskWritesUptoRow : OpenClaim := { program := "ytlhdomckljhfoaa", sum := "883963fa1ee88ea002b43a67f01e4972c0098849d32737e0b9044ec978ce6448", func := "linchpin/linchpinlaw40.DiskWrites", spec := "diskWrites", apart := false, narrowed := true }
def DiskWritesUptoSaid : Prop := diskWritesUptoRow.holds Try.pinned (OpenSpec.upto diskWritesSpec)

/-- 'linchpinlaw40.DiskFalls', WHERE WHAT IT READS IS OF BULK AT MOST 1048576: true; the input reads as it did. -/
def diskFallsUptoRow : OpenClaim := { program := "ytlhdomckljhfoaa", sum := "883963fa1ee88ea002b43a67f01e4972c0098849d32737e0b9044ec978ce6448", func := "linchpin/linchpinlaw40.DiskFalls", spec := "diskFalls", apart := false, narrowed := true }
def DiskFallsUptoSaid : Prop := diskFallsUptoRow.holds Try.pinned (OpenSpec.upto diskFallsSpec)

/-- 'linchpinlaw40.DiskHead', WHERE WHAT IT READS IS OF BULK AT MOST 1048576: true; the input reads as it did. -/
def diskHeadUptoRow : OpenClaim := { program := "ytlhdomckljhfoaa", sum := "883963fa1ee88ea002b43a67f01e4972c0098849d32737e0b9044ec978ce6448", func := "linchpin/linchpinlaw40.DiskHead", spec := "diskHead", apart := false, narrowed := true }
def DiskHeadUptoSaid : Prop := diskHeadUptoRow.holds Try.pinned (OpenSpec.upto diskHeadSpec)

/-- 'linchpinlaw40.DiskMany', WHERE WHAT IT READS IS OF BULK AT MOST 1048576: true; the input reads as it did. -/
def diskManyUptoRow : OpenClaim := { program := "ytlhdomckljhfoaa", sum := "883963fa1ee88ea002b43a67f01e4972c0098849d32737e0b9044ec978ce6448", func := "linchpin/linchpinlaw40.DiskMany", spec := "diskMany", apart := false, narrowed := true }
def DiskManyUptoSaid : Prop := diskManyUptoRow.holds Try.pinned (OpenSpec.upto diskManySpec)

/-- 'linchpinlaw40.DiskElder', WHERE WHAT IT READS IS OF BULK AT MOST 1048576: true; the input reads as it did. -/
def diskElderUptoRow : OpenClaim := { program := "ytlhdomckljhfoaa", sum := "883963fa1ee88ea002b43a67f01e4972c0098849d32737e0b9044ec978ce6448", func := "linchpin/linchpinlaw40.DiskElder", spec := "diskElder", apart := false, narrowed := true }
def DiskElderUptoSaid : Prop := diskElderUptoRow.holds Try.pinned (OpenSpec.upto diskElderSpec)

end Rows
end Go.Proofs.Ytlhdomckljhfoaa
