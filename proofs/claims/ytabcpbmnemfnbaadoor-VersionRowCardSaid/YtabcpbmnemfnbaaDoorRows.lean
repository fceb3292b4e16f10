/-
  NARROWER THAN 'FOR EVERY INPUT', by the rows' own cells (each row's printed sentence says how): VersionReads: laid · VersionPrints: laid · VersionCompares: laid · VersionOrder: laid · VersionBumps: laid · VersionNext: laid · VersionZone: laid · VersionRow: laid · VersionUnlike: laid · VersionAbove: laid.
  DERIVED. THE GIVEN ROWS OF THIS SEAT. 10 by the template 'for every input the law returns true; each argument reads behind the call as it read before'; 0 by the template 'total and deterministic' (their statements: YtabcpbmnemfnbaaDoorTotals.lean).
  GIVEN WITH THE SEED: the statements are not yours to turn. If you find one false, say at which input.
  Laid BY PROGRAM, IN A SANDBOX (cutbox-rows.mjs): the forced cells as the released guide's own fill.sh prints them over the translation fb00200a83c14d77… (all of the seat's roots in one cut). By AI agents, Wed Nov 11 2026. No macro, syntax, notation, axiom, sorry.
-/
import Derived.Test.YtabcpbmnemfnbaaDoorChecked
import GoSem.Claim
import GoSem.ClaimJoined
import GoSem.ClaimMapViews
import Derived.JoinedTies
import Derived.KernelRfl
namespace Go.Proofs.YtabcpbmnemfnbaaDoor
/- THE CELL 'sum', in the pinned program and in every row, IS THE sha256 OF THE DUMP (.gsa) THAT YtabcpbmnemfnbaaDoorProg.lean LOADS. Nothing in Lean hashes anything: it is a label: what it is worth is what the hold of that sum in a sandbox is worth. -/
noncomputable def Tryd.pinned : Pinned := { name := "ytabcpbmnemfnbaadoor", sum := "fb00200a83c14d77777c8f46d35e4bd6f5fd3aa4fb554d3e4ceffaa3c63d8d8c", checked := Tryd.checked }
namespace Rows
def none {H : Type} : Left H := { results := [], args := [] }

/- WHAT THE LISTED PACKAGE-LEVEL VARIABLES READ AS WHEN THE CALL BEGINS. Each datum BY PROGRAM (the guide's laid-datum.mjs) off the statement by which the dump's own 'gosem.cut.vars' lays the variable. In a bare row this is a premise. The card (YtabcpbmnemfnbaaDoorCards.lean) ties it to the program's text. -/
def laid_math_bits_deBruijn32tab {H : Type} : DataW H := .agg [.lit (.int .u8 0), .lit (.int .u8 1), .lit (.int .u8 28), .lit (.int .u8 2), .lit (.int .u8 29), .lit (.int .u8 14), .lit (.int .u8 24), .lit (.int .u8 3), .lit (.int .u8 30), .lit (.int .u8 22), .lit (.int .u8 20), .lit (.int .u8 15), .lit (.int .u8 25), .lit (.int .u8 17), .lit (.int .u8 4), .lit (.int .u8 8), .lit (.int .u8 31), .lit (.int .u8 27), .lit (.int .u8 13), .lit (.int .u8 23), .lit (.int .u8 21), .lit (.int .u8 19), .lit (.int .u8 16), .lit (.int .u8 7), .lit (.int .u8 26), .lit (.int .u8 12), .lit (.int .u8 18), .lit (.int .u8 6), .lit (.int .u8 11), .lit (.int .u8 5), .lit (.int .u8 10), .lit (.int .u8 9)]
def laid_math_bits_deBruijn64tab {H : Type} : DataW H := .agg [.lit (.int .u8 0), .lit (.int .u8 1), .lit (.int .u8 56), .lit (.int .u8 2), .lit (.int .u8 57), .lit (.int .u8 49), .lit (.int .u8 28), .lit (.int .u8 3), .lit (.int .u8 61), .lit (.int .u8 58), .lit (.int .u8 42), .lit (.int .u8 50), .lit (.int .u8 38), .lit (.int .u8 29), .lit (.int .u8 17), .lit (.int .u8 4), .lit (.int .u8 62), .lit (.int .u8 47), .lit (.int .u8 59), .lit (.int .u8 36), .lit (.int .u8 45), .lit (.int .u8 43), .lit (.int .u8 51), .lit (.int .u8 22), .lit (.int .u8 53), .lit (.int .u8 39), .lit (.int .u8 33), .lit (.int .u8 30), .lit (.int .u8 24), .lit (.int .u8 18), .lit (.int .u8 12), .lit (.int .u8 5), .lit (.int .u8 63), .lit (.int .u8 55), .lit (.int .u8 48), .lit (.int .u8 27), .lit (.int .u8 60), .lit (.int .u8 41), .lit (.int .u8 37), .lit (.int .u8 16), .lit (.int .u8 46), .lit (.int .u8 35), .lit (.int .u8 44), .lit (.int .u8 21), .lit (.int .u8 52), .lit (.int .u8 32), .lit (.int .u8 23), .lit (.int .u8 11), .lit (.int .u8 54), .lit (.int .u8 26), .lit (.int .u8 40), .lit (.int .u8 15), .lit (.int .u8 34), .lit (.int .u8 20), .lit (.int .u8 31), .lit (.int .u8 10), .lit (.int .u8 25), .lit (.int .u8 14), .lit (.int .u8 19), .lit (.int .u8 9), .lit (.int .u8 13), .lit (.int .u8 8), .lit (.int .u8 7), .lit (.int .u8 6)]
def laid_internal_strconv_uint64pow10 {H : Type} : DataW H := .agg [.lit (.int .u64 1), .lit (.int .u64 10), .lit (.int .u64 100), .lit (.int .u64 1000), .lit (.int .u64 10000), .lit (.int .u64 100000), .lit (.int .u64 1000000), .lit (.int .u64 10000000), .lit (.int .u64 100000000), .lit (.int .u64 1000000000), .lit (.int .u64 10000000000), .lit (.int .u64 100000000000), .lit (.int .u64 1000000000000), .lit (.int .u64 10000000000000), .lit (.int .u64 100000000000000), .lit (.int .u64 1000000000000000), .lit (.int .u64 10000000000000000), .lit (.int .u64 100000000000000000), .lit (.int .u64 1000000000000000000), .lit (.int .u64 10000000000000000000)]

/-- 'linchpinlaw2.VersionReads': WHATEVER THE INPUT: true; the input reads as it did. -/
def versionReadsSpec : ChangeSpec := { name := "versionReads", fn := fun _ => fun
  | [d] => { results := [.lit (.bool true)], args := [d] }
  | _ => none }
def versionReadsRow : OpenClaim := { program := "ytabcpbmnemfnbaadoor", sum := "fb00200a83c14d77777c8f46d35e4bd6f5fd3aa4fb554d3e4ceffaa3c63d8d8c", func := "linchpin/linchpinlaw2.VersionReads", spec := "versionReads", named := ["internal/strconv.uint64pow10", "math/bits.deBruijn32tab", "math/bits.deBruijn64tab"], apart := false, laid := [("math/bits.deBruijn32tab", laid_math_bits_deBruijn32tab), ("math/bits.deBruijn64tab", laid_math_bits_deBruijn64tab), ("internal/strconv.uint64pow10", laid_internal_strconv_uint64pow10)] }
def VersionReadsSaid : Prop := versionReadsRow.holds Tryd.pinned (OpenSpec.ofChange versionReadsSpec)

/-- ITS FALSE NEIGHBOUR: 'it returns false'. Refute it at one input. -/
def versionReadsWrong : ChangeSpec := { name := "versionReads", fn := fun _ => fun
  | [d] => { results := [.lit (.bool false)], args := [d] }
  | _ => none }
def VersionReadsWrongFalsely : Prop := versionReadsRow.holds Tryd.pinned (OpenSpec.ofChange versionReadsWrong)

/-- 'linchpinlaw2.VersionPrints': WHATEVER THE INPUT: true; the input reads as it did. -/
def versionPrintsSpec : ChangeSpec := { name := "versionPrints", fn := fun _ => fun
  | [d] => { results := [.lit (.bool true)], args := [d] }
  | _ => none }
def versionPrintsRow : OpenClaim := { program := "ytabcpbmnemfnbaadoor", sum := "fb00200a83c14d77777c8f46d35e4bd6f5fd3aa4fb554d3e4ceffaa3c63d8d8c", func := "linchpin/linchpinlaw2.VersionPrints", spec := "versionPrints", named := ["internal/strconv.uint64pow10", "math/bits.deBruijn32tab", "math/bits.deBruijn64tab"], apart := false, laid := [("math/bits.deBruijn32tab", laid_math_bits_deBruijn32tab), ("math/bits.deBruijn64tab", laid_math_bits_deBruijn64tab), ("internal/strconv.uint64pow10", laid_internal_strconv_uint64pow10)] }
def VersionPrintsSaid : Prop := versionPrintsRow.holds Tryd.pinned (OpenSpec.ofChange versionPrintsSpec)

/-- ITS FALSE NEIGHBOUR: 'it returns false'. Refute it at one input. -/
def versionPrintsWrong : ChangeSpec := { name := "versionPrints", fn := fun _ => fun
  | [d] => { results := [.lit (.bool false)], args := [d] }
  | _ => none }
def VersionPrintsWrongFalsely : Prop := versionPrintsRow.holds Tryd.pinned (OpenSpec.ofChange versionPrintsWrong)

/-- 'linchpinlaw2.VersionCompares': WHATEVER THE INPUT: true; the input reads as it did. -/
def versionComparesSpec : ChangeSpec := { name := "versionCompares", fn := fun _ => fun
  | [d1, d2] => { results := [.lit (.bool true)], args := [d1, d2] }
  | _ => none }
def versionComparesRow : OpenClaim := { program := "ytabcpbmnemfnbaadoor", sum := "fb00200a83c14d77777c8f46d35e4bd6f5fd3aa4fb554d3e4ceffaa3c63d8d8c", func := "linchpin/linchpinlaw2.VersionCompares", spec := "versionCompares", named := ["internal/strconv.uint64pow10", "math/bits.deBruijn32tab", "math/bits.deBruijn64tab"], apart := false, laid := [("math/bits.deBruijn32tab", laid_math_bits_deBruijn32tab), ("math/bits.deBruijn64tab", laid_math_bits_deBruijn64tab), ("internal/strconv.uint64pow10", laid_internal_strconv_uint64pow10)] }
def VersionComparesSaid : Prop := versionComparesRow.holds Tryd.pinned (OpenSpec.ofChange versionComparesSpec)

/-- ITS FALSE NEIGHBOUR: 'it returns false'. Refute it at one input. -/
def versionComparesWrong : ChangeSpec := { name := "versionCompares", fn := fun _ => fun
  | [d1, d2] => { results := [.lit (.bool false)], args := [d1, d2] }
  | _ => none }
def VersionComparesWrongFalsely : Prop := versionComparesRow.holds Tryd.pinned (OpenSpec.ofChange versionComparesWrong)

/-- 'linchpinlaw2.VersionOrder': WHATEVER THE INPUT: true; the input reads as it did. -/
def versionOrderSpec : ChangeSpec := { name := "versionOrder", fn := fun _ => fun
  | [d] => { results := [.lit (.bool true)], args := [d] }
  | _ => none }
def versionOrderRow : OpenClaim := { program := "ytabcpbmnemfnbaadoor", sum := "fb00200a83c14d77777c8f46d35e4bd6f5fd3aa4fb554d3e4ceffaa3c63d8d8c", func := "linchpin/linchpinlaw2.VersionOrder", spec := "versionOrder", named := ["internal/strconv.uint64pow10", "math/bits.deBruijn32tab", "math/bits.deBruijn64tab"], apart := false, laid := [("math/bits.deBruijn32tab", laid_math_bits_deBruijn32tab), ("math/bits.deBruijn64tab", laid_math_bits_deBruijn64tab), ("internal/strconv.uint64pow10", laid_internal_strconv_uint64pow10)] }
def VersionOrderSaid : Prop := versionOrderRow.holds Tryd.pinned (OpenSpec.ofChange versionOrderSpec)

/-- ITS FALSE NEIGHBOUR: 'it returns false'. Refute it at one input. -/
def versionOrderWrong : ChangeSpec := { name := "versionOrder", fn := fun _ => fun
  | [d] => { results := [.lit (.bool false)], args := [d] }
  | _ => none }
def VersionOrderWrongFalsely : Prop := versionOrderRow.holds Tryd.pinned (OpenSpec.ofChange versionOrderWrong)

/-- 'linchpinlaw2.VersionBumps': WHATEVER THE INPUT: true; the input reads as it did. -/
def versionBumpsSpec : ChangeSpec := { name := "versionBumps", fn := fun _ => fun
  | [d1, d2] => { results := [.lit (.bool true)], args := [d1, d2] }
  | _ => none }
def versionBumpsRow : OpenClaim := { program := "ytabcpbmnemfnbaadoor", sum := "fb00200a83c14d77777c8f46d35e4bd6f5fd3aa4fb554d3e4ceffaa3c63d8d8c", func := "linchpin/linchpinlaw2.VersionBumps", spec := "versionBumps", named := ["internal/strconv.uint64pow10", "math/bits.deBruijn32tab", "math/bits.deBruijn64tab"], apart := false, laid := [("math/bits.deBruijn32tab", laid_math_bits_deBruijn32tab), ("math/bits.deBruijn64tab", laid_math_bits_deBruijn64tab), ("internal/strconv.uint64pow10", laid_internal_strconv_uint64pow10)] }
def VersionBumpsSaid : Prop := versionBumpsRow.holds Tryd.pinned (OpenSpec.ofChange versionBumpsSpec)

/-- ITS FALSE NEIGHBOUR: 'it returns false'. Refute it at one input. -/
def versionBumpsWrong : ChangeSpec := { name := "versionBumps", fn := fun _ => fun
  | [d1, d2] => { results := [.lit (.bool false)], args := [d1, d2] }
  | _ => none }
def VersionBumpsWrongFalsely : Prop := versionBumpsRow.holds Tryd.pinned (OpenSpec.ofChange versionBumpsWrong)

/-- 'linchpinlaw2.VersionNext': WHATEVER THE INPUT: true; the input reads as it did. -/
def versionNextSpec : ChangeSpec := { name := "versionNext", fn := fun _ => fun
  | [d] => { results := [.lit (.bool true)], args := [d] }
  | _ => none }
def versionNextRow : OpenClaim := { program := "ytabcpbmnemfnbaadoor", sum := "fb00200a83c14d77777c8f46d35e4bd6f5fd3aa4fb554d3e4ceffaa3c63d8d8c", func := "linchpin/linchpinlaw2.VersionNext", spec := "versionNext", named := ["internal/strconv.uint64pow10", "math/bits.deBruijn32tab", "math/bits.deBruijn64tab"], apart := false, laid := [("math/bits.deBruijn32tab", laid_math_bits_deBruijn32tab), ("math/bits.deBruijn64tab", laid_math_bits_deBruijn64tab), ("internal/strconv.uint64pow10", laid_internal_strconv_uint64pow10)] }
def VersionNextSaid : Prop := versionNextRow.holds Tryd.pinned (OpenSpec.ofChange versionNextSpec)

/-- ITS FALSE NEIGHBOUR: 'it returns false'. Refute it at one input. -/
def versionNextWrong : ChangeSpec := { name := "versionNext", fn := fun _ => fun
  | [d] => { results := [.lit (.bool false)], args := [d] }
  | _ => none }
def VersionNextWrongFalsely : Prop := versionNextRow.holds Tryd.pinned (OpenSpec.ofChange versionNextWrong)

/-- 'linchpinlaw2.VersionZone': WHATEVER THE INPUT: true; the input reads as it did. -/
def versionZoneSpec : ChangeSpec := { name := "versionZone", fn := fun _ => fun
  | [d] => { results := [.lit (.bool true)], args := [d] }
  | _ => none }
def versionZoneRow : OpenClaim := { program := "ytabcpbmnemfnbaadoor", sum := "fb00200a83c14d77777c8f46d35e4bd6f5fd3aa4fb554d3e4ceffaa3c63d8d8c", func := "linchpin/linchpinlaw2.VersionZone", spec := "versionZone", named := ["internal/strconv.uint64pow10", "math/bits.deBruijn32tab", "math/bits.deBruijn64tab"], apart := false, laid := [("math/bits.deBruijn32tab", laid_math_bits_deBruijn32tab), ("math/bits.deBruijn64tab", laid_math_bits_deBruijn64tab), ("internal/strconv.uint64pow10", laid_internal_strconv_uint64pow10)] }
def VersionZoneSaid : Prop := versionZoneRow.holds Tryd.pinned (OpenSpec.ofChange versionZoneSpec)

/-- ITS FALSE NEIGHBOUR: 'it returns false'. Refute it at one input. -/
def versionZoneWrong : ChangeSpec := { name := "versionZone", fn := fun _ => fun
  | [d] => { results := [.lit (.bool false)], args := [d] }
  | _ => none }
def VersionZoneWrongFalsely : Prop := versionZoneRow.holds Tryd.pinned (OpenSpec.ofChange versionZoneWrong)

/-- 'linchpinlaw2.VersionRow': WHATEVER THE INPUT: true; the input reads as it did. -/
def versionRowSpec : ChangeSpec := { name := "versionRow", fn := fun _ => fun
  | [d1, d2] => { results := [.lit (.bool true)], args := [d1, d2] }
  | _ => none }
def versionRowRow : OpenClaim := { program := "ytabcpbmnemfnbaadoor", sum := "fb00200a83c14d77777c8f46d35e4bd6f5fd3aa4fb554d3e4ceffaa3c63d8d8c", func := "linchpin/linchpinlaw2.VersionRow", spec := "versionRow", named := ["internal/strconv.uint64pow10", "math/bits.deBruijn32tab", "math/bits.deBruijn64tab"], apart := false, laid := [("math/bits.deBruijn32tab", laid_math_bits_deBruijn32tab), ("math/bits.deBruijn64tab", laid_math_bits_deBruijn64tab), ("internal/strconv.uint64pow10", laid_internal_strconv_uint64pow10)] }
def VersionRowSaid : Prop := versionRowRow.holds Tryd.pinned (OpenSpec.ofChange versionRowSpec)

/-- ITS FALSE NEIGHBOUR: 'it returns false'. Refute it at one input. -/
def versionRowWrong : ChangeSpec := { name := "versionRow", fn := fun _ => fun
  | [d1, d2] => { results := [.lit (.bool false)], args := [d1, d2] }
  | _ => none }
def VersionRowWrongFalsely : Prop := versionRowRow.holds Tryd.pinned (OpenSpec.ofChange versionRowWrong)

/-- 'linchpinlaw2.VersionUnlike': WHATEVER THE INPUT: true; the input reads as it did. -/
def versionUnlikeSpec : ChangeSpec := { name := "versionUnlike", fn := fun _ => fun
  | [d] => { results := [.lit (.bool true)], args := [d] }
  | _ => none }
def versionUnlikeRow : OpenClaim := { program := "ytabcpbmnemfnbaadoor", sum := "fb00200a83c14d77777c8f46d35e4bd6f5fd3aa4fb554d3e4ceffaa3c63d8d8c", func := "linchpin/linchpinlaw2.VersionUnlike", spec := "versionUnlike", named := ["internal/strconv.uint64pow10", "math/bits.deBruijn32tab", "math/bits.deBruijn64tab"], apart := false, laid := [("math/bits.deBruijn32tab", laid_math_bits_deBruijn32tab), ("math/bits.deBruijn64tab", laid_math_bits_deBruijn64tab), ("internal/strconv.uint64pow10", laid_internal_strconv_uint64pow10)] }
def VersionUnlikeSaid : Prop := versionUnlikeRow.holds Tryd.pinned (OpenSpec.ofChange versionUnlikeSpec)

/-- ITS FALSE NEIGHBOUR: 'it returns false'. Refute it at one input. -/
def versionUnlikeWrong : ChangeSpec := { name := "versionUnlike", fn := fun _ => fun
  | [d] => { results := [.lit (.bool false)], args := [d] }
  | _ => none }
def VersionUnlikeWrongFalsely : Prop := versionUnlikeRow.holds Tryd.pinned (OpenSpec.ofChange versionUnlikeWrong)

/-- 'linchpinlaw2.VersionAbove': WHATEVER THE INPUT: true; the input reads as it did. -/
def versionAboveSpec : ChangeSpec := { name := "versionAbove", fn := fun _ => fun
  | [d1, d2] => { results := [.lit (.bool true)], args := [d1, d2] }
  | _ => none }
def versionAboveRow : OpenClaim := { program := "ytabcpbmnemfnbaadoor", sum := "fb00200a83c14d77777c8f46d35e4bd6f5fd3aa4fb554d3e4ceffaa3c63d8d8c", func := "linchpin/linchpinlaw2.VersionAbove", spec := "versionAbove", named := ["internal/strconv.uint64pow10", "math/bits.deBruijn32tab", "math/bits.deBruijn64tab"], apart := false, laid := [("math/bits.deBruijn32tab", laid_math_bits_deBruijn32tab), ("math/bits.deBruijn64tab", laid_math_bits_deBruijn64tab), ("internal/strconv.uint64pow10", laid_internal_strconv_uint64pow10)] }
def VersionAboveSaid : Prop := versionAboveRow.holds Tryd.pinned (OpenSpec.ofChange versionAboveSpec)

/-- ITS FALSE NEIGHBOUR: 'it returns false'. Refute it at one input. -/
def versionAboveWrong : ChangeSpec := { name := "versionAbove", fn := fun _ => fun
  | [d1, d2] => { results := [.lit (.bool false)], args := [d1, d2] }
  | _ => none }
def VersionAboveWrongFalsely : Prop := versionAboveRow.holds Tryd.pinned (OpenSpec.ofChange versionAboveWrong)

/- THE SECOND FORM. 'bulk': how many values and letters a reading holds, each counted each time it is reached (what is shared counts as often as it is met; a slice's spare places count too). A statement '..UptoSaid' is the law's where the arguments, and the package variables that the reading takes, are together of bulk at most 1048576: NARROWER than '..Said'. Prove '..Said' where nothing that the law and all that it calls make is longer than what came in: it says more and counts as full. Else prove '..UptoSaid'. A law counts once. -/
mutual
def uptoBulk {H : Type} : DataW H → Nat
  | .lit (.string bytes) => bytes.length + 1
  | .lit _ => 1
  | .nil => 1
  | .ptr d => uptoBulk d + 1
  | .slice elems spare => uptoBulkAll elems + uptoBulkAll spare + 1
  | .agg parts => uptoBulkAll parts + 1
  | .iface _ d => uptoBulk d + 1
  | .map entries => uptoBulkEntries entries + 1
  | .held _ => 1
def uptoBulkAll {H : Type} : List (DataW H) → Nat
  | [] => 0
  | d :: r => uptoBulk d + uptoBulkAll r
def uptoBulkEntries {H : Type} : List (Lit × DataW H) → Nat
  | [] => 0
  | x :: r => uptoBulkEntry x + uptoBulkEntries r
def uptoBulkEntry {H : Type} : Lit × DataW H → Nat
  | (.string bytes, d) => bytes.length + uptoBulk d + 1
  | (_, d) => uptoBulk d + 1
 end
def uptoSmall : (H : Type) → List (DataW H) → Bool := fun _ ds => decide (uptoBulkAll ds ≤ 1048576)
def OpenSpec.upto (s : _root_.Go.ChangeSpec) : _root_.Go.OpenSpec := { _root_.Go.OpenSpec.ofChange s with cond := some uptoSmall }

/-- 'linchpinlaw2.VersionReads', WHERE WHAT IT READS IS OF BULK AT MOST 1048576: true; the input reads as it did. -/
def versionReadsUptoRow : OpenClaim := { program := "ytabcpbmnemfnbaadoor", sum := "fb00200a83c14d77777c8f46d35e4bd6f5fd3aa4fb554d3e4ceffaa3c63d8d8c", func := "linchpin/linchpinlaw2.VersionReads", spec := "versionReads", named := ["internal/strconv.uint64pow10", "math/bits.deBruijn32tab", "math/bits.deBruijn64tab"], apart := false, laid := [("math/bits.deBruijn32tab", laid_math_bits_deBruijn32tab), ("math/bits.deBruijn64tab", laid_math_bits_deBruijn64tab), ("internal/strconv.uint64pow10", laid_internal_strconv_uint64pow10)], narrowed := true }
def VersionReadsUptoSaid : Prop := versionReadsUptoRow.holds Tryd.pinned (OpenSpec.upto versionReadsSpec)

/-- 'linchpinlaw2.VersionPrints', WHERE WHAT IT READS IS OF BULK AT MOST 1048576: true; the input reads as it did. -/
def versionPrintsUptoRow : OpenClaim := { program := "ytabcpbmnemfnbaadoor", sum := "fb00200a83c14d77777c8f46d35e4bd6f5fd3aa4fb554d3e4ceffaa3c63d8d8c", func := "linchpin/linchpinlaw2.VersionPrints", spec := "versionPrints", named := ["internal/strconv.uint64pow10", "math/bits.deBruijn32tab", "math/bits.deBruijn64tab"], apart := false, laid := [("math/bits.deBruijn32tab", laid_math_bits_deBruijn32tab), ("math/bits.deBruijn64tab", laid_math_bits_deBruijn64tab), ("internal/strconv.uint64pow10", laid_internal_strconv_uint64pow10)], narrowed := true }
def VersionPrintsUptoSaid : Prop := versionPrintsUptoRow.holds Tryd.pinned (OpenSpec.upto versionPrintsSpec)

/-- 'linchpinlaw2.VersionCompares', WHERE WHAT IT READS IS OF BULK AT MOST 1048576: true; the input reads as it did. -/
def versionComparesUptoRow : OpenClaim := { program := "ytabcpbmnemfnbaadoor", sum := "fb00200a83c14d77777c8f46d35e4bd6f5fd3aa4fb554d3e4ceffaa3c63d8d8c", func := "linchpin/linchpinlaw2.VersionCompares", spec := "versionCompares", named := ["internal/strconv.uint64pow10", "math/bits.deBruijn32tab", "math/bits.deBruijn64tab"], apart := false, laid := [("math/bits.deBruijn32tab", laid_math_bits_deBruijn32tab), ("math/bits.deBruijn64tab", laid_math_bits_deBruijn64tab), ("internal/strconv.uint64pow10", laid_internal_strconv_uint64pow10)], narrowed := true }
def VersionComparesUptoSaid : Prop := versionComparesUptoRow.holds Tryd.pinned (OpenSpec.upto versionComparesSpec)

/-- 'linchpinlaw2.VersionOrder', WHERE WHAT IT READS IS OF BULK AT MOST 1048576: true; the input reads as it did. -/
def versionOrderUptoRow : OpenClaim := { program := "ytabcpbmnemfnbaadoor", sum := "fb00200a83c14d77777c8f46d35e4bd6f5fd3aa4fb554d3e4ceffaa3c63d8d8c", func := "linchpin/linchpinlaw2.VersionOrder", spec := "versionOrder", named := ["internal/strconv.uint64pow10", "math/bits.deBruijn32tab", "math/bits.deBruijn64tab"], apart := false, laid := [("math/bits.deBruijn32tab", laid_math_bits_deBruijn32tab), ("math/bits.deBruijn64tab", laid_math_bits_deBruijn64tab), ("internal/strconv.uint64pow10", laid_internal_strconv_uint64pow10)], narrowed := true }
def VersionOrderUptoSaid : Prop := versionOrderUptoRow.holds Tryd.pinned (OpenSpec.upto versionOrderSpec)

/-- 'linchpinlaw2.VersionBumps', WHERE WHAT IT READS IS OF BULK AT MOST 1048576: true; the input reads as it did. -/
def versionBumpsUptoRow : OpenClaim := { program := "ytabcpbmnemfnbaadoor", sum := "fb00200a83c14d77777c8f46d35e4bd6f5fd3aa4fb554d3e4ceffaa3c63d8d8c", func := "linchpin/linchpinlaw2.VersionBumps", spec := "versionBumps", named := ["internal/strconv.uint64pow10", "math/bits.deBruijn32tab", "math/bits.deBruijn64tab"], apart := false, laid := [("math/bits.deBruijn32tab", laid_math_bits_deBruijn32tab), ("math/bits.deBruijn64tab", laid_math_bits_deBruijn64tab), ("internal/strconv.uint64pow10", laid_internal_strconv_uint64pow10)], narrowed := true }
def VersionBumpsUptoSaid : Prop := versionBumpsUptoRow.holds Tryd.pinned (OpenSpec.upto versionBumpsSpec)

/-- 'linchpinlaw2.VersionNext', WHERE WHAT IT READS IS OF BULK AT MOST 1048576: true; the input reads as it did. -/
def versionNextUptoRow : OpenClaim := { program := "ytabcpbmnemfnbaadoor", sum := "fb00200a83c14d77777c8f46d35e4bd6f5fd3aa4fb554d3e4ceffaa3c63d8d8c", func := "linchpin/linchpinlaw2.VersionNext", spec := "versionNext", named := ["internal/strconv.uint64pow10", "math/bits.deBruijn32tab", "math/bits.deBruijn64tab"], apart := false, laid := [("math/bits.deBruijn32tab", laid_math_bits_deBruijn32tab), ("math/bits.deBruijn64tab", laid_math_bits_deBruijn64tab), ("internal/strconv.uint64pow10", laid_internal_strconv_uint64pow10)], narrowed := true }
def VersionNextUptoSaid : Prop := versionNextUptoRow.holds Tryd.pinned (OpenSpec.upto versionNextSpec)

/-- 'linchpinlaw2.VersionZone', WHERE WHAT IT READS IS OF BULK AT MOST 1048576: true; the input reads as it did. -/
def versionZoneUptoRow : OpenClaim := { program := "ytabcpbmnemfnbaadoor", sum := "fb00200a83c14d77777c8f46d35e4bd6f5fd3aa4fb554d3e4ceffaa3c63d8d8c", func := "linchpin/linchpinlaw2.VersionZone", spec := "versionZone", named := ["internal/strconv.uint64pow10", "math/bits.deBruijn32tab", "math/bits.deBruijn64tab"], apart := false, laid := [("math/bits.deBruijn32tab", laid_math_bits_deBruijn32tab), ("math/bits.deBruijn64tab", laid_math_bits_deBruijn64tab), ("internal/strconv.uint64pow10", laid_internal_strconv_uint64pow10)], narrowed := true }
def VersionZoneUptoSaid : Prop := versionZoneUptoRow.holds Tryd.pinned (OpenSpec.upto versionZoneSpec)

/-- 'linchpinlaw2.VersionRow', WHERE WHAT IT READS IS OF BULK AT MOST 1048576: true; the input reads as it did. -/
def versionRowUptoRow : OpenClaim := { program := "ytabcpbmnemfnbaadoor", sum := "fb00200a83c14d77777c8f46d35e4bd6f5fd3aa4fb554d3e4ceffaa3c63d8d8c", func := "linchpin/linchpinlaw2.VersionRow", spec := "versionRow", named := ["internal/strconv.uint64pow10", "math/bits.deBruijn32tab", "math/bits.deBruijn64tab"], apart := false, laid := [("math/bits.deBruijn32tab", laid_math_bits_deBruijn32tab), ("math/bits.deBruijn64tab", laid_math_bits_deBruijn64tab), ("internal/strconv.uint64pow10", laid_internal_strconv_uint64pow10)], narrowed := true }
def VersionRowUptoSaid : Prop := versionRowUptoRow.holds Tryd.pinned (OpenSpec.upto versionRowSpec)

/-- 'linchpinlaw2.VersionUnlike', WHERE WHAT IT READS IS OF BULK AT MOST 1048576: true; the input reads as it did. -/
def versionUnlikeUptoRow : OpenClaim := { program := "ytabcpbmnemfnbaadoor", sum := "fb00200a83c14d77777c8f46d35e4bd6f5fd3aa4fb554d3e4ceffaa3c63d8d8c", func := "linchpin/linchpinlaw2.VersionUnlike", spec := "versionUnlike", named := ["internal/strconv.uint64pow10", "math/bits.deBruijn32tab", "math/bits.deBruijn64tab"], apart := false, laid := [("math/bits.deBruijn32tab", laid_math_bits_deBruijn32tab), ("math/bits.deBruijn64tab", laid_math_bits_deBruijn64tab), ("internal/strconv.uint64pow10", laid_internal_strconv_uint64pow10)], narrowed := true }
def VersionUnlikeUptoSaid : Prop := versionUnlikeUptoRow.holds Tryd.pinned (OpenSpec.upto versionUnlikeSpec)

/-- 'linchpinlaw2.VersionAbove', WHERE WHAT IT READS IS OF BULK AT MOST 1048576: true; the input reads as it did. -/
def versionAboveUptoRow : OpenClaim := { program := "ytabcpbmnemfnbaadoor", sum := "fb00200a83c14d77777c8f46d35e4bd6f5fd3aa4fb554d3e4ceffaa3c63d8d8c", func := "linchpin/linchpinlaw2.VersionAbove", spec := "versionAbove", named := ["internal/strconv.uint64pow10", "math/bits.deBruijn32tab", "math/bits.deBruijn64tab"], apart := false, laid := [("math/bits.deBruijn32tab", laid_math_bits_deBruijn32tab), ("math/bits.deBruijn64tab", laid_math_bits_deBruijn64tab), ("internal/strconv.uint64pow10", laid_internal_strconv_uint64pow10)], narrowed := true }
def VersionAboveUptoSaid : Prop := versionAboveUptoRow.holds Tryd.pinned (OpenSpec.upto versionAboveSpec)

end Rows
end Go.Proofs.YtabcpbmnemfnbaaDoor
