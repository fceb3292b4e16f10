/-
  NARROWER THAN 'FOR EVERY INPUT', by the rows' own cells (each row's printed sentence says how): CompReads: laid · CompPrints: laid · CompOrder: laid · CompPairs: laid · CompNested: laid · CompRegions: laid · CompMeans: laid · CompZone: laid.
  DERIVED. THE GIVEN ROWS OF THIS SEAT. 8 by the template 'for every input the law returns true; each argument reads behind the call as it read before'; 0 by the template 'total and deterministic' (their statements: YthaagngoefieaaaDoorTotals.lean).
  GIVEN WITH THE SEED: the statements are not yours to turn. If you find one false, say at which input.
  Laid BY PROGRAM, IN A SANDBOX (cutbox-rows.mjs): the forced cells as the released guide's own fill.sh prints them over the translation 5c9ae307db2c5ec7… (all of the seat's roots in one cut). By AI agents, Wed Nov 11 2026. No macro, syntax, notation, axiom, sorry.
-/
import Derived.Test.YthaagngoefieaaaDoorChecked
import GoSem.Claim
import GoSem.ClaimJoined
import GoSem.ClaimMapViews
import Derived.JoinedTies
import Derived.KernelRfl
namespace Go.Proofs.YthaagngoefieaaaDoor
/- THE CELL 'sum', in the pinned program and in every row, IS THE sha256 OF THE DUMP (.gsa) THAT YthaagngoefieaaaDoorProg.lean LOADS. Nothing in Lean hashes anything: it is a label: what it is worth is what the hold of that sum in a sandbox is worth. -/
noncomputable def Tryd.pinned : Pinned := { name := "ythaagngoefieaaadoor", sum := "5c9ae307db2c5ec75bf80293ebe4dd2ef59505526b08089c36d2d13aad55fb76", checked := Tryd.checked }
namespace Rows
def none {H : Type} : Left H := { results := [], args := [] }

/- WHAT THE LISTED PACKAGE-LEVEL VARIABLES READ AS WHEN THE CALL BEGINS. Each datum BY PROGRAM (the guide's laid-datum.mjs) off the statement by which the dump's own 'gosem.cut.vars' lays the variable. In a bare row this is a premise. The card (YthaagngoefieaaaDoorCards.lean) ties it to the program's text. -/
def laid_math_bits_deBruijn32tab {H : Type} : DataW H := .agg [.lit (.int .u8 0), .lit (.int .u8 1), .lit (.int .u8 28), .lit (.int .u8 2), .lit (.int .u8 29), .lit (.int .u8 14), .lit (.int .u8 24), .lit (.int .u8 3), .lit (.int .u8 30), .lit (.int .u8 22), .lit (.int .u8 20), .lit (.int .u8 15), .lit (.int .u8 25), .lit (.int .u8 17), .lit (.int .u8 4), .lit (.int .u8 8), .lit (.int .u8 31), .lit (.int .u8 27), .lit (.int .u8 13), .lit (.int .u8 23), .lit (.int .u8 21), .lit (.int .u8 19), .lit (.int .u8 16), .lit (.int .u8 7), .lit (.int .u8 26), .lit (.int .u8 12), .lit (.int .u8 18), .lit (.int .u8 6), .lit (.int .u8 11), .lit (.int .u8 5), .lit (.int .u8 10), .lit (.int .u8 9)]
def laid_math_bits_deBruijn64tab {H : Type} : DataW H := .agg [.lit (.int .u8 0), .lit (.int .u8 1), .lit (.int .u8 56), .lit (.int .u8 2), .lit (.int .u8 57), .lit (.int .u8 49), .lit (.int .u8 28), .lit (.int .u8 3), .lit (.int .u8 61), .lit (.int .u8 58), .lit (.int .u8 42), .lit (.int .u8 50), .lit (.int .u8 38), .lit (.int .u8 29), .lit (.int .u8 17), .lit (.int .u8 4), .lit (.int .u8 62), .lit (.int .u8 47), .lit (.int .u8 59), .lit (.int .u8 36), .lit (.int .u8 45), .lit (.int .u8 43), .lit (.int .u8 51), .lit (.int .u8 22), .lit (.int .u8 53), .lit (.int .u8 39), .lit (.int .u8 33), .lit (.int .u8 30), .lit (.int .u8 24), .lit (.int .u8 18), .lit (.int .u8 12), .lit (.int .u8 5), .lit (.int .u8 63), .lit (.int .u8 55), .lit (.int .u8 48), .lit (.int .u8 27), .lit (.int .u8 60), .lit (.int .u8 41), .lit (.int .u8 37), .lit (.int .u8 16), .lit (.int .u8 46), .lit (.int .u8 35), .lit (.int .u8 44), .lit (.int .u8 21), .lit (.int .u8 52), .lit (.int .u8 32), .lit (.int .u8 23), .lit (.int .u8 11), .lit (.int .u8 54), .lit (.int .u8 26), .lit (.int .u8 40), .lit (.int .u8 15), .lit (.int .u8 34), .lit (.int .u8 20), .lit (.int .u8 31), .lit (.int .u8 10), .lit (.int .u8 25), .lit (.int .u8 14), .lit (.int .u8 19), .lit (.int .u8 9), .lit (.int .u8 13), .lit (.int .u8 8), .lit (.int .u8 7), .lit (.int .u8 6)]
def laid_internal_strconv_uint64pow10 {H : Type} : DataW H := .agg [.lit (.int .u64 1), .lit (.int .u64 10), .lit (.int .u64 100), .lit (.int .u64 1000), .lit (.int .u64 10000), .lit (.int .u64 100000), .lit (.int .u64 1000000), .lit (.int .u64 10000000), .lit (.int .u64 100000000), .lit (.int .u64 1000000000), .lit (.int .u64 10000000000), .lit (.int .u64 100000000000), .lit (.int .u64 1000000000000), .lit (.int .u64 10000000000000), .lit (.int .u64 100000000000000), .lit (.int .u64 1000000000000000), .lit (.int .u64 10000000000000000), .lit (.int .u64 100000000000000000), .lit (.int .u64 1000000000000000000), .lit (.int .u64 10000000000000000000)]

/-- 'linchpinlaw6.CompReads': WHATEVER THE INPUT: true; the input reads as it did. -/
def compReadsSpec : ChangeSpec := { name := "compReads", fn := fun _ => fun
  | [d] => { results := [.lit (.bool true)], args := [d] }
  | _ => none }
def compReadsRow : OpenClaim := { program := "ythaagngoefieaaadoor", sum := "5c9ae307db2c5ec75bf80293ebe4dd2ef59505526b08089c36d2d13aad55fb76", func := "linchpin/linchpinlaw6.CompReads", spec := "compReads", named := ["internal/strconv.uint64pow10", "math/bits.deBruijn32tab", "math/bits.deBruijn64tab"], apart := false, laid := [("math/bits.deBruijn32tab", laid_math_bits_deBruijn32tab), ("math/bits.deBruijn64tab", laid_math_bits_deBruijn64tab), ("internal/strconv.uint64pow10", laid_internal_strconv_uint64pow10)] }
def CompReadsSaid : Prop := compReadsRow.holds Tryd.pinned (OpenSpec.ofChange compReadsSpec)

/-- ITS FALSE NEIGHBOUR: 'it returns false'. Refute it at one input. -/
def compReadsWrong : ChangeSpec := { name := "compReads", fn := fun _ => fun
  | [d] => { results := [.lit (.bool false)], args := [d] }
  | _ => none }
def CompReadsWrongFalsely : Prop := compReadsRow.holds Tryd.pinned (OpenSpec.ofChange compReadsWrong)

/-- 'linchpinlaw6.CompPrints': WHATEVER THE INPUT: true; the input reads as it did. -/
def compPrintsSpec : ChangeSpec := { name := "compPrints", fn := fun _ => fun
  | [d] => { results := [.lit (.bool true)], args := [d] }
  | _ => none }
def compPrintsRow : OpenClaim := { program := "ythaagngoefieaaadoor", sum := "5c9ae307db2c5ec75bf80293ebe4dd2ef59505526b08089c36d2d13aad55fb76", func := "linchpin/linchpinlaw6.CompPrints", spec := "compPrints", named := ["internal/strconv.uint64pow10", "math/bits.deBruijn32tab", "math/bits.deBruijn64tab"], apart := false, laid := [("math/bits.deBruijn32tab", laid_math_bits_deBruijn32tab), ("math/bits.deBruijn64tab", laid_math_bits_deBruijn64tab), ("internal/strconv.uint64pow10", laid_internal_strconv_uint64pow10)] }
def CompPrintsSaid : Prop := compPrintsRow.holds Tryd.pinned (OpenSpec.ofChange compPrintsSpec)

/-- ITS FALSE NEIGHBOUR: 'it returns false'. Refute it at one input. -/
def compPrintsWrong : ChangeSpec := { name := "compPrints", fn := fun _ => fun
  | [d] => { results := [.lit (.bool false)], args := [d] }
  | _ => none }
def CompPrintsWrongFalsely : Prop := compPrintsRow.holds Tryd.pinned (OpenSpec.ofChange compPrintsWrong)

/-- 'linchpinlaw6.CompOrder': WHATEVER THE INPUT: true; the input reads as it did. -/
def compOrderSpec : ChangeSpec := { name := "compOrder", fn := fun _ => fun
  | [d] => { results := [.lit (.bool true)], args := [d] }
  | _ => none }
def compOrderRow : OpenClaim := { program := "ythaagngoefieaaadoor", sum := "5c9ae307db2c5ec75bf80293ebe4dd2ef59505526b08089c36d2d13aad55fb76", func := "linchpin/linchpinlaw6.CompOrder", spec := "compOrder", named := ["internal/strconv.uint64pow10", "math/bits.deBruijn32tab", "math/bits.deBruijn64tab"], apart := false, laid := [("math/bits.deBruijn32tab", laid_math_bits_deBruijn32tab), ("math/bits.deBruijn64tab", laid_math_bits_deBruijn64tab), ("internal/strconv.uint64pow10", laid_internal_strconv_uint64pow10)] }
def CompOrderSaid : Prop := compOrderRow.holds Tryd.pinned (OpenSpec.ofChange compOrderSpec)

/-- ITS FALSE NEIGHBOUR: 'it returns false'. Refute it at one input. -/
def compOrderWrong : ChangeSpec := { name := "compOrder", fn := fun _ => fun
  | [d] => { results := [.lit (.bool false)], args := [d] }
  | _ => none }
def CompOrderWrongFalsely : Prop := compOrderRow.holds Tryd.pinned (OpenSpec.ofChange compOrderWrong)

/-- 'linchpinlaw6.CompPairs': WHATEVER THE INPUT: true; the input reads as it did. -/
def compPairsSpec : ChangeSpec := { name := "compPairs", fn := fun _ => fun
  | [d] => { results := [.lit (.bool true)], args := [d] }
  | _ => none }
def compPairsRow : OpenClaim := { program := "ythaagngoefieaaadoor", sum := "5c9ae307db2c5ec75bf80293ebe4dd2ef59505526b08089c36d2d13aad55fb76", func := "linchpin/linchpinlaw6.CompPairs", spec := "compPairs", named := ["internal/strconv.uint64pow10", "math/bits.deBruijn32tab", "math/bits.deBruijn64tab"], apart := false, laid := [("math/bits.deBruijn32tab", laid_math_bits_deBruijn32tab), ("math/bits.deBruijn64tab", laid_math_bits_deBruijn64tab), ("internal/strconv.uint64pow10", laid_internal_strconv_uint64pow10)] }
def CompPairsSaid : Prop := compPairsRow.holds Tryd.pinned (OpenSpec.ofChange compPairsSpec)

/-- ITS FALSE NEIGHBOUR: 'it returns false'. Refute it at one input. -/
def compPairsWrong : ChangeSpec := { name := "compPairs", fn := fun _ => fun
  | [d] => { results := [.lit (.bool false)], args := [d] }
  | _ => none }
def CompPairsWrongFalsely : Prop := compPairsRow.holds Tryd.pinned (OpenSpec.ofChange compPairsWrong)

/-- 'linchpinlaw6.CompNested': WHATEVER THE INPUT: true; the input reads as it did. -/
def compNestedSpec : ChangeSpec := { name := "compNested", fn := fun _ => fun
  | [d] => { results := [.lit (.bool true)], args := [d] }
  | _ => none }
def compNestedRow : OpenClaim := { program := "ythaagngoefieaaadoor", sum := "5c9ae307db2c5ec75bf80293ebe4dd2ef59505526b08089c36d2d13aad55fb76", func := "linchpin/linchpinlaw6.CompNested", spec := "compNested", named := ["internal/strconv.uint64pow10", "math/bits.deBruijn32tab", "math/bits.deBruijn64tab"], apart := false, laid := [("math/bits.deBruijn32tab", laid_math_bits_deBruijn32tab), ("math/bits.deBruijn64tab", laid_math_bits_deBruijn64tab), ("internal/strconv.uint64pow10", laid_internal_strconv_uint64pow10)] }
def CompNestedSaid : Prop := compNestedRow.holds Tryd.pinned (OpenSpec.ofChange compNestedSpec)

/-- ITS FALSE NEIGHBOUR: 'it returns false'. Refute it at one input. -/
def compNestedWrong : ChangeSpec := { name := "compNested", fn := fun _ => fun
  | [d] => { results := [.lit (.bool false)], args := [d] }
  | _ => none }
def CompNestedWrongFalsely : Prop := compNestedRow.holds Tryd.pinned (OpenSpec.ofChange compNestedWrong)

/-- 'linchpinlaw6.CompRegions': WHATEVER THE INPUT: true; the input reads as it did. -/
def compRegionsSpec : ChangeSpec := { name := "compRegions", fn := fun _ => fun
  | [d] => { results := [.lit (.bool true)], args := [d] }
  | _ => none }
def compRegionsRow : OpenClaim := { program := "ythaagngoefieaaadoor", sum := "5c9ae307db2c5ec75bf80293ebe4dd2ef59505526b08089c36d2d13aad55fb76", func := "linchpin/linchpinlaw6.CompRegions", spec := "compRegions", named := ["internal/strconv.uint64pow10", "math/bits.deBruijn32tab", "math/bits.deBruijn64tab"], apart := false, laid := [("math/bits.deBruijn32tab", laid_math_bits_deBruijn32tab), ("math/bits.deBruijn64tab", laid_math_bits_deBruijn64tab), ("internal/strconv.uint64pow10", laid_internal_strconv_uint64pow10)] }
def CompRegionsSaid : Prop := compRegionsRow.holds Tryd.pinned (OpenSpec.ofChange compRegionsSpec)

/-- ITS FALSE NEIGHBOUR: 'it returns false'. Refute it at one input. -/
def compRegionsWrong : ChangeSpec := { name := "compRegions", fn := fun _ => fun
  | [d] => { results := [.lit (.bool false)], args := [d] }
  | _ => none }
def CompRegionsWrongFalsely : Prop := compRegionsRow.holds Tryd.pinned (OpenSpec.ofChange compRegionsWrong)

/-- 'linchpinlaw6.CompMeans': WHATEVER THE INPUT: true; the input reads as it did. -/
def compMeansSpec : ChangeSpec := { name := "compMeans", fn := fun _ => fun
  | [d] => { results := [.lit (.bool true)], args := [d] }
  | _ => none }
def compMeansRow : OpenClaim := { program := "ythaagngoefieaaadoor", sum := "5c9ae307db2c5ec75bf80293ebe4dd2ef59505526b08089c36d2d13aad55fb76", func := "linchpin/linchpinlaw6.CompMeans", spec := "compMeans", named := ["internal/strconv.uint64pow10", "math/bits.deBruijn32tab", "math/bits.deBruijn64tab"], apart := false, laid := [("math/bits.deBruijn32tab", laid_math_bits_deBruijn32tab), ("math/bits.deBruijn64tab", laid_math_bits_deBruijn64tab), ("internal/strconv.uint64pow10", laid_internal_strconv_uint64pow10)] }
def CompMeansSaid : Prop := compMeansRow.holds Tryd.pinned (OpenSpec.ofChange compMeansSpec)

/-- ITS FALSE NEIGHBOUR: 'it returns false'. Refute it at one input. -/
def compMeansWrong : ChangeSpec := { name := "compMeans", fn := fun _ => fun
  | [d] => { results := [.lit (.bool false)], args := [d] }
  | _ => none }
def CompMeansWrongFalsely : Prop := compMeansRow.holds Tryd.pinned (OpenSpec.ofChange compMeansWrong)

/-- 'linchpinlaw6.CompZone': WHATEVER THE INPUT: true; the input reads as it did. -/
def compZoneSpec : ChangeSpec := { name := "compZone", fn := fun _ => fun
  | [d] => { results := [.lit (.bool true)], args := [d] }
  | _ => none }
def compZoneRow : OpenClaim := { program := "ythaagngoefieaaadoor", sum := "5c9ae307db2c5ec75bf80293ebe4dd2ef59505526b08089c36d2d13aad55fb76", func := "linchpin/linchpinlaw6.CompZone", spec := "compZone", named := ["internal/strconv.uint64pow10", "math/bits.deBruijn32tab", "math/bits.deBruijn64tab"], apart := false, laid := [("math/bits.deBruijn32tab", laid_math_bits_deBruijn32tab), ("math/bits.deBruijn64tab", laid_math_bits_deBruijn64tab), ("internal/strconv.uint64pow10", laid_internal_strconv_uint64pow10)] }
def CompZoneSaid : Prop := compZoneRow.holds Tryd.pinned (OpenSpec.ofChange compZoneSpec)

/-- ITS FALSE NEIGHBOUR: 'it returns false'. Refute it at one input. -/
def compZoneWrong : ChangeSpec := { name := "compZone", fn := fun _ => fun
  | [d] => { results := [.lit (.bool false)], args := [d] }
  | _ => none }
def CompZoneWrongFalsely : Prop := compZoneRow.holds Tryd.pinned (OpenSpec.ofChange compZoneWrong)

/- THE SECOND FORM. 'bulk': how many values and letters a reading holds, each counted each time it is reached (what is shared counts as often as it is met; a slice's spare places count too). A statement '..UptoSaid' is the law's where the arguments, and the package variables that the reading takes, are together of bulk at most 1048576: NARROWER than '..Said'. Prove '..Said' where nothing that the law and all that it calls make is longer than what came in: it says more and counts as full. Else prove '..UptoSaid'. A law counts once. -/
mutual
def uptoBulk {H : Type} : DataW H → Nat
  | .lit (.string bytes) => bytes.length + 1
  | .lit _ => 1
  | .nil => 1
  | .ptr d => uptoBulk d + 1
  | .slice elems spare => uptoBulkAll elems + uptoBulkAll spare + 1
  | .agg parts => uptoBulkAll parts + 1
  | .iface _ d => uptoBulk d + 1
  | .map entries => uptoBulkEntries entries + 1
  | .held _ => 1
def uptoBulkAll {H : Type} : List (DataW H) → Nat
  | [] => 0
  | d :: r => uptoBulk d + uptoBulkAll r
def uptoBulkEntries {H : Type} : List (Lit × DataW H) → Nat
  | [] => 0
  | x :: r => uptoBulkEntry x + uptoBulkEntries r
def uptoBulkEntry {H : Type} : Lit × DataW H → Nat
  | (.string bytes, d) => bytes.length + uptoBulk d + 1
  | (_, d) => uptoBulk d + 1
 end
def uptoSmall : (H : Type) → List (DataW H) → Bool := fun _ ds => decide (uptoBulkAll ds ≤ 1048576)
def OpenSpec.upto (s : _root_.Go.ChangeSpec) : _root_.Go.OpenSpec := { _root_.Go.OpenSpec.ofChange s with cond := some uptoSmall }

/-- 'linchpinlaw6.CompReads', WHERE WHAT IT READS IS OF BULK AT MOST 1048576: true; the input reads as it did. -/
def compReadsUptoRow : OpenClaim := { program := "ythaagngoefieaaadoor", sum := "5c9ae307db2c5ec75bf80293ebe4dd2ef59505526b08089c36d2d13aad55fb76", func := "linchpin/linchpinlaw6.CompReads", spec := "compReads", named := ["internal/strconv.uint64pow10", "math/bits.deBruijn32tab", "math/bits.deBruijn64tab"], apart := false, laid := [("math/bits.deBruijn32tab", laid_math_bits_deBruijn32tab), ("math/bits.deBruijn64tab", laid_math_bits_deBruijn64tab), ("internal/strconv.uint64pow10", laid_internal_strconv_uint64pow10)], narrowed := true }
def CompReadsUptoSaid : Prop := compReadsUptoRow.holds Tryd.pinned (OpenSpec.upto compReadsSpec)

/-- 'linchpinlaw6.CompPrints', WHERE WHAT IT READS IS OF BULK AT MOST 1048576: true; the input reads as it did. -/
def compPrintsUptoRow : OpenClaim := { program := "ythaagngoefieaaadoor", sum := "5c9ae307db2c5ec75bf80293ebe4dd2ef59505526b08089c36d2d13aad55fb76", func := "linchpin/linchpinlaw6.CompPrints", spec := "compPrints", named := ["internal/strconv.uint64pow10", "math/bits.deBruijn32tab", "math/bits.deBruijn64tab"], apart := false, laid := [("math/bits.deBruijn32tab", laid_math_bits_deBruijn32tab), ("math/bits.deBruijn64tab", laid_math_bits_deBruijn64tab), ("internal/strconv.uint64pow10", laid_internal_strconv_uint64pow10)], narrowed := true }
def CompPrintsUptoSaid : Prop := compPrintsUptoRow.holds Tryd.pinned (OpenSpec.upto compPrintsSpec)

/-- 'linchpinlaw6.CompOrder', WHERE WHAT IT READS IS OF BULK AT MOST 1048576: true; the input reads as it did. -/
def compOrderUptoRow : OpenClaim := { program := "ythaagngoefieaaadoor", sum := "5c9ae307db2c5ec75bf80293ebe4dd2ef59505526b08089c36d2d13aad55fb76", func := "linchpin/linchpinlaw6.CompOrder", spec := "compOrder", named := ["internal/strconv.uint64pow10", "math/bits.deBruijn32tab", "math/bits.deBruijn64tab"], apart := false, laid := [("math/bits.deBruijn32tab", laid_math_bits_deBruijn32tab), ("math/bits.deBruijn64tab", laid_math_bits_deBruijn64tab), ("internal/strconv.uint64pow10", laid_internal_strconv_uint64pow10)], narrowed := true }
def CompOrderUptoSaid : Prop := compOrderUptoRow.holds Tryd.pinned (OpenSpec.upto compOrderSpec)

/-- 'linchpinlaw6.CompPairs', WHERE WHAT IT READS IS OF BULK AT MOST 1048576: true; the input reads as it did. -/
def compPairsUptoRow : OpenClaim := { program := "ythaagngoefieaaadoor", sum := "5c9ae307db2c5ec75bf80293ebe4dd2ef59505526b08089c36d2d13aad55fb76", func := "linchpin/linchpinlaw6.CompPairs", spec := "compPairs", named := ["internal/strconv.uint64pow10", "math/bits.deBruijn32tab", "math/bits.deBruijn64tab"], apart := false, laid := [("math/bits.deBruijn32tab", laid_math_bits_deBruijn32tab), ("math/bits.deBruijn64tab", laid_math_bits_deBruijn64tab), ("internal/strconv.uint64pow10", laid_internal_strconv_uint64pow10)], narrowed := true }
def CompPairsUptoSaid : Prop := compPairsUptoRow.holds Tryd.pinned (OpenSpec.upto compPairsSpec)

/-- 'linchpinlaw6.CompNested', WHERE WHAT IT READS IS OF BULK AT MOST 1048576: true; the input reads as it did. -/
def compNestedUptoRow : OpenClaim := { program := "ythaagngoefieaaadoor", sum := "5c9ae307db2c5ec75bf80293ebe4dd2ef59505526b08089c36d2d13aad55fb76", func := "linchpin/linchpinlaw6.CompNested", spec := "compNested", named := ["internal/strconv.uint64pow10", "math/bits.deBruijn32tab", "math/bits.deBruijn64tab"], apart := false, laid := [("math/bits.deBruijn32tab", laid_math_bits_deBruijn32tab), ("math/bits.deBruijn64tab", laid_math_bits_deBruijn64tab), ("internal/strconv.uint64pow10", laid_internal_strconv_uint64pow10)], narrowed := true }
def CompNestedUptoSaid : Prop := compNestedUptoRow.holds Tryd.pinned (OpenSpec.upto compNestedSpec)

/-- 'linchpinlaw6.CompRegions', WHERE WHAT IT READS IS OF BULK AT MOST 1048576: true; the input reads as it did. -/
def compRegionsUptoRow : OpenClaim := { program := "ythaagngoefieaaadoor", sum := "5c9ae307db2c5ec75bf80293ebe4dd2ef59505526b08089c36d2d13aad55fb76", func := "linchpin/linchpinlaw6.CompRegions", spec := "compRegions", named := ["internal/strconv.uint64pow10", "math/bits.deBruijn32tab", "math/bits.deBruijn64tab"], apart := false, laid := [("math/bits.deBruijn32tab", laid_math_bits_deBruijn32tab), ("math/bits.deBruijn64tab", laid_math_bits_deBruijn64tab), ("internal/strconv.uint64pow10", laid_internal_strconv_uint64pow10)], narrowed := true }
def CompRegionsUptoSaid : Prop := compRegionsUptoRow.holds Tryd.pinned (OpenSpec.upto compRegionsSpec)

/-- 'linchpinlaw6.CompMeans', WHERE WHAT IT READS IS OF BULK AT MOST 1048576: true; the input reads as it did. -/
def compMeansUptoRow : OpenClaim := { program := "ythaagngoefieaaadoor", sum := "5c9ae307db2c5ec75bf80293ebe4dd2ef59505526b08089c36d2d13aad55fb76", func := "linchpin/linchpinlaw6.CompMeans", spec := "compMeans", named := ["internal/strconv.uint64pow10", "math/bits.deBruijn32tab", "math/bits.deBruijn64tab"], apart := false, laid := [("math/bits.deBruijn32tab", laid_math_bits_deBruijn32tab), ("math/bits.deBruijn64tab", laid_math_bits_deBruijn64tab), ("internal/strconv.uint64pow10", laid_internal_strconv_uint64pow10)], narrowed := true }
def CompMeansUptoSaid : Prop := compMeansUptoRow.holds Tryd.pinned (OpenSpec.upto compMeansSpec)

/-- 'linchpinlaw6.CompZone', WHERE WHAT IT READS IS OF BULK AT MOST 1048576: true; the input reads as it did. -/
def compZoneUptoRow : OpenClaim := { program := "ythaagngoefieaaadoor", sum := "5c9ae307db2c5ec75bf80293ebe4dd2ef59505526b08089c36d2d13aad55fb76", func := "linchpin/linchpinlaw6.CompZone", spec := "compZone", named := ["internal/strconv.uint64pow10", "math/bits.deBruijn32tab", "math/bits.deBruijn64tab"], apart := false, laid := [("math/bits.deBruijn32tab", laid_math_bits_deBruijn32tab), ("math/bits.deBruijn64tab", laid_math_bits_deBruijn64tab), ("internal/strconv.uint64pow10", laid_internal_strconv_uint64pow10)], narrowed := true }
def CompZoneUptoSaid : Prop := compZoneUptoRow.holds Tryd.pinned (OpenSpec.upto compZoneSpec)

end Rows
end Go.Proofs.YthaagngoefieaaaDoor
