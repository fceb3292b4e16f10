/-
  DERIVED. GIVEN WITH THE SEED: THE CARDS: each row of YthaagngoefieaaaDoorRows.lean that lists a variable, with what it lists TIED to the program's text (the seventh form; the later family's looks); each row that meets fmt, with fmt's text TOLD by the authors' own Lean function (tested against real Go, not proved from fmt's source: count such statements apart). THE CARD IS WHAT COUNTS. Prove the row's statement (the work); the ties are given (YthaagngoefieaaaDoorTie.lean); close each card by the builder's one call (the guide's Derived/Test/ToyasCard.lean, 'card_holds'). Laid BY PROGRAM, IN A SANDBOX (cutbox-door.mjs). By AI agents, Wed Nov 11 2026. No macro, syntax, notation, axiom, sorry.
-/
import Derived.Test.YthaagngoefieaaaDoorRows
import GoSem.ClaimSeven
namespace Go.Proofs.YthaagngoefieaaaDoor
namespace Rows

/-- THE TIED CARD OF 'linchpinlaw6.CompReads'. -/
def compReadsCard : Claim7 := { stood := { row := compReadsRow, standIns := [], harness := (true, "33580ac11a979b4b1cebcdc94eaaa5f11d2ba425d0f282f8678562d83002cea8"), looks := false }, kinds := [], alts := [], laidByText := true, laidKinds := [.data, .data, .data], laidTests := true, laidLooks := .later }
def CompReadsCardSaid : Prop := Claim7.holds Tryd.pinned (.plain (OpenSpec.ofChange compReadsSpec)) compReadsCard

/-- THE TIED CARD OF 'linchpinlaw6.CompPrints'. -/
def compPrintsCard : Claim7 := { stood := { row := compPrintsRow, standIns := [], harness := (true, "33580ac11a979b4b1cebcdc94eaaa5f11d2ba425d0f282f8678562d83002cea8"), looks := false }, kinds := [], alts := [], laidByText := true, laidKinds := [.data, .data, .data], laidTests := true, laidLooks := .later }
def CompPrintsCardSaid : Prop := Claim7.holds Tryd.pinned (.plain (OpenSpec.ofChange compPrintsSpec)) compPrintsCard

/-- THE TIED CARD OF 'linchpinlaw6.CompOrder'. -/
def compOrderCard : Claim7 := { stood := { row := compOrderRow, standIns := [], harness := (true, "33580ac11a979b4b1cebcdc94eaaa5f11d2ba425d0f282f8678562d83002cea8"), looks := false }, kinds := [], alts := [], laidByText := true, laidKinds := [.data, .data, .data], laidTests := true, laidLooks := .later }
def CompOrderCardSaid : Prop := Claim7.holds Tryd.pinned (.plain (OpenSpec.ofChange compOrderSpec)) compOrderCard

/-- THE TIED CARD OF 'linchpinlaw6.CompPairs'. -/
def compPairsCard : Claim7 := { stood := { row := compPairsRow, standIns := [], harness := (true, "33580ac11a979b4b1cebcdc94eaaa5f11d2ba425d0f282f8678562d83002cea8"), looks := false }, kinds := [], alts := [], laidByText := true, laidKinds := [.data, .data, .data], laidTests := true, laidLooks := .later }
def CompPairsCardSaid : Prop := Claim7.holds Tryd.pinned (.plain (OpenSpec.ofChange compPairsSpec)) compPairsCard

/-- THE TIED CARD OF 'linchpinlaw6.CompNested'. -/
def compNestedCard : Claim7 := { stood := { row := compNestedRow, standIns := [], harness := (true, "33580ac11a979b4b1cebcdc94eaaa5f11d2ba425d0f282f8678562d83002cea8"), looks := false }, kinds := [], alts := [], laidByText := true, laidKinds := [.data, .data, .data], laidTests := true, laidLooks := .later }
def CompNestedCardSaid : Prop := Claim7.holds Tryd.pinned (.plain (OpenSpec.ofChange compNestedSpec)) compNestedCard

/-- THE TIED CARD OF 'linchpinlaw6.CompRegions'. -/
def compRegionsCard : Claim7 := { stood := { row := compRegionsRow, standIns := [], harness := (true, "33580ac11a979b4b1cebcdc94eaaa5f11d2ba425d0f282f8678562d83002cea8"), looks := false }, kinds := [], alts := [], laidByText := true, laidKinds := [.data, .data, .data], laidTests := true, laidLooks := .later }
def CompRegionsCardSaid : Prop := Claim7.holds Tryd.pinned (.plain (OpenSpec.ofChange compRegionsSpec)) compRegionsCard

/-- THE TIED CARD OF 'linchpinlaw6.CompMeans'. -/
def compMeansCard : Claim7 := { stood := { row := compMeansRow, standIns := [], harness := (true, "33580ac11a979b4b1cebcdc94eaaa5f11d2ba425d0f282f8678562d83002cea8"), looks := false }, kinds := [], alts := [], laidByText := true, laidKinds := [.data, .data, .data], laidTests := true, laidLooks := .later }
def CompMeansCardSaid : Prop := Claim7.holds Tryd.pinned (.plain (OpenSpec.ofChange compMeansSpec)) compMeansCard

/-- THE TIED CARD OF 'linchpinlaw6.CompZone'. -/
def compZoneCard : Claim7 := { stood := { row := compZoneRow, standIns := [], harness := (true, "33580ac11a979b4b1cebcdc94eaaa5f11d2ba425d0f282f8678562d83002cea8"), looks := false }, kinds := [], alts := [], laidByText := true, laidKinds := [.data, .data, .data], laidTests := true, laidLooks := .later }
def CompZoneCardSaid : Prop := Claim7.holds Tryd.pinned (.plain (OpenSpec.ofChange compZoneSpec)) compZoneCard

/-- THE SECOND FORM's CARD OF 'linchpinlaw6.CompReads'. -/
def compReadsUptoCard : Claim7 := { stood := { row := compReadsUptoRow, standIns := [], harness := (true, "33580ac11a979b4b1cebcdc94eaaa5f11d2ba425d0f282f8678562d83002cea8"), looks := false }, kinds := [], alts := [], laidByText := true, laidKinds := [.data, .data, .data], laidTests := true, laidLooks := .later }
def CompReadsUptoCardSaid : Prop := Claim7.holds Tryd.pinned (.plain (OpenSpec.upto compReadsSpec)) compReadsUptoCard

/-- THE SECOND FORM's CARD OF 'linchpinlaw6.CompPrints'. -/
def compPrintsUptoCard : Claim7 := { stood := { row := compPrintsUptoRow, standIns := [], harness := (true, "33580ac11a979b4b1cebcdc94eaaa5f11d2ba425d0f282f8678562d83002cea8"), looks := false }, kinds := [], alts := [], laidByText := true, laidKinds := [.data, .data, .data], laidTests := true, laidLooks := .later }
def CompPrintsUptoCardSaid : Prop := Claim7.holds Tryd.pinned (.plain (OpenSpec.upto compPrintsSpec)) compPrintsUptoCard

/-- THE SECOND FORM's CARD OF 'linchpinlaw6.CompOrder'. -/
def compOrderUptoCard : Claim7 := { stood := { row := compOrderUptoRow, standIns := [], harness := (true, "33580ac11a979b4b1cebcdc94eaaa5f11d2ba425d0f282f8678562d83002cea8"), looks := false }, kinds := [], alts := [], laidByText := true, laidKinds := [.data, .data, .data], laidTests := true, laidLooks := .later }
def CompOrderUptoCardSaid : Prop := Claim7.holds Tryd.pinned (.plain (OpenSpec.upto compOrderSpec)) compOrderUptoCard

/-- THE SECOND FORM's CARD OF 'linchpinlaw6.CompPairs'. -/
def compPairsUptoCard : Claim7 := { stood := { row := compPairsUptoRow, standIns := [], harness := (true, "33580ac11a979b4b1cebcdc94eaaa5f11d2ba425d0f282f8678562d83002cea8"), looks := false }, kinds := [], alts := [], laidByText := true, laidKinds := [.data, .data, .data], laidTests := true, laidLooks := .later }
def CompPairsUptoCardSaid : Prop := Claim7.holds Tryd.pinned (.plain (OpenSpec.upto compPairsSpec)) compPairsUptoCard

/-- THE SECOND FORM's CARD OF 'linchpinlaw6.CompNested'. -/
def compNestedUptoCard : Claim7 := { stood := { row := compNestedUptoRow, standIns := [], harness := (true, "33580ac11a979b4b1cebcdc94eaaa5f11d2ba425d0f282f8678562d83002cea8"), looks := false }, kinds := [], alts := [], laidByText := true, laidKinds := [.data, .data, .data], laidTests := true, laidLooks := .later }
def CompNestedUptoCardSaid : Prop := Claim7.holds Tryd.pinned (.plain (OpenSpec.upto compNestedSpec)) compNestedUptoCard

/-- THE SECOND FORM's CARD OF 'linchpinlaw6.CompRegions'. -/
def compRegionsUptoCard : Claim7 := { stood := { row := compRegionsUptoRow, standIns := [], harness := (true, "33580ac11a979b4b1cebcdc94eaaa5f11d2ba425d0f282f8678562d83002cea8"), looks := false }, kinds := [], alts := [], laidByText := true, laidKinds := [.data, .data, .data], laidTests := true, laidLooks := .later }
def CompRegionsUptoCardSaid : Prop := Claim7.holds Tryd.pinned (.plain (OpenSpec.upto compRegionsSpec)) compRegionsUptoCard

/-- THE SECOND FORM's CARD OF 'linchpinlaw6.CompMeans'. -/
def compMeansUptoCard : Claim7 := { stood := { row := compMeansUptoRow, standIns := [], harness := (true, "33580ac11a979b4b1cebcdc94eaaa5f11d2ba425d0f282f8678562d83002cea8"), looks := false }, kinds := [], alts := [], laidByText := true, laidKinds := [.data, .data, .data], laidTests := true, laidLooks := .later }
def CompMeansUptoCardSaid : Prop := Claim7.holds Tryd.pinned (.plain (OpenSpec.upto compMeansSpec)) compMeansUptoCard

/-- THE SECOND FORM's CARD OF 'linchpinlaw6.CompZone'. -/
def compZoneUptoCard : Claim7 := { stood := { row := compZoneUptoRow, standIns := [], harness := (true, "33580ac11a979b4b1cebcdc94eaaa5f11d2ba425d0f282f8678562d83002cea8"), looks := false }, kinds := [], alts := [], laidByText := true, laidKinds := [.data, .data, .data], laidTests := true, laidLooks := .later }
def CompZoneUptoCardSaid : Prop := Claim7.holds Tryd.pinned (.plain (OpenSpec.upto compZoneSpec)) compZoneUptoCard
end Rows
end Go.Proofs.YthaagngoefieaaaDoor
