/-
  DERIVED. GIVEN WITH THE SEED: THE CARDS: each row of YtabcpbmnemfnbaaDoorRows.lean that lists a variable, with what it lists TIED to the program's text (the seventh form; the later family's looks); each row that meets fmt, with fmt's text TOLD by the authors' own Lean function (tested against real Go, not proved from fmt's source: count such statements apart). THE CARD IS WHAT COUNTS. Prove the row's statement (the work); the ties are given (YtabcpbmnemfnbaaDoorTie.lean); close each card by the builder's one call (the guide's Derived/Test/ToyasCard.lean, 'card_holds'). Laid BY PROGRAM, IN A SANDBOX (cutbox-door.mjs). By AI agents, Wed Nov 11 2026. No macro, syntax, notation, axiom, sorry.
-/
import Derived.Test.YtabcpbmnemfnbaaDoorRows
import GoSem.ClaimSeven
namespace Go.Proofs.YtabcpbmnemfnbaaDoor
namespace Rows

/-- THE TIED CARD OF 'linchpinlaw2.VersionReads'. -/
def versionReadsCard : Claim7 := { stood := { row := versionReadsRow, standIns := [], harness := (true, "1138918c835a6a02fdb32620e4500cb2ff7c3d3ff0befcc1716b68f6ed2cd846"), looks := false }, kinds := [], alts := [], laidByText := true, laidKinds := [.data, .data, .data], laidTests := true, laidLooks := .later }
def VersionReadsCardSaid : Prop := Claim7.holds Tryd.pinned (.plain (OpenSpec.ofChange versionReadsSpec)) versionReadsCard

/-- THE TIED CARD OF 'linchpinlaw2.VersionPrints'. -/
def versionPrintsCard : Claim7 := { stood := { row := versionPrintsRow, standIns := [], harness := (true, "1138918c835a6a02fdb32620e4500cb2ff7c3d3ff0befcc1716b68f6ed2cd846"), looks := false }, kinds := [], alts := [], laidByText := true, laidKinds := [.data, .data, .data], laidTests := true, laidLooks := .later }
def VersionPrintsCardSaid : Prop := Claim7.holds Tryd.pinned (.plain (OpenSpec.ofChange versionPrintsSpec)) versionPrintsCard

/-- THE TIED CARD OF 'linchpinlaw2.VersionCompares'. -/
def versionComparesCard : Claim7 := { stood := { row := versionComparesRow, standIns := [], harness := (true, "1138918c835a6a02fdb32620e4500cb2ff7c3d3ff0befcc1716b68f6ed2cd846"), looks := false }, kinds := [], alts := [], laidByText := true, laidKinds := [.data, .data, .data], laidTests := true, laidLooks := .later }
def VersionComparesCardSaid : Prop := Claim7.holds Tryd.pinned (.plain (OpenSpec.ofChange versionComparesSpec)) versionComparesCard

/-- THE TIED CARD OF 'linchpinlaw2.VersionOrder'. -/
def versionOrderCard : Claim7 := { stood := { row := versionOrderRow, standIns := [], harness := (true, "1138918c835a6a02fdb32620e4500cb2ff7c3d3ff0befcc1716b68f6ed2cd846"), looks := false }, kinds := [], alts := [], laidByText := true, laidKinds := [.data, .data, .data], laidTests := true, laidLooks := .later }
def VersionOrderCardSaid : Prop := Claim7.holds Tryd.pinned (.plain (OpenSpec.ofChange versionOrderSpec)) versionOrderCard

/-- THE TIED CARD OF 'linchpinlaw2.VersionBumps'. -/
def versionBumpsCard : Claim7 := { stood := { row := versionBumpsRow, standIns := [], harness := (true, "1138918c835a6a02fdb32620e4500cb2ff7c3d3ff0befcc1716b68f6ed2cd846"), looks := false }, kinds := [], alts := [], laidByText := true, laidKinds := [.data, .data, .data], laidTests := true, laidLooks := .later }
def VersionBumpsCardSaid : Prop := Claim7.holds Tryd.pinned (.plain (OpenSpec.ofChange versionBumpsSpec)) versionBumpsCard

/-- THE TIED CARD OF 'linchpinlaw2.VersionNext'. -/
def versionNextCard : Claim7 := { stood := { row := versionNextRow, standIns := [], harness := (true, "1138918c835a6a02fdb32620e4500cb2ff7c3d3ff0befcc1716b68f6ed2cd846"), looks := false }, kinds := [], alts := [], laidByText := true, laidKinds := [.data, .data, .data], laidTests := true, laidLooks := .later }
def VersionNextCardSaid : Prop := Claim7.holds Tryd.pinned (.plain (OpenSpec.ofChange versionNextSpec)) versionNextCard

/-- THE TIED CARD OF 'linchpinlaw2.VersionZone'. -/
def versionZoneCard : Claim7 := { stood := { row := versionZoneRow, standIns := [], harness := (true, "1138918c835a6a02fdb32620e4500cb2ff7c3d3ff0befcc1716b68f6ed2cd846"), looks := false }, kinds := [], alts := [], laidByText := true, laidKinds := [.data, .data, .data], laidTests := true, laidLooks := .later }
def VersionZoneCardSaid : Prop := Claim7.holds Tryd.pinned (.plain (OpenSpec.ofChange versionZoneSpec)) versionZoneCard

/-- THE TIED CARD OF 'linchpinlaw2.VersionRow'. -/
def versionRowCard : Claim7 := { stood := { row := versionRowRow, standIns := [], harness := (true, "1138918c835a6a02fdb32620e4500cb2ff7c3d3ff0befcc1716b68f6ed2cd846"), looks := false }, kinds := [], alts := [], laidByText := true, laidKinds := [.data, .data, .data], laidTests := true, laidLooks := .later }
def VersionRowCardSaid : Prop := Claim7.holds Tryd.pinned (.plain (OpenSpec.ofChange versionRowSpec)) versionRowCard

/-- THE TIED CARD OF 'linchpinlaw2.VersionUnlike'. -/
def versionUnlikeCard : Claim7 := { stood := { row := versionUnlikeRow, standIns := [], harness := (true, "1138918c835a6a02fdb32620e4500cb2ff7c3d3ff0befcc1716b68f6ed2cd846"), looks := false }, kinds := [], alts := [], laidByText := true, laidKinds := [.data, .data, .data], laidTests := true, laidLooks := .later }
def VersionUnlikeCardSaid : Prop := Claim7.holds Tryd.pinned (.plain (OpenSpec.ofChange versionUnlikeSpec)) versionUnlikeCard

/-- THE TIED CARD OF 'linchpinlaw2.VersionAbove'. -/
def versionAboveCard : Claim7 := { stood := { row := versionAboveRow, standIns := [], harness := (true, "1138918c835a6a02fdb32620e4500cb2ff7c3d3ff0befcc1716b68f6ed2cd846"), looks := false }, kinds := [], alts := [], laidByText := true, laidKinds := [.data, .data, .data], laidTests := true, laidLooks := .later }
def VersionAboveCardSaid : Prop := Claim7.holds Tryd.pinned (.plain (OpenSpec.ofChange versionAboveSpec)) versionAboveCard

/-- THE SECOND FORM's CARD OF 'linchpinlaw2.VersionReads'. -/
def versionReadsUptoCard : Claim7 := { stood := { row := versionReadsUptoRow, standIns := [], harness := (true, "1138918c835a6a02fdb32620e4500cb2ff7c3d3ff0befcc1716b68f6ed2cd846"), looks := false }, kinds := [], alts := [], laidByText := true, laidKinds := [.data, .data, .data], laidTests := true, laidLooks := .later }
def VersionReadsUptoCardSaid : Prop := Claim7.holds Tryd.pinned (.plain (OpenSpec.upto versionReadsSpec)) versionReadsUptoCard

/-- THE SECOND FORM's CARD OF 'linchpinlaw2.VersionPrints'. -/
def versionPrintsUptoCard : Claim7 := { stood := { row := versionPrintsUptoRow, standIns := [], harness := (true, "1138918c835a6a02fdb32620e4500cb2ff7c3d3ff0befcc1716b68f6ed2cd846"), looks := false }, kinds := [], alts := [], laidByText := true, laidKinds := [.data, .data, .data], laidTests := true, laidLooks := .later }
def VersionPrintsUptoCardSaid : Prop := Claim7.holds Tryd.pinned (.plain (OpenSpec.upto versionPrintsSpec)) versionPrintsUptoCard

/-- THE SECOND FORM's CARD OF 'linchpinlaw2.VersionCompares'. -/
def versionComparesUptoCard : Claim7 := { stood := { row := versionComparesUptoRow, standIns := [], harness := (true, "1138918c835a6a02fdb32620e4500cb2ff7c3d3ff0befcc1716b68f6ed2cd846"), looks := false }, kinds := [], alts := [], laidByText := true, laidKinds := [.data, .data, .data], laidTests := true, laidLooks := .later }
def VersionComparesUptoCardSaid : Prop := Claim7.holds Tryd.pinned (.plain (OpenSpec.upto versionComparesSpec)) versionComparesUptoCard

/-- THE SECOND FORM's CARD OF 'linchpinlaw2.VersionOrder'. -/
def versionOrderUptoCard : Claim7 := { stood := { row := versionOrderUptoRow, standIns := [], harness := (true, "1138918c835a6a02fdb32620e4500cb2ff7c3d3ff0befcc1716b68f6ed2cd846"), looks := false }, kinds := [], alts := [], laidByText := true, laidKinds := [.data, .data, .data], laidTests := true, laidLooks := .later }
def VersionOrderUptoCardSaid : Prop := Claim7.holds Tryd.pinned (.plain (OpenSpec.upto versionOrderSpec)) versionOrderUptoCard

/-- THE SECOND FORM's CARD OF 'linchpinlaw2.VersionBumps'. -/
def versionBumpsUptoCard : Claim7 := { stood := { row := versionBumpsUptoRow, standIns := [], harness := (true, "1138918c835a6a02fdb32620e4500cb2ff7c3d3ff0befcc1716b68f6ed2cd846"), looks := false }, kinds := [], alts := [], laidByText := true, laidKinds := [.data, .data, .data], laidTests := true, laidLooks := .later }
def VersionBumpsUptoCardSaid : Prop := Claim7.holds Tryd.pinned (.plain (OpenSpec.upto versionBumpsSpec)) versionBumpsUptoCard

/-- THE SECOND FORM's CARD OF 'linchpinlaw2.VersionNext'. -/
def versionNextUptoCard : Claim7 := { stood := { row := versionNextUptoRow, standIns := [], harness := (true, "1138918c835a6a02fdb32620e4500cb2ff7c3d3ff0befcc1716b68f6ed2cd846"), looks := false }, kinds := [], alts := [], laidByText := true, laidKinds := [.data, .data, .data], laidTests := true, laidLooks := .later }
def VersionNextUptoCardSaid : Prop := Claim7.holds Tryd.pinned (.plain (OpenSpec.upto versionNextSpec)) versionNextUptoCard

/-- THE SECOND FORM's CARD OF 'linchpinlaw2.VersionZone'. -/
def versionZoneUptoCard : Claim7 := { stood := { row := versionZoneUptoRow, standIns := [], harness := (true, "1138918c835a6a02fdb32620e4500cb2ff7c3d3ff0befcc1716b68f6ed2cd846"), looks := false }, kinds := [], alts := [], laidByText := true, laidKinds := [.data, .data, .data], laidTests := true, laidLooks := .later }
def VersionZoneUptoCardSaid : Prop := Claim7.holds Tryd.pinned (.plain (OpenSpec.upto versionZoneSpec)) versionZoneUptoCard

/-- THE SECOND FORM's CARD OF 'linchpinlaw2.VersionRow'. -/
def versionRowUptoCard : Claim7 := { stood := { row := versionRowUptoRow, standIns := [], harness := (true, "1138918c835a6a02fdb32620e4500cb2ff7c3d3ff0befcc1716b68f6ed2cd846"), looks := false }, kinds := [], alts := [], laidByText := true, laidKinds := [.data, .data, .data], laidTests := true, laidLooks := .later }
def VersionRowUptoCardSaid : Prop := Claim7.holds Tryd.pinned (.plain (OpenSpec.upto versionRowSpec)) versionRowUptoCard

/-- THE SECOND FORM's CARD OF 'linchpinlaw2.VersionUnlike'. -/
def versionUnlikeUptoCard : Claim7 := { stood := { row := versionUnlikeUptoRow, standIns := [], harness := (true, "1138918c835a6a02fdb32620e4500cb2ff7c3d3ff0befcc1716b68f6ed2cd846"), looks := false }, kinds := [], alts := [], laidByText := true, laidKinds := [.data, .data, .data], laidTests := true, laidLooks := .later }
def VersionUnlikeUptoCardSaid : Prop := Claim7.holds Tryd.pinned (.plain (OpenSpec.upto versionUnlikeSpec)) versionUnlikeUptoCard

/-- THE SECOND FORM's CARD OF 'linchpinlaw2.VersionAbove'. -/
def versionAboveUptoCard : Claim7 := { stood := { row := versionAboveUptoRow, standIns := [], harness := (true, "1138918c835a6a02fdb32620e4500cb2ff7c3d3ff0befcc1716b68f6ed2cd846"), looks := false }, kinds := [], alts := [], laidByText := true, laidKinds := [.data, .data, .data], laidTests := true, laidLooks := .later }
def VersionAboveUptoCardSaid : Prop := Claim7.holds Tryd.pinned (.plain (OpenSpec.upto versionAboveSpec)) versionAboveUptoCard
end Rows
end Go.Proofs.YtabcpbmnemfnbaaDoor
