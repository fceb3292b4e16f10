/-
  DERIVED. GIVEN WITH THE SEED: THE CARDS: each row of YtcagjlciakcnjaaDoorRows.lean that lists a variable, with what it lists TIED to the program's text (the seventh form; the later family's looks); each row that meets fmt, with fmt's text TOLD by the authors' own Lean function (tested against real Go, not proved from fmt's source: count such statements apart). THE CARD IS WHAT COUNTS. Prove the row's statement (the work); the ties are given (YtcagjlciakcnjaaDoorTie.lean); close each card by the builder's one call (the guide's Derived/Test/ToyasCard.lean, 'card_holds'). Laid BY PROGRAM, IN A SANDBOX (cutbox-door.mjs). By AI agents, Wed Nov 11 2026. No macro, syntax, notation, axiom, sorry.
-/
import Derived.Test.YtcagjlciakcnjaaDoorRows
import GoSem.ClaimSeven
namespace Go.Proofs.YtcagjlciakcnjaaDoor
namespace Rows

/-- THE TIED CARD OF 'linchpinlaw1.IdentNames'. -/
def identNamesCard : Claim7 := { stood := { row := identNamesRow, standIns := [], harness := (true, "f17f0583218e3e5e35f98b2f5cc12dca8af4f0be2d30b39ab6e38afd388b8f50"), looks := false }, kinds := [], alts := [], laidByText := true, laidKinds := [.data, .data, .data], laidTests := true, laidLooks := .later }
def IdentNamesCardSaid : Prop := Claim7.holds Tryd.pinned (.plain (OpenSpec.ofChange identNamesSpec)) identNamesCard

/-- THE TIED CARD OF 'linchpinlaw1.IdentNumbers'. -/
def identNumbersCard : Claim7 := { stood := { row := identNumbersRow, standIns := [], harness := (true, "f17f0583218e3e5e35f98b2f5cc12dca8af4f0be2d30b39ab6e38afd388b8f50"), looks := false }, kinds := [], alts := [], laidByText := true, laidKinds := [.data, .data, .data], laidTests := true, laidLooks := .later }
def IdentNumbersCardSaid : Prop := Claim7.holds Tryd.pinned (.plain (OpenSpec.ofChange identNumbersSpec)) identNumbersCard

/-- THE TIED CARD OF 'linchpinlaw1.IdentBack'. -/
def identBackCard : Claim7 := { stood := { row := identBackRow, standIns := [], harness := (true, "f17f0583218e3e5e35f98b2f5cc12dca8af4f0be2d30b39ab6e38afd388b8f50"), looks := false }, kinds := [], alts := [], laidByText := true, laidKinds := [.data, .data, .data], laidTests := true, laidLooks := .later }
def IdentBackCardSaid : Prop := Claim7.holds Tryd.pinned (.plain (OpenSpec.ofChange identBackSpec)) identBackCard

/-- THE TIED CARD OF 'linchpinlaw1.IdentParts'. -/
def identPartsCard : Claim7 := { stood := { row := identPartsRow, standIns := [], harness := (true, "f17f0583218e3e5e35f98b2f5cc12dca8af4f0be2d30b39ab6e38afd388b8f50"), looks := false }, kinds := [], alts := [], laidByText := true, laidKinds := [.data, .data, .data], laidTests := true, laidLooks := .later }
def IdentPartsCardSaid : Prop := Claim7.holds Tryd.pinned (.plain (OpenSpec.ofChange identPartsSpec)) identPartsCard

/-- THE TIED CARD OF 'linchpinlaw1.IdentWhole'. -/
def identWholeCard : Claim7 := { stood := { row := identWholeRow, standIns := [], harness := (true, "f17f0583218e3e5e35f98b2f5cc12dca8af4f0be2d30b39ab6e38afd388b8f50"), looks := false }, kinds := [], alts := [], laidByText := true, laidKinds := [.data, .data, .data], laidTests := true, laidLooks := .later }
def IdentWholeCardSaid : Prop := Claim7.holds Tryd.pinned (.plain (OpenSpec.ofChange identWholeSpec)) identWholeCard

/-- THE TIED CARD OF 'linchpinlaw1.IdentJoins'. -/
def identJoinsCard : Claim7 := { stood := { row := identJoinsRow, standIns := [], harness := (true, "f17f0583218e3e5e35f98b2f5cc12dca8af4f0be2d30b39ab6e38afd388b8f50"), looks := false }, kinds := [], alts := [], laidByText := true, laidKinds := [.data, .data, .data], laidTests := true, laidLooks := .later }
def IdentJoinsCardSaid : Prop := Claim7.holds Tryd.pinned (.plain (OpenSpec.ofChange identJoinsSpec)) identJoinsCard

/-- THE SECOND FORM's CARD OF 'linchpinlaw1.IdentNames'. -/
def identNamesUptoCard : Claim7 := { stood := { row := identNamesUptoRow, standIns := [], harness := (true, "f17f0583218e3e5e35f98b2f5cc12dca8af4f0be2d30b39ab6e38afd388b8f50"), looks := false }, kinds := [], alts := [], laidByText := true, laidKinds := [.data, .data, .data], laidTests := true, laidLooks := .later }
def IdentNamesUptoCardSaid : Prop := Claim7.holds Tryd.pinned (.plain (OpenSpec.upto identNamesSpec)) identNamesUptoCard

/-- THE SECOND FORM's CARD OF 'linchpinlaw1.IdentNumbers'. -/
def identNumbersUptoCard : Claim7 := { stood := { row := identNumbersUptoRow, standIns := [], harness := (true, "f17f0583218e3e5e35f98b2f5cc12dca8af4f0be2d30b39ab6e38afd388b8f50"), looks := false }, kinds := [], alts := [], laidByText := true, laidKinds := [.data, .data, .data], laidTests := true, laidLooks := .later }
def IdentNumbersUptoCardSaid : Prop := Claim7.holds Tryd.pinned (.plain (OpenSpec.upto identNumbersSpec)) identNumbersUptoCard

/-- THE SECOND FORM's CARD OF 'linchpinlaw1.IdentBack'. -/
def identBackUptoCard : Claim7 := { stood := { row := identBackUptoRow, standIns := [], harness := (true, "f17f0583218e3e5e35f98b2f5cc12dca8af4f0be2d30b39ab6e38afd388b8f50"), looks := false }, kinds := [], alts := [], laidByText := true, laidKinds := [.data, .data, .data], laidTests := true, laidLooks := .later }
def IdentBackUptoCardSaid : Prop := Claim7.holds Tryd.pinned (.plain (OpenSpec.upto identBackSpec)) identBackUptoCard

/-- THE SECOND FORM's CARD OF 'linchpinlaw1.IdentParts'. -/
def identPartsUptoCard : Claim7 := { stood := { row := identPartsUptoRow, standIns := [], harness := (true, "f17f0583218e3e5e35f98b2f5cc12dca8af4f0be2d30b39ab6e38afd388b8f50"), looks := false }, kinds := [], alts := [], laidByText := true, laidKinds := [.data, .data, .data], laidTests := true, laidLooks := .later }
def IdentPartsUptoCardSaid : Prop := Claim7.holds Tryd.pinned (.plain (OpenSpec.upto identPartsSpec)) identPartsUptoCard

/-- THE SECOND FORM's CARD OF 'linchpinlaw1.IdentWhole'. -/
def identWholeUptoCard : Claim7 := { stood := { row := identWholeUptoRow, standIns := [], harness := (true, "f17f0583218e3e5e35f98b2f5cc12dca8af4f0be2d30b39ab6e38afd388b8f50"), looks := false }, kinds := [], alts := [], laidByText := true, laidKinds := [.data, .data, .data], laidTests := true, laidLooks := .later }
def IdentWholeUptoCardSaid : Prop := Claim7.holds Tryd.pinned (.plain (OpenSpec.upto identWholeSpec)) identWholeUptoCard

/-- THE SECOND FORM's CARD OF 'linchpinlaw1.IdentJoins'. -/
def identJoinsUptoCard : Claim7 := { stood := { row := identJoinsUptoRow, standIns := [], harness := (true, "f17f0583218e3e5e35f98b2f5cc12dca8af4f0be2d30b39ab6e38afd388b8f50"), looks := false }, kinds := [], alts := [], laidByText := true, laidKinds := [.data, .data, .data], laidTests := true, laidLooks := .later }
def IdentJoinsUptoCardSaid : Prop := Claim7.holds Tryd.pinned (.plain (OpenSpec.upto identJoinsSpec)) identJoinsUptoCard
end Rows
end Go.Proofs.YtcagjlciakcnjaaDoor
