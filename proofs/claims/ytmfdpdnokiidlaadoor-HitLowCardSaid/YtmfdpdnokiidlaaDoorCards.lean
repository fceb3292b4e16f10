/-
  DERIVED. GIVEN WITH THE SEED: THE CARDS: each row of YtmfdpdnokiidlaaDoorRows.lean that lists a variable, with what it lists TIED to the program's text (the seventh form; the later family's looks); each row that meets fmt, with fmt's text TOLD by the authors' own Lean function (tested against real Go, not proved from fmt's source: count such statements apart). THE CARD IS WHAT COUNTS. Prove the row's statement (the work); the ties are given (YtmfdpdnokiidlaaDoorTie.lean); close each card by the builder's one call (the guide's Derived/Test/ToyasCard.lean, 'card_holds'). Laid BY PROGRAM, IN A SANDBOX (cutbox-door.mjs). By AI agents, Wed Nov 11 2026. No macro, syntax, notation, axiom, sorry.
-/
import Derived.Test.YtmfdpdnokiidlaaDoorRows
import GoSem.ClaimSeven
namespace Go.Proofs.YtmfdpdnokiidlaaDoor
namespace Rows

/-- THE TIED CARD OF 'linchpinlaw36.HitLow'. -/
def hitLowCard : Claim7 := { stood := { row := hitLowRow, standIns := [], harness := (true, "03050e7dce019116595b1fdf4bd83fab629a79d06b93bf366e9d53bf0f426852"), looks := false }, kinds := [], alts := [], laidByText := true, laidKinds := [.data, .data, .data], laidTests := true, laidLooks := .later }
def HitLowCardSaid : Prop := Claim7.holds Tryd.pinned (.plain (OpenSpec.ofChange hitLowSpec)) hitLowCard

/-- THE TIED CARD OF 'linchpinlaw36.HitLeast'. -/
def hitLeastCard : Claim7 := { stood := { row := hitLeastRow, standIns := [], harness := (true, "03050e7dce019116595b1fdf4bd83fab629a79d06b93bf366e9d53bf0f426852"), looks := false }, kinds := [], alts := [], laidByText := true, laidKinds := [.data, .data, .data], laidTests := true, laidLooks := .later }
def HitLeastCardSaid : Prop := Claim7.holds Tryd.pinned (.plain (OpenSpec.ofChange hitLeastSpec)) hitLeastCard

/-- THE TIED CARD OF 'linchpinlaw36.HitMore'. -/
def hitMoreCard : Claim7 := { stood := { row := hitMoreRow, standIns := [], harness := (true, "03050e7dce019116595b1fdf4bd83fab629a79d06b93bf366e9d53bf0f426852"), looks := false }, kinds := [], alts := [], laidByText := true, laidKinds := [.data, .data, .data], laidTests := true, laidLooks := .later }
def HitMoreCardSaid : Prop := Claim7.holds Tryd.pinned (.plain (OpenSpec.ofChange hitMoreSpec)) hitMoreCard

/-- THE TIED CARD OF 'linchpinlaw36.HitWithin'. -/
def hitWithinCard : Claim7 := { stood := { row := hitWithinRow, standIns := [], harness := (true, "03050e7dce019116595b1fdf4bd83fab629a79d06b93bf366e9d53bf0f426852"), looks := false }, kinds := [], alts := [], laidByText := true, laidKinds := [.data, .data, .data], laidTests := true, laidLooks := .later }
def HitWithinCardSaid : Prop := Claim7.holds Tryd.pinned (.plain (OpenSpec.ofChange hitWithinSpec)) hitWithinCard

/-- THE TIED CARD OF 'linchpinlaw36.HitAdds'. -/
def hitAddsCard : Claim7 := { stood := { row := hitAddsRow, standIns := [], harness := (true, "03050e7dce019116595b1fdf4bd83fab629a79d06b93bf366e9d53bf0f426852"), looks := false }, kinds := [], alts := [], laidByText := true, laidKinds := [.data, .data, .data], laidTests := true, laidLooks := .later }
def HitAddsCardSaid : Prop := Claim7.holds Tryd.pinned (.plain (OpenSpec.ofChange hitAddsSpec)) hitAddsCard

/-- THE TIED CARD OF 'linchpinlaw36.HitNone'. -/
def hitNoneCard : Claim7 := { stood := { row := hitNoneRow, standIns := [], harness := (true, "03050e7dce019116595b1fdf4bd83fab629a79d06b93bf366e9d53bf0f426852"), looks := false }, kinds := [], alts := [], laidByText := true, laidKinds := [.data, .data, .data], laidTests := true, laidLooks := .later }
def HitNoneCardSaid : Prop := Claim7.holds Tryd.pinned (.plain (OpenSpec.ofChange hitNoneSpec)) hitNoneCard

/-- THE SECOND FORM's CARD OF 'linchpinlaw36.HitLow'. -/
def hitLowUptoCard : Claim7 := { stood := { row := hitLowUptoRow, standIns := [], harness := (true, "03050e7dce019116595b1fdf4bd83fab629a79d06b93bf366e9d53bf0f426852"), looks := false }, kinds := [], alts := [], laidByText := true, laidKinds := [.data, .data, .data], laidTests := true, laidLooks := .later }
def HitLowUptoCardSaid : Prop := Claim7.holds Tryd.pinned (.plain (OpenSpec.upto hitLowSpec)) hitLowUptoCard

/-- THE SECOND FORM's CARD OF 'linchpinlaw36.HitLeast'. -/
def hitLeastUptoCard : Claim7 := { stood := { row := hitLeastUptoRow, standIns := [], harness := (true, "03050e7dce019116595b1fdf4bd83fab629a79d06b93bf366e9d53bf0f426852"), looks := false }, kinds := [], alts := [], laidByText := true, laidKinds := [.data, .data, .data], laidTests := true, laidLooks := .later }
def HitLeastUptoCardSaid : Prop := Claim7.holds Tryd.pinned (.plain (OpenSpec.upto hitLeastSpec)) hitLeastUptoCard

/-- THE SECOND FORM's CARD OF 'linchpinlaw36.HitMore'. -/
def hitMoreUptoCard : Claim7 := { stood := { row := hitMoreUptoRow, standIns := [], harness := (true, "03050e7dce019116595b1fdf4bd83fab629a79d06b93bf366e9d53bf0f426852"), looks := false }, kinds := [], alts := [], laidByText := true, laidKinds := [.data, .data, .data], laidTests := true, laidLooks := .later }
def HitMoreUptoCardSaid : Prop := Claim7.holds Tryd.pinned (.plain (OpenSpec.upto hitMoreSpec)) hitMoreUptoCard

/-- THE SECOND FORM's CARD OF 'linchpinlaw36.HitWithin'. -/
def hitWithinUptoCard : Claim7 := { stood := { row := hitWithinUptoRow, standIns := [], harness := (true, "03050e7dce019116595b1fdf4bd83fab629a79d06b93bf366e9d53bf0f426852"), looks := false }, kinds := [], alts := [], laidByText := true, laidKinds := [.data, .data, .data], laidTests := true, laidLooks := .later }
def HitWithinUptoCardSaid : Prop := Claim7.holds Tryd.pinned (.plain (OpenSpec.upto hitWithinSpec)) hitWithinUptoCard

/-- THE SECOND FORM's CARD OF 'linchpinlaw36.HitAdds'. -/
def hitAddsUptoCard : Claim7 := { stood := { row := hitAddsUptoRow, standIns := [], harness := (true, "03050e7dce019116595b1fdf4bd83fab629a79d06b93bf366e9d53bf0f426852"), looks := false }, kinds := [], alts := [], laidByText := true, laidKinds := [.data, .data, .data], laidTests := true, laidLooks := .later }
def HitAddsUptoCardSaid : Prop := Claim7.holds Tryd.pinned (.plain (OpenSpec.upto hitAddsSpec)) hitAddsUptoCard

/-- THE SECOND FORM's CARD OF 'linchpinlaw36.HitNone'. -/
def hitNoneUptoCard : Claim7 := { stood := { row := hitNoneUptoRow, standIns := [], harness := (true, "03050e7dce019116595b1fdf4bd83fab629a79d06b93bf366e9d53bf0f426852"), looks := false }, kinds := [], alts := [], laidByText := true, laidKinds := [.data, .data, .data], laidTests := true, laidLooks := .later }
def HitNoneUptoCardSaid : Prop := Claim7.holds Tryd.pinned (.plain (OpenSpec.upto hitNoneSpec)) hitNoneUptoCard
end Rows
end Go.Proofs.YtmfdpdnokiidlaaDoor
