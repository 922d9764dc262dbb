/-
  DERIVED. GIVEN WITH THE SEED: THE CARDS: each row of YtmicjjhkoicdnaaDoorRows.lean that lists a variable, with what it lists TIED to the program's text (the seventh form; the later family's looks); each row that meets fmt, with fmt's text TOLD by the authors' own Lean function (tested against real Go, not proved from fmt's source: count such statements apart). THE CARD IS WHAT COUNTS. Prove the row's statement (the work); the ties are given (YtmicjjhkoicdnaaDoorTie.lean); close each card by the builder's one call (the guide's Derived/Test/ToyasCard.lean, 'card_holds'). Laid BY PROGRAM, IN A SANDBOX (cutbox-door.mjs). By AI agents, Wed Nov 11 2026. No macro, syntax, notation, axiom, sorry.
-/
import Derived.Test.YtmicjjhkoicdnaaDoorRows
import GoSem.ClaimSeven
namespace Go.Proofs.YtmicjjhkoicdnaaDoor
namespace Rows

/-- THE TIED CARD OF 'bottomrylaw43.CensusNames'. -/
def censusNamesCard : Claim7 := { stood := { row := censusNamesRow, standIns := [], harness := (true, "53edc66748d8556221ac20e53014c77245cacb05b45bd1ea32c5275c7979e0fb"), looks := false }, kinds := [], alts := [], laidByText := true, laidKinds := [.data, .data, .data], laidTests := true, laidLooks := .later }
def CensusNamesCardSaid : Prop := Claim7.holds Tryd.pinned (.plain (OpenSpec.ofChange censusNamesSpec)) censusNamesCard

/-- THE TIED CARD OF 'bottomrylaw43.CensusMost'. -/
def censusMostCard : Claim7 := { stood := { row := censusMostRow, standIns := [], harness := (true, "53edc66748d8556221ac20e53014c77245cacb05b45bd1ea32c5275c7979e0fb"), looks := false }, kinds := [], alts := [], laidByText := true, laidKinds := [.data, .data, .data], laidTests := true, laidLooks := .later }
def CensusMostCardSaid : Prop := Claim7.holds Tryd.pinned (.plain (OpenSpec.ofChange censusMostSpec)) censusMostCard

/-- THE TIED CARD OF 'bottomrylaw43.CensusCounts'. -/
def censusCountsCard : Claim7 := { stood := { row := censusCountsRow, standIns := [], harness := (true, "53edc66748d8556221ac20e53014c77245cacb05b45bd1ea32c5275c7979e0fb"), looks := false }, kinds := [], alts := [], laidByText := true, laidKinds := [.data, .data, .data], laidTests := true, laidLooks := .later }
def CensusCountsCardSaid : Prop := Claim7.holds Tryd.pinned (.plain (OpenSpec.ofChange censusCountsSpec)) censusCountsCard

/-- THE SECOND FORM's CARD OF 'bottomrylaw43.CensusNames'. -/
def censusNamesUptoCard : Claim7 := { stood := { row := censusNamesUptoRow, standIns := [], harness := (true, "53edc66748d8556221ac20e53014c77245cacb05b45bd1ea32c5275c7979e0fb"), looks := false }, kinds := [], alts := [], laidByText := true, laidKinds := [.data, .data, .data], laidTests := true, laidLooks := .later }
def CensusNamesUptoCardSaid : Prop := Claim7.holds Tryd.pinned (.plain (OpenSpec.upto censusNamesSpec)) censusNamesUptoCard

/-- THE SECOND FORM's CARD OF 'bottomrylaw43.CensusMost'. -/
def censusMostUptoCard : Claim7 := { stood := { row := censusMostUptoRow, standIns := [], harness := (true, "53edc66748d8556221ac20e53014c77245cacb05b45bd1ea32c5275c7979e0fb"), looks := false }, kinds := [], alts := [], laidByText := true, laidKinds := [.data, .data, .data], laidTests := true, laidLooks := .later }
def CensusMostUptoCardSaid : Prop := Claim7.holds Tryd.pinned (.plain (OpenSpec.upto censusMostSpec)) censusMostUptoCard

/-- THE SECOND FORM's CARD OF 'bottomrylaw43.CensusCounts'. -/
def censusCountsUptoCard : Claim7 := { stood := { row := censusCountsUptoRow, standIns := [], harness := (true, "53edc66748d8556221ac20e53014c77245cacb05b45bd1ea32c5275c7979e0fb"), looks := false }, kinds := [], alts := [], laidByText := true, laidKinds := [.data, .data, .data], laidTests := true, laidLooks := .later }
def CensusCountsUptoCardSaid : Prop := Claim7.holds Tryd.pinned (.plain (OpenSpec.upto censusCountsSpec)) censusCountsUptoCard
end Rows
end Go.Proofs.YtmicjjhkoicdnaaDoor
