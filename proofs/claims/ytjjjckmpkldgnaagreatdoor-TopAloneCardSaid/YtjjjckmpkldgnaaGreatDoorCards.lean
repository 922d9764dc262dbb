/-
  DERIVED. GIVEN WITH THE SEED: THE CARDS: each row of YtjjjckmpkldgnaaGreatDoorRows.lean that lists a variable, with what it lists TIED to the program's text (the seventh form; the later family's looks); each row that meets fmt, with fmt's text TOLD by the authors' own Lean function (tested against real Go, not proved from fmt's source: count such statements apart). THE CARD IS WHAT COUNTS. Prove the row's statement (the work); the ties are given (YtjjjckmpkldgnaaGreatDoorTie.lean); close each card by the builder's one call (the guide's Derived/Test/ToyasCard.lean, 'card_holds'). Laid BY PROGRAM, IN A SANDBOX (cutbox-door.mjs). By AI agents, Wed Nov 11 2026. No macro, syntax, notation, axiom, sorry.
-/
import Derived.Test.YtjjjckmpkldgnaaGreatDoorRows
import GoSem.ClaimSeven
namespace Go.Proofs.YtjjjckmpkldgnaaGreatDoor
namespace Rows

/-- THE TIED CARD OF 'bottomrytop.TopAlone'. -/
def topAloneCard : Claim7 := { stood := { row := topAloneRow, standIns := [], harness := (true, "aa82baa911c5c7c1c1d425381eb1b8c698c7e1d52c56c0934ad9d19137a3060b"), looks := true }, kinds := [], alts := [], laidByText := true, laidKinds := [.pinned, .data, .sentinel, .sentinel, .data, .data, .data], laidTests := true, laidLooks := .later }
def TopAloneCardSaid : Prop := Claim7.holds Tryz.pinned (.plain (OpenSpec.ofChange topAloneSpec)) topAloneCard

/-- THE SECOND FORM's CARD OF 'bottomrytop.TopAlone'. -/
def topAloneUptoCard : Claim7 := { stood := { row := topAloneUptoRow, standIns := [], harness := (true, "aa82baa911c5c7c1c1d425381eb1b8c698c7e1d52c56c0934ad9d19137a3060b"), looks := true }, kinds := [], alts := [], laidByText := true, laidKinds := [.pinned, .data, .sentinel, .sentinel, .data, .data, .data], laidTests := true, laidLooks := .later }
def TopAloneUptoCardSaid : Prop := Claim7.holds Tryz.pinned (.plain (OpenSpec.upto topAloneSpec)) topAloneUptoCard
end Rows
end Go.Proofs.YtjjjckmpkldgnaaGreatDoor
