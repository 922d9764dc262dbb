/-
  No cell of these rows narrows 'for every input' (looked for: loops, veiled, ifaces, maps, wideKeys, modest, calm, conditions, laid).
  DERIVED. THE GIVEN ROWS OF THIS SEAT. 5 by the template 'for every input the law returns true; each argument reads behind the call as it read before'; 0 by the template 'total and deterministic' (their statements: YtmicjjhkoicdnaaTotals.lean).
  GIVEN WITH THE SEED: the statements are not yours to turn. If you find one false, say at which input.
  Laid BY PROGRAM, IN A SANDBOX (cutbox-rows.mjs): the forced cells as the released guide's own fill.sh prints them over the translation 602d2c87aa65c8aa… (all of the seat's roots in one cut). By AI agents, Wed Nov 11 2026. No macro, syntax, notation, axiom, sorry.
-/
import Derived.Test.YtmicjjhkoicdnaaChecked
import GoSem.Claim
import GoSem.ClaimJoined
import GoSem.ClaimMapViews
import Derived.JoinedTies
import Derived.KernelRfl
namespace Go.Proofs.Ytmicjjhkoicdnaa
/- THE CELL 'sum', in the pinned program and in every row, IS THE sha256 OF THE DUMP (.gsa) THAT YtmicjjhkoicdnaaProg.lean LOADS. Nothing in Lean hashes anything: it is a label: what it is worth is what the hold of that sum in a sandbox is worth. -/
noncomputable def Try.pinned : Pinned := { name := "ytmicjjhkoicdnaa", sum := "602d2c87aa65c8aabdefa2a4e5d18f9931a013df82126ff08bd39b2ada40a478", checked := Try.checked }
namespace Rows
def none {H : Type} : Left H := { results := [], args := [] }

/-- 'bottomrylaw40.SharesSplit': WHATEVER THE INPUT: true; the input reads as it did. -/
def sharesSplitSpec : ChangeSpec := { name := "sharesSplit", fn := fun _ => fun
  | [d1, d2] => { results := [.lit (.bool true)], args := [d1, d2] }
  | _ => none }
def sharesSplitRow : OpenClaim := { program := "ytmicjjhkoicdnaa", sum := "602d2c87aa65c8aabdefa2a4e5d18f9931a013df82126ff08bd39b2ada40a478", func := "bottomry/bottomrylaw40.SharesSplit", spec := "sharesSplit", unfollowed := true, recurses := true, apart := false }
def SharesSplitSaid : Prop := sharesSplitRow.holds Try.pinned (OpenSpec.ofChange sharesSplitSpec)

/-- ITS FALSE NEIGHBOUR: 'it returns false'. Refute it at one input. -/
def sharesSplitWrong : ChangeSpec := { name := "sharesSplit", fn := fun _ => fun
  | [d1, d2] => { results := [.lit (.bool false)], args := [d1, d2] }
  | _ => none }
def SharesSplitWrongFalsely : Prop := sharesSplitRow.holds Try.pinned (OpenSpec.ofChange sharesSplitWrong)

/-- 'bottomrylaw40.SharesWhole': WHATEVER THE INPUT: true; the input reads as it did. -/
def sharesWholeSpec : ChangeSpec := { name := "sharesWhole", fn := fun _ => fun
  | [d1, d2] => { results := [.lit (.bool true)], args := [d1, d2] }
  | _ => none }
def sharesWholeRow : OpenClaim := { program := "ytmicjjhkoicdnaa", sum := "602d2c87aa65c8aabdefa2a4e5d18f9931a013df82126ff08bd39b2ada40a478", func := "bottomry/bottomrylaw40.SharesWhole", spec := "sharesWhole", unfollowed := true, recurses := true, apart := false }
def SharesWholeSaid : Prop := sharesWholeRow.holds Try.pinned (OpenSpec.ofChange sharesWholeSpec)

/-- ITS FALSE NEIGHBOUR: 'it returns false'. Refute it at one input. -/
def sharesWholeWrong : ChangeSpec := { name := "sharesWhole", fn := fun _ => fun
  | [d1, d2] => { results := [.lit (.bool false)], args := [d1, d2] }
  | _ => none }
def SharesWholeWrongFalsely : Prop := sharesWholeRow.holds Try.pinned (OpenSpec.ofChange sharesWholeWrong)

/-- 'bottomrylaw40.SharesFees': WHATEVER THE INPUT: true; the input reads as it did. -/
def sharesFeesSpec : ChangeSpec := { name := "sharesFees", fn := fun _ => fun
  | [d1, d2, d3] => { results := [.lit (.bool true)], args := [d1, d2, d3] }
  | _ => none }
def sharesFeesRow : OpenClaim := { program := "ytmicjjhkoicdnaa", sum := "602d2c87aa65c8aabdefa2a4e5d18f9931a013df82126ff08bd39b2ada40a478", func := "bottomry/bottomrylaw40.SharesFees", spec := "sharesFees", unfollowed := true, recurses := true, apart := false }
def SharesFeesSaid : Prop := sharesFeesRow.holds Try.pinned (OpenSpec.ofChange sharesFeesSpec)

/-- ITS FALSE NEIGHBOUR: 'it returns false'. Refute it at one input. -/
def sharesFeesWrong : ChangeSpec := { name := "sharesFees", fn := fun _ => fun
  | [d1, d2, d3] => { results := [.lit (.bool false)], args := [d1, d2, d3] }
  | _ => none }
def SharesFeesWrongFalsely : Prop := sharesFeesRow.holds Try.pinned (OpenSpec.ofChange sharesFeesWrong)

/-- 'bottomrylaw25.ProofsMany': WHATEVER THE INPUT: true; the input reads as it did. -/
def proofsManySpec : ChangeSpec := { name := "proofsMany", fn := fun _ => fun
  | [d1, d2] => { results := [.lit (.bool true)], args := [d1, d2] }
  | _ => none }
def proofsManyRow : OpenClaim := { program := "ytmicjjhkoicdnaa", sum := "602d2c87aa65c8aabdefa2a4e5d18f9931a013df82126ff08bd39b2ada40a478", func := "bottomry/bottomrylaw25.ProofsMany", spec := "proofsMany", unfollowed := true, recurses := true, apart := false }
def ProofsManySaid : Prop := proofsManyRow.holds Try.pinned (OpenSpec.ofChange proofsManySpec)

/-- ITS FALSE NEIGHBOUR: 'it returns false'. Refute it at one input. -/
def proofsManyWrong : ChangeSpec := { name := "proofsMany", fn := fun _ => fun
  | [d1, d2] => { results := [.lit (.bool false)], args := [d1, d2] }
  | _ => none }
def ProofsManyWrongFalsely : Prop := proofsManyRow.holds Try.pinned (OpenSpec.ofChange proofsManyWrong)

/-- 'bottomrylaw25.ProofsPlay': WHATEVER THE INPUT: true; the input reads as it did. -/
def proofsPlaySpec : ChangeSpec := { name := "proofsPlay", fn := fun _ => fun
  | [d] => { results := [.lit (.bool true)], args := [d] }
  | _ => none }
def proofsPlayRow : OpenClaim := { program := "ytmicjjhkoicdnaa", sum := "602d2c87aa65c8aabdefa2a4e5d18f9931a013df82126ff08bd39b2ada40a478", func := "bottomry/bottomrylaw25.ProofsPlay", spec := "proofsPlay", unfollowed := true, recurses := true, apart := false }
def ProofsPlaySaid : Prop := proofsPlayRow.holds Try.pinned (OpenSpec.ofChange proofsPlaySpec)

/-- ITS FALSE NEIGHBOUR: 'it returns false'. Refute it at one input. -/
def proofsPlayWrong : ChangeSpec := { name := "proofsPlay", fn := fun _ => fun
  | [d] => { results := [.lit (.bool false)], args := [d] }
  | _ => none }
def ProofsPlayWrongFalsely : Prop := proofsPlayRow.holds Try.pinned (OpenSpec.ofChange proofsPlayWrong)

/- THE SECOND FORM. 'bulk': how many values and letters a reading holds, each counted each time it is reached (what is shared counts as often as it is met; a slice's spare places count too). A statement '..UptoSaid' is the law's where the arguments, and the package variables that the reading takes, are together of bulk at most 1048576: NARROWER than '..Said'. Prove '..Said' where nothing that the law and all that it calls make is longer than what came in: it says more and counts as full. Else prove '..UptoSaid'. A law counts once. -/
mutual
def uptoBulk {H : Type} : DataW H → Nat
  | .lit (.string bytes) => bytes.length + 1
  | .lit _ => 1
  | .nil => 1
  | .ptr d => uptoBulk d + 1
  | .slice elems spare => uptoBulkAll elems + uptoBulkAll spare + 1
  | .agg parts => uptoBulkAll parts + 1
  | .iface _ d => uptoBulk d + 1
  | .map entries => uptoBulkEntries entries + 1
  | .held _ => 1
def uptoBulkAll {H : Type} : List (DataW H) → Nat
  | [] => 0
  | d :: r => uptoBulk d + uptoBulkAll r
def uptoBulkEntries {H : Type} : List (Lit × DataW H) → Nat
  | [] => 0
  | x :: r => uptoBulkEntry x + uptoBulkEntries r
def uptoBulkEntry {H : Type} : Lit × DataW H → Nat
  | (.string bytes, d) => bytes.length + uptoBulk d + 1
  | (_, d) => uptoBulk d + 1
 end
def uptoSmall : (H : Type) → List (DataW H) → Bool := fun _ ds => decide (uptoBulkAll ds ≤ 1048576)
def OpenSpec.upto (s : _root_.Go.ChangeSpec) : _root_.Go.OpenSpec := { _root_.Go.OpenSpec.ofChange s with cond := some uptoSmall }

/-- 'bottomrylaw40.SharesSplit', WHERE WHAT IT READS IS OF BULK AT MOST 1048576: true; the input reads as it did. -/
def sharesSplitUptoRow : OpenClaim := { program := "ytmicjjhkoicdnaa", sum := "602d2c87aa65c8aabdefa2a4e5d18f9931a013df82126ff08bd39b2ada40a478", func := "bottomry/bottomrylaw40.SharesSplit", spec := "sharesSplit", unfollowed := true, recurses := true, apart := false, narrowed := true }
def SharesSplitUptoSaid : Prop := sharesSplitUptoRow.holds Try.pinned (OpenSpec.upto sharesSplitSpec)

/-- 'bottomrylaw40.SharesWhole', WHERE WHAT IT READS IS OF BULK AT MOST 1048576: true; the input reads as it did. -/
def sharesWholeUptoRow : OpenClaim := { program := "ytmicjjhkoicdnaa", sum := "602d2c87aa65c8aabdefa2a4e5d18f9931a013df82126ff08bd39b2ada40a478", func := "bottomry/bottomrylaw40.SharesWhole", spec := "sharesWhole", unfollowed := true, recurses := true, apart := false, narrowed := true }
def SharesWholeUptoSaid : Prop := sharesWholeUptoRow.holds Try.pinned (OpenSpec.upto sharesWholeSpec)

/-- 'bottomrylaw40.SharesFees', WHERE WHAT IT READS IS OF BULK AT MOST 1048576: true; the input reads as it did. -/
def sharesFeesUptoRow : OpenClaim := { program := "ytmicjjhkoicdnaa", sum := "602d2c87aa65c8aabdefa2a4e5d18f9931a013df82126ff08bd39b2ada40a478", func := "bottomry/bottomrylaw40.SharesFees", spec := "sharesFees", unfollowed := true, recurses := true, apart := false, narrowed := true }
def SharesFeesUptoSaid : Prop := sharesFeesUptoRow.holds Try.pinned (OpenSpec.upto sharesFeesSpec)

/-- 'bottomrylaw25.ProofsMany', WHERE WHAT IT READS IS OF BULK AT MOST 1048576: true; the input reads as it did. -/
def proofsManyUptoRow : OpenClaim := { program := "ytmicjjhkoicdnaa", sum := "602d2c87aa65c8aabdefa2a4e5d18f9931a013df82126ff08bd39b2ada40a478", func := "bottomry/bottomrylaw25.ProofsMany", spec := "proofsMany", unfollowed := true, recurses := true, apart := false, narrowed := true }
def ProofsManyUptoSaid : Prop := proofsManyUptoRow.holds Try.pinned (OpenSpec.upto proofsManySpec)

/-- 'bottomrylaw25.ProofsPlay', WHERE WHAT IT READS IS OF BULK AT MOST 1048576: true; the input reads as it did. -/
def proofsPlayUptoRow : OpenClaim := { program := "ytmicjjhkoicdnaa", sum := "602d2c87aa65c8aabdefa2a4e5d18f9931a013df82126ff08bd39b2ada40a478", func := "bottomry/bottomrylaw25.ProofsPlay", spec := "proofsPlay", unfollowed := true, recurses := true, apart := false, narrowed := true }
def ProofsPlayUptoSaid : Prop := proofsPlayUptoRow.holds Try.pinned (OpenSpec.upto proofsPlaySpec)

end Rows
end Go.Proofs.Ytmicjjhkoicdnaa
