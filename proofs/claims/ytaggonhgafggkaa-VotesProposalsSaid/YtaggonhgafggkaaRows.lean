/-
  No cell of these rows narrows 'for every input' (looked for: loops, veiled, ifaces, maps, wideKeys, modest, calm, conditions, laid).
  DERIVED. THE GIVEN ROWS OF THIS SEAT. 6 by the template 'for every input the law returns true; each argument reads behind the call as it read before'; 0 by the template 'total and deterministic' (their statements: YtaggonhgafggkaaTotals.lean).
  GIVEN WITH THE SEED: the statements are not yours to turn. If you find one false, say at which input.
  Laid BY PROGRAM, IN A SANDBOX (cutbox-rows.mjs): the forced cells as the released guide's own fill.sh prints them over the translation 6e2b6bdfb470bdcf… (all of the seat's roots in one cut). By AI agents, Wed Nov 11 2026. No macro, syntax, notation, axiom, sorry.
-/
import Derived.Test.YtaggonhgafggkaaChecked
import GoSem.Claim
import GoSem.ClaimJoined
import GoSem.ClaimMapViews
import Derived.JoinedTies
import Derived.KernelRfl
namespace Go.Proofs.Ytaggonhgafggkaa
/- THE CELL 'sum', in the pinned program and in every row, IS THE sha256 OF THE DUMP (.gsa) THAT YtaggonhgafggkaaProg.lean LOADS. Nothing in Lean hashes anything: it is a label: what it is worth is what the hold of that sum in a sandbox is worth. -/
noncomputable def Try.pinned : Pinned := { name := "ytaggonhgafggkaa", sum := "6e2b6bdfb470bdcfe8c4fe2fc397ac55c728713936291bf35d7b982f70f31d34", checked := Try.checked }
namespace Rows
def none {H : Type} : Left H := { results := [], args := [] }

/-- 'bottomrylaw17.VotesBack': WHATEVER THE INPUT: true; the input reads as it did. -/
def votesBackSpec : ChangeSpec := { name := "votesBack", fn := fun _ => fun
  | [d1, d2, d3, d4] => { results := [.lit (.bool true)], args := [d1, d2, d3, d4] }
  | _ => none }
def votesBackRow : OpenClaim := { program := "ytaggonhgafggkaa", sum := "6e2b6bdfb470bdcfe8c4fe2fc397ac55c728713936291bf35d7b982f70f31d34", func := "bottomry/bottomrylaw17.VotesBack", spec := "votesBack", apart := false }
def VotesBackSaid : Prop := votesBackRow.holds Try.pinned (OpenSpec.ofChange votesBackSpec)

/-- ITS FALSE NEIGHBOUR: 'it returns false'. Refute it at one input. -/
def votesBackWrong : ChangeSpec := { name := "votesBack", fn := fun _ => fun
  | [d1, d2, d3, d4] => { results := [.lit (.bool false)], args := [d1, d2, d3, d4] }
  | _ => none }
def VotesBackWrongFalsely : Prop := votesBackRow.holds Try.pinned (OpenSpec.ofChange votesBackWrong)

/-- 'bottomrylaw17.VotesReads': WHATEVER THE INPUT: true; the input reads as it did. -/
def votesReadsSpec : ChangeSpec := { name := "votesReads", fn := fun _ => fun
  | [d1, d2] => { results := [.lit (.bool true)], args := [d1, d2] }
  | _ => none }
def votesReadsRow : OpenClaim := { program := "ytaggonhgafggkaa", sum := "6e2b6bdfb470bdcfe8c4fe2fc397ac55c728713936291bf35d7b982f70f31d34", func := "bottomry/bottomrylaw17.VotesReads", spec := "votesReads", unfollowed := true, recurses := true, apart := false }
def VotesReadsSaid : Prop := votesReadsRow.holds Try.pinned (OpenSpec.ofChange votesReadsSpec)

/-- ITS FALSE NEIGHBOUR: 'it returns false'. Refute it at one input. -/
def votesReadsWrong : ChangeSpec := { name := "votesReads", fn := fun _ => fun
  | [d1, d2] => { results := [.lit (.bool false)], args := [d1, d2] }
  | _ => none }
def VotesReadsWrongFalsely : Prop := votesReadsRow.holds Try.pinned (OpenSpec.ofChange votesReadsWrong)

/-- 'bottomrylaw17.VotesProposals': WHATEVER THE INPUT: true; the input reads as it did. -/
def votesProposalsSpec : ChangeSpec := { name := "votesProposals", fn := fun _ => fun
  | [d1, d2] => { results := [.lit (.bool true)], args := [d1, d2] }
  | _ => none }
def votesProposalsRow : OpenClaim := { program := "ytaggonhgafggkaa", sum := "6e2b6bdfb470bdcfe8c4fe2fc397ac55c728713936291bf35d7b982f70f31d34", func := "bottomry/bottomrylaw17.VotesProposals", spec := "votesProposals", unfollowed := true, recurses := true, apart := false }
def VotesProposalsSaid : Prop := votesProposalsRow.holds Try.pinned (OpenSpec.ofChange votesProposalsSpec)

/-- ITS FALSE NEIGHBOUR: 'it returns false'. Refute it at one input. -/
def votesProposalsWrong : ChangeSpec := { name := "votesProposals", fn := fun _ => fun
  | [d1, d2] => { results := [.lit (.bool false)], args := [d1, d2] }
  | _ => none }
def VotesProposalsWrongFalsely : Prop := votesProposalsRow.holds Try.pinned (OpenSpec.ofChange votesProposalsWrong)

/-- 'bottomrylaw12.RequestCores': WHATEVER THE INPUT: true; the input reads as it did. -/
def requestCoresSpec : ChangeSpec := { name := "requestCores", fn := fun _ => fun
  | [d1, d2] => { results := [.lit (.bool true)], args := [d1, d2] }
  | _ => none }
def requestCoresRow : OpenClaim := { program := "ytaggonhgafggkaa", sum := "6e2b6bdfb470bdcfe8c4fe2fc397ac55c728713936291bf35d7b982f70f31d34", func := "bottomry/bottomrylaw12.RequestCores", spec := "requestCores", unfollowed := true, recurses := true, apart := false }
def RequestCoresSaid : Prop := requestCoresRow.holds Try.pinned (OpenSpec.ofChange requestCoresSpec)

/-- ITS FALSE NEIGHBOUR: 'it returns false'. Refute it at one input. -/
def requestCoresWrong : ChangeSpec := { name := "requestCores", fn := fun _ => fun
  | [d1, d2] => { results := [.lit (.bool false)], args := [d1, d2] }
  | _ => none }
def RequestCoresWrongFalsely : Prop := requestCoresRow.holds Try.pinned (OpenSpec.ofChange requestCoresWrong)

/-- 'bottomrylaw12.RequestReads': WHATEVER THE INPUT: true; the input reads as it did. -/
def requestReadsSpec : ChangeSpec := { name := "requestReads", fn := fun _ => fun
  | [d1, d2] => { results := [.lit (.bool true)], args := [d1, d2] }
  | _ => none }
def requestReadsRow : OpenClaim := { program := "ytaggonhgafggkaa", sum := "6e2b6bdfb470bdcfe8c4fe2fc397ac55c728713936291bf35d7b982f70f31d34", func := "bottomry/bottomrylaw12.RequestReads", spec := "requestReads", unfollowed := true, recurses := true, apart := false }
def RequestReadsSaid : Prop := requestReadsRow.holds Try.pinned (OpenSpec.ofChange requestReadsSpec)

/-- ITS FALSE NEIGHBOUR: 'it returns false'. Refute it at one input. -/
def requestReadsWrong : ChangeSpec := { name := "requestReads", fn := fun _ => fun
  | [d1, d2] => { results := [.lit (.bool false)], args := [d1, d2] }
  | _ => none }
def RequestReadsWrongFalsely : Prop := requestReadsRow.holds Try.pinned (OpenSpec.ofChange requestReadsWrong)

/-- 'bottomrylaw12.RequestBack': WHATEVER THE INPUT: true; the input reads as it did. -/
def requestBackSpec : ChangeSpec := { name := "requestBack", fn := fun _ => fun
  | [d1, d2] => { results := [.lit (.bool true)], args := [d1, d2] }
  | _ => none }
def requestBackRow : OpenClaim := { program := "ytaggonhgafggkaa", sum := "6e2b6bdfb470bdcfe8c4fe2fc397ac55c728713936291bf35d7b982f70f31d34", func := "bottomry/bottomrylaw12.RequestBack", spec := "requestBack", unfollowed := true, recurses := true, apart := false }
def RequestBackSaid : Prop := requestBackRow.holds Try.pinned (OpenSpec.ofChange requestBackSpec)

/-- ITS FALSE NEIGHBOUR: 'it returns false'. Refute it at one input. -/
def requestBackWrong : ChangeSpec := { name := "requestBack", fn := fun _ => fun
  | [d1, d2] => { results := [.lit (.bool false)], args := [d1, d2] }
  | _ => none }
def RequestBackWrongFalsely : Prop := requestBackRow.holds Try.pinned (OpenSpec.ofChange requestBackWrong)

/- THE SECOND FORM. 'bulk': how many values and letters a reading holds, each counted each time it is reached (what is shared counts as often as it is met; a slice's spare places count too). A statement '..UptoSaid' is the law's where the arguments, and the package variables that the reading takes, are together of bulk at most 1048576: NARROWER than '..Said'. Prove '..Said' where nothing that the law and all that it calls make is longer than what came in: it says more and counts as full. Else prove '..UptoSaid'. A law counts once. -/
mutual
def uptoBulk {H : Type} : DataW H → Nat
  | .lit (.string bytes) => bytes.length + 1
  | .lit _ => 1
  | .nil => 1
  | .ptr d => uptoBulk d + 1
  | .slice elems spare => uptoBulkAll elems + uptoBulkAll spare + 1
  | .agg parts => uptoBulkAll parts + 1
  | .iface _ d => uptoBulk d + 1
  | .map entries => uptoBulkEntries entries + 1
  | .held _ => 1
def uptoBulkAll {H : Type} : List (DataW H) → Nat
  | [] => 0
  | d :: r => uptoBulk d + uptoBulkAll r
def uptoBulkEntries {H : Type} : List (Lit × DataW H) → Nat
  | [] => 0
  | x :: r => uptoBulkEntry x + uptoBulkEntries r
def uptoBulkEntry {H : Type} : Lit × DataW H → Nat
  | (.string bytes, d) => bytes.length + uptoBulk d + 1
  | (_, d) => uptoBulk d + 1
 end
def uptoSmall : (H : Type) → List (DataW H) → Bool := fun _ ds => decide (uptoBulkAll ds ≤ 1048576)
def OpenSpec.upto (s : _root_.Go.ChangeSpec) : _root_.Go.OpenSpec := { _root_.Go.OpenSpec.ofChange s with cond := some uptoSmall }

/-- 'bottomrylaw17.VotesBack', WHERE WHAT IT READS IS OF BULK AT MOST 1048576: true; the input reads as it did. -/
def votesBackUptoRow : OpenClaim := { program := "ytaggonhgafggkaa", sum := "6e2b6bdfb470bdcfe8c4fe2fc397ac55c728713936291bf35d7b982f70f31d34", func := "bottomry/bottomrylaw17.VotesBack", spec := "votesBack", apart := false, narrowed := true }
def VotesBackUptoSaid : Prop := votesBackUptoRow.holds Try.pinned (OpenSpec.upto votesBackSpec)

/-- 'bottomrylaw17.VotesReads', WHERE WHAT IT READS IS OF BULK AT MOST 1048576: true; the input reads as it did. -/
def votesReadsUptoRow : OpenClaim := { program := "ytaggonhgafggkaa", sum := "6e2b6bdfb470bdcfe8c4fe2fc397ac55c728713936291bf35d7b982f70f31d34", func := "bottomry/bottomrylaw17.VotesReads", spec := "votesReads", unfollowed := true, recurses := true, apart := false, narrowed := true }
def VotesReadsUptoSaid : Prop := votesReadsUptoRow.holds Try.pinned (OpenSpec.upto votesReadsSpec)

/-- 'bottomrylaw17.VotesProposals', WHERE WHAT IT READS IS OF BULK AT MOST 1048576: true; the input reads as it did. -/
def votesProposalsUptoRow : OpenClaim := { program := "ytaggonhgafggkaa", sum := "6e2b6bdfb470bdcfe8c4fe2fc397ac55c728713936291bf35d7b982f70f31d34", func := "bottomry/bottomrylaw17.VotesProposals", spec := "votesProposals", unfollowed := true, recurses := true, apart := false, narrowed := true }
def VotesProposalsUptoSaid : Prop := votesProposalsUptoRow.holds Try.pinned (OpenSpec.upto votesProposalsSpec)

/-- 'bottomrylaw12.RequestCores', WHERE WHAT IT READS IS OF BULK AT MOST 1048576: true; the input reads as it did. -/
def requestCoresUptoRow : OpenClaim := { program := "ytaggonhgafggkaa", sum := "6e2b6bdfb470bdcfe8c4fe2fc397ac55c728713936291bf35d7b982f70f31d34", func := "bottomry/bottomrylaw12.RequestCores", spec := "requestCores", unfollowed := true, recurses := true, apart := false, narrowed := true }
def RequestCoresUptoSaid : Prop := requestCoresUptoRow.holds Try.pinned (OpenSpec.upto requestCoresSpec)

/-- 'bottomrylaw12.RequestReads', WHERE WHAT IT READS IS OF BULK AT MOST 1048576: true; the input reads as it did. -/
def requestReadsUptoRow : OpenClaim := { program := "ytaggonhgafggkaa", sum := "6e2b6bdfb470bdcfe8c4fe2fc397ac55c728713936291bf35d7b982f70f31d34", func := "bottomry/bottomrylaw12.RequestReads", spec := "requestReads", unfollowed := true, recurses := true, apart := false, narrowed := true }
def RequestReadsUptoSaid : Prop := requestReadsUptoRow.holds Try.pinned (OpenSpec.upto requestReadsSpec)

/-- 'bottomrylaw12.RequestBack', WHERE WHAT IT READS IS OF BULK AT MOST 1048576: true; the input reads as it did. -/
def requestBackUptoRow : OpenClaim := { program := "ytaggonhgafggkaa", sum := "6e2b6bdfb470bdcfe8c4fe2fc397ac55c728713936291bf35d7b982f70f31d34", func := "bottomry/bottomrylaw12.RequestBack", spec := "requestBack", unfollowed := true, recurses := true, apart := false, narrowed := true }
def RequestBackUptoSaid : Prop := requestBackUptoRow.holds Try.pinned (OpenSpec.upto requestBackSpec)

end Rows
end Go.Proofs.Ytaggonhgafggkaa
