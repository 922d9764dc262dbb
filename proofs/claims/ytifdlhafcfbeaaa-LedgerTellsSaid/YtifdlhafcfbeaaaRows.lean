/-
  No cell of these rows narrows 'for every input' (looked for: loops, veiled, ifaces, maps, wideKeys, modest, calm, conditions, laid).
  DERIVED. THE GIVEN ROWS OF THIS SEAT. 4 by the template 'for every input the law returns true; each argument reads behind the call as it read before'; 0 by the template 'total and deterministic' (their statements: YtifdlhafcfbeaaaTotals.lean).
  GIVEN WITH THE SEED: the statements are not yours to turn. If you find one false, say at which input.
  Laid BY PROGRAM, IN A SANDBOX (cutbox-rows.mjs): the forced cells as the released guide's own fill.sh prints them over the translation 47f267690526f9e1… (all of the seat's roots in one cut). By AI agents, Wed Nov 11 2026. No macro, syntax, notation, axiom, sorry.
-/
import Derived.Test.YtifdlhafcfbeaaaChecked
import GoSem.Claim
import GoSem.ClaimJoined
import GoSem.ClaimMapViews
import Derived.JoinedTies
import Derived.KernelRfl
namespace Go.Proofs.Ytifdlhafcfbeaaa
/- THE CELL 'sum', in the pinned program and in every row, IS THE sha256 OF THE DUMP (.gsa) THAT YtifdlhafcfbeaaaProg.lean LOADS. Nothing in Lean hashes anything: it is a label: what it is worth is what the hold of that sum in a sandbox is worth. -/
noncomputable def Try.pinned : Pinned := { name := "ytifdlhafcfbeaaa", sum := "47f267690526f9e1bd078a61ebbe76a9fff7d4a85c606bf858e40bfa653e7007", checked := Try.checked }
namespace Rows
def none {H : Type} : Left H := { results := [], args := [] }

/-- 'bottomrylaw11.LedgerReads': WHATEVER THE INPUT: true; the input reads as it did. -/
def ledgerReadsSpec : ChangeSpec := { name := "ledgerReads", fn := fun _ => fun
  | [d] => { results := [.lit (.bool true)], args := [d] }
  | _ => none }
def ledgerReadsRow : OpenClaim := { program := "ytifdlhafcfbeaaa", sum := "47f267690526f9e1bd078a61ebbe76a9fff7d4a85c606bf858e40bfa653e7007", func := "bottomry/bottomrylaw11.LedgerReads", spec := "ledgerReads", inPlace := ["slices.overlaps[bottomry/api.Letter]"], unfollowed := true, recurses := true, apart := false }
def LedgerReadsSaid : Prop := ledgerReadsRow.holds Try.pinned (OpenSpec.ofChange ledgerReadsSpec)

/-- ITS FALSE NEIGHBOUR: 'it returns false'. Refute it at one input. -/
def ledgerReadsWrong : ChangeSpec := { name := "ledgerReads", fn := fun _ => fun
  | [d] => { results := [.lit (.bool false)], args := [d] }
  | _ => none }
def LedgerReadsWrongFalsely : Prop := ledgerReadsRow.holds Try.pinned (OpenSpec.ofChange ledgerReadsWrong)

/-- 'bottomrylaw11.LedgerTells': WHATEVER THE INPUT: true; the input reads as it did. -/
def ledgerTellsSpec : ChangeSpec := { name := "ledgerTells", fn := fun _ => fun
  | [d1, d2, d3, d4, d5] => { results := [.lit (.bool true)], args := [d1, d2, d3, d4, d5] }
  | _ => none }
def ledgerTellsRow : OpenClaim := { program := "ytifdlhafcfbeaaa", sum := "47f267690526f9e1bd078a61ebbe76a9fff7d4a85c606bf858e40bfa653e7007", func := "bottomry/bottomrylaw11.LedgerTells", spec := "ledgerTells", inPlace := ["slices.overlaps[bottomry/api.Letter]", "slices.overlaps[bottomry/api.Outcome]"], unfollowed := true, recurses := true, apart := false }
def LedgerTellsSaid : Prop := ledgerTellsRow.holds Try.pinned (OpenSpec.ofChange ledgerTellsSpec)

/-- ITS FALSE NEIGHBOUR: 'it returns false'. Refute it at one input. -/
def ledgerTellsWrong : ChangeSpec := { name := "ledgerTells", fn := fun _ => fun
  | [d1, d2, d3, d4, d5] => { results := [.lit (.bool false)], args := [d1, d2, d3, d4, d5] }
  | _ => none }
def LedgerTellsWrongFalsely : Prop := ledgerTellsRow.holds Try.pinned (OpenSpec.ofChange ledgerTellsWrong)

/-- 'bottomrylaw11.LedgerBytes': WHATEVER THE INPUT: true; the input reads as it did. -/
def ledgerBytesSpec : ChangeSpec := { name := "ledgerBytes", fn := fun _ => fun
  | [d1, d2] => { results := [.lit (.bool true)], args := [d1, d2] }
  | _ => none }
def ledgerBytesRow : OpenClaim := { program := "ytifdlhafcfbeaaa", sum := "47f267690526f9e1bd078a61ebbe76a9fff7d4a85c606bf858e40bfa653e7007", func := "bottomry/bottomrylaw11.LedgerBytes", spec := "ledgerBytes", inPlace := ["slices.overlaps[bottomry/api.Letter]"], unfollowed := true, recurses := true, apart := false }
def LedgerBytesSaid : Prop := ledgerBytesRow.holds Try.pinned (OpenSpec.ofChange ledgerBytesSpec)

/-- ITS FALSE NEIGHBOUR: 'it returns false'. Refute it at one input. -/
def ledgerBytesWrong : ChangeSpec := { name := "ledgerBytes", fn := fun _ => fun
  | [d1, d2] => { results := [.lit (.bool false)], args := [d1, d2] }
  | _ => none }
def LedgerBytesWrongFalsely : Prop := ledgerBytesRow.holds Try.pinned (OpenSpec.ofChange ledgerBytesWrong)

/-- 'bottomrylaw11.LedgerOrder': WHATEVER THE INPUT: true; the input reads as it did. -/
def ledgerOrderSpec : ChangeSpec := { name := "ledgerOrder", fn := fun _ => fun
  | [d1, d2, d3, d4] => { results := [.lit (.bool true)], args := [d1, d2, d3, d4] }
  | _ => none }
def ledgerOrderRow : OpenClaim := { program := "ytifdlhafcfbeaaa", sum := "47f267690526f9e1bd078a61ebbe76a9fff7d4a85c606bf858e40bfa653e7007", func := "bottomry/bottomrylaw11.LedgerOrder", spec := "ledgerOrder", inPlace := ["slices.overlaps[bottomry/api.Letter]", "slices.overlaps[bottomry/api.Outcome]"], unfollowed := true, recurses := true, apart := false }
def LedgerOrderSaid : Prop := ledgerOrderRow.holds Try.pinned (OpenSpec.ofChange ledgerOrderSpec)

/-- ITS FALSE NEIGHBOUR: 'it returns false'. Refute it at one input. -/
def ledgerOrderWrong : ChangeSpec := { name := "ledgerOrder", fn := fun _ => fun
  | [d1, d2, d3, d4] => { results := [.lit (.bool false)], args := [d1, d2, d3, d4] }
  | _ => none }
def LedgerOrderWrongFalsely : Prop := ledgerOrderRow.holds Try.pinned (OpenSpec.ofChange ledgerOrderWrong)

/- THE SECOND FORM. 'bulk': how many values and letters a reading holds, each counted each time it is reached (what is shared counts as often as it is met; a slice's spare places count too). A statement '..UptoSaid' is the law's where the arguments, and the package variables that the reading takes, are together of bulk at most 1048576: NARROWER than '..Said'. Prove '..Said' where nothing that the law and all that it calls make is longer than what came in: it says more and counts as full. Else prove '..UptoSaid'. A law counts once. -/
mutual
def uptoBulk {H : Type} : DataW H → Nat
  | .lit (.string bytes) => bytes.length + 1
  | .lit _ => 1
  | .nil => 1
  | .ptr d => uptoBulk d + 1
  | .slice elems spare => uptoBulkAll elems + uptoBulkAll spare + 1
  | .agg parts => uptoBulkAll parts + 1
  | .iface _ d => uptoBulk d + 1
  | .map entries => uptoBulkEntries entries + 1
  | .held _ => 1
def uptoBulkAll {H : Type} : List (DataW H) → Nat
  | [] => 0
  | d :: r => uptoBulk d + uptoBulkAll r
def uptoBulkEntries {H : Type} : List (Lit × DataW H) → Nat
  | [] => 0
  | x :: r => uptoBulkEntry x + uptoBulkEntries r
def uptoBulkEntry {H : Type} : Lit × DataW H → Nat
  | (.string bytes, d) => bytes.length + uptoBulk d + 1
  | (_, d) => uptoBulk d + 1
 end
def uptoSmall : (H : Type) → List (DataW H) → Bool := fun _ ds => decide (uptoBulkAll ds ≤ 1048576)
def OpenSpec.upto (s : _root_.Go.ChangeSpec) : _root_.Go.OpenSpec := { _root_.Go.OpenSpec.ofChange s with cond := some uptoSmall }

/-- 'bottomrylaw11.LedgerReads', WHERE WHAT IT READS IS OF BULK AT MOST 1048576: true; the input reads as it did. -/
def ledgerReadsUptoRow : OpenClaim := { program := "ytifdlhafcfbeaaa", sum := "47f267690526f9e1bd078a61ebbe76a9fff7d4a85c606bf858e40bfa653e7007", func := "bottomry/bottomrylaw11.LedgerReads", spec := "ledgerReads", inPlace := ["slices.overlaps[bottomry/api.Letter]"], unfollowed := true, recurses := true, apart := false, narrowed := true }
def LedgerReadsUptoSaid : Prop := ledgerReadsUptoRow.holds Try.pinned (OpenSpec.upto ledgerReadsSpec)

/-- 'bottomrylaw11.LedgerTells', WHERE WHAT IT READS IS OF BULK AT MOST 1048576: true; the input reads as it did. -/
def ledgerTellsUptoRow : OpenClaim := { program := "ytifdlhafcfbeaaa", sum := "47f267690526f9e1bd078a61ebbe76a9fff7d4a85c606bf858e40bfa653e7007", func := "bottomry/bottomrylaw11.LedgerTells", spec := "ledgerTells", inPlace := ["slices.overlaps[bottomry/api.Letter]", "slices.overlaps[bottomry/api.Outcome]"], unfollowed := true, recurses := true, apart := false, narrowed := true }
def LedgerTellsUptoSaid : Prop := ledgerTellsUptoRow.holds Try.pinned (OpenSpec.upto ledgerTellsSpec)

/-- 'bottomrylaw11.LedgerBytes', WHERE WHAT IT READS IS OF BULK AT MOST 1048576: true; the input reads as it did. -/
def ledgerBytesUptoRow : OpenClaim := { program := "ytifdlhafcfbeaaa", sum := "47f267690526f9e1bd078a61ebbe76a9fff7d4a85c606bf858e40bfa653e7007", func := "bottomry/bottomrylaw11.LedgerBytes", spec := "ledgerBytes", inPlace := ["slices.overlaps[bottomry/api.Letter]"], unfollowed := true, recurses := true, apart := false, narrowed := true }
def LedgerBytesUptoSaid : Prop := ledgerBytesUptoRow.holds Try.pinned (OpenSpec.upto ledgerBytesSpec)

/-- 'bottomrylaw11.LedgerOrder', WHERE WHAT IT READS IS OF BULK AT MOST 1048576: true; the input reads as it did. -/
def ledgerOrderUptoRow : OpenClaim := { program := "ytifdlhafcfbeaaa", sum := "47f267690526f9e1bd078a61ebbe76a9fff7d4a85c606bf858e40bfa653e7007", func := "bottomry/bottomrylaw11.LedgerOrder", spec := "ledgerOrder", inPlace := ["slices.overlaps[bottomry/api.Letter]", "slices.overlaps[bottomry/api.Outcome]"], unfollowed := true, recurses := true, apart := false, narrowed := true }
def LedgerOrderUptoSaid : Prop := ledgerOrderUptoRow.holds Try.pinned (OpenSpec.upto ledgerOrderSpec)

end Rows
end Go.Proofs.Ytifdlhafcfbeaaa
