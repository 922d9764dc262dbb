/-
  No cell of these rows narrows 'for every input' (looked for: loops, veiled, ifaces, maps, wideKeys, modest, calm, conditions, laid).
  DERIVED. THE GIVEN ROWS OF THIS SEAT. 5 by the template 'for every input the law returns true; each argument reads behind the call as it read before'; 0 by the template 'total and deterministic' (their statements: YtpcgolpbjbaekaaTotals.lean).
  GIVEN WITH THE SEED: the statements are not yours to turn. If you find one false, say at which input.
  Laid BY PROGRAM, IN A SANDBOX (cutbox-rows.mjs): the forced cells as the released guide's own fill.sh prints them over the translation 88be924bcbbb49ea… (all of the seat's roots in one cut). By AI agents, Wed Nov 11 2026. No macro, syntax, notation, axiom, sorry.
-/
import Derived.Test.YtpcgolpbjbaekaaChecked
import GoSem.Claim
import GoSem.ClaimJoined
import GoSem.ClaimMapViews
import Derived.JoinedTies
import Derived.KernelRfl
namespace Go.Proofs.Ytpcgolpbjbaekaa
/- THE CELL 'sum', in the pinned program and in every row, IS THE sha256 OF THE DUMP (.gsa) THAT YtpcgolpbjbaekaaProg.lean LOADS. Nothing in Lean hashes anything: it is a label: what it is worth is what the hold of that sum in a sandbox is worth. -/
noncomputable def Try.pinned : Pinned := { name := "ytpcgolpbjbaekaa", sum := "88be924bcbbb49ea63e4fe047b07e86a7c8a69d7236464e34c2ef198f4d8553c", checked := Try.checked }
namespace Rows
def none {H : Type} : Left H := { results := [], args := [] }

/-- 'bottomrylaw32.CrowdRoom': WHATEVER THE INPUT: true; the input reads as it did. -/
def crowdRoomSpec : ChangeSpec := { name := "crowdRoom", fn := fun _ => fun
  | [d] => { results := [.lit (.bool true)], args := [d] }
  | _ => none }
def crowdRoomRow : OpenClaim := { program := "ytpcgolpbjbaekaa", sum := "88be924bcbbb49ea63e4fe047b07e86a7c8a69d7236464e34c2ef198f4d8553c", func := "bottomry/bottomrylaw32.CrowdRoom", spec := "crowdRoom", apart := false }
def CrowdRoomSaid : Prop := crowdRoomRow.holds Try.pinned (OpenSpec.ofChange crowdRoomSpec)

/-- ITS FALSE NEIGHBOUR: 'it returns false'. Refute it at one input. -/
def crowdRoomWrong : ChangeSpec := { name := "crowdRoom", fn := fun _ => fun
  | [d] => { results := [.lit (.bool false)], args := [d] }
  | _ => none }
def CrowdRoomWrongFalsely : Prop := crowdRoomRow.holds Try.pinned (OpenSpec.ofChange crowdRoomWrong)

/-- 'bottomrylaw46.QuorumsTell': WHATEVER THE INPUT: true; the input reads as it did. -/
def quorumsTellSpec : ChangeSpec := { name := "quorumsTell", fn := fun _ => fun
  | [d1, d2, d3] => { results := [.lit (.bool true)], args := [d1, d2, d3] }
  | _ => none }
def quorumsTellRow : OpenClaim := { program := "ytpcgolpbjbaekaa", sum := "88be924bcbbb49ea63e4fe047b07e86a7c8a69d7236464e34c2ef198f4d8553c", func := "bottomry/bottomrylaw46.QuorumsTell", spec := "quorumsTell", apart := false }
def QuorumsTellSaid : Prop := quorumsTellRow.holds Try.pinned (OpenSpec.ofChange quorumsTellSpec)

/-- ITS FALSE NEIGHBOUR: 'it returns false'. Refute it at one input. -/
def quorumsTellWrong : ChangeSpec := { name := "quorumsTell", fn := fun _ => fun
  | [d1, d2, d3] => { results := [.lit (.bool false)], args := [d1, d2, d3] }
  | _ => none }
def QuorumsTellWrongFalsely : Prop := quorumsTellRow.holds Try.pinned (OpenSpec.ofChange quorumsTellWrong)

/-- 'bottomrylaw46.QuorumsSizes': WHATEVER THE INPUT: true; the input reads as it did. -/
def quorumsSizesSpec : ChangeSpec := { name := "quorumsSizes", fn := fun _ => fun
  | [d1, d2] => { results := [.lit (.bool true)], args := [d1, d2] }
  | _ => none }
def quorumsSizesRow : OpenClaim := { program := "ytpcgolpbjbaekaa", sum := "88be924bcbbb49ea63e4fe047b07e86a7c8a69d7236464e34c2ef198f4d8553c", func := "bottomry/bottomrylaw46.QuorumsSizes", spec := "quorumsSizes", apart := false }
def QuorumsSizesSaid : Prop := quorumsSizesRow.holds Try.pinned (OpenSpec.ofChange quorumsSizesSpec)

/-- ITS FALSE NEIGHBOUR: 'it returns false'. Refute it at one input. -/
def quorumsSizesWrong : ChangeSpec := { name := "quorumsSizes", fn := fun _ => fun
  | [d1, d2] => { results := [.lit (.bool false)], args := [d1, d2] }
  | _ => none }
def QuorumsSizesWrongFalsely : Prop := quorumsSizesRow.holds Try.pinned (OpenSpec.ofChange quorumsSizesWrong)

/-- 'bottomrylaw46.QuorumsNeeded': WHATEVER THE INPUT: true; the input reads as it did. -/
def quorumsNeededSpec : ChangeSpec := { name := "quorumsNeeded", fn := fun _ => fun
  | [d] => { results := [.lit (.bool true)], args := [d] }
  | _ => none }
def quorumsNeededRow : OpenClaim := { program := "ytpcgolpbjbaekaa", sum := "88be924bcbbb49ea63e4fe047b07e86a7c8a69d7236464e34c2ef198f4d8553c", func := "bottomry/bottomrylaw46.QuorumsNeeded", spec := "quorumsNeeded", apart := false }
def QuorumsNeededSaid : Prop := quorumsNeededRow.holds Try.pinned (OpenSpec.ofChange quorumsNeededSpec)

/-- ITS FALSE NEIGHBOUR: 'it returns false'. Refute it at one input. -/
def quorumsNeededWrong : ChangeSpec := { name := "quorumsNeeded", fn := fun _ => fun
  | [d] => { results := [.lit (.bool false)], args := [d] }
  | _ => none }
def QuorumsNeededWrongFalsely : Prop := quorumsNeededRow.holds Try.pinned (OpenSpec.ofChange quorumsNeededWrong)

/-- 'bottomrylaw32.CrowdPlays': WHATEVER THE INPUT: true; the input reads as it did. -/
def crowdPlaysSpec : ChangeSpec := { name := "crowdPlays", fn := fun _ => fun
  | [d] => { results := [.lit (.bool true)], args := [d] }
  | _ => none }
def crowdPlaysRow : OpenClaim := { program := "ytpcgolpbjbaekaa", sum := "88be924bcbbb49ea63e4fe047b07e86a7c8a69d7236464e34c2ef198f4d8553c", func := "bottomry/bottomrylaw32.CrowdPlays", spec := "crowdPlays", unfollowed := true, recurses := true, apart := false }
def CrowdPlaysSaid : Prop := crowdPlaysRow.holds Try.pinned (OpenSpec.ofChange crowdPlaysSpec)

/-- ITS FALSE NEIGHBOUR: 'it returns false'. Refute it at one input. -/
def crowdPlaysWrong : ChangeSpec := { name := "crowdPlays", fn := fun _ => fun
  | [d] => { results := [.lit (.bool false)], args := [d] }
  | _ => none }
def CrowdPlaysWrongFalsely : Prop := crowdPlaysRow.holds Try.pinned (OpenSpec.ofChange crowdPlaysWrong)

/- THE SECOND FORM. 'bulk': how many values and letters a reading holds, each counted each time it is reached (what is shared counts as often as it is met; a slice's spare places count too). A statement '..UptoSaid' is the law's where the arguments, and the package variables that the reading takes, are together of bulk at most 1048576: NARROWER than '..Said'. Prove '..Said' where nothing that the law and all that it calls make is longer than what came in: it says more and counts as full. Else prove '..UptoSaid'. A law counts once. -/
mutual
def uptoBulk {H : Type} : DataW H → Nat
  | .lit (.string bytes) => bytes.length + 1
  | .lit _ => 1
  | .nil => 1
  | .ptr d => uptoBulk d + 1
  | .slice elems spare => uptoBulkAll elems + uptoBulkAll spare + 1
  | .agg parts => uptoBulkAll parts + 1
  | .iface _ d => uptoBulk d + 1
  | .map entries => uptoBulkEntries entries + 1
  | .held _ => 1
def uptoBulkAll {H : Type} : List (DataW H) → Nat
  | [] => 0
  | d :: r => uptoBulk d + uptoBulkAll r
def uptoBulkEntries {H : Type} : List (Lit × DataW H) → Nat
  | [] => 0
  | x :: r => uptoBulkEntry x + uptoBulkEntries r
def uptoBulkEntry {H : Type} : Lit × DataW H → Nat
  | (.string bytes, d) => bytes.length + uptoBulk d + 1
  | (_, d) => uptoBulk d + 1
 end
def uptoSmall : (H : Type) → List (DataW H) → Bool := fun _ ds => decide (uptoBulkAll ds ≤ 1048576)
def OpenSpec.upto (s : _root_.Go.ChangeSpec) : _root_.Go.OpenSpec := { _root_.Go.OpenSpec.ofChange s with cond := some uptoSmall }

/-- 'bottomrylaw32.CrowdRoom', WHERE WHAT IT READS IS OF BULK AT MOST 1048576: true; the input reads as it did. -/
def crowdRoomUptoRow : OpenClaim := { program := "ytpcgolpbjbaekaa", sum := "88be924bcbbb49ea63e4fe047b07e86a7c8a69d7236464e34c2ef198f4d8553c", func := "bottomry/bottomrylaw32.CrowdRoom", spec := "crowdRoom", apart := false, narrowed := true }
def CrowdRoomUptoSaid : Prop := crowdRoomUptoRow.holds Try.pinned (OpenSpec.upto crowdRoomSpec)

/-- 'bottomrylaw46.QuorumsTell', WHERE WHAT IT READS IS OF BULK AT MOST 1048576: true; the input reads as it did. -/
def quorumsTellUptoRow : OpenClaim := { program := "ytpcgolpbjbaekaa", sum := "88be924bcbbb49ea63e4fe047b07e86a7c8a69d7236464e34c2ef198f4d8553c", func := "bottomry/bottomrylaw46.QuorumsTell", spec := "quorumsTell", apart := false, narrowed := true }
def QuorumsTellUptoSaid : Prop := quorumsTellUptoRow.holds Try.pinned (OpenSpec.upto quorumsTellSpec)

/-- 'bottomrylaw46.QuorumsSizes', WHERE WHAT IT READS IS OF BULK AT MOST 1048576: true; the input reads as it did. -/
def quorumsSizesUptoRow : OpenClaim := { program := "ytpcgolpbjbaekaa", sum := "88be924bcbbb49ea63e4fe047b07e86a7c8a69d7236464e34c2ef198f4d8553c", func := "bottomry/bottomrylaw46.QuorumsSizes", spec := "quorumsSizes", apart := false, narrowed := true }
def QuorumsSizesUptoSaid : Prop := quorumsSizesUptoRow.holds Try.pinned (OpenSpec.upto quorumsSizesSpec)

/-- 'bottomrylaw46.QuorumsNeeded', WHERE WHAT IT READS IS OF BULK AT MOST 1048576: true; the input reads as it did. -/
def quorumsNeededUptoRow : OpenClaim := { program := "ytpcgolpbjbaekaa", sum := "88be924bcbbb49ea63e4fe047b07e86a7c8a69d7236464e34c2ef198f4d8553c", func := "bottomry/bottomrylaw46.QuorumsNeeded", spec := "quorumsNeeded", apart := false, narrowed := true }
def QuorumsNeededUptoSaid : Prop := quorumsNeededUptoRow.holds Try.pinned (OpenSpec.upto quorumsNeededSpec)

/-- 'bottomrylaw32.CrowdPlays', WHERE WHAT IT READS IS OF BULK AT MOST 1048576: true; the input reads as it did. -/
def crowdPlaysUptoRow : OpenClaim := { program := "ytpcgolpbjbaekaa", sum := "88be924bcbbb49ea63e4fe047b07e86a7c8a69d7236464e34c2ef198f4d8553c", func := "bottomry/bottomrylaw32.CrowdPlays", spec := "crowdPlays", unfollowed := true, recurses := true, apart := false, narrowed := true }
def CrowdPlaysUptoSaid : Prop := crowdPlaysUptoRow.holds Try.pinned (OpenSpec.upto crowdPlaysSpec)

end Rows
end Go.Proofs.Ytpcgolpbjbaekaa
