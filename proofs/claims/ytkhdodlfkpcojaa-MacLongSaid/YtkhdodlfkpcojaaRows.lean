/-
  No cell of these rows narrows 'for every input' (looked for: loops, veiled, ifaces, maps, wideKeys, modest, calm, conditions, laid).
  DERIVED. THE GIVEN ROWS OF THIS SEAT. 6 by the template 'for every input the law returns true; each argument reads behind the call as it read before'; 0 by the template 'total and deterministic' (their statements: YtkhdodlfkpcojaaTotals.lean).
  GIVEN WITH THE SEED: the statements are not yours to turn. If you find one false, say at which input.
  Laid BY PROGRAM, IN A SANDBOX (cutbox-rows.mjs): the forced cells as the released guide's own fill.sh prints them over the translation c23a72678b3c30a0… (all of the seat's roots in one cut). By AI agents, Wed Nov 11 2026. No macro, syntax, notation, axiom, sorry.
-/
import Derived.Test.YtkhdodlfkpcojaaChecked
import GoSem.Claim
import GoSem.ClaimJoined
import GoSem.ClaimMapViews
import Derived.JoinedTies
import Derived.KernelRfl
namespace Go.Proofs.Ytkhdodlfkpcojaa
/- THE CELL 'sum', in the pinned program and in every row, IS THE sha256 OF THE DUMP (.gsa) THAT YtkhdodlfkpcojaaProg.lean LOADS. Nothing in Lean hashes anything: it is a label: what it is worth is what the hold of that sum in a sandbox is worth. -/
noncomputable def Try.pinned : Pinned := { name := "ytkhdodlfkpcojaa", sum := "c23a72678b3c30a0c7d2da2ca86fe94235e1f8365fa00f05d6f11ff2dbd67643", checked := Try.checked }
namespace Rows
def none {H : Type} : Left H := { results := [], args := [] }

/-- 'bottomrylaw02.SumsTurns': WHATEVER THE INPUT: true; the input reads as it did. -/
def sumsTurnsSpec : ChangeSpec := { name := "sumsTurns", fn := fun _ => fun
  | [d1, d2] => { results := [.lit (.bool true)], args := [d1, d2] }
  | _ => none }
def sumsTurnsRow : OpenClaim := { program := "ytkhdodlfkpcojaa", sum := "c23a72678b3c30a0c7d2da2ca86fe94235e1f8365fa00f05d6f11ff2dbd67643", func := "bottomry/bottomrylaw02.SumsTurns", spec := "sumsTurns", apart := false }
def SumsTurnsSaid : Prop := sumsTurnsRow.holds Try.pinned (OpenSpec.ofChange sumsTurnsSpec)

/-- ITS FALSE NEIGHBOUR: 'it returns false'. Refute it at one input. -/
def sumsTurnsWrong : ChangeSpec := { name := "sumsTurns", fn := fun _ => fun
  | [d1, d2] => { results := [.lit (.bool false)], args := [d1, d2] }
  | _ => none }
def SumsTurnsWrongFalsely : Prop := sumsTurnsRow.holds Try.pinned (OpenSpec.ofChange sumsTurnsWrong)

/-- 'bottomrylaw02.SumsParts': WHATEVER THE INPUT: true; the input reads as it did. -/
def sumsPartsSpec : ChangeSpec := { name := "sumsParts", fn := fun _ => fun
  | [d1, d2, d3] => { results := [.lit (.bool true)], args := [d1, d2, d3] }
  | _ => none }
def sumsPartsRow : OpenClaim := { program := "ytkhdodlfkpcojaa", sum := "c23a72678b3c30a0c7d2da2ca86fe94235e1f8365fa00f05d6f11ff2dbd67643", func := "bottomry/bottomrylaw02.SumsParts", spec := "sumsParts", apart := false }
def SumsPartsSaid : Prop := sumsPartsRow.holds Try.pinned (OpenSpec.ofChange sumsPartsSpec)

/-- ITS FALSE NEIGHBOUR: 'it returns false'. Refute it at one input. -/
def sumsPartsWrong : ChangeSpec := { name := "sumsParts", fn := fun _ => fun
  | [d1, d2, d3] => { results := [.lit (.bool false)], args := [d1, d2, d3] }
  | _ => none }
def SumsPartsWrongFalsely : Prop := sumsPartsRow.holds Try.pinned (OpenSpec.ofChange sumsPartsWrong)

/-- 'bottomrylaw02.SumsSum': WHATEVER THE INPUT: true; the input reads as it did. -/
def sumsSumSpec : ChangeSpec := { name := "sumsSum", fn := fun _ => fun
  | [d] => { results := [.lit (.bool true)], args := [d] }
  | _ => none }
def sumsSumRow : OpenClaim := { program := "ytkhdodlfkpcojaa", sum := "c23a72678b3c30a0c7d2da2ca86fe94235e1f8365fa00f05d6f11ff2dbd67643", func := "bottomry/bottomrylaw02.SumsSum", spec := "sumsSum", apart := false }
def SumsSumSaid : Prop := sumsSumRow.holds Try.pinned (OpenSpec.ofChange sumsSumSpec)

/-- ITS FALSE NEIGHBOUR: 'it returns false'. Refute it at one input. -/
def sumsSumWrong : ChangeSpec := { name := "sumsSum", fn := fun _ => fun
  | [d] => { results := [.lit (.bool false)], args := [d] }
  | _ => none }
def SumsSumWrongFalsely : Prop := sumsSumRow.holds Try.pinned (OpenSpec.ofChange sumsSumWrong)

/-- 'bottomrylaw03.MacTags': WHATEVER THE INPUT: true; the input reads as it did. -/
def macTagsSpec : ChangeSpec := { name := "macTags", fn := fun _ => fun
  | [d1, d2] => { results := [.lit (.bool true)], args := [d1, d2] }
  | _ => none }
def macTagsRow : OpenClaim := { program := "ytkhdodlfkpcojaa", sum := "c23a72678b3c30a0c7d2da2ca86fe94235e1f8365fa00f05d6f11ff2dbd67643", func := "bottomry/bottomrylaw03.MacTags", spec := "macTags", apart := false }
def MacTagsSaid : Prop := macTagsRow.holds Try.pinned (OpenSpec.ofChange macTagsSpec)

/-- ITS FALSE NEIGHBOUR: 'it returns false'. Refute it at one input. -/
def macTagsWrong : ChangeSpec := { name := "macTags", fn := fun _ => fun
  | [d1, d2] => { results := [.lit (.bool false)], args := [d1, d2] }
  | _ => none }
def MacTagsWrongFalsely : Prop := macTagsRow.holds Try.pinned (OpenSpec.ofChange macTagsWrong)

/-- 'bottomrylaw03.MacChecks': WHATEVER THE INPUT: true; the input reads as it did. -/
def macChecksSpec : ChangeSpec := { name := "macChecks", fn := fun _ => fun
  | [d1, d2, d3, d4, d5] => { results := [.lit (.bool true)], args := [d1, d2, d3, d4, d5] }
  | _ => none }
def macChecksRow : OpenClaim := { program := "ytkhdodlfkpcojaa", sum := "c23a72678b3c30a0c7d2da2ca86fe94235e1f8365fa00f05d6f11ff2dbd67643", func := "bottomry/bottomrylaw03.MacChecks", spec := "macChecks", apart := false }
def MacChecksSaid : Prop := macChecksRow.holds Try.pinned (OpenSpec.ofChange macChecksSpec)

/-- ITS FALSE NEIGHBOUR: 'it returns false'. Refute it at one input. -/
def macChecksWrong : ChangeSpec := { name := "macChecks", fn := fun _ => fun
  | [d1, d2, d3, d4, d5] => { results := [.lit (.bool false)], args := [d1, d2, d3, d4, d5] }
  | _ => none }
def MacChecksWrongFalsely : Prop := macChecksRow.holds Try.pinned (OpenSpec.ofChange macChecksWrong)

/-- 'bottomrylaw03.MacLong': WHATEVER THE INPUT: true; the input reads as it did. -/
def macLongSpec : ChangeSpec := { name := "macLong", fn := fun _ => fun
  | [d1, d2, d3] => { results := [.lit (.bool true)], args := [d1, d2, d3] }
  | _ => none }
def macLongRow : OpenClaim := { program := "ytkhdodlfkpcojaa", sum := "c23a72678b3c30a0c7d2da2ca86fe94235e1f8365fa00f05d6f11ff2dbd67643", func := "bottomry/bottomrylaw03.MacLong", spec := "macLong", apart := false }
def MacLongSaid : Prop := macLongRow.holds Try.pinned (OpenSpec.ofChange macLongSpec)

/-- ITS FALSE NEIGHBOUR: 'it returns false'. Refute it at one input. -/
def macLongWrong : ChangeSpec := { name := "macLong", fn := fun _ => fun
  | [d1, d2, d3] => { results := [.lit (.bool false)], args := [d1, d2, d3] }
  | _ => none }
def MacLongWrongFalsely : Prop := macLongRow.holds Try.pinned (OpenSpec.ofChange macLongWrong)

/- THE SECOND FORM. 'bulk': how many values and letters a reading holds, each counted each time it is reached (what is shared counts as often as it is met; a slice's spare places count too). A statement '..UptoSaid' is the law's where the arguments, and the package variables that the reading takes, are together of bulk at most 1048576: NARROWER than '..Said'. Prove '..Said' where nothing that the law and all that it calls make is longer than what came in: it says more and counts as full. Else prove '..UptoSaid'. A law counts once. -/
mutual
def uptoBulk {H : Type} : DataW H → Nat
  | .lit (.string bytes) => bytes.length + 1
  | .lit _ => 1
  | .nil => 1
  | .ptr d => uptoBulk d + 1
  | .slice elems spare => uptoBulkAll elems + uptoBulkAll spare + 1
  | .agg parts => uptoBulkAll parts + 1
  | .iface _ d => uptoBulk d + 1
  | .map entries => uptoBulkEntries entries + 1
  | .held _ => 1
def uptoBulkAll {H : Type} : List (DataW H) → Nat
  | [] => 0
  | d :: r => uptoBulk d + uptoBulkAll r
def uptoBulkEntries {H : Type} : List (Lit × DataW H) → Nat
  | [] => 0
  | x :: r => uptoBulkEntry x + uptoBulkEntries r
def uptoBulkEntry {H : Type} : Lit × DataW H → Nat
  | (.string bytes, d) => bytes.length + uptoBulk d + 1
  | (_, d) => uptoBulk d + 1
 end
def uptoSmall : (H : Type) → List (DataW H) → Bool := fun _ ds => decide (uptoBulkAll ds ≤ 1048576)
def OpenSpec.upto (s : _root_.Go.ChangeSpec) : _root_.Go.OpenSpec := { _root_.Go.OpenSpec.ofChange s with cond := some uptoSmall }

/-- 'bottomrylaw02.SumsTurns', WHERE WHAT IT READS IS OF BULK AT MOST 1048576: true; the input reads as it did. -/
def sumsTurnsUptoRow : OpenClaim := { program := "ytkhdodlfkpcojaa", sum := "c23a72678b3c30a0c7d2da2ca86fe94235e1f8365fa00f05d6f11ff2dbd67643", func := "bottomry/bottomrylaw02.SumsTurns", spec := "sumsTurns", apart := false, narrowed := true }
def SumsTurnsUptoSaid : Prop := sumsTurnsUptoRow.holds Try.pinned (OpenSpec.upto sumsTurnsSpec)

/-- 'bottomrylaw02.SumsParts', WHERE WHAT IT READS IS OF BULK AT MOST 1048576: true; the input reads as it did. -/
def sumsPartsUptoRow : OpenClaim := { program := "ytkhdodlfkpcojaa", sum := "c23a72678b3c30a0c7d2da2ca86fe94235e1f8365fa00f05d6f11ff2dbd67643", func := "bottomry/bottomrylaw02.SumsParts", spec := "sumsParts", apart := false, narrowed := true }
def SumsPartsUptoSaid : Prop := sumsPartsUptoRow.holds Try.pinned (OpenSpec.upto sumsPartsSpec)

/-- 'bottomrylaw02.SumsSum', WHERE WHAT IT READS IS OF BULK AT MOST 1048576: true; the input reads as it did. -/
def sumsSumUptoRow : OpenClaim := { program := "ytkhdodlfkpcojaa", sum := "c23a72678b3c30a0c7d2da2ca86fe94235e1f8365fa00f05d6f11ff2dbd67643", func := "bottomry/bottomrylaw02.SumsSum", spec := "sumsSum", apart := false, narrowed := true }
def SumsSumUptoSaid : Prop := sumsSumUptoRow.holds Try.pinned (OpenSpec.upto sumsSumSpec)

/-- 'bottomrylaw03.MacTags', WHERE WHAT IT READS IS OF BULK AT MOST 1048576: true; the input reads as it did. -/
def macTagsUptoRow : OpenClaim := { program := "ytkhdodlfkpcojaa", sum := "c23a72678b3c30a0c7d2da2ca86fe94235e1f8365fa00f05d6f11ff2dbd67643", func := "bottomry/bottomrylaw03.MacTags", spec := "macTags", apart := false, narrowed := true }
def MacTagsUptoSaid : Prop := macTagsUptoRow.holds Try.pinned (OpenSpec.upto macTagsSpec)

/-- 'bottomrylaw03.MacChecks', WHERE WHAT IT READS IS OF BULK AT MOST 1048576: true; the input reads as it did. -/
def macChecksUptoRow : OpenClaim := { program := "ytkhdodlfkpcojaa", sum := "c23a72678b3c30a0c7d2da2ca86fe94235e1f8365fa00f05d6f11ff2dbd67643", func := "bottomry/bottomrylaw03.MacChecks", spec := "macChecks", apart := false, narrowed := true }
def MacChecksUptoSaid : Prop := macChecksUptoRow.holds Try.pinned (OpenSpec.upto macChecksSpec)

/-- 'bottomrylaw03.MacLong', WHERE WHAT IT READS IS OF BULK AT MOST 1048576: true; the input reads as it did. -/
def macLongUptoRow : OpenClaim := { program := "ytkhdodlfkpcojaa", sum := "c23a72678b3c30a0c7d2da2ca86fe94235e1f8365fa00f05d6f11ff2dbd67643", func := "bottomry/bottomrylaw03.MacLong", spec := "macLong", apart := false, narrowed := true }
def MacLongUptoSaid : Prop := macLongUptoRow.holds Try.pinned (OpenSpec.upto macLongSpec)

end Rows
end Go.Proofs.Ytkhdodlfkpcojaa
