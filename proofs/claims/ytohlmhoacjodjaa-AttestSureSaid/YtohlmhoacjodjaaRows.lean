/-
  No cell of these rows narrows 'for every input' (looked for: loops, veiled, ifaces, maps, wideKeys, modest, calm, conditions, laid).
  DERIVED. THE GIVEN ROWS OF THIS SEAT. 5 by the template 'for every input the law returns true; each argument reads behind the call as it read before'; 0 by the template 'total and deterministic' (their statements: YtohlmhoacjodjaaTotals.lean).
  GIVEN WITH THE SEED: the statements are not yours to turn. If you find one false, say at which input.
  Laid BY PROGRAM, IN A SANDBOX (cutbox-rows.mjs): the forced cells as the released guide's own fill.sh prints them over the translation ee55a63c1b198931… (all of the seat's roots in one cut). By AI agents, Wed Nov 11 2026. No macro, syntax, notation, axiom, sorry.
-/
import Derived.Test.YtohlmhoacjodjaaChecked
import GoSem.Claim
import GoSem.ClaimJoined
import GoSem.ClaimMapViews
import Derived.JoinedTies
import Derived.KernelRfl
namespace Go.Proofs.Ytohlmhoacjodjaa
/- THE CELL 'sum', in the pinned program and in every row, IS THE sha256 OF THE DUMP (.gsa) THAT YtohlmhoacjodjaaProg.lean LOADS. Nothing in Lean hashes anything: it is a label: what it is worth is what the hold of that sum in a sandbox is worth. -/
noncomputable def Try.pinned : Pinned := { name := "ytohlmhoacjodjaa", sum := "ee55a63c1b198931919a2ed4d6bae489327a29a54be25b5552af4c436d7f2ba2", checked := Try.checked }
namespace Rows
def none {H : Type} : Left H := { results := [], args := [] }

/-- 'bottomrylaw41.AttestTells': WHATEVER THE INPUT: true; the input reads as it did. -/
def attestTellsSpec : ChangeSpec := { name := "attestTells", fn := fun _ => fun
  | [d1, d2] => { results := [.lit (.bool true)], args := [d1, d2] }
  | _ => none }
def attestTellsRow : OpenClaim := { program := "ytohlmhoacjodjaa", sum := "ee55a63c1b198931919a2ed4d6bae489327a29a54be25b5552af4c436d7f2ba2", func := "bottomry/bottomrylaw41.AttestTells", spec := "attestTells", unfollowed := true, recurses := true, plainKeys := false, apart := false }
def AttestTellsSaid : Prop := attestTellsRow.holds Try.pinned (OpenSpec.ofChange attestTellsSpec)

/-- ITS FALSE NEIGHBOUR: 'it returns false'. Refute it at one input. -/
def attestTellsWrong : ChangeSpec := { name := "attestTells", fn := fun _ => fun
  | [d1, d2] => { results := [.lit (.bool false)], args := [d1, d2] }
  | _ => none }
def AttestTellsWrongFalsely : Prop := attestTellsRow.holds Try.pinned (OpenSpec.ofChange attestTellsWrong)

/-- 'bottomrylaw41.AttestClimbs': WHATEVER THE INPUT: true; the input reads as it did. -/
def attestClimbsSpec : ChangeSpec := { name := "attestClimbs", fn := fun _ => fun
  | [d1, d2, d3, d4] => { results := [.lit (.bool true)], args := [d1, d2, d3, d4] }
  | _ => none }
def attestClimbsRow : OpenClaim := { program := "ytohlmhoacjodjaa", sum := "ee55a63c1b198931919a2ed4d6bae489327a29a54be25b5552af4c436d7f2ba2", func := "bottomry/bottomrylaw41.AttestClimbs", spec := "attestClimbs", unfollowed := true, recurses := true, plainKeys := false, apart := false }
def AttestClimbsSaid : Prop := attestClimbsRow.holds Try.pinned (OpenSpec.ofChange attestClimbsSpec)

/-- ITS FALSE NEIGHBOUR: 'it returns false'. Refute it at one input. -/
def attestClimbsWrong : ChangeSpec := { name := "attestClimbs", fn := fun _ => fun
  | [d1, d2, d3, d4] => { results := [.lit (.bool false)], args := [d1, d2, d3, d4] }
  | _ => none }
def AttestClimbsWrongFalsely : Prop := attestClimbsRow.holds Try.pinned (OpenSpec.ofChange attestClimbsWrong)

/-- 'bottomrylaw41.AttestSure': WHATEVER THE INPUT: true; the input reads as it did. -/
def attestSureSpec : ChangeSpec := { name := "attestSure", fn := fun _ => fun
  | [d1, d2, d3, d4, d5] => { results := [.lit (.bool true)], args := [d1, d2, d3, d4, d5] }
  | _ => none }
def attestSureRow : OpenClaim := { program := "ytohlmhoacjodjaa", sum := "ee55a63c1b198931919a2ed4d6bae489327a29a54be25b5552af4c436d7f2ba2", func := "bottomry/bottomrylaw41.AttestSure", spec := "attestSure", unfollowed := true, recurses := true, plainKeys := false, apart := false }
def AttestSureSaid : Prop := attestSureRow.holds Try.pinned (OpenSpec.ofChange attestSureSpec)

/-- ITS FALSE NEIGHBOUR: 'it returns false'. Refute it at one input. -/
def attestSureWrong : ChangeSpec := { name := "attestSure", fn := fun _ => fun
  | [d1, d2, d3, d4, d5] => { results := [.lit (.bool false)], args := [d1, d2, d3, d4, d5] }
  | _ => none }
def AttestSureWrongFalsely : Prop := attestSureRow.holds Try.pinned (OpenSpec.ofChange attestSureWrong)

/-- 'bottomrylaw41.AttestProves': WHATEVER THE INPUT: true; the input reads as it did. -/
def attestProvesSpec : ChangeSpec := { name := "attestProves", fn := fun _ => fun
  | [d1, d2] => { results := [.lit (.bool true)], args := [d1, d2] }
  | _ => none }
def attestProvesRow : OpenClaim := { program := "ytohlmhoacjodjaa", sum := "ee55a63c1b198931919a2ed4d6bae489327a29a54be25b5552af4c436d7f2ba2", func := "bottomry/bottomrylaw41.AttestProves", spec := "attestProves", unfollowed := true, recurses := true, plainKeys := false, apart := false }
def AttestProvesSaid : Prop := attestProvesRow.holds Try.pinned (OpenSpec.ofChange attestProvesSpec)

/-- ITS FALSE NEIGHBOUR: 'it returns false'. Refute it at one input. -/
def attestProvesWrong : ChangeSpec := { name := "attestProves", fn := fun _ => fun
  | [d1, d2] => { results := [.lit (.bool false)], args := [d1, d2] }
  | _ => none }
def AttestProvesWrongFalsely : Prop := attestProvesRow.holds Try.pinned (OpenSpec.ofChange attestProvesWrong)

/-- 'bottomrylaw41.AttestDeeds': WHATEVER THE INPUT: true; the input reads as it did. -/
def attestDeedsSpec : ChangeSpec := { name := "attestDeeds", fn := fun _ => fun
  | [d] => { results := [.lit (.bool true)], args := [d] }
  | _ => none }
def attestDeedsRow : OpenClaim := { program := "ytohlmhoacjodjaa", sum := "ee55a63c1b198931919a2ed4d6bae489327a29a54be25b5552af4c436d7f2ba2", func := "bottomry/bottomrylaw41.AttestDeeds", spec := "attestDeeds", unfollowed := true, recurses := true, plainKeys := false, apart := false }
def AttestDeedsSaid : Prop := attestDeedsRow.holds Try.pinned (OpenSpec.ofChange attestDeedsSpec)

/-- ITS FALSE NEIGHBOUR: 'it returns false'. Refute it at one input. -/
def attestDeedsWrong : ChangeSpec := { name := "attestDeeds", fn := fun _ => fun
  | [d] => { results := [.lit (.bool false)], args := [d] }
  | _ => none }
def AttestDeedsWrongFalsely : Prop := attestDeedsRow.holds Try.pinned (OpenSpec.ofChange attestDeedsWrong)

/- THE SECOND FORM. 'bulk': how many values and letters a reading holds, each counted each time it is reached (what is shared counts as often as it is met; a slice's spare places count too). A statement '..UptoSaid' is the law's where the arguments, and the package variables that the reading takes, are together of bulk at most 1048576: NARROWER than '..Said'. Prove '..Said' where nothing that the law and all that it calls make is longer than what came in: it says more and counts as full. Else prove '..UptoSaid'. A law counts once. -/
mutual
def uptoBulk {H : Type} : DataW H → Nat
  | .lit (.string bytes) => bytes.length + 1
  | .lit _ => 1
  | .nil => 1
  | .ptr d => uptoBulk d + 1
  | .slice elems spare => uptoBulkAll elems + uptoBulkAll spare + 1
  | .agg parts => uptoBulkAll parts + 1
  | .iface _ d => uptoBulk d + 1
  | .map entries => uptoBulkEntries entries + 1
  | .held _ => 1
def uptoBulkAll {H : Type} : List (DataW H) → Nat
  | [] => 0
  | d :: r => uptoBulk d + uptoBulkAll r
def uptoBulkEntries {H : Type} : List (Lit × DataW H) → Nat
  | [] => 0
  | x :: r => uptoBulkEntry x + uptoBulkEntries r
def uptoBulkEntry {H : Type} : Lit × DataW H → Nat
  | (.string bytes, d) => bytes.length + uptoBulk d + 1
  | (_, d) => uptoBulk d + 1
 end
def uptoSmall : (H : Type) → List (DataW H) → Bool := fun _ ds => decide (uptoBulkAll ds ≤ 1048576)
def OpenSpec.upto (s : _root_.Go.ChangeSpec) : _root_.Go.OpenSpec := { _root_.Go.OpenSpec.ofChange s with cond := some uptoSmall }

/-- 'bottomrylaw41.AttestTells', WHERE WHAT IT READS IS OF BULK AT MOST 1048576: true; the input reads as it did. -/
def attestTellsUptoRow : OpenClaim := { program := "ytohlmhoacjodjaa", sum := "ee55a63c1b198931919a2ed4d6bae489327a29a54be25b5552af4c436d7f2ba2", func := "bottomry/bottomrylaw41.AttestTells", spec := "attestTells", unfollowed := true, recurses := true, plainKeys := false, apart := false, narrowed := true }
def AttestTellsUptoSaid : Prop := attestTellsUptoRow.holds Try.pinned (OpenSpec.upto attestTellsSpec)

/-- 'bottomrylaw41.AttestClimbs', WHERE WHAT IT READS IS OF BULK AT MOST 1048576: true; the input reads as it did. -/
def attestClimbsUptoRow : OpenClaim := { program := "ytohlmhoacjodjaa", sum := "ee55a63c1b198931919a2ed4d6bae489327a29a54be25b5552af4c436d7f2ba2", func := "bottomry/bottomrylaw41.AttestClimbs", spec := "attestClimbs", unfollowed := true, recurses := true, plainKeys := false, apart := false, narrowed := true }
def AttestClimbsUptoSaid : Prop := attestClimbsUptoRow.holds Try.pinned (OpenSpec.upto attestClimbsSpec)

/-- 'bottomrylaw41.AttestSure', WHERE WHAT IT READS IS OF BULK AT MOST 1048576: true; the input reads as it did. -/
def attestSureUptoRow : OpenClaim := { program := "ytohlmhoacjodjaa", sum := "ee55a63c1b198931919a2ed4d6bae489327a29a54be25b5552af4c436d7f2ba2", func := "bottomry/bottomrylaw41.AttestSure", spec := "attestSure", unfollowed := true, recurses := true, plainKeys := false, apart := false, narrowed := true }
def AttestSureUptoSaid : Prop := attestSureUptoRow.holds Try.pinned (OpenSpec.upto attestSureSpec)

/-- 'bottomrylaw41.AttestProves', WHERE WHAT IT READS IS OF BULK AT MOST 1048576: true; the input reads as it did. -/
def attestProvesUptoRow : OpenClaim := { program := "ytohlmhoacjodjaa", sum := "ee55a63c1b198931919a2ed4d6bae489327a29a54be25b5552af4c436d7f2ba2", func := "bottomry/bottomrylaw41.AttestProves", spec := "attestProves", unfollowed := true, recurses := true, plainKeys := false, apart := false, narrowed := true }
def AttestProvesUptoSaid : Prop := attestProvesUptoRow.holds Try.pinned (OpenSpec.upto attestProvesSpec)

/-- 'bottomrylaw41.AttestDeeds', WHERE WHAT IT READS IS OF BULK AT MOST 1048576: true; the input reads as it did. -/
def attestDeedsUptoRow : OpenClaim := { program := "ytohlmhoacjodjaa", sum := "ee55a63c1b198931919a2ed4d6bae489327a29a54be25b5552af4c436d7f2ba2", func := "bottomry/bottomrylaw41.AttestDeeds", spec := "attestDeeds", unfollowed := true, recurses := true, plainKeys := false, apart := false, narrowed := true }
def AttestDeedsUptoSaid : Prop := attestDeedsUptoRow.holds Try.pinned (OpenSpec.upto attestDeedsSpec)

end Rows
end Go.Proofs.Ytohlmhoacjodjaa
