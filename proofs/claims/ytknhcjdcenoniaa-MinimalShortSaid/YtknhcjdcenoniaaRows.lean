/-
  NARROWER THAN 'FOR EVERY INPUT', by the rows' own cells (each row's printed sentence says how): FormulaTells: loops · FormulaGrows: loops · FormulaSame: loops · FormulaStops: loops · MinimalImplies: loops · MinimalDual: loops · MinimalSets: loops · MinimalShort: loops.
  DERIVED. THE GIVEN ROWS OF THIS SEAT. 8 by the template 'for every input the law returns true; each argument reads behind the call as it read before'; 0 by the template 'total and deterministic' (their statements: YtknhcjdcenoniaaTotals.lean).
  GIVEN WITH THE SEED: the statements are not yours to turn. If you find one false, say at which input.
  Laid BY PROGRAM, IN A SANDBOX (cutbox-rows.mjs): the forced cells as the released guide's own fill.sh prints them over the translation 698e00a941326d4c… (all of the seat's roots in one cut). By AI agents, Wed Nov 11 2026. No macro, syntax, notation, axiom, sorry.
-/
import Derived.Test.YtknhcjdcenoniaaChecked
import GoSem.Claim
import GoSem.ClaimJoined
import GoSem.ClaimMapViews
import Derived.JoinedTies
import Derived.KernelRfl
namespace Go.Proofs.Ytknhcjdcenoniaa
/- THE CELL 'sum', in the pinned program and in every row, IS THE sha256 OF THE DUMP (.gsa) THAT YtknhcjdcenoniaaProg.lean LOADS. Nothing in Lean hashes anything: it is a label: what it is worth is what the hold of that sum in a sandbox is worth. -/
noncomputable def Try.pinned : Pinned := { name := "ytknhcjdcenoniaa", sum := "698e00a941326d4ca7798c61066f29968832b2ebfc0fe23b3b2cd34ec6758c8b", checked := Try.checked }
namespace Rows
def none {H : Type} : Left H := { results := [], args := [] }

/-- 'bottomrylaw08.FormulaTells': WHATEVER THE INPUT: true; the input reads as it did. -/
def formulaTellsSpec : ChangeSpec := { name := "formulaTells", fn := fun _ => fun
  | [d1, d2, d3] => { results := [.lit (.bool true)], args := [d1, d2, d3] }
  | _ => none }
def formulaTellsRow : OpenClaim := { program := "ytknhcjdcenoniaa", sum := "698e00a941326d4ca7798c61066f29968832b2ebfc0fe23b3b2cd34ec6758c8b", func := "bottomry/bottomrylaw08.FormulaTells", spec := "formulaTells", unfollowed := true, recurses := true, loops := true, apart := false }
def FormulaTellsSaid : Prop := formulaTellsRow.holds Try.pinned (OpenSpec.ofChange formulaTellsSpec)

/-- ITS FALSE NEIGHBOUR: 'it returns false'. Refute it at one input. -/
def formulaTellsWrong : ChangeSpec := { name := "formulaTells", fn := fun _ => fun
  | [d1, d2, d3] => { results := [.lit (.bool false)], args := [d1, d2, d3] }
  | _ => none }
def FormulaTellsWrongFalsely : Prop := formulaTellsRow.holds Try.pinned (OpenSpec.ofChange formulaTellsWrong)

/-- 'bottomrylaw08.FormulaGrows': WHATEVER THE INPUT: true; the input reads as it did. -/
def formulaGrowsSpec : ChangeSpec := { name := "formulaGrows", fn := fun _ => fun
  | [d1, d2, d3] => { results := [.lit (.bool true)], args := [d1, d2, d3] }
  | _ => none }
def formulaGrowsRow : OpenClaim := { program := "ytknhcjdcenoniaa", sum := "698e00a941326d4ca7798c61066f29968832b2ebfc0fe23b3b2cd34ec6758c8b", func := "bottomry/bottomrylaw08.FormulaGrows", spec := "formulaGrows", unfollowed := true, recurses := true, loops := true, apart := false }
def FormulaGrowsSaid : Prop := formulaGrowsRow.holds Try.pinned (OpenSpec.ofChange formulaGrowsSpec)

/-- ITS FALSE NEIGHBOUR: 'it returns false'. Refute it at one input. -/
def formulaGrowsWrong : ChangeSpec := { name := "formulaGrows", fn := fun _ => fun
  | [d1, d2, d3] => { results := [.lit (.bool false)], args := [d1, d2, d3] }
  | _ => none }
def FormulaGrowsWrongFalsely : Prop := formulaGrowsRow.holds Try.pinned (OpenSpec.ofChange formulaGrowsWrong)

/-- 'bottomrylaw08.FormulaSame': WHATEVER THE INPUT: true; the input reads as it did. -/
def formulaSameSpec : ChangeSpec := { name := "formulaSame", fn := fun _ => fun
  | [d1, d2] => { results := [.lit (.bool true)], args := [d1, d2] }
  | _ => none }
def formulaSameRow : OpenClaim := { program := "ytknhcjdcenoniaa", sum := "698e00a941326d4ca7798c61066f29968832b2ebfc0fe23b3b2cd34ec6758c8b", func := "bottomry/bottomrylaw08.FormulaSame", spec := "formulaSame", unfollowed := true, recurses := true, loops := true, apart := false }
def FormulaSameSaid : Prop := formulaSameRow.holds Try.pinned (OpenSpec.ofChange formulaSameSpec)

/-- ITS FALSE NEIGHBOUR: 'it returns false'. Refute it at one input. -/
def formulaSameWrong : ChangeSpec := { name := "formulaSame", fn := fun _ => fun
  | [d1, d2] => { results := [.lit (.bool false)], args := [d1, d2] }
  | _ => none }
def FormulaSameWrongFalsely : Prop := formulaSameRow.holds Try.pinned (OpenSpec.ofChange formulaSameWrong)

/-- 'bottomrylaw08.FormulaStops': WHATEVER THE INPUT: true; the input reads as it did. -/
def formulaStopsSpec : ChangeSpec := { name := "formulaStops", fn := fun _ => fun
  | [d1, d2] => { results := [.lit (.bool true)], args := [d1, d2] }
  | _ => none }
def formulaStopsRow : OpenClaim := { program := "ytknhcjdcenoniaa", sum := "698e00a941326d4ca7798c61066f29968832b2ebfc0fe23b3b2cd34ec6758c8b", func := "bottomry/bottomrylaw08.FormulaStops", spec := "formulaStops", unfollowed := true, recurses := true, loops := true, apart := false }
def FormulaStopsSaid : Prop := formulaStopsRow.holds Try.pinned (OpenSpec.ofChange formulaStopsSpec)

/-- ITS FALSE NEIGHBOUR: 'it returns false'. Refute it at one input. -/
def formulaStopsWrong : ChangeSpec := { name := "formulaStops", fn := fun _ => fun
  | [d1, d2] => { results := [.lit (.bool false)], args := [d1, d2] }
  | _ => none }
def FormulaStopsWrongFalsely : Prop := formulaStopsRow.holds Try.pinned (OpenSpec.ofChange formulaStopsWrong)

/-- 'bottomrylaw39.MinimalImplies': WHATEVER THE INPUT: true; the input reads as it did. -/
def minimalImpliesSpec : ChangeSpec := { name := "minimalImplies", fn := fun _ => fun
  | [d1, d2] => { results := [.lit (.bool true)], args := [d1, d2] }
  | _ => none }
def minimalImpliesRow : OpenClaim := { program := "ytknhcjdcenoniaa", sum := "698e00a941326d4ca7798c61066f29968832b2ebfc0fe23b3b2cd34ec6758c8b", func := "bottomry/bottomrylaw39.MinimalImplies", spec := "minimalImplies", unfollowed := true, recurses := true, loops := true, apart := false }
def MinimalImpliesSaid : Prop := minimalImpliesRow.holds Try.pinned (OpenSpec.ofChange minimalImpliesSpec)

/-- ITS FALSE NEIGHBOUR: 'it returns false'. Refute it at one input. -/
def minimalImpliesWrong : ChangeSpec := { name := "minimalImplies", fn := fun _ => fun
  | [d1, d2] => { results := [.lit (.bool false)], args := [d1, d2] }
  | _ => none }
def MinimalImpliesWrongFalsely : Prop := minimalImpliesRow.holds Try.pinned (OpenSpec.ofChange minimalImpliesWrong)

/-- 'bottomrylaw39.MinimalDual': WHATEVER THE INPUT: true; the input reads as it did. -/
def minimalDualSpec : ChangeSpec := { name := "minimalDual", fn := fun _ => fun
  | [d1, d2] => { results := [.lit (.bool true)], args := [d1, d2] }
  | _ => none }
def minimalDualRow : OpenClaim := { program := "ytknhcjdcenoniaa", sum := "698e00a941326d4ca7798c61066f29968832b2ebfc0fe23b3b2cd34ec6758c8b", func := "bottomry/bottomrylaw39.MinimalDual", spec := "minimalDual", unfollowed := true, recurses := true, loops := true, apart := false }
def MinimalDualSaid : Prop := minimalDualRow.holds Try.pinned (OpenSpec.ofChange minimalDualSpec)

/-- ITS FALSE NEIGHBOUR: 'it returns false'. Refute it at one input. -/
def minimalDualWrong : ChangeSpec := { name := "minimalDual", fn := fun _ => fun
  | [d1, d2] => { results := [.lit (.bool false)], args := [d1, d2] }
  | _ => none }
def MinimalDualWrongFalsely : Prop := minimalDualRow.holds Try.pinned (OpenSpec.ofChange minimalDualWrong)

/-- 'bottomrylaw39.MinimalSets': WHATEVER THE INPUT: true; the input reads as it did. -/
def minimalSetsSpec : ChangeSpec := { name := "minimalSets", fn := fun _ => fun
  | [d] => { results := [.lit (.bool true)], args := [d] }
  | _ => none }
def minimalSetsRow : OpenClaim := { program := "ytknhcjdcenoniaa", sum := "698e00a941326d4ca7798c61066f29968832b2ebfc0fe23b3b2cd34ec6758c8b", func := "bottomry/bottomrylaw39.MinimalSets", spec := "minimalSets", unfollowed := true, recurses := true, loops := true, apart := false }
def MinimalSetsSaid : Prop := minimalSetsRow.holds Try.pinned (OpenSpec.ofChange minimalSetsSpec)

/-- ITS FALSE NEIGHBOUR: 'it returns false'. Refute it at one input. -/
def minimalSetsWrong : ChangeSpec := { name := "minimalSets", fn := fun _ => fun
  | [d] => { results := [.lit (.bool false)], args := [d] }
  | _ => none }
def MinimalSetsWrongFalsely : Prop := minimalSetsRow.holds Try.pinned (OpenSpec.ofChange minimalSetsWrong)

/-- 'bottomrylaw39.MinimalShort': WHATEVER THE INPUT: true; the input reads as it did. -/
def minimalShortSpec : ChangeSpec := { name := "minimalShort", fn := fun _ => fun
  | [d1, d2] => { results := [.lit (.bool true)], args := [d1, d2] }
  | _ => none }
def minimalShortRow : OpenClaim := { program := "ytknhcjdcenoniaa", sum := "698e00a941326d4ca7798c61066f29968832b2ebfc0fe23b3b2cd34ec6758c8b", func := "bottomry/bottomrylaw39.MinimalShort", spec := "minimalShort", unfollowed := true, recurses := true, loops := true, apart := false }
def MinimalShortSaid : Prop := minimalShortRow.holds Try.pinned (OpenSpec.ofChange minimalShortSpec)

/-- ITS FALSE NEIGHBOUR: 'it returns false'. Refute it at one input. -/
def minimalShortWrong : ChangeSpec := { name := "minimalShort", fn := fun _ => fun
  | [d1, d2] => { results := [.lit (.bool false)], args := [d1, d2] }
  | _ => none }
def MinimalShortWrongFalsely : Prop := minimalShortRow.holds Try.pinned (OpenSpec.ofChange minimalShortWrong)

/- THE SECOND FORM. 'bulk': how many values and letters a reading holds, each counted each time it is reached (what is shared counts as often as it is met; a slice's spare places count too). A statement '..UptoSaid' is the law's where the arguments, and the package variables that the reading takes, are together of bulk at most 1048576: NARROWER than '..Said'. Prove '..Said' where nothing that the law and all that it calls make is longer than what came in: it says more and counts as full. Else prove '..UptoSaid'. A law counts once. -/
mutual
def uptoBulk {H : Type} : DataW H → Nat
  | .lit (.string bytes) => bytes.length + 1
  | .lit _ => 1
  | .nil => 1
  | .ptr d => uptoBulk d + 1
  | .slice elems spare => uptoBulkAll elems + uptoBulkAll spare + 1
  | .agg parts => uptoBulkAll parts + 1
  | .iface _ d => uptoBulk d + 1
  | .map entries => uptoBulkEntries entries + 1
  | .held _ => 1
def uptoBulkAll {H : Type} : List (DataW H) → Nat
  | [] => 0
  | d :: r => uptoBulk d + uptoBulkAll r
def uptoBulkEntries {H : Type} : List (Lit × DataW H) → Nat
  | [] => 0
  | x :: r => uptoBulkEntry x + uptoBulkEntries r
def uptoBulkEntry {H : Type} : Lit × DataW H → Nat
  | (.string bytes, d) => bytes.length + uptoBulk d + 1
  | (_, d) => uptoBulk d + 1
 end
def uptoSmall : (H : Type) → List (DataW H) → Bool := fun _ ds => decide (uptoBulkAll ds ≤ 1048576)
def OpenSpec.upto (s : _root_.Go.ChangeSpec) : _root_.Go.OpenSpec := { _root_.Go.OpenSpec.ofChange s with cond := some uptoSmall }

/-- 'bottomrylaw08.FormulaTells', WHERE WHAT IT READS IS OF BULK AT MOST 1048576: true; the input reads as it did. -/
def formulaTellsUptoRow : OpenClaim := { program := "ytknhcjdcenoniaa", sum := "698e00a941326d4ca7798c61066f29968832b2ebfc0fe23b3b2cd34ec6758c8b", func := "bottomry/bottomrylaw08.FormulaTells", spec := "formulaTells", unfollowed := true, recurses := true, loops := true, apart := false, narrowed := true }
def FormulaTellsUptoSaid : Prop := formulaTellsUptoRow.holds Try.pinned (OpenSpec.upto formulaTellsSpec)

/-- 'bottomrylaw08.FormulaGrows', WHERE WHAT IT READS IS OF BULK AT MOST 1048576: true; the input reads as it did. -/
def formulaGrowsUptoRow : OpenClaim := { program := "ytknhcjdcenoniaa", sum := "698e00a941326d4ca7798c61066f29968832b2ebfc0fe23b3b2cd34ec6758c8b", func := "bottomry/bottomrylaw08.FormulaGrows", spec := "formulaGrows", unfollowed := true, recurses := true, loops := true, apart := false, narrowed := true }
def FormulaGrowsUptoSaid : Prop := formulaGrowsUptoRow.holds Try.pinned (OpenSpec.upto formulaGrowsSpec)

/-- 'bottomrylaw08.FormulaSame', WHERE WHAT IT READS IS OF BULK AT MOST 1048576: true; the input reads as it did. -/
def formulaSameUptoRow : OpenClaim := { program := "ytknhcjdcenoniaa", sum := "698e00a941326d4ca7798c61066f29968832b2ebfc0fe23b3b2cd34ec6758c8b", func := "bottomry/bottomrylaw08.FormulaSame", spec := "formulaSame", unfollowed := true, recurses := true, loops := true, apart := false, narrowed := true }
def FormulaSameUptoSaid : Prop := formulaSameUptoRow.holds Try.pinned (OpenSpec.upto formulaSameSpec)

/-- 'bottomrylaw08.FormulaStops', WHERE WHAT IT READS IS OF BULK AT MOST 1048576: true; the input reads as it did. -/
def formulaStopsUptoRow : OpenClaim := { program := "ytknhcjdcenoniaa", sum := "698e00a941326d4ca7798c61066f29968832b2ebfc0fe23b3b2cd34ec6758c8b", func := "bottomry/bottomrylaw08.FormulaStops", spec := "formulaStops", unfollowed := true, recurses := true, loops := true, apart := false, narrowed := true }
def FormulaStopsUptoSaid : Prop := formulaStopsUptoRow.holds Try.pinned (OpenSpec.upto formulaStopsSpec)

/-- 'bottomrylaw39.MinimalImplies', WHERE WHAT IT READS IS OF BULK AT MOST 1048576: true; the input reads as it did. -/
def minimalImpliesUptoRow : OpenClaim := { program := "ytknhcjdcenoniaa", sum := "698e00a941326d4ca7798c61066f29968832b2ebfc0fe23b3b2cd34ec6758c8b", func := "bottomry/bottomrylaw39.MinimalImplies", spec := "minimalImplies", unfollowed := true, recurses := true, loops := true, apart := false, narrowed := true }
def MinimalImpliesUptoSaid : Prop := minimalImpliesUptoRow.holds Try.pinned (OpenSpec.upto minimalImpliesSpec)

/-- 'bottomrylaw39.MinimalDual', WHERE WHAT IT READS IS OF BULK AT MOST 1048576: true; the input reads as it did. -/
def minimalDualUptoRow : OpenClaim := { program := "ytknhcjdcenoniaa", sum := "698e00a941326d4ca7798c61066f29968832b2ebfc0fe23b3b2cd34ec6758c8b", func := "bottomry/bottomrylaw39.MinimalDual", spec := "minimalDual", unfollowed := true, recurses := true, loops := true, apart := false, narrowed := true }
def MinimalDualUptoSaid : Prop := minimalDualUptoRow.holds Try.pinned (OpenSpec.upto minimalDualSpec)

/-- 'bottomrylaw39.MinimalSets', WHERE WHAT IT READS IS OF BULK AT MOST 1048576: true; the input reads as it did. -/
def minimalSetsUptoRow : OpenClaim := { program := "ytknhcjdcenoniaa", sum := "698e00a941326d4ca7798c61066f29968832b2ebfc0fe23b3b2cd34ec6758c8b", func := "bottomry/bottomrylaw39.MinimalSets", spec := "minimalSets", unfollowed := true, recurses := true, loops := true, apart := false, narrowed := true }
def MinimalSetsUptoSaid : Prop := minimalSetsUptoRow.holds Try.pinned (OpenSpec.upto minimalSetsSpec)

/-- 'bottomrylaw39.MinimalShort', WHERE WHAT IT READS IS OF BULK AT MOST 1048576: true; the input reads as it did. -/
def minimalShortUptoRow : OpenClaim := { program := "ytknhcjdcenoniaa", sum := "698e00a941326d4ca7798c61066f29968832b2ebfc0fe23b3b2cd34ec6758c8b", func := "bottomry/bottomrylaw39.MinimalShort", spec := "minimalShort", unfollowed := true, recurses := true, loops := true, apart := false, narrowed := true }
def MinimalShortUptoSaid : Prop := minimalShortUptoRow.holds Try.pinned (OpenSpec.upto minimalShortSpec)

end Rows
end Go.Proofs.Ytknhcjdcenoniaa
