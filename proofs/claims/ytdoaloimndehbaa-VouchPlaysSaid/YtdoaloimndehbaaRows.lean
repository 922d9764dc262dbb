/-
  No cell of these rows narrows 'for every input' (looked for: loops, veiled, ifaces, maps, wideKeys, modest, calm, conditions, laid).
  DERIVED. THE GIVEN ROWS OF THIS SEAT. 6 by the template 'for every input the law returns true; each argument reads behind the call as it read before'; 0 by the template 'total and deterministic' (their statements: YtdoaloimndehbaaTotals.lean).
  GIVEN WITH THE SEED: the statements are not yours to turn. If you find one false, say at which input.
  Laid BY PROGRAM, IN A SANDBOX (cutbox-rows.mjs): the forced cells as the released guide's own fill.sh prints them over the translation 489bddceb6747e38… (all of the seat's roots in one cut). By AI agents, Wed Nov 11 2026. No macro, syntax, notation, axiom, sorry.
-/
import Derived.Test.YtdoaloimndehbaaChecked
import GoSem.Claim
import GoSem.ClaimJoined
import GoSem.ClaimMapViews
import Derived.JoinedTies
import Derived.KernelRfl
namespace Go.Proofs.Ytdoaloimndehbaa
/- THE CELL 'sum', in the pinned program and in every row, IS THE sha256 OF THE DUMP (.gsa) THAT YtdoaloimndehbaaProg.lean LOADS. Nothing in Lean hashes anything: it is a label: what it is worth is what the hold of that sum in a sandbox is worth. -/
noncomputable def Try.pinned : Pinned := { name := "ytdoaloimndehbaa", sum := "489bddceb6747e385473192543da5bc34a740758115ee7079c5bf802d92ca104", checked := Try.checked }
namespace Rows
def none {H : Type} : Left H := { results := [], args := [] }

/-- 'bottomrylaw21.SlotOne': WHATEVER THE INPUT: true; the input reads as it did. -/
def slotOneSpec : ChangeSpec := { name := "slotOne", fn := fun _ => fun
  | [d1, d2, d3, d4, d5] => { results := [.lit (.bool true)], args := [d1, d2, d3, d4, d5] }
  | _ => none }
def slotOneRow : OpenClaim := { program := "ytdoaloimndehbaa", sum := "489bddceb6747e385473192543da5bc34a740758115ee7079c5bf802d92ca104", func := "bottomry/bottomrylaw21.SlotOne", spec := "slotOne", plainKeys := false, apart := false }
def SlotOneSaid : Prop := slotOneRow.holds Try.pinned (OpenSpec.ofChange slotOneSpec)

/-- ITS FALSE NEIGHBOUR: 'it returns false'. Refute it at one input. -/
def slotOneWrong : ChangeSpec := { name := "slotOne", fn := fun _ => fun
  | [d1, d2, d3, d4, d5] => { results := [.lit (.bool false)], args := [d1, d2, d3, d4, d5] }
  | _ => none }
def SlotOneWrongFalsely : Prop := slotOneRow.holds Try.pinned (OpenSpec.ofChange slotOneWrong)

/-- 'bottomrylaw21.SlotPlays': WHATEVER THE INPUT: true; the input reads as it did. -/
def slotPlaysSpec : ChangeSpec := { name := "slotPlays", fn := fun _ => fun
  | [d1, d2, d3] => { results := [.lit (.bool true)], args := [d1, d2, d3] }
  | _ => none }
def slotPlaysRow : OpenClaim := { program := "ytdoaloimndehbaa", sum := "489bddceb6747e385473192543da5bc34a740758115ee7079c5bf802d92ca104", func := "bottomry/bottomrylaw21.SlotPlays", spec := "slotPlays", plainKeys := false, apart := false }
def SlotPlaysSaid : Prop := slotPlaysRow.holds Try.pinned (OpenSpec.ofChange slotPlaysSpec)

/-- ITS FALSE NEIGHBOUR: 'it returns false'. Refute it at one input. -/
def slotPlaysWrong : ChangeSpec := { name := "slotPlays", fn := fun _ => fun
  | [d1, d2, d3] => { results := [.lit (.bool false)], args := [d1, d2, d3] }
  | _ => none }
def SlotPlaysWrongFalsely : Prop := slotPlaysRow.holds Try.pinned (OpenSpec.ofChange slotPlaysWrong)

/-- 'bottomrylaw26.ChooseKeeps': WHATEVER THE INPUT: true; the input reads as it did. -/
def chooseKeepsSpec : ChangeSpec := { name := "chooseKeeps", fn := fun _ => fun
  | [d1, d2, d3, d4] => { results := [.lit (.bool true)], args := [d1, d2, d3, d4] }
  | _ => none }
def chooseKeepsRow : OpenClaim := { program := "ytdoaloimndehbaa", sum := "489bddceb6747e385473192543da5bc34a740758115ee7079c5bf802d92ca104", func := "bottomry/bottomrylaw26.ChooseKeeps", spec := "chooseKeeps", unfollowed := true, recurses := true, plainKeys := false, apart := false }
def ChooseKeepsSaid : Prop := chooseKeepsRow.holds Try.pinned (OpenSpec.ofChange chooseKeepsSpec)

/-- ITS FALSE NEIGHBOUR: 'it returns false'. Refute it at one input. -/
def chooseKeepsWrong : ChangeSpec := { name := "chooseKeeps", fn := fun _ => fun
  | [d1, d2, d3, d4] => { results := [.lit (.bool false)], args := [d1, d2, d3, d4] }
  | _ => none }
def ChooseKeepsWrongFalsely : Prop := chooseKeepsRow.holds Try.pinned (OpenSpec.ofChange chooseKeepsWrong)

/-- 'bottomrylaw26.ChooseEnough': WHATEVER THE INPUT: true; the input reads as it did. -/
def chooseEnoughSpec : ChangeSpec := { name := "chooseEnough", fn := fun _ => fun
  | [d1, d2, d3, d4, d5] => { results := [.lit (.bool true)], args := [d1, d2, d3, d4, d5] }
  | _ => none }
def chooseEnoughRow : OpenClaim := { program := "ytdoaloimndehbaa", sum := "489bddceb6747e385473192543da5bc34a740758115ee7079c5bf802d92ca104", func := "bottomry/bottomrylaw26.ChooseEnough", spec := "chooseEnough", unfollowed := true, recurses := true, plainKeys := false, apart := false }
def ChooseEnoughSaid : Prop := chooseEnoughRow.holds Try.pinned (OpenSpec.ofChange chooseEnoughSpec)

/-- ITS FALSE NEIGHBOUR: 'it returns false'. Refute it at one input. -/
def chooseEnoughWrong : ChangeSpec := { name := "chooseEnough", fn := fun _ => fun
  | [d1, d2, d3, d4, d5] => { results := [.lit (.bool false)], args := [d1, d2, d3, d4, d5] }
  | _ => none }
def ChooseEnoughWrongFalsely : Prop := chooseEnoughRow.holds Try.pinned (OpenSpec.ofChange chooseEnoughWrong)

/-- 'bottomrylaw24.VouchHonest': WHATEVER THE INPUT: true; the input reads as it did. -/
def vouchHonestSpec : ChangeSpec := { name := "vouchHonest", fn := fun _ => fun
  | [d1, d2, d3, d4, d5] => { results := [.lit (.bool true)], args := [d1, d2, d3, d4, d5] }
  | _ => none }
def vouchHonestRow : OpenClaim := { program := "ytdoaloimndehbaa", sum := "489bddceb6747e385473192543da5bc34a740758115ee7079c5bf802d92ca104", func := "bottomry/bottomrylaw24.VouchHonest", spec := "vouchHonest", inPlace := ["slices.overlaps[bottomry/api.Vouching]"], unfollowed := true, recurses := true, plainKeys := false, apart := false }
def VouchHonestSaid : Prop := vouchHonestRow.holds Try.pinned (OpenSpec.ofChange vouchHonestSpec)

/-- ITS FALSE NEIGHBOUR: 'it returns false'. Refute it at one input. -/
def vouchHonestWrong : ChangeSpec := { name := "vouchHonest", fn := fun _ => fun
  | [d1, d2, d3, d4, d5] => { results := [.lit (.bool false)], args := [d1, d2, d3, d4, d5] }
  | _ => none }
def VouchHonestWrongFalsely : Prop := vouchHonestRow.holds Try.pinned (OpenSpec.ofChange vouchHonestWrong)

/-- 'bottomrylaw24.VouchPlays': WHATEVER THE INPUT: true; the input reads as it did. -/
def vouchPlaysSpec : ChangeSpec := { name := "vouchPlays", fn := fun _ => fun
  | [d1, d2, d3, d4] => { results := [.lit (.bool true)], args := [d1, d2, d3, d4] }
  | _ => none }
def vouchPlaysRow : OpenClaim := { program := "ytdoaloimndehbaa", sum := "489bddceb6747e385473192543da5bc34a740758115ee7079c5bf802d92ca104", func := "bottomry/bottomrylaw24.VouchPlays", spec := "vouchPlays", inPlace := ["slices.overlaps[bottomry/api.Vouching]"], unfollowed := true, recurses := true, plainKeys := false, apart := false }
def VouchPlaysSaid : Prop := vouchPlaysRow.holds Try.pinned (OpenSpec.ofChange vouchPlaysSpec)

/-- ITS FALSE NEIGHBOUR: 'it returns false'. Refute it at one input. -/
def vouchPlaysWrong : ChangeSpec := { name := "vouchPlays", fn := fun _ => fun
  | [d1, d2, d3, d4] => { results := [.lit (.bool false)], args := [d1, d2, d3, d4] }
  | _ => none }
def VouchPlaysWrongFalsely : Prop := vouchPlaysRow.holds Try.pinned (OpenSpec.ofChange vouchPlaysWrong)

/- THE SECOND FORM. 'bulk': how many values and letters a reading holds, each counted each time it is reached (what is shared counts as often as it is met; a slice's spare places count too). A statement '..UptoSaid' is the law's where the arguments, and the package variables that the reading takes, are together of bulk at most 1048576: NARROWER than '..Said'. Prove '..Said' where nothing that the law and all that it calls make is longer than what came in: it says more and counts as full. Else prove '..UptoSaid'. A law counts once. -/
mutual
def uptoBulk {H : Type} : DataW H → Nat
  | .lit (.string bytes) => bytes.length + 1
  | .lit _ => 1
  | .nil => 1
  | .ptr d => uptoBulk d + 1
  | .slice elems spare => uptoBulkAll elems + uptoBulkAll spare + 1
  | .agg parts => uptoBulkAll parts + 1
  | .iface _ d => uptoBulk d + 1
  | .map entries => uptoBulkEntries entries + 1
  | .held _ => 1
def uptoBulkAll {H : Type} : List (DataW H) → Nat
  | [] => 0
  | d :: r => uptoBulk d + uptoBulkAll r
def uptoBulkEntries {H : Type} : List (Lit × DataW H) → Nat
  | [] => 0
  | x :: r => uptoBulkEntry x + uptoBulkEntries r
def uptoBulkEntry {H : Type} : Lit × DataW H → Nat
  | (.string bytes, d) => bytes.length + uptoBulk d + 1
  | (_, d) => uptoBulk d + 1
 end
def uptoSmall : (H : Type) → List (DataW H) → Bool := fun _ ds => decide (uptoBulkAll ds ≤ 1048576)
def OpenSpec.upto (s : _root_.Go.ChangeSpec) : _root_.Go.OpenSpec := { _root_.Go.OpenSpec.ofChange s with cond := some uptoSmall }

/-- 'bottomrylaw21.SlotOne', WHERE WHAT IT READS IS OF BULK AT MOST 1048576: true; the input reads as it did. -/
def slotOneUptoRow : OpenClaim := { program := "ytdoaloimndehbaa", sum := "489bddceb6747e385473192543da5bc34a740758115ee7079c5bf802d92ca104", func := "bottomry/bottomrylaw21.SlotOne", spec := "slotOne", plainKeys := false, apart := false, narrowed := true }
def SlotOneUptoSaid : Prop := slotOneUptoRow.holds Try.pinned (OpenSpec.upto slotOneSpec)

/-- 'bottomrylaw21.SlotPlays', WHERE WHAT IT READS IS OF BULK AT MOST 1048576: true; the input reads as it did. -/
def slotPlaysUptoRow : OpenClaim := { program := "ytdoaloimndehbaa", sum := "489bddceb6747e385473192543da5bc34a740758115ee7079c5bf802d92ca104", func := "bottomry/bottomrylaw21.SlotPlays", spec := "slotPlays", plainKeys := false, apart := false, narrowed := true }
def SlotPlaysUptoSaid : Prop := slotPlaysUptoRow.holds Try.pinned (OpenSpec.upto slotPlaysSpec)

/-- 'bottomrylaw26.ChooseKeeps', WHERE WHAT IT READS IS OF BULK AT MOST 1048576: true; the input reads as it did. -/
def chooseKeepsUptoRow : OpenClaim := { program := "ytdoaloimndehbaa", sum := "489bddceb6747e385473192543da5bc34a740758115ee7079c5bf802d92ca104", func := "bottomry/bottomrylaw26.ChooseKeeps", spec := "chooseKeeps", unfollowed := true, recurses := true, plainKeys := false, apart := false, narrowed := true }
def ChooseKeepsUptoSaid : Prop := chooseKeepsUptoRow.holds Try.pinned (OpenSpec.upto chooseKeepsSpec)

/-- 'bottomrylaw26.ChooseEnough', WHERE WHAT IT READS IS OF BULK AT MOST 1048576: true; the input reads as it did. -/
def chooseEnoughUptoRow : OpenClaim := { program := "ytdoaloimndehbaa", sum := "489bddceb6747e385473192543da5bc34a740758115ee7079c5bf802d92ca104", func := "bottomry/bottomrylaw26.ChooseEnough", spec := "chooseEnough", unfollowed := true, recurses := true, plainKeys := false, apart := false, narrowed := true }
def ChooseEnoughUptoSaid : Prop := chooseEnoughUptoRow.holds Try.pinned (OpenSpec.upto chooseEnoughSpec)

/-- 'bottomrylaw24.VouchHonest', WHERE WHAT IT READS IS OF BULK AT MOST 1048576: true; the input reads as it did. -/
def vouchHonestUptoRow : OpenClaim := { program := "ytdoaloimndehbaa", sum := "489bddceb6747e385473192543da5bc34a740758115ee7079c5bf802d92ca104", func := "bottomry/bottomrylaw24.VouchHonest", spec := "vouchHonest", inPlace := ["slices.overlaps[bottomry/api.Vouching]"], unfollowed := true, recurses := true, plainKeys := false, apart := false, narrowed := true }
def VouchHonestUptoSaid : Prop := vouchHonestUptoRow.holds Try.pinned (OpenSpec.upto vouchHonestSpec)

/-- 'bottomrylaw24.VouchPlays', WHERE WHAT IT READS IS OF BULK AT MOST 1048576: true; the input reads as it did. -/
def vouchPlaysUptoRow : OpenClaim := { program := "ytdoaloimndehbaa", sum := "489bddceb6747e385473192543da5bc34a740758115ee7079c5bf802d92ca104", func := "bottomry/bottomrylaw24.VouchPlays", spec := "vouchPlays", inPlace := ["slices.overlaps[bottomry/api.Vouching]"], unfollowed := true, recurses := true, plainKeys := false, apart := false, narrowed := true }
def VouchPlaysUptoSaid : Prop := vouchPlaysUptoRow.holds Try.pinned (OpenSpec.upto vouchPlaysSpec)

end Rows
end Go.Proofs.Ytdoaloimndehbaa
