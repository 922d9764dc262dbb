/-
  The closed facts of the row's card, each by itself. No condition.
-/
import Derived.Test.YtjjjckmpkldgnaaGreatDoorCards
import Derived.ProofKit
import Derived.LaidMore
import Derived.Lay
import Derived.OpenShut
import Derived.Stop.Joined
import Derived.Lib.LaidTab
import Derived.SevenTiedAt
namespace Go.Proofs.YtjjjckmpkldgnaaGreatDoor
open Go
set_option maxRecDepth 100000
theorem goes_none {P : Program} {f : FuncId} (h : P.funcs.any Func.goes = false) : P.goes f = false := by
  unfold Program.goes
  rw [h, Bool.and_false, Bool.or_false]
  have hn : ∀ g : Nat, (P.funcs[g]?).any Func.goes = false := fun g => by
    cases e : P.funcs[g]? with
    | none => rfl
    | some fn =>
      rw [Array.any_eq_false] at h
      obtain ⟨hg, rfl⟩ := Array.getElem?_eq_some_iff.1 e
      have := h g hg
      simpa using this
  simp only [hn]
  exact List.any_eq_false.2 fun _ _ => Bool.false_ne_true
theorem goesBy_none {c : OpenClaim} {P : Program} (hs : c.start = .entering) (h : P.funcs.any Func.goes = false) : false = c.goesBy P := by
  unfold OpenClaim.goesBy Program.goesAt Program.goesFrom
  rw [hs]
  have hg : ∀ g : FuncId, P.goes g = false := fun g => goes_none h
  cases P.funcNamed c.func with
  | none => rfl
  | some f => show false = (P.goes f || false); rw [hg]; rfl
theorem nobodyGoes : Tryz.pinned.checked.prog.funcs.any Func.goes = false := by kernel_rfl
theorem aloneGoes : false = Rows.topAloneRow.goesBy Tryz.pinned.checked.prog := goesBy_none rfl nobodyGoes
theorem aloneText : Rows.topAloneRow.wfByText (OpenSpec.ofChange Rows.topAloneSpec) = true := by kernel_rfl
theorem aloneMain : Tryz.pinned.checked.prog.mainIs = some (Rows.topAloneCard.stood.harness.1, Rows.topAloneCard.stood.harness.2.toList) := by kernel_rfl
theorem aloneLooks : true = Tryz.pinned.checked.prog.looks [] := by kernel_rfl
theorem aloneNoStand : ([22, 23].all fun u => !Tryz.pinned.checked.prog.wantsStandIn u) = true := by kernel_rfl
theorem aloneNamed : Tryz.pinned.checked.prog.funcNamed Rows.topAloneRow.func = some 3 := by kernel_rfl
end Go.Proofs.YtjjjckmpkldgnaaGreatDoor
