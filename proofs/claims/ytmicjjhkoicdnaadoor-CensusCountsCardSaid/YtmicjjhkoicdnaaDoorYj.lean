/-
  What the listed tables give the walk. Conditions are typed with each.
-/
import Derived.Test.YtmicjjhkoicdnaaDoorYg
import Derived.Test.YtmicjjhkoicdnaaDoorLf
import Derived.Test.YtmicjjhkoicdnaaDoorCards
import Derived.Test.YtmicjjhkoicdnaaDoorTie
import Derived.ProofKit
import Derived.LaidMore
import Derived.OpenShut
import Derived.Stop.Joined
import Derived.Lib.LaidTab
import Derived.SevenTiedAt
namespace Go.Proofs.YtmicjjhkoicdnaaDoor
open Go.RowKit
open Go.ChangeShapes Go.WideShapes Go.ChangeAt
set_option maxRecDepth 100000
theorem own_knob : ownKnob Tryd.prog.godebug = none := by kernel_rfl
theorem laid_out : laidOutB Tryd.prog = true := by kernel_rfl
theorem door_met (os : Os) (args : Array Value) : laidMetH Tryd.prog Rows.censusNamesRow.laid ((World.doorLaid Tryd.prog 400 os).forCall (fun _ _ => 0) ⟨#[], args, []⟩).memory :=
  laidMetH_of_parts3 (fuel := 8) (laidMet_of_run' 8 (by kernel_rfl) (by kernel_rfl)) (by kernel_rfl) (by kernel_rfl)
theorem gTab : Tryd.prog.globalNamed (Rows.censusNamesRow.named.headD "") = some 0 := by kernel_rfl
theorem tTab : (Tryd.prog.globals[0]?).map (·.type) = some 96 := by kernel_rfl
/-- The table stands, as long as the memory does. -/
theorem tabF_of_laid {W : World} (h : laidMetH Tryd.prog Rows.censusNamesRow.laid W) : TabF (ph W) := by
  rw [MakeChecks.laidMetH_plain _ _ _ (by kernel_rfl)] at h
  obtain ⟨ps, ⟨g0, t0, cs0, f0, p0, q0, _, _, _, _, ⟨g1, t1, cs1, f1, p1, q1, _, _, _, _, ⟨g2, t2, cs2, f2, p2, q2, hg2, ht2, hv2, hd2, _, _⟩, _⟩, _⟩, _, _⟩ := h
  obtain rfl := Option.some.inj (gTab.symm.trans hg2)
  obtain rfl := Option.some.inj (tTab.symm.trans ht2)
  have hcs := Lib.cells_of_tab (k := .u64) (zs := Lib.pow10Tab) Tryd.underlying96 Tryd.underlying82 (by kernel_rfl) (by kernel_rfl) hd2
  intro w hw
  unfold Lib.TabIs
  rw [← hcs]
  have e : cs2.toList.toArray = cs2 := by simp
  rw [e]
  unfold World.var? at hv2 ⊢
  rw [hg2] at hv2
  rw [gTab]
  simp only [Option.bind_some] at hv2 ⊢
  cases ho : W.heap[0]? with
  | none => rw [ho] at hv2; cases hv2
  | some o =>
    rw [ho] at hv2
    have := hw 0 o ho
    rw [show w.heap[0]? = some o from this]
    exact hv2
end Go.Proofs.YtmicjjhkoicdnaaDoor
