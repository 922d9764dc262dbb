/-
  Parts of the run of bottomry/bottomrytop.settled. Plain theorems; no condition.
-/
import Derived.Test.YtjjjckmpkldgnaaGreatDoorPdb
namespace Go.Proofs.YtjjjckmpkldgnaaGreatDoor.Rk.Run
open Go Go.RowKit
set_option maxRecDepth 100000
theorem r28 : look (runS 14301 s27) e56 [e55, e2] h28 62675 = some (K0, true) := by kernel_rfl
theorem r29 : look (runS 14614 s28) e57 [e55, e2] h29 64442 = some (K1, true) := by kernel_rfl
theorem r30 : look (runS 15386 s29) e58 [e59, e2] h30 66684 = some (K0, true) := by kernel_rfl
theorem r31 : look (runS 14130 s30) e60 [e59, e2] h31 68332 = some (K0, true) := by kernel_rfl
end Go.Proofs.YtjjjckmpkldgnaaGreatDoor.Rk.Run
