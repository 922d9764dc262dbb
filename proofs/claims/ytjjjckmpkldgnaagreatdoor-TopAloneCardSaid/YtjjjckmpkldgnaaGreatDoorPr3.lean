/-
  Parts of the run of bottomry/bottomrytop.settled. Plain theorems; no condition.
-/
import Derived.Test.YtjjjckmpkldgnaaGreatDoorPdb
namespace Go.Proofs.YtjjjckmpkldgnaaGreatDoor.Rk.Run
open Go Go.RowKit
set_option maxRecDepth 100000
theorem r12 : look (runS 15282 s11) e25 [e26, e2] h12 28109 = some (K1, true) := by kernel_rfl
theorem r13 : look (runS 15220 s12) e27 [e28, e2] h13 30313 = some (K1, true) := by kernel_rfl
theorem r14 : look (runS 14818 s13) e29 [e30, e2] h14 32499 = some (K0, true) := by kernel_rfl
theorem r15 : look (runS 15282 s14) e31 [e32, e2] h15 34621 = some (K1, true) := by kernel_rfl
end Go.Proofs.YtjjjckmpkldgnaaGreatDoor.Rk.Run
