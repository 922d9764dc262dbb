/-
  Parts of the run of bottomry/bottomrytop.settled. Plain theorems; no condition.
-/
import Derived.Test.YtjjjckmpkldgnaaGreatDoorPdb
namespace Go.Proofs.YtjjjckmpkldgnaaGreatDoor.Rk.Run
open Go Go.RowKit
set_option maxRecDepth 100000
theorem r8 : look (runS 14818 s7) e17 [e18, e2] h8 19475 = some (K0, true) := by kernel_rfl
theorem r9 : look (runS 15282 s8) e19 [e20, e2] h9 21597 = some (K1, true) := by kernel_rfl
theorem r10 : look (runS 15220 s9) e21 [e22, e2] h10 23801 = some (K1, true) := by kernel_rfl
theorem r11 : look (runS 14818 s10) e23 [e24, e2] h11 25987 = some (K0, true) := by kernel_rfl
end Go.Proofs.YtjjjckmpkldgnaaGreatDoor.Rk.Run
