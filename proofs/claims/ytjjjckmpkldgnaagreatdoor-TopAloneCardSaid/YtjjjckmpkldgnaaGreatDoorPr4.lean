/-
  Parts of the run of bottomry/bottomrytop.settled. Plain theorems; no condition.
-/
import Derived.Test.YtjjjckmpkldgnaaGreatDoorPdb
namespace Go.Proofs.YtjjjckmpkldgnaaGreatDoor.Rk.Run
open Go Go.RowKit
set_option maxRecDepth 100000
theorem r16 : look (runS 15220 s15) e33 [e34, e2] h16 36825 = some (K1, true) := by kernel_rfl
theorem r17 : look (runS 14818 s16) e35 [e36, e2] h17 39011 = some (K0, true) := by kernel_rfl
theorem r18 : look (runS 15282 s17) e37 [e38, e2] h18 41133 = some (K1, true) := by kernel_rfl
theorem r19 : look (runS 15220 s18) e39 [e40, e2] h19 43337 = some (K1, true) := by kernel_rfl
end Go.Proofs.YtjjjckmpkldgnaaGreatDoor.Rk.Run
