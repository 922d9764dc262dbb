/-
  Parts of the run of bottomry/bottomrytop.settled. Plain theorems; no condition.
-/
import Derived.Test.YtjjjckmpkldgnaaGreatDoorPdb
namespace Go.Proofs.YtjjjckmpkldgnaaGreatDoor.Rk.Run
open Go Go.RowKit
set_option maxRecDepth 100000
theorem r24 : look (runS 17660 s23) e49 [e50, e2] h24 54509 = some (K1, true) := by kernel_rfl
theorem r25 : look (runS 15040 s24) e51 [e52, e2] h25 56781 = some (K0, true) := by kernel_rfl
theorem r26 : look (runS 14188 s25) e53 [e52, e2] h26 58455 = some (K0, true) := by kernel_rfl
theorem r27 : look (runS 14608 s26) e54 [e55, e2] h27 60772 = some (K0, true) := by kernel_rfl
end Go.Proofs.YtjjjckmpkldgnaaGreatDoor.Rk.Run
