/-
  Parts of the run of bottomry/bottomrytop.settled. Plain theorems; no condition.
-/
import Derived.Test.YtjjjckmpkldgnaaGreatDoorPdb
namespace Go.Proofs.YtjjjckmpkldgnaaGreatDoor.Rk.Run
open Go Go.RowKit
set_option maxRecDepth 100000
theorem r4 : look (runS 15220 s3) e9 [e10, e2] h4 10777 = some (K1, true) := by kernel_rfl
theorem r5 : look (runS 14818 s4) e11 [e12, e2] h5 12963 = some (K0, true) := by kernel_rfl
theorem r6 : look (runS 15282 s5) e13 [e14, e2] h6 15085 = some (K1, true) := by kernel_rfl
theorem r7 : look (runS 15220 s6) e15 [e16, e2] h7 17289 = some (K1, true) := by kernel_rfl
end Go.Proofs.YtjjjckmpkldgnaaGreatDoor.Rk.Run
