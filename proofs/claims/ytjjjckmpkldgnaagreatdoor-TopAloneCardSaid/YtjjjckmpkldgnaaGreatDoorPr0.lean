/-
  Parts of the run of bottomry/bottomrytop.settled. Plain theorems; no condition.
-/
import Derived.Test.YtjjjckmpkldgnaaGreatDoorPdb
namespace Go.Proofs.YtjjjckmpkldgnaaGreatDoor.Rk.Run
open Go Go.RowKit
set_option maxRecDepth 100000
theorem r0 : look (runS 14512 (st0 4)) e0 [e1, e2] h0 2388 = some (K0, true) := by kernel_rfl
theorem r1 : look (runS 14441 s0) e3 [e4, e2] h1 4489 = some (K0, true) := by kernel_rfl
theorem r2 : look (runS 14084 s1) e5 [e6, e2] h2 6506 = some (K0, true) := by kernel_rfl
theorem r3 : look (runS 14698 s2) e7 [e8, e2] h3 8573 = some (K1, true) := by kernel_rfl
end Go.Proofs.YtjjjckmpkldgnaaGreatDoor.Rk.Run
