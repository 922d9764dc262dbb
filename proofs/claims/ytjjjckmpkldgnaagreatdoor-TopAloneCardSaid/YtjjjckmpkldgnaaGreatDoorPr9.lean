/-
  Parts of the run of bottomry/bottomrytop.settled. Plain theorems; no condition.
-/
import Derived.Test.YtjjjckmpkldgnaaGreatDoorPdb
namespace Go.Proofs.YtjjjckmpkldgnaaGreatDoor.Rk.Run
open Go Go.RowKit
set_option maxRecDepth 100000
theorem r36 : look (runS 14006 s35) e67 [e66, e2] h36 79014 = some (K0, true) := by kernel_rfl
theorem r37 : look (runS 15746 s36) e68 [e66, e2] h37 81483 = some (K1, true) := by kernel_rfl
theorem r38 : look (runS 14039 s37) e69 [e70, e2] h38 83265 = some (K0, true) := by kernel_rfl
theorem r39 : look (runS 17581 s38) e71 [e70, e2] h39 85897 = some (K1, true) := by kernel_rfl
end Go.Proofs.YtjjjckmpkldgnaaGreatDoor.Rk.Run
