/-
  Parts of the run of bottomry/bottomrytop.settled. Plain theorems; no condition.
-/
import Derived.Test.YtjjjckmpkldgnaaGreatDoorPdb
namespace Go.Proofs.YtjjjckmpkldgnaaGreatDoor.Rk.Run
open Go Go.RowKit
set_option maxRecDepth 100000
theorem r32 : look (runS 15779 s31) e61 [e59, e2] h32 70728 = some (K1, true) := by kernel_rfl
theorem r33 : look (runS 14529 s32) e62 [e63, e2] h33 72828 = some (K0, true) := by kernel_rfl
theorem r34 : look (runS 16175 s33) e64 [e63, e2] h34 75110 = some (K1, true) := by kernel_rfl
theorem r35 : look (runS 14986 s34) e65 [e66, e2] h35 77451 = some (K0, true) := by kernel_rfl
end Go.Proofs.YtjjjckmpkldgnaaGreatDoor.Rk.Run
