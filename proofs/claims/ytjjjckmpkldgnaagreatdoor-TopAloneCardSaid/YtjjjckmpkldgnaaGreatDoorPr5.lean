/-
  Parts of the run of bottomry/bottomrytop.settled. Plain theorems; no condition.
-/
import Derived.Test.YtjjjckmpkldgnaaGreatDoorPdb
namespace Go.Proofs.YtjjjckmpkldgnaaGreatDoor.Rk.Run
open Go Go.RowKit
set_option maxRecDepth 100000
theorem r20 : look (runS 14818 s19) e41 [e42, e2] h20 45523 = some (K0, true) := by kernel_rfl
theorem r21 : look (runS 15282 s20) e43 [e44, e2] h21 47645 = some (K1, true) := by kernel_rfl
theorem r22 : look (runS 15220 s21) e45 [e46, e2] h22 49849 = some (K1, true) := by kernel_rfl
theorem r23 : look (runS 14818 s22) e47 [e48, e2] h23 52035 = some (K0, true) := by kernel_rfl
end Go.Proofs.YtjjjckmpkldgnaaGreatDoor.Rk.Run
