/-
  The closed facts of the row, each by itself. No condition.
-/
import Derived.Test.YtjjjckmpkldgnaaGreatDoorCards
import Derived.ProofKit
import Derived.LaidMore
import Derived.Lay
import Derived.OpenShut
import Derived.Stop.Joined
import Derived.Lib.LaidTab
import Derived.SevenTiedAt
namespace Go.Proofs.YtjjjckmpkldgnaaGreatDoor
open Go
set_option maxRecDepth 100000
theorem and_two {a b : Bool} (h : a = true) (k : b = true) : (a && b) = true := by rw [h, k]; rfl
set_option maxHeartbeats 0 in
theorem aloneFacts : joinedFacts Tryz.pinned.checked.prog 3 Tryz.f3 Rows.topAloneSpec Rows.topAloneRow = true := by
  unfold joinedFacts
  repeat' (first | (with_reducible apply and_two) | (as_aux_lemma => kernel_rfl))
end Go.Proofs.YtjjjckmpkldgnaaGreatDoor
