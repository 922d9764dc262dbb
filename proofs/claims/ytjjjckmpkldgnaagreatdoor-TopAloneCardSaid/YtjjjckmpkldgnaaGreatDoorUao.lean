/-
  The program's own start: that it ends, what the listed variables read as behind it, where they lie; the row's tie. No condition.
-/
import Derived.Test.YtjjjckmpkldgnaaGreatDoorUan
namespace Go.Proofs.YtjjjckmpkldgnaaGreatDoor
open Go
set_option maxRecDepth 100000
theorem tw7 : ∀ os tape, varsDone Tryz.prog 400 (varsId Tryz.prog) os tape = true := fun _ _ => by kernel_rfl
theorem tw8 : ∀ os tape, (DataW.laidRun Tryz.prog (varsWorld Tryz.prog 400 (varsId Tryz.prog) os tape).memory 8 (laidT.map (·.1))).map (·.1) = some laidT := fun _ _ => by kernel_rfl
theorem tw9 : ∀ os tape, (DataW.laidRun Tryz.prog (varsWorld Tryz.prog 400 (varsId Tryz.prog) os tape).memory 8 (laidT.map (·.1))).map (fun x => decide x.2.Nodup && laidRowsB Tryz.prog (varsWorld Tryz.prog 400 (varsId Tryz.prog) os tape).memory x.2) = some true := fun _ _ => by kernel_rfl
theorem fitsL : Tryz.pinned.checked.prog.listedFits (("unicode/utf8.first", Rows.laid_unicode_utf8_first) :: laidT) = true := by
  unfold Program.listedFits
  rw [noUns]
  kernel_rfl
theorem ownTie : Tryz.prog.laidByTextLater laidT [.data, .sentinel, .sentinel, .data, .data, .data] true :=
  Program.laidByTextLater_by_run 400 8 tw1 tw2 tw3 tw4 tw5 tw6 tw7 tw8 tw9
theorem ownRowTie : Rows.topAloneRow.laidByTextAt .later Tryz.pinned [.pinned, .data, .sentinel, .sentinel, .data, .data, .data] true :=
  OpenClaim.laidByTextAt_pinned rfl rfl ownTie rfl rfl rfl rfl (fun y hy _e => by
    simp only [Rows.topAloneRow, List.zip_cons_cons, List.zip_nil_right, List.mem_cons, List.mem_nil_iff, or_false] at hy
    rcases hy with rfl | rfl | rfl | rfl | rfl | rfl | rfl
    · exact ⟨pinFirst, by kernel_rfl⟩
    · cases _e
    · cases _e
    · cases _e
    · cases _e
    · cases _e
    · cases _e) fitsL
end Go.Proofs.YtjjjckmpkldgnaaGreatDoor
