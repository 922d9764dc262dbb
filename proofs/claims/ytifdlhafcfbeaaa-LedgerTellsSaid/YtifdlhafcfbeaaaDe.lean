/-
  Whether a ledger may be, by the program and by the document. Conditions are typed with each. (Printed by wip/gen/de.py.)
  Whether a ledger may be, by the document. Conditions are typed with each. (Printed by wip/gen/df.py.)
-/
import Derived.Test.YtifdlhafcfbeaaaDc
import Derived.Test.YtifdlhafcfbeaaaLc
namespace Go.Proofs.Ytifdlhafcfbeaaa
open Go.RowKit
set_option maxRecDepth 100000
def letR (x : LtX) : Bool := nameB x.1 && decide (1 ≤ x.2.1 ∧ x.2.1 ≤ 7 ∧ 1 ≤ x.2.2.1 ∧ x.2.2.1 ≤ 1099511627776 ∧ 0 ≤ x.2.2.2.1 ∧ x.2.2.2.1 ≤ 1099511627776 ∧ x.2.2.2.2.1.length ≤ 200 ∧ x.2.2.2.2.2.1.length ≤ 200)
def ouR (o : OuX) : Bool := decide (0 ≤ o.1 ∧ o.1 ≤ 63 ∧ 1 ≤ o.2.1 ∧ o.2.1 ≤ 1099511627776 ∧ 0 ≤ o.2.2.1 ∧ o.2.2.1 ≤ 99)
/-- Each is right, and greater than the one ahead of it. -/
def risP {α : Type} (less : α → α → Bool) (right : α → Bool) : Option α → List α → Bool
  | _, [] => true
  | none, y :: r => right y && risP less right (some y) r
  | some q, y :: r => less q y && (right y && risP less right (some y) r)
def ltLs (x y : LtX) : Bool := ltY x.1 y.1
def ouLs (x y : OuX) : Bool := decide (x.1 < y.1)
def rightL (l : LgX) : Bool := decide (0 ≤ l.1 ∧ l.1 ≤ 1048576 ∧ 0 ≤ l.2.1 ∧ l.2.1 ≤ 1099511627776 ∧ l.2.2.1.length ≤ 16 ∧ l.2.2.2.1.length ≤ 4) && (risP ltLs letR none l.2.2.1 && risP ouLs ouR none l.2.2.2.1)
/-- Texts that aren't too long to be asked about. -/
def LtOk (x : LtX) : Prop := x.1.length ≤ 1000 ∧ x.2.2.2.2.1.length ≤ 1000 ∧ x.2.2.2.2.2.1.length ≤ 1000
def OuOk (_ : OuX) : Prop := True
theorem within_spec (a lo hi : Int) (F : PH) : Pure Try.prog 50 [.int .i64 a, .int .i64 lo, .int .i64 hi] F (.bool (decide (lo ≤ a ∧ a ≤ hi))) := by
  refine Spec.of3 Try.func50 rfl rfl fun X w0 => ?_
  by_cases h1 : lo ≤ a
  · by_cases h2 : a ≤ hi
    · rw [decide_eq_true (show lo ≤ a ∧ a ≤ hi from ⟨h1, h2⟩)]
      repeat (first|refine zJ rfl rfl ?_|refine jr rfl ?_|refine jn ?_|refine zM rfl rfl ?_|(refine zC rfl rfl ?_ rfl ?_;omega)|(refine zD rfl rfl ?_ rfl ?_;omega)|(refine zP rfl ?_ rfl ?_;omega)|refine zG rfl rfl rfl rfl ?_|(refine jdq rfl rfl ?_ ?_ ?_;kernel_rfl;kernel_rfl)|refine zB rfl rfl rfl (by repeat constructor) rfl ?_|refine zH .here rfl rfl rfl rfl ?_|refine zH (.there .here) rfl rfl rfl rfl ?_|refine zH (.there (.there .here)) rfl rfl rfl rfl ?_)
      exact J_retv rfl (.tmp rfl .nil) [] (fun w s => s) (PH.ler _) ⟨rfl, rfl⟩
    · rw [decide_eq_false (show ¬ (lo ≤ a ∧ a ≤ hi) from fun h => h2 h.2)]
      repeat (first|refine zJ rfl rfl ?_|refine jr rfl ?_|refine jn ?_|refine zM rfl rfl ?_|(refine zC rfl rfl ?_ rfl ?_;omega)|(refine zD rfl rfl ?_ rfl ?_;omega)|(refine zP rfl ?_ rfl ?_;omega)|refine zG rfl rfl rfl rfl ?_|(refine jdq rfl rfl ?_ ?_ ?_;kernel_rfl;kernel_rfl)|refine zB rfl rfl rfl (by repeat constructor) rfl ?_|refine zH .here rfl rfl rfl rfl ?_|refine zH (.there .here) rfl rfl rfl rfl ?_|refine zH (.there (.there .here)) rfl rfl rfl rfl ?_)
      exact J_retv rfl (.tmp rfl .nil) [] (fun w s => s) (PH.ler _) ⟨rfl, rfl⟩
  · rw [decide_eq_false (show ¬ (lo ≤ a ∧ a ≤ hi) from fun h => h1 h.1)]
    repeat (first|refine zJ rfl rfl ?_|refine jr rfl ?_|refine jn ?_|refine zM rfl rfl ?_|(refine zC rfl rfl ?_ rfl ?_;omega)|(refine zD rfl rfl ?_ rfl ?_;omega)|(refine zP rfl ?_ rfl ?_;omega)|refine zG rfl rfl rfl rfl ?_|(refine jdq rfl rfl ?_ ?_ ?_;kernel_rfl;kernel_rfl)|refine zB rfl rfl rfl (by repeat constructor) rfl ?_|refine zH .here rfl rfl rfl rfl ?_|refine zH (.there .here) rfl rfl rfl rfl ?_|refine zH (.there (.there .here)) rfl rfl rfl rfl ?_)
    exact J_retv rfl (.tmp rfl .nil) [] (fun w s => s) (PH.ler _) ⟨rfl, rfl⟩
theorem within_is {a lo hi : Int} {t : Bool} (h : decide (lo ≤ a ∧ a ≤ hi) = t) (F : PH) : Pure Try.prog 50 [.int .i64 a, .int .i64 lo, .int .i64 hi] F (.bool t) := h ▸ within_spec a lo hi F
theorem mis_spec (a : Int) (hk : InK .i64 a) (F : PH) : Pure Try.prog 51 [.int .i64 a] F (.bool (decide (0 ≤ a ∧ a ≤ 1099511627776))) := by
  refine Spec.of1 Try.func51 rfl rfl fun X w0 => ?_
  dsimp only [InK] at hk
  have hu : (uN a : Int) = a % 18446744073709551616 := by unfold uN; omega
  by_cases h1 : 0 ≤ a ∧ a ≤ 1099511627776
  · rw [decide_eq_true h1]
    repeat (first|refine zJ rfl rfl ?_|refine jr rfl ?_|refine jn ?_|refine zM rfl rfl ?_|(refine zC rfl rfl ?_ rfl ?_;omega)|(refine zD rfl rfl ?_ rfl ?_;omega)|(refine zP rfl ?_ rfl ?_;omega)|refine zG rfl rfl rfl rfl ?_|(refine jdq rfl rfl ?_ ?_ ?_;kernel_rfl;kernel_rfl)|refine zB rfl rfl rfl (by repeat constructor) rfl ?_|refine zH .here rfl rfl rfl rfl ?_|refine zH (.there .here) rfl rfl rfl rfl ?_|refine zH (.there (.there .here)) rfl rfl rfl rfl ?_)
    try (refine oS (ev_conv rfl rfl rfl (uN_wrap _)) rfl ?_)
    repeat (first|refine zJ rfl rfl ?_|refine jr rfl ?_|refine jn ?_|refine zM rfl rfl ?_|(refine zC rfl rfl ?_ rfl ?_;omega)|(refine zD rfl rfl ?_ rfl ?_;omega)|(refine zP rfl ?_ rfl ?_;omega)|refine zG rfl rfl rfl rfl ?_|(refine jdq rfl rfl ?_ ?_ ?_;kernel_rfl;kernel_rfl)|refine zB rfl rfl rfl (by repeat constructor) rfl ?_|refine zH .here rfl rfl rfl rfl ?_|refine zH (.there .here) rfl rfl rfl rfl ?_|refine zH (.there (.there .here)) rfl rfl rfl rfl ?_)
    exact J_retv rfl (.tmp rfl .nil) [] (fun w s => s) (PH.ler _) ⟨rfl, rfl⟩
  · rw [decide_eq_false h1]
    repeat (first|refine zJ rfl rfl ?_|refine jr rfl ?_|refine jn ?_|refine zM rfl rfl ?_|(refine zC rfl rfl ?_ rfl ?_;omega)|(refine zD rfl rfl ?_ rfl ?_;omega)|(refine zP rfl ?_ rfl ?_;omega)|refine zG rfl rfl rfl rfl ?_|(refine jdq rfl rfl ?_ ?_ ?_;kernel_rfl;kernel_rfl)|refine zB rfl rfl rfl (by repeat constructor) rfl ?_|refine zH .here rfl rfl rfl rfl ?_|refine zH (.there .here) rfl rfl rfl rfl ?_|refine zH (.there (.there .here)) rfl rfl rfl rfl ?_)
    try (refine oS (ev_conv rfl rfl rfl (uN_wrap _)) rfl ?_)
    repeat (first|refine zJ rfl rfl ?_|refine jr rfl ?_|refine jn ?_|refine zM rfl rfl ?_|(refine zC rfl rfl ?_ rfl ?_;omega)|(refine zD rfl rfl ?_ rfl ?_;omega)|(refine zP rfl ?_ rfl ?_;omega)|refine zG rfl rfl rfl rfl ?_|(refine jdq rfl rfl ?_ ?_ ?_;kernel_rfl;kernel_rfl)|refine zB rfl rfl rfl (by repeat constructor) rfl ?_|refine zH .here rfl rfl rfl rfl ?_|refine zH (.there .here) rfl rfl rfl rfl ?_|refine zH (.there (.there .here)) rfl rfl rfl rfl ?_)
    exact J_retv rfl (.tmp rfl .nil) [] (fun w s => s) (PH.ler _) ⟨rfl, rfl⟩
theorem ris_spec (a : Int) (F : PH) : Pure Try.prog 56 [.int .i64 a] F (.bool (decide (0 ≤ a ∧ a ≤ 1099511627776))) := by
  refine Spec.of1 Try.func56 rfl rfl fun X w0 => ?_
  by_cases h1 : 0 ≤ a
  · by_cases h2 : a ≤ 1099511627776
    · rw [decide_eq_true (show 0 ≤ a ∧ a ≤ 1099511627776 from ⟨h1, h2⟩)]
      repeat (first|refine zJ rfl rfl ?_|refine jr rfl ?_|refine jn ?_|refine zM rfl rfl ?_|(refine zC rfl rfl ?_ rfl ?_;omega)|(refine zD rfl rfl ?_ rfl ?_;omega)|(refine zP rfl ?_ rfl ?_;omega)|refine zG rfl rfl rfl rfl ?_|(refine jdq rfl rfl ?_ ?_ ?_;kernel_rfl;kernel_rfl)|refine zB rfl rfl rfl (by repeat constructor) rfl ?_|refine zH .here rfl rfl rfl rfl ?_|refine zH (.there .here) rfl rfl rfl rfl ?_|refine zH (.there (.there .here)) rfl rfl rfl rfl ?_)
      exact J_retv rfl (.tmp rfl .nil) [] (fun w s => s) (PH.ler _) ⟨rfl, rfl⟩
    · rw [decide_eq_false (show ¬ (0 ≤ a ∧ a ≤ 1099511627776) from fun h => h2 h.2)]
      repeat (first|refine zJ rfl rfl ?_|refine jr rfl ?_|refine jn ?_|refine zM rfl rfl ?_|(refine zC rfl rfl ?_ rfl ?_;omega)|(refine zD rfl rfl ?_ rfl ?_;omega)|(refine zP rfl ?_ rfl ?_;omega)|refine zG rfl rfl rfl rfl ?_|(refine jdq rfl rfl ?_ ?_ ?_;kernel_rfl;kernel_rfl)|refine zB rfl rfl rfl (by repeat constructor) rfl ?_|refine zH .here rfl rfl rfl rfl ?_|refine zH (.there .here) rfl rfl rfl rfl ?_|refine zH (.there (.there .here)) rfl rfl rfl rfl ?_)
      exact J_retv rfl (.tmp rfl .nil) [] (fun w s => s) (PH.ler _) ⟨rfl, rfl⟩
  · rw [decide_eq_false (show ¬ (0 ≤ a ∧ a ≤ 1099511627776) from fun h => h1 h.1)]
    repeat (first|refine zJ rfl rfl ?_|refine jr rfl ?_|refine jn ?_|refine zM rfl rfl ?_|(refine zC rfl rfl ?_ rfl ?_;omega)|(refine zD rfl rfl ?_ rfl ?_;omega)|(refine zP rfl ?_ rfl ?_;omega)|refine zG rfl rfl rfl rfl ?_|(refine jdq rfl rfl ?_ ?_ ?_;kernel_rfl;kernel_rfl)|refine zB rfl rfl rfl (by repeat constructor) rfl ?_|refine zH .here rfl rfl rfl rfl ?_|refine zH (.there .here) rfl rfl rfl rfl ?_|refine zH (.there (.there .here)) rfl rfl rfl rfl ?_)
    exact J_retv rfl (.tmp rfl .nil) [] (fun w s => s) (PH.ler _) ⟨rfl, rfl⟩
theorem day_spec (a : Int) (F : PH) : Pure Try.prog 82 [.int .i64 a] F (.bool (decide (0 ≤ a ∧ a ≤ 1099511627776))) := by
  refine Spec.of1 Try.func82 rfl rfl fun X w0 => ?_
  by_cases h1 : 0 ≤ a
  · by_cases h2 : a ≤ 1099511627776
    · rw [decide_eq_true (show 0 ≤ a ∧ a ≤ 1099511627776 from ⟨h1, h2⟩)]
      repeat (first|refine zJ rfl rfl ?_|refine jr rfl ?_|refine jn ?_|refine zM rfl rfl ?_|(refine zC rfl rfl ?_ rfl ?_;omega)|(refine zD rfl rfl ?_ rfl ?_;omega)|(refine zP rfl ?_ rfl ?_;omega)|refine zG rfl rfl rfl rfl ?_|(refine jdq rfl rfl ?_ ?_ ?_;kernel_rfl;kernel_rfl)|refine zB rfl rfl rfl (by repeat constructor) rfl ?_|refine zH .here rfl rfl rfl rfl ?_|refine zH (.there .here) rfl rfl rfl rfl ?_|refine zH (.there (.there .here)) rfl rfl rfl rfl ?_)
      exact J_retv rfl (.tmp rfl .nil) [] (fun w s => s) (PH.ler _) ⟨rfl, rfl⟩
    · rw [decide_eq_false (show ¬ (0 ≤ a ∧ a ≤ 1099511627776) from fun h => h2 h.2)]
      repeat (first|refine zJ rfl rfl ?_|refine jr rfl ?_|refine jn ?_|refine zM rfl rfl ?_|(refine zC rfl rfl ?_ rfl ?_;omega)|(refine zD rfl rfl ?_ rfl ?_;omega)|(refine zP rfl ?_ rfl ?_;omega)|refine zG rfl rfl rfl rfl ?_|(refine jdq rfl rfl ?_ ?_ ?_;kernel_rfl;kernel_rfl)|refine zB rfl rfl rfl (by repeat constructor) rfl ?_|refine zH .here rfl rfl rfl rfl ?_|refine zH (.there .here) rfl rfl rfl rfl ?_|refine zH (.there (.there .here)) rfl rfl rfl rfl ?_)
      exact J_retv rfl (.tmp rfl .nil) [] (fun w s => s) (PH.ler _) ⟨rfl, rfl⟩
  · rw [decide_eq_false (show ¬ (0 ≤ a ∧ a ≤ 1099511627776) from fun h => h1 h.1)]
    repeat (first|refine zJ rfl rfl ?_|refine jr rfl ?_|refine jn ?_|refine zM rfl rfl ?_|(refine zC rfl rfl ?_ rfl ?_;omega)|(refine zD rfl rfl ?_ rfl ?_;omega)|(refine zP rfl ?_ rfl ?_;omega)|refine zG rfl rfl rfl rfl ?_|(refine jdq rfl rfl ?_ ?_ ?_;kernel_rfl;kernel_rfl)|refine zB rfl rfl rfl (by repeat constructor) rfl ?_|refine zH .here rfl rfl rfl rfl ?_|refine zH (.there .here) rfl rfl rfl rfl ?_|refine zH (.there (.there .here)) rfl rfl rfl rfl ?_)
    exact J_retv rfl (.tmp rfl .nil) [] (fun w s => s) (PH.ler _) ⟨rfl, rfl⟩
theorem letR_f {x : LtX} {t : Bool} (ht : t = letR x) (h : ¬ (1 ≤ x.2.1 ∧ x.2.1 ≤ 7 ∧ 1 ≤ x.2.2.1 ∧ x.2.2.1 ≤ 1099511627776 ∧ 0 ≤ x.2.2.2.1 ∧ x.2.2.2.1 ≤ 1099511627776 ∧ x.2.2.2.2.1.length ≤ 200 ∧ x.2.2.2.2.2.1.length ≤ 200)) : t = false := by
  rw [ht]; unfold letR; rw [decide_eq_false h, Bool.and_false]
set_option maxHeartbeats 4000000 in
theorem letterRight_spec (x : LtX) (hx : LtOk x) (F : PH) : Pure Try.prog 53 [.agg (ltC x).toArray] F (.bool (letR x)) := by
  obtain ⟨t, ht⟩ : ∃ t, t = letR x := ⟨_, rfl⟩
  rw [← ht]
  have hlf := letR_f ht
  have hl1 := hx.1
  have sn := isName_spec x.1 (by omega) F
  obtain ⟨nm, st, am, du, po, pa, _⟩ := x
  have hz1 := strOf_size po
  have hz2 := strOf_size pa
  dsimp only at hl1 sn hlf
  refine Spec.of1 Try.func53 rfl rfl fun X w0 => ?_
  unfold ltC
  dsimp only
  refine jc rfl rfl ?_
  refine jr rfl ?_
  refine oE (ev_box rfl .agg) rfl ?_; rintro _ _ _ _ ⟨rfl, b1, rfl, rfl⟩
  repeat (first|refine zJ rfl rfl ?_|refine jr rfl ?_|refine jn ?_|refine zM rfl rfl ?_|(refine zC rfl rfl ?_ rfl ?_;omega)|(refine zD rfl rfl ?_ rfl ?_;omega)|(refine zP rfl ?_ rfl ?_;omega)|refine zG rfl rfl rfl rfl ?_|(refine jdq rfl rfl ?_ ?_ ?_;kernel_rfl;kernel_rfl)|refine zB rfl rfl rfl (by repeat constructor) rfl ?_|refine zH .here rfl rfl rfl rfl ?_|refine zH (.there .here) rfl rfl rfl rfl ?_|refine zH (.there (.there .here)) rfl rfl rfl rfl ?_)
  cases hb : nameB nm with
  | false =>
    rw [hb] at sn
    obtain rfl : t = false := by rw [ht]; unfold letR; dsimp only; rw [hb]; rfl
    refine oP (sn) Try.call21 rfl rfl ?_
    repeat (first|refine zJ rfl rfl ?_|refine jr rfl ?_|refine jn ?_|refine zM rfl rfl ?_|(refine zC rfl rfl ?_ rfl ?_;omega)|(refine zD rfl rfl ?_ rfl ?_;omega)|(refine zP rfl ?_ rfl ?_;omega)|refine zG rfl rfl rfl rfl ?_|(refine jdq rfl rfl ?_ ?_ ?_;kernel_rfl;kernel_rfl)|refine zB rfl rfl rfl (by repeat constructor) rfl ?_|refine zH .here rfl rfl rfl rfl ?_|refine zH (.there .here) rfl rfl rfl rfl ?_|refine zH (.there (.there .here)) rfl rfl rfl rfl ?_)
    exact J_retv rfl (.tmp rfl .nil) [] (fun w s => s.drop) (PH.ler _) ⟨rfl, rfl⟩
  | true =>
  rw [hb] at sn
  refine oP (sn) Try.call21 rfl rfl ?_
  repeat (first|refine zJ rfl rfl ?_|refine jr rfl ?_|refine jn ?_|refine zM rfl rfl ?_|(refine zC rfl rfl ?_ rfl ?_;omega)|(refine zD rfl rfl ?_ rfl ?_;omega)|(refine zP rfl ?_ rfl ?_;omega)|refine zG rfl rfl rfl rfl ?_|(refine jdq rfl rfl ?_ ?_ ?_;kernel_rfl;kernel_rfl)|refine zB rfl rfl rfl (by repeat constructor) rfl ?_|refine zH .here rfl rfl rfl rfl ?_|refine zH (.there .here) rfl rfl rfl rfl ?_|refine zH (.there (.there .here)) rfl rfl rfl rfl ?_)
  by_cases h1 : 1 ≤ st ∧ st ≤ 7
  rotate_left
  · obtain rfl := hlf (by omega)
    refine oP (within_is (decide_eq_false h1) F) Try.call50 rfl rfl ?_
    repeat (first|refine zJ rfl rfl ?_|refine jr rfl ?_|refine jn ?_|refine zM rfl rfl ?_|(refine zC rfl rfl ?_ rfl ?_;omega)|(refine zD rfl rfl ?_ rfl ?_;omega)|(refine zP rfl ?_ rfl ?_;omega)|refine zG rfl rfl rfl rfl ?_|(refine jdq rfl rfl ?_ ?_ ?_;kernel_rfl;kernel_rfl)|refine zB rfl rfl rfl (by repeat constructor) rfl ?_|refine zH .here rfl rfl rfl rfl ?_|refine zH (.there .here) rfl rfl rfl rfl ?_|refine zH (.there (.there .here)) rfl rfl rfl rfl ?_)
    exact J_retv rfl (.tmp rfl .nil) [] (fun w s => s.drop) (PH.ler _) ⟨rfl, rfl⟩
  refine oP (within_is (decide_eq_true h1) F) Try.call50 rfl rfl ?_
  repeat (first|refine zJ rfl rfl ?_|refine jr rfl ?_|refine jn ?_|refine zM rfl rfl ?_|(refine zC rfl rfl ?_ rfl ?_;omega)|(refine zD rfl rfl ?_ rfl ?_;omega)|(refine zP rfl ?_ rfl ?_;omega)|refine zG rfl rfl rfl rfl ?_|(refine jdq rfl rfl ?_ ?_ ?_;kernel_rfl;kernel_rfl)|refine zB rfl rfl rfl (by repeat constructor) rfl ?_|refine zH .here rfl rfl rfl rfl ?_|refine zH (.there .here) rfl rfl rfl rfl ?_|refine zH (.there (.there .here)) rfl rfl rfl rfl ?_)
  by_cases h2 : 1 ≤ am ∧ am ≤ 1099511627776
  rotate_left
  · obtain rfl := hlf (by omega)
    refine oP (within_is (decide_eq_false h2) F) Try.call50 rfl rfl ?_
    repeat (first|refine zJ rfl rfl ?_|refine jr rfl ?_|refine jn ?_|refine zM rfl rfl ?_|(refine zC rfl rfl ?_ rfl ?_;omega)|(refine zD rfl rfl ?_ rfl ?_;omega)|(refine zP rfl ?_ rfl ?_;omega)|refine zG rfl rfl rfl rfl ?_|(refine jdq rfl rfl ?_ ?_ ?_;kernel_rfl;kernel_rfl)|refine zB rfl rfl rfl (by repeat constructor) rfl ?_|refine zH .here rfl rfl rfl rfl ?_|refine zH (.there .here) rfl rfl rfl rfl ?_|refine zH (.there (.there .here)) rfl rfl rfl rfl ?_)
    exact J_retv rfl (.tmp rfl .nil) [] (fun w s => s.drop) (PH.ler _) ⟨rfl, rfl⟩
  refine oP (within_is (decide_eq_true h2) F) Try.call50 rfl rfl ?_
  repeat (first|refine zJ rfl rfl ?_|refine jr rfl ?_|refine jn ?_|refine zM rfl rfl ?_|(refine zC rfl rfl ?_ rfl ?_;omega)|(refine zD rfl rfl ?_ rfl ?_;omega)|(refine zP rfl ?_ rfl ?_;omega)|refine zG rfl rfl rfl rfl ?_|(refine jdq rfl rfl ?_ ?_ ?_;kernel_rfl;kernel_rfl)|refine zB rfl rfl rfl (by repeat constructor) rfl ?_|refine zH .here rfl rfl rfl rfl ?_|refine zH (.there .here) rfl rfl rfl rfl ?_|refine zH (.there (.there .here)) rfl rfl rfl rfl ?_)
  by_cases h3 : 0 ≤ du ∧ du ≤ 1099511627776
  rotate_left
  · obtain rfl := hlf (by omega)
    refine oP (within_is (decide_eq_false h3) F) Try.call50 rfl rfl ?_
    repeat (first|refine zJ rfl rfl ?_|refine jr rfl ?_|refine jn ?_|refine zM rfl rfl ?_|(refine zC rfl rfl ?_ rfl ?_;omega)|(refine zD rfl rfl ?_ rfl ?_;omega)|(refine zP rfl ?_ rfl ?_;omega)|refine zG rfl rfl rfl rfl ?_|(refine jdq rfl rfl ?_ ?_ ?_;kernel_rfl;kernel_rfl)|refine zB rfl rfl rfl (by repeat constructor) rfl ?_|refine zH .here rfl rfl rfl rfl ?_|refine zH (.there .here) rfl rfl rfl rfl ?_|refine zH (.there (.there .here)) rfl rfl rfl rfl ?_)
    exact J_retv rfl (.tmp rfl .nil) [] (fun w s => s.drop) (PH.ler _) ⟨rfl, rfl⟩
  refine oP (within_is (decide_eq_true h3) F) Try.call50 rfl rfl ?_
  by_cases h4 : po.length ≤ 200
  rotate_left
  · obtain rfl := hlf (by omega)
    repeat (first|refine zJ rfl rfl ?_|refine jr rfl ?_|refine jn ?_|refine zM rfl rfl ?_|(refine zC rfl rfl ?_ rfl ?_;omega)|(refine zD rfl rfl ?_ rfl ?_;omega)|(refine zP rfl ?_ rfl ?_;omega)|refine zG rfl rfl rfl rfl ?_|(refine jdq rfl rfl ?_ ?_ ?_;kernel_rfl;kernel_rfl)|refine zB rfl rfl rfl (by repeat constructor) rfl ?_|refine zH .here rfl rfl rfl rfl ?_|refine zH (.there .here) rfl rfl rfl rfl ?_|refine zH (.there (.there .here)) rfl rfl rfl rfl ?_)
    exact J_retv rfl (.tmp rfl .nil) [] (fun w s => s.drop) (PH.ler _) ⟨rfl, rfl⟩
  by_cases h5 : pa.length ≤ 200
  rotate_left
  · obtain rfl := hlf (by omega)
    repeat (first|refine zJ rfl rfl ?_|refine jr rfl ?_|refine jn ?_|refine zM rfl rfl ?_|(refine zC rfl rfl ?_ rfl ?_;omega)|(refine zD rfl rfl ?_ rfl ?_;omega)|(refine zP rfl ?_ rfl ?_;omega)|refine zG rfl rfl rfl rfl ?_|(refine jdq rfl rfl ?_ ?_ ?_;kernel_rfl;kernel_rfl)|refine zB rfl rfl rfl (by repeat constructor) rfl ?_|refine zH .here rfl rfl rfl rfl ?_|refine zH (.there .here) rfl rfl rfl rfl ?_|refine zH (.there (.there .here)) rfl rfl rfl rfl ?_)
    exact J_retv rfl (.tmp rfl .nil) [] (fun w s => s.drop) (PH.ler _) ⟨rfl, rfl⟩
  obtain rfl : t = true := by rw [ht]; unfold letR; dsimp only; rw [hb, decide_eq_true (by omega)]; rfl
  repeat (first|refine zJ rfl rfl ?_|refine jr rfl ?_|refine jn ?_|refine zM rfl rfl ?_|(refine zC rfl rfl ?_ rfl ?_;omega)|(refine zD rfl rfl ?_ rfl ?_;omega)|(refine zP rfl ?_ rfl ?_;omega)|refine zG rfl rfl rfl rfl ?_|(refine jdq rfl rfl ?_ ?_ ?_;kernel_rfl;kernel_rfl)|refine zB rfl rfl rfl (by repeat constructor) rfl ?_|refine zH .here rfl rfl rfl rfl ?_|refine zH (.there .here) rfl rfl rfl rfl ?_|refine zH (.there (.there .here)) rfl rfl rfl rfl ?_)
  exact J_retv rfl (.tmp rfl .nil) [] (fun w s => s.drop) (PH.ler _) ⟨rfl, rfl⟩
set_option maxHeartbeats 4000000 in
theorem outcomeRight_spec (x : OuX) (_ : OuOk x) (F : PH) : Pure Try.prog 55 [.agg (ouC x).toArray] F (.bool (ouR x)) := by
  obtain ⟨t, ht⟩ : ∃ t, t = ouR x := ⟨_, rfl⟩
  rw [← ht]
  unfold ouR at ht
  obtain ⟨c, st, r, _⟩ := x
  dsimp only at ht
  refine Spec.of1 Try.func55 rfl rfl fun X w0 => ?_
  unfold ouC
  dsimp only
  refine jc rfl rfl ?_
  refine jr rfl ?_
  refine oE (ev_box rfl .agg) rfl ?_; rintro _ _ _ _ ⟨rfl, b1, rfl, rfl⟩
  repeat (first|refine zJ rfl rfl ?_|refine jr rfl ?_|refine jn ?_|refine zM rfl rfl ?_|(refine zC rfl rfl ?_ rfl ?_;omega)|(refine zD rfl rfl ?_ rfl ?_;omega)|(refine zP rfl ?_ rfl ?_;omega)|refine zG rfl rfl rfl rfl ?_|(refine jdq rfl rfl ?_ ?_ ?_;kernel_rfl;kernel_rfl)|refine zB rfl rfl rfl (by repeat constructor) rfl ?_|refine zH .here rfl rfl rfl rfl ?_|refine zH (.there .here) rfl rfl rfl rfl ?_|refine zH (.there (.there .here)) rfl rfl rfl rfl ?_)
  by_cases h1 : 0 ≤ c ∧ c ≤ 63
  rotate_left
  · obtain rfl : t = false := by rw [ht, decide_eq_false (by omega)]
    refine oP (within_is (decide_eq_false h1) F) Try.call50 rfl rfl ?_
    repeat (first|refine zJ rfl rfl ?_|refine jr rfl ?_|refine jn ?_|refine zM rfl rfl ?_|(refine zC rfl rfl ?_ rfl ?_;omega)|(refine zD rfl rfl ?_ rfl ?_;omega)|(refine zP rfl ?_ rfl ?_;omega)|refine zG rfl rfl rfl rfl ?_|(refine jdq rfl rfl ?_ ?_ ?_;kernel_rfl;kernel_rfl)|refine zB rfl rfl rfl (by repeat constructor) rfl ?_|refine zH .here rfl rfl rfl rfl ?_|refine zH (.there .here) rfl rfl rfl rfl ?_|refine zH (.there (.there .here)) rfl rfl rfl rfl ?_)
    exact J_retv rfl (.tmp rfl .nil) [] (fun w s => s.drop) (PH.ler _) ⟨rfl, rfl⟩
  refine oP (within_is (decide_eq_true h1) F) Try.call50 rfl rfl ?_
  repeat (first|refine zJ rfl rfl ?_|refine jr rfl ?_|refine jn ?_|refine zM rfl rfl ?_|(refine zC rfl rfl ?_ rfl ?_;omega)|(refine zD rfl rfl ?_ rfl ?_;omega)|(refine zP rfl ?_ rfl ?_;omega)|refine zG rfl rfl rfl rfl ?_|(refine jdq rfl rfl ?_ ?_ ?_;kernel_rfl;kernel_rfl)|refine zB rfl rfl rfl (by repeat constructor) rfl ?_|refine zH .here rfl rfl rfl rfl ?_|refine zH (.there .here) rfl rfl rfl rfl ?_|refine zH (.there (.there .here)) rfl rfl rfl rfl ?_)
  by_cases h2 : 1 ≤ st ∧ st ≤ 1099511627776
  rotate_left
  · obtain rfl : t = false := by rw [ht, decide_eq_false (by omega)]
    refine oP (within_is (decide_eq_false h2) F) Try.call50 rfl rfl ?_
    repeat (first|refine zJ rfl rfl ?_|refine jr rfl ?_|refine jn ?_|refine zM rfl rfl ?_|(refine zC rfl rfl ?_ rfl ?_;omega)|(refine zD rfl rfl ?_ rfl ?_;omega)|(refine zP rfl ?_ rfl ?_;omega)|refine zG rfl rfl rfl rfl ?_|(refine jdq rfl rfl ?_ ?_ ?_;kernel_rfl;kernel_rfl)|refine zB rfl rfl rfl (by repeat constructor) rfl ?_|refine zH .here rfl rfl rfl rfl ?_|refine zH (.there .here) rfl rfl rfl rfl ?_|refine zH (.there (.there .here)) rfl rfl rfl rfl ?_)
    exact J_retv rfl (.tmp rfl .nil) [] (fun w s => s.drop) (PH.ler _) ⟨rfl, rfl⟩
  refine oP (within_is (decide_eq_true h2) F) Try.call50 rfl rfl ?_
  repeat (first|refine zJ rfl rfl ?_|refine jr rfl ?_|refine jn ?_|refine zM rfl rfl ?_|(refine zC rfl rfl ?_ rfl ?_;omega)|(refine zD rfl rfl ?_ rfl ?_;omega)|(refine zP rfl ?_ rfl ?_;omega)|refine zG rfl rfl rfl rfl ?_|(refine jdq rfl rfl ?_ ?_ ?_;kernel_rfl;kernel_rfl)|refine zB rfl rfl rfl (by repeat constructor) rfl ?_|refine zH .here rfl rfl rfl rfl ?_|refine zH (.there .here) rfl rfl rfl rfl ?_|refine zH (.there (.there .here)) rfl rfl rfl rfl ?_)
  by_cases h3 : 0 ≤ r ∧ r ≤ 99
  rotate_left
  · obtain rfl : t = false := by rw [ht, decide_eq_false (by omega)]
    refine oP (within_is (decide_eq_false h3) F) Try.call50 rfl rfl ?_
    repeat (first|refine zJ rfl rfl ?_|refine jr rfl ?_|refine jn ?_|refine zM rfl rfl ?_|(refine zC rfl rfl ?_ rfl ?_;omega)|(refine zD rfl rfl ?_ rfl ?_;omega)|(refine zP rfl ?_ rfl ?_;omega)|refine zG rfl rfl rfl rfl ?_|(refine jdq rfl rfl ?_ ?_ ?_;kernel_rfl;kernel_rfl)|refine zB rfl rfl rfl (by repeat constructor) rfl ?_|refine zH .here rfl rfl rfl rfl ?_|refine zH (.there .here) rfl rfl rfl rfl ?_|refine zH (.there (.there .here)) rfl rfl rfl rfl ?_)
    exact J_retv rfl (.tmp rfl .nil) [] (fun w s => s.drop) (PH.ler _) ⟨rfl, rfl⟩
  refine oP (within_is (decide_eq_true h3) F) Try.call50 rfl rfl ?_
  repeat (first|refine zJ rfl rfl ?_|refine jr rfl ?_|refine jn ?_|refine zM rfl rfl ?_|(refine zC rfl rfl ?_ rfl ?_;omega)|(refine zD rfl rfl ?_ rfl ?_;omega)|(refine zP rfl ?_ rfl ?_;omega)|refine zG rfl rfl rfl rfl ?_|(refine jdq rfl rfl ?_ ?_ ?_;kernel_rfl;kernel_rfl)|refine zB rfl rfl rfl (by repeat constructor) rfl ?_|refine zH .here rfl rfl rfl rfl ?_|refine zH (.there .here) rfl rfl rfl rfl ?_|refine zH (.there (.there .here)) rfl rfl rfl rfl ?_)
  obtain rfl : t = true := by rw [ht, decide_eq_true (by omega)]
  exact J_retv rfl (.tmp rfl .nil) [] (fun w s => s.drop) (PH.ler _) ⟨rfl, rfl⟩
def prevP {α : Type} (L : List α) : Nat → Option α
  | 0 => none
  | i + 1 => L[i]?

/-! ### Letter -/
theorem lt_less_spec (x y : LtX) (F : PH) : Pure Try.prog 48 [.agg (ltC x).toArray, .agg (ltC y).toArray] F (.bool (ltLs x y)) := by
  refine Spec.of2 Try.func48 rfl rfl fun X w0 => ?_
  refine jc rfl rfl ?_
  refine jr rfl ?_
  refine oE (ev_box rfl .agg) rfl ?_; rintro _ _ _ _ ⟨rfl, b2, rfl, rfl⟩
  refine oE (ev_box rfl .agg) rfl ?_; rintro _ _ _ _ ⟨rfl, b3, rfl, rfl⟩
  repeat (first|refine zJ rfl rfl ?_|refine jr rfl ?_|refine jn ?_|refine zM rfl rfl ?_|(refine zC rfl rfl ?_ rfl ?_;omega)|(refine zD rfl rfl ?_ rfl ?_;omega)|(refine zP rfl ?_ rfl ?_;omega)|refine zG rfl rfl rfl rfl ?_|(refine jdq rfl rfl ?_ ?_ ?_;kernel_rfl;kernel_rfl)|refine zB rfl rfl rfl (by repeat constructor) rfl ?_|refine zH .here rfl rfl rfl rfl ?_|refine zH (.there .here) rfl rfl rfl rfl ?_|refine zH (.there (.there .here)) rfl rfl rfl rfl ?_)
  refine oS (v := .bool (ltLs x y)) (ev_slss rfl rfl) rfl ?_
  repeat (first|refine zJ rfl rfl ?_|refine jr rfl ?_|refine jn ?_|refine zM rfl rfl ?_|(refine zC rfl rfl ?_ rfl ?_;omega)|(refine zD rfl rfl ?_ rfl ?_;omega)|(refine zP rfl ?_ rfl ?_;omega)|refine zG rfl rfl rfl rfl ?_|(refine jdq rfl rfl ?_ ?_ ?_;kernel_rfl;kernel_rfl)|refine zB rfl rfl rfl (by repeat constructor) rfl ?_|refine zH .here rfl rfl rfl rfl ?_|refine zH (.there .here) rfl rfl rfl rfl ?_|refine zH (.there (.there .here)) rfl rfl rfl rfl ?_)
  exact J_retv (vs := [.bool (ltLs x y)]) rfl (.tmp rfl .nil) [] (fun w s => s.drop.drop) (PH.ler _) ⟨rfl, rfl⟩
set_option maxHeartbeats 4000000 in
theorem lt_rises_spec (a : Option Addr) (c : Nat) (L : List LtX) (F : PH) (hr : ltRow F (.slice a L.length c) L) (hn : L.length ≤ 1000) (hok : ∀ x ∈ L, LtOk x) : Pure Try.prog 52 [.slice a L.length c, fnV 48 [], fnV 53 []] F (.bool (risP ltLs letR none L)) := by
  obtain ⟨t, ht⟩ : ∃ t, t = risP ltLs letR none L := ⟨_, rfl⟩
  rw [← ht]
  refine Spec.of3 Try.func52 rfl rfl fun X w0 => ?_
  repeat (first|refine zJ rfl rfl ?_|refine jr rfl ?_|refine jn ?_|refine zM rfl rfl ?_|(refine zC rfl rfl ?_ rfl ?_;omega)|(refine zD rfl rfl ?_ rfl ?_;omega)|(refine zP rfl ?_ rfl ?_;omega)|refine zG rfl rfl rfl rfl ?_|(refine jdq rfl rfl ?_ ?_ ?_;kernel_rfl;kernel_rfl)|refine zB rfl rfl rfl (by repeat constructor) rfl ?_|refine zH .here rfl rfl rfl rfl ?_|refine zH (.there .here) rfl rfl rfl rfl ?_|refine zH (.there (.there .here)) rfl rfl rfl rfl ?_)
  refine J_loop (ι := Nat) (fun i => i ≤ L.length ∧ t = risP ltLs letR (prevP L i) (L.drop i)) (fun i => L.length - i) (fun i => [(0, .slice a L.length c), (1, fnV 48 []), (2, fnV 53 []), (9, .slice a L.length c), (10, .int .i64 L.length), (11, .int .i64 i)]) (fun _ => F) (fun _ => X) 0 ⟨Nat.zero_le _, ht⟩ ⟨⟨rfl, rfl, rfl, rfl, rfl, rfl, trivial⟩, fun w s => s⟩ ?_
  rintro i ⟨hi, heq⟩
  by_cases hlt : i < L.length
  · have g1 : L[i]? = some L[i] := List.getElem?_eq_getElem hlt
    have hx := hok _ (List.getElem_mem hlt)
    rw [drop_cons g1] at heq
    have hpv : prevP L (i + 1) = some L[i] := g1
    generalize L[i] = y at *
    obtain ⟨b, off, rfl, hc⟩ := hr.at g1
    have sr := letterRight_spec y hx F
    rcases i with _ | j
    · repeat (first|refine zJ rfl rfl ?_|refine jr rfl ?_|refine jn ?_|refine zM rfl rfl ?_|(refine zC rfl rfl ?_ rfl ?_;omega)|(refine zD rfl rfl ?_ rfl ?_;omega)|(refine zP rfl ?_ rfl ?_;omega)|refine zG rfl rfl rfl rfl ?_|(refine jdq rfl rfl ?_ ?_ ?_;kernel_rfl;kernel_rfl)|refine zB rfl rfl rfl (by repeat constructor) rfl ?_|refine zH .here rfl rfl rfl rfl ?_|refine zH (.there .here) rfl rfl rfl rfl ?_|refine zH (.there (.there .here)) rfl rfl rfl rfl ?_)
      refine oS (ev_indexAddr (i := 0) rfl rfl rfl hlt) rfl ?_
      refine oS (ev_load_agg (cs := ltC y) rfl rfl (Rdb.ofF hc) (lt_len y)) rfl ?_
      refine oE (ev_alloc (cs := zLt) rfl) rfl ?_
      rintro _ _ _ _ ⟨rfl, b8, rfl, rfl⟩
      repeat (first|refine zJ rfl rfl ?_|refine jr rfl ?_|refine jn ?_|refine zM rfl rfl ?_|(refine zC rfl rfl ?_ rfl ?_;omega)|(refine zD rfl rfl ?_ rfl ?_;omega)|(refine zP rfl ?_ rfl ?_;omega)|refine zG rfl rfl rfl rfl ?_|(refine jdq rfl rfl ?_ ?_ ?_;kernel_rfl;kernel_rfl)|refine zB rfl rfl rfl (by repeat constructor) rfl ?_|refine zH .here rfl rfl rfl rfl ?_|refine zH (.there .here) rfl rfl rfl rfl ?_|refine zH (.there (.there .here)) rfl rfl rfl rfl ?_)
      refine oN (ev_store (b := b8) (off := 0) rfl rfl .agg rfl rfl (lay_all (zs := zLt) rfl) (lt_ones y) .here) rfl ?_
      rintro _ _ _ _ ⟨rfl, _, rfl⟩
      refine jn ?_
      refine jc rfl rfl ?_
      refine jd rfl ?_ ?_ ?_; kernel_rfl; kernel_rfl
      repeat (first|refine zJ rfl rfl ?_|refine jr rfl ?_|refine jn ?_|refine zM rfl rfl ?_|(refine zC rfl rfl ?_ rfl ?_;omega)|(refine zD rfl rfl ?_ rfl ?_;omega)|(refine zP rfl ?_ rfl ?_;omega)|refine zG rfl rfl rfl rfl ?_|(refine jdq rfl rfl ?_ ?_ ?_;kernel_rfl;kernel_rfl)|refine zB rfl rfl rfl (by repeat constructor) rfl ?_|refine zH .here rfl rfl rfl rfl ?_|refine zH (.there .here) rfl rfl rfl rfl ?_|refine zH (.there (.there .here)) rfl rfl rfl rfl ?_)
      refine oS (ev_load_agg (cs := ltC y) rfl rfl (Rdb.ofB (n := 0) .here rfl) (lt_len y)) rfl ?_
      refine oPF (caps := []) (vs := [.agg (ltC y).toArray]) rfl sr Try.call53 rfl rfl ?_
      rw [show risP ltLs letR (prevP L 0) (y :: L.drop (0 + 1)) = (letR y && risP ltLs letR (some y) (L.drop (0 + 1))) from rfl] at heq
      cases hy : letR y with
      | true =>
        rw [hy, Bool.true_and] at heq
        repeat (first|refine zJ rfl rfl ?_|refine jr rfl ?_|refine jn ?_|refine zM rfl rfl ?_|(refine zC rfl rfl ?_ rfl ?_;omega)|(refine zD rfl rfl ?_ rfl ?_;omega)|(refine zP rfl ?_ rfl ?_;omega)|refine zG rfl rfl rfl rfl ?_|(refine jdq rfl rfl ?_ ?_ ?_;kernel_rfl;kernel_rfl)|refine zB rfl rfl rfl (by repeat constructor) rfl ?_|refine zH .here rfl rfl rfl rfl ?_|refine zH (.there .here) rfl rfl rfl rfl ?_|refine zH (.there (.there .here)) rfl rfl rfl rfl ?_)
        exact J_again 1 ⟨hlt, heq.trans (by rw [hpv])⟩ (by omega) ⟨⟨rfl, rfl, rfl, rfl, rfl, rfl, trivial⟩, fun w s => s.drop⟩
      | false =>
        rw [hy, Bool.false_and] at heq
        obtain rfl := heq
        repeat (first|refine zJ rfl rfl ?_|refine jr rfl ?_|refine jn ?_|refine zM rfl rfl ?_|(refine zC rfl rfl ?_ rfl ?_;omega)|(refine zD rfl rfl ?_ rfl ?_;omega)|(refine zP rfl ?_ rfl ?_;omega)|refine zG rfl rfl rfl rfl ?_|(refine jdq rfl rfl ?_ ?_ ?_;kernel_rfl;kernel_rfl)|refine zB rfl rfl rfl (by repeat constructor) rfl ?_|refine zH .here rfl rfl rfl rfl ?_|refine zH (.there .here) rfl rfl rfl rfl ?_|refine zH (.there (.there .here)) rfl rfl rfl rfl ?_)
        exact J_retv rfl (.tmp rfl .nil) [] (fun w s => s.drop) (PH.ler _) ⟨rfl, rfl⟩
    · have g2 : L[j]? = some L[j] := List.getElem?_eq_getElem (by omega)
      obtain ⟨b', off', e', hc'⟩ := hr.at g2
      obtain ⟨rfl, rfl⟩ : b = b' ∧ off = off' := by simpa using e'
      generalize L[j] = q at *
      have ix : some (Value.int .i64 (((j + 1 : Nat) : Int) - 1)) = some (Value.int .i64 (j : Int)) := by congr 2; omega
      rw [show prevP L (j + 1) = some q from g2, show risP ltLs letR (some q) (y :: L.drop (j + 1 + 1)) = (ltLs q y && (letR y && risP ltLs letR (some y) (L.drop (j + 1 + 1)))) from rfl] at heq
      repeat (first|refine zJ rfl rfl ?_|refine jr rfl ?_|refine jn ?_|refine zM rfl rfl ?_|(refine zC rfl rfl ?_ rfl ?_;omega)|(refine zD rfl rfl ?_ rfl ?_;omega)|(refine zP rfl ?_ rfl ?_;omega)|refine zG rfl rfl rfl rfl ?_|(refine jdq rfl rfl ?_ ?_ ?_;kernel_rfl;kernel_rfl)|refine zB rfl rfl rfl (by repeat constructor) rfl ?_|refine zH .here rfl rfl rfl rfl ?_|refine zH (.there .here) rfl rfl rfl rfl ?_|refine zH (.there (.there .here)) rfl rfl rfl rfl ?_)
      refine oS (ev_indexAddr (i := j + 1) rfl rfl rfl hlt) rfl ?_
      refine oS (ev_load_agg (cs := ltC y) rfl rfl (Rdb.ofF hc) (lt_len y)) rfl ?_
      refine oE (ev_alloc (cs := zLt) rfl) rfl ?_
      rintro _ _ _ _ ⟨rfl, b8, rfl, rfl⟩
      repeat (first|refine zJ rfl rfl ?_|refine jr rfl ?_|refine jn ?_|refine zM rfl rfl ?_|(refine zC rfl rfl ?_ rfl ?_;omega)|(refine zD rfl rfl ?_ rfl ?_;omega)|(refine zP rfl ?_ rfl ?_;omega)|refine zG rfl rfl rfl rfl ?_|(refine jdq rfl rfl ?_ ?_ ?_;kernel_rfl;kernel_rfl)|refine zB rfl rfl rfl (by repeat constructor) rfl ?_|refine zH .here rfl rfl rfl rfl ?_|refine zH (.there .here) rfl rfl rfl rfl ?_|refine zH (.there (.there .here)) rfl rfl rfl rfl ?_)
      refine oN (ev_store (b := b8) (off := 0) rfl rfl .agg rfl rfl (lay_all (zs := zLt) rfl) (lt_ones y) .here) rfl ?_
      rintro _ _ _ _ ⟨rfl, _, rfl⟩
      refine jn ?_
      refine jc rfl rfl ?_
      refine jd rfl ?_ ?_ ?_; kernel_rfl; kernel_rfl
      repeat (first|refine zJ rfl rfl ?_|refine jr rfl ?_|refine jn ?_|refine zM rfl rfl ?_|(refine zC rfl rfl ?_ rfl ?_;omega)|(refine zD rfl rfl ?_ rfl ?_;omega)|(refine zP rfl ?_ rfl ?_;omega)|refine zG rfl rfl rfl rfl ?_|(refine jdq rfl rfl ?_ ?_ ?_;kernel_rfl;kernel_rfl)|refine zB rfl rfl rfl (by repeat constructor) rfl ?_|refine zH .here rfl rfl rfl rfl ?_|refine zH (.there .here) rfl rfl rfl rfl ?_|refine zH (.there (.there .here)) rfl rfl rfl rfl ?_)
      refine oS (ev_indexAddr (i := j) rfl ix rfl (by omega)) rfl ?_
      refine oS (ev_load_agg (cs := ltC q) rfl rfl (Rdb.ofF hc') (lt_len q)) rfl ?_
      refine oS (ev_load_agg (cs := ltC y) rfl rfl (Rdb.ofB (n := 0) .here rfl) (lt_len y)) rfl ?_
      refine oPF (caps := []) (vs := [.agg (ltC q).toArray, .agg (ltC y).toArray]) rfl (lt_less_spec q y F) Try.call48 rfl rfl ?_
      cases hq : ltLs q y with
      | false =>
        rw [hq, Bool.false_and] at heq
        obtain rfl := heq
        repeat (first|refine zJ rfl rfl ?_|refine jr rfl ?_|refine jn ?_|refine zM rfl rfl ?_|(refine zC rfl rfl ?_ rfl ?_;omega)|(refine zD rfl rfl ?_ rfl ?_;omega)|(refine zP rfl ?_ rfl ?_;omega)|refine zG rfl rfl rfl rfl ?_|(refine jdq rfl rfl ?_ ?_ ?_;kernel_rfl;kernel_rfl)|refine zB rfl rfl rfl (by repeat constructor) rfl ?_|refine zH .here rfl rfl rfl rfl ?_|refine zH (.there .here) rfl rfl rfl rfl ?_|refine zH (.there (.there .here)) rfl rfl rfl rfl ?_)
        exact J_retv rfl (.tmp rfl .nil) [] (fun w s => s.drop) (PH.ler _) ⟨rfl, rfl⟩
      | true =>
      rw [hq, Bool.true_and] at heq
      repeat (first|refine zJ rfl rfl ?_|refine jr rfl ?_|refine jn ?_|refine zM rfl rfl ?_|(refine zC rfl rfl ?_ rfl ?_;omega)|(refine zD rfl rfl ?_ rfl ?_;omega)|(refine zP rfl ?_ rfl ?_;omega)|refine zG rfl rfl rfl rfl ?_|(refine jdq rfl rfl ?_ ?_ ?_;kernel_rfl;kernel_rfl)|refine zB rfl rfl rfl (by repeat constructor) rfl ?_|refine zH .here rfl rfl rfl rfl ?_|refine zH (.there .here) rfl rfl rfl rfl ?_|refine zH (.there (.there .here)) rfl rfl rfl rfl ?_)
      refine oS (ev_load_agg (cs := ltC y) rfl rfl (Rdb.ofB (n := 0) .here rfl) (lt_len y)) rfl ?_
      refine oPF (caps := []) (vs := [.agg (ltC y).toArray]) rfl sr Try.call53 rfl rfl ?_
      cases hy : letR y with
      | true =>
        rw [hy, Bool.true_and] at heq
        repeat (first|refine zJ rfl rfl ?_|refine jr rfl ?_|refine jn ?_|refine zM rfl rfl ?_|(refine zC rfl rfl ?_ rfl ?_;omega)|(refine zD rfl rfl ?_ rfl ?_;omega)|(refine zP rfl ?_ rfl ?_;omega)|refine zG rfl rfl rfl rfl ?_|(refine jdq rfl rfl ?_ ?_ ?_;kernel_rfl;kernel_rfl)|refine zB rfl rfl rfl (by repeat constructor) rfl ?_|refine zH .here rfl rfl rfl rfl ?_|refine zH (.there .here) rfl rfl rfl rfl ?_|refine zH (.there (.there .here)) rfl rfl rfl rfl ?_)
        exact J_again (j + 1 + 1) ⟨hlt, heq.trans (by rw [hpv])⟩ (by omega) ⟨⟨rfl, rfl, rfl, rfl, rfl, rfl, trivial⟩, fun w s => s.drop⟩
      | false =>
        rw [hy, Bool.false_and] at heq
        obtain rfl := heq
        repeat (first|refine zJ rfl rfl ?_|refine jr rfl ?_|refine jn ?_|refine zM rfl rfl ?_|(refine zC rfl rfl ?_ rfl ?_;omega)|(refine zD rfl rfl ?_ rfl ?_;omega)|(refine zP rfl ?_ rfl ?_;omega)|refine zG rfl rfl rfl rfl ?_|(refine jdq rfl rfl ?_ ?_ ?_;kernel_rfl;kernel_rfl)|refine zB rfl rfl rfl (by repeat constructor) rfl ?_|refine zH .here rfl rfl rfl rfl ?_|refine zH (.there .here) rfl rfl rfl rfl ?_|refine zH (.there (.there .here)) rfl rfl rfl rfl ?_)
        exact J_retv rfl (.tmp rfl .nil) [] (fun w s => s.drop) (PH.ler _) ⟨rfl, rfl⟩
  · obtain rfl : i = L.length := by omega
    rw [List.drop_length] at heq
    obtain rfl : t = true := by rw [heq]; cases prevP L L.length <;> rfl
    repeat (first|refine zJ rfl rfl ?_|refine jr rfl ?_|refine jn ?_|refine zM rfl rfl ?_|(refine zC rfl rfl ?_ rfl ?_;omega)|(refine zD rfl rfl ?_ rfl ?_;omega)|(refine zP rfl ?_ rfl ?_;omega)|refine zG rfl rfl rfl rfl ?_|(refine jdq rfl rfl ?_ ?_ ?_;kernel_rfl;kernel_rfl)|refine zB rfl rfl rfl (by repeat constructor) rfl ?_|refine zH .here rfl rfl rfl rfl ?_|refine zH (.there .here) rfl rfl rfl rfl ?_|refine zH (.there (.there .here)) rfl rfl rfl rfl ?_)
    exact J_retv rfl (.tmp rfl .nil) [] (fun w s => s) (PH.ler _) ⟨rfl, rfl⟩

/-! ### Outcome -/
theorem ou_less_spec (x y : OuX) (F : PH) : Pure Try.prog 49 [.agg (ouC x).toArray, .agg (ouC y).toArray] F (.bool (ouLs x y)) := by
  refine Spec.of2 Try.func49 rfl rfl fun X w0 => ?_
  refine jc rfl rfl ?_
  refine jr rfl ?_
  refine oE (ev_box rfl .agg) rfl ?_; rintro _ _ _ _ ⟨rfl, b2, rfl, rfl⟩
  refine oE (ev_box rfl .agg) rfl ?_; rintro _ _ _ _ ⟨rfl, b3, rfl, rfl⟩
  repeat (first|refine zJ rfl rfl ?_|refine jr rfl ?_|refine jn ?_|refine zM rfl rfl ?_|(refine zC rfl rfl ?_ rfl ?_;omega)|(refine zD rfl rfl ?_ rfl ?_;omega)|(refine zP rfl ?_ rfl ?_;omega)|refine zG rfl rfl rfl rfl ?_|(refine jdq rfl rfl ?_ ?_ ?_;kernel_rfl;kernel_rfl)|refine zB rfl rfl rfl (by repeat constructor) rfl ?_|refine zH .here rfl rfl rfl rfl ?_|refine zH (.there .here) rfl rfl rfl rfl ?_|refine zH (.there (.there .here)) rfl rfl rfl rfl ?_)
  try (refine oS (v := .bool (ouLs x y)) (eg rfl rfl rfl) rfl ?_)
  repeat (first|refine zJ rfl rfl ?_|refine jr rfl ?_|refine jn ?_|refine zM rfl rfl ?_|(refine zC rfl rfl ?_ rfl ?_;omega)|(refine zD rfl rfl ?_ rfl ?_;omega)|(refine zP rfl ?_ rfl ?_;omega)|refine zG rfl rfl rfl rfl ?_|(refine jdq rfl rfl ?_ ?_ ?_;kernel_rfl;kernel_rfl)|refine zB rfl rfl rfl (by repeat constructor) rfl ?_|refine zH .here rfl rfl rfl rfl ?_|refine zH (.there .here) rfl rfl rfl rfl ?_|refine zH (.there (.there .here)) rfl rfl rfl rfl ?_)
  exact J_retv (vs := [.bool (ouLs x y)]) rfl (.tmp rfl .nil) [] (fun w s => s.drop.drop) (PH.ler _) ⟨rfl, rfl⟩
set_option maxHeartbeats 4000000 in
theorem ou_rises_spec (a : Option Addr) (c : Nat) (L : List OuX) (F : PH) (hr : ouRow F (.slice a L.length c) L) (hn : L.length ≤ 1000) (hok : ∀ x ∈ L, OuOk x) : Pure Try.prog 54 [.slice a L.length c, fnV 49 [], fnV 55 []] F (.bool (risP ouLs ouR none L)) := by
  obtain ⟨t, ht⟩ : ∃ t, t = risP ouLs ouR none L := ⟨_, rfl⟩
  rw [← ht]
  refine Spec.of3 Try.func54 rfl rfl fun X w0 => ?_
  repeat (first|refine zJ rfl rfl ?_|refine jr rfl ?_|refine jn ?_|refine zM rfl rfl ?_|(refine zC rfl rfl ?_ rfl ?_;omega)|(refine zD rfl rfl ?_ rfl ?_;omega)|(refine zP rfl ?_ rfl ?_;omega)|refine zG rfl rfl rfl rfl ?_|(refine jdq rfl rfl ?_ ?_ ?_;kernel_rfl;kernel_rfl)|refine zB rfl rfl rfl (by repeat constructor) rfl ?_|refine zH .here rfl rfl rfl rfl ?_|refine zH (.there .here) rfl rfl rfl rfl ?_|refine zH (.there (.there .here)) rfl rfl rfl rfl ?_)
  refine J_loop (ι := Nat) (fun i => i ≤ L.length ∧ t = risP ouLs ouR (prevP L i) (L.drop i)) (fun i => L.length - i) (fun i => [(0, .slice a L.length c), (1, fnV 49 []), (2, fnV 55 []), (9, .slice a L.length c), (10, .int .i64 L.length), (11, .int .i64 i)]) (fun _ => F) (fun _ => X) 0 ⟨Nat.zero_le _, ht⟩ ⟨⟨rfl, rfl, rfl, rfl, rfl, rfl, trivial⟩, fun w s => s⟩ ?_
  rintro i ⟨hi, heq⟩
  by_cases hlt : i < L.length
  · have g1 : L[i]? = some L[i] := List.getElem?_eq_getElem hlt
    have hx := hok _ (List.getElem_mem hlt)
    rw [drop_cons g1] at heq
    have hpv : prevP L (i + 1) = some L[i] := g1
    generalize L[i] = y at *
    obtain ⟨b, off, rfl, hc⟩ := hr.at g1
    have sr := outcomeRight_spec y hx F
    rcases i with _ | j
    · repeat (first|refine zJ rfl rfl ?_|refine jr rfl ?_|refine jn ?_|refine zM rfl rfl ?_|(refine zC rfl rfl ?_ rfl ?_;omega)|(refine zD rfl rfl ?_ rfl ?_;omega)|(refine zP rfl ?_ rfl ?_;omega)|refine zG rfl rfl rfl rfl ?_|(refine jdq rfl rfl ?_ ?_ ?_;kernel_rfl;kernel_rfl)|refine zB rfl rfl rfl (by repeat constructor) rfl ?_|refine zH .here rfl rfl rfl rfl ?_|refine zH (.there .here) rfl rfl rfl rfl ?_|refine zH (.there (.there .here)) rfl rfl rfl rfl ?_)
      refine oS (ev_indexAddr (i := 0) rfl rfl rfl hlt) rfl ?_
      refine oS (ev_load_agg (cs := ouC y) rfl rfl (Rdb.ofF hc) (ou_len y)) rfl ?_
      refine oE (ev_alloc (cs := zOu) rfl) rfl ?_
      rintro _ _ _ _ ⟨rfl, b8, rfl, rfl⟩
      repeat (first|refine zJ rfl rfl ?_|refine jr rfl ?_|refine jn ?_|refine zM rfl rfl ?_|(refine zC rfl rfl ?_ rfl ?_;omega)|(refine zD rfl rfl ?_ rfl ?_;omega)|(refine zP rfl ?_ rfl ?_;omega)|refine zG rfl rfl rfl rfl ?_|(refine jdq rfl rfl ?_ ?_ ?_;kernel_rfl;kernel_rfl)|refine zB rfl rfl rfl (by repeat constructor) rfl ?_|refine zH .here rfl rfl rfl rfl ?_|refine zH (.there .here) rfl rfl rfl rfl ?_|refine zH (.there (.there .here)) rfl rfl rfl rfl ?_)
      refine oN (ev_store (b := b8) (off := 0) rfl rfl .agg rfl rfl (lay_all (zs := zOu) rfl) (ou_ones y) .here) rfl ?_
      rintro _ _ _ _ ⟨rfl, _, rfl⟩
      refine jn ?_
      refine jc rfl rfl ?_
      refine jd rfl ?_ ?_ ?_; kernel_rfl; kernel_rfl
      repeat (first|refine zJ rfl rfl ?_|refine jr rfl ?_|refine jn ?_|refine zM rfl rfl ?_|(refine zC rfl rfl ?_ rfl ?_;omega)|(refine zD rfl rfl ?_ rfl ?_;omega)|(refine zP rfl ?_ rfl ?_;omega)|refine zG rfl rfl rfl rfl ?_|(refine jdq rfl rfl ?_ ?_ ?_;kernel_rfl;kernel_rfl)|refine zB rfl rfl rfl (by repeat constructor) rfl ?_|refine zH .here rfl rfl rfl rfl ?_|refine zH (.there .here) rfl rfl rfl rfl ?_|refine zH (.there (.there .here)) rfl rfl rfl rfl ?_)
      refine oS (ev_load_agg (cs := ouC y) rfl rfl (Rdb.ofB (n := 0) .here rfl) (ou_len y)) rfl ?_
      refine oPF (caps := []) (vs := [.agg (ouC y).toArray]) rfl sr Try.call55 rfl rfl ?_
      rw [show risP ouLs ouR (prevP L 0) (y :: L.drop (0 + 1)) = (ouR y && risP ouLs ouR (some y) (L.drop (0 + 1))) from rfl] at heq
      cases hy : ouR y with
      | true =>
        rw [hy, Bool.true_and] at heq
        repeat (first|refine zJ rfl rfl ?_|refine jr rfl ?_|refine jn ?_|refine zM rfl rfl ?_|(refine zC rfl rfl ?_ rfl ?_;omega)|(refine zD rfl rfl ?_ rfl ?_;omega)|(refine zP rfl ?_ rfl ?_;omega)|refine zG rfl rfl rfl rfl ?_|(refine jdq rfl rfl ?_ ?_ ?_;kernel_rfl;kernel_rfl)|refine zB rfl rfl rfl (by repeat constructor) rfl ?_|refine zH .here rfl rfl rfl rfl ?_|refine zH (.there .here) rfl rfl rfl rfl ?_|refine zH (.there (.there .here)) rfl rfl rfl rfl ?_)
        exact J_again 1 ⟨hlt, heq.trans (by rw [hpv])⟩ (by omega) ⟨⟨rfl, rfl, rfl, rfl, rfl, rfl, trivial⟩, fun w s => s.drop⟩
      | false =>
        rw [hy, Bool.false_and] at heq
        obtain rfl := heq
        repeat (first|refine zJ rfl rfl ?_|refine jr rfl ?_|refine jn ?_|refine zM rfl rfl ?_|(refine zC rfl rfl ?_ rfl ?_;omega)|(refine zD rfl rfl ?_ rfl ?_;omega)|(refine zP rfl ?_ rfl ?_;omega)|refine zG rfl rfl rfl rfl ?_|(refine jdq rfl rfl ?_ ?_ ?_;kernel_rfl;kernel_rfl)|refine zB rfl rfl rfl (by repeat constructor) rfl ?_|refine zH .here rfl rfl rfl rfl ?_|refine zH (.there .here) rfl rfl rfl rfl ?_|refine zH (.there (.there .here)) rfl rfl rfl rfl ?_)
        exact J_retv rfl (.tmp rfl .nil) [] (fun w s => s.drop) (PH.ler _) ⟨rfl, rfl⟩
    · have g2 : L[j]? = some L[j] := List.getElem?_eq_getElem (by omega)
      obtain ⟨b', off', e', hc'⟩ := hr.at g2
      obtain ⟨rfl, rfl⟩ : b = b' ∧ off = off' := by simpa using e'
      generalize L[j] = q at *
      have ix : some (Value.int .i64 (((j + 1 : Nat) : Int) - 1)) = some (Value.int .i64 (j : Int)) := by congr 2; omega
      rw [show prevP L (j + 1) = some q from g2, show risP ouLs ouR (some q) (y :: L.drop (j + 1 + 1)) = (ouLs q y && (ouR y && risP ouLs ouR (some y) (L.drop (j + 1 + 1)))) from rfl] at heq
      repeat (first|refine zJ rfl rfl ?_|refine jr rfl ?_|refine jn ?_|refine zM rfl rfl ?_|(refine zC rfl rfl ?_ rfl ?_;omega)|(refine zD rfl rfl ?_ rfl ?_;omega)|(refine zP rfl ?_ rfl ?_;omega)|refine zG rfl rfl rfl rfl ?_|(refine jdq rfl rfl ?_ ?_ ?_;kernel_rfl;kernel_rfl)|refine zB rfl rfl rfl (by repeat constructor) rfl ?_|refine zH .here rfl rfl rfl rfl ?_|refine zH (.there .here) rfl rfl rfl rfl ?_|refine zH (.there (.there .here)) rfl rfl rfl rfl ?_)
      refine oS (ev_indexAddr (i := j + 1) rfl rfl rfl hlt) rfl ?_
      refine oS (ev_load_agg (cs := ouC y) rfl rfl (Rdb.ofF hc) (ou_len y)) rfl ?_
      refine oE (ev_alloc (cs := zOu) rfl) rfl ?_
      rintro _ _ _ _ ⟨rfl, b8, rfl, rfl⟩
      repeat (first|refine zJ rfl rfl ?_|refine jr rfl ?_|refine jn ?_|refine zM rfl rfl ?_|(refine zC rfl rfl ?_ rfl ?_;omega)|(refine zD rfl rfl ?_ rfl ?_;omega)|(refine zP rfl ?_ rfl ?_;omega)|refine zG rfl rfl rfl rfl ?_|(refine jdq rfl rfl ?_ ?_ ?_;kernel_rfl;kernel_rfl)|refine zB rfl rfl rfl (by repeat constructor) rfl ?_|refine zH .here rfl rfl rfl rfl ?_|refine zH (.there .here) rfl rfl rfl rfl ?_|refine zH (.there (.there .here)) rfl rfl rfl rfl ?_)
      refine oN (ev_store (b := b8) (off := 0) rfl rfl .agg rfl rfl (lay_all (zs := zOu) rfl) (ou_ones y) .here) rfl ?_
      rintro _ _ _ _ ⟨rfl, _, rfl⟩
      refine jn ?_
      refine jc rfl rfl ?_
      refine jd rfl ?_ ?_ ?_; kernel_rfl; kernel_rfl
      repeat (first|refine zJ rfl rfl ?_|refine jr rfl ?_|refine jn ?_|refine zM rfl rfl ?_|(refine zC rfl rfl ?_ rfl ?_;omega)|(refine zD rfl rfl ?_ rfl ?_;omega)|(refine zP rfl ?_ rfl ?_;omega)|refine zG rfl rfl rfl rfl ?_|(refine jdq rfl rfl ?_ ?_ ?_;kernel_rfl;kernel_rfl)|refine zB rfl rfl rfl (by repeat constructor) rfl ?_|refine zH .here rfl rfl rfl rfl ?_|refine zH (.there .here) rfl rfl rfl rfl ?_|refine zH (.there (.there .here)) rfl rfl rfl rfl ?_)
      refine oS (ev_indexAddr (i := j) rfl ix rfl (by omega)) rfl ?_
      refine oS (ev_load_agg (cs := ouC q) rfl rfl (Rdb.ofF hc') (ou_len q)) rfl ?_
      refine oS (ev_load_agg (cs := ouC y) rfl rfl (Rdb.ofB (n := 0) .here rfl) (ou_len y)) rfl ?_
      refine oPF (caps := []) (vs := [.agg (ouC q).toArray, .agg (ouC y).toArray]) rfl (ou_less_spec q y F) Try.call49 rfl rfl ?_
      cases hq : ouLs q y with
      | false =>
        rw [hq, Bool.false_and] at heq
        obtain rfl := heq
        repeat (first|refine zJ rfl rfl ?_|refine jr rfl ?_|refine jn ?_|refine zM rfl rfl ?_|(refine zC rfl rfl ?_ rfl ?_;omega)|(refine zD rfl rfl ?_ rfl ?_;omega)|(refine zP rfl ?_ rfl ?_;omega)|refine zG rfl rfl rfl rfl ?_|(refine jdq rfl rfl ?_ ?_ ?_;kernel_rfl;kernel_rfl)|refine zB rfl rfl rfl (by repeat constructor) rfl ?_|refine zH .here rfl rfl rfl rfl ?_|refine zH (.there .here) rfl rfl rfl rfl ?_|refine zH (.there (.there .here)) rfl rfl rfl rfl ?_)
        exact J_retv rfl (.tmp rfl .nil) [] (fun w s => s.drop) (PH.ler _) ⟨rfl, rfl⟩
      | true =>
      rw [hq, Bool.true_and] at heq
      repeat (first|refine zJ rfl rfl ?_|refine jr rfl ?_|refine jn ?_|refine zM rfl rfl ?_|(refine zC rfl rfl ?_ rfl ?_;omega)|(refine zD rfl rfl ?_ rfl ?_;omega)|(refine zP rfl ?_ rfl ?_;omega)|refine zG rfl rfl rfl rfl ?_|(refine jdq rfl rfl ?_ ?_ ?_;kernel_rfl;kernel_rfl)|refine zB rfl rfl rfl (by repeat constructor) rfl ?_|refine zH .here rfl rfl rfl rfl ?_|refine zH (.there .here) rfl rfl rfl rfl ?_|refine zH (.there (.there .here)) rfl rfl rfl rfl ?_)
      refine oS (ev_load_agg (cs := ouC y) rfl rfl (Rdb.ofB (n := 0) .here rfl) (ou_len y)) rfl ?_
      refine oPF (caps := []) (vs := [.agg (ouC y).toArray]) rfl sr Try.call55 rfl rfl ?_
      cases hy : ouR y with
      | true =>
        rw [hy, Bool.true_and] at heq
        repeat (first|refine zJ rfl rfl ?_|refine jr rfl ?_|refine jn ?_|refine zM rfl rfl ?_|(refine zC rfl rfl ?_ rfl ?_;omega)|(refine zD rfl rfl ?_ rfl ?_;omega)|(refine zP rfl ?_ rfl ?_;omega)|refine zG rfl rfl rfl rfl ?_|(refine jdq rfl rfl ?_ ?_ ?_;kernel_rfl;kernel_rfl)|refine zB rfl rfl rfl (by repeat constructor) rfl ?_|refine zH .here rfl rfl rfl rfl ?_|refine zH (.there .here) rfl rfl rfl rfl ?_|refine zH (.there (.there .here)) rfl rfl rfl rfl ?_)
        exact J_again (j + 1 + 1) ⟨hlt, heq.trans (by rw [hpv])⟩ (by omega) ⟨⟨rfl, rfl, rfl, rfl, rfl, rfl, trivial⟩, fun w s => s.drop⟩
      | false =>
        rw [hy, Bool.false_and] at heq
        obtain rfl := heq
        repeat (first|refine zJ rfl rfl ?_|refine jr rfl ?_|refine jn ?_|refine zM rfl rfl ?_|(refine zC rfl rfl ?_ rfl ?_;omega)|(refine zD rfl rfl ?_ rfl ?_;omega)|(refine zP rfl ?_ rfl ?_;omega)|refine zG rfl rfl rfl rfl ?_|(refine jdq rfl rfl ?_ ?_ ?_;kernel_rfl;kernel_rfl)|refine zB rfl rfl rfl (by repeat constructor) rfl ?_|refine zH .here rfl rfl rfl rfl ?_|refine zH (.there .here) rfl rfl rfl rfl ?_|refine zH (.there (.there .here)) rfl rfl rfl rfl ?_)
        exact J_retv rfl (.tmp rfl .nil) [] (fun w s => s.drop) (PH.ler _) ⟨rfl, rfl⟩
  · obtain rfl : i = L.length := by omega
    rw [List.drop_length] at heq
    obtain rfl : t = true := by rw [heq]; cases prevP L L.length <;> rfl
    repeat (first|refine zJ rfl rfl ?_|refine jr rfl ?_|refine jn ?_|refine zM rfl rfl ?_|(refine zC rfl rfl ?_ rfl ?_;omega)|(refine zD rfl rfl ?_ rfl ?_;omega)|(refine zP rfl ?_ rfl ?_;omega)|refine zG rfl rfl rfl rfl ?_|(refine jdq rfl rfl ?_ ?_ ?_;kernel_rfl;kernel_rfl)|refine zB rfl rfl rfl (by repeat constructor) rfl ?_|refine zH .here rfl rfl rfl rfl ?_|refine zH (.there .here) rfl rfl rfl rfl ?_|refine zH (.there (.there .here)) rfl rfl rfl rfl ?_)
    exact J_retv rfl (.tmp rfl .nil) [] (fun w s => s) (PH.ler _) ⟨rfl, rfl⟩

theorem rightL_f {l : LgX} {t : Bool} (ht : t = rightL l) (h : ¬ (0 ≤ l.1 ∧ l.1 ≤ 1048576 ∧ 0 ≤ l.2.1 ∧ l.2.1 ≤ 1099511627776 ∧ l.2.2.1.length ≤ 16 ∧ l.2.2.2.1.length ≤ 4)) : t = false := by
  rw [ht]; unfold rightL; rw [decide_eq_false h, Bool.false_and]
set_option maxHeartbeats 4000000 in
theorem lcheck_spec (l : LgX) (cs : List Value) (F : PH) (h : LgV F cs l) (hk : InK .i64 l.2.1) (hn : l.2.2.1.length ≤ 1000) (hm : l.2.2.2.1.length ≤ 1000) (hok : ∀ x ∈ l.2.2.1, LtOk x) : Pure Try.prog 23 [.agg cs.toArray] F (.int .i64 (if rightL l then 0 else 2)) := by
  obtain ⟨t, ht⟩ : ∃ t, t = rightL l := ⟨_, rfl⟩
  rw [← ht]
  have htf := rightL_f ht
  unfold rightL at ht
  obtain ⟨s, tt, L, O, _⟩ := l
  obtain ⟨vl, vo, rfl, hL, hO⟩ := h
  dsimp only at hL hO hn hm hok hk ht htf ⊢
  refine Spec.of1 Try.func23 rfl rfl fun X w0 => ?_
  obtain ⟨al, cl, rfl, _⟩ := hL.form
  obtain ⟨ao, co, rfl, _⟩ := hO.form
  unfold lgC
  refine jc rfl rfl ?_
  refine jr rfl ?_
  refine oE (ev_box rfl .agg) rfl ?_; rintro _ _ _ _ ⟨rfl, b1, rfl, rfl⟩
  repeat (first|refine zJ rfl rfl ?_|refine jr rfl ?_|refine jn ?_|refine zM rfl rfl ?_|(refine zC rfl rfl ?_ rfl ?_;omega)|(refine zD rfl rfl ?_ rfl ?_;omega)|(refine zP rfl ?_ rfl ?_;omega)|refine zG rfl rfl rfl rfl ?_|(refine jdq rfl rfl ?_ ?_ ?_;kernel_rfl;kernel_rfl)|refine zB rfl rfl rfl (by repeat constructor) rfl ?_|refine zH .here rfl rfl rfl rfl ?_|refine zH (.there .here) rfl rfl rfl rfl ?_|refine zH (.there (.there .here)) rfl rfl rfl rfl ?_)
  by_cases h1 : 0 ≤ s ∧ s ≤ 1048576
  rotate_left
  · obtain rfl := htf (by omega)
    refine oP (within_is (decide_eq_false h1) F) Try.call50 rfl rfl ?_
    repeat (first|refine zJ rfl rfl ?_|refine jr rfl ?_|refine jn ?_|refine zM rfl rfl ?_|(refine zC rfl rfl ?_ rfl ?_;omega)|(refine zD rfl rfl ?_ rfl ?_;omega)|(refine zP rfl ?_ rfl ?_;omega)|refine zG rfl rfl rfl rfl ?_|(refine jdq rfl rfl ?_ ?_ ?_;kernel_rfl;kernel_rfl)|refine zB rfl rfl rfl (by repeat constructor) rfl ?_|refine zH .here rfl rfl rfl rfl ?_|refine zH (.there .here) rfl rfl rfl rfl ?_|refine zH (.there (.there .here)) rfl rfl rfl rfl ?_)
    exact J_retv rfl (.tmp rfl .nil) [] (fun w s => s.drop) (PH.ler _) ⟨rfl, rfl⟩
  refine oP (within_is (decide_eq_true h1) F) Try.call50 rfl rfl ?_
  repeat (first|refine zJ rfl rfl ?_|refine jr rfl ?_|refine jn ?_|refine zM rfl rfl ?_|(refine zC rfl rfl ?_ rfl ?_;omega)|(refine zD rfl rfl ?_ rfl ?_;omega)|(refine zP rfl ?_ rfl ?_;omega)|refine zG rfl rfl rfl rfl ?_|(refine jdq rfl rfl ?_ ?_ ?_;kernel_rfl;kernel_rfl)|refine zB rfl rfl rfl (by repeat constructor) rfl ?_|refine zH .here rfl rfl rfl rfl ?_|refine zH (.there .here) rfl rfl rfl rfl ?_|refine zH (.there (.there .here)) rfl rfl rfl rfl ?_)
  have sm := mis_spec tt hk F
  by_cases h2 : 0 ≤ tt ∧ tt ≤ 1099511627776
  rotate_left
  · obtain rfl := htf (by omega)
    rw [decide_eq_false h2] at sm
    refine oP (sm) Try.call51 rfl rfl ?_
    repeat (first|refine zJ rfl rfl ?_|refine jr rfl ?_|refine jn ?_|refine zM rfl rfl ?_|(refine zC rfl rfl ?_ rfl ?_;omega)|(refine zD rfl rfl ?_ rfl ?_;omega)|(refine zP rfl ?_ rfl ?_;omega)|refine zG rfl rfl rfl rfl ?_|(refine jdq rfl rfl ?_ ?_ ?_;kernel_rfl;kernel_rfl)|refine zB rfl rfl rfl (by repeat constructor) rfl ?_|refine zH .here rfl rfl rfl rfl ?_|refine zH (.there .here) rfl rfl rfl rfl ?_|refine zH (.there (.there .here)) rfl rfl rfl rfl ?_)
    exact J_retv rfl (.tmp rfl .nil) [] (fun w s => s.drop) (PH.ler _) ⟨rfl, rfl⟩
  rw [decide_eq_true h2] at sm
  refine oP (sm) Try.call51 rfl rfl ?_
  by_cases h3 : L.length ≤ 16
  rotate_left
  · obtain rfl := htf (by omega)
    repeat (first|refine zJ rfl rfl ?_|refine jr rfl ?_|refine jn ?_|refine zM rfl rfl ?_|(refine zC rfl rfl ?_ rfl ?_;omega)|(refine zD rfl rfl ?_ rfl ?_;omega)|(refine zP rfl ?_ rfl ?_;omega)|refine zG rfl rfl rfl rfl ?_|(refine jdq rfl rfl ?_ ?_ ?_;kernel_rfl;kernel_rfl)|refine zB rfl rfl rfl (by repeat constructor) rfl ?_|refine zH .here rfl rfl rfl rfl ?_|refine zH (.there .here) rfl rfl rfl rfl ?_|refine zH (.there (.there .here)) rfl rfl rfl rfl ?_)
    exact J_retv rfl (.tmp rfl .nil) [] (fun w s => s.drop) (PH.ler _) ⟨rfl, rfl⟩
  by_cases h4 : O.length ≤ 4
  rotate_left
  · obtain rfl := htf (by omega)
    repeat (first|refine zJ rfl rfl ?_|refine jr rfl ?_|refine jn ?_|refine zM rfl rfl ?_|(refine zC rfl rfl ?_ rfl ?_;omega)|(refine zD rfl rfl ?_ rfl ?_;omega)|(refine zP rfl ?_ rfl ?_;omega)|refine zG rfl rfl rfl rfl ?_|(refine jdq rfl rfl ?_ ?_ ?_;kernel_rfl;kernel_rfl)|refine zB rfl rfl rfl (by repeat constructor) rfl ?_|refine zH .here rfl rfl rfl rfl ?_|refine zH (.there .here) rfl rfl rfl rfl ?_|refine zH (.there (.there .here)) rfl rfl rfl rfl ?_)
    exact J_retv rfl (.tmp rfl .nil) [] (fun w s => s.drop) (PH.ler _) ⟨rfl, rfl⟩
  rw [decide_eq_true (show _ ∧ _ from ⟨h1.1, h1.2, h2.1, h2.2, h3, h4⟩), Bool.true_and] at ht
  repeat (first|refine zJ rfl rfl ?_|refine jr rfl ?_|refine jn ?_|refine zM rfl rfl ?_|(refine zC rfl rfl ?_ rfl ?_;omega)|(refine zD rfl rfl ?_ rfl ?_;omega)|(refine zP rfl ?_ rfl ?_;omega)|refine zG rfl rfl rfl rfl ?_|(refine jdq rfl rfl ?_ ?_ ?_;kernel_rfl;kernel_rfl)|refine zB rfl rfl rfl (by repeat constructor) rfl ?_|refine zH .here rfl rfl rfl rfl ?_|refine zH (.there .here) rfl rfl rfl rfl ?_|refine zH (.there (.there .here)) rfl rfl rfl rfl ?_)
  have s1 := lt_rises_spec al cl L F hL hn hok
  have s2 := ou_rises_spec ao co O F hO hm (fun _ _ => trivial)
  cases e1 : risP ltLs letR none L with
  | false =>
    rw [e1] at s1
    obtain rfl : t = false := by rw [ht, e1]; rfl
    refine oP (s1) Try.call52 rfl rfl ?_
    repeat (first|refine zJ rfl rfl ?_|refine jr rfl ?_|refine jn ?_|refine zM rfl rfl ?_|(refine zC rfl rfl ?_ rfl ?_;omega)|(refine zD rfl rfl ?_ rfl ?_;omega)|(refine zP rfl ?_ rfl ?_;omega)|refine zG rfl rfl rfl rfl ?_|(refine jdq rfl rfl ?_ ?_ ?_;kernel_rfl;kernel_rfl)|refine zB rfl rfl rfl (by repeat constructor) rfl ?_|refine zH .here rfl rfl rfl rfl ?_|refine zH (.there .here) rfl rfl rfl rfl ?_|refine zH (.there (.there .here)) rfl rfl rfl rfl ?_)
    exact J_retv rfl (.tmp rfl .nil) [] (fun w s => s.drop) (PH.ler _) ⟨rfl, rfl⟩
  | true =>
  rw [e1] at s1
  refine oP (s1) Try.call52 rfl rfl ?_
  repeat (first|refine zJ rfl rfl ?_|refine jr rfl ?_|refine jn ?_|refine zM rfl rfl ?_|(refine zC rfl rfl ?_ rfl ?_;omega)|(refine zD rfl rfl ?_ rfl ?_;omega)|(refine zP rfl ?_ rfl ?_;omega)|refine zG rfl rfl rfl rfl ?_|(refine jdq rfl rfl ?_ ?_ ?_;kernel_rfl;kernel_rfl)|refine zB rfl rfl rfl (by repeat constructor) rfl ?_|refine zH .here rfl rfl rfl rfl ?_|refine zH (.there .here) rfl rfl rfl rfl ?_|refine zH (.there (.there .here)) rfl rfl rfl rfl ?_)
  cases e2 : risP ouLs ouR none O with
  | false =>
    rw [e2] at s2
    obtain rfl : t = false := by rw [ht, e1, e2]; rfl
    refine oP (s2) Try.call54 rfl rfl ?_
    repeat (first|refine zJ rfl rfl ?_|refine jr rfl ?_|refine jn ?_|refine zM rfl rfl ?_|(refine zC rfl rfl ?_ rfl ?_;omega)|(refine zD rfl rfl ?_ rfl ?_;omega)|(refine zP rfl ?_ rfl ?_;omega)|refine zG rfl rfl rfl rfl ?_|(refine jdq rfl rfl ?_ ?_ ?_;kernel_rfl;kernel_rfl)|refine zB rfl rfl rfl (by repeat constructor) rfl ?_|refine zH .here rfl rfl rfl rfl ?_|refine zH (.there .here) rfl rfl rfl rfl ?_|refine zH (.there (.there .here)) rfl rfl rfl rfl ?_)
    exact J_retv rfl (.tmp rfl .nil) [] (fun w s => s.drop) (PH.ler _) ⟨rfl, rfl⟩
  | true =>
  rw [e2] at s2
  obtain rfl : t = true := by rw [ht, e1, e2]; rfl
  refine oP (s2) Try.call54 rfl rfl ?_
  repeat (first|refine zJ rfl rfl ?_|refine jr rfl ?_|refine jn ?_|refine zM rfl rfl ?_|(refine zC rfl rfl ?_ rfl ?_;omega)|(refine zD rfl rfl ?_ rfl ?_;omega)|(refine zP rfl ?_ rfl ?_;omega)|refine zG rfl rfl rfl rfl ?_|(refine jdq rfl rfl ?_ ?_ ?_;kernel_rfl;kernel_rfl)|refine zB rfl rfl rfl (by repeat constructor) rfl ?_|refine zH .here rfl rfl rfl rfl ?_|refine zH (.there .here) rfl rfl rfl rfl ?_|refine zH (.there (.there .here)) rfl rfl rfl rfl ?_)
  exact J_retv rfl (.tmp rfl .nil) [] (fun w s => s.drop) (PH.ler _) ⟨rfl, rfl⟩
end Go.Proofs.Ytifdlhafcfbeaaa
namespace Go.Proofs.Ytifdlhafcfbeaaa
open Go.RowKit
set_option maxRecDepth 100000

set_option maxHeartbeats 8000000 in
theorem letters_spec (a : Option Addr) (c : Nat) (L : List LtX) (F : PH) (hr : ltRow F (.slice a L.length c) L) (hn : L.length ≤ 1000) (hok : ∀ x ∈ L, LtOk x) : Pure Try.prog 57 [.slice a L.length c] F (.bool (risP ltLs letR none L && decide (L.length ≤ 16))) := by
  obtain ⟨t, ht⟩ : ∃ t, t = risP ltLs letR none L := ⟨_, rfl⟩
  rw [← ht]
  refine Spec.of1 Try.func57 rfl rfl fun X w0 => ?_
  repeat (first|refine zJ rfl rfl ?_|refine jr rfl ?_|refine jn ?_|refine zM rfl rfl ?_|(refine zC rfl rfl ?_ rfl ?_;omega)|(refine zD rfl rfl ?_ rfl ?_;omega)|(refine zP rfl ?_ rfl ?_;omega)|refine zG rfl rfl rfl rfl ?_|(refine jdq rfl rfl ?_ ?_ ?_;kernel_rfl;kernel_rfl)|refine zB rfl rfl rfl (by repeat constructor) rfl ?_|refine zH .here rfl rfl rfl rfl ?_|refine zH (.there .here) rfl rfl rfl rfl ?_|refine zH (.there (.there .here)) rfl rfl rfl rfl ?_)
  refine J_loop (ι := Nat) (fun i => i ≤ L.length ∧ t = risP ltLs letR (prevP L i) (L.drop i)) (fun i => L.length - i) (fun i => [(0, .slice a L.length c), (5, .slice a L.length c), (6, .int .i64 L.length), (7, .int .i64 i)]) (fun _ => F) (fun _ => X) 0 ⟨Nat.zero_le _, ht⟩ ⟨⟨rfl, rfl, rfl, rfl, trivial⟩, fun w s => s⟩ ?_
  rintro i ⟨hi, heq⟩
  clear ht
  by_cases hlt : i < L.length
  · have g1 : L[i]? = some L[i] := List.getElem?_eq_getElem hlt
    have hx := hok _ (List.getElem_mem hlt)
    rw [drop_cons g1] at heq
    have hpv : prevP L (i + 1) = some L[i] := g1
    generalize L[i] = y at *
    obtain ⟨b, off, rfl, hc⟩ := hr.at g1
    have hl1 := hx.1
    have hz1 := strOf_size y.2.2.2.2.1
    have hz2 := strOf_size y.2.2.2.2.2.1
    have sn := IsName_spec y.1 (by omega) F
    rcases i with _ | j
    · rw [show risP ltLs letR (prevP L 0) (y :: L.drop (0 + 1)) = (letR y && risP ltLs letR (some y) (L.drop (0 + 1))) from rfl] at heq
      have hbad : letR y = false → t = false := fun h => by rw [heq, h, Bool.false_and]
      have hgood : letR y = true → t = risP ltLs letR (some y) (L.drop (0 + 1)) := fun h => by rw [heq, h, Bool.true_and]
      clear heq
      repeat (first|refine zJ rfl rfl ?_|refine jr rfl ?_|refine jn ?_|refine zM rfl rfl ?_|(refine zC rfl rfl ?_ rfl ?_;omega)|(refine zD rfl rfl ?_ rfl ?_;omega)|(refine zP rfl ?_ rfl ?_;omega)|refine zG rfl rfl rfl rfl ?_|(refine jdq rfl rfl ?_ ?_ ?_;kernel_rfl;kernel_rfl)|refine zB rfl rfl rfl (by repeat constructor) rfl ?_|refine zH .here rfl rfl rfl rfl ?_|refine zH (.there .here) rfl rfl rfl rfl ?_|refine zH (.there (.there .here)) rfl rfl rfl rfl ?_)
      refine oS (ev_indexAddr (i := 0) rfl rfl rfl hlt) rfl ?_
      refine oS (ev_load_agg (cs := ltC y) rfl rfl (Rdb.ofF hc) (lt_len y)) rfl ?_
      refine oE (ev_alloc (cs := zLt) rfl) rfl ?_
      rintro _ _ _ _ ⟨rfl, b8, rfl, rfl⟩
      repeat (first|refine zJ rfl rfl ?_|refine jr rfl ?_|refine jn ?_|refine zM rfl rfl ?_|(refine zC rfl rfl ?_ rfl ?_;omega)|(refine zD rfl rfl ?_ rfl ?_;omega)|(refine zP rfl ?_ rfl ?_;omega)|refine zG rfl rfl rfl rfl ?_|(refine jdq rfl rfl ?_ ?_ ?_;kernel_rfl;kernel_rfl)|refine zB rfl rfl rfl (by repeat constructor) rfl ?_|refine zH .here rfl rfl rfl rfl ?_|refine zH (.there .here) rfl rfl rfl rfl ?_|refine zH (.there (.there .here)) rfl rfl rfl rfl ?_)
      refine oN (ev_store (b := b8) (off := 0) rfl rfl .agg rfl rfl (lay_all (zs := zLt) rfl) (lt_ones y) .here) rfl ?_
      rintro _ _ _ _ ⟨rfl, _, rfl⟩
      repeat (first|refine zJ rfl rfl ?_|refine jr rfl ?_|refine jn ?_|refine zM rfl rfl ?_|(refine zC rfl rfl ?_ rfl ?_;omega)|(refine zD rfl rfl ?_ rfl ?_;omega)|(refine zP rfl ?_ rfl ?_;omega)|refine zG rfl rfl rfl rfl ?_|(refine jdq rfl rfl ?_ ?_ ?_;kernel_rfl;kernel_rfl)|refine zB rfl rfl rfl (by repeat constructor) rfl ?_|refine zH .here rfl rfl rfl rfl ?_|refine zH (.there .here) rfl rfl rfl rfl ?_|refine zH (.there (.there .here)) rfl rfl rfl rfl ?_)
      cases hb : nameB y.1 with
      | false =>
        rw [hb] at sn
        obtain rfl := hbad (by unfold letR; rw [hb, Bool.false_and])
        refine oP (sn) Try.call22 rfl rfl ?_
        repeat (first|refine zJ rfl rfl ?_|refine jr rfl ?_|refine jn ?_|refine zM rfl rfl ?_|(refine zC rfl rfl ?_ rfl ?_;omega)|(refine zD rfl rfl ?_ rfl ?_;omega)|(refine zP rfl ?_ rfl ?_;omega)|refine zG rfl rfl rfl rfl ?_|(refine jdq rfl rfl ?_ ?_ ?_;kernel_rfl;kernel_rfl)|refine zB rfl rfl rfl (by repeat constructor) rfl ?_|refine zH .here rfl rfl rfl rfl ?_|refine zH (.there .here) rfl rfl rfl rfl ?_|refine zH (.there (.there .here)) rfl rfl rfl rfl ?_)
        exact J_retv rfl (.tmp rfl .nil) [] (fun w s => s.drop) (PH.ler _) ⟨rfl, rfl⟩
      | true =>
      rw [hb] at sn
      refine oP (sn) Try.call22 rfl rfl ?_
      by_cases h1 : 1 ≤ y.2.1
      rotate_left
      · obtain rfl := hbad (letR_f rfl (by omega))
        repeat (first|refine zJ rfl rfl ?_|refine jr rfl ?_|refine jn ?_|refine zM rfl rfl ?_|(refine zC rfl rfl ?_ rfl ?_;omega)|(refine zD rfl rfl ?_ rfl ?_;omega)|(refine zP rfl ?_ rfl ?_;omega)|refine zG rfl rfl rfl rfl ?_|(refine jdq rfl rfl ?_ ?_ ?_;kernel_rfl;kernel_rfl)|refine zB rfl rfl rfl (by repeat constructor) rfl ?_|refine zH .here rfl rfl rfl rfl ?_|refine zH (.there .here) rfl rfl rfl rfl ?_|refine zH (.there (.there .here)) rfl rfl rfl rfl ?_)
        exact J_retv rfl (.tmp rfl .nil) [] (fun w s => s.drop) (PH.ler _) ⟨rfl, rfl⟩
      by_cases h2 : y.2.1 ≤ 7
      rotate_left
      · obtain rfl := hbad (letR_f rfl (by omega))
        repeat (first|refine zJ rfl rfl ?_|refine jr rfl ?_|refine jn ?_|refine zM rfl rfl ?_|(refine zC rfl rfl ?_ rfl ?_;omega)|(refine zD rfl rfl ?_ rfl ?_;omega)|(refine zP rfl ?_ rfl ?_;omega)|refine zG rfl rfl rfl rfl ?_|(refine jdq rfl rfl ?_ ?_ ?_;kernel_rfl;kernel_rfl)|refine zB rfl rfl rfl (by repeat constructor) rfl ?_|refine zH .here rfl rfl rfl rfl ?_|refine zH (.there .here) rfl rfl rfl rfl ?_|refine zH (.there (.there .here)) rfl rfl rfl rfl ?_)
        exact J_retv rfl (.tmp rfl .nil) [] (fun w s => s.drop) (PH.ler _) ⟨rfl, rfl⟩
      by_cases h3 : 1 ≤ y.2.2.1
      rotate_left
      · obtain rfl := hbad (letR_f rfl (by omega))
        repeat (first|refine zJ rfl rfl ?_|refine jr rfl ?_|refine jn ?_|refine zM rfl rfl ?_|(refine zC rfl rfl ?_ rfl ?_;omega)|(refine zD rfl rfl ?_ rfl ?_;omega)|(refine zP rfl ?_ rfl ?_;omega)|refine zG rfl rfl rfl rfl ?_|(refine jdq rfl rfl ?_ ?_ ?_;kernel_rfl;kernel_rfl)|refine zB rfl rfl rfl (by repeat constructor) rfl ?_|refine zH .here rfl rfl rfl rfl ?_|refine zH (.there .here) rfl rfl rfl rfl ?_|refine zH (.there (.there .here)) rfl rfl rfl rfl ?_)
        exact J_retv rfl (.tmp rfl .nil) [] (fun w s => s.drop) (PH.ler _) ⟨rfl, rfl⟩
      repeat (first|refine zJ rfl rfl ?_|refine jr rfl ?_|refine jn ?_|refine zM rfl rfl ?_|(refine zC rfl rfl ?_ rfl ?_;omega)|(refine zD rfl rfl ?_ rfl ?_;omega)|(refine zP rfl ?_ rfl ?_;omega)|refine zG rfl rfl rfl rfl ?_|(refine jdq rfl rfl ?_ ?_ ?_;kernel_rfl;kernel_rfl)|refine zB rfl rfl rfl (by repeat constructor) rfl ?_|refine zH .here rfl rfl rfl rfl ?_|refine zH (.there .here) rfl rfl rfl rfl ?_|refine zH (.there (.there .here)) rfl rfl rfl rfl ?_)
      have h4s := ris_spec y.2.2.1 F
      by_cases h4 : 0 ≤ y.2.2.1 ∧ y.2.2.1 ≤ 1099511627776
      rotate_left
      · obtain rfl := hbad (letR_f rfl (by omega))
        rw [decide_eq_false h4] at h4s
        refine oP (h4s) Try.call56 rfl rfl ?_
        repeat (first|refine zJ rfl rfl ?_|refine jr rfl ?_|refine jn ?_|refine zM rfl rfl ?_|(refine zC rfl rfl ?_ rfl ?_;omega)|(refine zD rfl rfl ?_ rfl ?_;omega)|(refine zP rfl ?_ rfl ?_;omega)|refine zG rfl rfl rfl rfl ?_|(refine jdq rfl rfl ?_ ?_ ?_;kernel_rfl;kernel_rfl)|refine zB rfl rfl rfl (by repeat constructor) rfl ?_|refine zH .here rfl rfl rfl rfl ?_|refine zH (.there .here) rfl rfl rfl rfl ?_|refine zH (.there (.there .here)) rfl rfl rfl rfl ?_)
        exact J_retv rfl (.tmp rfl .nil) [] (fun w s => s.drop) (PH.ler _) ⟨rfl, rfl⟩
      rw [decide_eq_true h4] at h4s
      refine oP (h4s) Try.call56 rfl rfl ?_
      repeat (first|refine zJ rfl rfl ?_|refine jr rfl ?_|refine jn ?_|refine zM rfl rfl ?_|(refine zC rfl rfl ?_ rfl ?_;omega)|(refine zD rfl rfl ?_ rfl ?_;omega)|(refine zP rfl ?_ rfl ?_;omega)|refine zG rfl rfl rfl rfl ?_|(refine jdq rfl rfl ?_ ?_ ?_;kernel_rfl;kernel_rfl)|refine zB rfl rfl rfl (by repeat constructor) rfl ?_|refine zH .here rfl rfl rfl rfl ?_|refine zH (.there .here) rfl rfl rfl rfl ?_|refine zH (.there (.there .here)) rfl rfl rfl rfl ?_)
      have h5s := day_spec y.2.2.2.1 F
      by_cases h5 : 0 ≤ y.2.2.2.1 ∧ y.2.2.2.1 ≤ 1099511627776
      rotate_left
      · obtain rfl := hbad (letR_f rfl (by omega))
        rw [decide_eq_false h5] at h5s
        refine oP (h5s) Try.call82 rfl rfl ?_
        repeat (first|refine zJ rfl rfl ?_|refine jr rfl ?_|refine jn ?_|refine zM rfl rfl ?_|(refine zC rfl rfl ?_ rfl ?_;omega)|(refine zD rfl rfl ?_ rfl ?_;omega)|(refine zP rfl ?_ rfl ?_;omega)|refine zG rfl rfl rfl rfl ?_|(refine jdq rfl rfl ?_ ?_ ?_;kernel_rfl;kernel_rfl)|refine zB rfl rfl rfl (by repeat constructor) rfl ?_|refine zH .here rfl rfl rfl rfl ?_|refine zH (.there .here) rfl rfl rfl rfl ?_|refine zH (.there (.there .here)) rfl rfl rfl rfl ?_)
        exact J_retv rfl (.tmp rfl .nil) [] (fun w s => s.drop) (PH.ler _) ⟨rfl, rfl⟩
      rw [decide_eq_true h5] at h5s
      refine oP (h5s) Try.call82 rfl rfl ?_
      by_cases h6 : y.2.2.2.2.1.length ≤ 200
      rotate_left
      · obtain rfl := hbad (letR_f rfl (by omega))
        repeat (first|refine zJ rfl rfl ?_|refine jr rfl ?_|refine jn ?_|refine zM rfl rfl ?_|(refine zC rfl rfl ?_ rfl ?_;omega)|(refine zD rfl rfl ?_ rfl ?_;omega)|(refine zP rfl ?_ rfl ?_;omega)|refine zG rfl rfl rfl rfl ?_|(refine jdq rfl rfl ?_ ?_ ?_;kernel_rfl;kernel_rfl)|refine zB rfl rfl rfl (by repeat constructor) rfl ?_|refine zH .here rfl rfl rfl rfl ?_|refine zH (.there .here) rfl rfl rfl rfl ?_|refine zH (.there (.there .here)) rfl rfl rfl rfl ?_)
        exact J_retv rfl (.tmp rfl .nil) [] (fun w s => s.drop) (PH.ler _) ⟨rfl, rfl⟩
      by_cases h7 : y.2.2.2.2.2.1.length ≤ 200
      rotate_left
      · obtain rfl := hbad (letR_f rfl (by omega))
        repeat (first|refine zJ rfl rfl ?_|refine jr rfl ?_|refine jn ?_|refine zM rfl rfl ?_|(refine zC rfl rfl ?_ rfl ?_;omega)|(refine zD rfl rfl ?_ rfl ?_;omega)|(refine zP rfl ?_ rfl ?_;omega)|refine zG rfl rfl rfl rfl ?_|(refine jdq rfl rfl ?_ ?_ ?_;kernel_rfl;kernel_rfl)|refine zB rfl rfl rfl (by repeat constructor) rfl ?_|refine zH .here rfl rfl rfl rfl ?_|refine zH (.there .here) rfl rfl rfl rfl ?_|refine zH (.there (.there .here)) rfl rfl rfl rfl ?_)
        exact J_retv rfl (.tmp rfl .nil) [] (fun w s => s.drop) (PH.ler _) ⟨rfl, rfl⟩
      have hgo := hgood (by unfold letR; rw [hb, decide_eq_true (by omega)]; rfl)
      repeat (first|refine zJ rfl rfl ?_|refine jr rfl ?_|refine jn ?_|refine zM rfl rfl ?_|(refine zC rfl rfl ?_ rfl ?_;omega)|(refine zD rfl rfl ?_ rfl ?_;omega)|(refine zP rfl ?_ rfl ?_;omega)|refine zG rfl rfl rfl rfl ?_|(refine jdq rfl rfl ?_ ?_ ?_;kernel_rfl;kernel_rfl)|refine zB rfl rfl rfl (by repeat constructor) rfl ?_|refine zH .here rfl rfl rfl rfl ?_|refine zH (.there .here) rfl rfl rfl rfl ?_|refine zH (.there (.there .here)) rfl rfl rfl rfl ?_)
      exact J_again 1 ⟨hlt, hgo.trans (by rw [hpv])⟩ (by omega) ⟨⟨rfl, rfl, rfl, rfl, trivial⟩, fun w s => s.drop⟩
    · have g2 : L[j]? = some L[j] := List.getElem?_eq_getElem (by omega)
      obtain ⟨b', off', e', hc'⟩ := hr.at g2
      obtain ⟨rfl, rfl⟩ : b = b' ∧ off = off' := by simpa using e'
      generalize L[j] = q at *
      have ix : some (Value.int .i64 (((j + 1 : Nat) : Int) - 1)) = some (Value.int .i64 (j : Int)) := by congr 2; omega
      rw [show prevP L (j + 1) = some q from g2, show risP ltLs letR (some q) (y :: L.drop (j + 1 + 1)) = (ltLs q y && (letR y && risP ltLs letR (some y) (L.drop (j + 1 + 1)))) from rfl] at heq
      repeat (first|refine zJ rfl rfl ?_|refine jr rfl ?_|refine jn ?_|refine zM rfl rfl ?_|(refine zC rfl rfl ?_ rfl ?_;omega)|(refine zD rfl rfl ?_ rfl ?_;omega)|(refine zP rfl ?_ rfl ?_;omega)|refine zG rfl rfl rfl rfl ?_|(refine jdq rfl rfl ?_ ?_ ?_;kernel_rfl;kernel_rfl)|refine zB rfl rfl rfl (by repeat constructor) rfl ?_|refine zH .here rfl rfl rfl rfl ?_|refine zH (.there .here) rfl rfl rfl rfl ?_|refine zH (.there (.there .here)) rfl rfl rfl rfl ?_)
      refine oS (ev_indexAddr (i := j + 1) rfl rfl rfl hlt) rfl ?_
      refine oS (ev_load_agg (cs := ltC y) rfl rfl (Rdb.ofF hc) (lt_len y)) rfl ?_
      refine oE (ev_alloc (cs := zLt) rfl) rfl ?_
      rintro _ _ _ _ ⟨rfl, b8, rfl, rfl⟩
      repeat (first|refine zJ rfl rfl ?_|refine jr rfl ?_|refine jn ?_|refine zM rfl rfl ?_|(refine zC rfl rfl ?_ rfl ?_;omega)|(refine zD rfl rfl ?_ rfl ?_;omega)|(refine zP rfl ?_ rfl ?_;omega)|refine zG rfl rfl rfl rfl ?_|(refine jdq rfl rfl ?_ ?_ ?_;kernel_rfl;kernel_rfl)|refine zB rfl rfl rfl (by repeat constructor) rfl ?_|refine zH .here rfl rfl rfl rfl ?_|refine zH (.there .here) rfl rfl rfl rfl ?_|refine zH (.there (.there .here)) rfl rfl rfl rfl ?_)
      refine oN (ev_store (b := b8) (off := 0) rfl rfl .agg rfl rfl (lay_all (zs := zLt) rfl) (lt_ones y) .here) rfl ?_
      rintro _ _ _ _ ⟨rfl, _, rfl⟩
      repeat (first|refine zJ rfl rfl ?_|refine jr rfl ?_|refine jn ?_|refine zM rfl rfl ?_|(refine zC rfl rfl ?_ rfl ?_;omega)|(refine zD rfl rfl ?_ rfl ?_;omega)|(refine zP rfl ?_ rfl ?_;omega)|refine zG rfl rfl rfl rfl ?_|(refine jdq rfl rfl ?_ ?_ ?_;kernel_rfl;kernel_rfl)|refine zB rfl rfl rfl (by repeat constructor) rfl ?_|refine zH .here rfl rfl rfl rfl ?_|refine zH (.there .here) rfl rfl rfl rfl ?_|refine zH (.there (.there .here)) rfl rfl rfl rfl ?_)
      refine oS (ev_indexAddr (i := j) rfl ix rfl (by omega)) rfl ?_
      refine oS (ev_fieldAddr rfl rfl) rfl ?_
      refine oS (ev_load (v := .string (strOf q.1)) rfl rfl (Rdb.ofF (Cells.one hc' 0 rfl))) rfl ?_
      repeat (first|refine zJ rfl rfl ?_|refine jr rfl ?_|refine jn ?_|refine zM rfl rfl ?_|(refine zC rfl rfl ?_ rfl ?_;omega)|(refine zD rfl rfl ?_ rfl ?_;omega)|(refine zP rfl ?_ rfl ?_;omega)|refine zG rfl rfl rfl rfl ?_|(refine jdq rfl rfl ?_ ?_ ?_;kernel_rfl;kernel_rfl)|refine zB rfl rfl rfl (by repeat constructor) rfl ?_|refine zH .here rfl rfl rfl rfl ?_|refine zH (.there .here) rfl rfl rfl rfl ?_|refine zH (.there (.there .here)) rfl rfl rfl rfl ?_)
      refine oS (v := .bool (!ltLs q y)) (ev_sgeq rfl rfl) rfl ?_
      cases hq : ltLs q y with
      | false =>
        rw [hq, Bool.false_and] at heq
        obtain rfl := heq
        repeat (first|refine zJ rfl rfl ?_|refine jr rfl ?_|refine jn ?_|refine zM rfl rfl ?_|(refine zC rfl rfl ?_ rfl ?_;omega)|(refine zD rfl rfl ?_ rfl ?_;omega)|(refine zP rfl ?_ rfl ?_;omega)|refine zG rfl rfl rfl rfl ?_|(refine jdq rfl rfl ?_ ?_ ?_;kernel_rfl;kernel_rfl)|refine zB rfl rfl rfl (by repeat constructor) rfl ?_|refine zH .here rfl rfl rfl rfl ?_|refine zH (.there .here) rfl rfl rfl rfl ?_|refine zH (.there (.there .here)) rfl rfl rfl rfl ?_)
        exact J_retv rfl (.tmp rfl .nil) [] (fun w s => s.drop) (PH.ler _) ⟨rfl, rfl⟩
      | true =>
      rw [hq, Bool.true_and] at heq
      have hbad : letR y = false → t = false := fun h => by rw [heq, h, Bool.false_and]
      have hgood : letR y = true → t = risP ltLs letR (some y) (L.drop (j + 1 + 1)) := fun h => by rw [heq, h, Bool.true_and]
      clear heq
      repeat (first|refine zJ rfl rfl ?_|refine jr rfl ?_|refine jn ?_|refine zM rfl rfl ?_|(refine zC rfl rfl ?_ rfl ?_;omega)|(refine zD rfl rfl ?_ rfl ?_;omega)|(refine zP rfl ?_ rfl ?_;omega)|refine zG rfl rfl rfl rfl ?_|(refine jdq rfl rfl ?_ ?_ ?_;kernel_rfl;kernel_rfl)|refine zB rfl rfl rfl (by repeat constructor) rfl ?_|refine zH .here rfl rfl rfl rfl ?_|refine zH (.there .here) rfl rfl rfl rfl ?_|refine zH (.there (.there .here)) rfl rfl rfl rfl ?_)
      cases hb : nameB y.1 with
      | false =>
        rw [hb] at sn
        obtain rfl := hbad (by unfold letR; rw [hb, Bool.false_and])
        refine oP (sn) Try.call22 rfl rfl ?_
        repeat (first|refine zJ rfl rfl ?_|refine jr rfl ?_|refine jn ?_|refine zM rfl rfl ?_|(refine zC rfl rfl ?_ rfl ?_;omega)|(refine zD rfl rfl ?_ rfl ?_;omega)|(refine zP rfl ?_ rfl ?_;omega)|refine zG rfl rfl rfl rfl ?_|(refine jdq rfl rfl ?_ ?_ ?_;kernel_rfl;kernel_rfl)|refine zB rfl rfl rfl (by repeat constructor) rfl ?_|refine zH .here rfl rfl rfl rfl ?_|refine zH (.there .here) rfl rfl rfl rfl ?_|refine zH (.there (.there .here)) rfl rfl rfl rfl ?_)
        exact J_retv rfl (.tmp rfl .nil) [] (fun w s => s.drop) (PH.ler _) ⟨rfl, rfl⟩
      | true =>
      rw [hb] at sn
      refine oP (sn) Try.call22 rfl rfl ?_
      by_cases h1 : 1 ≤ y.2.1
      rotate_left
      · obtain rfl := hbad (letR_f rfl (by omega))
        repeat (first|refine zJ rfl rfl ?_|refine jr rfl ?_|refine jn ?_|refine zM rfl rfl ?_|(refine zC rfl rfl ?_ rfl ?_;omega)|(refine zD rfl rfl ?_ rfl ?_;omega)|(refine zP rfl ?_ rfl ?_;omega)|refine zG rfl rfl rfl rfl ?_|(refine jdq rfl rfl ?_ ?_ ?_;kernel_rfl;kernel_rfl)|refine zB rfl rfl rfl (by repeat constructor) rfl ?_|refine zH .here rfl rfl rfl rfl ?_|refine zH (.there .here) rfl rfl rfl rfl ?_|refine zH (.there (.there .here)) rfl rfl rfl rfl ?_)
        exact J_retv rfl (.tmp rfl .nil) [] (fun w s => s.drop) (PH.ler _) ⟨rfl, rfl⟩
      by_cases h2 : y.2.1 ≤ 7
      rotate_left
      · obtain rfl := hbad (letR_f rfl (by omega))
        repeat (first|refine zJ rfl rfl ?_|refine jr rfl ?_|refine jn ?_|refine zM rfl rfl ?_|(refine zC rfl rfl ?_ rfl ?_;omega)|(refine zD rfl rfl ?_ rfl ?_;omega)|(refine zP rfl ?_ rfl ?_;omega)|refine zG rfl rfl rfl rfl ?_|(refine jdq rfl rfl ?_ ?_ ?_;kernel_rfl;kernel_rfl)|refine zB rfl rfl rfl (by repeat constructor) rfl ?_|refine zH .here rfl rfl rfl rfl ?_|refine zH (.there .here) rfl rfl rfl rfl ?_|refine zH (.there (.there .here)) rfl rfl rfl rfl ?_)
        exact J_retv rfl (.tmp rfl .nil) [] (fun w s => s.drop) (PH.ler _) ⟨rfl, rfl⟩
      by_cases h3 : 1 ≤ y.2.2.1
      rotate_left
      · obtain rfl := hbad (letR_f rfl (by omega))
        repeat (first|refine zJ rfl rfl ?_|refine jr rfl ?_|refine jn ?_|refine zM rfl rfl ?_|(refine zC rfl rfl ?_ rfl ?_;omega)|(refine zD rfl rfl ?_ rfl ?_;omega)|(refine zP rfl ?_ rfl ?_;omega)|refine zG rfl rfl rfl rfl ?_|(refine jdq rfl rfl ?_ ?_ ?_;kernel_rfl;kernel_rfl)|refine zB rfl rfl rfl (by repeat constructor) rfl ?_|refine zH .here rfl rfl rfl rfl ?_|refine zH (.there .here) rfl rfl rfl rfl ?_|refine zH (.there (.there .here)) rfl rfl rfl rfl ?_)
        exact J_retv rfl (.tmp rfl .nil) [] (fun w s => s.drop) (PH.ler _) ⟨rfl, rfl⟩
      repeat (first|refine zJ rfl rfl ?_|refine jr rfl ?_|refine jn ?_|refine zM rfl rfl ?_|(refine zC rfl rfl ?_ rfl ?_;omega)|(refine zD rfl rfl ?_ rfl ?_;omega)|(refine zP rfl ?_ rfl ?_;omega)|refine zG rfl rfl rfl rfl ?_|(refine jdq rfl rfl ?_ ?_ ?_;kernel_rfl;kernel_rfl)|refine zB rfl rfl rfl (by repeat constructor) rfl ?_|refine zH .here rfl rfl rfl rfl ?_|refine zH (.there .here) rfl rfl rfl rfl ?_|refine zH (.there (.there .here)) rfl rfl rfl rfl ?_)
      have h4s := ris_spec y.2.2.1 F
      by_cases h4 : 0 ≤ y.2.2.1 ∧ y.2.2.1 ≤ 1099511627776
      rotate_left
      · obtain rfl := hbad (letR_f rfl (by omega))
        rw [decide_eq_false h4] at h4s
        refine oP (h4s) Try.call56 rfl rfl ?_
        repeat (first|refine zJ rfl rfl ?_|refine jr rfl ?_|refine jn ?_|refine zM rfl rfl ?_|(refine zC rfl rfl ?_ rfl ?_;omega)|(refine zD rfl rfl ?_ rfl ?_;omega)|(refine zP rfl ?_ rfl ?_;omega)|refine zG rfl rfl rfl rfl ?_|(refine jdq rfl rfl ?_ ?_ ?_;kernel_rfl;kernel_rfl)|refine zB rfl rfl rfl (by repeat constructor) rfl ?_|refine zH .here rfl rfl rfl rfl ?_|refine zH (.there .here) rfl rfl rfl rfl ?_|refine zH (.there (.there .here)) rfl rfl rfl rfl ?_)
        exact J_retv rfl (.tmp rfl .nil) [] (fun w s => s.drop) (PH.ler _) ⟨rfl, rfl⟩
      rw [decide_eq_true h4] at h4s
      refine oP (h4s) Try.call56 rfl rfl ?_
      repeat (first|refine zJ rfl rfl ?_|refine jr rfl ?_|refine jn ?_|refine zM rfl rfl ?_|(refine zC rfl rfl ?_ rfl ?_;omega)|(refine zD rfl rfl ?_ rfl ?_;omega)|(refine zP rfl ?_ rfl ?_;omega)|refine zG rfl rfl rfl rfl ?_|(refine jdq rfl rfl ?_ ?_ ?_;kernel_rfl;kernel_rfl)|refine zB rfl rfl rfl (by repeat constructor) rfl ?_|refine zH .here rfl rfl rfl rfl ?_|refine zH (.there .here) rfl rfl rfl rfl ?_|refine zH (.there (.there .here)) rfl rfl rfl rfl ?_)
      have h5s := day_spec y.2.2.2.1 F
      by_cases h5 : 0 ≤ y.2.2.2.1 ∧ y.2.2.2.1 ≤ 1099511627776
      rotate_left
      · obtain rfl := hbad (letR_f rfl (by omega))
        rw [decide_eq_false h5] at h5s
        refine oP (h5s) Try.call82 rfl rfl ?_
        repeat (first|refine zJ rfl rfl ?_|refine jr rfl ?_|refine jn ?_|refine zM rfl rfl ?_|(refine zC rfl rfl ?_ rfl ?_;omega)|(refine zD rfl rfl ?_ rfl ?_;omega)|(refine zP rfl ?_ rfl ?_;omega)|refine zG rfl rfl rfl rfl ?_|(refine jdq rfl rfl ?_ ?_ ?_;kernel_rfl;kernel_rfl)|refine zB rfl rfl rfl (by repeat constructor) rfl ?_|refine zH .here rfl rfl rfl rfl ?_|refine zH (.there .here) rfl rfl rfl rfl ?_|refine zH (.there (.there .here)) rfl rfl rfl rfl ?_)
        exact J_retv rfl (.tmp rfl .nil) [] (fun w s => s.drop) (PH.ler _) ⟨rfl, rfl⟩
      rw [decide_eq_true h5] at h5s
      refine oP (h5s) Try.call82 rfl rfl ?_
      by_cases h6 : y.2.2.2.2.1.length ≤ 200
      rotate_left
      · obtain rfl := hbad (letR_f rfl (by omega))
        repeat (first|refine zJ rfl rfl ?_|refine jr rfl ?_|refine jn ?_|refine zM rfl rfl ?_|(refine zC rfl rfl ?_ rfl ?_;omega)|(refine zD rfl rfl ?_ rfl ?_;omega)|(refine zP rfl ?_ rfl ?_;omega)|refine zG rfl rfl rfl rfl ?_|(refine jdq rfl rfl ?_ ?_ ?_;kernel_rfl;kernel_rfl)|refine zB rfl rfl rfl (by repeat constructor) rfl ?_|refine zH .here rfl rfl rfl rfl ?_|refine zH (.there .here) rfl rfl rfl rfl ?_|refine zH (.there (.there .here)) rfl rfl rfl rfl ?_)
        exact J_retv rfl (.tmp rfl .nil) [] (fun w s => s.drop) (PH.ler _) ⟨rfl, rfl⟩
      by_cases h7 : y.2.2.2.2.2.1.length ≤ 200
      rotate_left
      · obtain rfl := hbad (letR_f rfl (by omega))
        repeat (first|refine zJ rfl rfl ?_|refine jr rfl ?_|refine jn ?_|refine zM rfl rfl ?_|(refine zC rfl rfl ?_ rfl ?_;omega)|(refine zD rfl rfl ?_ rfl ?_;omega)|(refine zP rfl ?_ rfl ?_;omega)|refine zG rfl rfl rfl rfl ?_|(refine jdq rfl rfl ?_ ?_ ?_;kernel_rfl;kernel_rfl)|refine zB rfl rfl rfl (by repeat constructor) rfl ?_|refine zH .here rfl rfl rfl rfl ?_|refine zH (.there .here) rfl rfl rfl rfl ?_|refine zH (.there (.there .here)) rfl rfl rfl rfl ?_)
        exact J_retv rfl (.tmp rfl .nil) [] (fun w s => s.drop) (PH.ler _) ⟨rfl, rfl⟩
      have hgo := hgood (by unfold letR; rw [hb, decide_eq_true (by omega)]; rfl)
      repeat (first|refine zJ rfl rfl ?_|refine jr rfl ?_|refine jn ?_|refine zM rfl rfl ?_|(refine zC rfl rfl ?_ rfl ?_;omega)|(refine zD rfl rfl ?_ rfl ?_;omega)|(refine zP rfl ?_ rfl ?_;omega)|refine zG rfl rfl rfl rfl ?_|(refine jdq rfl rfl ?_ ?_ ?_;kernel_rfl;kernel_rfl)|refine zB rfl rfl rfl (by repeat constructor) rfl ?_|refine zH .here rfl rfl rfl rfl ?_|refine zH (.there .here) rfl rfl rfl rfl ?_|refine zH (.there (.there .here)) rfl rfl rfl rfl ?_)
      exact J_again (j + 1 + 1) ⟨hlt, hgo.trans (by rw [hpv])⟩ (by omega) ⟨⟨rfl, rfl, rfl, rfl, trivial⟩, fun w s => s.drop⟩
  · obtain rfl : i = L.length := by omega
    rw [List.drop_length] at heq
    obtain rfl : t = true := by rw [heq]; cases prevP L L.length <;> rfl
    by_cases h16 : L.length ≤ 16
    · rw [decide_eq_true h16]
      repeat (first|refine zJ rfl rfl ?_|refine jr rfl ?_|refine jn ?_|refine zM rfl rfl ?_|(refine zC rfl rfl ?_ rfl ?_;omega)|(refine zD rfl rfl ?_ rfl ?_;omega)|(refine zP rfl ?_ rfl ?_;omega)|refine zG rfl rfl rfl rfl ?_|(refine jdq rfl rfl ?_ ?_ ?_;kernel_rfl;kernel_rfl)|refine zB rfl rfl rfl (by repeat constructor) rfl ?_|refine zH .here rfl rfl rfl rfl ?_|refine zH (.there .here) rfl rfl rfl rfl ?_|refine zH (.there (.there .here)) rfl rfl rfl rfl ?_)
      exact J_retv rfl (.tmp rfl .nil) [] (fun w s => s) (PH.ler _) ⟨rfl, rfl⟩
    · rw [decide_eq_false h16]
      repeat (first|refine zJ rfl rfl ?_|refine jr rfl ?_|refine jn ?_|refine zM rfl rfl ?_|(refine zC rfl rfl ?_ rfl ?_;omega)|(refine zD rfl rfl ?_ rfl ?_;omega)|(refine zP rfl ?_ rfl ?_;omega)|refine zG rfl rfl rfl rfl ?_|(refine jdq rfl rfl ?_ ?_ ?_;kernel_rfl;kernel_rfl)|refine zB rfl rfl rfl (by repeat constructor) rfl ?_|refine zH .here rfl rfl rfl rfl ?_|refine zH (.there .here) rfl rfl rfl rfl ?_|refine zH (.there (.there .here)) rfl rfl rfl rfl ?_)
      exact J_retv rfl (.tmp rfl .nil) [] (fun w s => s) (PH.ler _) ⟨rfl, rfl⟩

set_option maxHeartbeats 8000000 in
theorem Right_spec (l : LgX) (cs : List Value) (F : PH) (h : LgV F cs l) (hn : l.2.2.1.length ≤ 1000) (hm : l.2.2.2.1.length ≤ 1000) (hok : ∀ x ∈ l.2.2.1, LtOk x) : Pure Try.prog 24 [.agg cs.toArray] F (.bool (rightL l)) := by
  obtain ⟨t, ht⟩ : ∃ t, t = rightL l := ⟨_, rfl⟩
  rw [← ht]
  have htf := rightL_f ht
  unfold rightL at ht
  obtain ⟨s, tt, L, O, _⟩ := l
  obtain ⟨vl, vo, rfl, hL, hO⟩ := h
  dsimp only at hL hO hn hm hok ht htf ⊢
  obtain ⟨r, hrr⟩ : ∃ r, r = risP ouLs ouR none O := ⟨_, rfl⟩
  rw [← hrr] at ht
  have hrf : r = false → t = false := fun h => by rw [ht, h, Bool.and_false, Bool.and_false]
  refine Spec.of1 Try.func24 rfl rfl fun X w0 => ?_
  obtain ⟨al, cl, rfl, _⟩ := hL.form
  obtain ⟨ao, co, rfl, _⟩ := hO.form
  unfold lgC
  refine jc rfl rfl ?_
  refine jr rfl ?_
  refine oE (ev_box rfl .agg) rfl ?_; rintro _ _ _ _ ⟨rfl, b1, rfl, rfl⟩
  repeat (first|refine zJ rfl rfl ?_|refine jr rfl ?_|refine jn ?_|refine zM rfl rfl ?_|(refine zC rfl rfl ?_ rfl ?_;omega)|(refine zD rfl rfl ?_ rfl ?_;omega)|(refine zP rfl ?_ rfl ?_;omega)|refine zG rfl rfl rfl rfl ?_|(refine jdq rfl rfl ?_ ?_ ?_;kernel_rfl;kernel_rfl)|refine zB rfl rfl rfl (by repeat constructor) rfl ?_|refine zH .here rfl rfl rfl rfl ?_|refine zH (.there .here) rfl rfl rfl rfl ?_|refine zH (.there (.there .here)) rfl rfl rfl rfl ?_)
  refine J_loop (ι := Nat) (fun i => i ≤ O.length ∧ r = risP ouLs ouR (prevP O i) (O.drop i)) (fun i => O.length - i) (fun i => [(1, .pointer (some ⟨b1, 0, none⟩)), (6, .slice ao O.length co), (7, .int .i64 O.length), (8, .int .i64 i)]) (fun _ => F) (fun _ => blk b1 27 [.int .i64 s, .int .i64 tt, .slice al L.length cl, .slice ao O.length co] :: X) 0 ⟨Nat.zero_le _, hrr⟩ ⟨⟨rfl, rfl, rfl, rfl, trivial⟩, fun w s => s⟩ ?_
  rintro i ⟨hi, heq⟩
  clear hrr
  by_cases hlt : i < O.length
  · have g1 : O[i]? = some O[i] := List.getElem?_eq_getElem hlt
    rw [drop_cons g1] at heq
    have hpv : prevP O (i + 1) = some O[i] := g1
    generalize O[i] = y at *
    obtain ⟨b, off, rfl, hc⟩ := hO.at g1
    rcases i with _ | j
    · rw [show risP ouLs ouR (prevP O 0) (y :: O.drop (0 + 1)) = (ouR y && risP ouLs ouR (some y) (O.drop (0 + 1))) from rfl] at heq
      have hbad : ouR y = false → t = false := fun h => hrf (by rw [heq, h, Bool.false_and])
      have hgood : ouR y = true → r = risP ouLs ouR (some y) (O.drop (0 + 1)) := fun h => by rw [heq, h, Bool.true_and]
      clear heq
      repeat (first|refine zJ rfl rfl ?_|refine jr rfl ?_|refine jn ?_|refine zM rfl rfl ?_|(refine zC rfl rfl ?_ rfl ?_;omega)|(refine zD rfl rfl ?_ rfl ?_;omega)|(refine zP rfl ?_ rfl ?_;omega)|refine zG rfl rfl rfl rfl ?_|(refine jdq rfl rfl ?_ ?_ ?_;kernel_rfl;kernel_rfl)|refine zB rfl rfl rfl (by repeat constructor) rfl ?_|refine zH .here rfl rfl rfl rfl ?_|refine zH (.there .here) rfl rfl rfl rfl ?_|refine zH (.there (.there .here)) rfl rfl rfl rfl ?_)
      refine oS (ev_indexAddr (i := 0) rfl rfl rfl hlt) rfl ?_
      refine oS (ev_load_agg (cs := ouC y) rfl rfl (Rdb.ofF hc) (ou_len y)) rfl ?_
      refine oE (ev_alloc (cs := zOu) rfl) rfl ?_
      rintro _ _ _ _ ⟨rfl, b8, rfl, rfl⟩
      repeat (first|refine zJ rfl rfl ?_|refine jr rfl ?_|refine jn ?_|refine zM rfl rfl ?_|(refine zC rfl rfl ?_ rfl ?_;omega)|(refine zD rfl rfl ?_ rfl ?_;omega)|(refine zP rfl ?_ rfl ?_;omega)|refine zG rfl rfl rfl rfl ?_|(refine jdq rfl rfl ?_ ?_ ?_;kernel_rfl;kernel_rfl)|refine zB rfl rfl rfl (by repeat constructor) rfl ?_|refine zH .here rfl rfl rfl rfl ?_|refine zH (.there .here) rfl rfl rfl rfl ?_|refine zH (.there (.there .here)) rfl rfl rfl rfl ?_)
      refine oN (ev_store (b := b8) (off := 0) rfl rfl .agg rfl rfl (lay_all (zs := zOu) rfl) (ou_ones y) .here) rfl ?_
      rintro _ _ _ _ ⟨rfl, _, rfl⟩
      by_cases h1 : 0 ≤ y.1
      rotate_left
      · obtain rfl := hbad (by unfold ouR; exact decide_eq_false (by omega))
        repeat (first|refine zJ rfl rfl ?_|refine jr rfl ?_|refine jn ?_|refine zM rfl rfl ?_|(refine zC rfl rfl ?_ rfl ?_;omega)|(refine zD rfl rfl ?_ rfl ?_;omega)|(refine zP rfl ?_ rfl ?_;omega)|refine zG rfl rfl rfl rfl ?_|(refine jdq rfl rfl ?_ ?_ ?_;kernel_rfl;kernel_rfl)|refine zB rfl rfl rfl (by repeat constructor) rfl ?_|refine zH .here rfl rfl rfl rfl ?_|refine zH (.there .here) rfl rfl rfl rfl ?_|refine zH (.there (.there .here)) rfl rfl rfl rfl ?_)
        exact J_retv rfl (.tmp rfl .nil) [] (fun w s => s.drop.drop) (PH.ler _) ⟨rfl, rfl⟩
      by_cases h2 : y.1 ≤ 63
      rotate_left
      · obtain rfl := hbad (by unfold ouR; exact decide_eq_false (by omega))
        repeat (first|refine zJ rfl rfl ?_|refine jr rfl ?_|refine jn ?_|refine zM rfl rfl ?_|(refine zC rfl rfl ?_ rfl ?_;omega)|(refine zD rfl rfl ?_ rfl ?_;omega)|(refine zP rfl ?_ rfl ?_;omega)|refine zG rfl rfl rfl rfl ?_|(refine jdq rfl rfl ?_ ?_ ?_;kernel_rfl;kernel_rfl)|refine zB rfl rfl rfl (by repeat constructor) rfl ?_|refine zH .here rfl rfl rfl rfl ?_|refine zH (.there .here) rfl rfl rfl rfl ?_|refine zH (.there (.there .here)) rfl rfl rfl rfl ?_)
        exact J_retv rfl (.tmp rfl .nil) [] (fun w s => s.drop.drop) (PH.ler _) ⟨rfl, rfl⟩
      by_cases h3 : 1 ≤ y.2.1
      rotate_left
      · obtain rfl := hbad (by unfold ouR; exact decide_eq_false (by omega))
        repeat (first|refine zJ rfl rfl ?_|refine jr rfl ?_|refine jn ?_|refine zM rfl rfl ?_|(refine zC rfl rfl ?_ rfl ?_;omega)|(refine zD rfl rfl ?_ rfl ?_;omega)|(refine zP rfl ?_ rfl ?_;omega)|refine zG rfl rfl rfl rfl ?_|(refine jdq rfl rfl ?_ ?_ ?_;kernel_rfl;kernel_rfl)|refine zB rfl rfl rfl (by repeat constructor) rfl ?_|refine zH .here rfl rfl rfl rfl ?_|refine zH (.there .here) rfl rfl rfl rfl ?_|refine zH (.there (.there .here)) rfl rfl rfl rfl ?_)
        exact J_retv rfl (.tmp rfl .nil) [] (fun w s => s.drop.drop) (PH.ler _) ⟨rfl, rfl⟩
      by_cases h4 : y.2.1 ≤ 1099511627776
      rotate_left
      · obtain rfl := hbad (by unfold ouR; exact decide_eq_false (by omega))
        repeat (first|refine zJ rfl rfl ?_|refine jr rfl ?_|refine jn ?_|refine zM rfl rfl ?_|(refine zC rfl rfl ?_ rfl ?_;omega)|(refine zD rfl rfl ?_ rfl ?_;omega)|(refine zP rfl ?_ rfl ?_;omega)|refine zG rfl rfl rfl rfl ?_|(refine jdq rfl rfl ?_ ?_ ?_;kernel_rfl;kernel_rfl)|refine zB rfl rfl rfl (by repeat constructor) rfl ?_|refine zH .here rfl rfl rfl rfl ?_|refine zH (.there .here) rfl rfl rfl rfl ?_|refine zH (.there (.there .here)) rfl rfl rfl rfl ?_)
        exact J_retv rfl (.tmp rfl .nil) [] (fun w s => s.drop.drop) (PH.ler _) ⟨rfl, rfl⟩
      by_cases h5 : 0 ≤ y.2.2.1
      rotate_left
      · obtain rfl := hbad (by unfold ouR; exact decide_eq_false (by omega))
        repeat (first|refine zJ rfl rfl ?_|refine jr rfl ?_|refine jn ?_|refine zM rfl rfl ?_|(refine zC rfl rfl ?_ rfl ?_;omega)|(refine zD rfl rfl ?_ rfl ?_;omega)|(refine zP rfl ?_ rfl ?_;omega)|refine zG rfl rfl rfl rfl ?_|(refine jdq rfl rfl ?_ ?_ ?_;kernel_rfl;kernel_rfl)|refine zB rfl rfl rfl (by repeat constructor) rfl ?_|refine zH .here rfl rfl rfl rfl ?_|refine zH (.there .here) rfl rfl rfl rfl ?_|refine zH (.there (.there .here)) rfl rfl rfl rfl ?_)
        exact J_retv rfl (.tmp rfl .nil) [] (fun w s => s.drop.drop) (PH.ler _) ⟨rfl, rfl⟩
      by_cases h6 : y.2.2.1 ≤ 99
      rotate_left
      · obtain rfl := hbad (by unfold ouR; exact decide_eq_false (by omega))
        repeat (first|refine zJ rfl rfl ?_|refine jr rfl ?_|refine jn ?_|refine zM rfl rfl ?_|(refine zC rfl rfl ?_ rfl ?_;omega)|(refine zD rfl rfl ?_ rfl ?_;omega)|(refine zP rfl ?_ rfl ?_;omega)|refine zG rfl rfl rfl rfl ?_|(refine jdq rfl rfl ?_ ?_ ?_;kernel_rfl;kernel_rfl)|refine zB rfl rfl rfl (by repeat constructor) rfl ?_|refine zH .here rfl rfl rfl rfl ?_|refine zH (.there .here) rfl rfl rfl rfl ?_|refine zH (.there (.there .here)) rfl rfl rfl rfl ?_)
        exact J_retv rfl (.tmp rfl .nil) [] (fun w s => s.drop.drop) (PH.ler _) ⟨rfl, rfl⟩
      have hgo := hgood (by unfold ouR; exact decide_eq_true (by omega))
      repeat (first|refine zJ rfl rfl ?_|refine jr rfl ?_|refine jn ?_|refine zM rfl rfl ?_|(refine zC rfl rfl ?_ rfl ?_;omega)|(refine zD rfl rfl ?_ rfl ?_;omega)|(refine zP rfl ?_ rfl ?_;omega)|refine zG rfl rfl rfl rfl ?_|(refine jdq rfl rfl ?_ ?_ ?_;kernel_rfl;kernel_rfl)|refine zB rfl rfl rfl (by repeat constructor) rfl ?_|refine zH .here rfl rfl rfl rfl ?_|refine zH (.there .here) rfl rfl rfl rfl ?_|refine zH (.there (.there .here)) rfl rfl rfl rfl ?_)
      exact J_again 1 ⟨hlt, hgo.trans (by rw [hpv])⟩ (by omega) ⟨⟨rfl, rfl, rfl, rfl, trivial⟩, fun w s => s.drop⟩
    · have g2 : O[j]? = some O[j] := List.getElem?_eq_getElem (by omega)
      obtain ⟨b', off', e', hc'⟩ := hO.at g2
      obtain ⟨rfl, rfl⟩ : b = b' ∧ off = off' := by simpa using e'
      generalize O[j] = q at *
      have ix : some (Value.int .i64 (((j + 1 : Nat) : Int) - 1)) = some (Value.int .i64 (j : Int)) := by congr 2; omega
      rw [show prevP O (j + 1) = some q from g2, show risP ouLs ouR (some q) (y :: O.drop (j + 1 + 1)) = (ouLs q y && (ouR y && risP ouLs ouR (some y) (O.drop (j + 1 + 1)))) from rfl] at heq
      have hq : ouLs q y = decide (q.1 < y.1) := rfl
      repeat (first|refine zJ rfl rfl ?_|refine jr rfl ?_|refine jn ?_|refine zM rfl rfl ?_|(refine zC rfl rfl ?_ rfl ?_;omega)|(refine zD rfl rfl ?_ rfl ?_;omega)|(refine zP rfl ?_ rfl ?_;omega)|refine zG rfl rfl rfl rfl ?_|(refine jdq rfl rfl ?_ ?_ ?_;kernel_rfl;kernel_rfl)|refine zB rfl rfl rfl (by repeat constructor) rfl ?_|refine zH .here rfl rfl rfl rfl ?_|refine zH (.there .here) rfl rfl rfl rfl ?_|refine zH (.there (.there .here)) rfl rfl rfl rfl ?_)
      refine oS (ev_indexAddr (i := j + 1) rfl rfl rfl hlt) rfl ?_
      refine oS (ev_load_agg (cs := ouC y) rfl rfl (Rdb.ofF hc) (ou_len y)) rfl ?_
      refine oE (ev_alloc (cs := zOu) rfl) rfl ?_
      rintro _ _ _ _ ⟨rfl, b8, rfl, rfl⟩
      repeat (first|refine zJ rfl rfl ?_|refine jr rfl ?_|refine jn ?_|refine zM rfl rfl ?_|(refine zC rfl rfl ?_ rfl ?_;omega)|(refine zD rfl rfl ?_ rfl ?_;omega)|(refine zP rfl ?_ rfl ?_;omega)|refine zG rfl rfl rfl rfl ?_|(refine jdq rfl rfl ?_ ?_ ?_;kernel_rfl;kernel_rfl)|refine zB rfl rfl rfl (by repeat constructor) rfl ?_|refine zH .here rfl rfl rfl rfl ?_|refine zH (.there .here) rfl rfl rfl rfl ?_|refine zH (.there (.there .here)) rfl rfl rfl rfl ?_)
      refine oN (ev_store (b := b8) (off := 0) rfl rfl .agg rfl rfl (lay_all (zs := zOu) rfl) (ou_ones y) .here) rfl ?_
      rintro _ _ _ _ ⟨rfl, _, rfl⟩
      repeat (first|refine zJ rfl rfl ?_|refine jr rfl ?_|refine jn ?_|refine zM rfl rfl ?_|(refine zC rfl rfl ?_ rfl ?_;omega)|(refine zD rfl rfl ?_ rfl ?_;omega)|(refine zP rfl ?_ rfl ?_;omega)|refine zG rfl rfl rfl rfl ?_|(refine jdq rfl rfl ?_ ?_ ?_;kernel_rfl;kernel_rfl)|refine zB rfl rfl rfl (by repeat constructor) rfl ?_|refine zH .here rfl rfl rfl rfl ?_|refine zH (.there .here) rfl rfl rfl rfl ?_|refine zH (.there (.there .here)) rfl rfl rfl rfl ?_)
      refine oS (ev_indexAddr (i := j) rfl ix rfl (by omega)) rfl ?_
      refine oS (ev_fieldAddr rfl rfl) rfl ?_
      refine oS (ev_load (v := .int .i64 q.1) rfl rfl (Rdb.ofF (Cells.one hc' 0 rfl))) rfl ?_
      by_cases hqy : q.1 < y.1
      rotate_left
      · rw [hq, decide_eq_false hqy, Bool.false_and] at heq
        obtain rfl := hrf heq
        repeat (first|refine zJ rfl rfl ?_|refine jr rfl ?_|refine jn ?_|refine zM rfl rfl ?_|(refine zC rfl rfl ?_ rfl ?_;omega)|(refine zD rfl rfl ?_ rfl ?_;omega)|(refine zP rfl ?_ rfl ?_;omega)|refine zG rfl rfl rfl rfl ?_|(refine jdq rfl rfl ?_ ?_ ?_;kernel_rfl;kernel_rfl)|refine zB rfl rfl rfl (by repeat constructor) rfl ?_|refine zH .here rfl rfl rfl rfl ?_|refine zH (.there .here) rfl rfl rfl rfl ?_|refine zH (.there (.there .here)) rfl rfl rfl rfl ?_)
        exact J_retv rfl (.tmp rfl .nil) [] (fun w s => s.drop.drop) (PH.ler _) ⟨rfl, rfl⟩
      rw [hq, decide_eq_true hqy, Bool.true_and] at heq
      have hbad : ouR y = false → t = false := fun h => hrf (by rw [heq, h, Bool.false_and])
      have hgood : ouR y = true → r = risP ouLs ouR (some y) (O.drop (j + 1 + 1)) := fun h => by rw [heq, h, Bool.true_and]
      clear heq
      by_cases h1 : 0 ≤ y.1
      rotate_left
      · obtain rfl := hbad (by unfold ouR; exact decide_eq_false (by omega))
        repeat (first|refine zJ rfl rfl ?_|refine jr rfl ?_|refine jn ?_|refine zM rfl rfl ?_|(refine zC rfl rfl ?_ rfl ?_;omega)|(refine zD rfl rfl ?_ rfl ?_;omega)|(refine zP rfl ?_ rfl ?_;omega)|refine zG rfl rfl rfl rfl ?_|(refine jdq rfl rfl ?_ ?_ ?_;kernel_rfl;kernel_rfl)|refine zB rfl rfl rfl (by repeat constructor) rfl ?_|refine zH .here rfl rfl rfl rfl ?_|refine zH (.there .here) rfl rfl rfl rfl ?_|refine zH (.there (.there .here)) rfl rfl rfl rfl ?_)
        exact J_retv rfl (.tmp rfl .nil) [] (fun w s => s.drop.drop) (PH.ler _) ⟨rfl, rfl⟩
      by_cases h2 : y.1 ≤ 63
      rotate_left
      · obtain rfl := hbad (by unfold ouR; exact decide_eq_false (by omega))
        repeat (first|refine zJ rfl rfl ?_|refine jr rfl ?_|refine jn ?_|refine zM rfl rfl ?_|(refine zC rfl rfl ?_ rfl ?_;omega)|(refine zD rfl rfl ?_ rfl ?_;omega)|(refine zP rfl ?_ rfl ?_;omega)|refine zG rfl rfl rfl rfl ?_|(refine jdq rfl rfl ?_ ?_ ?_;kernel_rfl;kernel_rfl)|refine zB rfl rfl rfl (by repeat constructor) rfl ?_|refine zH .here rfl rfl rfl rfl ?_|refine zH (.there .here) rfl rfl rfl rfl ?_|refine zH (.there (.there .here)) rfl rfl rfl rfl ?_)
        exact J_retv rfl (.tmp rfl .nil) [] (fun w s => s.drop.drop) (PH.ler _) ⟨rfl, rfl⟩
      by_cases h3 : 1 ≤ y.2.1
      rotate_left
      · obtain rfl := hbad (by unfold ouR; exact decide_eq_false (by omega))
        repeat (first|refine zJ rfl rfl ?_|refine jr rfl ?_|refine jn ?_|refine zM rfl rfl ?_|(refine zC rfl rfl ?_ rfl ?_;omega)|(refine zD rfl rfl ?_ rfl ?_;omega)|(refine zP rfl ?_ rfl ?_;omega)|refine zG rfl rfl rfl rfl ?_|(refine jdq rfl rfl ?_ ?_ ?_;kernel_rfl;kernel_rfl)|refine zB rfl rfl rfl (by repeat constructor) rfl ?_|refine zH .here rfl rfl rfl rfl ?_|refine zH (.there .here) rfl rfl rfl rfl ?_|refine zH (.there (.there .here)) rfl rfl rfl rfl ?_)
        exact J_retv rfl (.tmp rfl .nil) [] (fun w s => s.drop.drop) (PH.ler _) ⟨rfl, rfl⟩
      by_cases h4 : y.2.1 ≤ 1099511627776
      rotate_left
      · obtain rfl := hbad (by unfold ouR; exact decide_eq_false (by omega))
        repeat (first|refine zJ rfl rfl ?_|refine jr rfl ?_|refine jn ?_|refine zM rfl rfl ?_|(refine zC rfl rfl ?_ rfl ?_;omega)|(refine zD rfl rfl ?_ rfl ?_;omega)|(refine zP rfl ?_ rfl ?_;omega)|refine zG rfl rfl rfl rfl ?_|(refine jdq rfl rfl ?_ ?_ ?_;kernel_rfl;kernel_rfl)|refine zB rfl rfl rfl (by repeat constructor) rfl ?_|refine zH .here rfl rfl rfl rfl ?_|refine zH (.there .here) rfl rfl rfl rfl ?_|refine zH (.there (.there .here)) rfl rfl rfl rfl ?_)
        exact J_retv rfl (.tmp rfl .nil) [] (fun w s => s.drop.drop) (PH.ler _) ⟨rfl, rfl⟩
      by_cases h5 : 0 ≤ y.2.2.1
      rotate_left
      · obtain rfl := hbad (by unfold ouR; exact decide_eq_false (by omega))
        repeat (first|refine zJ rfl rfl ?_|refine jr rfl ?_|refine jn ?_|refine zM rfl rfl ?_|(refine zC rfl rfl ?_ rfl ?_;omega)|(refine zD rfl rfl ?_ rfl ?_;omega)|(refine zP rfl ?_ rfl ?_;omega)|refine zG rfl rfl rfl rfl ?_|(refine jdq rfl rfl ?_ ?_ ?_;kernel_rfl;kernel_rfl)|refine zB rfl rfl rfl (by repeat constructor) rfl ?_|refine zH .here rfl rfl rfl rfl ?_|refine zH (.there .here) rfl rfl rfl rfl ?_|refine zH (.there (.there .here)) rfl rfl rfl rfl ?_)
        exact J_retv rfl (.tmp rfl .nil) [] (fun w s => s.drop.drop) (PH.ler _) ⟨rfl, rfl⟩
      by_cases h6 : y.2.2.1 ≤ 99
      rotate_left
      · obtain rfl := hbad (by unfold ouR; exact decide_eq_false (by omega))
        repeat (first|refine zJ rfl rfl ?_|refine jr rfl ?_|refine jn ?_|refine zM rfl rfl ?_|(refine zC rfl rfl ?_ rfl ?_;omega)|(refine zD rfl rfl ?_ rfl ?_;omega)|(refine zP rfl ?_ rfl ?_;omega)|refine zG rfl rfl rfl rfl ?_|(refine jdq rfl rfl ?_ ?_ ?_;kernel_rfl;kernel_rfl)|refine zB rfl rfl rfl (by repeat constructor) rfl ?_|refine zH .here rfl rfl rfl rfl ?_|refine zH (.there .here) rfl rfl rfl rfl ?_|refine zH (.there (.there .here)) rfl rfl rfl rfl ?_)
        exact J_retv rfl (.tmp rfl .nil) [] (fun w s => s.drop.drop) (PH.ler _) ⟨rfl, rfl⟩
      have hgo := hgood (by unfold ouR; exact decide_eq_true (by omega))
      repeat (first|refine zJ rfl rfl ?_|refine jr rfl ?_|refine jn ?_|refine zM rfl rfl ?_|(refine zC rfl rfl ?_ rfl ?_;omega)|(refine zD rfl rfl ?_ rfl ?_;omega)|(refine zP rfl ?_ rfl ?_;omega)|refine zG rfl rfl rfl rfl ?_|(refine jdq rfl rfl ?_ ?_ ?_;kernel_rfl;kernel_rfl)|refine zB rfl rfl rfl (by repeat constructor) rfl ?_|refine zH .here rfl rfl rfl rfl ?_|refine zH (.there .here) rfl rfl rfl rfl ?_|refine zH (.there (.there .here)) rfl rfl rfl rfl ?_)
      exact J_again (j + 1 + 1) ⟨hlt, hgo.trans (by rw [hpv])⟩ (by omega) ⟨⟨rfl, rfl, rfl, rfl, trivial⟩, fun w s => s.drop⟩
  · obtain rfl : i = O.length := by omega
    rw [List.drop_length] at heq
    obtain rfl : r = true := by rw [heq]; cases prevP O O.length <;> rfl
    clear hrf heq
    by_cases h1 : 0 ≤ s
    rotate_left
    · obtain rfl := htf (by omega)
      repeat (first|refine zJ rfl rfl ?_|refine jr rfl ?_|refine jn ?_|refine zM rfl rfl ?_|(refine zC rfl rfl ?_ rfl ?_;omega)|(refine zD rfl rfl ?_ rfl ?_;omega)|(refine zP rfl ?_ rfl ?_;omega)|refine zG rfl rfl rfl rfl ?_|(refine jdq rfl rfl ?_ ?_ ?_;kernel_rfl;kernel_rfl)|refine zB rfl rfl rfl (by repeat constructor) rfl ?_|refine zH .here rfl rfl rfl rfl ?_|refine zH (.there .here) rfl rfl rfl rfl ?_|refine zH (.there (.there .here)) rfl rfl rfl rfl ?_)
      exact J_retv rfl (.tmp rfl .nil) [] (fun w s => s.drop) (PH.ler _) ⟨rfl, rfl⟩
    by_cases h2 : s ≤ 1048576
    rotate_left
    · obtain rfl := htf (by omega)
      repeat (first|refine zJ rfl rfl ?_|refine jr rfl ?_|refine jn ?_|refine zM rfl rfl ?_|(refine zC rfl rfl ?_ rfl ?_;omega)|(refine zD rfl rfl ?_ rfl ?_;omega)|(refine zP rfl ?_ rfl ?_;omega)|refine zG rfl rfl rfl rfl ?_|(refine jdq rfl rfl ?_ ?_ ?_;kernel_rfl;kernel_rfl)|refine zB rfl rfl rfl (by repeat constructor) rfl ?_|refine zH .here rfl rfl rfl rfl ?_|refine zH (.there .here) rfl rfl rfl rfl ?_|refine zH (.there (.there .here)) rfl rfl rfl rfl ?_)
      exact J_retv rfl (.tmp rfl .nil) [] (fun w s => s.drop) (PH.ler _) ⟨rfl, rfl⟩
    repeat (first|refine zJ rfl rfl ?_|refine jr rfl ?_|refine jn ?_|refine zM rfl rfl ?_|(refine zC rfl rfl ?_ rfl ?_;omega)|(refine zD rfl rfl ?_ rfl ?_;omega)|(refine zP rfl ?_ rfl ?_;omega)|refine zG rfl rfl rfl rfl ?_|(refine jdq rfl rfl ?_ ?_ ?_;kernel_rfl;kernel_rfl)|refine zB rfl rfl rfl (by repeat constructor) rfl ?_|refine zH .here rfl rfl rfl rfl ?_|refine zH (.there .here) rfl rfl rfl rfl ?_|refine zH (.there (.there .here)) rfl rfl rfl rfl ?_)
    have sm := ris_spec tt F
    by_cases h3 : 0 ≤ tt ∧ tt ≤ 1099511627776
    rotate_left
    · obtain rfl := htf (by omega)
      rw [decide_eq_false h3] at sm
      refine oP (sm) Try.call56 rfl rfl ?_
      repeat (first|refine zJ rfl rfl ?_|refine jr rfl ?_|refine jn ?_|refine zM rfl rfl ?_|(refine zC rfl rfl ?_ rfl ?_;omega)|(refine zD rfl rfl ?_ rfl ?_;omega)|(refine zP rfl ?_ rfl ?_;omega)|refine zG rfl rfl rfl rfl ?_|(refine jdq rfl rfl ?_ ?_ ?_;kernel_rfl;kernel_rfl)|refine zB rfl rfl rfl (by repeat constructor) rfl ?_|refine zH .here rfl rfl rfl rfl ?_|refine zH (.there .here) rfl rfl rfl rfl ?_|refine zH (.there (.there .here)) rfl rfl rfl rfl ?_)
      exact J_retv rfl (.tmp rfl .nil) [] (fun w s => s.drop) (PH.ler _) ⟨rfl, rfl⟩
    rw [decide_eq_true h3] at sm
    refine oP (sm) Try.call56 rfl rfl ?_
    by_cases h4 : O.length ≤ 4
    rotate_left
    · obtain rfl := htf (by omega)
      repeat (first|refine zJ rfl rfl ?_|refine jr rfl ?_|refine jn ?_|refine zM rfl rfl ?_|(refine zC rfl rfl ?_ rfl ?_;omega)|(refine zD rfl rfl ?_ rfl ?_;omega)|(refine zP rfl ?_ rfl ?_;omega)|refine zG rfl rfl rfl rfl ?_|(refine jdq rfl rfl ?_ ?_ ?_;kernel_rfl;kernel_rfl)|refine zB rfl rfl rfl (by repeat constructor) rfl ?_|refine zH .here rfl rfl rfl rfl ?_|refine zH (.there .here) rfl rfl rfl rfl ?_|refine zH (.there (.there .here)) rfl rfl rfl rfl ?_)
      exact J_retv rfl (.tmp rfl .nil) [] (fun w s => s.drop) (PH.ler _) ⟨rfl, rfl⟩
    repeat (first|refine zJ rfl rfl ?_|refine jr rfl ?_|refine jn ?_|refine zM rfl rfl ?_|(refine zC rfl rfl ?_ rfl ?_;omega)|(refine zD rfl rfl ?_ rfl ?_;omega)|(refine zP rfl ?_ rfl ?_;omega)|refine zG rfl rfl rfl rfl ?_|(refine jdq rfl rfl ?_ ?_ ?_;kernel_rfl;kernel_rfl)|refine zB rfl rfl rfl (by repeat constructor) rfl ?_|refine zH .here rfl rfl rfl rfl ?_|refine zH (.there .here) rfl rfl rfl rfl ?_|refine zH (.there (.there .here)) rfl rfl rfl rfl ?_)
    have sl := letters_spec al cl L F hL hn hok
    rw [show (risP ltLs letR none L && decide (L.length ≤ 16)) = t from by
      rw [ht]
      by_cases h5 : L.length ≤ 16
      · rw [decide_eq_true h5, decide_eq_true (by omega)]; simp
      · rw [decide_eq_false h5, decide_eq_false (by omega)]; simp] at sl
    refine oP (sl) Try.call57 rfl rfl ?_
    repeat (first|refine zJ rfl rfl ?_|refine jr rfl ?_|refine jn ?_|refine zM rfl rfl ?_|(refine zC rfl rfl ?_ rfl ?_;omega)|(refine zD rfl rfl ?_ rfl ?_;omega)|(refine zP rfl ?_ rfl ?_;omega)|refine zG rfl rfl rfl rfl ?_|(refine jdq rfl rfl ?_ ?_ ?_;kernel_rfl;kernel_rfl)|refine zB rfl rfl rfl (by repeat constructor) rfl ?_|refine zH .here rfl rfl rfl rfl ?_|refine zH (.there .here) rfl rfl rfl rfl ?_|refine zH (.there (.there .here)) rfl rfl rfl rfl ?_)
    exact J_retv rfl (.tmp rfl .nil) [] (fun w s => s.drop) (PH.ler _) ⟨rfl, rfl⟩
end Go.Proofs.Ytifdlhafcfbeaaa
