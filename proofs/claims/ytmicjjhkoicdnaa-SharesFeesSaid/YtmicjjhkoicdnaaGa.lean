/-
  Amounts, weights and fees, by the program and by the document. Conditions are typed with each.
-/
import Derived.Test.YtmicjjhkoicdnaaLb
import Derived.Test.YtmicjjhkoicdnaaProg
namespace Go.Proofs.Ytmicjjhkoicdnaa
open Go.RowKit
set_option maxRecDepth 100000
def moneyB (x : Int) : Bool := decide (0 ≤ x ∧ x ≤ 1099511627776)
theorem u64_small {x : Int} (h0 : 0 ≤ x) (h1 : x < 18446744073709551616) : IntKind.u64.wrap x = x := by
  have e : (2 : Int) ^ 64 = 18446744073709551616 := by decide
  simp [IntKind.wrap, IntKind.bits, IntKind.signed, e]
  omega
theorem u64_neg {x : Int} (h : InK .i64 x) (h0 : x < 0) : 1099511627776 < IntKind.u64.wrap x := by
  have e : (2 : Int) ^ 64 = 18446744073709551616 := by decide
  dsimp only [InK] at h
  simp [IntKind.wrap, IntKind.bits, IntKind.signed, e]
  omega
theorem money_spec (x : Int) (F : PH) (hx : InK .i64 x) : Pure Try.prog 31 [.int .i64 x] F (.bool (moneyB x)) := by
  refine Spec.of1 Try.func31 rfl rfl fun X w0 => ?_
  unfold moneyB
  refine jc rfl rfl ?_
  refine jr rfl ?_
  repeat (first | refine oM rfl rfl ?_ | refine oS (ev_pv rfl) rfl ?_)
  refine jn ?_
  refine jc rfl rfl ?_
  refine jr rfl ?_
  repeat (first | refine oM rfl rfl ?_ | refine oS (ev_pv rfl) rfl ?_)
  by_cases h0 : 0 ≤ x
  · refine oS (ev_conv rfl rfl rfl (u64_small h0 (by dsimp only [InK] at hx; omega))) rfl ?_
    by_cases h1 : x ≤ 1099511627776
    · rw [decide_eq_true ⟨h0, h1⟩]
      repeat (first|refine zJ rfl rfl ?_|refine jr rfl ?_|refine jn ?_|refine zM rfl rfl ?_|(refine zC rfl rfl ?_ rfl ?_;omega)|(refine zD rfl rfl ?_ rfl ?_;omega)|(refine zP rfl ?_ rfl ?_;omega)|refine zG rfl rfl rfl rfl ?_|(refine jdq rfl rfl ?_ ?_ ?_;kernel_rfl;kernel_rfl)|refine zB rfl rfl rfl (by repeat constructor) rfl ?_)
      exact J_retv rfl (.tmp rfl .nil) [] (fun w s => s) (PH.ler _) ⟨rfl, rfl⟩
    · rw [decide_eq_false (fun h => h1 h.2)]
      repeat (first|refine zJ rfl rfl ?_|refine jr rfl ?_|refine jn ?_|refine zM rfl rfl ?_|(refine zC rfl rfl ?_ rfl ?_;omega)|(refine zD rfl rfl ?_ rfl ?_;omega)|(refine zP rfl ?_ rfl ?_;omega)|refine zG rfl rfl rfl rfl ?_|(refine jdq rfl rfl ?_ ?_ ?_;kernel_rfl;kernel_rfl)|refine zB rfl rfl rfl (by repeat constructor) rfl ?_)
      exact J_retv rfl (.tmp rfl .nil) [] (fun w s => s) (PH.ler _) ⟨rfl, rfl⟩
  · rw [decide_eq_false (fun h => h0 h.1)]
    have h2 := u64_neg hx (by omega)
    refine oS (ev_conv rfl rfl rfl rfl) rfl ?_
    generalize IntKind.u64.wrap x = y at *
    repeat (first|refine zJ rfl rfl ?_|refine jr rfl ?_|refine jn ?_|refine zM rfl rfl ?_|(refine zC rfl rfl ?_ rfl ?_;omega)|(refine zD rfl rfl ?_ rfl ?_;omega)|(refine zP rfl ?_ rfl ?_;omega)|refine zG rfl rfl rfl rfl ?_|(refine jdq rfl rfl ?_ ?_ ?_;kernel_rfl;kernel_rfl)|refine zB rfl rfl rfl (by repeat constructor) rfl ?_)
    exact J_retv rfl (.tmp rfl .nil) [] (fun w s => s) (PH.ler _) ⟨rfl, rfl⟩
theorem Money_spec (x : Int) (F : PH) : Pure Try.prog 30 [.int .i64 x] F (.bool (moneyB x)) := by
  refine Spec.of1 Try.func30 rfl rfl fun X w0 => ?_
  unfold moneyB
  by_cases h0 : 0 ≤ x
  · by_cases h1 : x ≤ 1099511627776
    · rw [decide_eq_true ⟨h0, h1⟩]
      repeat (first|refine zJ rfl rfl ?_|refine jr rfl ?_|refine jn ?_|refine zM rfl rfl ?_|(refine zC rfl rfl ?_ rfl ?_;omega)|(refine zD rfl rfl ?_ rfl ?_;omega)|(refine zP rfl ?_ rfl ?_;omega)|refine zG rfl rfl rfl rfl ?_|(refine jdq rfl rfl ?_ ?_ ?_;kernel_rfl;kernel_rfl)|refine zB rfl rfl rfl (by repeat constructor) rfl ?_)
      exact J_retv rfl (.tmp rfl .nil) [] (fun w s => s) (PH.ler _) ⟨rfl, rfl⟩
    · rw [decide_eq_false (fun h => h1 h.2)]
      repeat (first|refine zJ rfl rfl ?_|refine jr rfl ?_|refine jn ?_|refine zM rfl rfl ?_|(refine zC rfl rfl ?_ rfl ?_;omega)|(refine zD rfl rfl ?_ rfl ?_;omega)|(refine zP rfl ?_ rfl ?_;omega)|refine zG rfl rfl rfl rfl ?_|(refine jdq rfl rfl ?_ ?_ ?_;kernel_rfl;kernel_rfl)|refine zB rfl rfl rfl (by repeat constructor) rfl ?_)
      exact J_retv rfl (.tmp rfl .nil) [] (fun w s => s) (PH.ler _) ⟨rfl, rfl⟩
  · rw [decide_eq_false (fun h => h0 h.1)]
    repeat (first|refine zJ rfl rfl ?_|refine jr rfl ?_|refine jn ?_|refine zM rfl rfl ?_|(refine zC rfl rfl ?_ rfl ?_;omega)|(refine zD rfl rfl ?_ rfl ?_;omega)|(refine zP rfl ?_ rfl ?_;omega)|refine zG rfl rfl rfl rfl ?_|(refine jdq rfl rfl ?_ ?_ ?_;kernel_rfl;kernel_rfl)|refine zB rfl rfl rfl (by repeat constructor) rfl ?_)
    exact J_retv rfl (.tmp rfl .nil) [] (fun w s => s) (PH.ler _) ⟨rfl, rfl⟩
/-- A fee, and the error. -/
def feeP (a r : Int) : Int × Int := if moneyB a = false ∨ r < 0 ∨ 10000 < r then (0, 5) else ((a * r + 5000) / 10000, 0)
theorem feeP_bad {a r : Int} (h : moneyB a = false ∨ r < 0 ∨ 10000 < r) : feeP a r = (0, 5) := if_pos h
theorem prod_le {a b m n : Int} (ha : 0 ≤ a) (hb : 0 ≤ b) (hm : a ≤ m) (hn : b ≤ n) : 0 ≤ a * b ∧ a * b ≤ m * n := ⟨Int.mul_nonneg ha hb, Int.mul_le_mul hm hn hb (Int.le_trans ha hm)⟩
set_option maxHeartbeats 4000000 in
theorem fee_spec (a r : Int) (F : PH) (ha : InK .i64 a) : Pure Try.prog 11 [.int .i64 a, .int .i64 r] F (.tuple #[.int .i64 (feeP a r).1, .int .i64 (feeP a r).2]) := by
  have hm := money_spec a F ha
  refine Spec.of2 Try.func11 rfl rfl fun X w0 => ?_
  unfold feeP
  cases hb : moneyB a with
  | false =>
    rw [hb] at hm
    rw [if_pos (.inl rfl)]
    repeat (first|refine zJ rfl rfl ?_|refine jr rfl ?_|refine jn ?_|refine zM rfl rfl ?_|(refine zC rfl rfl ?_ rfl ?_;omega)|(refine zD rfl rfl ?_ rfl ?_;omega)|(refine zP rfl ?_ rfl ?_;omega)|refine zG rfl rfl rfl rfl ?_|(refine jdq rfl rfl ?_ ?_ ?_;kernel_rfl;kernel_rfl)|refine zB rfl rfl rfl (by repeat constructor) rfl ?_)
    refine oP (hm) Try.call31 rfl rfl ?_
    repeat (first|refine zJ rfl rfl ?_|refine jr rfl ?_|refine jn ?_|refine zM rfl rfl ?_|(refine zC rfl rfl ?_ rfl ?_;omega)|(refine zD rfl rfl ?_ rfl ?_;omega)|(refine zP rfl ?_ rfl ?_;omega)|refine zG rfl rfl rfl rfl ?_|(refine jdq rfl rfl ?_ ?_ ?_;kernel_rfl;kernel_rfl)|refine zB rfl rfl rfl (by repeat constructor) rfl ?_)
    exact J_retv rfl (.tmp rfl (.tmp rfl .nil)) [] (fun w s => s) (PH.ler _) ⟨rfl, rfl⟩
  | true =>
    rw [hb] at hm
    by_cases h1 : r < 0
    · rw [if_pos (.inr (.inl h1))]
      repeat (first|refine zJ rfl rfl ?_|refine jr rfl ?_|refine jn ?_|refine zM rfl rfl ?_|(refine zC rfl rfl ?_ rfl ?_;omega)|(refine zD rfl rfl ?_ rfl ?_;omega)|(refine zP rfl ?_ rfl ?_;omega)|refine zG rfl rfl rfl rfl ?_|(refine jdq rfl rfl ?_ ?_ ?_;kernel_rfl;kernel_rfl)|refine zB rfl rfl rfl (by repeat constructor) rfl ?_)
      refine oP (hm) Try.call31 rfl rfl ?_
      repeat (first|refine zJ rfl rfl ?_|refine jr rfl ?_|refine jn ?_|refine zM rfl rfl ?_|(refine zC rfl rfl ?_ rfl ?_;omega)|(refine zD rfl rfl ?_ rfl ?_;omega)|(refine zP rfl ?_ rfl ?_;omega)|refine zG rfl rfl rfl rfl ?_|(refine jdq rfl rfl ?_ ?_ ?_;kernel_rfl;kernel_rfl)|refine zB rfl rfl rfl (by repeat constructor) rfl ?_)
      exact J_retv rfl (.tmp rfl (.tmp rfl .nil)) [] (fun w s => s) (PH.ler _) ⟨rfl, rfl⟩
    by_cases h2 : 10000 < r
    · rw [if_pos (.inr (.inr h2))]
      repeat (first|refine zJ rfl rfl ?_|refine jr rfl ?_|refine jn ?_|refine zM rfl rfl ?_|(refine zC rfl rfl ?_ rfl ?_;omega)|(refine zD rfl rfl ?_ rfl ?_;omega)|(refine zP rfl ?_ rfl ?_;omega)|refine zG rfl rfl rfl rfl ?_|(refine jdq rfl rfl ?_ ?_ ?_;kernel_rfl;kernel_rfl)|refine zB rfl rfl rfl (by repeat constructor) rfl ?_)
      refine oP (hm) Try.call31 rfl rfl ?_
      repeat (first|refine zJ rfl rfl ?_|refine jr rfl ?_|refine jn ?_|refine zM rfl rfl ?_|(refine zC rfl rfl ?_ rfl ?_;omega)|(refine zD rfl rfl ?_ rfl ?_;omega)|(refine zP rfl ?_ rfl ?_;omega)|refine zG rfl rfl rfl rfl ?_|(refine jdq rfl rfl ?_ ?_ ?_;kernel_rfl;kernel_rfl)|refine zB rfl rfl rfl (by repeat constructor) rfl ?_)
      exact J_retv rfl (.tmp rfl (.tmp rfl .nil)) [] (fun w s => s) (PH.ler _) ⟨rfl, rfl⟩
    rw [if_neg (by simp [h1, h2])]
    have hm' : 0 ≤ a ∧ a ≤ 1099511627776 := of_decide_eq_true hb
    have hp := prod_le (a := a) (b := r) hm'.1 (by omega) hm'.2 (show r ≤ 10000 by omega)
    rw [show (1099511627776 : Int) * 10000 = 10995116277760000 from by decide] at hp
    repeat (first|refine zJ rfl rfl ?_|refine jr rfl ?_|refine jn ?_|refine zM rfl rfl ?_|(refine zC rfl rfl ?_ rfl ?_;omega)|(refine zD rfl rfl ?_ rfl ?_;omega)|(refine zP rfl ?_ rfl ?_;omega)|refine zG rfl rfl rfl rfl ?_|(refine jdq rfl rfl ?_ ?_ ?_;kernel_rfl;kernel_rfl)|refine zB rfl rfl rfl (by repeat constructor) rfl ?_)
    refine oP (hm) Try.call31 rfl rfl ?_
    repeat (first|refine zJ rfl rfl ?_|refine jr rfl ?_|refine jn ?_|refine zM rfl rfl ?_|(refine zC rfl rfl ?_ rfl ?_;omega)|(refine zD rfl rfl ?_ rfl ?_;omega)|(refine zP rfl ?_ rfl ?_;omega)|refine zG rfl rfl rfl rfl ?_|(refine jdq rfl rfl ?_ ?_ ?_;kernel_rfl;kernel_rfl)|refine zB rfl rfl rfl (by repeat constructor) rfl ?_)
    exact J_retv rfl (.tmp rfl (.tmp rfl .nil)) [] (fun w s => s) (PH.ler _) ⟨rfl, rfl⟩
set_option maxHeartbeats 4000000 in
theorem Fee_spec (a r : Int) (F : PH) : Pure Try.prog 12 [.int .i64 a, .int .i64 r] F (.tuple #[.int .i64 (feeP a r).1, .int .i64 (feeP a r).2]) := by
  have hm := Money_spec a F
  refine Spec.of2 Try.func12 rfl rfl fun X w0 => ?_
  unfold feeP
  cases hb : moneyB a with
  | false =>
    rw [hb] at hm
    rw [if_pos (.inl rfl)]
    repeat (first|refine zJ rfl rfl ?_|refine jr rfl ?_|refine jn ?_|refine zM rfl rfl ?_|(refine zC rfl rfl ?_ rfl ?_;omega)|(refine zD rfl rfl ?_ rfl ?_;omega)|(refine zP rfl ?_ rfl ?_;omega)|refine zG rfl rfl rfl rfl ?_|(refine jdq rfl rfl ?_ ?_ ?_;kernel_rfl;kernel_rfl)|refine zB rfl rfl rfl (by repeat constructor) rfl ?_)
    refine oP (hm) Try.call30 rfl rfl ?_
    repeat (first|refine zJ rfl rfl ?_|refine jr rfl ?_|refine jn ?_|refine zM rfl rfl ?_|(refine zC rfl rfl ?_ rfl ?_;omega)|(refine zD rfl rfl ?_ rfl ?_;omega)|(refine zP rfl ?_ rfl ?_;omega)|refine zG rfl rfl rfl rfl ?_|(refine jdq rfl rfl ?_ ?_ ?_;kernel_rfl;kernel_rfl)|refine zB rfl rfl rfl (by repeat constructor) rfl ?_)
    exact J_retv rfl (.tmp rfl (.tmp rfl .nil)) [] (fun w s => s) (PH.ler _) ⟨rfl, rfl⟩
  | true =>
    rw [hb] at hm
    by_cases h1 : r < 0
    · rw [if_pos (.inr (.inl h1))]
      repeat (first|refine zJ rfl rfl ?_|refine jr rfl ?_|refine jn ?_|refine zM rfl rfl ?_|(refine zC rfl rfl ?_ rfl ?_;omega)|(refine zD rfl rfl ?_ rfl ?_;omega)|(refine zP rfl ?_ rfl ?_;omega)|refine zG rfl rfl rfl rfl ?_|(refine jdq rfl rfl ?_ ?_ ?_;kernel_rfl;kernel_rfl)|refine zB rfl rfl rfl (by repeat constructor) rfl ?_)
      refine oP (hm) Try.call30 rfl rfl ?_
      repeat (first|refine zJ rfl rfl ?_|refine jr rfl ?_|refine jn ?_|refine zM rfl rfl ?_|(refine zC rfl rfl ?_ rfl ?_;omega)|(refine zD rfl rfl ?_ rfl ?_;omega)|(refine zP rfl ?_ rfl ?_;omega)|refine zG rfl rfl rfl rfl ?_|(refine jdq rfl rfl ?_ ?_ ?_;kernel_rfl;kernel_rfl)|refine zB rfl rfl rfl (by repeat constructor) rfl ?_)
      exact J_retv rfl (.tmp rfl (.tmp rfl .nil)) [] (fun w s => s) (PH.ler _) ⟨rfl, rfl⟩
    by_cases h2 : 10000 < r
    · rw [if_pos (.inr (.inr h2))]
      repeat (first|refine zJ rfl rfl ?_|refine jr rfl ?_|refine jn ?_|refine zM rfl rfl ?_|(refine zC rfl rfl ?_ rfl ?_;omega)|(refine zD rfl rfl ?_ rfl ?_;omega)|(refine zP rfl ?_ rfl ?_;omega)|refine zG rfl rfl rfl rfl ?_|(refine jdq rfl rfl ?_ ?_ ?_;kernel_rfl;kernel_rfl)|refine zB rfl rfl rfl (by repeat constructor) rfl ?_)
      refine oP (hm) Try.call30 rfl rfl ?_
      repeat (first|refine zJ rfl rfl ?_|refine jr rfl ?_|refine jn ?_|refine zM rfl rfl ?_|(refine zC rfl rfl ?_ rfl ?_;omega)|(refine zD rfl rfl ?_ rfl ?_;omega)|(refine zP rfl ?_ rfl ?_;omega)|refine zG rfl rfl rfl rfl ?_|(refine jdq rfl rfl ?_ ?_ ?_;kernel_rfl;kernel_rfl)|refine zB rfl rfl rfl (by repeat constructor) rfl ?_)
      exact J_retv rfl (.tmp rfl (.tmp rfl .nil)) [] (fun w s => s) (PH.ler _) ⟨rfl, rfl⟩
    rw [if_neg (by simp [h1, h2])]
    have hm' : 0 ≤ a ∧ a ≤ 1099511627776 := of_decide_eq_true hb
    have hp := prod_le (a := a) (b := r) hm'.1 (by omega) hm'.2 (show r ≤ 10000 by omega)
    rw [show (1099511627776 : Int) * 10000 = 10995116277760000 from by decide] at hp
    by_cases h5 : 5000 ≤ a * r % 10000
    · repeat (first|refine zJ rfl rfl ?_|refine jr rfl ?_|refine jn ?_|refine zM rfl rfl ?_|(refine zC rfl rfl ?_ rfl ?_;omega)|(refine zD rfl rfl ?_ rfl ?_;omega)|(refine zP rfl ?_ rfl ?_;omega)|refine zG rfl rfl rfl rfl ?_|(refine jdq rfl rfl ?_ ?_ ?_;kernel_rfl;kernel_rfl)|refine zB rfl rfl rfl (by repeat constructor) rfl ?_)
      refine oP (hm) Try.call30 rfl rfl ?_
      repeat (first|refine zJ rfl rfl ?_|refine jr rfl ?_|refine jn ?_|refine zM rfl rfl ?_|(refine zC rfl rfl ?_ rfl ?_;omega)|(refine zD rfl rfl ?_ rfl ?_;omega)|(refine zP rfl ?_ rfl ?_;omega)|refine zG rfl rfl rfl rfl ?_|(refine jdq rfl rfl ?_ ?_ ?_;kernel_rfl;kernel_rfl)|refine zB rfl rfl rfl (by repeat constructor) rfl ?_)
      refine J_retv rfl (.tmp rfl (.tmp rfl .nil)) [] (fun w s => s) (PH.ler _) ⟨?_, rfl⟩
      rw [show (a * r + 5000) / 10000 = a * r / 10000 + 1 from by omega]
      rfl
    · repeat (first|refine zJ rfl rfl ?_|refine jr rfl ?_|refine jn ?_|refine zM rfl rfl ?_|(refine zC rfl rfl ?_ rfl ?_;omega)|(refine zD rfl rfl ?_ rfl ?_;omega)|(refine zP rfl ?_ rfl ?_;omega)|refine zG rfl rfl rfl rfl ?_|(refine jdq rfl rfl ?_ ?_ ?_;kernel_rfl;kernel_rfl)|refine zB rfl rfl rfl (by repeat constructor) rfl ?_)
      refine oP (hm) Try.call30 rfl rfl ?_
      repeat (first|refine zJ rfl rfl ?_|refine jr rfl ?_|refine jn ?_|refine zM rfl rfl ?_|(refine zC rfl rfl ?_ rfl ?_;omega)|(refine zD rfl rfl ?_ rfl ?_;omega)|(refine zP rfl ?_ rfl ?_;omega)|refine zG rfl rfl rfl rfl ?_|(refine jdq rfl rfl ?_ ?_ ?_;kernel_rfl;kernel_rfl)|refine zB rfl rfl rfl (by repeat constructor) rfl ?_)
      refine J_retv rfl (.tmp rfl (.tmp rfl .nil)) [] (fun w s => s) (PH.ler _) ⟨?_, rfl⟩
      rw [show (a * r + 5000) / 10000 = a * r / 10000 from by omega]
      rfl
theorem feeP_ok {a r : Int} (h : (feeP a r).2 = 0) : 0 ≤ a ∧ a ≤ 1099511627776 ∧ 0 ≤ r ∧ r ≤ 10000 ∧ (feeP a r).1 = (a * r + 5000) / 10000 ∧ 0 ≤ (feeP a r).1 ∧ (feeP a r).1 ≤ a := by
  unfold feeP at h ⊢
  split at h
  · cases h
  · rename_i hh
    rw [if_neg hh]
    have h1 : moneyB a = true := by cases hb : moneyB a with | true => rfl | false => exact absurd (.inl hb) hh
    have h2 : 0 ≤ a ∧ a ≤ 1099511627776 := of_decide_eq_true h1
    have h3 : ¬ r < 0 := fun h => hh (.inr (.inl h))
    have h4 : ¬ 10000 < r := fun h => hh (.inr (.inr h))
    have h5 : 0 ≤ a * r := Int.mul_nonneg h2.1 (by omega)
    have h6 : a * r ≤ a * 10000 := Int.mul_le_mul_of_nonneg_left (by omega) h2.1
    exact ⟨h2.1, h2.2, by omega, by omega, rfl, by dsimp only; omega, by dsimp only; omega⟩
def netP (a r : Int) : Int × Int × Int := if (feeP a r).2 ≠ 0 then (0, 0, (feeP a r).2) else (a - (feeP a r).1, (feeP a r).1, 0)
theorem net_spec (a r : Int) (F : PH) (ha : InK .i64 a) : Pure Try.prog 13 [.int .i64 a, .int .i64 r] F (.tuple #[.int .i64 (netP a r).1, .int .i64 (netP a r).2.1, .int .i64 (netP a r).2.2]) := by
  have hf := fee_spec a r F ha
  have hok := @feeP_ok a r
  refine Spec.of2 Try.func13 rfl rfl fun X w0 => ?_
  unfold netP
  generalize feeP a r = p at *
  obtain ⟨f, e⟩ := p
  dsimp only at *
  by_cases he : e = 0
  · obtain ⟨h1, h2, _, _, _, h3, h4⟩ := hok he
    rw [if_neg (fun h => h he)]
    repeat (first|refine zJ rfl rfl ?_|refine jr rfl ?_|refine jn ?_|refine zM rfl rfl ?_|(refine zC rfl rfl ?_ rfl ?_;omega)|(refine zD rfl rfl ?_ rfl ?_;omega)|(refine zP rfl ?_ rfl ?_;omega)|refine zG rfl rfl rfl rfl ?_|(refine jdq rfl rfl ?_ ?_ ?_;kernel_rfl;kernel_rfl)|refine zB rfl rfl rfl (by repeat constructor) rfl ?_)
    refine oP (hf) Try.call11 rfl rfl ?_
    repeat (first|refine zJ rfl rfl ?_|refine jr rfl ?_|refine jn ?_|refine zM rfl rfl ?_|(refine zC rfl rfl ?_ rfl ?_;omega)|(refine zD rfl rfl ?_ rfl ?_;omega)|(refine zP rfl ?_ rfl ?_;omega)|refine zG rfl rfl rfl rfl ?_|(refine jdq rfl rfl ?_ ?_ ?_;kernel_rfl;kernel_rfl)|refine zB rfl rfl rfl (by repeat constructor) rfl ?_)
    exact J_retv rfl (.tmp rfl (.tmp rfl (.tmp rfl .nil))) [] (fun w s => s) (PH.ler _) ⟨rfl, rfl⟩
  · rw [if_pos he]
    repeat (first|refine zJ rfl rfl ?_|refine jr rfl ?_|refine jn ?_|refine zM rfl rfl ?_|(refine zC rfl rfl ?_ rfl ?_;omega)|(refine zD rfl rfl ?_ rfl ?_;omega)|(refine zP rfl ?_ rfl ?_;omega)|refine zG rfl rfl rfl rfl ?_|(refine jdq rfl rfl ?_ ?_ ?_;kernel_rfl;kernel_rfl)|refine zB rfl rfl rfl (by repeat constructor) rfl ?_)
    refine oP (hf) Try.call11 rfl rfl ?_
    repeat (first|refine zJ rfl rfl ?_|refine jr rfl ?_|refine jn ?_|refine zM rfl rfl ?_|(refine zC rfl rfl ?_ rfl ?_;omega)|(refine zD rfl rfl ?_ rfl ?_;omega)|(refine zP rfl ?_ rfl ?_;omega)|refine zG rfl rfl rfl rfl ?_|(refine jdq rfl rfl ?_ ?_ ?_;kernel_rfl;kernel_rfl)|refine zB rfl rfl rfl (by repeat constructor) rfl ?_)
    exact J_retv rfl (.tmp rfl (.tmp rfl (.tmp rfl .nil))) [] (fun w s => s) (PH.ler _) ⟨rfl, rfl⟩
/-! weights -/
def i64s (xs : List Int) : List Value := xs.map fun x => Value.int .i64 x
def Row64 (F : PH) (v : Value) (xs : List Int) : Prop := SliceV F 1 v xs.length (i64s xs)
theorem Row64.mono {F G : PH} {v : Value} {xs : List Int} (h : Row64 F v xs) (hl : F.le G) : Row64 G v xs := SliceV.mono h hl
theorem Row64.form {F : PH} {v : Value} {xs : List Int} (h : Row64 F v xs) : ∃ a c, v = .slice a xs.length c ∧ xs.length ≤ c := by
  obtain ⟨_, a, c, e, hn, _⟩ := h
  exact ⟨a, c, e, hn⟩
theorem Row64.at {F : PH} {a : Option Addr} {n c i : Nat} {xs : List Int} {x : Int} (h : Row64 F (.slice a n c) xs) (hi : xs[i]? = some x) : ∃ b off, a = some ⟨b, off, none⟩ ∧ Cells F b (off + i * 1) [.int .i64 x] ∧ i < n := by
  obtain ⟨hn, a', c', e, _, hc⟩ := slice1 (xs := xs) (f := fun x => Value.int .i64 x) h
  cases e
  obtain ⟨b, off, ha, hcc⟩ := hc i x hi
  exact ⟨b, off, ha, hcc, (List.getElem?_eq_some_iff.1 hi).1⟩
def oddW (w : Int) : Bool := decide (w < 0) || decide (65536 < w)
theorem odd1_spec (w : Int) (F : PH) : Pure Try.prog 43 [.int .i64 w] F (.bool (oddW w)) := by
  refine Spec.of1 Try.func43 rfl rfl fun X w0 => ?_
  unfold oddW
  by_cases h1 : w < 0
  · rw [decide_eq_true h1]
    repeat (first|refine zJ rfl rfl ?_|refine jr rfl ?_|refine jn ?_|refine zM rfl rfl ?_|(refine zC rfl rfl ?_ rfl ?_;omega)|(refine zD rfl rfl ?_ rfl ?_;omega)|(refine zP rfl ?_ rfl ?_;omega)|refine zG rfl rfl rfl rfl ?_|(refine jdq rfl rfl ?_ ?_ ?_;kernel_rfl;kernel_rfl)|refine zB rfl rfl rfl (by repeat constructor) rfl ?_)
    exact J_retv rfl (.tmp rfl .nil) [] (fun w s => s) (PH.ler _) ⟨rfl, rfl⟩
  · rw [decide_eq_false h1]
    by_cases h2 : 65536 < w
    · rw [decide_eq_true h2]
      repeat (first|refine zJ rfl rfl ?_|refine jr rfl ?_|refine jn ?_|refine zM rfl rfl ?_|(refine zC rfl rfl ?_ rfl ?_;omega)|(refine zD rfl rfl ?_ rfl ?_;omega)|(refine zP rfl ?_ rfl ?_;omega)|refine zG rfl rfl rfl rfl ?_|(refine jdq rfl rfl ?_ ?_ ?_;kernel_rfl;kernel_rfl)|refine zB rfl rfl rfl (by repeat constructor) rfl ?_)
      exact J_retv rfl (.tmp rfl .nil) [] (fun w s => s) (PH.ler _) ⟨rfl, rfl⟩
    · rw [decide_eq_false h2]
      repeat (first|refine zJ rfl rfl ?_|refine jr rfl ?_|refine jn ?_|refine zM rfl rfl ?_|(refine zC rfl rfl ?_ rfl ?_;omega)|(refine zD rfl rfl ?_ rfl ?_;omega)|(refine zP rfl ?_ rfl ?_;omega)|refine zG rfl rfl rfl rfl ?_|(refine jdq rfl rfl ?_ ?_ ?_;kernel_rfl;kernel_rfl)|refine zB rfl rfl rfl (by repeat constructor) rfl ?_)
      exact J_retv rfl (.tmp rfl .nil) [] (fun w s => s) (PH.ler _) ⟨rfl, rfl⟩
theorem take_snoc {α : Type} {l : List α} {j : Nat} {x : α} (h : l[j]? = some x) : l.take (j + 1) = l.take j ++ [x] := by
  obtain ⟨hlt, rfl⟩ := List.getElem?_eq_some_iff.1 h
  exact List.take_succ_eq_append_getElem hlt
set_option maxHeartbeats 4000000 in
theorem indexOdd_spec (v : Value) (ws : List Int) (F : PH) (h : Row64 F v ws) (hl : ws.length ≤ 1048576) : Spec Try.prog 52 [v, fnV 43 []] F [] fun u F' H' => F = F' ∧ H' = [] ∧ ∃ r : Int, u = .int .i64 r ∧ (0 ≤ r ↔ ws.any oddW = true) := by
  obtain ⟨a, c, rfl, hc⟩ := h.form
  refine Spec.of2 Try.func52 rfl rfl fun X w0 => ?_
  repeat (first|refine zJ rfl rfl ?_|refine jr rfl ?_|refine jn ?_|refine zM rfl rfl ?_|(refine zC rfl rfl ?_ rfl ?_;omega)|(refine zD rfl rfl ?_ rfl ?_;omega)|(refine zP rfl ?_ rfl ?_;omega)|refine zG rfl rfl rfl rfl ?_|(refine jdq rfl rfl ?_ ?_ ?_;kernel_rfl;kernel_rfl)|refine zB rfl rfl rfl (by repeat constructor) rfl ?_)
  refine J_loop (ι := Nat) (fun i => i ≤ ws.length ∧ (ws.take i).any oddW = false) (fun i => ws.length - i) (fun i => [(0, .slice a ws.length c), (1, fnV 43 []), (7, .int .i64 ws.length), (8, .int .i64 i)]) (fun _ => F) (fun _ => X) 0 ⟨Nat.zero_le _, rfl⟩ ⟨⟨rfl, rfl, rfl, rfl, trivial⟩, fun _ s => s⟩ ?_
  rintro i ⟨hi, hgood⟩
  by_cases hlt : i < ws.length
  · have hg : ws[i]? = some ws[i] := List.getElem?_eq_getElem hlt
    have htk := take_snoc hg
    have hmem : ws[i] ∈ ws := List.getElem_mem hlt
    obtain ⟨b, off, rfl, hcc, _⟩ := h.at hg
    generalize ws[i] = w at *
    have hod := odd1_spec w F
    repeat (first|refine zJ rfl rfl ?_|refine jr rfl ?_|refine jn ?_|refine zM rfl rfl ?_|(refine zC rfl rfl ?_ rfl ?_;omega)|(refine zD rfl rfl ?_ rfl ?_;omega)|(refine zP rfl ?_ rfl ?_;omega)|refine zG rfl rfl rfl rfl ?_|(refine jdq rfl rfl ?_ ?_ ?_;kernel_rfl;kernel_rfl)|refine zB rfl rfl rfl (by repeat constructor) rfl ?_)
    refine oS (ev_indexAddr rfl rfl rfl hlt) rfl ?_
    refine oS (ev_load rfl rfl (Rdb.ofF hcc)) rfl ?_
    refine oPF (f := 43) (caps := []) (vs := [.int .i64 w]) rfl hod Try.call43 rfl rfl ?_
    cases hb : oddW w with
    | true =>
      repeat (first|refine zJ rfl rfl ?_|refine jr rfl ?_|refine jn ?_|refine zM rfl rfl ?_|(refine zC rfl rfl ?_ rfl ?_;omega)|(refine zD rfl rfl ?_ rfl ?_;omega)|(refine zP rfl ?_ rfl ?_;omega)|refine zG rfl rfl rfl rfl ?_|(refine jdq rfl rfl ?_ ?_ ?_;kernel_rfl;kernel_rfl)|refine zB rfl rfl rfl (by repeat constructor) rfl ?_)
      exact J_retv rfl (.tmp rfl .nil) [] (fun w s => s) (PH.ler _) ⟨rfl, rfl, i, rfl, ⟨fun _ => List.any_eq_true.2 ⟨w, hmem, hb⟩, fun _ => Int.natCast_nonneg _⟩⟩
    | false =>
      repeat (first|refine zJ rfl rfl ?_|refine jr rfl ?_|refine jn ?_|refine zM rfl rfl ?_|(refine zC rfl rfl ?_ rfl ?_;omega)|(refine zD rfl rfl ?_ rfl ?_;omega)|(refine zP rfl ?_ rfl ?_;omega)|refine zG rfl rfl rfl rfl ?_|(refine jdq rfl rfl ?_ ?_ ?_;kernel_rfl;kernel_rfl)|refine zB rfl rfl rfl (by repeat constructor) rfl ?_)
      exact J_again (i + 1) ⟨hlt, by rw [htk, List.any_append, hgood]; simp [hb]⟩ (by omega) ⟨⟨rfl, rfl, rfl, rfl, trivial⟩, fun w s => s⟩
  · obtain rfl : i = ws.length := by omega
    rw [List.take_length] at hgood
    repeat (first|refine zJ rfl rfl ?_|refine jr rfl ?_|refine jn ?_|refine zM rfl rfl ?_|(refine zC rfl rfl ?_ rfl ?_;omega)|(refine zD rfl rfl ?_ rfl ?_;omega)|(refine zP rfl ?_ rfl ?_;omega)|refine zG rfl rfl rfl rfl ?_|(refine jdq rfl rfl ?_ ?_ ?_;kernel_rfl;kernel_rfl)|refine zB rfl rfl rfl (by repeat constructor) rfl ?_)
    exact J_retv rfl (.tmp rfl .nil) [] (fun w s => s) (PH.ler _) ⟨rfl, rfl, -1, rfl, ⟨fun h => absurd h (by decide), fun h => by rw [hgood] at h; cases h⟩⟩
theorem contOdd_spec (v : Value) (ws : List Int) (F : PH) (h : Row64 F v ws) (hl : ws.length ≤ 1048576) : Pure Try.prog 44 [v, fnV 43 []] F (.bool (ws.any oddW)) := by
  refine Spec.of2 Try.func44 rfl rfl fun X w0 => ?_
  repeat (first|refine zJ rfl rfl ?_|refine jr rfl ?_|refine jn ?_|refine zM rfl rfl ?_|(refine zC rfl rfl ?_ rfl ?_;omega)|(refine zD rfl rfl ?_ rfl ?_;omega)|(refine zP rfl ?_ rfl ?_;omega)|refine zG rfl rfl rfl rfl ?_|(refine jdq rfl rfl ?_ ?_ ?_;kernel_rfl;kernel_rfl)|refine zB rfl rfl rfl (by repeat constructor) rfl ?_)
  refine oC (Hc := []) (Hr := X) (indexOdd_spec v ws F h hl) Try.call52 rfl rfl (fun _ s => s) ?_
  rintro _ _ _ _ ⟨rfl, rfl, r, rfl, hr⟩
  cases hb : ws.any oddW with
  | true =>
    have h0 := hr.2 hb
    repeat (first|refine zJ rfl rfl ?_|refine jr rfl ?_|refine jn ?_|refine zM rfl rfl ?_|(refine zC rfl rfl ?_ rfl ?_;omega)|(refine zD rfl rfl ?_ rfl ?_;omega)|(refine zP rfl ?_ rfl ?_;omega)|refine zG rfl rfl rfl rfl ?_|(refine jdq rfl rfl ?_ ?_ ?_;kernel_rfl;kernel_rfl)|refine zB rfl rfl rfl (by repeat constructor) rfl ?_)
    exact J_retv rfl (.tmp rfl .nil) [] (fun w s => s) (PH.ler _) ⟨rfl, rfl⟩
  | false =>
    have h0 : ¬ 0 ≤ r := fun hh => by rw [hr.1 hh] at hb; cases hb
    repeat (first|refine zJ rfl rfl ?_|refine jr rfl ?_|refine jn ?_|refine zM rfl rfl ?_|(refine zC rfl rfl ?_ rfl ?_;omega)|(refine zD rfl rfl ?_ rfl ?_;omega)|(refine zP rfl ?_ rfl ?_;omega)|refine zG rfl rfl rfl rfl ?_|(refine jdq rfl rfl ?_ ?_ ?_;kernel_rfl;kernel_rfl)|refine zB rfl rfl rfl (by repeat constructor) rfl ?_)
    exact J_retv rfl (.tmp rfl .nil) [] (fun w s => s) (PH.ler _) ⟨rfl, rfl⟩
/-- The weights' sum, and the error. -/
def chkP (total : Int) (ws : List Int) : Int × Int := if moneyB total = false ∨ ws.any oddW = true then (0, 5) else if 16 < ws.length then (0, 4) else if ws.sum = 0 then (0, 2) else (ws.sum, 0)
theorem notOdd {ws : List Int} (h : ws.any oddW = false) : ∀ w ∈ ws, 0 ≤ w ∧ w ≤ 65536 := fun w hw => by
  have h1 : ¬ oddW w = true := fun hb => by rw [List.any_eq_true.2 ⟨w, hw, hb⟩] at h; cases h
  unfold oddW at h1
  simp at h1
  exact h1
theorem sum_le : ∀ {ws : List Int}, (∀ w ∈ ws, 0 ≤ w ∧ w ≤ 65536) → 0 ≤ ws.sum ∧ ws.sum ≤ ws.length * 65536
  | [], _ => by simp
  | w :: ws, h => by
    have h1 := h w (by simp)
    have h2 := sum_le (ws := ws) fun x hx => h x (by simp [hx])
    simp only [List.sum_cons, List.length_cons]
    push_cast
    omega
theorem sum_take_le {ws : List Int} (h : ∀ w ∈ ws, 0 ≤ w ∧ w ≤ 65536) (i : Nat) (hi : i ≤ 16) : 0 ≤ (ws.take i).sum ∧ (ws.take i).sum ≤ 1048576 := by
  have h1 := sum_le (ws := ws.take i) fun w hw => h w (List.mem_of_mem_take hw)
  have h2 : (ws.take i).length ≤ 16 := by rw [List.length_take]; omega
  omega
set_option maxHeartbeats 4000000 in
theorem check_spec (total : Int) (v : Value) (ws : List Int) (F : PH) (h : Row64 F v ws) (hx : InK .i64 total) (hl : ws.length ≤ 1048576) : Pure Try.prog 26 [.int .i64 total, v] F (.tuple #[.int .i64 (chkP total ws).1, .int .i64 (chkP total ws).2]) := by
  have hm := money_spec total F hx
  have hco := contOdd_spec v ws F h hl
  obtain ⟨a, c, rfl, hc⟩ := h.form
  refine Spec.of2 Try.func26 rfl rfl fun X w0 => ?_
  unfold chkP
  cases hb : moneyB total with
  | false =>
    rw [hb] at hm
    rw [if_pos (.inl rfl)]
    repeat (first|refine zJ rfl rfl ?_|refine jr rfl ?_|refine jn ?_|refine zM rfl rfl ?_|(refine zC rfl rfl ?_ rfl ?_;omega)|(refine zD rfl rfl ?_ rfl ?_;omega)|(refine zP rfl ?_ rfl ?_;omega)|refine zG rfl rfl rfl rfl ?_|(refine jdq rfl rfl ?_ ?_ ?_;kernel_rfl;kernel_rfl)|refine zB rfl rfl rfl (by repeat constructor) rfl ?_)
    refine oP (hm) Try.call31 rfl rfl ?_
    repeat (first|refine zJ rfl rfl ?_|refine jr rfl ?_|refine jn ?_|refine zM rfl rfl ?_|(refine zC rfl rfl ?_ rfl ?_;omega)|(refine zD rfl rfl ?_ rfl ?_;omega)|(refine zP rfl ?_ rfl ?_;omega)|refine zG rfl rfl rfl rfl ?_|(refine jdq rfl rfl ?_ ?_ ?_;kernel_rfl;kernel_rfl)|refine zB rfl rfl rfl (by repeat constructor) rfl ?_)
    exact J_retv rfl (.tmp rfl (.tmp rfl .nil)) [] (fun w s => s) (PH.ler _) ⟨rfl, rfl⟩
  | true =>
    rw [hb] at hm
    cases ho : ws.any oddW with
    | true =>
      rw [ho] at hco
      rw [if_pos (.inr rfl)]
      repeat (first|refine zJ rfl rfl ?_|refine jr rfl ?_|refine jn ?_|refine zM rfl rfl ?_|(refine zC rfl rfl ?_ rfl ?_;omega)|(refine zD rfl rfl ?_ rfl ?_;omega)|(refine zP rfl ?_ rfl ?_;omega)|refine zG rfl rfl rfl rfl ?_|(refine jdq rfl rfl ?_ ?_ ?_;kernel_rfl;kernel_rfl)|refine zB rfl rfl rfl (by repeat constructor) rfl ?_)
      refine oP (hm) Try.call31 rfl rfl ?_
      repeat (first|refine zJ rfl rfl ?_|refine jr rfl ?_|refine jn ?_|refine zM rfl rfl ?_|(refine zC rfl rfl ?_ rfl ?_;omega)|(refine zD rfl rfl ?_ rfl ?_;omega)|(refine zP rfl ?_ rfl ?_;omega)|refine zG rfl rfl rfl rfl ?_|(refine jdq rfl rfl ?_ ?_ ?_;kernel_rfl;kernel_rfl)|refine zB rfl rfl rfl (by repeat constructor) rfl ?_)
      refine oP (hco) Try.call44 rfl rfl ?_
      repeat (first|refine zJ rfl rfl ?_|refine jr rfl ?_|refine jn ?_|refine zM rfl rfl ?_|(refine zC rfl rfl ?_ rfl ?_;omega)|(refine zD rfl rfl ?_ rfl ?_;omega)|(refine zP rfl ?_ rfl ?_;omega)|refine zG rfl rfl rfl rfl ?_|(refine jdq rfl rfl ?_ ?_ ?_;kernel_rfl;kernel_rfl)|refine zB rfl rfl rfl (by repeat constructor) rfl ?_)
      exact J_retv rfl (.tmp rfl (.tmp rfl .nil)) [] (fun w s => s) (PH.ler _) ⟨rfl, rfl⟩
    | false =>
      rw [ho] at hco
      rw [if_neg (by simp)]
      by_cases h16 : 16 < ws.length
      · rw [if_pos h16]
        repeat (first|refine zJ rfl rfl ?_|refine jr rfl ?_|refine jn ?_|refine zM rfl rfl ?_|(refine zC rfl rfl ?_ rfl ?_;omega)|(refine zD rfl rfl ?_ rfl ?_;omega)|(refine zP rfl ?_ rfl ?_;omega)|refine zG rfl rfl rfl rfl ?_|(refine jdq rfl rfl ?_ ?_ ?_;kernel_rfl;kernel_rfl)|refine zB rfl rfl rfl (by repeat constructor) rfl ?_)
        refine oP (hm) Try.call31 rfl rfl ?_
        repeat (first|refine zJ rfl rfl ?_|refine jr rfl ?_|refine jn ?_|refine zM rfl rfl ?_|(refine zC rfl rfl ?_ rfl ?_;omega)|(refine zD rfl rfl ?_ rfl ?_;omega)|(refine zP rfl ?_ rfl ?_;omega)|refine zG rfl rfl rfl rfl ?_|(refine jdq rfl rfl ?_ ?_ ?_;kernel_rfl;kernel_rfl)|refine zB rfl rfl rfl (by repeat constructor) rfl ?_)
        refine oP (hco) Try.call44 rfl rfl ?_
        repeat (first|refine zJ rfl rfl ?_|refine jr rfl ?_|refine jn ?_|refine zM rfl rfl ?_|(refine zC rfl rfl ?_ rfl ?_;omega)|(refine zD rfl rfl ?_ rfl ?_;omega)|(refine zP rfl ?_ rfl ?_;omega)|refine zG rfl rfl rfl rfl ?_|(refine jdq rfl rfl ?_ ?_ ?_;kernel_rfl;kernel_rfl)|refine zB rfl rfl rfl (by repeat constructor) rfl ?_)
        exact J_retv rfl (.tmp rfl (.tmp rfl .nil)) [] (fun w s => s) (PH.ler _) ⟨rfl, rfl⟩
      rw [if_neg h16]
      have hws := notOdd ho
      repeat (first|refine zJ rfl rfl ?_|refine jr rfl ?_|refine jn ?_|refine zM rfl rfl ?_|(refine zC rfl rfl ?_ rfl ?_;omega)|(refine zD rfl rfl ?_ rfl ?_;omega)|(refine zP rfl ?_ rfl ?_;omega)|refine zG rfl rfl rfl rfl ?_|(refine jdq rfl rfl ?_ ?_ ?_;kernel_rfl;kernel_rfl)|refine zB rfl rfl rfl (by repeat constructor) rfl ?_)
      refine oP (hm) Try.call31 rfl rfl ?_
      repeat (first|refine zJ rfl rfl ?_|refine jr rfl ?_|refine jn ?_|refine zM rfl rfl ?_|(refine zC rfl rfl ?_ rfl ?_;omega)|(refine zD rfl rfl ?_ rfl ?_;omega)|(refine zP rfl ?_ rfl ?_;omega)|refine zG rfl rfl rfl rfl ?_|(refine jdq rfl rfl ?_ ?_ ?_;kernel_rfl;kernel_rfl)|refine zB rfl rfl rfl (by repeat constructor) rfl ?_)
      refine oP (hco) Try.call44 rfl rfl ?_
      repeat (first|refine zJ rfl rfl ?_|refine jr rfl ?_|refine jn ?_|refine zM rfl rfl ?_|(refine zC rfl rfl ?_ rfl ?_;omega)|(refine zD rfl rfl ?_ rfl ?_;omega)|(refine zP rfl ?_ rfl ?_;omega)|refine zG rfl rfl rfl rfl ?_|(refine jdq rfl rfl ?_ ?_ ?_;kernel_rfl;kernel_rfl)|refine zB rfl rfl rfl (by repeat constructor) rfl ?_)
      refine J_loop (ι := Nat) (fun i => i ≤ ws.length) (fun i => ws.length - i) (fun i => [(4, .int .i64 (ws.take i).sum), (5, .int .i64 0), (22, .slice a ws.length c), (23, .int .i64 ws.length), (24, .int .i64 i)]) (fun _ => F) (fun _ => X) 0 (Nat.zero_le _) ⟨⟨rfl, rfl, rfl, rfl, rfl, trivial⟩, fun _ s => s⟩ ?_
      intro i hi
      by_cases hlt : i < ws.length
      · have hg : ws[i]? = some ws[i] := List.getElem?_eq_getElem hlt
        have htk := take_snoc hg
        have hmem := hws _ (List.getElem_mem hlt)
        have hsl := sum_take_le hws i (by omega)
        obtain ⟨b, off, rfl, hcc, _⟩ := h.at hg
        generalize ws[i] = w at *
        repeat (first|refine zJ rfl rfl ?_|refine jr rfl ?_|refine jn ?_|refine zM rfl rfl ?_|(refine zC rfl rfl ?_ rfl ?_;omega)|(refine zD rfl rfl ?_ rfl ?_;omega)|(refine zP rfl ?_ rfl ?_;omega)|refine zG rfl rfl rfl rfl ?_|(refine jdq rfl rfl ?_ ?_ ?_;kernel_rfl;kernel_rfl)|refine zB rfl rfl rfl (by repeat constructor) rfl ?_)
        refine oS (ev_indexAddr rfl rfl rfl hlt) rfl ?_
        refine oS (ev_load rfl rfl (Rdb.ofF hcc)) rfl ?_
        repeat (first|refine zJ rfl rfl ?_|refine jr rfl ?_|refine jn ?_|refine zM rfl rfl ?_|(refine zC rfl rfl ?_ rfl ?_;omega)|(refine zD rfl rfl ?_ rfl ?_;omega)|(refine zP rfl ?_ rfl ?_;omega)|refine zG rfl rfl rfl rfl ?_|(refine jdq rfl rfl ?_ ?_ ?_;kernel_rfl;kernel_rfl)|refine zB rfl rfl rfl (by repeat constructor) rfl ?_)
        refine J_again (i + 1) hlt (by omega) ⟨⟨?_, rfl, rfl, rfl, rfl, trivial⟩, fun w s => s⟩
        rw [htk, List.sum_append, List.sum_singleton]
        rfl
      · obtain rfl : i = ws.length := by omega
        rw [List.take_length]
        by_cases h0 : ws.sum = 0
        · rw [if_pos h0]
          repeat (first|refine zJ rfl rfl ?_|refine jr rfl ?_|refine jn ?_|refine zM rfl rfl ?_|(refine zC rfl rfl ?_ rfl ?_;omega)|(refine zD rfl rfl ?_ rfl ?_;omega)|(refine zP rfl ?_ rfl ?_;omega)|refine zG rfl rfl rfl rfl ?_|(refine jdq rfl rfl ?_ ?_ ?_;kernel_rfl;kernel_rfl)|refine zB rfl rfl rfl (by repeat constructor) rfl ?_)
          exact J_retv rfl (.tmp rfl (.tmp rfl .nil)) [] (fun w s => s) (PH.ler _) ⟨rfl, rfl⟩
        · rw [if_neg h0]
          repeat (first|refine zJ rfl rfl ?_|refine jr rfl ?_|refine jn ?_|refine zM rfl rfl ?_|(refine zC rfl rfl ?_ rfl ?_;omega)|(refine zD rfl rfl ?_ rfl ?_;omega)|(refine zP rfl ?_ rfl ?_;omega)|refine zG rfl rfl rfl rfl ?_|(refine jdq rfl rfl ?_ ?_ ?_;kernel_rfl;kernel_rfl)|refine zB rfl rfl rfl (by repeat constructor) rfl ?_)
          exact J_retv rfl (.tmp rfl (.tmp rfl .nil)) [] (fun w s => s) (PH.ler _) ⟨rfl, rfl⟩
end Go.Proofs.Ytmicjjhkoicdnaa
