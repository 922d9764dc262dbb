/-
  Subsets, rising. Plain; no condition.
-/
import Derived.Test.YtknhcjdcenoniaaFj
namespace Go.Proofs.Ytknhcjdcenoniaa
theorem low_part : ∀ (n a s : Nat), a < 2 ^ n → s &&& a = s → (2 ^ n - 1 - (a - s)) &&& a = s := by
  intro n
  induction n with
  | zero => intro a s ha hs; have : a = 0 := by simpa using ha
            subst this; rw [Nat.and_zero] at hs ⊢; exact hs
  | succ n ih =>
    intro a s ha hs
    have hp : 2 ^ (n + 1) = 2 * 2 ^ n := by rw [Nat.pow_succ]; omega
    have hda : a / 2 < 2 ^ n := by omega
    have hd : ∀ x y : Nat, (x &&& y) / 2 = x / 2 &&& y / 2 := fun x y => Nat.and_div_two
    have hm : ∀ x y : Nat, (x &&& y) % 2 = 1 ↔ x % 2 = 1 ∧ y % 2 = 1 := fun x y => Nat.and_mod_two_eq_one
    have hs2 : s / 2 &&& a / 2 = s / 2 := by rw [← hd, hs]
    have hle2 : s / 2 ≤ a / 2 := by rw [← hs2]; exact Nat.and_le_right
    have hle : s ≤ a := by rw [← hs]; exact Nat.and_le_right
    have hsa : s % 2 = 1 → a % 2 = 1 := fun h => ((hm s a).1 (by rw [hs]; exact h)).2
    have hi := ih (a / 2) (s / 2) hda hs2
    have h2 := hd (2 ^ (n + 1) - 1 - (a - s)) a
    have h3 := hm (2 ^ (n + 1) - 1 - (a - s)) a
    have e2 : (2 ^ (n + 1) - 1 - (a - s)) / 2 = 2 ^ n - 1 - (a / 2 - s / 2) := by
      by_cases h : s % 2 = 1
      · have := hsa h; omega
      · omega
    rw [e2, hi] at h2
    by_cases h : s % 2 = 1
    · have ha2 := hsa h
      have := h3.2 ⟨by omega, ha2⟩
      omega
    · by_cases ha2 : a % 2 = 1
      · have : ¬ (2 ^ (n + 1) - 1 - (a - s) &&& a) % 2 = 1 := fun hh => by have := (h3.1 hh).1; omega
        omega
      · have : ¬ (2 ^ (n + 1) - 1 - (a - s) &&& a) % 2 = 1 := fun hh => ha2 (h3.1 hh).2
        omega
theorem next_part : ∀ (n a s t : Nat), a < 2 ^ n → s &&& a = s → t &&& a = t → s < t → s < ((2 ^ n + s - a) &&& a) ∧ ((2 ^ n + s - a) &&& a) ≤ t := by
  intro n
  induction n with
  | zero => intro a s t ha hs ht hlt; have : a = 0 := by simpa using ha
            subst this; rw [Nat.and_zero] at ht; omega
  | succ n ih =>
    intro a s t ha hs ht hlt
    have hp : 2 ^ (n + 1) = 2 * 2 ^ n := by rw [Nat.pow_succ]; omega
    have hda : a / 2 < 2 ^ n := by omega
    have hd : ∀ x y : Nat, (x &&& y) / 2 = x / 2 &&& y / 2 := fun x y => Nat.and_div_two
    have hm : ∀ x y : Nat, (x &&& y) % 2 = 1 ↔ x % 2 = 1 ∧ y % 2 = 1 := fun x y => Nat.and_mod_two_eq_one
    have hs2 : s / 2 &&& a / 2 = s / 2 := by rw [← hd, hs]
    have ht2 : t / 2 &&& a / 2 = t / 2 := by rw [← hd, ht]
    have hle2 : s / 2 ≤ a / 2 := by rw [← hs2]; exact Nat.and_le_right
    have hle : s ≤ a := by rw [← hs]; exact Nat.and_le_right
    have hsa : s % 2 = 1 → a % 2 = 1 := fun h => ((hm s a).1 (by rw [hs]; exact h)).2
    have hta : t % 2 = 1 → a % 2 = 1 := fun h => ((hm t a).1 (by rw [ht]; exact h)).2
    have h2 := hd (2 ^ (n + 1) + s - a) a
    have h3 := hm (2 ^ (n + 1) + s - a) a
    by_cases ha2 : a % 2 = 1
    · by_cases h : s % 2 = 1
      · have hi := ih (a / 2) (s / 2) (t / 2) hda hs2 ht2 (by omega)
        rw [show (2 ^ (n + 1) + s - a) / 2 = 2 ^ n + s / 2 - a / 2 from by omega] at h2
        omega
      · have hl := low_part n (a / 2) (s / 2) hda hs2
        rw [show (2 ^ (n + 1) + s - a) / 2 = 2 ^ n - 1 - (a / 2 - s / 2) from by omega, hl] at h2
        have := h3.2 ⟨by omega, ha2⟩
        omega
    · have h0 : ¬ s % 2 = 1 := fun h => ha2 (hsa h)
      have h1 : ¬ t % 2 = 1 := fun h => ha2 (hta h)
      have hi := ih (a / 2) (s / 2) (t / 2) hda hs2 ht2 (by omega)
      rw [show (2 ^ (n + 1) + s - a) / 2 = 2 ^ n + s / 2 - a / 2 from by omega] at h2
      have h4 : ¬ ((2 ^ (n + 1) + s - a) &&& a) % 2 = 1 := fun hh => ha2 (h3.1 hh).2
      omega
theorem next_32 {a s : Nat} (ha : a < 128) (hs : s ≤ a) : (4294967296 + s - a) &&& a = (128 + s - a) &&& a := by
  apply Nat.eq_of_testBit_eq
  intro i
  rw [Nat.testBit_and, Nat.testBit_and]
  by_cases h : i < 7
  · have e : (4294967296 + s - a) % 2 ^ 7 = (128 + s - a) % 2 ^ 7 := by omega
    have h1 := Nat.testBit_mod_two_pow (4294967296 + s - a) 7 i
    have h2 := Nat.testBit_mod_two_pow (128 + s - a) 7 i
    rw [decide_eq_true h, Bool.true_and] at h1 h2
    rw [← h1, ← h2, e]
  · rw [Nat.testBit_lt_two_pow (x := a) (Nat.lt_of_lt_of_le (show a < 2 ^ 7 from ha) (Nat.pow_le_pow_right (by decide) (by omega))), Bool.and_false, Bool.and_false]
end Go.Proofs.Ytknhcjdcenoniaa
