/-
  What is put is read as it was: plain laws. Conditions are typed with each.
-/
import Derived.Test.YtifdlhafcfbeaaaOj
import Derived.Test.YtifdlhafcfbeaaaKo
namespace Go.Proofs.Ytifdlhafcfbeaaa
open Go.RowKit
set_option maxRecDepth 100000
theorem numB_putB {m u : Nat} (hm : m = 1 ∨ m = 2 ∨ m = 4 ∨ m = 8) (hu : u < 2 ^ 64) : numB (putB u m) = u % 256 ^ m := by
  rcases hm with rfl | rfl | rfl | rfl
  · show numB [UInt8.ofNat (u >>> 0)] = _
    simp [numB, Nat.shiftRight_eq_div_pow]
  · show numB [UInt8.ofNat (u >>> 8), UInt8.ofNat (u >>> 0)] = _
    simp [numB, Nat.shiftRight_eq_div_pow]
    omega
  · show numB [UInt8.ofNat (u >>> 24), UInt8.ofNat (u >>> 16), UInt8.ofNat (u >>> 8), UInt8.ofNat (u >>> 0)] = _
    simp [numB, Nat.shiftRight_eq_div_pow]
    omega
  · show numB [UInt8.ofNat (u >>> 56), UInt8.ofNat (u >>> 48), UInt8.ofNat (u >>> 40), UInt8.ofNat (u >>> 32), UInt8.ofNat (u >>> 24), UInt8.ofNat (u >>> 16), UInt8.ofNat (u >>> 8), UInt8.ofNat (u >>> 0)] = _
    simp [numB, Nat.shiftRight_eq_div_pow]
    omega
theorem sizeB_of {m : Nat} (hm : m = 1 ∨ m = 2 ∨ m = 4 ∨ m = 8) : sizeB m = true := by rcases hm with rfl | rfl | rfl | rfl <;> rfl
theorem fixR_app {bs rest : List UInt8} : fixR 0 (bs ++ rest) bs.length = (bs, 0, rest) := by
  unfold fixR
  rw [if_neg (by simp), if_neg (by simp; omega)]
  simp
theorem numR_put {m u : Nat} (hm : m = 1 ∨ m = 2 ∨ m = 4 ∨ m = 8) (hu : u < 2 ^ 64) (rest : List UInt8) : numR 0 (putB u m ++ rest) m = (u % 256 ^ m, 0, rest) := by
  have hb := sizeB_of hm
  have h1 := fixR_app (bs := putB u m) (rest := rest)
  rw [putB_len hb] at h1
  unfold numR
  rw [if_neg (by simp [hb]), h1, ← numB_putB hm hu]
theorem rowR_put {row rest : List UInt8} (hl : row.length < 4294967296) (most : Int) (hmost : (row.length : Int) ≤ most) : rowR 0 (putB row.length 4 ++ (row ++ rest)) most = (row, 0, rest) := by
  have h1 := numR_put (m := 4) (u := row.length) (by omega) (by omega) (row ++ rest)
  rw [Nat.mod_eq_of_lt (by simpa using hl)] at h1
  rw [rowR_eq, show (4 : Int) = ((4 : Nat) : Int) from rfl, h1]
  simp only [ne_eq, not_true_eq_false, if_false]
  rw [if_neg (by omega)]
  exact fixR_app
theorem num1 {u : Nat} (hu : u < 2 ^ 64) (rest : List UInt8) : numR 0 (putB u 1 ++ rest) 1 = (u % 256, 0, rest) := numR_put (m := 1) (.inl rfl) hu rest
theorem num2 {u : Nat} (hu : u < 65536) (rest : List UInt8) : numR 0 (putB u 2 ++ rest) 2 = (u, 0, rest) := by
  have := numR_put (m := 2) (u := u) (by omega) (by omega) rest
  rwa [Nat.mod_eq_of_lt (by have : (256 : Nat) ^ 2 = 65536 := rfl; omega)] at this
theorem num8 {u : Nat} (hu : u < 2 ^ 64) (rest : List UInt8) : numR 0 (putB u 8 ++ rest) 8 = (u, 0, rest) := by
  have := numR_put (m := 8) (u := u) (by omega) hu rest
  rwa [Nat.mod_eq_of_lt (by have : (256 : Nat) ^ 8 = 18446744073709551616 := rfl; have : (2 : Nat) ^ 64 = 18446744073709551616 := rfl; omega)] at this
theorem own_knob : ownKnob Try.prog.godebug = none := by kernel_rfl
theorem laid_out : laidOutB Try.prog = true := by kernel_rfl
end Go.Proofs.Ytifdlhafcfbeaaa
