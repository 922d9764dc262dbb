/-
  The octets' Put, the program's and the document's. Conditions are typed with each.
-/
import Derived.Test.YtekdmpbkcjjllaaDoorOa
namespace Go.Proofs.YtekdmpbkcjjllaaDoor
open Go.RowKit
set_option maxRecDepth 100000
theorem wrap_u8 (x : Nat) : IntKind.u8.wrap (x : Int) = ((UInt8.ofNat x).toNat : Int) := by
  simp [IntKind.wrap, IntKind.bits, IntKind.signed]
def be8 (v : Nat) : List UInt8 := (List.range 8).map fun i => UInt8.ofNat (v >>> (56 - 8 * i))
/-- What Put puts. -/
def putB (v : Nat) (n : Int) : List UInt8 := if sizeB n then (be8 v).drop (8 - n.toNat) else []
theorem be8_len (v : Nat) : (be8 v).length = 8 := by simp [be8]
def wr8 (v j : Nat) : List Value := u8s ((be8 v).take j) ++ List.replicate (8 - j) (.int .u8 0)
theorem wr8_set (v j : Nat) (hj : j < 8) : (wr8 v j).set j (.int .u8 (((UInt8.ofNat (v >>> (56 - 8 * j))).toNat : Nat) : Int)) = wr8 v (j + 1) := by
  have : j = 0 ∨ j = 1 ∨ j = 2 ∨ j = 3 ∨ j = 4 ∨ j = 5 ∨ j = 6 ∨ j = 7 := by omega
  rcases this with rfl | rfl | rfl | rfl | rfl | rfl | rfl | rfl <;> rfl
theorem wr8_len (v j : Nat) (hj : j ≤ 8) : (wr8 v j).length = 8 := by simp [wr8, u8s, be8]; omega
theorem wr8_8 (v : Nat) : wr8 v 8 = u8s (be8 v) := by
  unfold wr8
  rw [List.take_of_length_le (by rw [be8_len]; exact Nat.le_refl _)]
  simp
end Go.Proofs.YtekdmpbkcjjllaaDoor
