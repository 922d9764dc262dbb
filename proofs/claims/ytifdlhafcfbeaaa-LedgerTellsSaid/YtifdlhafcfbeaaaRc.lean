/-
  A core's bytes, the program's and the document's. Conditions are typed with each.
-/
import Derived.Test.YtifdlhafcfbeaaaRb
import Derived.Test.YtifdlhafcfbeaaaLc
namespace Go.Proofs.Ytifdlhafcfbeaaa
open Go.RowKit
set_option maxRecDepth 100000
theorem pl1 (v : Nat) : (putB v 1).length = 1 := putB_len (m := 1) rfl
theorem pl2 (v : Nat) : (putB v 2).length = 2 := putB_len (m := 2) rfl
theorem pl4 (v : Nat) : (putB v 4).length = 4 := putB_len (m := 4) rfl
theorem pl8 (v : Nat) : (putB v 8).length = 8 := putB_len (m := 8) rfl
theorem rowB_len (r : List UInt8) : (rowB r).length = 4 + r.length := by unfold rowB; rw [List.length_append, pl4]
def Cr.pre3 (c : Cr) : List UInt8 := putB (uN c.client) 1 ++ putB (uN c.stamp) 8 ++ putB (uN c.op) 1
def Cr.pre (c : Cr) : List UInt8 := c.pre3 ++ rowB c.letter
def Cr.mid (c : Cr) : Nat → List UInt8
  | 0 => c.pre
  | 1 => c.pre ++ putB (uN c.a) 8
  | _ => c.pre ++ putB (uN c.a) 8 ++ putB (uN c.b) 8
def Cr.bytes (c : Cr) : List UInt8 := c.mid 2 ++ rowB c.text
theorem Cr.pre_len (c : Cr) : c.pre.length = 14 + c.letter.length := by unfold Cr.pre Cr.pre3; exact (by simp only [List.length_append, pl1, pl2, pl4, pl8, rowB_len, List.length_nil]; omega)
theorem Cr.mid_len (c : Cr) (i : Nat) : (c.mid i).length ≤ 30 + c.letter.length := by
  have := c.pre_len
  match i with
  | 0 => show c.pre.length ≤ _; omega
  | 1 => show (c.pre ++ putB (uN c.a) 8).length ≤ _; simp only [List.length_append, pl8]; omega
  | n + 2 => show (c.pre ++ putB (uN c.a) 8 ++ putB (uN c.b) 8).length ≤ _; simp only [List.length_append, pl8]; omega
theorem Cr.bytes_len (c : Cr) : c.bytes.length = 34 + c.letter.length + c.text.length := by
  have := c.pre_len
  unfold Cr.bytes Cr.mid
  simp only [List.length_append, pl8, rowB_len]
  omega
end Go.Proofs.Ytifdlhafcfbeaaa
