/-
  Cores: whether one may be, the program's and the document's. Conditions are typed with each.
-/
import Derived.Test.YtifdlhafcfbeaaaRa
namespace Go.Proofs.Ytifdlhafcfbeaaa
open Go.RowKit
set_option maxRecDepth 100000
structure Cr where
  client : Int
  stamp : Int
  op : Int
  letter : List UInt8
  a : Int
  b : Int
  text : List UInt8
def Cr.cells (c : Cr) : List Value := [.int .i64 c.client, .int .i64 c.stamp, .int .i64 c.op, .string (strOf c.letter), .int .i64 c.a, .int .i64 c.b, .string (strOf c.text)]
def zCr : List Value := [.int .i64 0, .int .i64 0, .int .i64 0, .string (strOf []), .int .i64 0, .int .i64 0, .string (strOf [])]
def Cr.zero : Cr := ⟨0, 0, 0, [], 0, 0, []⟩
theorem Cr.len (c : Cr) : c.cells.length = 7 := rfl
theorem Cr.ones (c : Cr) : Ones c.cells := by unfold Cr.cells; (repeat (first | exact ones_nil | refine ones_cons rfl ?_))
/-- Why a core may not be. -/
def Cr.err (c : Cr) (n : Int) : Int :=
  if n < 1 ∨ 7 < n then 1 else if c.client < n ∨ n + 4 ≤ c.client then 17 else if c.stamp < 1 ∨ 1099511627776 < c.stamp ∨ c.op < 1 ∨ 9 < c.op then 5 else if nameB c.letter = false then 7 else if 200 < c.text.length then 3 else 0
theorem Cr.err_is (c : Cr) {n e : Int} (h : (e = 1 ∧ (n < 1 ∨ 7 < n)) ∨ (¬ (n < 1 ∨ 7 < n) ∧ ((e = 17 ∧ (c.client < n ∨ n + 4 ≤ c.client)) ∨ (¬ (c.client < n ∨ n + 4 ≤ c.client) ∧ ((e = 5 ∧ (c.stamp < 1 ∨ 1099511627776 < c.stamp ∨ c.op < 1 ∨ 9 < c.op)) ∨
    (¬ (c.stamp < 1 ∨ 1099511627776 < c.stamp ∨ c.op < 1 ∨ 9 < c.op) ∧ ((e = 7 ∧ nameB c.letter = false) ∨ (nameB c.letter = true ∧ ((e = 3 ∧ 200 < c.text.length) ∨ (e = 0 ∧ ¬ 200 < c.text.length)))))))))) : c.err n = e := by
  unfold Cr.err
  rcases h with ⟨rfl, h⟩ | ⟨h, ⟨rfl, h1⟩ | ⟨h1, ⟨rfl, h2⟩ | ⟨h2, ⟨rfl, h3⟩ | ⟨h3, ⟨rfl, h4⟩ | ⟨rfl, h4⟩⟩⟩⟩⟩
  · rw [if_pos h]
  · rw [if_neg h, if_pos h1]
  · rw [if_neg h, if_neg h1, if_pos h2]
  · rw [if_neg h, if_neg h1, if_neg h2, if_pos h3]
  · rw [if_neg h, if_neg h1, if_neg h2, if_neg (by rw [h3]; decide), if_pos h4]
  · rw [if_neg h, if_neg h1, if_neg h2, if_neg (by rw [h3]; decide), if_neg h4]
theorem Cr.err_ok {c : Cr} {n : Int} (h : c.err n = 0) : 1 ≤ n ∧ n ≤ 7 ∧ n ≤ c.client ∧ c.client < n + 4 ∧ 1 ≤ c.stamp ∧ c.stamp ≤ 1099511627776 ∧ 1 ≤ c.op ∧ c.op ≤ 9 ∧ nameB c.letter = true ∧ c.text.length ≤ 200 := by
  unfold Cr.err at h
  split at h
  · cases h
  · split at h
    · cases h
    · split at h
      · cases h
      · split at h
        · cases h
        · split at h
          · cases h
          · rename_i h1 h2 h3 h4 h5
            exact ⟨by omega, by omega, by omega, by omega, by omega, by omega, by omega, by omega, by simpa using h4, by omega⟩
end Go.Proofs.Ytifdlhafcfbeaaa
