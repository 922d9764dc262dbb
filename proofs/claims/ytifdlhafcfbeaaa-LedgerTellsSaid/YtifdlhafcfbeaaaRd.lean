/-
  Which core bytes tell, the program's and the document's. Conditions are typed with each. (Printed by wip/gen/rd.py.)
-/
import Derived.Test.YtifdlhafcfbeaaaRc
import Derived.Test.YtifdlhafcfbeaaaOj
namespace Go.Proofs.Ytifdlhafcfbeaaa
open Go.RowKit
set_option maxRecDepth 100000
def iN (n : Nat) : Int := IntKind.i64.wrap n
theorem iN_wrap (n : Nat) : IntKind.i64.wrap (n : Int) = iN n := rfl
/-- A core read: it, the error, what is left. -/
def coreR (most : Int) (bs : List UInt8) : Cr × Int × List UInt8 :=
  let r1 := numR 0 bs 1
  let r2 := numR r1.2.1 r1.2.2 8
  let r3 := numR r2.2.1 r2.2.2 1
  let r4 := rowR r3.2.1 r3.2.2 most
  let r5 := numR r4.2.1 r4.2.2 8
  let r6 := numR r5.2.1 r5.2.2 8
  let r7 := rowR r6.2.1 r6.2.2 most
  (⟨iN r1.1, iN r2.1, iN r3.1, r4.1, iN r5.1, iN r6.1, r7.1⟩, r7.2)
def coreP (bs : List UInt8) (n : Int) : Cr × Int :=
  if endR (coreR bs.length bs).2.1 (coreR bs.length bs).2.2 ≠ 0 then (Cr.zero, 2) else if (coreR bs.length bs).1.err n ≠ 0 then (Cr.zero, (coreR bs.length bs).1.err n) else ((coreR bs.length bs).1, 0)
def CoreQ (r : Cr × Int) (u : Value) (_ : PH) (H' : List Asrt) : Prop := H' = [] ∧ u = .tuple #[.agg r.1.cells.toArray, .int .i64 r.2]
theorem zCr_zero : Cr.zero.cells = zCr := rfl
theorem ones_zCr : Ones zCr := Cr.zero.ones
theorem rowR_short (e : Int) (bs : List UInt8) (m : Int) : (rowR e bs m).1.length ≤ bs.length := by
  by_cases h : (rowR e bs m).2.1 = 0
  · have := rowR_sum h; omega
  · rw [rowR_eq] at h ⊢
    split
    · exact Nat.zero_le _
    · split
      · exact Nat.zero_le _
      · rename_i h1 h2
        rw [if_neg h1, if_neg h2] at h
        rw [fixR_bad h]; exact Nat.zero_le _
theorem coreR_bad (bs : List UInt8) (n : Int) (m : Int) (hm : bs.length ≤ m) : coreP bs n = if endR (coreR m bs).2.1 (coreR m bs).2.2 ≠ 0 then (Cr.zero, 2) else if (coreR m bs).1.err n ≠ 0 then (Cr.zero, (coreR m bs).1.err n) else ((coreR m bs).1, 0) := by
  unfold coreP
  have key : ∀ k : Int, bs.length ≤ k → (coreR k bs = coreR bs.length bs) ∨ ((coreR k bs).2.1 ≠ 0 ∧ (coreR bs.length bs).2.1 ≠ 0) := by
    intro k hk
    have n1 := numR_rest 0 bs 1
    unfold coreR
    dsimp only
    generalize numR 0 bs 1 = r1 at *
    have n2 := numR_rest r1.2.1 r1.2.2 8
    generalize numR r1.2.1 r1.2.2 8 = r2 at *
    have n3 := numR_rest r2.2.1 r2.2.2 1
    generalize numR r2.2.1 r2.2.2 1 = r3 at *
    rcases rowR_most (e := r3.2.1) (bs := r3.2.2) (m := k) (m' := bs.length) (by omega) (by omega) with e4 | ⟨e4, e4'⟩
    · rw [e4]
      have n4 := rowR_rest' r3.2.1 r3.2.2 bs.length
      generalize rowR r3.2.1 r3.2.2 bs.length = r4 at *
      have n5 := numR_rest r4.2.1 r4.2.2 8
      generalize numR r4.2.1 r4.2.2 8 = r5 at *
      have n6 := numR_rest r5.2.1 r5.2.2 8
      generalize numR r5.2.1 r5.2.2 8 = r6 at *
      rcases rowR_most (e := r6.2.1) (bs := r6.2.2) (m := k) (m' := bs.length) (by omega) (by omega) with e7 | ⟨e7, e7'⟩
      · left; rw [e7]
      · right; exact ⟨e7, e7'⟩
    · right
      rw [numR_stick e4, numR_stick e4', numR_stick e4, numR_stick e4', rowR_stick e4, rowR_stick e4']
      exact ⟨e4, e4'⟩
  rcases key m hm with e | ⟨e, e'⟩
  · rw [e]
  · rw [if_pos (endR_bad e _), if_pos (endR_bad e' _)]
end Go.Proofs.Ytifdlhafcfbeaaa
