/-
  The octets' readers: Range, the program's and the document's. Conditions are typed with each.
-/
import Derived.Test.YtmicjjhkoicdnaaDoorOe
namespace Go.Proofs.YtmicjjhkoicdnaaDoor
open Go.RowKit
set_option maxRecDepth 100000
theorem fixR_rest (e : Int) (bs : List UInt8) (n : Int) : (fixR e bs n).2.2.length ≤ bs.length := by
  unfold fixR
  split
  · simp
  · split <;> simp
theorem fixR_ok {e : Int} {bs : List UInt8} {n : Int} (h : (fixR e bs n).2.1 = 0) : e = 0 ∧ 0 ≤ n ∧ n ≤ bs.length ∧ (fixR e bs n).1 = bs.take n.toNat ∧ (fixR e bs n).2.2 = bs.drop n.toNat := by
  unfold fixR at h ⊢
  split at h
  · rename_i h1; exact absurd h h1
  · rename_i h1
    rw [if_neg h1]
    split at h
    · cases h
    · rename_i h2
      rw [if_neg h2]
      exact ⟨by omega, by omega, by omega, rfl, rfl⟩
theorem fixR_bad {e : Int} {bs : List UInt8} {n : Int} (h : (fixR e bs n).2.1 ≠ 0) : (fixR e bs n).1 = [] := by
  unfold fixR at h ⊢
  split
  · rfl
  · rename_i h1
    rw [if_neg h1] at h
    split
    · rfl
    · rename_i h2; rw [if_neg h2] at h; exact absurd rfl h
theorem numR_rest (e : Int) (bs : List UInt8) (n : Int) : (numR e bs n).2.2.length ≤ bs.length := fixR_rest _ _ _
theorem numR_bad {e : Int} {bs : List UInt8} {n : Int} (h : (numR e bs n).2.1 ≠ 0) : (numR e bs n).1 = 0 := by
  unfold numR at h ⊢
  dsimp only at h ⊢
  rw [fixR_bad h]; rfl
theorem numR_ok {e : Int} {bs : List UInt8} {n : Int} (h : (numR e bs n).2.1 = 0) : e = 0 ∧ sizeB n = true ∧ (numR e bs n).1 < 256 ^ n.toNat := by
  unfold numR at h ⊢
  dsimp only at h ⊢
  obtain ⟨h1, h2, h3, h4, _⟩ := fixR_ok h
  have hz : ¬ (e = 0 ∧ sizeB n = false) := fun hh => by rw [if_pos hh] at h1; omega
  rw [if_neg hz] at h1
  refine ⟨h1, ?_, ?_⟩
  · cases hs : sizeB n with
    | true => rfl
    | false => exact absurd ⟨h1, hs⟩ hz
  · rw [h4]
    exact numB_lt _ _ (by simp; omega)
def sx (n : Int) (u : Nat) : Int := if n = 1 then IntKind.i8.wrap u else if n = 2 then IntKind.i16.wrap u else if n = 4 then IntKind.i32.wrap u else IntKind.i64.wrap u
/-- What Range reads. -/
def rngR (e : Int) (bs : List UInt8) (n lo hi : Int) : Int × Int × List UInt8 :=
  let r := numR e bs n
  if r.2.1 ≠ 0 then (0, r.2) else if sx n r.1 < lo ∨ hi < sx n r.1 then (0, 5, r.2.2) else (sx n r.1, r.2)
def RngQ (R : Nat → Value → Int → Asrt) (b : Nat) (r : Int × Int × List UInt8) (u : Value) (F' : PH) (H' : List Asrt) : Prop := ∃ v', u = .int .i64 r.1 ∧ Byt F' v' r.2.2 ∧ H' = [R b v' r.2.1]
theorem sx_shift {m u : Nat} (hm : m = 1 ∨ m = 2 ∨ m = 4 ∨ m = 8) (hu : u < 256 ^ m) : IntKind.i64.wrap (IntKind.u64.wrap ((u : Int) * 2 ^ (min (64 - 8 * m) IntKind.u64.bits))) / 2 ^ (min (64 - 8 * m) IntKind.i64.bits) = sx m u := by
  rcases hm with rfl | rfl | rfl | rfl
  · simp [sx, IntKind.wrap, IntKind.bits, IntKind.signed] <;> (simp at hu; omega)
  · simp [sx, IntKind.wrap, IntKind.bits, IntKind.signed] <;> (simp at hu; omega)
  · simp [sx, IntKind.wrap, IntKind.bits, IntKind.signed] <;> (simp at hu; omega)
  · simp [sx, IntKind.wrap, IntKind.bits, IntKind.signed] <;> (simp at hu; omega)
theorem sx_in {n : Int} {u : Nat} : -9223372036854775808 ≤ sx n u ∧ sx n u ≤ 9223372036854775807 := by
  unfold sx
  split
  · simp [IntKind.wrap, IntKind.bits, IntKind.signed] <;> omega
  · split
    · simp [IntKind.wrap, IntKind.bits, IntKind.signed] <;> omega
    · split
      · simp [IntKind.wrap, IntKind.bits, IntKind.signed] <;> omega
      · simp [IntKind.wrap, IntKind.bits, IntKind.signed] <;> omega
theorem sx_conv8 (u : Nat) : IntKind.i64.wrap (IntKind.i8.wrap (IntKind.i64.wrap u)) = sx 1 u := by simp [sx, IntKind.wrap, IntKind.bits, IntKind.signed] <;> omega
theorem sx_conv16 (u : Nat) : IntKind.i64.wrap (IntKind.i16.wrap (IntKind.i64.wrap u)) = sx 2 u := by simp [sx, IntKind.wrap, IntKind.bits, IntKind.signed] <;> omega
theorem sx_conv32 (u : Nat) : IntKind.i64.wrap (IntKind.i32.wrap (IntKind.i64.wrap u)) = sx 4 u := by simp [sx, IntKind.wrap, IntKind.bits, IntKind.signed] <;> omega
end Go.Proofs.YtmicjjhkoicdnaaDoor
