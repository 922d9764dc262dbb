/-
  The octets' readers: the document's Fixed; Number, the program's and the document's. Conditions are typed with each.
-/
import Derived.Test.YtmicjjhkoicdnaaDoorOd
namespace Go.Proofs.YtmicjjhkoicdnaaDoor
open Go.RowKit
set_option maxRecDepth 100000
theorem Byt.pre' {F : PH} {a : Option Addr} {c : Nat} {bs : List UInt8} (h : Byt F (.slice a bs.length c) bs) {k m : Nat} (hk : k ≤ bs.length) (hm : k ≤ m) : Byt F (.slice a k m) (bs.take k) := by
  have e : (bs.take k).length = k := by simp; omega
  unfold Byt
  rw [e]
  exact h.pre hk hm
/-- Bytes as a number. -/
def numB (bs : List UInt8) : Nat := bs.foldl (fun v c => v * 256 + c.toNat) 0
theorem numB_snoc (bs : List UInt8) (c : UInt8) : numB (bs ++ [c]) = numB bs * 256 + c.toNat := by simp [numB]
theorem numB_lt : ∀ (n : Nat) (bs : List UInt8), bs.length = n → numB bs < 256 ^ n
  | 0, bs, h => by
    have : bs = [] := List.eq_nil_of_length_eq_zero h
    subst this; simp [numB]
  | n + 1, bs, h => by
    obtain ⟨cs, c, rfl⟩ : ∃ cs c, bs = cs ++ [c] := by
      have hne : bs ≠ [] := by intro e; subst e; simp at h
      exact ⟨bs.dropLast, bs.getLast hne, (List.dropLast_concat_getLast hne).symm⟩
    have hl : cs.length = n := by simpa using h
    have := numB_lt n cs hl
    have hc : c.toNat < 256 := c.toNat_lt
    rw [numB_snoc, Nat.pow_succ]
    omega
theorem numB_take {bs : List UInt8} {j : Nat} {c : UInt8} (h : bs[j]? = some c) : numB (bs.take (j + 1)) = numB (bs.take j) * 256 + c.toNat := by rw [take_snoc h, numB_snoc]
theorem numB_take_lt {bs : List UInt8} {j : Nat} (hl : bs.length ≤ 8) (hj : j < bs.length) : numB (bs.take j) < 72057594037927936 := by
  have h1 : (bs.take j).length = j := by simp; omega
  have h2 := numB_lt j _ h1
  have h3 : (256 : Nat) ^ j ≤ 256 ^ 7 := Nat.pow_le_pow_right (by omega) (by omega)
  have h4 : (256 : Nat) ^ 7 = 2 ^ 56 := by decide
  omega
theorem or_add {v c : Nat} (hc : c < 256) : (v * 256) ||| c = v * 256 + c := by
  have := Nat.two_pow_add_eq_or_of_lt (i := 8) (b := c) (by simpa using hc) v
  rw [Nat.mul_comm] at this
  exact this.symm
/-- What Number reads. -/
def numR (e : Int) (bs : List UInt8) (n : Int) : Nat × Int × List UInt8 :=
  let r := fixR (if e = 0 ∧ sizeB n = false then 2 else e) bs n
  (numB r.1, r.2)
def NumQ (R : Nat → Value → Int → Asrt) (b : Nat) (r : Nat × Int × List UInt8) (u : Value) (F' : PH) (H' : List Asrt) : Prop := ∃ v', u = .int .u64 r.1 ∧ Byt F' v' r.2.2 ∧ H' = [R b v' r.2.1]
theorem fixR_len {e : Int} {bs : List UInt8} {n : Int} (h : e ≠ 0 ∨ sizeB n = true) : (fixR e bs n).1.length ≤ 8 := by
  unfold fixR
  split
  · simp
  · split
    · simp
    · have := sizeB_cases (h.resolve_left (by simpa using ‹¬ e ≠ 0›))
      simp only [List.length_take]
      omega
theorem Byt.at {F : PH} {a : Option Addr} {n c : Nat} {bs : List UInt8} (h : Byt F (.slice a n c) bs) {j : Nat} (hj : j < bs.length) : ∃ b off, a = some ⟨b, off, none⟩ ∧ Cells F b (off + j * 1) [.int .u8 (bs[j].toNat : Int)] := by
  obtain ⟨h1, a', c', e, h2, h3⟩ := h
  cases e
  obtain ⟨b, off, ha, hc⟩ := h3 (by omega)
  refine ⟨b, off, ha, fun i u hi => ?_⟩
  have hi0 : i = 0 := by
    have := (List.getElem?_eq_some_iff.1 hi).1
    simp at this; omega
  subst hi0
  have hu : u = .int .u8 (bs[j].toNat : Int) := by simpa using hi.symm
  subst hu
  rw [Nat.mul_one, Nat.add_zero]
  exact hc j _ (by simp [u8s, hj])
theorem shl8 {m : Nat} (h : m < 72057594037927936) : IntKind.u64.wrap ((m : Int) * 2 ^ (min 8 IntKind.u64.bits)) = ((m * 256 : Nat) : Int) := by
  have e : ((m : Int) * 2 ^ (min 8 IntKind.u64.bits)) = ((m * 256 : Nat) : Int) := by
    rw [Int.natCast_mul]; rfl
  rw [e]
  exact wrap_in (by dsimp only [InK]; omega)
end Go.Proofs.YtmicjjhkoicdnaaDoor
