/-
  Words of 32 bits: the rules of their operations. Plain theorems over any program; no condition.
-/
import Derived.Test.YtdoaloimndehbaaKu
namespace Go.Proofs.Ytdoaloimndehbaa
open Go.RowKit
set_option maxRecDepth 100000
abbrev W := BitVec 32
def w32 (a : W) : Value := .int .u32 (a.toNat : Int)
theorem w32_wrap (n : Nat) : IntKind.u32.wrap (n : Int) = ((BitVec.ofNat 32 n).toNat : Int) := by
  simp [IntKind.wrap, IntKind.bits, IntKind.signed]
theorem W.lt (a : W) : a.toNat < 4294967296 := a.isLt
def uF (op : BinOp) (a b : W) : Option W := match op with
  | .add => some (a + b)
  | .xor => some (a ^^^ b)
  | .and => some (a &&& b)
  | .or => some (a ||| b)
  | .mul => some (a * b)
  | _ => none
section
variable {P : Program} {l : Env} {F : PH} {H : List Asrt} {d : Option Nat} {T T' U : TypeId} {pos : String} {af : Array Edge} {g : Option (Nat × Bool)} {x y : Operand} {a b c : W}
theorem eu {op : BinOp} (hx : opv l x = some (w32 a)) (hy : opv l y = some (w32 b)) (h : uF op a b = some c) : Ev P ⟨d, .binOp op T x y T', U, pos, af, g⟩ l F H (w32 c) := by
  unfold w32 at hx hy ⊢
  have ha := a.isLt
  have hb := b.isLt
  cases op <;> simp only [uF, Option.some.injEq, reduceCtorEq] at h <;> subst h
  · have e : IntKind.u32.wrap ((a.toNat : Int) + (b.toNat : Int)) = ((a + b).toNat : Int) := by rw [← Int.natCast_add, w32_wrap]; simp
    exact ev_arith hx hy _ (.inl ⟨rfl, rfl⟩) e
  · have e : IntKind.u32.wrap ((a.toNat : Int) * (b.toNat : Int)) = ((a * b).toNat : Int) := by rw [← Int.natCast_mul, w32_wrap]; simp
    exact ev_arith hx hy _ (.inr (.inr ⟨rfl, rfl⟩)) e
  · rw [BitVec.toNat_and]; exact ev_and_bits hx hy rfl ha hb
  · rw [BitVec.toNat_or]; exact ev_or_bits hx hy rfl ha hb
  · rw [BitVec.toNat_xor]; exact ev_xor_bits hx hy rfl ha hb
theorem eus {k' : IntKind} {n : Int} (hx : opv l x = some (w32 a)) (hy : opv l y = some (.int k' n)) (h0 : 0 ≤ n) : Ev P ⟨d, .binOp .shr T x y T', U, pos, af, g⟩ l F H (w32 (a >>> n.toNat)) := by
  obtain ⟨m, rfl⟩ := Int.eq_ofNat_of_zero_le h0
  have := ev_shr (P := P) (F := F) (H := H) (d := d) (T := T) (T' := T') (U := U) (pos := pos) (af := af) (g := g) (m := a.toNat) (n := m) hx hy a.isLt
  unfold w32
  rw [BitVec.toNat_ushiftRight]
  exact this
theorem eusl {k' : IntKind} {n : Int} (hx : opv l x = some (w32 a)) (hy : opv l y = some (.int k' n)) (h0 : 0 ≤ n) : Ev P ⟨d, .binOp .shl T x y T', U, pos, af, g⟩ l F H (w32 (a <<< n.toNat)) := by
  obtain ⟨m, rfl⟩ := Int.eq_ofNat_of_zero_le h0
  refine ev_shl hx hy ?_
  rw [show ((a.toNat : Int) * 2 ^ (min m IntKind.u32.bits)) = ((a.toNat * 2 ^ (min m 32) : Nat) : Int) from by simp [IntKind.bits], w32_wrap]
  congr 1
  rw [BitVec.toNat_ofNat, Int.toNat_natCast, BitVec.toNat_shiftLeft, Nat.shiftLeft_eq]
  by_cases h : m ≤ 32
  · rw [Nat.min_eq_left h]
  · rw [Nat.min_eq_right (by omega), show m = 32 + (m - 32) from by omega, Nat.pow_add, ← Nat.mul_assoc, Nat.mul_right_comm]
    simp
theorem eun (hx : opv l x = some (w32 a)) : Ev P ⟨d, .unOp .xor T x, U, pos, af, g⟩ l F H (w32 (~~~a)) := .of fun ρ hρ w _ => by
  have e1 := hρ _ _ hx
  refine run_v (s := Op.unary .xor (ρ x)) ?_
  rw [e1]
  unfold w32
  have h := bits_nat (P := P) .xor .u32 4294967295 a.toNat rfl (by decide) a.isLt (~~~a).toNat (~~~a).isLt (.inr (.inr ⟨rfl, ?_⟩)) w
  · exact h
  · rw [show (4294967295 : Nat) = (BitVec.allOnes 32).toNat from rfl, ← BitVec.toNat_xor, BitVec.allOnes_xor]
theorem ewc {n : Nat} {k : IntKind} (hx : opv l x = some (.int k (n : Int))) (hu : P.underlying T' = some (.int .u32)) (hs : (P.underlying T).isSome = true) : Ev P ⟨d, .convert T T' x, U, pos, af, g⟩ l F H (w32 (BitVec.ofNat 32 n)) := by
  unfold w32
  exact ev_conv hx hu hs (w32_wrap n)
end
end Go.Proofs.Ytdoaloimndehbaa
