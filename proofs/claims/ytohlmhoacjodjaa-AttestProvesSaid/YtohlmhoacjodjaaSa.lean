/-
  Words of 32 bits: the rules of their operations; turning. Conditions are typed with each.
  Words in arrays: the program's constants, the schedule of a block. Conditions are typed with each.
-/
import Derived.Test.YtohlmhoacjodjaaKu
import Derived.Test.YtohlmhoacjodjaaRows
import Derived.Test.YtohlmhoacjodjaaChecked
import Derived.Test.YtohlmhoacjodjaaOe
namespace Go.Proofs.Ytohlmhoacjodjaa
open Go.RowKit
set_option maxRecDepth 100000
abbrev W := BitVec 32
def w32 (a : W) : Value := .int .u32 (a.toNat : Int)
theorem w32_wrap (n : Nat) : IntKind.u32.wrap (n : Int) = ((BitVec.ofNat 32 n).toNat : Int) := by
  simp [IntKind.wrap, IntKind.bits, IntKind.signed]
theorem W.lt (a : W) : a.toNat < 4294967296 := a.isLt
def uF (op : BinOp) (a b : W) : Option W := match op with
  | .add => some (a + b)
  | .xor => some (a ^^^ b)
  | .and => some (a &&& b)
  | .or => some (a ||| b)
  | _ => none
section
variable {P : Program} {l : Env} {F : PH} {H : List Asrt} {d : Option Nat} {T T' U : TypeId} {pos : String} {af : Array Edge} {g : Option (Nat × Bool)} {x y : Operand} {a b c : W}
theorem eu {op : BinOp} (hx : opv l x = some (w32 a)) (hy : opv l y = some (w32 b)) (h : uF op a b = some c) : Ev P ⟨d, .binOp op T x y T', U, pos, af, g⟩ l F H (w32 c) := by
  unfold w32 at hx hy ⊢
  have ha := a.isLt
  have hb := b.isLt
  cases op <;> simp only [uF, Option.some.injEq, reduceCtorEq] at h <;> subst h
  · have e : IntKind.u32.wrap ((a.toNat : Int) + (b.toNat : Int)) = ((a + b).toNat : Int) := by rw [← Int.natCast_add, w32_wrap]; simp
    exact ev_arith hx hy _ (.inl ⟨rfl, rfl⟩) e
  · rw [BitVec.toNat_and]; exact ev_and_bits hx hy rfl ha hb
  · rw [BitVec.toNat_or]; exact ev_or_bits hx hy rfl ha hb
  · rw [BitVec.toNat_xor]; exact ev_xor_bits hx hy rfl ha hb
theorem eus {k' : IntKind} {n : Int} (hx : opv l x = some (w32 a)) (hy : opv l y = some (.int k' n)) (h0 : 0 ≤ n) : Ev P ⟨d, .binOp .shr T x y T', U, pos, af, g⟩ l F H (w32 (a >>> n.toNat)) := by
  obtain ⟨m, rfl⟩ := Int.eq_ofNat_of_zero_le h0
  have := ev_shr (P := P) (F := F) (H := H) (d := d) (T := T) (T' := T') (U := U) (pos := pos) (af := af) (g := g) (m := a.toNat) (n := m) hx hy a.isLt
  unfold w32
  rw [BitVec.toNat_ushiftRight]
  exact this
theorem eusl {k' : IntKind} {n : Int} (hx : opv l x = some (w32 a)) (hy : opv l y = some (.int k' n)) (h0 : 0 ≤ n) : Ev P ⟨d, .binOp .shl T x y T', U, pos, af, g⟩ l F H (w32 (a <<< n.toNat)) := by
  obtain ⟨m, rfl⟩ := Int.eq_ofNat_of_zero_le h0
  refine ev_shl hx hy ?_
  rw [show ((a.toNat : Int) * 2 ^ (min m IntKind.u32.bits)) = ((a.toNat * 2 ^ (min m 32) : Nat) : Int) from by simp [IntKind.bits], w32_wrap]
  congr 1
  rw [BitVec.toNat_ofNat, Int.toNat_natCast, BitVec.toNat_shiftLeft, Nat.shiftLeft_eq]
  by_cases h : m ≤ 32
  · rw [Nat.min_eq_left h]
  · rw [Nat.min_eq_right (by omega), show m = 32 + (m - 32) from by omega, Nat.pow_add, ← Nat.mul_assoc, Nat.mul_right_comm]
    simp
theorem eun (hx : opv l x = some (w32 a)) : Ev P ⟨d, .unOp .xor T x, U, pos, af, g⟩ l F H (w32 (~~~a)) := .of fun ρ hρ w _ => by
  have e1 := hρ _ _ hx
  refine run_v (s := Op.unary .xor (ρ x)) ?_
  rw [e1]
  unfold w32
  have h := bits_nat (P := P) .xor .u32 4294967295 a.toNat rfl (by decide) a.isLt (~~~a).toNat (~~~a).isLt (.inr (.inr ⟨rfl, ?_⟩)) w
  · exact h
  · rw [show (4294967295 : Nat) = (BitVec.allOnes 32).toNat from rfl, ← BitVec.toNat_xor, BitVec.allOnes_xor]
theorem ewc {n : Nat} {k : IntKind} (hx : opv l x = some (.int k (n : Int))) (hu : P.underlying T' = some (.int .u32)) (hs : (P.underlying T).isSome = true) : Ev P ⟨d, .convert T T' x, U, pos, af, g⟩ l F H (w32 (BitVec.ofNat 32 n)) := by
  unfold w32
  exact ev_conv hx hu hs (w32_wrap n)
end
/-! ### turning -/
def rot (k : Nat) (a : W) : W := BitVec.ofNat 32 (a.toNat / 2 ^ k + a.toNat % 2 ^ k * 2 ^ (32 - k))
theorem pow_two_parts {k : Nat} (h : k ≤ 32) : 2 ^ k * 2 ^ (32 - k) = 4294967296 := by
  rw [← Nat.pow_add, show k + (32 - k) = 32 from by omega]
theorem rot_lt {k n : Nat} (h : k ≤ 32) (hn : n < 4294967296) : n / 2 ^ k + n % 2 ^ k * 2 ^ (32 - k) < 4294967296 := by
  have h1 := pow_two_parts h
  have h2 : n / 2 ^ k < 2 ^ (32 - k) := Nat.div_lt_of_lt_mul (by rw [h1]; exact hn)
  have h3 : n % 2 ^ k < 2 ^ k := Nat.mod_lt _ (Nat.pow_pos (by omega))
  have h4 : (n % 2 ^ k + 1) * 2 ^ (32 - k) ≤ 2 ^ k * 2 ^ (32 - k) := Nat.mul_le_mul_right _ h3
  rw [h1, Nat.add_mul] at h4
  omega
theorem rot_nat {k : Nat} (h : k ≤ 32) (a : W) : (rot k a).toNat = a.toNat / 2 ^ k + a.toNat % 2 ^ k * 2 ^ (32 - k) := by
  unfold rot
  rw [BitVec.toNat_ofNat]
  exact Nat.mod_eq_of_lt (rot_lt h a.isLt)
theorem rot_zero (a : W) : rot 0 a = a := by
  apply BitVec.eq_of_toNat_eq
  rw [rot_nat (by omega)]
  simp [Nat.mod_one]
theorem rot_succ {k : Nat} (h : k < 32) (a : W) : ((rot (k + 1) a).toNat) = (rot k a).toNat / 2 + (rot k a).toNat % 2 * 2147483648 := by
  rw [rot_nat (by omega), rot_nat (by omega)]
  generalize a.toNat = n
  have hp : 2 ^ (k + 1) = 2 ^ k * 2 := Nat.pow_succ 2 k
  have hq : 2 ^ (32 - k) = 2 ^ (32 - (k + 1)) * 2 := by rw [← Nat.pow_succ]; congr 1; omega
  have h1 : 2 ^ k * 2 ^ (32 - (k + 1)) = 2147483648 := by
    rw [← Nat.pow_add, show k + (32 - (k + 1)) = 31 from by omega]
  rw [hp, hq, Nat.mod_mul, ← Nat.div_div_eq_div_mul]
  generalize 2 ^ k = p at *
  generalize 2 ^ (32 - (k + 1)) = q at *
  generalize n / p = A
  generalize n % p = r
  have e1 : (r + p * (A % 2)) * q = r * q + A % 2 * 2147483648 := by
    rw [Nat.add_mul, ← h1, Nat.mul_comm p, Nat.mul_assoc]
  have e2 : r * (q * 2) = r * q * 2 := (Nat.mul_assoc _ _ _).symm
  rw [e1, e2]
  omega
theorem rot_or {k : Nat} (h : k < 32) (a : W) : a >>> k ||| a <<< (32 - k) = rot k a := by
  apply BitVec.eq_of_toNat_eq
  rw [rot_nat (by omega), BitVec.toNat_or, BitVec.toNat_ushiftRight, BitVec.toNat_shiftLeft, Nat.shiftRight_eq_div_pow, Nat.shiftLeft_eq]
  have h1 := pow_two_parts (show k ≤ 32 by omega)
  have h2 : a.toNat / 2 ^ k < 2 ^ (32 - k) := Nat.div_lt_of_lt_mul (by rw [h1]; exact a.isLt)
  have e : a.toNat * 2 ^ (32 - k) % 2 ^ 32 = a.toNat % 2 ^ k * 2 ^ (32 - k) := by
    rw [show (2 : Nat) ^ 32 = 2 ^ k * 2 ^ (32 - k) from by rw [h1], Nat.mul_mod_mul_right]
  rw [e, Nat.or_comm, Nat.mul_comm (a.toNat % 2 ^ k), ← Nat.two_pow_add_eq_or_of_lt h2, Nat.add_comm]
theorem rot_rot {j k : Nat} (a : W) (h : j + k = 32 ∨ (j = 0 ∧ k = 0)) : rot j (rot k a) = a := by
  rcases h with h | ⟨rfl, rfl⟩
  · apply BitVec.eq_of_toNat_eq
    rw [rot_nat (by omega), rot_nat (by omega)]
    have h1 := pow_two_parts (show k ≤ 32 by omega)
    have hj : j = 32 - k := by omega
    have hk : 32 - j = k := by omega
    rw [hk, hj]
    have h2 : a.toNat / 2 ^ k < 2 ^ (32 - k) := Nat.div_lt_of_lt_mul (by rw [h1]; exact a.isLt)
    have h3 : 0 < 2 ^ (32 - k) := Nat.pow_pos (by omega)
    rw [Nat.add_mul_div_right _ _ h3, Nat.add_mul_mod_self_right, Nat.div_eq_of_lt h2, Nat.mod_eq_of_lt h2, Nat.zero_add, Nat.mul_comm]
    exact Nat.mod_add_div _ _
  · rw [rot_zero, rot_zero]
def mix3 (x : W) (a b c : Nat) : W := rot a x ^^^ rot b x ^^^ rot c x
section
variable {P : Program} {l : Env} {F : PH} {H : List Asrt} {d : Option Nat} {T T' U : TypeId} {pos : String} {af : Array Edge} {g : Option (Nat × Bool)} {x y : Operand}
/-- Go's rest, of whatever sign. -/
theorem ev_remt {k : IntKind} {m n : Int} (hx : opv l x = some (.int k m)) (hy : opv l y = some (.int k n)) (h1 : n ≠ 0) (hr : InK k (m.tmod n)) {U : TypeId} : Ev P ⟨d, .binOp .rem T x y T', U, pos, af, g⟩ l F H (.int k (m.tmod n)) := .of fun ρ hρ w _ => by
  have e1 := hρ _ _ hx; have e2 := hρ _ _ hy
  refine run_v (s := do eqGuard .rem T x y (ρ x) (ρ y); binOp .rem T (ρ x) (ρ y)) ?_
  rw [e1, e2]
  have hw := wrap_in hr
  simp [eqGuard, binOp, Op.intArith, go_sem, h1, hw]
end
set_option maxHeartbeats 1000000 in
theorem turn_spec (x : W) (n : Int) (F : PH) : Pure Try.prog 73 [w32 x, .int .i64 n] F (w32 (rot (n % 32).toNat x)) := by
  obtain ⟨k, hk⟩ : ∃ k : Nat, n % 32 = (k : Int) := ⟨(n % 32).toNat, by omega⟩
  have hk32 : k < 32 := by omega
  have hu : ∃ u : Nat, IntKind.u64.wrap n = (u : Int) ∧ u < 18446744073709551616 ∧ u % 32 = k := by
    refine ⟨(n % 18446744073709551616).toNat, ?_, by omega, by omega⟩
    simp [IntKind.wrap, IntKind.bits, IntKind.signed]
    omega
  obtain ⟨u, hw, hu64, huk⟩ := hu
  rw [hk, Int.toNat_natCast]
  refine Spec.of2 Try.func73 rfl rfl fun X w0 => ?_
  refine jc rfl rfl ?_
  refine jr rfl ?_
  refine oM rfl rfl ?_
  refine jn ?_
  refine jc rfl rfl ?_
  refine jr rfl ?_
  refine oM rfl rfl ?_
  refine oS (ev_conv rfl rfl rfl hw) rfl ?_
  repeat (first|refine zJ rfl rfl ?_|refine jr rfl ?_|refine jn ?_|refine zM rfl rfl ?_|(refine zC rfl rfl ?_ rfl ?_;omega)|(refine zD rfl rfl ?_ rfl ?_;omega)|(refine zP rfl ?_ rfl ?_;omega)|refine zG rfl rfl rfl rfl ?_|(refine jdq rfl rfl ?_ ?_ ?_;kernel_rfl;kernel_rfl)|refine zB rfl rfl rfl (by repeat constructor) rfl ?_|refine zH .here rfl rfl rfl rfl ?_|refine zH (.there .here) rfl rfl rfl rfl ?_|refine zH (.there (.there .here)) rfl rfl rfl rfl ?_)
  rw [show (u : Int) % 32 = (k : Int) from by omega]
  refine oS (eus rfl rfl (by omega)) rfl ?_
  repeat (first|refine zJ rfl rfl ?_|refine jr rfl ?_|refine jn ?_|refine zM rfl rfl ?_|(refine zC rfl rfl ?_ rfl ?_;omega)|(refine zD rfl rfl ?_ rfl ?_;omega)|(refine zP rfl ?_ rfl ?_;omega)|refine zG rfl rfl rfl rfl ?_|(refine jdq rfl rfl ?_ ?_ ?_;kernel_rfl;kernel_rfl)|refine zB rfl rfl rfl (by repeat constructor) rfl ?_|refine zH .here rfl rfl rfl rfl ?_|refine zH (.there .here) rfl rfl rfl rfl ?_|refine zH (.there (.there .here)) rfl rfl rfl rfl ?_)
  rw [show (32 : Int) - (k : Int) = ((32 - k : Nat) : Int) from by omega]
  refine oS (eusl rfl rfl (by omega)) rfl ?_
  refine oS (eu rfl rfl rfl) rfl ?_
  repeat (first|refine zJ rfl rfl ?_|refine jr rfl ?_|refine jn ?_|refine zM rfl rfl ?_|(refine zC rfl rfl ?_ rfl ?_;omega)|(refine zD rfl rfl ?_ rfl ?_;omega)|(refine zP rfl ?_ rfl ?_;omega)|refine zG rfl rfl rfl rfl ?_|(refine jdq rfl rfl ?_ ?_ ?_;kernel_rfl;kernel_rfl)|refine zB rfl rfl rfl (by repeat constructor) rfl ?_|refine zH .here rfl rfl rfl rfl ?_|refine zH (.there .here) rfl rfl rfl rfl ?_|refine zH (.there (.there .here)) rfl rfl rfl rfl ?_)
  exact J_ret1 rfl rfl [] rfl (PH.ler _) ⟨by rw [Int.toNat_natCast, Int.toNat_natCast, rot_or hk32], rfl⟩
theorem tmod_turn (n : Int) : ((n.tmod 32) + 32).tmod 32 = n % 32 := by
  have h1 : n.tmod 32 = n % 32 ∨ n.tmod 32 = n % 32 - 32 := by
    have := Int.tmod_eq_emod (a := n) (b := 32)
    split at this <;> omega
  rcases h1 with h | h
  · rw [h, Int.tmod_eq_emod_of_nonneg (by omega)]; omega
  · rw [h, Int.tmod_eq_emod_of_nonneg (by omega)]; omega
theorem turn_nat (x : W) (k : Nat) (hk : k < 32) (F : PH) : Pure Try.prog 73 [w32 x, .int .i64 (k : Int)] F (w32 (rot k x)) := by
  have := turn_spec x k F
  rwa [show ((k : Int) % 32).toNat = k from by omega] at this
set_option maxHeartbeats 1000000 in
theorem mix_spec (x : W) (a b c : Nat) (ha : a < 32) (hb : b < 32) (hc : c < 32) (F : PH) : Pure Try.prog 72 [w32 x, .int .i64 (a : Int), .int .i64 (b : Int), .int .i64 (c : Int)] F (w32 (mix3 x a b c)) := by
  refine Spec.of4 Try.func72 rfl rfl fun X w0 => ?_
  repeat (first|refine zJ rfl rfl ?_|refine jr rfl ?_|refine jn ?_|refine zM rfl rfl ?_|(refine zC rfl rfl ?_ rfl ?_;omega)|(refine zD rfl rfl ?_ rfl ?_;omega)|(refine zP rfl ?_ rfl ?_;omega)|refine zG rfl rfl rfl rfl ?_|(refine jdq rfl rfl ?_ ?_ ?_;kernel_rfl;kernel_rfl)|refine zB rfl rfl rfl (by repeat constructor) rfl ?_|refine zH .here rfl rfl rfl rfl ?_|refine zH (.there .here) rfl rfl rfl rfl ?_|refine zH (.there (.there .here)) rfl rfl rfl rfl ?_)
  refine oP (turn_nat x a ha F) Try.call73 rfl rfl ?_
  repeat (first|refine zJ rfl rfl ?_|refine jr rfl ?_|refine jn ?_|refine zM rfl rfl ?_|(refine zC rfl rfl ?_ rfl ?_;omega)|(refine zD rfl rfl ?_ rfl ?_;omega)|(refine zP rfl ?_ rfl ?_;omega)|refine zG rfl rfl rfl rfl ?_|(refine jdq rfl rfl ?_ ?_ ?_;kernel_rfl;kernel_rfl)|refine zB rfl rfl rfl (by repeat constructor) rfl ?_|refine zH .here rfl rfl rfl rfl ?_|refine zH (.there .here) rfl rfl rfl rfl ?_|refine zH (.there (.there .here)) rfl rfl rfl rfl ?_)
  refine oP (turn_nat x b hb F) Try.call73 rfl rfl ?_
  refine oS (eu rfl rfl rfl) rfl ?_
  repeat (first|refine zJ rfl rfl ?_|refine jr rfl ?_|refine jn ?_|refine zM rfl rfl ?_|(refine zC rfl rfl ?_ rfl ?_;omega)|(refine zD rfl rfl ?_ rfl ?_;omega)|(refine zP rfl ?_ rfl ?_;omega)|refine zG rfl rfl rfl rfl ?_|(refine jdq rfl rfl ?_ ?_ ?_;kernel_rfl;kernel_rfl)|refine zB rfl rfl rfl (by repeat constructor) rfl ?_|refine zH .here rfl rfl rfl rfl ?_|refine zH (.there .here) rfl rfl rfl rfl ?_|refine zH (.there (.there .here)) rfl rfl rfl rfl ?_)
  refine oP (turn_nat x c hc F) Try.call73 rfl rfl ?_
  refine oS (eu rfl rfl rfl) rfl ?_
  repeat (first|refine zJ rfl rfl ?_|refine jr rfl ?_|refine jn ?_|refine zM rfl rfl ?_|(refine zC rfl rfl ?_ rfl ?_;omega)|(refine zD rfl rfl ?_ rfl ?_;omega)|(refine zP rfl ?_ rfl ?_;omega)|refine zG rfl rfl rfl rfl ?_|(refine jdq rfl rfl ?_ ?_ ?_;kernel_rfl;kernel_rfl)|refine zB rfl rfl rfl (by repeat constructor) rfl ?_|refine zH .here rfl rfl rfl rfl ?_|refine zH (.there .here) rfl rfl rfl rfl ?_|refine zH (.there (.there .here)) rfl rfl rfl rfl ?_)
  exact J_ret1 rfl rfl [] rfl (PH.ler _) ⟨rfl, rfl⟩
end Go.Proofs.Ytohlmhoacjodjaa
namespace Go.Proofs.Ytohlmhoacjodjaa
open Go.RowKit
set_option maxRecDepth 100000
section
variable {P : Program} {l : Env} {F : PH} {H Hr : List Asrt} {d : Option Nat} {T T' U E : TypeId} {pos : String} {af : Array Edge} {g : Option (Nat × Bool)} {x y z : Operand}
/-- An array's literal. -/
theorem ev_build_arr {ps : List (Nat × Operand)} {vs : List (Nat × Value)} {n size : Nat} {zs t : List Value} (hp : partvs l ps = some vs) (hz : zeroCs P T = some zs) (ht : arrOf P T = some (n, E, size)) (hf : FillS size vs zs t) :
    Ev P ⟨d, .build T ps.toArray, U, pos, af, g⟩ l F H (.agg t.toArray) := .of fun ρ hρ w _ => by
  obtain ⟨i', zv, hi', hz', hc⟩ := zeroCs_info hz
  obtain ⟨hu, j, hj, hjs⟩ := arrOf_info ht
  have hpv := partvs_eq hρ hp
  have e2 : ps.toArray.map (fun (p : Nat × Operand) => (p.1, ρ p.2)) = vs.toArray := by rw [← hpv]; simp
  refine run_v (s := Instr.build T _) ?_
  rw [e2]
  have hrun := fillS_run hf
  unfold Instr.build
  simp [zeroValue, typeInfo, hi', hz', run_underlying hu, sizeOf, hj, hjs, hc, hrun, run_typeInfo hi', run_typeInfo hj]
/-- A slice read as an array, where it lies. -/
theorem ev_s2a {a : Option Addr} {n m c size e : Nat} (hx : opv l x = some (.slice a n c)) (ht : arrOf P T = some (m, e, size)) (h : m ≤ n) : Ev P ⟨d, .sliceToArrayPointer T x, U, pos, af, g⟩ l F H (.pointer a) := .of fun ρ hρ w _ => by
  have e1 := hρ _ _ hx
  obtain ⟨hu, j, hj, hjs⟩ := arrOf_info ht
  refine run_v (s := Instr.arrayAt T (ρ x)) ?_
  rw [e1]
  have h1 : ¬ n < m := by omega
  simp [Instr.arrayAt, run_underlying hu, h1]
/-- An array's cell, out of the array as a value. -/
theorem ev_index_agg {e n i : Nat} {k kk : IntKind} {v : Value} {cs : List Value} (hx : opv l x = some (.agg cs.toArray)) (hy : opv l y = some (.int k (i : Int))) (ht : arrOf P T = some (n, e, 1)) (he : P.underlying e = some (.int kk)) (hl : cs.length = n) (hi : cs[i]? = some v) :
    Ev P ⟨d, .index T x y, U, pos, af, g⟩ l F H v := .of fun ρ hρ w _ => by
  have e1 := hρ _ _ hx; have e2 := hρ _ _ hy
  obtain ⟨hu, j, hj, hs⟩ := arrOf_info ht
  obtain ⟨hlt, hc⟩ := List.getElem?_eq_some_iff.1 hi
  have h1 : (i : Int) < (n : Int) := by omega
  refine run_v (s := Instr.index T (ρ x) (ρ y)) ?_
  rw [e1, e2]
  simp [Instr.index, asIntOf, run_underlying hu, h1, run_sizeOf hj, hs, part, isAgg, run_underlying he, hi]
  intro hni
  omega
end
abbrev z64 : List Value := List.replicate 64 (.int .u32 0)
def kW : List W := [
  0x428a2f98#32, 0x71374491#32, 0xb5c0fbcf#32, 0xe9b5dba5#32, 0x3956c25b#32, 0x59f111f1#32, 0x923f82a4#32, 0xab1c5ed5#32,
  0xd807aa98#32, 0x12835b01#32, 0x243185be#32, 0x550c7dc3#32, 0x72be5d74#32, 0x80deb1fe#32, 0x9bdc06a7#32, 0xc19bf174#32,
  0xe49b69c1#32, 0xefbe4786#32, 0x0fc19dc6#32, 0x240ca1cc#32, 0x2de92c6f#32, 0x4a7484aa#32, 0x5cb0a9dc#32, 0x76f988da#32,
  0x983e5152#32, 0xa831c66d#32, 0xb00327c8#32, 0xbf597fc7#32, 0xc6e00bf3#32, 0xd5a79147#32, 0x06ca6351#32, 0x14292967#32,
  0x27b70a85#32, 0x2e1b2138#32, 0x4d2c6dfc#32, 0x53380d13#32, 0x650a7354#32, 0x766a0abb#32, 0x81c2c92e#32, 0x92722c85#32,
  0xa2bfe8a1#32, 0xa81a664b#32, 0xc24b8b70#32, 0xc76c51a3#32, 0xd192e819#32, 0xd6990624#32, 0xf40e3585#32, 0x106aa070#32,
  0x19a4c116#32, 0x1e376c08#32, 0x2748774c#32, 0x34b0bcb5#32, 0x391c0cb3#32, 0x4ed8aa4a#32, 0x5b9cca4f#32, 0x682e6ff3#32,
  0x748f82ee#32, 0x78a5636f#32, 0x84c87814#32, 0x8cc70208#32, 0x90befffa#32, 0xa4506ceb#32, 0xbef9a3f7#32, 0xc67178f2#32]
def hW : List W := [0x6a09e667#32, 0xbb67ae85#32, 0x3c6ef372#32, 0xa54ff53a#32, 0x510e527f#32, 0x9b05688c#32, 0x1f83d9ab#32, 0x5be0cd19#32]
def w32s (l : List W) : List Value := l.map w32
theorem w32s_len (l : List W) : (w32s l).length = l.length := by simp [w32s]
theorem w32s_ones (l : List W) : Ones (w32s l) := fun v hv => by
  obtain ⟨x, _, rfl⟩ := List.mem_map.1 hv
  rfl
theorem kW_len : kW.length = 64 := rfl
theorem fill_words : ∀ (l : List W) (i : Nat) (pre : List Value), pre.length = i → FillS 1 ((w32s l).zipIdx i |>.map fun p => (p.2, p.1)) (pre ++ List.replicate l.length (.int .u32 0)) (pre ++ w32s l)
  | [], i, pre, _ => by simpa [w32s] using FillS.nil
  | a :: l, i, pre, hp => by
    have ih := fill_words l (i + 1) (pre ++ [w32 a]) (by simp [hp])
    refine FillS.cons (vs := [w32 a]) (s := pre ++ [w32 a] ++ List.replicate l.length (.int .u32 0)) VC.int rfl ?_ ?_
    · subst hp
      have h := lay_set (i := pre.length) (r := pre ++ List.replicate (l.length + 1) (.int .u32 0)) (w32 a) (by simp)
      rw [List.set_append_right _ _ (Nat.le_refl _), Nat.sub_self, List.replicate_succ, List.set_cons_zero] at h
      simpa [List.replicate_succ] using h
    · simpa [w32s] using ih
set_option maxHeartbeats 4000000 in
theorem rounds_spec (F : PH) : Pure Try.prog 70 [] F (.agg (w32s kW).toArray) := by
  refine Spec.of0 Try.func70 rfl fun X w0 => ?_
  refine jc rfl rfl ?_
  refine jr rfl ?_
  refine oE (ev_alloc (cs := z64) rfl) rfl ?_
  rintro _ _ _ _ ⟨rfl, b, rfl, rfl⟩
  refine jn ?_
  refine jc rfl rfl ?_
  refine jr rfl ?_
  refine oS (ev_build_arr (t := w32s kW) rfl (zs := z64) rfl rfl (fill_words kW 0 [] rfl)) rfl ?_
  refine oN (ev_store (b := b) rfl rfl .agg rfl rfl (lay_all (zs := z64) rfl) (w32s_ones _) .here) rfl ?_
  rintro _ _ _ _ ⟨rfl, _, rfl⟩
  repeat (first|refine zJ rfl rfl ?_|refine jr rfl ?_|refine jn ?_|refine zM rfl rfl ?_|(refine zC rfl rfl ?_ rfl ?_;omega)|(refine zD rfl rfl ?_ rfl ?_;omega)|(refine zP rfl ?_ rfl ?_;omega)|refine zG rfl rfl rfl rfl ?_|(refine jdq rfl rfl ?_ ?_ ?_;kernel_rfl;kernel_rfl)|refine zB rfl rfl rfl (by repeat constructor) rfl ?_)
  exact J_retv (vs := [.agg (w32s kW).toArray]) rfl (.agg rfl rfl (Rdb.ofB (n := 0) .here rfl) rfl .nil) [] (fun w s => s.drop) (PH.ler _) ⟨rfl, rfl⟩
set_option maxHeartbeats 4000000 in
theorem first_spec (F : PH) : Pure Try.prog 68 [] F (.agg (w32s hW).toArray) := by
  refine Spec.of0 Try.func68 rfl fun X w0 => ?_
  refine jc rfl rfl ?_
  refine jr rfl ?_
  refine oE (ev_alloc (cs := List.replicate 8 (.int .u32 0)) rfl) rfl ?_
  rintro _ _ _ _ ⟨rfl, b, rfl, rfl⟩
  refine jn ?_
  refine jc rfl rfl ?_
  refine jr rfl ?_
  refine oS (ev_build_arr (t := w32s hW) rfl (zs := List.replicate 8 (.int .u32 0)) rfl rfl (fill_words hW 0 [] rfl)) rfl ?_
  refine oN (ev_store (b := b) rfl rfl .agg rfl rfl (lay_all (zs := List.replicate 8 (.int .u32 0)) rfl) (w32s_ones _) .here) rfl ?_
  rintro _ _ _ _ ⟨rfl, _, rfl⟩
  repeat (first|refine zJ rfl rfl ?_|refine jr rfl ?_|refine jn ?_|refine zM rfl rfl ?_|(refine zC rfl rfl ?_ rfl ?_;omega)|(refine zD rfl rfl ?_ rfl ?_;omega)|(refine zP rfl ?_ rfl ?_;omega)|refine zG rfl rfl rfl rfl ?_|(refine jdq rfl rfl ?_ ?_ ?_;kernel_rfl;kernel_rfl)|refine zB rfl rfl rfl (by repeat constructor) rfl ?_)
  exact J_retv (vs := [.agg (w32s hW).toArray]) rfl (.agg rfl rfl (Rdb.ofB (n := 0) .here rfl) rfl .nil) [] (fun w s => s.drop) (PH.ler _) ⟨rfl, rfl⟩
end Go.Proofs.Ytohlmhoacjodjaa
