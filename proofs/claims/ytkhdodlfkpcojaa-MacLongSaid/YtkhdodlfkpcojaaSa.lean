/-
  Words of 32 bits: the rules of their operations; turning. Conditions are typed with each.
-/
import Derived.Test.YtkhdodlfkpcojaaKu
import Derived.Test.YtkhdodlfkpcojaaRows
import Derived.Test.YtkhdodlfkpcojaaChecked
namespace Go.Proofs.Ytkhdodlfkpcojaa
open Go.RowKit
abbrev W := BitVec 32
def w32 (a : W) : Value := .int .u32 (a.toNat : Int)
theorem w32_wrap (n : Nat) : IntKind.u32.wrap (n : Int) = ((BitVec.ofNat 32 n).toNat : Int) := by
  simp [IntKind.wrap, IntKind.bits, IntKind.signed]
theorem W.lt (a : W) : a.toNat < 4294967296 := a.isLt
def uF (op : BinOp) (a b : W) : Option W := match op with
  | .add => some (a + b)
  | .xor => some (a ^^^ b)
  | .and => some (a &&& b)
  | .or => some (a ||| b)
  | _ => none
section
variable {P : Program} {l : Env} {F : PH} {H : List Asrt} {d : Option Nat} {T T' U : TypeId} {pos : String} {af : Array Edge} {g : Option (Nat × Bool)} {x y : Operand} {a b c : W}
theorem eu {op : BinOp} (hx : opv l x = some (w32 a)) (hy : opv l y = some (w32 b)) (h : uF op a b = some c) : Ev P ⟨d, .binOp op T x y T', U, pos, af, g⟩ l F H (w32 c) := by
  unfold w32 at hx hy ⊢
  have ha := a.isLt
  have hb := b.isLt
  cases op <;> simp only [uF, Option.some.injEq, reduceCtorEq] at h <;> subst h
  · have e : IntKind.u32.wrap ((a.toNat : Int) + (b.toNat : Int)) = ((a + b).toNat : Int) := by rw [← Int.natCast_add, w32_wrap]; simp
    exact ev_arith hx hy _ (.inl ⟨rfl, rfl⟩) e
  · rw [BitVec.toNat_and]; exact ev_and_bits hx hy rfl ha hb
  · rw [BitVec.toNat_or]; exact ev_or_bits hx hy rfl ha hb
  · rw [BitVec.toNat_xor]; exact ev_xor_bits hx hy rfl ha hb
theorem eus {k' : IntKind} {n : Int} (hx : opv l x = some (w32 a)) (hy : opv l y = some (.int k' n)) (h0 : 0 ≤ n) : Ev P ⟨d, .binOp .shr T x y T', U, pos, af, g⟩ l F H (w32 (a >>> n.toNat)) := by
  obtain ⟨m, rfl⟩ := Int.eq_ofNat_of_zero_le h0
  have := ev_shr (P := P) (F := F) (H := H) (d := d) (T := T) (T' := T') (U := U) (pos := pos) (af := af) (g := g) (m := a.toNat) (n := m) hx hy a.isLt
  unfold w32
  rw [BitVec.toNat_ushiftRight]
  exact this
theorem eusl {k' : IntKind} {n : Int} (hx : opv l x = some (w32 a)) (hy : opv l y = some (.int k' n)) (h0 : 0 ≤ n) : Ev P ⟨d, .binOp .shl T x y T', U, pos, af, g⟩ l F H (w32 (a <<< n.toNat)) := by
  obtain ⟨m, rfl⟩ := Int.eq_ofNat_of_zero_le h0
  refine ev_shl hx hy ?_
  rw [show ((a.toNat : Int) * 2 ^ (min m IntKind.u32.bits)) = ((a.toNat * 2 ^ (min m 32) : Nat) : Int) from by simp [IntKind.bits], w32_wrap]
  congr 1
  rw [BitVec.toNat_ofNat, Int.toNat_natCast, BitVec.toNat_shiftLeft, Nat.shiftLeft_eq]
  by_cases h : m ≤ 32
  · rw [Nat.min_eq_left h]
  · rw [Nat.min_eq_right (by omega), show m = 32 + (m - 32) from by omega, Nat.pow_add, ← Nat.mul_assoc, Nat.mul_right_comm]
    simp
theorem eun (hx : opv l x = some (w32 a)) : Ev P ⟨d, .unOp .xor T x, U, pos, af, g⟩ l F H (w32 (~~~a)) := .of fun ρ hρ w _ => by
  have e1 := hρ _ _ hx
  refine run_v (s := Op.unary .xor (ρ x)) ?_
  rw [e1]
  unfold w32
  have h := bits_nat (P := P) .xor .u32 4294967295 a.toNat rfl (by decide) a.isLt (~~~a).toNat (~~~a).isLt (.inr (.inr ⟨rfl, ?_⟩)) w
  · exact h
  · rw [show (4294967295 : Nat) = (BitVec.allOnes 32).toNat from rfl, ← BitVec.toNat_xor, BitVec.allOnes_xor]
theorem ewc {n : Nat} {k : IntKind} (hx : opv l x = some (.int k (n : Int))) (hu : P.underlying T' = some (.int .u32)) (hs : (P.underlying T).isSome = true) : Ev P ⟨d, .convert T T' x, U, pos, af, g⟩ l F H (w32 (BitVec.ofNat 32 n)) := by
  unfold w32
  exact ev_conv hx hu hs (w32_wrap n)
end
/-! ### turning -/
def rot (k : Nat) (a : W) : W := BitVec.ofNat 32 (a.toNat / 2 ^ k + a.toNat % 2 ^ k * 2 ^ (32 - k))
theorem pow_two_parts {k : Nat} (h : k ≤ 32) : 2 ^ k * 2 ^ (32 - k) = 4294967296 := by
  rw [← Nat.pow_add, show k + (32 - k) = 32 from by omega]
theorem rot_lt {k n : Nat} (h : k ≤ 32) (hn : n < 4294967296) : n / 2 ^ k + n % 2 ^ k * 2 ^ (32 - k) < 4294967296 := by
  have h1 := pow_two_parts h
  have h2 : n / 2 ^ k < 2 ^ (32 - k) := Nat.div_lt_of_lt_mul (by rw [h1]; exact hn)
  have h3 : n % 2 ^ k < 2 ^ k := Nat.mod_lt _ (Nat.pow_pos (by omega))
  have h4 : (n % 2 ^ k + 1) * 2 ^ (32 - k) ≤ 2 ^ k * 2 ^ (32 - k) := Nat.mul_le_mul_right _ h3
  rw [h1, Nat.add_mul] at h4
  omega
theorem rot_nat {k : Nat} (h : k ≤ 32) (a : W) : (rot k a).toNat = a.toNat / 2 ^ k + a.toNat % 2 ^ k * 2 ^ (32 - k) := by
  unfold rot
  rw [BitVec.toNat_ofNat]
  exact Nat.mod_eq_of_lt (rot_lt h a.isLt)
theorem rot_zero (a : W) : rot 0 a = a := by
  apply BitVec.eq_of_toNat_eq
  rw [rot_nat (by omega)]
  simp [Nat.mod_one]
theorem rot_succ {k : Nat} (h : k < 32) (a : W) : ((rot (k + 1) a).toNat) = (rot k a).toNat / 2 + (rot k a).toNat % 2 * 2147483648 := by
  rw [rot_nat (by omega), rot_nat (by omega)]
  generalize a.toNat = n
  have hp : 2 ^ (k + 1) = 2 ^ k * 2 := Nat.pow_succ 2 k
  have hq : 2 ^ (32 - k) = 2 ^ (32 - (k + 1)) * 2 := by rw [← Nat.pow_succ]; congr 1; omega
  have h1 : 2 ^ k * 2 ^ (32 - (k + 1)) = 2147483648 := by
    rw [← Nat.pow_add, show k + (32 - (k + 1)) = 31 from by omega]
  rw [hp, hq, Nat.mod_mul, ← Nat.div_div_eq_div_mul]
  generalize 2 ^ k = p at *
  generalize 2 ^ (32 - (k + 1)) = q at *
  generalize n / p = A
  generalize n % p = r
  have e1 : (r + p * (A % 2)) * q = r * q + A % 2 * 2147483648 := by
    rw [Nat.add_mul, ← h1, Nat.mul_comm p, Nat.mul_assoc]
  have e2 : r * (q * 2) = r * q * 2 := (Nat.mul_assoc _ _ _).symm
  rw [e1, e2]
  omega
theorem rot_or {k : Nat} (h : k < 32) (a : W) : a >>> k ||| a <<< (32 - k) = rot k a := by
  apply BitVec.eq_of_toNat_eq
  rw [rot_nat (by omega), BitVec.toNat_or, BitVec.toNat_ushiftRight, BitVec.toNat_shiftLeft, Nat.shiftRight_eq_div_pow, Nat.shiftLeft_eq]
  have h1 := pow_two_parts (show k ≤ 32 by omega)
  have h2 : a.toNat / 2 ^ k < 2 ^ (32 - k) := Nat.div_lt_of_lt_mul (by rw [h1]; exact a.isLt)
  have e : a.toNat * 2 ^ (32 - k) % 2 ^ 32 = a.toNat % 2 ^ k * 2 ^ (32 - k) := by
    rw [show (2 : Nat) ^ 32 = 2 ^ k * 2 ^ (32 - k) from by rw [h1], Nat.mul_mod_mul_right]
  rw [e, Nat.or_comm, Nat.mul_comm (a.toNat % 2 ^ k), ← Nat.two_pow_add_eq_or_of_lt h2, Nat.add_comm]
theorem rot_rot {j k : Nat} (a : W) (h : j + k = 32 ∨ (j = 0 ∧ k = 0)) : rot j (rot k a) = a := by
  rcases h with h | ⟨rfl, rfl⟩
  · apply BitVec.eq_of_toNat_eq
    rw [rot_nat (by omega), rot_nat (by omega)]
    have h1 := pow_two_parts (show k ≤ 32 by omega)
    have hj : j = 32 - k := by omega
    have hk : 32 - j = k := by omega
    rw [hk, hj]
    have h2 : a.toNat / 2 ^ k < 2 ^ (32 - k) := Nat.div_lt_of_lt_mul (by rw [h1]; exact a.isLt)
    have h3 : 0 < 2 ^ (32 - k) := Nat.pow_pos (by omega)
    rw [Nat.add_mul_div_right _ _ h3, Nat.add_mul_mod_self_right, Nat.div_eq_of_lt h2, Nat.mod_eq_of_lt h2, Nat.zero_add, Nat.mul_comm]
    exact Nat.mod_add_div _ _
  · rw [rot_zero, rot_zero]
def mix3 (x : W) (a b c : Nat) : W := rot a x ^^^ rot b x ^^^ rot c x
section
variable {P : Program} {l : Env} {F : PH} {H : List Asrt} {d : Option Nat} {T T' U : TypeId} {pos : String} {af : Array Edge} {g : Option (Nat × Bool)} {x y : Operand}
/-- Go's rest, of whatever sign. -/
theorem ev_remt {k : IntKind} {m n : Int} (hx : opv l x = some (.int k m)) (hy : opv l y = some (.int k n)) (h1 : n ≠ 0) (hr : InK k (m.tmod n)) {U : TypeId} : Ev P ⟨d, .binOp .rem T x y T', U, pos, af, g⟩ l F H (.int k (m.tmod n)) := .of fun ρ hρ w _ => by
  have e1 := hρ _ _ hx; have e2 := hρ _ _ hy
  refine run_v (s := do eqGuard .rem T x y (ρ x) (ρ y); binOp .rem T (ρ x) (ρ y)) ?_
  rw [e1, e2]
  have hw := wrap_in hr
  simp [eqGuard, binOp, Op.intArith, go_sem, h1, hw]
end
set_option maxHeartbeats 1000000 in
theorem turn_spec (x : W) (n : Int) (F : PH) : Pure Try.prog 10 [w32 x, .int .i64 n] F (w32 (rot (n % 32).toNat x)) := by
  obtain ⟨k, hk⟩ : ∃ k : Nat, n % 32 = (k : Int) := ⟨(n % 32).toNat, by omega⟩
  have hk32 : k < 32 := by omega
  have hu : ∃ u : Nat, IntKind.u64.wrap n = (u : Int) ∧ u < 18446744073709551616 ∧ u % 32 = k := by
    refine ⟨(n % 18446744073709551616).toNat, ?_, by omega, by omega⟩
    simp [IntKind.wrap, IntKind.bits, IntKind.signed]
    omega
  obtain ⟨u, hw, hu64, huk⟩ := hu
  rw [hk, Int.toNat_natCast]
  refine Spec.of2 Try.func10 rfl rfl fun X w0 => ?_
  refine jc rfl rfl ?_
  refine jr rfl ?_
  refine oM rfl rfl ?_
  refine jn ?_
  refine jc rfl rfl ?_
  refine jr rfl ?_
  refine oM rfl rfl ?_
  refine oS (ev_conv rfl rfl rfl hw) rfl ?_
  repeat (first | refine jc rfl rfl ?_ | refine jr rfl ?_ | refine jn ?_ | refine oM rfl rfl ?_ | refine oS (ev_pv rfl) rfl ?_ | refine oX rfl ?_ | refine J_cond_t rfl ?_ | refine J_cond_f rfl ?_ | refine oS (eb rfl) rfl ?_ | (refine oS (ev_cmp_t rfl rfl ?_) rfl ?_; (dsimp only [cmpP] <;> omega)) | (refine oS (ev_cmp_f rfl rfl ?_) rfl ?_; (dsimp only [cmpN] <;> omega)) | (refine oS (ea rfl rfl rfl ?_) rfl ?_; (dsimp only [InK]; first | omega | exact ⟨Int.natCast_nonneg _, by omega⟩)) | (refine oS (ed rfl rfl rfl ?_ ?_ ?_) rfl ?_; (first | omega | exact Int.natCast_nonneg _); (first | omega | exact Int.natCast_nonneg _); (dsimp only [InK]; first | omega | exact ⟨Int.natCast_nonneg _, by omega⟩)) | refine oS (ev_fieldAddr rfl rfl) rfl ?_ | (refine oS (ev_conv rfl rfl rfl (wrap_in ?_)) rfl ?_; (dsimp only [InK]; first | omega | exact ⟨Int.natCast_nonneg _, by omega⟩)) | refine oS (ev_bool_eql rfl rfl rfl) rfl ?_ | refine oS (eg rfl rfl rfl) rfl ?_ | (refine jdq rfl rfl ?_ ?_ ?_; kernel_rfl; kernel_rfl) | (refine oS (ev_build (t := ?_) rfl rfl rfl ?_) rfl ?_; rotate_left; (repeat (first | exact FillF.nil | refine FillF.cons (by constructor) rfl rfl (by repeat constructor) ?_))) | refine oS (ev_ptr_eql_nil rfl rfl rfl) rfl ?_ | refine oS (ev_ptr_neq_nil rfl rfl rfl) rfl ?_ | refine oS (ev_load rfl rfl (Rdb.ofB (n := 0) .here rfl)) rfl ?_ | refine oS (ev_load rfl rfl (Rdb.ofB (n := 0) (.there .here) rfl)) rfl ?_ | refine oS (ev_load rfl rfl (Rdb.ofB (n := 0) (.there (.there .here)) rfl)) rfl ?_)
  rw [show (u : Int) % 32 = (k : Int) from by omega]
  refine oS (eus rfl rfl (by omega)) rfl ?_
  repeat (first | refine jc rfl rfl ?_ | refine jr rfl ?_ | refine jn ?_ | refine oM rfl rfl ?_ | refine oS (ev_pv rfl) rfl ?_ | refine oX rfl ?_ | refine J_cond_t rfl ?_ | refine J_cond_f rfl ?_ | refine oS (eb rfl) rfl ?_ | (refine oS (ev_cmp_t rfl rfl ?_) rfl ?_; (dsimp only [cmpP] <;> omega)) | (refine oS (ev_cmp_f rfl rfl ?_) rfl ?_; (dsimp only [cmpN] <;> omega)) | (refine oS (ea rfl rfl rfl ?_) rfl ?_; (dsimp only [InK]; first | omega | exact ⟨Int.natCast_nonneg _, by omega⟩)) | (refine oS (ed rfl rfl rfl ?_ ?_ ?_) rfl ?_; (first | omega | exact Int.natCast_nonneg _); (first | omega | exact Int.natCast_nonneg _); (dsimp only [InK]; first | omega | exact ⟨Int.natCast_nonneg _, by omega⟩)) | refine oS (ev_fieldAddr rfl rfl) rfl ?_ | (refine oS (ev_conv rfl rfl rfl (wrap_in ?_)) rfl ?_; (dsimp only [InK]; first | omega | exact ⟨Int.natCast_nonneg _, by omega⟩)) | refine oS (ev_bool_eql rfl rfl rfl) rfl ?_ | refine oS (eg rfl rfl rfl) rfl ?_ | (refine jdq rfl rfl ?_ ?_ ?_; kernel_rfl; kernel_rfl) | (refine oS (ev_build (t := ?_) rfl rfl rfl ?_) rfl ?_; rotate_left; (repeat (first | exact FillF.nil | refine FillF.cons (by constructor) rfl rfl (by repeat constructor) ?_))) | refine oS (ev_ptr_eql_nil rfl rfl rfl) rfl ?_ | refine oS (ev_ptr_neq_nil rfl rfl rfl) rfl ?_ | refine oS (ev_load rfl rfl (Rdb.ofB (n := 0) .here rfl)) rfl ?_ | refine oS (ev_load rfl rfl (Rdb.ofB (n := 0) (.there .here) rfl)) rfl ?_ | refine oS (ev_load rfl rfl (Rdb.ofB (n := 0) (.there (.there .here)) rfl)) rfl ?_)
  rw [show (32 : Int) - (k : Int) = ((32 - k : Nat) : Int) from by omega]
  refine oS (eusl rfl rfl (by omega)) rfl ?_
  refine oS (eu rfl rfl rfl) rfl ?_
  repeat (first | refine jc rfl rfl ?_ | refine jr rfl ?_ | refine jn ?_ | refine oM rfl rfl ?_ | refine oS (ev_pv rfl) rfl ?_ | refine oX rfl ?_ | refine J_cond_t rfl ?_ | refine J_cond_f rfl ?_ | refine oS (eb rfl) rfl ?_ | (refine oS (ev_cmp_t rfl rfl ?_) rfl ?_; (dsimp only [cmpP] <;> omega)) | (refine oS (ev_cmp_f rfl rfl ?_) rfl ?_; (dsimp only [cmpN] <;> omega)) | (refine oS (ea rfl rfl rfl ?_) rfl ?_; (dsimp only [InK]; first | omega | exact ⟨Int.natCast_nonneg _, by omega⟩)) | (refine oS (ed rfl rfl rfl ?_ ?_ ?_) rfl ?_; (first | omega | exact Int.natCast_nonneg _); (first | omega | exact Int.natCast_nonneg _); (dsimp only [InK]; first | omega | exact ⟨Int.natCast_nonneg _, by omega⟩)) | refine oS (ev_fieldAddr rfl rfl) rfl ?_ | (refine oS (ev_conv rfl rfl rfl (wrap_in ?_)) rfl ?_; (dsimp only [InK]; first | omega | exact ⟨Int.natCast_nonneg _, by omega⟩)) | refine oS (ev_bool_eql rfl rfl rfl) rfl ?_ | refine oS (eg rfl rfl rfl) rfl ?_ | (refine jdq rfl rfl ?_ ?_ ?_; kernel_rfl; kernel_rfl) | (refine oS (ev_build (t := ?_) rfl rfl rfl ?_) rfl ?_; rotate_left; (repeat (first | exact FillF.nil | refine FillF.cons (by constructor) rfl rfl (by repeat constructor) ?_))) | refine oS (ev_ptr_eql_nil rfl rfl rfl) rfl ?_ | refine oS (ev_ptr_neq_nil rfl rfl rfl) rfl ?_ | refine oS (ev_load rfl rfl (Rdb.ofB (n := 0) .here rfl)) rfl ?_ | refine oS (ev_load rfl rfl (Rdb.ofB (n := 0) (.there .here) rfl)) rfl ?_ | refine oS (ev_load rfl rfl (Rdb.ofB (n := 0) (.there (.there .here)) rfl)) rfl ?_)
  exact J_ret1 rfl rfl [] rfl (PH.ler _) ⟨by rw [Int.toNat_natCast, Int.toNat_natCast, rot_or hk32], rfl⟩
theorem tmod_turn (n : Int) : ((n.tmod 32) + 32).tmod 32 = n % 32 := by
  have h1 : n.tmod 32 = n % 32 ∨ n.tmod 32 = n % 32 - 32 := by
    have := Int.tmod_eq_emod (a := n) (b := 32)
    split at this <;> omega
  rcases h1 with h | h
  · rw [h, Int.tmod_eq_emod_of_nonneg (by omega)]; omega
  · rw [h, Int.tmod_eq_emod_of_nonneg (by omega)]; omega
set_option maxHeartbeats 1000000 in
theorem Turn_spec (x : W) (n : Int) (F : PH) : Pure Try.prog 11 [w32 x, .int .i64 n] F (w32 (rot (n % 32).toNat x)) := by
  obtain ⟨k, hk⟩ : ∃ k : Nat, n % 32 = (k : Int) := ⟨(n % 32).toNat, by omega⟩
  have hk32 : k < 32 := by omega
  have hb : -32 < n.tmod 32 ∧ n.tmod 32 < 32 := ⟨by have := Int.lt_tmod_of_pos n (b := 32) (by decide); omega, Int.tmod_lt_of_pos n (by decide)⟩
  have ht := tmod_turn n
  rw [hk] at ht
  rw [hk, Int.toNat_natCast]
  refine Spec.of2 Try.func11 rfl rfl fun X w0 => ?_
  refine jc rfl rfl ?_
  refine jr rfl ?_
  refine oM rfl rfl ?_
  refine jn ?_
  refine jc rfl rfl ?_
  refine jr rfl ?_
  refine oM rfl rfl ?_
  refine oS (ev_remt rfl rfl (by decide) (by dsimp only [InK]; omega)) rfl ?_
  refine oS (ea rfl rfl rfl (by dsimp only [InK]; omega)) rfl ?_
  refine oS (ev_remt rfl rfl (by decide) (by rw [ht]; dsimp only [InK]; omega)) rfl ?_
  rw [ht]
  repeat (first | refine jc rfl rfl ?_ | refine jr rfl ?_ | refine jn ?_ | refine oM rfl rfl ?_ | refine oS (ev_pv rfl) rfl ?_ | refine oX rfl ?_ | refine J_cond_t rfl ?_ | refine J_cond_f rfl ?_ | refine oS (eb rfl) rfl ?_ | (refine oS (ev_cmp_t rfl rfl ?_) rfl ?_; (dsimp only [cmpP] <;> omega)) | (refine oS (ev_cmp_f rfl rfl ?_) rfl ?_; (dsimp only [cmpN] <;> omega)) | (refine oS (ea rfl rfl rfl ?_) rfl ?_; (dsimp only [InK]; first | omega | exact ⟨Int.natCast_nonneg _, by omega⟩)) | (refine oS (ed rfl rfl rfl ?_ ?_ ?_) rfl ?_; (first | omega | exact Int.natCast_nonneg _); (first | omega | exact Int.natCast_nonneg _); (dsimp only [InK]; first | omega | exact ⟨Int.natCast_nonneg _, by omega⟩)) | refine oS (ev_fieldAddr rfl rfl) rfl ?_ | (refine oS (ev_conv rfl rfl rfl (wrap_in ?_)) rfl ?_; (dsimp only [InK]; first | omega | exact ⟨Int.natCast_nonneg _, by omega⟩)) | refine oS (ev_bool_eql rfl rfl rfl) rfl ?_ | refine oS (eg rfl rfl rfl) rfl ?_ | (refine jdq rfl rfl ?_ ?_ ?_; kernel_rfl; kernel_rfl) | (refine oS (ev_build (t := ?_) rfl rfl rfl ?_) rfl ?_; rotate_left; (repeat (first | exact FillF.nil | refine FillF.cons (by constructor) rfl rfl (by repeat constructor) ?_))) | refine oS (ev_ptr_eql_nil rfl rfl rfl) rfl ?_ | refine oS (ev_ptr_neq_nil rfl rfl rfl) rfl ?_ | refine oS (ev_load rfl rfl (Rdb.ofB (n := 0) .here rfl)) rfl ?_ | refine oS (ev_load rfl rfl (Rdb.ofB (n := 0) (.there .here) rfl)) rfl ?_ | refine oS (ev_load rfl rfl (Rdb.ofB (n := 0) (.there (.there .here)) rfl)) rfl ?_)
  refine J_loop (ι := Nat) (fun j => j ≤ k) (fun j => k - j) (fun j => [(0, w32 (rot j x)), (1, .int .i64 k), (5, .int .i64 j)]) (fun _ => F) (fun _ => X) 0 (Nat.zero_le _) ⟨⟨by rw [rot_zero]; rfl, rfl, rfl, trivial⟩, fun _ h => h⟩ ?_
  intro j hj
  by_cases hlt : j < k
  · have hs := rot_succ (k := j) (by omega) x
    have hx := (rot j x).isLt
    unfold w32
    repeat (first | refine jc rfl rfl ?_ | refine jr rfl ?_ | refine jn ?_ | refine oM rfl rfl ?_ | refine oS (ev_pv rfl) rfl ?_ | refine oX rfl ?_ | refine J_cond_t rfl ?_ | refine J_cond_f rfl ?_ | refine oS (eb rfl) rfl ?_ | (refine oS (ev_cmp_t rfl rfl ?_) rfl ?_; (dsimp only [cmpP] <;> omega)) | (refine oS (ev_cmp_f rfl rfl ?_) rfl ?_; (dsimp only [cmpN] <;> omega)) | (refine oS (ea rfl rfl rfl ?_) rfl ?_; (dsimp only [InK]; first | omega | exact ⟨Int.natCast_nonneg _, by omega⟩)) | (refine oS (ed rfl rfl rfl ?_ ?_ ?_) rfl ?_; (first | omega | exact Int.natCast_nonneg _); (first | omega | exact Int.natCast_nonneg _); (dsimp only [InK]; first | omega | exact ⟨Int.natCast_nonneg _, by omega⟩)) | refine oS (ev_fieldAddr rfl rfl) rfl ?_ | (refine oS (ev_conv rfl rfl rfl (wrap_in ?_)) rfl ?_; (dsimp only [InK]; first | omega | exact ⟨Int.natCast_nonneg _, by omega⟩)) | refine oS (ev_bool_eql rfl rfl rfl) rfl ?_ | refine oS (eg rfl rfl rfl) rfl ?_ | (refine jdq rfl rfl ?_ ?_ ?_; kernel_rfl; kernel_rfl) | (refine oS (ev_build (t := ?_) rfl rfl rfl ?_) rfl ?_; rotate_left; (repeat (first | exact FillF.nil | refine FillF.cons (by constructor) rfl rfl (by repeat constructor) ?_))) | refine oS (ev_ptr_eql_nil rfl rfl rfl) rfl ?_ | refine oS (ev_ptr_neq_nil rfl rfl rfl) rfl ?_ | refine oS (ev_load rfl rfl (Rdb.ofB (n := 0) .here rfl)) rfl ?_ | refine oS (ev_load rfl rfl (Rdb.ofB (n := 0) (.there .here) rfl)) rfl ?_ | refine oS (ev_load rfl rfl (Rdb.ofB (n := 0) (.there (.there .here)) rfl)) rfl ?_)
    refine J_again (j + 1) hlt (by omega) ⟨⟨?_, rfl, rfl, trivial⟩, fun w s => s⟩
    rw [hs]
    show some (Value.int .u32 _) = some (Value.int .u32 _)
    congr 2
  · obtain rfl : j = k := by omega
    repeat (first | refine jc rfl rfl ?_ | refine jr rfl ?_ | refine jn ?_ | refine oM rfl rfl ?_ | refine oS (ev_pv rfl) rfl ?_ | refine oX rfl ?_ | refine J_cond_t rfl ?_ | refine J_cond_f rfl ?_ | refine oS (eb rfl) rfl ?_ | (refine oS (ev_cmp_t rfl rfl ?_) rfl ?_; (dsimp only [cmpP] <;> omega)) | (refine oS (ev_cmp_f rfl rfl ?_) rfl ?_; (dsimp only [cmpN] <;> omega)) | (refine oS (ea rfl rfl rfl ?_) rfl ?_; (dsimp only [InK]; first | omega | exact ⟨Int.natCast_nonneg _, by omega⟩)) | (refine oS (ed rfl rfl rfl ?_ ?_ ?_) rfl ?_; (first | omega | exact Int.natCast_nonneg _); (first | omega | exact Int.natCast_nonneg _); (dsimp only [InK]; first | omega | exact ⟨Int.natCast_nonneg _, by omega⟩)) | refine oS (ev_fieldAddr rfl rfl) rfl ?_ | (refine oS (ev_conv rfl rfl rfl (wrap_in ?_)) rfl ?_; (dsimp only [InK]; first | omega | exact ⟨Int.natCast_nonneg _, by omega⟩)) | refine oS (ev_bool_eql rfl rfl rfl) rfl ?_ | refine oS (eg rfl rfl rfl) rfl ?_ | (refine jdq rfl rfl ?_ ?_ ?_; kernel_rfl; kernel_rfl) | (refine oS (ev_build (t := ?_) rfl rfl rfl ?_) rfl ?_; rotate_left; (repeat (first | exact FillF.nil | refine FillF.cons (by constructor) rfl rfl (by repeat constructor) ?_))) | refine oS (ev_ptr_eql_nil rfl rfl rfl) rfl ?_ | refine oS (ev_ptr_neq_nil rfl rfl rfl) rfl ?_ | refine oS (ev_load rfl rfl (Rdb.ofB (n := 0) .here rfl)) rfl ?_ | refine oS (ev_load rfl rfl (Rdb.ofB (n := 0) (.there .here) rfl)) rfl ?_ | refine oS (ev_load rfl rfl (Rdb.ofB (n := 0) (.there (.there .here)) rfl)) rfl ?_)
    exact J_ret1 rfl rfl [] rfl (PH.ler _) ⟨rfl, rfl⟩
theorem Turn_nat (x : W) (k : Nat) (hk : k < 32) (F : PH) : Pure Try.prog 11 [w32 x, .int .i64 (k : Int)] F (w32 (rot k x)) := by
  have := Turn_spec x k F
  rwa [show ((k : Int) % 32).toNat = k from by omega] at this
theorem turn_nat (x : W) (k : Nat) (hk : k < 32) (F : PH) : Pure Try.prog 10 [w32 x, .int .i64 (k : Int)] F (w32 (rot k x)) := by
  have := turn_spec x k F
  rwa [show ((k : Int) % 32).toNat = k from by omega] at this
set_option maxHeartbeats 1000000 in
theorem mix_spec (x : W) (a b c : Nat) (ha : a < 32) (hb : b < 32) (hc : c < 32) (F : PH) : Pure Try.prog 34 [w32 x, .int .i64 (a : Int), .int .i64 (b : Int), .int .i64 (c : Int)] F (w32 (mix3 x a b c)) := by
  refine Spec.of4 Try.func34 rfl rfl fun X w0 => ?_
  repeat (first | refine jc rfl rfl ?_ | refine jr rfl ?_ | refine jn ?_ | refine oM rfl rfl ?_ | refine oS (ev_pv rfl) rfl ?_ | refine oX rfl ?_ | refine J_cond_t rfl ?_ | refine J_cond_f rfl ?_ | refine oS (eb rfl) rfl ?_ | (refine oS (ev_cmp_t rfl rfl ?_) rfl ?_; (dsimp only [cmpP] <;> omega)) | (refine oS (ev_cmp_f rfl rfl ?_) rfl ?_; (dsimp only [cmpN] <;> omega)) | (refine oS (ea rfl rfl rfl ?_) rfl ?_; (dsimp only [InK]; first | omega | exact ⟨Int.natCast_nonneg _, by omega⟩)) | (refine oS (ed rfl rfl rfl ?_ ?_ ?_) rfl ?_; (first | omega | exact Int.natCast_nonneg _); (first | omega | exact Int.natCast_nonneg _); (dsimp only [InK]; first | omega | exact ⟨Int.natCast_nonneg _, by omega⟩)) | refine oS (ev_fieldAddr rfl rfl) rfl ?_ | (refine oS (ev_conv rfl rfl rfl (wrap_in ?_)) rfl ?_; (dsimp only [InK]; first | omega | exact ⟨Int.natCast_nonneg _, by omega⟩)) | refine oS (ev_bool_eql rfl rfl rfl) rfl ?_ | refine oS (eg rfl rfl rfl) rfl ?_ | (refine jdq rfl rfl ?_ ?_ ?_; kernel_rfl; kernel_rfl) | (refine oS (ev_build (t := ?_) rfl rfl rfl ?_) rfl ?_; rotate_left; (repeat (first | exact FillF.nil | refine FillF.cons (by constructor) rfl rfl (by repeat constructor) ?_))) | refine oS (ev_ptr_eql_nil rfl rfl rfl) rfl ?_ | refine oS (ev_ptr_neq_nil rfl rfl rfl) rfl ?_ | refine oS (ev_load rfl rfl (Rdb.ofB (n := 0) .here rfl)) rfl ?_ | refine oS (ev_load rfl rfl (Rdb.ofB (n := 0) (.there .here) rfl)) rfl ?_ | refine oS (ev_load rfl rfl (Rdb.ofB (n := 0) (.there (.there .here)) rfl)) rfl ?_)
  refine oP (turn_nat x a ha F) Try.call10 rfl rfl ?_
  repeat (first | refine jc rfl rfl ?_ | refine jr rfl ?_ | refine jn ?_ | refine oM rfl rfl ?_ | refine oS (ev_pv rfl) rfl ?_ | refine oX rfl ?_ | refine J_cond_t rfl ?_ | refine J_cond_f rfl ?_ | refine oS (eb rfl) rfl ?_ | (refine oS (ev_cmp_t rfl rfl ?_) rfl ?_; (dsimp only [cmpP] <;> omega)) | (refine oS (ev_cmp_f rfl rfl ?_) rfl ?_; (dsimp only [cmpN] <;> omega)) | (refine oS (ea rfl rfl rfl ?_) rfl ?_; (dsimp only [InK]; first | omega | exact ⟨Int.natCast_nonneg _, by omega⟩)) | (refine oS (ed rfl rfl rfl ?_ ?_ ?_) rfl ?_; (first | omega | exact Int.natCast_nonneg _); (first | omega | exact Int.natCast_nonneg _); (dsimp only [InK]; first | omega | exact ⟨Int.natCast_nonneg _, by omega⟩)) | refine oS (ev_fieldAddr rfl rfl) rfl ?_ | (refine oS (ev_conv rfl rfl rfl (wrap_in ?_)) rfl ?_; (dsimp only [InK]; first | omega | exact ⟨Int.natCast_nonneg _, by omega⟩)) | refine oS (ev_bool_eql rfl rfl rfl) rfl ?_ | refine oS (eg rfl rfl rfl) rfl ?_ | (refine jdq rfl rfl ?_ ?_ ?_; kernel_rfl; kernel_rfl) | (refine oS (ev_build (t := ?_) rfl rfl rfl ?_) rfl ?_; rotate_left; (repeat (first | exact FillF.nil | refine FillF.cons (by constructor) rfl rfl (by repeat constructor) ?_))) | refine oS (ev_ptr_eql_nil rfl rfl rfl) rfl ?_ | refine oS (ev_ptr_neq_nil rfl rfl rfl) rfl ?_ | refine oS (ev_load rfl rfl (Rdb.ofB (n := 0) .here rfl)) rfl ?_ | refine oS (ev_load rfl rfl (Rdb.ofB (n := 0) (.there .here) rfl)) rfl ?_ | refine oS (ev_load rfl rfl (Rdb.ofB (n := 0) (.there (.there .here)) rfl)) rfl ?_)
  refine oP (turn_nat x b hb F) Try.call10 rfl rfl ?_
  refine oS (eu rfl rfl rfl) rfl ?_
  repeat (first | refine jc rfl rfl ?_ | refine jr rfl ?_ | refine jn ?_ | refine oM rfl rfl ?_ | refine oS (ev_pv rfl) rfl ?_ | refine oX rfl ?_ | refine J_cond_t rfl ?_ | refine J_cond_f rfl ?_ | refine oS (eb rfl) rfl ?_ | (refine oS (ev_cmp_t rfl rfl ?_) rfl ?_; (dsimp only [cmpP] <;> omega)) | (refine oS (ev_cmp_f rfl rfl ?_) rfl ?_; (dsimp only [cmpN] <;> omega)) | (refine oS (ea rfl rfl rfl ?_) rfl ?_; (dsimp only [InK]; first | omega | exact ⟨Int.natCast_nonneg _, by omega⟩)) | (refine oS (ed rfl rfl rfl ?_ ?_ ?_) rfl ?_; (first | omega | exact Int.natCast_nonneg _); (first | omega | exact Int.natCast_nonneg _); (dsimp only [InK]; first | omega | exact ⟨Int.natCast_nonneg _, by omega⟩)) | refine oS (ev_fieldAddr rfl rfl) rfl ?_ | (refine oS (ev_conv rfl rfl rfl (wrap_in ?_)) rfl ?_; (dsimp only [InK]; first | omega | exact ⟨Int.natCast_nonneg _, by omega⟩)) | refine oS (ev_bool_eql rfl rfl rfl) rfl ?_ | refine oS (eg rfl rfl rfl) rfl ?_ | (refine jdq rfl rfl ?_ ?_ ?_; kernel_rfl; kernel_rfl) | (refine oS (ev_build (t := ?_) rfl rfl rfl ?_) rfl ?_; rotate_left; (repeat (first | exact FillF.nil | refine FillF.cons (by constructor) rfl rfl (by repeat constructor) ?_))) | refine oS (ev_ptr_eql_nil rfl rfl rfl) rfl ?_ | refine oS (ev_ptr_neq_nil rfl rfl rfl) rfl ?_ | refine oS (ev_load rfl rfl (Rdb.ofB (n := 0) .here rfl)) rfl ?_ | refine oS (ev_load rfl rfl (Rdb.ofB (n := 0) (.there .here) rfl)) rfl ?_ | refine oS (ev_load rfl rfl (Rdb.ofB (n := 0) (.there (.there .here)) rfl)) rfl ?_)
  refine oP (turn_nat x c hc F) Try.call10 rfl rfl ?_
  refine oS (eu rfl rfl rfl) rfl ?_
  repeat (first | refine jc rfl rfl ?_ | refine jr rfl ?_ | refine jn ?_ | refine oM rfl rfl ?_ | refine oS (ev_pv rfl) rfl ?_ | refine oX rfl ?_ | refine J_cond_t rfl ?_ | refine J_cond_f rfl ?_ | refine oS (eb rfl) rfl ?_ | (refine oS (ev_cmp_t rfl rfl ?_) rfl ?_; (dsimp only [cmpP] <;> omega)) | (refine oS (ev_cmp_f rfl rfl ?_) rfl ?_; (dsimp only [cmpN] <;> omega)) | (refine oS (ea rfl rfl rfl ?_) rfl ?_; (dsimp only [InK]; first | omega | exact ⟨Int.natCast_nonneg _, by omega⟩)) | (refine oS (ed rfl rfl rfl ?_ ?_ ?_) rfl ?_; (first | omega | exact Int.natCast_nonneg _); (first | omega | exact Int.natCast_nonneg _); (dsimp only [InK]; first | omega | exact ⟨Int.natCast_nonneg _, by omega⟩)) | refine oS (ev_fieldAddr rfl rfl) rfl ?_ | (refine oS (ev_conv rfl rfl rfl (wrap_in ?_)) rfl ?_; (dsimp only [InK]; first | omega | exact ⟨Int.natCast_nonneg _, by omega⟩)) | refine oS (ev_bool_eql rfl rfl rfl) rfl ?_ | refine oS (eg rfl rfl rfl) rfl ?_ | (refine jdq rfl rfl ?_ ?_ ?_; kernel_rfl; kernel_rfl) | (refine oS (ev_build (t := ?_) rfl rfl rfl ?_) rfl ?_; rotate_left; (repeat (first | exact FillF.nil | refine FillF.cons (by constructor) rfl rfl (by repeat constructor) ?_))) | refine oS (ev_ptr_eql_nil rfl rfl rfl) rfl ?_ | refine oS (ev_ptr_neq_nil rfl rfl rfl) rfl ?_ | refine oS (ev_load rfl rfl (Rdb.ofB (n := 0) .here rfl)) rfl ?_ | refine oS (ev_load rfl rfl (Rdb.ofB (n := 0) (.there .here) rfl)) rfl ?_ | refine oS (ev_load rfl rfl (Rdb.ofB (n := 0) (.there (.there .here)) rfl)) rfl ?_)
  exact J_ret1 rfl rfl [] rfl (PH.ler _) ⟨rfl, rfl⟩
set_option maxHeartbeats 1000000 in
theorem three_spec (x : W) (a b c : Nat) (ha : a < 32) (hb : b < 32) (hc : c < 32) (F : PH) : Pure Try.prog 42 [w32 x, .int .i64 (a : Int), .int .i64 (b : Int), .int .i64 (c : Int)] F (w32 (mix3 x a b c)) := by
  refine Spec.of4 Try.func42 rfl rfl fun X w0 => ?_
  repeat (first | refine jc rfl rfl ?_ | refine jr rfl ?_ | refine jn ?_ | refine oM rfl rfl ?_ | refine oS (ev_pv rfl) rfl ?_ | refine oX rfl ?_ | refine J_cond_t rfl ?_ | refine J_cond_f rfl ?_ | refine oS (eb rfl) rfl ?_ | (refine oS (ev_cmp_t rfl rfl ?_) rfl ?_; (dsimp only [cmpP] <;> omega)) | (refine oS (ev_cmp_f rfl rfl ?_) rfl ?_; (dsimp only [cmpN] <;> omega)) | (refine oS (ea rfl rfl rfl ?_) rfl ?_; (dsimp only [InK]; first | omega | exact ⟨Int.natCast_nonneg _, by omega⟩)) | (refine oS (ed rfl rfl rfl ?_ ?_ ?_) rfl ?_; (first | omega | exact Int.natCast_nonneg _); (first | omega | exact Int.natCast_nonneg _); (dsimp only [InK]; first | omega | exact ⟨Int.natCast_nonneg _, by omega⟩)) | refine oS (ev_fieldAddr rfl rfl) rfl ?_ | (refine oS (ev_conv rfl rfl rfl (wrap_in ?_)) rfl ?_; (dsimp only [InK]; first | omega | exact ⟨Int.natCast_nonneg _, by omega⟩)) | refine oS (ev_bool_eql rfl rfl rfl) rfl ?_ | refine oS (eg rfl rfl rfl) rfl ?_ | (refine jdq rfl rfl ?_ ?_ ?_; kernel_rfl; kernel_rfl) | (refine oS (ev_build (t := ?_) rfl rfl rfl ?_) rfl ?_; rotate_left; (repeat (first | exact FillF.nil | refine FillF.cons (by constructor) rfl rfl (by repeat constructor) ?_))) | refine oS (ev_ptr_eql_nil rfl rfl rfl) rfl ?_ | refine oS (ev_ptr_neq_nil rfl rfl rfl) rfl ?_ | refine oS (ev_load rfl rfl (Rdb.ofB (n := 0) .here rfl)) rfl ?_ | refine oS (ev_load rfl rfl (Rdb.ofB (n := 0) (.there .here) rfl)) rfl ?_ | refine oS (ev_load rfl rfl (Rdb.ofB (n := 0) (.there (.there .here)) rfl)) rfl ?_)
  refine oP (Turn_nat x a ha F) Try.call11 rfl rfl ?_
  repeat (first | refine jc rfl rfl ?_ | refine jr rfl ?_ | refine jn ?_ | refine oM rfl rfl ?_ | refine oS (ev_pv rfl) rfl ?_ | refine oX rfl ?_ | refine J_cond_t rfl ?_ | refine J_cond_f rfl ?_ | refine oS (eb rfl) rfl ?_ | (refine oS (ev_cmp_t rfl rfl ?_) rfl ?_; (dsimp only [cmpP] <;> omega)) | (refine oS (ev_cmp_f rfl rfl ?_) rfl ?_; (dsimp only [cmpN] <;> omega)) | (refine oS (ea rfl rfl rfl ?_) rfl ?_; (dsimp only [InK]; first | omega | exact ⟨Int.natCast_nonneg _, by omega⟩)) | (refine oS (ed rfl rfl rfl ?_ ?_ ?_) rfl ?_; (first | omega | exact Int.natCast_nonneg _); (first | omega | exact Int.natCast_nonneg _); (dsimp only [InK]; first | omega | exact ⟨Int.natCast_nonneg _, by omega⟩)) | refine oS (ev_fieldAddr rfl rfl) rfl ?_ | (refine oS (ev_conv rfl rfl rfl (wrap_in ?_)) rfl ?_; (dsimp only [InK]; first | omega | exact ⟨Int.natCast_nonneg _, by omega⟩)) | refine oS (ev_bool_eql rfl rfl rfl) rfl ?_ | refine oS (eg rfl rfl rfl) rfl ?_ | (refine jdq rfl rfl ?_ ?_ ?_; kernel_rfl; kernel_rfl) | (refine oS (ev_build (t := ?_) rfl rfl rfl ?_) rfl ?_; rotate_left; (repeat (first | exact FillF.nil | refine FillF.cons (by constructor) rfl rfl (by repeat constructor) ?_))) | refine oS (ev_ptr_eql_nil rfl rfl rfl) rfl ?_ | refine oS (ev_ptr_neq_nil rfl rfl rfl) rfl ?_ | refine oS (ev_load rfl rfl (Rdb.ofB (n := 0) .here rfl)) rfl ?_ | refine oS (ev_load rfl rfl (Rdb.ofB (n := 0) (.there .here) rfl)) rfl ?_ | refine oS (ev_load rfl rfl (Rdb.ofB (n := 0) (.there (.there .here)) rfl)) rfl ?_)
  refine oP (Turn_nat x b hb F) Try.call11 rfl rfl ?_
  refine oS (eu rfl rfl rfl) rfl ?_
  repeat (first | refine jc rfl rfl ?_ | refine jr rfl ?_ | refine jn ?_ | refine oM rfl rfl ?_ | refine oS (ev_pv rfl) rfl ?_ | refine oX rfl ?_ | refine J_cond_t rfl ?_ | refine J_cond_f rfl ?_ | refine oS (eb rfl) rfl ?_ | (refine oS (ev_cmp_t rfl rfl ?_) rfl ?_; (dsimp only [cmpP] <;> omega)) | (refine oS (ev_cmp_f rfl rfl ?_) rfl ?_; (dsimp only [cmpN] <;> omega)) | (refine oS (ea rfl rfl rfl ?_) rfl ?_; (dsimp only [InK]; first | omega | exact ⟨Int.natCast_nonneg _, by omega⟩)) | (refine oS (ed rfl rfl rfl ?_ ?_ ?_) rfl ?_; (first | omega | exact Int.natCast_nonneg _); (first | omega | exact Int.natCast_nonneg _); (dsimp only [InK]; first | omega | exact ⟨Int.natCast_nonneg _, by omega⟩)) | refine oS (ev_fieldAddr rfl rfl) rfl ?_ | (refine oS (ev_conv rfl rfl rfl (wrap_in ?_)) rfl ?_; (dsimp only [InK]; first | omega | exact ⟨Int.natCast_nonneg _, by omega⟩)) | refine oS (ev_bool_eql rfl rfl rfl) rfl ?_ | refine oS (eg rfl rfl rfl) rfl ?_ | (refine jdq rfl rfl ?_ ?_ ?_; kernel_rfl; kernel_rfl) | (refine oS (ev_build (t := ?_) rfl rfl rfl ?_) rfl ?_; rotate_left; (repeat (first | exact FillF.nil | refine FillF.cons (by constructor) rfl rfl (by repeat constructor) ?_))) | refine oS (ev_ptr_eql_nil rfl rfl rfl) rfl ?_ | refine oS (ev_ptr_neq_nil rfl rfl rfl) rfl ?_ | refine oS (ev_load rfl rfl (Rdb.ofB (n := 0) .here rfl)) rfl ?_ | refine oS (ev_load rfl rfl (Rdb.ofB (n := 0) (.there .here) rfl)) rfl ?_ | refine oS (ev_load rfl rfl (Rdb.ofB (n := 0) (.there (.there .here)) rfl)) rfl ?_)
  refine oP (Turn_nat x c hc F) Try.call11 rfl rfl ?_
  refine oS (eu rfl rfl rfl) rfl ?_
  repeat (first | refine jc rfl rfl ?_ | refine jr rfl ?_ | refine jn ?_ | refine oM rfl rfl ?_ | refine oS (ev_pv rfl) rfl ?_ | refine oX rfl ?_ | refine J_cond_t rfl ?_ | refine J_cond_f rfl ?_ | refine oS (eb rfl) rfl ?_ | (refine oS (ev_cmp_t rfl rfl ?_) rfl ?_; (dsimp only [cmpP] <;> omega)) | (refine oS (ev_cmp_f rfl rfl ?_) rfl ?_; (dsimp only [cmpN] <;> omega)) | (refine oS (ea rfl rfl rfl ?_) rfl ?_; (dsimp only [InK]; first | omega | exact ⟨Int.natCast_nonneg _, by omega⟩)) | (refine oS (ed rfl rfl rfl ?_ ?_ ?_) rfl ?_; (first | omega | exact Int.natCast_nonneg _); (first | omega | exact Int.natCast_nonneg _); (dsimp only [InK]; first | omega | exact ⟨Int.natCast_nonneg _, by omega⟩)) | refine oS (ev_fieldAddr rfl rfl) rfl ?_ | (refine oS (ev_conv rfl rfl rfl (wrap_in ?_)) rfl ?_; (dsimp only [InK]; first | omega | exact ⟨Int.natCast_nonneg _, by omega⟩)) | refine oS (ev_bool_eql rfl rfl rfl) rfl ?_ | refine oS (eg rfl rfl rfl) rfl ?_ | (refine jdq rfl rfl ?_ ?_ ?_; kernel_rfl; kernel_rfl) | (refine oS (ev_build (t := ?_) rfl rfl rfl ?_) rfl ?_; rotate_left; (repeat (first | exact FillF.nil | refine FillF.cons (by constructor) rfl rfl (by repeat constructor) ?_))) | refine oS (ev_ptr_eql_nil rfl rfl rfl) rfl ?_ | refine oS (ev_ptr_neq_nil rfl rfl rfl) rfl ?_ | refine oS (ev_load rfl rfl (Rdb.ofB (n := 0) .here rfl)) rfl ?_ | refine oS (ev_load rfl rfl (Rdb.ofB (n := 0) (.there .here) rfl)) rfl ?_ | refine oS (ev_load rfl rfl (Rdb.ofB (n := 0) (.there (.there .here)) rfl)) rfl ?_)
  exact J_ret1 rfl rfl [] rfl (PH.ler _) ⟨rfl, rfl⟩
end Go.Proofs.Ytkhdodlfkpcojaa
