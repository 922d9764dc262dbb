/-
  Arrays of bytes as values: compared, read; a copy of bytes into a block of the call's own. Plain theorems over any program; no condition.
-/
import Derived.Test.YtekdmpbkcjjllaaDoorKp
import Derived.Stop.BytesEq
namespace Go.Proofs.YtekdmpbkcjjllaaDoor
open Go.RowKit
section
variable {P : Program} {l : Env} {F : PH} {H Hr H' : List Asrt} {d : Option Nat} {T T' U E : TypeId} {pos : String} {af : Array Edge} {gd : Option (Nat × Bool)} {x y z y' z' : Operand}
theorem arr_equal {e n : Nat} (ht : arrOf P T = some (n, e, 1)) (he : P.underlying e = some (.int .u8)) (xs ys : List UInt8) (hx : xs.length = n) (hy : ys.length = n) (w : World) :
    (Op.equal T (.agg (u8s xs).toArray) (.agg (u8s ys).toArray)).run P w = .ok (xs == ys) w := by
  obtain ⟨hu, i, hi, hs⟩ := arrOf_info ht
  exact run_equalIn_bytes w 9998 T e n hu he (fun w => by rw [run_sizeOf hi, hs]) xs ys hx hy
theorem ev_arr_eql {e n : Nat} {xs ys : List UInt8} (hx : opv l x = some (.agg (u8s xs).toArray)) (hy : opv l y = some (.agg (u8s ys).toArray)) (ht : arrOf P T = some (n, e, 1)) (he : P.underlying e = some (.int .u8)) (hxl : xs.length = n) (hyl : ys.length = n) (hm : P.eqGuardType P.depth T = false) :
    Ev P ⟨d, .binOp .eql T x y T', U, pos, af, gd⟩ l F H (.bool (xs == ys)) := .of fun ρ hρ w _ => by
  have e1 := hρ _ _ hx; have e2 := hρ _ _ hy
  have hr := arr_equal (P := P) ht he xs ys hxl hyl w
  refine run_v2 ?_ ?_
  · rw [e1, e2]; exact run_eqGuard_agg _ _ _ _ _ _ _ hm
  · rw [e1, e2]; simp [binOp, hr]
theorem ev_arr_neq {e n : Nat} {xs ys : List UInt8} (hx : opv l x = some (.agg (u8s xs).toArray)) (hy : opv l y = some (.agg (u8s ys).toArray)) (ht : arrOf P T = some (n, e, 1)) (he : P.underlying e = some (.int .u8)) (hxl : xs.length = n) (hyl : ys.length = n) (hm : P.eqGuardType P.depth T = false) :
    Ev P ⟨d, .binOp .neq T x y T', U, pos, af, gd⟩ l F H (.bool (!(xs == ys))) := .of fun ρ hρ w _ => by
  have e1 := hρ _ _ hx; have e2 := hρ _ _ hy
  have hr := arr_equal (P := P) ht he xs ys hxl hyl w
  refine run_v2 ?_ ?_
  · rw [e1, e2]; exact run_eqGuard_agg _ _ _ _ _ _ _ hm
  · rw [e1, e2]; simp [binOp, hr]
theorem ev_index_arr {e n i : Nat} {k : IntKind} {c : UInt8} {xs : List UInt8} (hx : opv l x = some (.agg (u8s xs).toArray)) (hy : opv l y = some (.int k (i : Int))) (ht : arrOf P T = some (n, e, 1)) (he : P.underlying e = some (.int .u8)) (hl : xs.length = n) (hi : xs[i]? = some c) :
    Ev P ⟨d, .index T x y, U, pos, af, gd⟩ l F H (.int .u8 (c.toNat : Int)) := .of fun ρ hρ w _ => by
  have e1 := hρ _ _ hx; have e2 := hρ _ _ hy
  obtain ⟨hu, j, hj, hs⟩ := arrOf_info ht
  obtain ⟨hlt, hc⟩ := List.getElem?_eq_some_iff.1 hi
  have h1 : (i : Int) < (n : Int) := by omega
  have h2 : (u8s xs).toArray[i]? = some (.int .u8 (c.toNat : Int)) := by simp [u8s, hi]
  refine run_v (s := Instr.index T (ρ x) (ρ y)) ?_
  rw [e1, e2]
  have h3 : (u8s xs)[i]? = some (.int .u8 (c.toNat : Int)) := by simpa using h2
  simp [Instr.index, asIntOf, run_underlying hu, h1, run_sizeOf hj, hs, part, isAgg, run_underlying he, h3]
  intro hni
  omega
end
end Go.Proofs.YtekdmpbkcjjllaaDoor
