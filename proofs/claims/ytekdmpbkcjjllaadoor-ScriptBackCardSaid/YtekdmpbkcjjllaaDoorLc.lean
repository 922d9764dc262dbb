/-
  Arrays as values: their literals, and their cells. Conditions are typed with each.
-/
import Derived.Test.YtekdmpbkcjjllaaDoorKy
namespace Go.Proofs.YtekdmpbkcjjllaaDoor
open Go.RowKit
set_option maxRecDepth 100000
section
variable {P : Program} {l : Env} {F : PH} {H Hr : List Asrt} {d : Option Nat} {T T' U E : TypeId} {pos : String} {af : Array Edge} {g : Option (Nat × Bool)} {x y z : Operand}
/-- An array's literal. -/
theorem ev_build_arr {ps : List (Nat × Operand)} {vs : List (Nat × Value)} {n size : Nat} {zs t : List Value} (hp : partvs l ps = some vs) (hz : zeroCs P T = some zs) (ht : arrOf P T = some (n, E, size)) (hf : FillS size vs zs t) :
    Ev P ⟨d, .build T ps.toArray, U, pos, af, g⟩ l F H (.agg t.toArray) := .of fun ρ hρ w _ => by
  obtain ⟨i', zv, hi', hz', hc⟩ := zeroCs_info hz
  obtain ⟨hu, j, hj, hjs⟩ := arrOf_info ht
  have hpv := partvs_eq hρ hp
  have e2 : ps.toArray.map (fun (p : Nat × Operand) => (p.1, ρ p.2)) = vs.toArray := by rw [← hpv]; simp
  refine run_v (s := Instr.build T _) ?_
  rw [e2]
  have hrun := fillS_run hf
  unfold Instr.build
  simp [zeroValue, typeInfo, hi', hz', run_underlying hu, sizeOf, hj, hjs, hc, hrun, run_typeInfo hi', run_typeInfo hj]
/-- A slice read as an array, where it lies. -/
theorem ev_s2a {a : Option Addr} {n m c size e : Nat} (hx : opv l x = some (.slice a n c)) (ht : arrOf P T = some (m, e, size)) (h : m ≤ n) : Ev P ⟨d, .sliceToArrayPointer T x, U, pos, af, g⟩ l F H (.pointer a) := .of fun ρ hρ w _ => by
  have e1 := hρ _ _ hx
  obtain ⟨hu, j, hj, hjs⟩ := arrOf_info ht
  refine run_v (s := Instr.arrayAt T (ρ x)) ?_
  rw [e1]
  have h1 : ¬ n < m := by omega
  simp [Instr.arrayAt, run_underlying hu, h1]
/-- An array's cell, out of the array as a value. -/
theorem ev_index_agg {e n i : Nat} {k kk : IntKind} {v : Value} {cs : List Value} (hx : opv l x = some (.agg cs.toArray)) (hy : opv l y = some (.int k (i : Int))) (ht : arrOf P T = some (n, e, 1)) (he : P.underlying e = some (.int kk)) (hl : cs.length = n) (hi : cs[i]? = some v) :
    Ev P ⟨d, .index T x y, U, pos, af, g⟩ l F H v := .of fun ρ hρ w _ => by
  have e1 := hρ _ _ hx; have e2 := hρ _ _ hy
  obtain ⟨hu, j, hj, hs⟩ := arrOf_info ht
  obtain ⟨hlt, hc⟩ := List.getElem?_eq_some_iff.1 hi
  have h1 : (i : Int) < (n : Int) := by omega
  refine run_v (s := Instr.index T (ρ x) (ρ y)) ?_
  rw [e1, e2]
  simp [Instr.index, asIntOf, run_underlying hu, h1, run_sizeOf hj, hs, part, isAgg, run_underlying he, hi]
  intro hni
  omega
end
theorem Cells.one {F : PH} {b off : Nat} {cs : List Value} {v : Value} (h : Cells F b off cs) (i : Nat) (hi : cs[i]? = some v) : Cells F b (off + i) [v] := fun j u e => by
  cases j with
  | zero => simp only [List.getElem?_cons_zero, Option.some.injEq] at e; subst e; exact h i v hi
  | succ j => simp at e
/-- What F holds stays, and so do blocks. -/
theorem aFH {C : Ctx} {ops : Array Oper} {fuel : Nat} {listed : Array Bool} {k : List KItem} {l : Env} {F Fs : PH} {H : List Asrt} (hF : Fs.le F) (h : JA C (Sat F H) ops fuel listed k l F H) : JA C (Sat Fs H) ops fuel listed k l F H := aS F H (fun _ s => s.mono hF) (fun _ s => s) h
end Go.Proofs.YtekdmpbkcjjllaaDoor
