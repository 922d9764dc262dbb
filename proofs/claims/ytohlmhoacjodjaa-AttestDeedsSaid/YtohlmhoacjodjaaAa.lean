/-
  Values of interface types: made, and their methods called. Plain theorems over any program; no condition.
-/
import Derived.Test.YtohlmhoacjodjaaKy
import Derived.Test.YtohlmhoacjodjaaKp
namespace Go.Proofs.Ytohlmhoacjodjaa
open Go.RowKit
def ifcB (P : Program) (T : TypeId) : Bool := match P.underlying T with
  | some (.interface _) => false
  | some _ => true
  | none => false
/-- A method's call comes to a function. -/
def MethR (P : Program) (t : TypeId) (rv : Value) (name : String) (f : FuncId) : Prop := ∀ args w, (callMethod (.iface t rv) name args).run P w = .ok (.enter f (#[rv] ++ args)) w
/-- A method's receiver isn't nil. -/
def MethN (P : Program) (t : TypeId) (rv : Value) (name : String) : Prop := ∀ w, (nilAhead (P.types.size + Made.depth) t rv name).run P w = .ok (some false) w
section
variable {P : Program} {l : Env} {F : PH} {H : List Asrt} {d : Option Nat} {T U : TypeId} {pos : String} {af : Array Edge} {g : Option (Nat × Bool)} {x : Operand}
theorem ev_makeInterface {v : Value} (hx : opv l x = some v) (hu : ifcB P T = true) : Ev P ⟨d, .makeInterface T x, U, pos, af, g⟩ l F H (.iface T v) := .of fun ρ hρ w _ => by
  have e1 := hρ _ _ hx
  unfold ifcB at hu
  cases hd : P.underlying T with
  | none => rw [hd] at hu; cases hu
  | some ds =>
    rw [hd] at hu
    unfold execOp Instr.makeInterface
    simp only [e1]
    cases ds <;> first | (cases hu; done) | simp [run_underlying hd, go_sem]
theorem ev_makeMethod {name : String} {v : Value} (hx : opv l x = some v) : Ev P ⟨d, .makeFunc (.method name) #[x] #[], U, pos, af, g⟩ l F H (.func (.method name) #[v] #[]) := .of fun ρ hρ w _ => by
  have e1 := hρ _ _ hx
  unfold execOp
  simp [Instr.makeFunc, e1]
theorem ev_nilCheckM {name : String} {t : TypeId} {rv : Value} (hx : opv l x = some (.func (.method name) #[.iface t rv] #[])) (hn : MethN P t rv name) : Ev P ⟨d, .nilCheck x, U, pos, af, g⟩ l F H (.func (.method name) #[.iface t rv] #[]) := .of fun ρ hρ w _ => by
  have e1 := hρ _ _ hx
  have e2 := hn w
  unfold execOp
  simp only [e1]
  simp [go_sem]
  rw [show (nilAhead (P.types.size + 100) t rv name).run P w = .ok (some false) w from e2]
  simp [Result.andThen]
end
section
variable {C : Ctx} {m : Bool} {ops : Array Oper} {rest : List Oper} {k : List KItem} {l : Env} {F : PH} {H : List Asrt} {d : Nat} {T : TypeId} {pos : String} {af : Array Edge} {g : Option (Nat × Bool)} {f : FuncId} {x : Operand} {args : List Operand} {tys : Array TypeId} {vs : List Value} {t : TypeId} {rv : Value} {name : String}
theorem run_inv {P : Program} {o : Oper} {l : Env} {N : Nat} {a : Act} (ho : o.op = .call { callee := .invoke x name, args := args.toArray, argTypes := tys }) (hx : opv l x = some (.iface t rv)) (hm : MethR P t rv name f) (hv : opvs l args = some vs) (ha : Holds N l a) (w : World) :
    (execOp a.eval o).run P w = .ok (.enter f (rv :: vs).toArray) w := by
  have he : args.toArray.map a.eval = vs.toArray := by rw [← ha.opvs hv]; simp
  have e1 := ha.opv hx
  have e2 := hm vs.toArray w
  unfold execOp
  rw [ho]
  simp only [resolve, e1, invoke, he]
  have e3 : (#[Value.iface t rv] ++ vs.toArray)[0]? = some (.iface t rv) := by simp
  have e4 : (#[Value.iface t rv] ++ vs.toArray).extract 1 (#[Value.iface t rv] ++ vs.toArray).size = vs.toArray := by simp
  simp only [pure_bind, Array.append_empty, e3, e4]
  rw [e2]
  simp
theorem oI {Hc Hr : List Asrt} {Q : Value → PH → List Asrt → Prop} (hx : opv l x = some (.iface t rv)) (hmt : MethR C.P t rv name f) (sp : Spec C.P f (rv :: vs) F Hc Q) (hv : opvs l args = some vs)
    (hr : runs ops l ⟨some d, .call { callee := .invoke x name, args := args.toArray, argTypes := tys }, T, pos, af, g⟩ = some true) (hp : ∀ w, Sat F H w → Sat F (Hc ++ Hr) w)
    (h : ∀ v F' H', F.le F' → Q v F' H' → JM C false ops rest k ((d, v) :: l) F' (H' ++ Hr)) :
    JM C false ops (⟨some d, .call { callee := .invoke x name, args := args.toArray, argTypes := tys }, T, pos, af, g⟩ :: rest) k l F H := by
  unfold JM at *
  unfold JO at *
  intro hd a w ha hm hs
  unfold wpList
  rw [if_pos (runs_wanted hr ha)]
  left
  unfold Oper.wp
  rw [run_inv rfl hx hmt hv ha w]
  simp only [Oper.upon_enter]
  refine (sp.out Hr w (hp w hs)).mono ?_
  rintro e w' ⟨v, F', H', rfl, hF, hQ, hmw, hs'⟩
  rw [List.all_cons, Bool.and_eq_true] at hd
  exact h v F' H' hF hQ hd.2 _ w' (ha.put (by simpa using hd.1) v) (hm.trans hmw) hs'
end
section
variable {C : Ctx} {Fs : PH} {Hs : List Asrt} {ops : Array Oper} {fuel : Nat} {listed : Array Bool} {k : List KItem} {l : Env} {F : PH} {H : List Asrt} {d : Nat} {T : TypeId} {pos : String} {af : Array Edge} {g : Option (Nat × Bool)}
theorem aI {f : FuncId} {x : Operand} {args : List Operand} {tys : Array TypeId} {vs : List Value} {t : TypeId} {rv : Value} {name : String} {Hc Hr : List Asrt} {Q : Value → PH → List Asrt → Prop} {i : Nat}
    (ho : ops[i]? = some ⟨some d, .call { callee := .invoke x name, args := args.toArray, argTypes := tys }, T, pos, af, g⟩) (hx : opv l x = some (.iface t rv)) (hmt : MethR C.P t rv name f) (sp : Spec C.P f (rv :: vs) F Hc Q) (hv : opvs l args = some vs)
    (hr : runs ops l ⟨some d, .call { callee := .invoke x name, args := args.toArray, argTypes := tys }, T, pos, af, g⟩ = some true) (hN : Nat.blt d C.N = true)
    (hp : ∀ w, Sat F H w → Sat F (Hc ++ Hr) w) (hQ : ∀ v F' H', F.le F' → Q v F' H' → ∀ w, Sat F' (H' ++ Hr) w → Sat Fs Hs w)
    (h : ∀ v F' H', F.le F' → Q v F' H' → JA C (Sat Fs Hs) ops fuel (listed.setIfInBounds i true) k ((d, v) :: l) F' (H' ++ Hr)) : JA1 C (Sat Fs Hs) ops fuel listed i k l F H := by
  unfold JA at h
  unfold JA1
  intro hS a w ha hm hs
  have hd : d < C.N := Nat.le_of_ble_eq_true hN
  unfold wpOp
  rw [ho]
  dsimp only
  rw [if_pos (runs_wanted hr ha)]
  left
  unfold Oper.wp
  rw [run_inv rfl hx hmt hv ha w]
  simp only [Oper.upon_enter]
  refine (sp.out Hr w (hp w hs)).mono ?_
  rintro e w' ⟨v, F', H', rfl, hF, hq, hmw, hs'⟩
  have hS' := hQ v F' H' hF hq
  exact ⟨hS' w' hs', h v F' H' hF hq hS' _ w' (ha.put hd v) (hm.trans hmw) hs'⟩
end
end Go.Proofs.Ytohlmhoacjodjaa
