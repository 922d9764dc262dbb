/-
  Open orders: calls that only hand back a value; values that are told apart. Plain theorems over any program; no condition.
-/
import Derived.Test.YtekdmpbkcjjllaaDoorKs
namespace Go.Proofs.YtekdmpbkcjjllaaDoor
open Go.RowKit
section
variable {C : Ctx} {Fs : PH} {Hs : List Asrt} {ops : Array Oper} {fuel : Nat} {listed : Array Bool} {k : List KItem} {l : Env} {F : PH} {H : List Asrt} {d : Nat} {T : TypeId} {pos : String} {af : Array Edge} {g : Option (Nat × Bool)}
theorem aP {f : FuncId} {args : List Operand} {tys : Array TypeId} {vs : List Value} {v : Value} {i : Nat}
    (ho : ops[i]? = some ⟨some d, .call { callee := .value (.func f), args := args.toArray, argTypes := tys }, T, pos, af, g⟩) (sp : Pure C.P f vs F v) (hc : ∀ args w, (callFunc f args).run C.P w = .ok (.enter f args) w) (hv : opvs l args = some vs)
    (hr : runs ops l ⟨some d, .call { callee := .value (.func f), args := args.toArray, argTypes := tys }, T, pos, af, g⟩ = some true) (hN : Nat.blt d C.N = true)
    (hS : ∀ w, Sat F H w → Sat Fs Hs w) (h : JA C (Sat Fs Hs) ops fuel (listed.setIfInBounds i true) k ((d, v) :: l) F H) : JA1 C (Sat Fs Hs) ops fuel listed i k l F H :=
  aC (Hc := []) (Hr := H) ho sp hc hv hr hN (fun _ s => s) (fun _ _ _ hF ⟨_, e⟩ w s => by subst e; exact hS w (s.mono hF)) fun _ _ _ hF ⟨e1, e2⟩ => by
    subst e1; subst e2; exact aWeak h hS (fun w s => s.mono hF)
end
end Go.Proofs.YtekdmpbkcjjllaaDoor
