/-
  Functions as values: made, called. Plain theorems over any program; no condition.
-/
import Derived.Test.YtekdmpbkcjjllaaDoorKx
namespace Go.Proofs.YtekdmpbkcjjllaaDoor
open Go.RowKit
/-- A function with what it has taken along. -/
abbrev fnV (f : FuncId) (caps : List Value) : Value := .func (.func f) #[] caps.toArray
section
variable {P : Program} {l : Env} {F : PH} {H : List Asrt} {d : Option Nat} {T : TypeId} {pos : String} {af : Array Edge} {g : Option (Nat × Bool)}
theorem ev_makeFunc {f : FuncId} {caps : List Operand} {vs : List Value} (hv : opvs l caps = some vs) : Ev P ⟨d, .makeFunc (.func f) #[] caps.toArray, T, pos, af, g⟩ l F H (fnV f vs) := by
  unfold Ev
  intro N a w ha _
  have he : caps.toArray.map a.eval = vs.toArray := by rw [← ha.opvs hv]; simp
  unfold execOp
  simp only [Instr.makeFunc, he]
  simp [fnV]
end
section
variable {C : Ctx} {m : Bool} {ops : Array Oper} {rest : List Oper} {k : List KItem} {l : Env} {F : PH} {H : List Asrt} {d : Nat} {T : TypeId} {pos : String} {af : Array Edge} {g : Option (Nat × Bool)} {f : FuncId} {x : Operand} {args : List Operand} {tys : Array TypeId} {vs caps : List Value}
theorem run_fn {P : Program} {o : Oper} {l : Env} {N : Nat} {a : Act} (ho : o.op = .call { callee := .value x, args := args.toArray, argTypes := tys }) (hx : opv l x = some (fnV f caps)) (hc : ∀ args w, (callFunc f args).run P w = .ok (.enter f args) w) (hv : opvs l args = some vs) (ha : Holds N l a) (w : World) :
    (execOp a.eval o).run P w = .ok (.enter f (vs ++ caps).toArray) w := by
  have he : args.toArray.map a.eval = vs.toArray := by rw [← ha.opvs hv]; simp
  have e1 := ha.opv hx
  unfold execOp
  rw [ho]
  simp only [resolve, e1, fnV, Deferred.ofValue, invoke, he]
  simp [hc]
theorem oCF {Hc Hr : List Asrt} {Q : Value → PH → List Asrt → Prop} (hx : opv l x = some (fnV f caps)) (sp : Spec C.P f (vs ++ caps) F Hc Q) (hc : ∀ args w, (callFunc f args).run C.P w = .ok (.enter f args) w) (hv : opvs l args = some vs)
    (hr : runs ops l ⟨some d, .call { callee := .value x, args := args.toArray, argTypes := tys }, T, pos, af, g⟩ = some true) (hp : ∀ w, Sat F H w → Sat F (Hc ++ Hr) w)
    (h : ∀ v F' H', F.le F' → Q v F' H' → JM C false ops rest k ((d, v) :: l) F' (H' ++ Hr)) :
    JM C false ops (⟨some d, .call { callee := .value x, args := args.toArray, argTypes := tys }, T, pos, af, g⟩ :: rest) k l F H := by
  unfold JM at *
  unfold JO at *
  intro hd a w ha hm hs
  unfold wpList
  rw [if_pos (runs_wanted hr ha)]
  left
  unfold Oper.wp
  rw [run_fn rfl hx hc hv ha w]
  simp only [Oper.upon_enter]
  refine (sp.out Hr w (hp w hs)).mono ?_
  rintro e w' ⟨v, F', H', rfl, hF, hQ, hmw, hs'⟩
  rw [List.all_cons, Bool.and_eq_true] at hd
  exact h v F' H' hF hQ hd.2 _ w' (ha.put (by simpa using hd.1) v) (hm.trans hmw) hs'
theorem oPF {v : Value} (hx : opv l x = some (fnV f caps)) (sp : Pure C.P f (vs ++ caps) F v) (hc : ∀ args w, (callFunc f args).run C.P w = .ok (.enter f args) w) (hv : opvs l args = some vs)
    (hr : runs ops l ⟨some d, .call { callee := .value x, args := args.toArray, argTypes := tys }, T, pos, af, g⟩ = some true)
    (h : JM C m ops rest k ((d, v) :: l) F H) : JM C m ops (⟨some d, .call { callee := .value x, args := args.toArray, argTypes := tys }, T, pos, af, g⟩ :: rest) k l F H := by
  cases m
  · exact oCF (Hc := []) (Hr := H) hx sp hc hv hr (fun _ s => s) fun _ F' _ hF ⟨e1, e2⟩ => by
      subst e1; subst e2
      exact oW h (fun w s => s.mono hF)
  · unfold JM at *
    unfold JQ at *
    intro hd a ha
    rw [List.all_cons, Bool.and_eq_true] at hd
    unfold wpQuiet
    rw [if_pos (runs_wanted hr ha)]
    refine ⟨v, fun w hw => ?_, h hd.2 _ (ha.put (by simpa using hd.1) v)⟩
    unfold Oper.quietAt
    rw [run_fn rfl hx hc hv ha w]
    refine ⟨rfl, (Spec.out sp H w hw.2).mono ?_⟩
    rintro e w' ⟨u, F', H', rfl, hF, ⟨e1, e2⟩, hmw, hs'⟩
    subst e1 e2
    exact ⟨rfl, hw.1.trans hmw, hs'.mono hF⟩
end
end Go.Proofs.YtekdmpbkcjjllaaDoor
