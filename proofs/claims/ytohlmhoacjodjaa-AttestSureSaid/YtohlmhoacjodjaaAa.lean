/-
  Values of interface types: made, and their methods called. Plain theorems over any program; no condition.
  Texts, and structs of two plain fields, as keys of maps. Plain theorems over any program; no condition.
-/
import Derived.Test.YtohlmhoacjodjaaKy
import Derived.Test.YtohlmhoacjodjaaKp
import Derived.Test.YtohlmhoacjodjaaLd
import Derived.Test.YtohlmhoacjodjaaKl
namespace Go.Proofs.Ytohlmhoacjodjaa
open Go.RowKit
def ifcB (P : Program) (T : TypeId) : Bool := match P.underlying T with
  | some (.interface _) => false
  | some _ => true
  | none => false
/-- A method's call comes to a function. -/
def MethR (P : Program) (t : TypeId) (rv : Value) (name : String) (f : FuncId) : Prop := ∀ args w, (callMethod (.iface t rv) name args).run P w = .ok (.enter f (#[rv] ++ args)) w
/-- A method's receiver isn't nil. -/
def MethN (P : Program) (t : TypeId) (rv : Value) (name : String) : Prop := ∀ w, (nilAhead (P.types.size + Made.depth) t rv name).run P w = .ok (some false) w
section
variable {P : Program} {l : Env} {F : PH} {H : List Asrt} {d : Option Nat} {T U : TypeId} {pos : String} {af : Array Edge} {g : Option (Nat × Bool)} {x : Operand}
theorem ev_makeInterface {v : Value} (hx : opv l x = some v) (hu : ifcB P T = true) : Ev P ⟨d, .makeInterface T x, U, pos, af, g⟩ l F H (.iface T v) := .of fun ρ hρ w _ => by
  have e1 := hρ _ _ hx
  unfold ifcB at hu
  cases hd : P.underlying T with
  | none => rw [hd] at hu; cases hu
  | some ds =>
    rw [hd] at hu
    unfold execOp Instr.makeInterface
    simp only [e1]
    cases ds <;> first | (cases hu; done) | simp [run_underlying hd, go_sem]
theorem ev_makeMethod {name : String} {v : Value} (hx : opv l x = some v) : Ev P ⟨d, .makeFunc (.method name) #[x] #[], U, pos, af, g⟩ l F H (.func (.method name) #[v] #[]) := .of fun ρ hρ w _ => by
  have e1 := hρ _ _ hx
  unfold execOp
  simp [Instr.makeFunc, e1]
theorem ev_nilCheckM {name : String} {t : TypeId} {rv : Value} (hx : opv l x = some (.func (.method name) #[.iface t rv] #[])) (hn : MethN P t rv name) : Ev P ⟨d, .nilCheck x, U, pos, af, g⟩ l F H (.func (.method name) #[.iface t rv] #[]) := .of fun ρ hρ w _ => by
  have e1 := hρ _ _ hx
  have e2 := hn w
  unfold execOp
  simp only [e1]
  simp [go_sem]
  rw [show (nilAhead (P.types.size + 100) t rv name).run P w = .ok (some false) w from e2]
  simp [Result.andThen]
end
section
variable {C : Ctx} {m : Bool} {ops : Array Oper} {rest : List Oper} {k : List KItem} {l : Env} {F : PH} {H : List Asrt} {d : Nat} {T : TypeId} {pos : String} {af : Array Edge} {g : Option (Nat × Bool)} {f : FuncId} {x : Operand} {args : List Operand} {tys : Array TypeId} {vs : List Value} {t : TypeId} {rv : Value} {name : String}
theorem run_inv {P : Program} {o : Oper} {l : Env} {N : Nat} {a : Act} (ho : o.op = .call { callee := .invoke x name, args := args.toArray, argTypes := tys }) (hx : opv l x = some (.iface t rv)) (hm : MethR P t rv name f) (hv : opvs l args = some vs) (ha : Holds N l a) (w : World) :
    (execOp a.eval o).run P w = .ok (.enter f (rv :: vs).toArray) w := by
  have he : args.toArray.map a.eval = vs.toArray := by rw [← ha.opvs hv]; simp
  have e1 := ha.opv hx
  have e2 := hm vs.toArray w
  unfold execOp
  rw [ho]
  simp only [resolve, e1, invoke, he]
  have e3 : (#[Value.iface t rv] ++ vs.toArray)[0]? = some (.iface t rv) := by simp
  have e4 : (#[Value.iface t rv] ++ vs.toArray).extract 1 (#[Value.iface t rv] ++ vs.toArray).size = vs.toArray := by simp
  simp only [pure_bind, Array.append_empty, e3, e4]
  rw [e2]
  simp
theorem oI {Hc Hr : List Asrt} {Q : Value → PH → List Asrt → Prop} (hx : opv l x = some (.iface t rv)) (hmt : MethR C.P t rv name f) (sp : Spec C.P f (rv :: vs) F Hc Q) (hv : opvs l args = some vs)
    (hr : runs ops l ⟨some d, .call { callee := .invoke x name, args := args.toArray, argTypes := tys }, T, pos, af, g⟩ = some true) (hp : ∀ w, Sat F H w → Sat F (Hc ++ Hr) w)
    (h : ∀ v F' H', F.le F' → Q v F' H' → JM C false ops rest k ((d, v) :: l) F' (H' ++ Hr)) :
    JM C false ops (⟨some d, .call { callee := .invoke x name, args := args.toArray, argTypes := tys }, T, pos, af, g⟩ :: rest) k l F H := by
  unfold JM at *
  unfold JO at *
  intro hd a w ha hm hs
  unfold wpList
  rw [if_pos (runs_wanted hr ha)]
  left
  unfold Oper.wp
  rw [run_inv rfl hx hmt hv ha w]
  simp only [Oper.upon_enter]
  refine (sp.out Hr w (hp w hs)).mono ?_
  rintro e w' ⟨v, F', H', rfl, hF, hQ, hmw, hs'⟩
  rw [List.all_cons, Bool.and_eq_true] at hd
  exact h v F' H' hF hQ hd.2 _ w' (ha.put (by simpa using hd.1) v) (hm.trans hmw) hs'
end
section
variable {C : Ctx} {Fs : PH} {Hs : List Asrt} {ops : Array Oper} {fuel : Nat} {listed : Array Bool} {k : List KItem} {l : Env} {F : PH} {H : List Asrt} {d : Nat} {T : TypeId} {pos : String} {af : Array Edge} {g : Option (Nat × Bool)}
theorem aI {f : FuncId} {x : Operand} {args : List Operand} {tys : Array TypeId} {vs : List Value} {t : TypeId} {rv : Value} {name : String} {Hc Hr : List Asrt} {Q : Value → PH → List Asrt → Prop} {i : Nat}
    (ho : ops[i]? = some ⟨some d, .call { callee := .invoke x name, args := args.toArray, argTypes := tys }, T, pos, af, g⟩) (hx : opv l x = some (.iface t rv)) (hmt : MethR C.P t rv name f) (sp : Spec C.P f (rv :: vs) F Hc Q) (hv : opvs l args = some vs)
    (hr : runs ops l ⟨some d, .call { callee := .invoke x name, args := args.toArray, argTypes := tys }, T, pos, af, g⟩ = some true) (hN : Nat.blt d C.N = true)
    (hp : ∀ w, Sat F H w → Sat F (Hc ++ Hr) w) (hQ : ∀ v F' H', F.le F' → Q v F' H' → ∀ w, Sat F' (H' ++ Hr) w → Sat Fs Hs w)
    (h : ∀ v F' H', F.le F' → Q v F' H' → JA C (Sat Fs Hs) ops fuel (listed.setIfInBounds i true) k ((d, v) :: l) F' (H' ++ Hr)) : JA1 C (Sat Fs Hs) ops fuel listed i k l F H := by
  unfold JA at h
  unfold JA1
  intro hS a w ha hm hs
  have hd : d < C.N := Nat.le_of_ble_eq_true hN
  unfold wpOp
  rw [ho]
  dsimp only
  rw [if_pos (runs_wanted hr ha)]
  left
  unfold Oper.wp
  rw [run_inv rfl hx hmt hv ha w]
  simp only [Oper.upon_enter]
  refine (sp.out Hr w (hp w hs)).mono ?_
  rintro e w' ⟨v, F', H', rfl, hF, hq, hmw, hs'⟩
  have hS' := hQ v F' H' hF hq
  exact ⟨hS' w' hs', h v F' H' hF hq hS' _ w' (ha.put hd v) (hm.trans hmw) hs'⟩
end
end Go.Proofs.Ytohlmhoacjodjaa
namespace Go.Proofs.Ytohlmhoacjodjaa
open Go.RowKit
set_option maxRecDepth 100000
theorem strOf_inj {a b : List UInt8} (h : strOf a = strOf b) : a = b := by
  have := congrArg ByteArray.toList h
  rwa [strOf_toList, strOf_toList] at this
theorem strOf_beq (a b : List UInt8) : (strOf a == strOf b) = decide (a = b) := by
  show (a.toArray == b.toArray) = decide (a = b)
  by_cases h : a = b
  · subst h; simp
  · rw [decide_eq_false h]
    rw [beq_eq_false_iff_ne]
    exact fun e => h (by simpa using congrArg Array.toList e)
theorem checkKey_str {P : Program} {kt : TypeId} (hk : P.underlying kt = some .string) (n : Nat) (b : Bool) (v : Value) (w : World) : (Instr.checkKey b (n + 1) kt v).run P w = .ok () w := by
  cases v <;> simp [Instr.checkKey, run_underlying hk]
def keyStr {P : Program} {kt : TypeId} (hk : P.underlying kt = some .string) : KeyT P kt (List UInt8) where
  val := fun s => .string (strOf s)
  chk := fun b a w => checkKey_str hk 9999 b _ w
  same := fun a => by simp [Instr.sameBits, strOf_beq]
  find := by
    intro a M es h w
    have key : ∀ (M : List (List UInt8 × Value)) (es : List MapEntry) (i : Nat), es.map (fun e => (e.key, e.val)) = M.map (fun p => (Value.string (strOf p.1), p.2)) → Instr.findNow .string (.string (strOf a)) es i = some (scanK a M i) := by
      intro M
      induction M with
      | nil => intro es i h; cases es with
        | nil => rfl
        | cons e es => simp at h
      | cons p M ih =>
        intro es i h
        cases es with
        | nil => simp at h
        | cons e es =>
          simp only [List.map_cons, List.cons.injEq, Prod.mk.injEq] at h
          obtain ⟨⟨h1, h2⟩, h3⟩ := h
          obtain ⟨k', v'⟩ := p
          dsimp only at h1 h2
          simp only [Instr.findNow, scanK, h1, Instr.sameNow, strOf_beq]
          by_cases hak : a = k'
          · subst hak; simp [h2]
          · simp [hak, ih es (i + 1) h3]
    unfold Instr.findKey
    simp only [Sem.run_bind, run_underlying hk, Result.andThen_ok, key M es 0 h]
    rfl
/-- A plain field's type. -/
def plainKey (P : Program) (t : TypeId) : Bool := match P.underlying t with
  | some (.int _) => true
  | some .string => true
  | _ => false
theorem checkKey_plain {P : Program} {t : TypeId} (h : plainKey P t = true) (n : Nat) (b : Bool) (v : Value) (w : World) : (Instr.checkKey b (n + 1) t v).run P w = .ok () w := by
  unfold plainKey at h
  cases hu : P.underlying t with
  | none => rw [hu] at h; cases h
  | some d =>
    rw [hu] at h
    cases d <;> first | (cases h; done) | exact checkKey_int hu n b v w | exact checkKey_str hu n b v w
theorem part_plain {P : Program} {t off : Nat} {cs : List Value} {v : Value} (h : plainKey P t = true) (hc : cs[off]? = some v) (w : World) : (part t cs.toArray off).run P w = .ok v w := by
  unfold plainKey at h
  cases hu : P.underlying t with
  | none => rw [hu] at h; cases h
  | some d =>
    rw [hu] at h
    cases d <;> first | (cases h; done) | exact run_part_1 hu rfl hc w
theorem checkKey_two {P : Program} {kt : TypeId} {f1 f2 : Field} (hu : P.underlying kt = some (.struct #[f1, f2])) (h1 : plainKey P f1.type = true) (h2 : plainKey P f2.type = true) (ho1 : f1.offset = 0) (ho2 : f2.offset = 1) (b : Bool) (x y : Value) (n : Nat) (w : World) :
    (Instr.checkKey b (n + 2) kt (.agg #[x, y])).run P w = .ok () w := by
  have q1 : (part f1.type #[x, y] f1.offset).run P w = .ok x w := part_plain (cs := [x, y]) h1 (by rw [ho1]; rfl) w
  have q2 : (part f2.type #[x, y] f2.offset).run P w = .ok y w := part_plain (cs := [x, y]) h2 (by rw [ho2]; rfl) w
  have c1 := checkKey_plain h1 n b x w
  have c2 := checkKey_plain h2 n b y w
  rw [Instr.checkKey]
  simp only [Sem.run_bind, run_underlying hu, Result.andThen_ok]
  rw [show (#[f1, f2] : Array Field) = [f1, f2].toArray from rfl, List.forIn_toArray]
  by_cases n1 : f1.name = "_" <;> by_cases n2 : f2.name = "_" <;> simp only [List.forIn_cons, List.forIn_nil, Sem.run_bind, Sem.run_pure, n1, n2, ne_eq, not_true_eq_false, not_false_eq_true, if_true, if_false, q1, q2, c1, c2, Result.andThen_ok]
end Go.Proofs.Ytohlmhoacjodjaa
