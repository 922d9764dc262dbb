/-
  Regions whose order is open and whose operations leave memory as it is, but for calls that only hand back a value: one walk in the text's order. Plain theorems over any program; no condition.
-/
import Derived.Test.YtekdmpbkcjjllaaDoorKe
import Derived.Deep.Quiet
namespace Go.Proofs.YtekdmpbkcjjllaaDoor
open Go.RowKit

def JQ (C : Ctx) (ops : Array Oper) (rest : List Oper) (k : List KItem) (l : Env) (F : PH) (H : List Asrt) : Prop :=
  rest.all (fun o => o.dst.all (· < C.N)) = true → ∀ a, Holds C.N l a → wpQuiet C.P ops (fun w => Mild C.w0 w ∧ Sat F H w) (fun a' => ∀ w', (Mild C.w0 w' ∧ Sat F H w') → kpost C k .normal a' w') rest a
section
variable {C : Ctx} {ops : Array Oper} {rest : List Oper} {k : List KItem} {l : Env} {F : PH} {H : List Asrt} {d : Nat} {T : TypeId} {pos : String} {af : Array Edge} {g : Option (Nat × Bool)} {f : FuncId} {args : List Operand} {tys : Array TypeId} {vs : List Value}
theorem J_draw {id : Nat} {ops : List Oper} (hd : ops.all (fun o => o.dst.all (· < C.N)) = true) (hm : C.P.follows .mixedOrders = true) (hB : Region.lexB .any ops.toArray = true) (h : JQ C ops.toArray ops k l F H) : J C (.code (.region id ops.toArray true) :: k) l F H := by
  unfold J JQ at *
  intro a w ha hmw hs
  have h1 := h hd a ha
  exact wp_region_quiet (C := fun w => Mild C.w0 w ∧ Sat F H w) hm hB ⟨hmw.trans (Mild.drew w), hs⟩ h1
theorem JQ_nil (h : J C k l F H) : JQ C ops [] k l F H := by
  unfold J at h
  intro _ a ha
  exact fun w hw => h a w ha hw.1 hw.2
theorem JQ_s {p : Op} {v : Value} (he : Ev C.P ⟨some d, p, T, pos, af, g⟩ l F H v) (hr : runs ops l ⟨some d, p, T, pos, af, g⟩ = some true) (h : JQ C ops rest k ((d, v) :: l) F H) : JQ C ops (⟨some d, p, T, pos, af, g⟩ :: rest) k l F H := by
  unfold JQ at *
  intro hd a ha
  rw [List.all_cons, Bool.and_eq_true] at hd
  unfold wpQuiet
  rw [if_pos (runs_wanted hr ha)]
  refine ⟨v, fun w hw => ?_, h hd.2 _ (ha.put (by simpa using hd.1) v)⟩
  unfold Oper.quietAt
  rw [he.out _ a w ha hw.2]
  exact ⟨rfl, rfl⟩
theorem JQ_sk {p : Op} (hr : runs ops l ⟨some d, p, T, pos, af, g⟩ = some false) (h : JQ C ops rest k ((d, undef) :: l) F H) : JQ C ops (⟨some d, p, T, pos, af, g⟩ :: rest) k l F H := by
  unfold JQ at *
  intro hd a ha
  rw [List.all_cons, Bool.and_eq_true] at hd
  unfold wpQuiet
  rw [if_neg (by rw [runs_wanted hr ha]; decide)]
  exact h hd.2 _ (ha.put (by simpa using hd.1) undef)
theorem JQ_p {v : Value} (sp : Pure C.P f vs F v) (hc : ∀ args w, (callFunc f args).run C.P w = .ok (.enter f args) w) (hv : opvs l args = some vs)
    (hr : runs ops l ⟨some d, .call { callee := .value (.func f), args := args.toArray, argTypes := tys }, T, pos, af, g⟩ = some true)
    (h : JQ C ops rest k ((d, v) :: l) F H) :
    JQ C ops (⟨some d, .call { callee := .value (.func f), args := args.toArray, argTypes := tys }, T, pos, af, g⟩ :: rest) k l F H := by
  unfold JQ at *
  intro hd a ha
  rw [List.all_cons, Bool.and_eq_true] at hd
  unfold wpQuiet
  rw [if_pos (runs_wanted hr ha)]
  refine ⟨v, fun w hw => ?_, h hd.2 _ (ha.put (by simpa using hd.1) v)⟩
  unfold Oper.quietAt
  have he : args.toArray.map a.eval = vs.toArray := by rw [← ha.opvs hv]; simp
  have hrun : (execOp a.eval ⟨some d, .call { callee := .value (.func f), args := args.toArray, argTypes := tys }, T, pos, af, g⟩).run C.P w = .ok (.enter f vs.toArray) w := by
    unfold execOp
    simp only [resolve, Act.eval, Deferred.ofValue, invoke]
    simp only [Array.append_empty, pure_bind, ← he]
    simp [hc]
  rw [hrun]
  refine ⟨rfl, (Spec.out sp H w hw.2).mono ?_⟩
  rintro e w' ⟨u, F', H', rfl, hF, ⟨e1, e2⟩, hmw, hs'⟩
  subst e1 e2
  exact ⟨rfl, hw.1.trans hmw, hs'.mono hF⟩
end
attribute [irreducible] JQ
/-! ### append of one element -/
section
variable {P : Program} {T E size bytes : Nat} {z : Value}
theorem Elem.es (he : Elem P T E size bytes z) : elemSize P T = some (E, size) := by
  obtain ⟨hu, ⟨i, hi, _, hs, _⟩, _, _⟩ := he
  unfold elemSize
  rw [hu]
  dsimp only
  rw [hi]
  cases i
  cases hs
  rfl
theorem Elem.zs (he : Elem P T E size bytes z) : zeroCs P E = some z.cells.toList ∧ z.cells.toList.length = size := by
  obtain ⟨hu, ⟨i, hi, hz, hs, _, hzs, _⟩, _, _⟩ := he
  refine ⟨?_, by simpa using hzs⟩
  unfold zeroCs
  rw [hi]
  cases i
  cases hz
  cases z <;> rfl
theorem lay_all : ∀ {vs zs : List Value}, vs.length = zs.length → Lay 0 vs zs vs
  | [], [], _ => .nil
  | v :: vs, z :: zs, h => .put (lay_all (by simpa using h))
theorem ev_one {l : Env} {F : PH} {H : List Asrt} {d : Option Nat} {U : TypeId} {pos : String} {af : Array Edge} {g : Option (Nat × Bool)} {y : Operand} {v : Value} {vs : List Value} (hy : opv l y = some v) (hv : VC v vs) (hl : vs.length = size) (he : Elem P T E size bytes z) :
    Ev' P ⟨d, .buildSlice T 1 #[(0, y)], U, pos, af, g⟩ l F H fun v F' H' => F = F' ∧ ∃ b, v = .slice (some ⟨b, 0, none⟩) 1 1 ∧ H' = blk b E vs :: H := by
  obtain ⟨hz, hzl⟩ := he.zs
  exact ev_buildSlice (ps := [(0, y)]) (vs := [(0, v)]) (by simp [partvs, hy]) he.es hz hzl (by rw [Nat.one_mul]; exact he.small) (r := z.cells.toList) (by simp) (.cons hv hl (by rw [Nat.zero_mul]; exact lay_all (by rw [hl, hzl])) .nil)
/-- 'append(s, x)': the literal of one element, and the append. -/
theorem JO_append1 {C : Ctx} {ops : Array Oper} {rest : List Oper} {k : List KItem} {l : Env} {F : PH} {H : List Asrt} {d1 d2 : Nat} {U1 U2 : TypeId} {pos1 pos2 : String} {af1 af2 : Array Edge} {g1 g2 : Option (Nat × Bool)} {x y : Operand} {v yv : Value} {n : Nat} {xs vs : List Value} {K : Value → List Asrt}
    (hx : ∀ w, opv ((d1, w) :: l) x = some v) (hy : opv l y = some yv) (hv : VC yv vs) (hl : vs.length = size) (he : Elem C.P T E size bytes z) (h1 : Ones vs) (hb : (n + 1) * bytes ≤ 140737488355328)
    (hu : ∀ v', Upd (own v E size n xs) (own v' E size (n + 1) (xs ++ vs)) H (K v'))
    (hr1 : runs ops l ⟨some d1, .buildSlice T 1 #[(0, y)], U1, pos1, af1, g1⟩ = some true)
    (hr2 : ∀ w, runs ops ((d1, w) :: l) ⟨some d2, .call { callee := .builtin .append, args := #[x, .tmp d1], argTypes := #[T, T] }, U2, pos2, af2, g2⟩ = some true)
    (h : ∀ u w, JO C ops rest k ((d2, u) :: (d1, w) :: l) F (K u)) :
    JO C ops (⟨some d1, .buildSlice T 1 #[(0, y)], U1, pos1, af1, g1⟩ :: ⟨some d2, .call { callee := .builtin .append, args := #[x, .tmp d1], argTypes := #[T, T] }, U2, pos2, af2, g2⟩ :: rest) k l F H := by
  refine JO_e (ev_one hy hv hl he) hr1 ?_
  rintro w F' H' _ ⟨rfl, b, rfl, rfl⟩
  have hpos := Nat.le_of_ble_eq_true he.pos
  have hn : n + 1 ≤ (n + 1) * bytes := Nat.le_mul_of_pos_right _ hpos
  refine JO_e (ev_append (m := 1) (c := 1) (b := b) (off := 0) (K := fun v' => blk b E vs :: K v') (hx _) (by simp [opv, Env.get_cons]) he (Rdb.ofB (n := 0) .here (by simp)) (by rw [hl]; simp) h1 hb (by unfold maxLen; omega) (fun v' => .there (hu v'))) (hr2 _) ?_
  rintro u F' H' _ ⟨rfl, _, rfl⟩
  exact JO_weak (h u _) fun _ s => s.drop
end
/-- A slice of elements of one cell each. -/
theorem slice1 {F : PH} {v : Value} {n : Nat} {α : Type} {xs : List α} {f : α → Value} (h : SliceV F 1 v n (xs.map f)) : n = xs.length ∧ ∃ a c, v = .slice a n c ∧ n ≤ c ∧ ∀ j x, xs[j]? = some x → ∃ b off, a = some ⟨b, off, none⟩ ∧ Cells F b (off + j * 1) [f x] := by
  obtain ⟨hl, a, c, hv, hn, hc⟩ := h
  have hlen : n = xs.length := by simpa using hl.symm
  refine ⟨hlen, a, c, hv, hn, fun j x hx => ?_⟩
  have hj : j < n := by rw [hlen]; exact (List.getElem?_eq_some_iff.1 hx).1
  obtain ⟨b, off, ha, hcc⟩ := hc (by omega)
  refine ⟨b, off, ha, fun i u hi => ?_⟩
  have h0 : i = 0 := by
    have := (List.getElem?_eq_some_iff.1 hi).1
    simp at this; omega
  subst h0
  have hu : u = f x := by simpa using hi.symm
  subst hu
  rw [Nat.mul_one, Nat.add_zero]
  exact hcc j _ (by simp [hx])
/-! ### texts, bytes -/
def u8s (bs : List UInt8) : List Value := bs.map fun x => .int .u8 x.toNat
section
variable {P : Program} {l : Env} {F : PH} {H Hr : List Asrt} {d : Option Nat} {T T' U E : TypeId} {pos : String} {af : Array Edge} {g : Option (Nat × Bool)} {x y z y' z' : Operand}
theorem ev_index_str {s : ByteArray} {i n : Nat} {k : IntKind} {c : UInt8} (hx : opv l x = some (.string s)) (hy : opv l y = some (.int k (i : Int))) (ht : P.underlying T = some .string) (hi : s.data[i]? = some c) (hn : c.toNat = n) :
    Ev P ⟨d, .index T x y, U, pos, af, g⟩ l F H (.int .u8 (n : Int)) := by
  subst hn
  obtain ⟨hlt, hc⟩ := Array.getElem?_eq_some_iff.1 hi
  have := ev_index_string (F := F) (H := H) (d := d) (U := U) (pos := pos) (af := af) (g := g) (P := P) hx hy ht (i := i) hlt
  have e : s[i]'hlt = c := hc
  rw [e] at this
  exact this
theorem tab_fact (B : ByteArray) (s m : Nat) (f : Nat → UInt8) (hs : s < m) (h : ∀ s, s < m → B.data[s]? = some (f s)) : B.data[s]? = some (f s) := h s hs
theorem ev_str_eql {s t : ByteArray} (hx : opv l x = some (.string s)) (hy : opv l y = some (.string t)) : Ev P ⟨d, .binOp .eql T x y T', U, pos, af, g⟩ l F H (.bool (decide (s.toList = t.toList))) := .of fun ρ hρ w _ => by
  have e1 := hρ _ _ hx; have e2 := hρ _ _ hy
  simp [execOp, e1, e2, eqGuard, binOp, Op.stringOp, go_sem]
  by_cases h : s.toList = t.toList <;> simp [h]
theorem ev_str_neq {s t : ByteArray} (hx : opv l x = some (.string s)) (hy : opv l y = some (.string t)) : Ev P ⟨d, .binOp .neq T x y T', U, pos, af, g⟩ l F H (.bool (!decide (s.toList = t.toList))) := .of fun ρ hρ w _ => by
  have e1 := hρ _ _ hx; have e2 := hρ _ _ hy
  simp [execOp, e1, e2, eqGuard, binOp, Op.stringOp, go_sem]
  by_cases h : s.toList = t.toList <;> simp [h]
theorem run_equal_bool (hu : P.underlying T = some .bool) (a b : Bool) (w : World) : (Op.equal T (.bool a) (.bool b)).run P w = .ok (a == b) w := by
  have h : ∀ n : Nat, (Op.equalIn (n + 1) T (.bool a) (.bool b)).run P w = .ok (a == b) w := fun n => by simp [Op.equalIn, run_underlying hu]
  exact h 9999
theorem ev_bool_eql {a b : Bool} (hx : opv l x = some (.bool a)) (hy : opv l y = some (.bool b)) (hu : P.underlying T = some .bool) : Ev P ⟨d, .binOp .eql T x y T', U, pos, af, g⟩ l F H (.bool (a == b)) := .of fun ρ hρ w _ => by
  have e1 := hρ _ _ hx; have e2 := hρ _ _ hy
  refine run_v (s := do eqGuard .eql T x y (ρ x) (ρ y); binOp .eql T (ρ x) (ρ y)) ?_
  rw [e1, e2]
  have hr := run_equal_bool (P := P) hu a b w
  simp [eqGuard, binOp, hr]
theorem ev_bool_neq {a b : Bool} (hx : opv l x = some (.bool a)) (hy : opv l y = some (.bool b)) (hu : P.underlying T = some .bool) : Ev P ⟨d, .binOp .neq T x y T', U, pos, af, g⟩ l F H (.bool (!(a == b))) := .of fun ρ hρ w _ => by
  have e1 := hρ _ _ hx; have e2 := hρ _ _ hy
  refine run_v (s := do eqGuard .neq T x y (ρ x) (ρ y); binOp .neq T (ρ x) (ρ y)) ?_
  rw [e1, e2]
  have hr := run_equal_bool (P := P) hu a b w
  simp [eqGuard, binOp, hr]
end
end Go.Proofs.YtekdmpbkcjjllaaDoor
