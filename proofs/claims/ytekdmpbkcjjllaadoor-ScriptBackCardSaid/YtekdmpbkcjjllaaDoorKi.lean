/-
  Regions whose order is open and in which memory is made or written: what yields its value in every world that keeps a part of memory is taken first. Plain theorems over any program; no condition.
-/
import Derived.Test.YtekdmpbkcjjllaaDoorKh
import Derived.OrdersHeld
namespace Go.Proofs.YtekdmpbkcjjllaaDoor
open Go.RowKit

theorem kpost_panic {C : Ctx} {c : List PanicEntry} {a a' : Act} {w : World} (hd : a'.defers = a.defers) : ∀ {k : List KItem}, kpost C k (.panic c) a w → kpost C k (.panic c) a' w
  | [], h => by
    unfold kpost bodyPost at h ⊢
    exact ⟨by rw [hd]; exact h.1, h.2⟩
  | .code _ :: k, h => kpost_panic (k := k) hd h
  | .again _ :: k, h => kpost_panic (k := k) hd h
  | .blk _ :: k, h => kpost_panic (k := k) hd h
def JA (C : Ctx) (S : World → Prop) (ops : Array Oper) (fuel : Nat) (listed : Array Bool) (k : List KItem) (l : Env) (F : PH) (H : List Asrt) : Prop :=
  (∀ w, Sat F H w → S w) → ∀ a w, Holds C.N l a → Mild C.w0 w → Sat F H w → wpAnyH C.P .any ops (kpost C k) S fuel listed a w
section
variable {C : Ctx} {Fs : PH} {Hs : List Asrt} {ops : Array Oper} {fuel : Nat} {listed : Array Bool} {k : List KItem} {l : Env} {F : PH} {H : List Asrt} {d : Nat} {T : TypeId} {pos : String} {af : Array Edge} {g : Option (Nat × Bool)} {p : Op}
theorem ja {id : Nat} {ops : List Oper} (Fs : PH) (Hs : List Asrt) (hm : C.P.follows .mixedOrders = true) (hS : ∀ w, Sat F H w → Sat Fs Hs w) (h : JA C (Sat Fs Hs) ops.toArray ops.toArray.size (Array.replicate ops.toArray.size false) k l F H) :
    J C (.code (.region id ops.toArray true) :: k) l F H := by
  unfold J JA at *
  intro a w ha hmw hs
  exact wp_region_held hm (h hS a { w with drawn := w.drawn + 1 } ha (hmw.trans (Mild.drew w)) hs)
theorem aT {v : Value} (i : Nat) (ho : ops[i]? = some ⟨some d, p, T, pos, af, g⟩) (he : Ev C.P ⟨some d, p, T, pos, af, g⟩ l Fs Hs v) (hr : runs ops l ⟨some d, p, T, pos, af, g⟩ = some true) (hN : Nat.blt d C.N = true)
    (hsel : Region.noSelect ops = true) (hf : Region.free .any ops listed i = true) (hrd : (Region.ready .any ops listed).contains i = true)
    (h : JA C (Sat Fs Hs) ops fuel (listed.setIfInBounds i true) k ((d, v) :: l) F H) : JA C (Sat Fs Hs) ops (fuel + 1) listed k l F H := by
  unfold JA at *
  intro hS a w ha hm hs
  have hd : d < C.N := Nat.le_of_ble_eq_true hN
  exact wpAnyH_take ho hsel hf hrd (fun c a w hq => kpost_panic (by simp [Act.put]) hq) (.inl ⟨runs_wanted hr ha, fun w hw => he.out _ a w ha hw⟩) (hS w hs) (h hS _ w (ha.put hd v) hm hs)
theorem aX (i : Nat) (ho : ops[i]? = some ⟨some d, p, T, pos, af, g⟩) (hr : runs ops l ⟨some d, p, T, pos, af, g⟩ = some false) (hN : Nat.blt d C.N = true)
    (hsel : Region.noSelect ops = true) (hf : Region.free .any ops listed i = true) (hrd : (Region.ready .any ops listed).contains i = true)
    (h : JA C (Sat Fs Hs) ops fuel (listed.setIfInBounds i true) k ((d, undef) :: l) F H) : JA C (Sat Fs Hs) ops (fuel + 1) listed k l F H := by
  unfold JA at *
  intro hS a w ha hm hs
  have hd : d < C.N := Nat.le_of_ble_eq_true hN
  exact wpAnyH_take ho hsel hf hrd (fun c a w hq => kpost_panic (by simp [Act.put]) hq) (.inr ⟨runs_wanted hr ha, rfl⟩) (hS w hs) (h hS _ w (ha.put hd undef) hm hs)
theorem aD (hr : Region.ready .any ops listed = []) (h : J C k l F H) : JA C (Sat Fs Hs) ops fuel listed k l F H := by
  unfold JA J at *
  intro _ a w ha hm hs
  exact wpAnyH_done hr (h a w ha hm hs) fuel
/-- Operation number i comes next. -/
def JA1 (C : Ctx) (S : World → Prop) (ops : Array Oper) (fuel : Nat) (listed : Array Bool) (i : Nat) (k : List KItem) (l : Env) (F : PH) (H : List Asrt) : Prop :=
  (∀ w, Sat F H w → S w) → ∀ a w, Holds C.N l a → Mild C.w0 w → Sat F H w → wpOp C.P ops (kpost C k) i (fun a' w' => S w' ∧ wpAnyH C.P .any ops (kpost C k) S fuel (listed.setIfInBounds i true) a' w') a w
theorem aB {i : Nat} (hrd : Region.ready .any ops listed = [i]) (h : JA1 C (Sat Fs Hs) ops fuel listed i k l F H) : JA C (Sat Fs Hs) ops (fuel + 1) listed k l F H := by
  unfold JA JA1 at *
  intro hS a w ha hm hs
  refine wpAnyH_all hrd (by simp) ?_
  intro j hj
  rw [List.mem_singleton] at hj
  subst hj
  exact h hS a w ha hm hs
theorem aB2 {i i' : Nat} (hrd : Region.ready .any ops listed = [i, i']) (h : JA1 C (Sat Fs Hs) ops fuel listed i k l F H) (h' : JA1 C (Sat Fs Hs) ops fuel listed i' k l F H) : JA C (Sat Fs Hs) ops (fuel + 1) listed k l F H := by
  unfold JA JA1 at *
  intro hS a w ha hm hs
  refine wpAnyH_all hrd (by simp) ?_
  intro j hj
  simp only [List.mem_cons, List.not_mem_nil, or_false] at hj
  rcases hj with rfl | rfl
  · exact h hS a w ha hm hs
  · exact h' hS a w ha hm hs
theorem aB3 {i i' i'' : Nat} (hrd : Region.ready .any ops listed = [i, i', i'']) (h : JA1 C (Sat Fs Hs) ops fuel listed i k l F H) (h' : JA1 C (Sat Fs Hs) ops fuel listed i' k l F H) (h'' : JA1 C (Sat Fs Hs) ops fuel listed i'' k l F H) : JA C (Sat Fs Hs) ops (fuel + 1) listed k l F H := by
  unfold JA JA1 at *
  intro hS a w ha hm hs
  refine wpAnyH_all hrd (by simp) ?_
  intro j hj
  simp only [List.mem_cons, List.not_mem_nil, or_false] at hj
  rcases hj with rfl | rfl | rfl
  · exact h hS a w ha hm hs
  · exact h' hS a w ha hm hs
  · exact h'' hS a w ha hm hs
theorem aV {v : Value} {i : Nat} (ho : ops[i]? = some ⟨some d, p, T, pos, af, g⟩) (he : Ev C.P ⟨some d, p, T, pos, af, g⟩ l F H v) (hr : runs ops l ⟨some d, p, T, pos, af, g⟩ = some true) (hN : Nat.blt d C.N = true)
    (h : JA C (Sat Fs Hs) ops fuel (listed.setIfInBounds i true) k ((d, v) :: l) F H) : JA1 C (Sat Fs Hs) ops fuel listed i k l F H := by
  unfold JA at h
  unfold JA1
  intro hS a w ha hm hs
  have hd : d < C.N := Nat.le_of_ble_eq_true hN
  unfold wpOp
  rw [ho]
  dsimp only
  rw [if_pos (runs_wanted hr ha)]
  left
  unfold Oper.wp
  rw [he.out _ a w ha hs]
  exact ⟨hS w hs, h hS _ w (ha.put hd v) hm hs⟩
theorem aE {Q : Value → PH → List Asrt → Prop} {i : Nat} (ho : ops[i]? = some ⟨some d, p, T, pos, af, g⟩) (he : Ev' C.P ⟨some d, p, T, pos, af, g⟩ l F H Q) (hr : runs ops l ⟨some d, p, T, pos, af, g⟩ = some true) (hN : Nat.blt d C.N = true)
    (hQ : ∀ v F' H', F.le F' → Q v F' H' → ∀ w, Sat F' H' w → Sat Fs Hs w)
    (h : ∀ v F' H', F.le F' → Q v F' H' → JA C (Sat Fs Hs) ops fuel (listed.setIfInBounds i true) k ((d, v) :: l) F' H') : JA1 C (Sat Fs Hs) ops fuel listed i k l F H := by
  unfold JA at h
  unfold JA1
  intro hS a w ha hm hs
  have hd : d < C.N := Nat.le_of_ble_eq_true hN
  unfold wpOp
  rw [ho]
  dsimp only
  rw [if_pos (runs_wanted hr ha)]
  left
  obtain ⟨nx, w', v, F', H', hrun, hv, hmw, hF, hq, hs'⟩ := he.out _ a w ha hs
  have hS' := hQ v F' H' hF hq
  unfold Oper.wp
  rw [hrun]
  rcases hv with rfl | ⟨rfl, rfl⟩
  · exact ⟨hS' w' hs', h v F' H' hF hq hS' _ w' (ha.put hd v) (hm.trans hmw) hs'⟩
  · exact ⟨hS' w' hs', h undef F' H' hF hq hS' _ w' (ha.put hd undef) (hm.trans hmw) hs'⟩
theorem aN {Q : Value → PH → List Asrt → Prop} {i : Nat} (ho : ops[i]? = some ⟨none, p, T, pos, af, g⟩) (he : Ev' C.P ⟨none, p, T, pos, af, g⟩ l F H Q) (hr : runs ops l ⟨none, p, T, pos, af, g⟩ = some true)
    (hQ : ∀ v F' H', F.le F' → Q v F' H' → ∀ w, Sat F' H' w → Sat Fs Hs w)
    (h : ∀ v F' H', F.le F' → Q v F' H' → JA C (Sat Fs Hs) ops fuel (listed.setIfInBounds i true) k l F' H') : JA1 C (Sat Fs Hs) ops fuel listed i k l F H := by
  unfold JA at h
  unfold JA1
  intro hS a w ha hm hs
  unfold wpOp
  rw [ho]
  dsimp only
  rw [if_pos (runs_wanted hr ha)]
  left
  obtain ⟨nx, w', v, F', H', hrun, hv, hmw, hF, hq, hs'⟩ := he.out _ a w ha hs
  have hS' := hQ v F' H' hF hq
  unfold Oper.wp
  rw [hrun]
  rcases hv with rfl | ⟨rfl, rfl⟩
  · exact ⟨hS' w' hs', h v F' H' hF hq hS' _ w' (ha.put_none v) (hm.trans hmw) hs'⟩
  · exact ⟨hS' w' hs', h undef F' H' hF hq hS' _ w' (ha.put_none undef) (hm.trans hmw) hs'⟩
/-- A call stands next. -/
theorem aC {f : FuncId} {args : List Operand} {tys : Array TypeId} {vs : List Value} {Hc Hr : List Asrt} {Q : Value → PH → List Asrt → Prop} {i : Nat}
    (ho : ops[i]? = some ⟨some d, .call { callee := .value (.func f), args := args.toArray, argTypes := tys }, T, pos, af, g⟩) (sp : Spec C.P f vs F Hc Q) (hc : ∀ args w, (callFunc f args).run C.P w = .ok (.enter f args) w) (hv : opvs l args = some vs)
    (hr : runs ops l ⟨some d, .call { callee := .value (.func f), args := args.toArray, argTypes := tys }, T, pos, af, g⟩ = some true) (hN : Nat.blt d C.N = true)
    (hp : ∀ w, Sat F H w → Sat F (Hc ++ Hr) w) (hQ : ∀ v F' H', F.le F' → Q v F' H' → ∀ w, Sat F' (H' ++ Hr) w → Sat Fs Hs w)
    (h : ∀ v F' H', F.le F' → Q v F' H' → JA C (Sat Fs Hs) ops fuel (listed.setIfInBounds i true) k ((d, v) :: l) F' (H' ++ Hr)) : JA1 C (Sat Fs Hs) ops fuel listed i k l F H := by
  unfold JA at h
  unfold JA1
  intro hS a w ha hm hs
  have hd : d < C.N := Nat.le_of_ble_eq_true hN
  unfold wpOp
  rw [ho]
  dsimp only
  rw [if_pos (runs_wanted hr ha)]
  left
  unfold Oper.wp
  have he : args.toArray.map a.eval = vs.toArray := by rw [← ha.opvs hv]; simp
  have hrun : (execOp a.eval ⟨some d, .call { callee := .value (.func f), args := args.toArray, argTypes := tys }, T, pos, af, g⟩).run C.P w = .ok (.enter f vs.toArray) w := by
    unfold execOp
    simp only [resolve, Act.eval, Deferred.ofValue, invoke]
    simp only [Array.append_empty, pure_bind, ← he]
    simp [hc]
  rw [hrun]
  simp only [Oper.upon_enter]
  refine (sp.out Hr w (hp w hs)).mono ?_
  rintro e w' ⟨v, F', H', rfl, hF, hq, hmw, hs'⟩
  have hS' := hQ v F' H' hF hq
  exact ⟨hS' w' hs', h v F' H' hF hq hS' _ w' (ha.put hd v) (hm.trans hmw) hs'⟩
end
attribute [irreducible] JA JA1
end Go.Proofs.YtekdmpbkcjjllaaDoor
