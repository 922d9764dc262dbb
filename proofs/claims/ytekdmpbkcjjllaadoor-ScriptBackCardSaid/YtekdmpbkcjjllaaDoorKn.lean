/-
  Where ways of a walk meet again; signed shifts to the right. Plain theorems over any program; no condition.
-/
import Derived.Test.YtekdmpbkcjjllaaDoorKm
namespace Go.Proofs.YtekdmpbkcjjllaaDoor
open Go.RowKit
section
variable {C : Ctx} {k : List KItem} {l : Env} {F : PH} {H : List Asrt}
theorem kpost_again {G : Act → World → Prop} (hG : ∀ a w, G a w → kpost C k .normal a w) : ∀ (pre : List KItem) (e : Exit) (a : Act) (w : World), kpost C (pre ++ .again G :: k) e a w → kpost C (pre ++ k) e a w
  | [], e, a, w, h => by
    cases e with
    | normal => exact hG a w h
    | _ => exact h
  | .code c :: pre, e, a, w, h => by
    cases e with
    | normal => exact wp_mono h fun e a w he => kpost_again hG pre e a w he
    | _ => exact kpost_again hG pre _ a w h
  | .blk id :: pre, e, a, w, h => by
    cases e with
    | normal => exact kpost_again hG pre _ a w h
    | exit id' =>
      show (if id' = id then kpost C (pre ++ k) .normal a w else kpost C (pre ++ k) (.exit id') a w)
      have h' : (if id' = id then kpost C (pre ++ .again G :: k) .normal a w else kpost C (pre ++ .again G :: k) (.exit id') a w) := h
      split
      · rename_i e; rw [if_pos e] at h'; exact kpost_again hG pre _ a w h'
      · rename_i e; rw [if_neg e] at h'; exact kpost_again hG pre _ a w h'
    | _ => exact kpost_again hG pre _ a w h
  | .again G' :: pre, e, a, w, h => by
    cases e with
    | normal => exact h
    | _ => exact kpost_again hG pre _ a w h
def Join (C : Ctx) {ι : Type} (inv : ι → Prop) (L : ι → Env) (G : ι → PH) (K : ι → List Asrt) (a : Act) (w : World) : Prop := ∃ i, inv i ∧ Holds C.N (L i) a ∧ Mild C.w0 w ∧ Sat (G i) (K i) w
/-- However the items 'pre' are gone through: behind them the state is one of L, G, K. -/
theorem J_join {ι : Type} (pre : List KItem) (inv : ι → Prop) (L : ι → Env) (G : ι → PH) (K : ι → List Asrt) (h : J C (pre ++ .again (Join C inv L G K) :: k) l F H) (h2 : ∀ i, inv i → J C k (L i) (G i) (K i)) : J C (pre ++ k) l F H := by
  unfold J at h h2 ⊢
  exact fun a w ha hm hs => kpost_again (fun a w ⟨i, hi, ha, hm, hs⟩ => h2 i hi a w ha hm hs) pre _ a w (h a w ha hm hs)
theorem J_joined {ι : Type} {inv : ι → Prop} {L : ι → Env} {G : ι → PH} {K : ι → List Asrt} (i : ι) (hi : inv i) (he : Ent l F H (L i) (G i) (K i)) : J C (.again (Join C inv L G K) :: k) l F H := by
  unfold J
  exact fun a w ha hm hs => ⟨i, hi, ha.sub he.env, hm, he.sat w hs⟩
/-- A row of two, laid open. -/
theorem J_open {x y z : Code} (h : J C (.code x :: .code y :: .code z :: k) l F H) : J C (.code x :: .code (.seq y z) :: k) l F H := by
  unfold J at h ⊢
  intro a w ha hm hs
  refine wp_mono (h a w ha hm hs) fun e a w he => ?_
  cases e with
  | normal => exact wp_seq (wp_mono he fun e a w he => by cases e <;> exact he)
  | _ => exact he
end
section
variable {P : Program} {l : Env} {F : PH} {H : List Asrt} {d : Option Nat} {T T' U : TypeId} {pos : String} {af : Array Edge} {g : Option (Nat × Bool)} {x y : Operand}
theorem ev_sshr {k k' : IntKind} {m r : Int} {n : Nat} (hx : opv l x = some (.int k m)) (hy : opv l y = some (.int k' (n : Int))) (hr : m / 2 ^ (min n k.bits) = r) : Ev P ⟨d, .binOp .shr T x y T', U, pos, af, g⟩ l F H (.int k r) := .of fun ρ hρ w _ => by
  have e1 := hρ _ _ hx; have e2 := hρ _ _ hy
  refine run_v (s := do eqGuard .shr T x y (ρ x) (ρ y); binOp .shr T (ρ x) (ρ y)) ?_
  rw [e1, e2]
  have h0 : ¬ (n : Int) < 0 := by omega
  have key : m.fdiv (2 ^ (min n k.bits)) = r := by
    rw [← hr]
    exact Int.fdiv_eq_ediv_of_nonneg _ (Int.pow_nonneg (by omega))
  rw [← key]
  simp [eqGuard, binOp, Op.shift, go_sem]
end
end Go.Proofs.YtekdmpbkcjjllaaDoor
