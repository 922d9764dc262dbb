/-
  The frame's slots as a list, the judgement J on what is left to run, the rules of control. Plain theorems over any program; no condition.
-/
import Derived.Test.YtekdmpbkcjjllaaDoorKa
import Derived.Deep.LoopGhost
namespace Go.Proofs.YtekdmpbkcjjllaaDoor
open Go.RowKit

abbrev Env := List (Nat × Value)
def Env.get : Env → Nat → Option Value
  | [], _ => none
  | (s, v) :: r, t => match Nat.beq s t with | true => some v | false => Env.get r t
def Env.sub : Env → Env → Prop
  | [], _ => True
  | (s, v) :: r, l => l.get s = some v ∧ Env.sub r l
theorem Env.get_cons (s : Nat) (v : Value) (r : Env) (t : Nat) : Env.get ((s, v) :: r) t = if s = t then some v else Env.get r t := by
  show (match Nat.beq s t with | true => some v | false => Env.get r t) = _
  by_cases h : s = t
  · subst h; simp
  · have : Nat.beq s t = false := by cases hb : Nat.beq s t with | false => rfl | true => exact absurd (Nat.eq_of_beq_eq_true hb) h
    rw [this]; simp [h]
theorem Env.sub_get : ∀ {l' l : Env}, l'.sub l → ∀ t v, l'.get t = some v → l.get t = some v
  | [], _, _, t, v, h => by cases h
  | (s, u) :: r, l, ⟨h1, h2⟩, t, v, h => by
    rw [Env.get_cons] at h
    split at h
    · rename_i e; subst e; cases h; exact h1
    · exact Env.sub_get h2 t v h

def opv (l : Env) : Operand → Option Value
  | .tmp t => l.get t
  | .const v => some v
  | .func f => some (.func (.func f) #[] #[])
  | .global g => some (.pointer (some ⟨g, 0, none⟩))
def opvs (l : Env) : List Operand → Option (List Value)
  | [] => some []
  | x :: r => match opv l x with
    | none => none
    | some v => match opvs l r with
      | none => none
      | some vs => some (v :: vs)

structure Holds (N : Nat) (l : Env) (a : Act) : Prop where
  size : a.tmps.size = N
  defers : a.defers = []
  val : ∀ t v, l.get t = some v → a.tmps.getD t undef = v
theorem Holds.opv {N : Nat} {l : Env} {a : Act} (h : Holds N l a) {x : Operand} {v : Value} (e : opv l x = some v) : a.eval x = v := by
  cases x with
  | tmp t => exact h.val t v e
  | const u => cases e; rfl
  | global g => cases e; rfl
  | func f => cases e; rfl
theorem Holds.opvs {N : Nat} {l : Env} {a : Act} (h : Holds N l a) : ∀ {xs : List Operand} {vs : List Value}, opvs l xs = some vs → xs.map a.eval = vs
  | [], vs, e => by cases e; rfl
  | x :: r, vs, e => by
    unfold Go.Proofs.YtekdmpbkcjjllaaDoor.opvs at e
    cases h1 : Go.Proofs.YtekdmpbkcjjllaaDoor.opv l x with
    | none => simp [h1] at e
    | some v =>
      cases h2 : Go.Proofs.YtekdmpbkcjjllaaDoor.opvs l r with
      | none => simp [h1, h2] at e
      | some vs' =>
        simp [h1, h2] at e
        subst e
        simp [h.opv h1, h.opvs h2]
theorem Holds.sub {N : Nat} {l l' : Env} {a : Act} (h : Holds N l a) (s : l'.sub l) : Holds N l' a := ⟨h.size, h.defers, fun t v e => h.val t v (Env.sub_get s t v e)⟩
theorem Holds.put {N : Nat} {l : Env} {a : Act} (h : Holds N l a) {d : Nat} (hd : d < N) (v : Value) : Holds N ((d, v) :: l) (a.put (some d) v) := by
  refine ⟨by simp [Act.put, h.size], by simp [Act.put, h.defers], fun t u e => ?_⟩
  rw [Env.get_cons] at e
  have hs := h.size
  simp only [Act.put]
  split at e
  · rename_i hdt; subst hdt; cases e
    simp [Array.getD_eq_getD_getElem?, Array.getElem?_setIfInBounds, hs, hd]
  · rename_i hdt
    have := h.val t u e
    rw [← this]
    simp [Array.getD_eq_getD_getElem?, Array.getElem?_setIfInBounds, hdt]
theorem Holds.put_none {N : Nat} {l : Env} {a : Act} (h : Holds N l a) (v : Value) : Holds N l (a.put none v) := h
def Env.put (l : Env) : Option Nat → Value → Env
  | some d, v => (d, v) :: l
  | none, _ => l
theorem Holds.puts {N : Nat} {l : Env} {a : Act} (h : Holds N l a) {d : Option Nat} (hd : d.all (· < N) = true) (v : Value) : Holds N (l.put d v) (a.put d v) := by
  cases d with
  | none => exact h.put_none v
  | some d => exact h.put (by simpa using hd) v

/-- What is left to run. -/
inductive KItem where
  | code (c : Code)
  | blk (id : Nat)
  | again (G : Act → World → Prop)
structure Ctx where
  P : Program
  fn : Func
  R : Ending → World → Prop
  N : Nat
  w0 : World
def kpost (C : Ctx) : List KItem → Exit → Act → World → Prop
  | [], e, a, w => bodyPost C.P C.fn C.R e a w
  | .code c :: k, .normal, a, w => c.wp C.P (kpost C k) a w
  | .code _ :: k, e, a, w => kpost C k e a w
  | .blk id :: k, .normal, a, w => kpost C k .normal a w
  | .blk id :: k, .exit id', a, w => if id' = id then kpost C k .normal a w else kpost C k (.exit id') a w
  | .blk _ :: k, e, a, w => kpost C k e a w
  | .again G :: k, .normal, a, w => G a w
  | .again _ :: k, e, a, w => kpost C k e a w

/-- From any state that fits: the rest runs to its end, and C's post holds there. -/
def J (C : Ctx) (k : List KItem) (l : Env) (F : PH) (H : List Asrt) : Prop :=
  ∀ a w, Holds C.N l a → Mild C.w0 w → Sat F H w → kpost C k .normal a w
/-- The same in the midst of a region. -/
def JO (C : Ctx) (ops : Array Oper) (rest : List Oper) (k : List KItem) (l : Env) (F : PH) (H : List Asrt) : Prop :=
  rest.all (fun o => o.dst.all (· < C.N)) = true → ∀ a w, Holds C.N l a → Mild C.w0 w → Sat F H w → wpList C.P ops (kpost C k) rest a w

section
variable {C : Ctx} {k : List KItem} {l l' : Env} {F F' : PH} {H H' : List Asrt}
theorem J_keep (l' : Env) (h : J C k l' F H) (s : l'.sub l) : J C k l F H := fun a w ha hm hs => h a w (ha.sub s) hm hs
theorem J_weak (h : J C k l F' H') (s : ∀ w, Sat F H w → Sat F' H' w) : J C k l F H := fun a w ha hm hs => h a w ha hm (s w hs)
theorem J_persist {A : Asrt} (h : ∀ h', A h' → F.dj h' → J C k l (F.un h') H) : J C k l F (A :: H) := fun a w ha hm hs => by
  obtain ⟨h', hA, hd, hs'⟩ := hs.persist
  exact h h' hA hd a w ha hm hs'
theorem J_pick {A : Asrt} {K : List Asrt} (p : Pick A H K) (h : J C k l F (A :: K)) : J C k l F H := J_weak h fun _ s => s.pick p
theorem J_drop {A : Asrt} (h : J C k l F H) : J C k l F (A :: H) := J_weak h fun _ s => s.drop
theorem J_seq {x y : Code} (h : J C (.code x :: .code y :: k) l F H) : J C (.code (.seq x y) :: k) l F H := fun a w ha hm hs => by
  have h1 := h a w ha hm hs
  exact wp_seq (wp_mono h1 fun e a w he => by cases e <;> exact he)
theorem J_skip (h : J C k l F H) : J C (.code .skip :: k) l F H := fun a w ha hm hs => wp_skip (h a w ha hm hs)
theorem J_label {n : Nat} (h : J C k l F H) : J C (.code (.label n) :: k) l F H := fun a w ha hm hs => wp_label (h a w ha hm hs)
theorem J_blk {id : Nat} (h : J C k l F H) : J C (.blk id :: k) l F H := h
theorem J_block {id : Nat} {c : Code} (h : J C (.code c :: .blk id :: k) l F H) : J C (.code (.block id c) :: k) l F H := fun a w ha hm hs =>
  wp_block (wp_mono (h a w ha hm hs) fun e a w he => by cases e <;> exact he)
def kexit (id : Nat) : List KItem → Option (List KItem)
  | [] => none
  | .blk i :: k => match Nat.beq id i with | true => some k | false => kexit id k
  | _ :: k => kexit id k
theorem kpost_exit {id : Nat} {a : Act} {w : World} : ∀ {k k' : List KItem}, kexit id k = some k' → kpost C k' .normal a w → kpost C k (.exit id) a w
  | [], k', h, _ => by cases h
  | .code c :: k, k', h, g => kpost_exit (k := k) h g
  | .again G :: k, k', h, g => kpost_exit (k := k) h g
  | .blk i :: k, k', h, g => by
    unfold kexit at h
    unfold kpost
    cases hb : Nat.beq id i with
    | true => rw [hb] at h; cases h; rw [if_pos (Nat.eq_of_beq_eq_true hb)]; exact g
    | false =>
      rw [hb] at h
      rw [if_neg (fun e => by subst e; simp at hb)]
      exact kpost_exit (k := k) h g
theorem J_exit {id : Nat} {k' : List KItem} (e : kexit id k = some k') (h : J C k' l F H) : J C (.code (.exit id) :: k) l F H := fun a w ha hm hs =>
  wp_exit (kpost_exit e (h a w ha hm hs))
theorem kpost_ret {a : Act} {w : World} : ∀ {k : List KItem}, bodyPost C.P C.fn C.R .ret a w → kpost C k .ret a w
  | [], h => h
  | .code _ :: k, h => kpost_ret (k := k) h
  | .again _ :: k, h => kpost_ret (k := k) h
  | .blk _ :: k, h => kpost_ret (k := k) h
theorem J_cond {c : Operand} {x y : Code} {b : Bool} (hc : opv l c = some (.bool b)) (ht : b = true → J C (.code x :: k) l F H) (hf : b = false → J C (.code y :: k) l F H) :
    J C (.code (.cond c x y) :: k) l F H := fun a w ha hm hs =>
  wp_cond_split (ha.opv hc) (fun e => ht e a w ha hm hs) (fun e => hf e a w ha hm hs)
theorem J_cond_t {c : Operand} {x y : Code} (hc : opv l c = some (.bool true)) (ht : J C (.code x :: k) l F H) : J C (.code (.cond c x y) :: k) l F H :=
  J_cond hc (fun _ => ht) (fun e => by cases e)
theorem J_cond_f {c : Operand} {x y : Code} (hc : opv l c = some (.bool false)) (hf : J C (.code y :: k) l F H) : J C (.code (.cond c x y) :: k) l F H :=
  J_cond hc (fun e => by cases e) (fun _ => hf)
/-- A test on a proposition. -/
theorem J_if {c : Operand} {x y : Code} {p : Prop} [Decidable p] (hc : opv l c = some (.bool (decide p))) (ht : p → J C (.code x :: k) l F H) (hf : ¬ p → J C (.code y :: k) l F H) :
    J C (.code (.cond c x y) :: k) l F H := J_cond hc (fun e => ht (of_decide_eq_true e)) (fun e => hf (of_decide_eq_false e))
theorem J_if_not {c : Operand} {x y : Code} {p : Prop} [Decidable p] (hc : opv l c = some (.bool (!decide p))) (ht : ¬ p → J C (.code x :: k) l F H) (hf : p → J C (.code y :: k) l F H) :
    J C (.code (.cond c x y) :: k) l F H := J_cond hc (fun e => ht (by simpa using e)) (fun e => hf (by simpa using e))
/-- The state at a loop's head, by an index. -/
structure Ent (l : Env) (F : PH) (H : List Asrt) (l' : Env) (F' : PH) (H' : List Asrt) : Prop where
  env : l'.sub l
  sat : ∀ w, Sat F H w → Sat F' H' w
def Again (C : Ctx) {ι : Type} (inv : ι → Prop) (μ : ι → Nat) (l : ι → Env) (F : ι → PH) (H : ι → List Asrt) (m : Nat) (a : Act) (w : World) : Prop :=
  ∃ i, inv i ∧ μ i < m ∧ Holds C.N (l i) a ∧ Mild C.w0 w ∧ Sat (F i) (H i) w
theorem J_loop {ι : Type} {c : Code} (inv : ι → Prop) (μ : ι → Nat) (L : ι → Env) (G : ι → PH) (K : ι → List Asrt) (i0 : ι) (hi : inv i0) (he : Ent l F H (L i0) (G i0) (K i0))
    (round : ∀ i, inv i → J C (.code c :: .again (Again C inv μ L G K (μ i)) :: k) (L i) (G i) (K i)) : J C (.code (.loop c) :: k) l F H := fun a w ha hm hs => by
  refine wp_loop_ghost (Q := kpost C k) (fun n a w => ∃ i, inv i ∧ μ i = n ∧ Holds C.N (L i) a ∧ Mild C.w0 w ∧ Sat (G i) (K i) w) (μ i0) ⟨i0, hi, rfl, ha.sub he.env, hm, he.sat w hs⟩ ?_
  rintro n a w ⟨i, hinv, rfl, ha', hmw, hsw⟩
  refine wp_mono (round i hinv a w ha' hmw hsw) fun e a1 w1 he1 => ?_
  cases e with
  | normal =>
    obtain ⟨j, hj, hlt, hh⟩ : Again C inv μ L G K (μ i) a1 w1 := he1
    exact show ∃ n', n' < μ i ∧ _ from ⟨μ j, hlt, j, hj, rfl, hh⟩
  | exit id => exact he1
  | goto n => exact he1
  | ret => exact he1
  | panic ch => exact he1
  | outgrown => exact he1
theorem J_again {ι : Type} {inv : ι → Prop} {μ : ι → Nat} {L : ι → Env} {G : ι → PH} {K : ι → List Asrt} {m : Nat} (i : ι) (hi : inv i) (hlt : μ i < m) (he : Ent l F H (L i) (G i) (K i)) :
    J C (.again (Again C inv μ L G K m) :: k) l F H := fun a w ha hm hs => ⟨i, hi, hlt, ha.sub he.env, hm, he.sat w hs⟩

def Again2 (C : Ctx) {α1 α2 : Type} (inv : α1 → α2 → Prop) (μ : α1 → α2 → Nat) (l : α1 → α2 → Env) (F : α1 → α2 → PH) (H : α1 → α2 → List Asrt) (m : Nat) (a : Act) (w : World) : Prop :=
  ∃ x1 x2, inv x1 x2 ∧ μ x1 x2 < m ∧ Holds C.N (l x1 x2) a ∧ Mild C.w0 w ∧ Sat (F x1 x2) (H x1 x2) w
theorem J_loop2 {α1 α2 : Type} {c : Code} (inv : α1 → α2 → Prop) (μ : α1 → α2 → Nat) (L : α1 → α2 → Env) (G : α1 → α2 → PH) (K : α1 → α2 → List Asrt) (i1 : α1) (i2 : α2) (hi : inv i1 i2) (he : Ent l F H (L i1 i2) (G i1 i2) (K i1 i2))
    (round : ∀ x1 x2, inv x1 x2 → J C (.code c :: .again (Again2 C inv μ L G K (μ x1 x2)) :: k) (L x1 x2) (G x1 x2) (K x1 x2)) : J C (.code (.loop c) :: k) l F H := fun a w ha hm hs => by
  refine wp_loop_ghost (Q := kpost C k) (fun n a w => ∃ x1 x2, inv x1 x2 ∧ μ x1 x2 = n ∧ Holds C.N (L x1 x2) a ∧ Mild C.w0 w ∧ Sat (G x1 x2) (K x1 x2) w) (μ i1 i2) ⟨i1, i2, hi, rfl, ha.sub he.env, hm, he.sat w hs⟩ ?_
  rintro n a w ⟨x1, x2, hinv, rfl, ha', hmw, hsw⟩
  refine wp_mono (round x1 x2 hinv a w ha' hmw hsw) fun e a1 w1 he1 => ?_
  cases e with
  | normal =>
    obtain ⟨y1, y2, hj, hlt, hh⟩ : Again2 C inv μ L G K (μ x1 x2) a1 w1 := he1
    exact show ∃ n', n' < μ x1 x2 ∧ _ from ⟨_, hlt, y1, y2, hj, rfl, hh⟩
  | exit id => exact he1
  | goto n => exact he1
  | ret => exact he1
  | panic ch => exact he1
  | outgrown => exact he1
theorem J_again2 {α1 α2 : Type} {inv : α1 → α2 → Prop} {μ : α1 → α2 → Nat} {L : α1 → α2 → Env} {G : α1 → α2 → PH} {K : α1 → α2 → List Asrt} {m : Nat} (x1 : α1) (x2 : α2) (hi : inv x1 x2) (hlt : μ x1 x2 < m) (he : Ent l F H (L x1 x2) (G x1 x2) (K x1 x2)) :
    J C (.again (Again2 C inv μ L G K m) :: k) l F H := fun a w ha hm hs => ⟨x1, x2, hi, hlt, ha.sub he.env, hm, he.sat w hs⟩

def Again3 (C : Ctx) {α1 α2 α3 : Type} (inv : α1 → α2 → α3 → Prop) (μ : α1 → α2 → α3 → Nat) (l : α1 → α2 → α3 → Env) (F : α1 → α2 → α3 → PH) (H : α1 → α2 → α3 → List Asrt) (m : Nat) (a : Act) (w : World) : Prop :=
  ∃ x1 x2 x3, inv x1 x2 x3 ∧ μ x1 x2 x3 < m ∧ Holds C.N (l x1 x2 x3) a ∧ Mild C.w0 w ∧ Sat (F x1 x2 x3) (H x1 x2 x3) w
theorem J_loop3 {α1 α2 α3 : Type} {c : Code} (inv : α1 → α2 → α3 → Prop) (μ : α1 → α2 → α3 → Nat) (L : α1 → α2 → α3 → Env) (G : α1 → α2 → α3 → PH) (K : α1 → α2 → α3 → List Asrt) (i1 : α1) (i2 : α2) (i3 : α3) (hi : inv i1 i2 i3) (he : Ent l F H (L i1 i2 i3) (G i1 i2 i3) (K i1 i2 i3))
    (round : ∀ x1 x2 x3, inv x1 x2 x3 → J C (.code c :: .again (Again3 C inv μ L G K (μ x1 x2 x3)) :: k) (L x1 x2 x3) (G x1 x2 x3) (K x1 x2 x3)) : J C (.code (.loop c) :: k) l F H := fun a w ha hm hs => by
  refine wp_loop_ghost (Q := kpost C k) (fun n a w => ∃ x1 x2 x3, inv x1 x2 x3 ∧ μ x1 x2 x3 = n ∧ Holds C.N (L x1 x2 x3) a ∧ Mild C.w0 w ∧ Sat (G x1 x2 x3) (K x1 x2 x3) w) (μ i1 i2 i3) ⟨i1, i2, i3, hi, rfl, ha.sub he.env, hm, he.sat w hs⟩ ?_
  rintro n a w ⟨x1, x2, x3, hinv, rfl, ha', hmw, hsw⟩
  refine wp_mono (round x1 x2 x3 hinv a w ha' hmw hsw) fun e a1 w1 he1 => ?_
  cases e with
  | normal =>
    obtain ⟨y1, y2, y3, hj, hlt, hh⟩ : Again3 C inv μ L G K (μ x1 x2 x3) a1 w1 := he1
    exact show ∃ n', n' < μ x1 x2 x3 ∧ _ from ⟨_, hlt, y1, y2, y3, hj, rfl, hh⟩
  | exit id => exact he1
  | goto n => exact he1
  | ret => exact he1
  | panic ch => exact he1
  | outgrown => exact he1
theorem J_again3 {α1 α2 α3 : Type} {inv : α1 → α2 → α3 → Prop} {μ : α1 → α2 → α3 → Nat} {L : α1 → α2 → α3 → Env} {G : α1 → α2 → α3 → PH} {K : α1 → α2 → α3 → List Asrt} {m : Nat} (x1 : α1) (x2 : α2) (x3 : α3) (hi : inv x1 x2 x3) (hlt : μ x1 x2 x3 < m) (he : Ent l F H (L x1 x2 x3) (G x1 x2 x3) (K x1 x2 x3)) :
    J C (.again (Again3 C inv μ L G K m) :: k) l F H := fun a w ha hm hs => ⟨x1, x2, x3, hi, hlt, ha.sub he.env, hm, he.sat w hs⟩

def Again4 (C : Ctx) {α1 α2 α3 α4 : Type} (inv : α1 → α2 → α3 → α4 → Prop) (μ : α1 → α2 → α3 → α4 → Nat) (l : α1 → α2 → α3 → α4 → Env) (F : α1 → α2 → α3 → α4 → PH) (H : α1 → α2 → α3 → α4 → List Asrt) (m : Nat) (a : Act) (w : World) : Prop :=
  ∃ x1 x2 x3 x4, inv x1 x2 x3 x4 ∧ μ x1 x2 x3 x4 < m ∧ Holds C.N (l x1 x2 x3 x4) a ∧ Mild C.w0 w ∧ Sat (F x1 x2 x3 x4) (H x1 x2 x3 x4) w
theorem J_loop4 {α1 α2 α3 α4 : Type} {c : Code} (inv : α1 → α2 → α3 → α4 → Prop) (μ : α1 → α2 → α3 → α4 → Nat) (L : α1 → α2 → α3 → α4 → Env) (G : α1 → α2 → α3 → α4 → PH) (K : α1 → α2 → α3 → α4 → List Asrt) (i1 : α1) (i2 : α2) (i3 : α3) (i4 : α4) (hi : inv i1 i2 i3 i4) (he : Ent l F H (L i1 i2 i3 i4) (G i1 i2 i3 i4) (K i1 i2 i3 i4))
    (round : ∀ x1 x2 x3 x4, inv x1 x2 x3 x4 → J C (.code c :: .again (Again4 C inv μ L G K (μ x1 x2 x3 x4)) :: k) (L x1 x2 x3 x4) (G x1 x2 x3 x4) (K x1 x2 x3 x4)) : J C (.code (.loop c) :: k) l F H := fun a w ha hm hs => by
  refine wp_loop_ghost (Q := kpost C k) (fun n a w => ∃ x1 x2 x3 x4, inv x1 x2 x3 x4 ∧ μ x1 x2 x3 x4 = n ∧ Holds C.N (L x1 x2 x3 x4) a ∧ Mild C.w0 w ∧ Sat (G x1 x2 x3 x4) (K x1 x2 x3 x4) w) (μ i1 i2 i3 i4) ⟨i1, i2, i3, i4, hi, rfl, ha.sub he.env, hm, he.sat w hs⟩ ?_
  rintro n a w ⟨x1, x2, x3, x4, hinv, rfl, ha', hmw, hsw⟩
  refine wp_mono (round x1 x2 x3 x4 hinv a w ha' hmw hsw) fun e a1 w1 he1 => ?_
  cases e with
  | normal =>
    obtain ⟨y1, y2, y3, y4, hj, hlt, hh⟩ : Again4 C inv μ L G K (μ x1 x2 x3 x4) a1 w1 := he1
    exact show ∃ n', n' < μ x1 x2 x3 x4 ∧ _ from ⟨_, hlt, y1, y2, y3, y4, hj, rfl, hh⟩
  | exit id => exact he1
  | goto n => exact he1
  | ret => exact he1
  | panic ch => exact he1
  | outgrown => exact he1
theorem J_again4 {α1 α2 α3 α4 : Type} {inv : α1 → α2 → α3 → α4 → Prop} {μ : α1 → α2 → α3 → α4 → Nat} {L : α1 → α2 → α3 → α4 → Env} {G : α1 → α2 → α3 → α4 → PH} {K : α1 → α2 → α3 → α4 → List Asrt} {m : Nat} (x1 : α1) (x2 : α2) (x3 : α3) (x4 : α4) (hi : inv x1 x2 x3 x4) (hlt : μ x1 x2 x3 x4 < m) (he : Ent l F H (L x1 x2 x3 x4) (G x1 x2 x3 x4) (K x1 x2 x3 x4)) :
    J C (.again (Again4 C inv μ L G K m) :: k) l F H := fun a w ha hm hs => ⟨x1, x2, x3, x4, hi, hlt, ha.sub he.env, hm, he.sat w hs⟩

def Again5 (C : Ctx) {α1 α2 α3 α4 α5 : Type} (inv : α1 → α2 → α3 → α4 → α5 → Prop) (μ : α1 → α2 → α3 → α4 → α5 → Nat) (l : α1 → α2 → α3 → α4 → α5 → Env) (F : α1 → α2 → α3 → α4 → α5 → PH) (H : α1 → α2 → α3 → α4 → α5 → List Asrt) (m : Nat) (a : Act) (w : World) : Prop :=
  ∃ x1 x2 x3 x4 x5, inv x1 x2 x3 x4 x5 ∧ μ x1 x2 x3 x4 x5 < m ∧ Holds C.N (l x1 x2 x3 x4 x5) a ∧ Mild C.w0 w ∧ Sat (F x1 x2 x3 x4 x5) (H x1 x2 x3 x4 x5) w
theorem J_loop5 {α1 α2 α3 α4 α5 : Type} {c : Code} (inv : α1 → α2 → α3 → α4 → α5 → Prop) (μ : α1 → α2 → α3 → α4 → α5 → Nat) (L : α1 → α2 → α3 → α4 → α5 → Env) (G : α1 → α2 → α3 → α4 → α5 → PH) (K : α1 → α2 → α3 → α4 → α5 → List Asrt) (i1 : α1) (i2 : α2) (i3 : α3) (i4 : α4) (i5 : α5) (hi : inv i1 i2 i3 i4 i5) (he : Ent l F H (L i1 i2 i3 i4 i5) (G i1 i2 i3 i4 i5) (K i1 i2 i3 i4 i5))
    (round : ∀ x1 x2 x3 x4 x5, inv x1 x2 x3 x4 x5 → J C (.code c :: .again (Again5 C inv μ L G K (μ x1 x2 x3 x4 x5)) :: k) (L x1 x2 x3 x4 x5) (G x1 x2 x3 x4 x5) (K x1 x2 x3 x4 x5)) : J C (.code (.loop c) :: k) l F H := fun a w ha hm hs => by
  refine wp_loop_ghost (Q := kpost C k) (fun n a w => ∃ x1 x2 x3 x4 x5, inv x1 x2 x3 x4 x5 ∧ μ x1 x2 x3 x4 x5 = n ∧ Holds C.N (L x1 x2 x3 x4 x5) a ∧ Mild C.w0 w ∧ Sat (G x1 x2 x3 x4 x5) (K x1 x2 x3 x4 x5) w) (μ i1 i2 i3 i4 i5) ⟨i1, i2, i3, i4, i5, hi, rfl, ha.sub he.env, hm, he.sat w hs⟩ ?_
  rintro n a w ⟨x1, x2, x3, x4, x5, hinv, rfl, ha', hmw, hsw⟩
  refine wp_mono (round x1 x2 x3 x4 x5 hinv a w ha' hmw hsw) fun e a1 w1 he1 => ?_
  cases e with
  | normal =>
    obtain ⟨y1, y2, y3, y4, y5, hj, hlt, hh⟩ : Again5 C inv μ L G K (μ x1 x2 x3 x4 x5) a1 w1 := he1
    exact show ∃ n', n' < μ x1 x2 x3 x4 x5 ∧ _ from ⟨_, hlt, y1, y2, y3, y4, y5, hj, rfl, hh⟩
  | exit id => exact he1
  | goto n => exact he1
  | ret => exact he1
  | panic ch => exact he1
  | outgrown => exact he1
theorem J_again5 {α1 α2 α3 α4 α5 : Type} {inv : α1 → α2 → α3 → α4 → α5 → Prop} {μ : α1 → α2 → α3 → α4 → α5 → Nat} {L : α1 → α2 → α3 → α4 → α5 → Env} {G : α1 → α2 → α3 → α4 → α5 → PH} {K : α1 → α2 → α3 → α4 → α5 → List Asrt} {m : Nat} (x1 : α1) (x2 : α2) (x3 : α3) (x4 : α4) (x5 : α5) (hi : inv x1 x2 x3 x4 x5) (hlt : μ x1 x2 x3 x4 x5 < m) (he : Ent l F H (L x1 x2 x3 x4 x5) (G x1 x2 x3 x4 x5) (K x1 x2 x3 x4 x5)) :
    J C (.again (Again5 C inv μ L G K m) :: k) l F H := fun a w ha hm hs => ⟨x1, x2, x3, x4, x5, hi, hlt, ha.sub he.env, hm, he.sat w hs⟩
/-! a region -/
theorem J_region {id : Nat} {ops : List Oper} (hd : ops.all (fun o => o.dst.all (· < C.N)) = true) (h : JO C ops.toArray ops k l F H) : J C (.code (.region id ops.toArray false) :: k) l F H := fun a w ha hm hs =>
  wp_region_list (h hd a w ha hm hs)
theorem JO_nil {ops : Array Oper} (h : J C k l F H) : JO C ops [] k l F H := fun _ a w ha hm hs => wpList_nil (h a w ha hm hs)
end

/-- One operation: a value, the world as it was. -/
def Ev (P : Program) (o : Oper) (l : Env) (F : PH) (H : List Asrt) (v : Value) : Prop :=
  ∀ N a w, Holds N l a → Sat F H w → (execOp a.eval o).run P w = .ok (.value v) w
/-- Is the operation carried out? -/
def runs (ops : Array Oper) (l : Env) (o : Oper) : Option Bool :=
  match o.guard with
  | none => some true
  | some (j, want) => match (ops[j]?).bind (·.dst) with
    | none => none
    | some d => match l.get d with
      | some (.bool b) => some (b == want)
      | some _ => some false
      | none => none
theorem runs_wanted {ops : Array Oper} {l : Env} {o : Oper} {N : Nat} {a : Act} {b : Bool} (h : runs ops l o = some b) (ha : Holds N l a) : Region.wanted o (yielded ops a.tmps) = b := by
  unfold runs at h
  unfold Region.wanted
  cases hg : o.guard with
  | none => rw [hg] at h; cases h; rfl
  | some g =>
    obtain ⟨j, want⟩ := g
    rw [hg] at h
    dsimp only at h ⊢
    cases hd : (ops[j]?).bind (·.dst) with
    | none => rw [hd] at h; cases h
    | some d =>
      rw [hd] at h
      dsimp only at h
      cases hv : l.get d with
      | none => rw [hv] at h; cases h
      | some v =>
        rw [hv] at h
        have h1 := ha.val d v hv
        unfold yielded
        rw [hd]
        simp only [Option.bind_some]
        rw [Array.getD_eq_getD_getElem?] at h1
        cases ht : a.tmps[d]? with
        | none =>
          rw [ht] at h1
          have h2 : v = undef := by rw [← h1]; rfl
          subst h2
          cases h
          rfl
        | some u =>
          rw [ht] at h1
          have h2 : u = v := h1
          subst h2
          cases u <;> cases h <;> rfl
section
variable {C : Ctx} {ops : Array Oper} {rest : List Oper} {k : List KItem} {l : Env} {F : PH} {H : List Asrt} {o : Oper}
theorem JO_put {v : Value} {a : Act} {w : World} (hd : (o :: rest).all (fun o => o.dst.all (· < C.N)) = true) (h : JO C ops rest k (l.put o.dst v) F H) (ha : Holds C.N l a) (hm : Mild C.w0 w) (hs : Sat F H w) :
    wpList C.P ops (kpost C k) rest (a.put o.dst v) w := by
  rw [List.all_cons, Bool.and_eq_true] at hd
  exact h hd.2 _ w (ha.puts hd.1 v) hm hs
theorem JO_ev {v : Value} (hr : runs ops l o = some true) (he : Ev C.P o l F H v) (h : JO C ops rest k (l.put o.dst v) F H) : JO C ops (o :: rest) k l F H := fun hd a w ha hm hs => by
  unfold wpList
  rw [if_pos (runs_wanted hr ha)]
  left
  have := he _ a w ha hs
  unfold Oper.wp
  rw [this]
  exact JO_put hd h ha hm hs
theorem JO_skip (hr : runs ops l o = some false) (h : JO C ops rest k (l.put o.dst undef) F H) : JO C ops (o :: rest) k l F H := fun hd a w ha hm hs => by
  unfold wpList
  rw [if_neg (by rw [runs_wanted hr ha]; decide)]
  exact JO_put hd h ha hm hs
theorem JO_s {d : Nat} {p : Op} {T : TypeId} {pos : String} {af : Array Edge} {g : Option (Nat × Bool)} {v : Value} (he : Ev C.P ⟨some d, p, T, pos, af, g⟩ l F H v) (hr : runs ops l ⟨some d, p, T, pos, af, g⟩ = some true)
    (h : JO C ops rest k ((d, v) :: l) F H) : JO C ops (⟨some d, p, T, pos, af, g⟩ :: rest) k l F H := JO_ev hr he h
theorem JO_sk {d : Nat} {p : Op} {T : TypeId} {pos : String} {af : Array Edge} {g : Option (Nat × Bool)} (hr : runs ops l ⟨some d, p, T, pos, af, g⟩ = some false)
    (h : JO C ops rest k ((d, undef) :: l) F H) : JO C ops (⟨some d, p, T, pos, af, g⟩ :: rest) k l F H := JO_skip hr h
theorem JO_skn {p : Op} {T : TypeId} {pos : String} {af : Array Edge} {g : Option (Nat × Bool)} (hr : runs ops l ⟨none, p, T, pos, af, g⟩ = some false)
    (h : JO C ops rest k l F H) : JO C ops (⟨none, p, T, pos, af, g⟩ :: rest) k l F H := JO_skip hr h

theorem JO_keep (l' : Env) (h : JO C ops rest k l' F H) (s : l'.sub l) : JO C ops rest k l F H := fun hd a w ha hm hs => h hd a w (ha.sub s) hm hs
theorem JO_weak {F' : PH} {H' : List Asrt} (h : JO C ops rest k l F' H') (s : ∀ w, Sat F H w → Sat F' H' w) : JO C ops rest k l F H := fun hd a w ha hm hs => h hd a w ha hm (s w hs)
theorem JO_pick {A : Asrt} {K : List Asrt} (p : Pick A H K) (h : JO C ops rest k l F (A :: K)) : JO C ops rest k l F H := JO_weak h fun _ s => s.pick p
theorem JO_persist {A : Asrt} (h : ∀ h', A h' → F.dj h' → JO C ops rest k l (F.un h') H) : JO C ops rest k l F (A :: H) := fun hd a w ha hm hs => by
  obtain ⟨h', hA, hdj, hs'⟩ := hs.persist
  exact h h' hA hdj hd a w ha hm hs'
/-- An operation that hands back a value in a world that has turned. -/
def Ev' (P : Program) (o : Oper) (l : Env) (F : PH) (H : List Asrt) (Q : Value → PH → List Asrt → Prop) : Prop :=
  ∀ N a w, Holds N l a → Sat F H w → ∃ nx w' v F' H', (execOp a.eval o).run P w = .ok nx w' ∧ (nx = .value v ∨ (nx = .skip ∧ v = undef)) ∧ Mild w w' ∧ F.le F' ∧ Q v F' H' ∧ Sat F' H' w'
theorem JO_ev' {Q : Value → PH → List Asrt → Prop} (hr : runs ops l o = some true) (he : Ev' C.P o l F H Q) (h : ∀ v F' H', F.le F' → Q v F' H' → JO C ops rest k (l.put o.dst v) F' H') : JO C ops (o :: rest) k l F H := fun hd a w ha hm hs => by
  unfold wpList
  rw [if_pos (runs_wanted hr ha)]
  left
  obtain ⟨nx, w', v, F', H', hrun, hv, hmw, hF, hq, hs'⟩ := he _ a w ha hs
  unfold Oper.wp
  rw [hrun]
  rcases hv with rfl | ⟨rfl, rfl⟩
  · exact JO_put hd (h v F' H' hF hq) ha (hm.trans hmw) hs'
  · exact JO_put hd (h undef F' H' hF hq) ha (hm.trans hmw) hs'

theorem JO_e {d : Nat} {p : Op} {T : TypeId} {pos : String} {af : Array Edge} {g : Option (Nat × Bool)} {Q : Value → PH → List Asrt → Prop} (he : Ev' C.P ⟨some d, p, T, pos, af, g⟩ l F H Q) (hr : runs ops l ⟨some d, p, T, pos, af, g⟩ = some true)
    (h : ∀ v F' H', F.le F' → Q v F' H' → JO C ops rest k ((d, v) :: l) F' H') : JO C ops (⟨some d, p, T, pos, af, g⟩ :: rest) k l F H := JO_ev' hr he h
theorem JO_en {p : Op} {T : TypeId} {pos : String} {af : Array Edge} {g : Option (Nat × Bool)} {Q : Value → PH → List Asrt → Prop} (he : Ev' C.P ⟨none, p, T, pos, af, g⟩ l F H Q) (hr : runs ops l ⟨none, p, T, pos, af, g⟩ = some true)
    (h : ∀ v F' H', F.le F' → Q v F' H' → JO C ops rest k l F' H') : JO C ops (⟨none, p, T, pos, af, g⟩ :: rest) k l F H := JO_ev' hr he h

/-! ### calls -/
/-- What a call does: whatever the memory beside it (X), it returns; what was never written (F) stays and may grow. -/
def Spec (P : Program) (f : FuncId) (args : List Value) (F : PH) (H : List Asrt) (Q : Value → PH → List Asrt → Prop) : Prop :=
  ∀ (X : List Asrt) (w : World), Sat F (H ++ X) w → Calls P f args.toArray w fun e w' => ∃ v F' H', e = .returned v ∧ F.le F' ∧ Q v F' H' ∧ Mild w w' ∧ Sat F' (H' ++ X) w'
theorem Spec.mono {P : Program} {f : FuncId} {args : List Value} {Q Q' : Value → PH → List Asrt → Prop} (h : Spec P f args F H Q) (hq : ∀ v F' H', F.le F' → Q v F' H' → Q' v F' H') : Spec P f args F H Q' := fun X w s =>
  (h X w s).mono fun _ _ ⟨v, F', H', he, hF, hQ, hm, hs⟩ => ⟨v, F', H', he, hF, hq v F' H' hF hQ, hm, hs⟩
/-- A call that only hands back a value. -/
def Pure (P : Program) (f : FuncId) (args : List Value) (F : PH) (v : Value) : Prop := Spec P f args F [] fun u _ H' => u = v ∧ H' = []
def Post (w0 : World) (F : PH) (X : List Asrt) (Q : Value → PH → List Asrt → Prop) (e : Ending) (w' : World) : Prop :=
  ∃ v F' H', e = .returned v ∧ F.le F' ∧ Q v F' H' ∧ Mild w0 w' ∧ Sat F' (H' ++ X) w'
def argEnv : Nat → List Value → Env
  | _, [] => []
  | n, v :: r => (n, v) :: argEnv (n + 1) r
theorem argEnv_get : ∀ (vs : List Value) (n t : Nat) (v : Value), (argEnv n vs).get t = some v → n ≤ t ∧ vs[t - n]? = some v
  | [], n, t, v, h => by cases h
  | u :: r, n, t, v, h => by
    unfold argEnv at h
    rw [Env.get_cons] at h
    split at h
    · rename_i e; subst e; cases h; simp
    · rename_i hne
      obtain ⟨h1, h2⟩ := argEnv_get r (n + 1) t v h
      refine ⟨by omega, ?_⟩
      obtain ⟨m, rfl⟩ : ∃ m, t = n + 1 + m := ⟨t - (n + 1), by omega⟩
      rw [show n + 1 + m - (n + 1) = m from by omega] at h2
      rw [show n + 1 + m - n = m + 1 from by omega]
      exact h2
theorem Spec.of {P : Program} {f : FuncId} {fn : Func} {c : Code} {args : List Value} {Q : Value → PH → List Asrt → Prop} (hf : P.funcs[f]? = some fn) (hb : fn.body = some c) (hn : Nat.ble args.length fn.ntmps = true)
    (h : ∀ X w0, J { P := P, fn := fn, R := Post w0 F X Q, N := fn.ntmps, w0 := w0 } [.code c] (argEnv 0 args) F (H ++ X)) : Spec P f args F H Q := fun X w s => by
  have hn' : args.length ≤ fn.ntmps := Nat.le_of_ble_eq_true hn
  refine calls_of_wp hf hb ?_
  have h1 := h X w { tmps := args.toArray ++ Array.replicate (fn.ntmps - args.toArray.size) undef, defers := [] } w
    ⟨by simp; omega, rfl, fun t v e => ?_⟩ (Mild.refl w) s
  · exact wp_mono h1 fun e a w he => he
  · obtain ⟨_, h2⟩ := argEnv_get args 0 t v e
    rw [Nat.sub_zero] at h2
    obtain ⟨hlt, h3⟩ := List.getElem?_eq_some_iff.1 h2
    simp [Array.getD_eq_getD_getElem?, Array.getElem?_append, hlt, h3]
end

section
variable {P : Program} {f : FuncId} {fn : Func} {c : Code} {F : PH} {H : List Asrt} {Q : Value → PH → List Asrt → Prop} {v0 v1 v2 v3 v4 v5 v6 v7 : Value} (hf : P.funcs[f]? = some fn) (hb : fn.body = some c)
include hf hb
theorem Spec.of0 (h : ∀ X w0, J ⟨P, fn, Post w0 F X Q, fn.ntmps, w0⟩ [.code c] [] F (H ++ X)) : Spec P f [] F H Q := Spec.of hf hb (Nat.ble_eq_true_of_le (Nat.zero_le _)) h
theorem Spec.of1 (hn : Nat.ble 1 fn.ntmps = true) (h : ∀ X w0, J ⟨P, fn, Post w0 F X Q, fn.ntmps, w0⟩ [.code c] [(0, v0)] F (H ++ X)) : Spec P f [v0] F H Q := Spec.of hf hb hn h
theorem Spec.of2 (hn : Nat.ble 2 fn.ntmps = true) (h : ∀ X w0, J ⟨P, fn, Post w0 F X Q, fn.ntmps, w0⟩ [.code c] [(0, v0), (1, v1)] F (H ++ X)) : Spec P f [v0, v1] F H Q := Spec.of hf hb hn h
theorem Spec.of3 (hn : Nat.ble 3 fn.ntmps = true) (h : ∀ X w0, J ⟨P, fn, Post w0 F X Q, fn.ntmps, w0⟩ [.code c] [(0, v0), (1, v1), (2, v2)] F (H ++ X)) : Spec P f [v0, v1, v2] F H Q := Spec.of hf hb hn h
theorem Spec.of4 (hn : Nat.ble 4 fn.ntmps = true) (h : ∀ X w0, J ⟨P, fn, Post w0 F X Q, fn.ntmps, w0⟩ [.code c] [(0, v0), (1, v1), (2, v2), (3, v3)] F (H ++ X)) : Spec P f [v0, v1, v2, v3] F H Q := Spec.of hf hb hn h
theorem Spec.of5 (hn : Nat.ble 5 fn.ntmps = true) (h : ∀ X w0, J ⟨P, fn, Post w0 F X Q, fn.ntmps, w0⟩ [.code c] [(0, v0), (1, v1), (2, v2), (3, v3), (4, v4)] F (H ++ X)) : Spec P f [v0, v1, v2, v3, v4] F H Q := Spec.of hf hb hn h
theorem Spec.of6 (hn : Nat.ble 6 fn.ntmps = true) (h : ∀ X w0, J ⟨P, fn, Post w0 F X Q, fn.ntmps, w0⟩ [.code c] [(0, v0), (1, v1), (2, v2), (3, v3), (4, v4), (5, v5)] F (H ++ X)) : Spec P f [v0, v1, v2, v3, v4, v5] F H Q := Spec.of hf hb hn h
end
/-! ### the end -/
section
variable {C : Ctx} {k : List KItem} {l : Env} {F F0 : PH} {H X : List Asrt} {Q : Value → PH → List Asrt → Prop}
theorem J_ret0 {v : Value} (hr : ∀ a w, Holds C.N l a → Sat F H w → (results C.fn a.tmps).run C.P w = .ok v w) (hR : ∀ w, Mild C.w0 w → Sat F H w → C.R (.returned v) w) : J C (.code .ret :: k) l F H := fun a w ha hm hs =>
  wp_ret (kpost_ret ⟨ha.defers, v, hr a w ha hs, hR w hm hs⟩)
theorem J_ret1 {P : Program} {fn : Func} {N : Nat} {w0 : World} {t : Nat} {v : Value} (hres : fn.results = #[.tmp t]) (hv : l.get t = some v) (H' : List Asrt) (hH : H = H' ++ X) (hF : F0.le F) (hQ : Q v F H') :
    J ⟨P, fn, Post w0 F0 X Q, N, w0⟩ (.code .ret :: k) l F H := J_ret0 (v := v) (fun a w ha _ => by
      have := ha.val t v hv
      simp only [Array.getD_eq_getD_getElem?] at this
      simp [results, hres, go_sem, this]) fun w hm hs => ⟨v, F, H', rfl, hF, hQ, hm, hH ▸ hs⟩
theorem J_ret2 {P : Program} {fn : Func} {N : Nat} {w0 : World} {t u : Nat} {v v' : Value} (hres : fn.results = #[.tmp t, .tmp u]) (hv : l.get t = some v) (hv' : l.get u = some v') (H' : List Asrt) (hH : H = H' ++ X) (hF : F0.le F) (hQ : Q (.tuple #[v, v']) F H') :
    J ⟨P, fn, Post w0 F0 X Q, N, w0⟩ (.code .ret :: k) l F H := J_ret0 (v := .tuple #[v, v']) (fun a w ha _ => by
      have h1 := ha.val t v hv
      have h2 := ha.val u v' hv'
      simp only [Array.getD_eq_getD_getElem?] at h1 h2
      simp [results, hres, go_sem, h1, h2]) fun w hm hs => ⟨_, F, H', rfl, hF, hQ, hm, hH ▸ hs⟩
end
/-- Where the call stands. -/
theorem run_call {P : Program} {o : Oper} {f : FuncId} {fn : Func} {args : Array Operand} {tys : Array TypeId} (ho : o.op = .call { callee := .value (.func f), args := args, argTypes := tys }) (hf : P.funcs[f]? = some fn) (hb : fn.body.isNone = false)
    (hnm : (fn.name == "runtime.NumGoroutine") = false) (a : Act) (w : World) : (execOp a.eval o).run P w = .ok (.enter f (args.map a.eval)) w := by
  unfold execOp
  simp only [ho, resolve, Act.eval, Deferred.ofValue, invoke, callFunc]
  have h1 : ¬ (fn.name = "runtime.NumGoroutine") := by simpa using hnm
  have h2 : ¬ (fn.body = none) := by intro e; rw [e] at hb; cases hb
  simp [go_sem, hf, h1, h2]
section
variable {C : Ctx} {ops : Array Oper} {rest : List Oper} {k : List KItem} {l : Env} {F : PH} {H : List Asrt}
theorem JO_call {d : Option Nat} {T : TypeId} {pos : String} {af : Array Edge} {g : Option (Nat × Bool)} {f : FuncId} {fn : Func} {args : List Operand} {tys : Array TypeId} {vs : List Value} {Hc Hr : List Asrt} {Q : Value → PH → List Asrt → Prop}
    (hr : runs ops l { dst := d, op := .call { callee := .value (.func f), args := args.toArray, argTypes := tys }, type := T, pos := pos, after := af, guard := g } = some true)
    (hf : C.P.funcs[f]? = some fn) (hb : fn.body.isNone = false) (hnm : (fn.name == "runtime.NumGoroutine") = false) (hv : opvs l args = some vs) (sp : Spec C.P f vs F Hc Q) (hp : ∀ w, Sat F H w → Sat F (Hc ++ Hr) w)
    (h : ∀ v F' H', F.le F' → Q v F' H' → JO C ops rest k (l.put d v) F' (H' ++ Hr)) :
    JO C ops ({ dst := d, op := .call { callee := .value (.func f), args := args.toArray, argTypes := tys }, type := T, pos := pos, after := af, guard := g } :: rest) k l F H := fun hd a w ha hm hs => by
  unfold wpList
  rw [if_pos (runs_wanted hr ha)]
  left
  unfold Oper.wp
  rw [run_call rfl hf hb hnm]
  have he : args.toArray.map a.eval = vs.toArray := by rw [← ha.opvs hv]; simp
  simp only [Oper.upon_enter, he]
  refine (sp Hr w (hp w hs)).mono ?_
  rintro e w' ⟨v, F', H', rfl, hF, hQ, hmw, hs'⟩
  exact JO_put hd (h v F' H' hF hQ) ha (hm.trans hmw) hs'
end
theorem Ev.of {P : Program} {o : Oper} {l : Env} {F : PH} {H : List Asrt} {v : Value} (h : ∀ ρ : Operand → Value, (∀ x u, opv l x = some u → ρ x = u) → ∀ w, Sat F H w → (execOp ρ o).run P w = .ok (.value v) w) : Ev P o l F H v := fun _ a w ha hs => h a.eval (fun _ _ e => ha.opv e) w hs
theorem Ev'.of {P : Program} {o : Oper} {l : Env} {F : PH} {H : List Asrt} {Q : Value → PH → List Asrt → Prop} (h : ∀ N a w, Holds N l a → Sat F H w → ∃ nx w' v F' H', (execOp a.eval o).run P w = .ok nx w' ∧ (nx = .value v ∨ (nx = .skip ∧ v = undef)) ∧ Mild w w' ∧ F.le F' ∧ Q v F' H' ∧ Sat F' H' w') : Ev' P o l F H Q := h
theorem Ev'.out {P : Program} {o : Oper} {l : Env} {F : PH} {H : List Asrt} {Q : Value → PH → List Asrt → Prop} (h : Ev' P o l F H Q) : ∀ N a w, Holds N l a → Sat F H w → ∃ nx w' v F' H', (execOp a.eval o).run P w = .ok nx w' ∧ (nx = .value v ∨ (nx = .skip ∧ v = undef)) ∧ Mild w w' ∧ F.le F' ∧ Q v F' H' ∧ Sat F' H' w' := h
theorem Ev.out {P : Program} {o : Oper} {l : Env} {F : PH} {H : List Asrt} {v : Value} (h : Ev P o l F H v) : ∀ N a w, Holds N l a → Sat F H w → (execOp a.eval o).run P w = .ok (.value v) w := h
theorem Spec.out {P : Program} {f : FuncId} {args : List Value} {F : PH} {H : List Asrt} {Q : Value → PH → List Asrt → Prop} (h : Spec P f args F H Q) : ∀ (X : List Asrt) (w : World), Sat F (H ++ X) w → Calls P f args.toArray w fun e w' => ∃ v F' H', e = .returned v ∧ F.le F' ∧ Q v F' H' ∧ Mild w w' ∧ Sat F' (H' ++ X) w' := h
attribute [irreducible] J JO Spec Ev Ev'
end Go.Proofs.YtekdmpbkcjjllaaDoor
