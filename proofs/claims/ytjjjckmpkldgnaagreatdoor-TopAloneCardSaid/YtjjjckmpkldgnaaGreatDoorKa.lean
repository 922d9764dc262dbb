/-
  A small logic for walks: separated memory (what is never written, and what the call owns), a frame's slots as a list, one rule an operation. Plain theorems over any program; no condition.
  The frame's slots as a list, the judgement J on what is left to run, the rules of control. Plain theorems over any program; no condition.
-/
import Derived.WalkKit
import Derived.WalkSpells
import Derived.WalkLawsBesides
import Derived.Maps.AppendAt
import Derived.Deep.LoopGhost
namespace Go.Proofs.YtjjjckmpkldgnaaGreatDoor
open Go.RowKit

/-! ### partial heaps -/
abbrev PH := Nat → Option Obj
namespace PH
def le (f g : PH) : Prop := ∀ b o, f b = some o → g b = some o
def dj (f g : PH) : Prop := ∀ b, f b = none ∨ g b = none
def un (f g : PH) : PH := fun b => (f b).or (g b)
def emp : PH := fun _ => none
def one (b : Nat) (o : Obj) : PH := fun x => if x = b then some o else none
theorem ler (f : PH) : f.le f := fun _ _ h => h
theorem le.trans {f g h : PH} (a : f.le g) (b : g.le h) : f.le h := fun x o e => b x o (a x o e)
theorem le_l (f g : PH) : f.le (f.un g) := fun b o h => by simp [un, h]
theorem le_r {f g : PH} (d : f.dj g) : g.le (f.un g) := fun b o h => by
  rcases d b with e | e
  · simp [un, h, e]
  · rw [e] at h; cases h
theorem un_le {f g h : PH} (a : f.le h) (b : g.le h) : (f.un g).le h := fun x o e => by
  unfold un at e
  cases hf : f x with
  | some y => rw [hf] at e; simp at e; subst e; exact a x _ hf
  | none => rw [hf] at e; simp at e; exact b x _ e
theorem dj.symm {f g : PH} (d : f.dj g) : g.dj f := fun b => (d b).symm
theorem dj.mono {f f' g : PH} (d : f.dj g) (a : f'.le f) : f'.dj g := fun b => by
  rcases d b with e | e
  · left
    cases h : f' b with
    | none => rfl
    | some y => rw [a b y h] at e; cases e
  · exact .inr e
theorem dj.mono_r {f g g' : PH} (d : f.dj g) (a : g'.le g) : f.dj g' := (d.symm.mono a).symm
theorem dj_un {f g h : PH} (a : f.dj h) (b : g.dj h) : (f.un g).dj h := fun x => by
  rcases a x with e | e
  · rcases b x with e' | e'
    · left; simp [un, e, e']
    · exact .inr e'
  · exact .inr e
theorem dj_un_r {f g h : PH} (a : h.dj f) (b : h.dj g) : h.dj (f.un g) := (dj_un a.symm b.symm).symm
theorem un_comm {f g : PH} (d : f.dj g) : f.un g = g.un f := funext fun b => by
  rcases d b with e | e
  · simp [un, e]
  · simp [un, e]
theorem un_assoc (f g h : PH) : (f.un g).un h = f.un (g.un h) := funext fun b => by
  unfold un; cases f b <;> simp
theorem emp_un (f : PH) : emp.un f = f := funext fun b => by simp [un, emp]
theorem un_emp (f : PH) : f.un emp = f := funext fun b => by simp [un, emp]
theorem dj_emp (f : PH) : f.dj emp := fun _ => .inr rfl
theorem emp_dj (f : PH) : emp.dj f := fun _ => .inl rfl
theorem emp_le (f : PH) : emp.le f := fun _ _ h => by cases h
theorem one_self (b : Nat) (o : Obj) : one b o b = some o := by simp [one]
theorem one_le {b : Nat} {o : Obj} {g : PH} (h : g b = some o) : (one b o).le g := fun x o' e => by
  unfold one at e
  split at e
  · rename_i hx; subst hx; cases e; exact h
  · cases e
theorem dj_one {f : PH} {b : Nat} {o : Obj} (h : f b = none) : f.dj (one b o) := fun x => by
  by_cases hx : x = b
  · subst hx; exact .inl h
  · right; simp [one, hx]
end PH

def ph (w : World) : PH := fun b => w.heap[b]?
theorem ph_lt {w : World} {b : Nat} {o : Obj} (h : ph w b = some o) : b < w.heap.size := (Array.getElem?_eq_some_iff.1 h).1
abbrev Asrt := PH → Prop
def Star : List Asrt → PH → Prop
  | [], h => h = PH.emp
  | A :: H, h => ∃ h1 h2, A h1 ∧ Star H h2 ∧ h1.dj h2 ∧ h = h1.un h2
def Sat (F : PH) (H : List Asrt) (w : World) : Prop := ∃ r, Star H r ∧ F.dj r ∧ (F.un r).le (ph w)

/-- A stands somewhere in H; H' is H with A' in its place. -/
inductive Upd (A A' : Asrt) : List Asrt → List Asrt → Prop where
  | here {H : List Asrt} : Upd A A' (A :: H) (A' :: H)
  | there {B : Asrt} {H H' : List Asrt} (h : Upd A A' H H') : Upd A A' (B :: H) (B :: H')
/-- H is Hr with A put in somewhere. -/
inductive Pick (A : Asrt) : List Asrt → List Asrt → Prop where
  | here {H : List Asrt} : Pick A (A :: H) H
  | there {B : Asrt} {H Hr : List Asrt} (h : Pick A H Hr) : Pick A (B :: H) (B :: Hr)

theorem star_swap {a b c : PH} (hab : a.dj b) (hc : c.dj (a.un b)) : c.dj a ∧ c.dj b :=
  ⟨hc.mono_r (PH.le_l _ _), hc.mono_r (PH.le_r hab)⟩
theorem Star.focus {A A' : Asrt} {H H' : List Asrt} (u : Upd A A' H H') : ∀ {r : PH}, Star H r →
    ∃ h s, A h ∧ h.dj s ∧ r = h.un s ∧ ∀ h', A' h' → h'.dj s → Star H' (h'.un s) := by
  induction u with
  | here =>
    rintro r ⟨h, s, hA, hs, hd, rfl⟩
    exact ⟨h, s, hA, hd, rfl, fun h' hA' hd' => ⟨h', s, hA', hs, hd', rfl⟩⟩
  | @there B H H' _ ih =>
    rintro r ⟨b, r2, hB, hr, hd, rfl⟩
    obtain ⟨h, s, hA, hhs, rfl, hk⟩ := ih hr
    obtain ⟨hbh, hbs⟩ := star_swap hhs hd
    refine ⟨h, b.un s, hA, PH.dj_un_r hbh.symm hhs, ?_, fun h' hA' hd' => ?_⟩
    · rw [← PH.un_assoc, ← PH.un_assoc, PH.un_comm hbh]
    · have h1 : h'.dj b := hd'.mono_r (PH.le_l _ _)
      have h2 : h'.dj s := hd'.mono_r (PH.le_r hbs)
      refine ⟨b, h'.un s, hB, hk h' hA' h2, PH.dj_un_r h1.symm hbs, ?_⟩
      rw [← PH.un_assoc, ← PH.un_assoc, PH.un_comm h1]
theorem Star.pick {A : Asrt} {H Hr : List Asrt} (p : Pick A H Hr) : ∀ {r : PH}, Star H r → Star (A :: Hr) r := by
  induction p with
  | here => exact fun h => h
  | @there B H Hr _ ih =>
    rintro r ⟨b, r2, hB, hr, hd, rfl⟩
    obtain ⟨h, s, hA, hs, hhs, rfl⟩ := ih hr
    obtain ⟨hbh, hbs⟩ := star_swap hhs hd
    refine ⟨h, b.un s, hA, ⟨b, s, hB, hs, hbs, rfl⟩, PH.dj_un_r hbh.symm hhs, ?_⟩
    rw [← PH.un_assoc, ← PH.un_assoc, PH.un_comm hbh]
theorem Star.append : ∀ {H K : List Asrt} {r : PH}, Star (H ++ K) r ↔ ∃ a b, Star H a ∧ Star K b ∧ a.dj b ∧ r = a.un b
  | [], K, r => ⟨fun h => ⟨PH.emp, r, rfl, h, PH.emp_dj _, (PH.emp_un _).symm⟩, fun ⟨a, b, ha, hb, _, e⟩ => by
      cases ha; rw [PH.emp_un] at e; subst e; exact hb⟩
  | A :: H, K, r => by
    constructor
    · rintro ⟨h, r2, hA, hr, hd, rfl⟩
      obtain ⟨a, b, ha, hb, hab, rfl⟩ := Star.append.1 hr
      obtain ⟨h1, h2⟩ := star_swap hab hd
      exact ⟨h.un a, b, ⟨h, a, hA, ha, h1, rfl⟩, hb, PH.dj_un h2 hab, (PH.un_assoc _ _ _).symm⟩
    · rintro ⟨_, b, ⟨h, a, hA, ha, h1, rfl⟩, hb, hab, rfl⟩
      have e1 : h.dj b := hab.mono (PH.le_l _ _)
      have e2 : a.dj b := hab.mono (PH.le_r h1)
      exact ⟨h, a.un b, hA, Star.append.2 ⟨a, b, ha, hb, e2, rfl⟩, PH.dj_un_r h1 e1, PH.un_assoc _ _ _⟩

section
variable {F F' : PH} {H H' K : List Asrt} {A A' : Asrt} {w w' : World}
theorem Sat.le (s : Sat F H w) : F.le (ph w) := let ⟨_, _, _, h⟩ := s; (PH.le_l _ _).trans h
theorem Sat.mono (s : Sat F H w) (h : F'.le F) : Sat F' H w := by
  obtain ⟨r, hr, hd, hl⟩ := s
  exact ⟨r, hr, hd.mono h, PH.un_le (h.trans ((PH.le_l _ _).trans hl)) ((PH.le_r hd).trans hl)⟩
theorem Sat.world (s : Sat F H w) (h : (ph w).le (ph w')) : Sat F H w' := by
  obtain ⟨r, hr, hd, hl⟩ := s
  exact ⟨r, hr, hd, hl.trans h⟩
theorem Sat.pick (p : Pick A H K) (s : Sat F H w) : Sat F (A :: K) w := let ⟨r, hr, hd, hl⟩ := s; ⟨r, hr.pick p, hd, hl⟩
theorem Sat.persist (s : Sat F (A :: H) w) : ∃ h, A h ∧ F.dj h ∧ Sat (F.un h) H w := by
  obtain ⟨_, ⟨h, r, hA, hr, hhr, rfl⟩, hd, hl⟩ := s
  have e1 : F.dj h := hd.mono_r (PH.le_l _ _)
  have e2 : F.dj r := hd.mono_r (PH.le_r hhr)
  exact ⟨h, hA, e1, r, hr, PH.dj_un e2 hhr, by rw [PH.un_assoc]; exact hl⟩
theorem Sat.drop (s : Sat F (A :: H) w) : Sat F H w := let ⟨_, _, _, h⟩ := s.persist; h.mono (PH.le_l _ _)
theorem Sat.focus (u : Upd A A' H H') (s : Sat F H w) : ∃ h R, A h ∧ R.dj h ∧ (R.un h).le (ph w) ∧ F.le R ∧
    ∀ h' w', A' h' → R.dj h' → (R.un h').le (ph w') → Sat F H' w' := by
  obtain ⟨r, hr, hd, hl⟩ := s
  obtain ⟨h, s, hA, hhs, rfl, hk⟩ := hr.focus u
  have e1 : F.dj h := hd.mono_r (PH.le_l _ _)
  have e2 : F.dj s := hd.mono_r (PH.le_r hhs)
  refine ⟨h, F.un s, hA, PH.dj_un e1 hhs.symm, ?_, PH.le_l _ _, fun h' w' hA' hd' hl' => ?_⟩
  · rw [PH.un_assoc, PH.un_comm hhs.symm]; exact hl
  · have e3 : F.dj h' := hd'.mono (PH.le_l _ _)
    have e4 : s.dj h' := hd'.mono (PH.le_r e2)
    refine ⟨h'.un s, hk h' hA' e4.symm, PH.dj_un_r e3 e2, ?_⟩
    rw [PH.un_comm e4.symm, ← PH.un_assoc]; exact hl'
theorem Sat.add (s : Sat F H w) : ∃ R, R.le (ph w) ∧ F.le R ∧ ∀ (A : Asrt) h w', A h → R.dj h → (R.un h).le (ph w') → Sat F (A :: H) w' := by
  obtain ⟨r, hr, hd, hl⟩ := s
  refine ⟨F.un r, hl, PH.le_l _ _, fun A h w' hA hdj hl' => ?_⟩
  have e1 : F.dj h := hdj.mono (PH.le_l _ _)
  have e2 : r.dj h := hdj.mono (PH.le_r hd)
  refine ⟨h.un r, ⟨h, r, hA, hr, e2.symm, rfl⟩, PH.dj_un_r e1 hd, ?_⟩
  rw [PH.un_comm e2.symm, ← PH.un_assoc]; exact hl'
theorem Sat.nil (w : World) : Sat (ph w) [] w := ⟨PH.emp, rfl, PH.dj_emp _, by rw [PH.un_emp]; exact PH.ler _⟩
/-- H splits: what H holds may be taken for a part of the frame. -/
theorem Sat.split (s : Sat F (H ++ K) w) : ∃ r, Star K r ∧ F.dj r ∧ Sat (F.un r) H w ∧ ∀ F' H' w', F.le F' → F'.dj r → Sat (F'.un r) H' w' → Sat F' (H' ++ K) w' := by
  obtain ⟨r, hr, hd, hl⟩ := s
  obtain ⟨a, b, ha, hb, hab, rfl⟩ := Star.append.1 hr
  have e1 : F.dj a := hd.mono_r (PH.le_l _ _)
  have e2 : F.dj b := hd.mono_r (PH.le_r hab)
  refine ⟨b, hb, e2, ⟨a, ha, PH.dj_un e1 hab.symm, ?_⟩, fun F' H' w' _ hdj ⟨c, hc, hdc, hlc⟩ => ?_⟩
  · rw [PH.un_assoc, PH.un_comm hab.symm]; exact hl
  · have e3 : F'.dj c := hdc.mono (PH.le_l _ _)
    have e4 : b.dj c := hdc.mono (PH.le_r hdj)
    refine ⟨c.un b, Star.append.2 ⟨c, b, hc, hb, e4.symm, rfl⟩, PH.dj_un_r e3 hdj, ?_⟩
    rw [PH.un_comm e4.symm, ← PH.un_assoc]; exact hlc
end

/-! ### worlds -/
structure Mild (w w' : World) : Prop where
  os : w'.os = w.os
  tape : w'.tape = w.tape
  output : w'.output = w.output
  size : w.heap.size ≤ w'.heap.size
theorem Mild.refl (w : World) : Mild w w := ⟨rfl, rfl, rfl, Nat.le_refl _⟩
theorem Mild.trans {a b c : World} (h : Mild a b) (k : Mild b c) : Mild a c := ⟨k.os.trans h.os, k.tape.trans h.tape, k.output.trans h.output, Nat.le_trans h.size k.size⟩
theorem Mild.drew (w : World) : Mild w w.drew := ⟨rfl, rfl, rfl, Nat.le_refl _⟩
theorem Mild.alloc (w : World) (o : Obj) : Mild w (w.alloc o) := ⟨rfl, rfl, rfl, by simp⟩
theorem ph_alloc_le (w : World) (o : Obj) : (ph w).le (ph (w.alloc o)) := fun b o' h => (heap_alloc_old w o (h := ph_lt h)).trans h
theorem ph_alloc_new (w : World) (o : Obj) : ph (w.alloc o) w.heap.size = some o := heap_alloc_new w o
theorem Sat.alloc {F : PH} {H : List Asrt} {w : World} (s : Sat F H w) (A : Asrt) (o : Obj) (hA : A (PH.one w.heap.size o)) : Sat F (A :: H) (w.alloc o) := by
  obtain ⟨R, hR, _, k⟩ := s.add
  refine k A _ _ hA (PH.dj_one ?_) (PH.un_le (hR.trans (ph_alloc_le w o)) (PH.one_le (ph_alloc_new w o)))
  cases h : R w.heap.size with
  | none => rfl
  | some y => exact absurd (ph_lt (hR _ _ h)) (by omega)
theorem Mild.grown {w w' : World} {r : Option Nat} (g : w.grownBy w' r) : Mild w w' := ⟨g.os, g.tape, g.output, g.size⟩

end Go.Proofs.YtjjjckmpkldgnaaGreatDoor
namespace Go.Proofs.YtjjjckmpkldgnaaGreatDoor
open Go.RowKit

abbrev Env := List (Nat × Value)
def Env.get : Env → Nat → Option Value
  | [], _ => none
  | (s, v) :: r, t => match Nat.beq s t with | true => some v | false => Env.get r t
def Env.sub : Env → Env → Prop
  | [], _ => True
  | (s, v) :: r, l => l.get s = some v ∧ Env.sub r l
theorem Env.get_cons (s : Nat) (v : Value) (r : Env) (t : Nat) : Env.get ((s, v) :: r) t = if s = t then some v else Env.get r t := by
  show (match Nat.beq s t with | true => some v | false => Env.get r t) = _
  by_cases h : s = t
  · subst h; simp
  · have : Nat.beq s t = false := by cases hb : Nat.beq s t with | false => rfl | true => exact absurd (Nat.eq_of_beq_eq_true hb) h
    rw [this]; simp [h]
theorem Env.sub_get : ∀ {l' l : Env}, l'.sub l → ∀ t v, l'.get t = some v → l.get t = some v
  | [], _, _, t, v, h => by cases h
  | (s, u) :: r, l, ⟨h1, h2⟩, t, v, h => by
    rw [Env.get_cons] at h
    split at h
    · rename_i e; subst e; cases h; exact h1
    · exact Env.sub_get h2 t v h

def opv (l : Env) : Operand → Option Value
  | .tmp t => l.get t
  | .const v => some v
  | .func f => some (.func (.func f) #[] #[])
  | .global g => some (.pointer (some ⟨g, 0, none⟩))
def opvs (l : Env) : List Operand → Option (List Value)
  | [] => some []
  | x :: r => match opv l x with
    | none => none
    | some v => match opvs l r with
      | none => none
      | some vs => some (v :: vs)

structure Holds (N : Nat) (l : Env) (a : Act) : Prop where
  size : a.tmps.size = N
  defers : a.defers = []
  val : ∀ t v, l.get t = some v → a.tmps.getD t undef = v
theorem Holds.opv {N : Nat} {l : Env} {a : Act} (h : Holds N l a) {x : Operand} {v : Value} (e : opv l x = some v) : a.eval x = v := by
  cases x with
  | tmp t => exact h.val t v e
  | const u => cases e; rfl
  | global g => cases e; rfl
  | func f => cases e; rfl
theorem Holds.opvs {N : Nat} {l : Env} {a : Act} (h : Holds N l a) : ∀ {xs : List Operand} {vs : List Value}, opvs l xs = some vs → xs.map a.eval = vs
  | [], vs, e => by cases e; rfl
  | x :: r, vs, e => by
    unfold Go.Proofs.YtjjjckmpkldgnaaGreatDoor.opvs at e
    cases h1 : Go.Proofs.YtjjjckmpkldgnaaGreatDoor.opv l x with
    | none => simp [h1] at e
    | some v =>
      cases h2 : Go.Proofs.YtjjjckmpkldgnaaGreatDoor.opvs l r with
      | none => simp [h1, h2] at e
      | some vs' =>
        simp [h1, h2] at e
        subst e
        simp [h.opv h1, h.opvs h2]
theorem Holds.sub {N : Nat} {l l' : Env} {a : Act} (h : Holds N l a) (s : l'.sub l) : Holds N l' a := ⟨h.size, h.defers, fun t v e => h.val t v (Env.sub_get s t v e)⟩
theorem Holds.put {N : Nat} {l : Env} {a : Act} (h : Holds N l a) {d : Nat} (hd : d < N) (v : Value) : Holds N ((d, v) :: l) (a.put (some d) v) := by
  refine ⟨by simp [Act.put, h.size], by simp [Act.put, h.defers], fun t u e => ?_⟩
  rw [Env.get_cons] at e
  have hs := h.size
  simp only [Act.put]
  split at e
  · rename_i hdt; subst hdt; cases e
    simp [Array.getD_eq_getD_getElem?, Array.getElem?_setIfInBounds, hs, hd]
  · rename_i hdt
    have := h.val t u e
    rw [← this]
    simp [Array.getD_eq_getD_getElem?, Array.getElem?_setIfInBounds, hdt]
theorem Holds.put_none {N : Nat} {l : Env} {a : Act} (h : Holds N l a) (v : Value) : Holds N l (a.put none v) := h
def Env.put (l : Env) : Option Nat → Value → Env
  | some d, v => (d, v) :: l
  | none, _ => l
theorem Holds.puts {N : Nat} {l : Env} {a : Act} (h : Holds N l a) {d : Option Nat} (hd : d.all (· < N) = true) (v : Value) : Holds N (l.put d v) (a.put d v) := by
  cases d with
  | none => exact h.put_none v
  | some d => exact h.put (by simpa using hd) v

/-- What is left to run. -/
inductive KItem where
  | code (c : Code)
  | blk (id : Nat)
  | again (G : Act → World → Prop)
structure Ctx where
  P : Program
  fn : Func
  R : Ending → World → Prop
  N : Nat
  w0 : World
def kpost (C : Ctx) : List KItem → Exit → Act → World → Prop
  | [], e, a, w => bodyPost C.P C.fn C.R e a w
  | .code c :: k, .normal, a, w => c.wp C.P (kpost C k) a w
  | .code _ :: k, e, a, w => kpost C k e a w
  | .blk id :: k, .normal, a, w => kpost C k .normal a w
  | .blk id :: k, .exit id', a, w => if id' = id then kpost C k .normal a w else kpost C k (.exit id') a w
  | .blk _ :: k, e, a, w => kpost C k e a w
  | .again G :: k, .normal, a, w => G a w
  | .again _ :: k, e, a, w => kpost C k e a w

/-- From any state that fits: the rest runs to its end, and C's post holds there. -/
def J (C : Ctx) (k : List KItem) (l : Env) (F : PH) (H : List Asrt) : Prop :=
  ∀ a w, Holds C.N l a → Mild C.w0 w → Sat F H w → kpost C k .normal a w
/-- The same in the midst of a region. -/
def JO (C : Ctx) (ops : Array Oper) (rest : List Oper) (k : List KItem) (l : Env) (F : PH) (H : List Asrt) : Prop :=
  rest.all (fun o => o.dst.all (· < C.N)) = true → ∀ a w, Holds C.N l a → Mild C.w0 w → Sat F H w → wpList C.P ops (kpost C k) rest a w

section
variable {C : Ctx} {k : List KItem} {l l' : Env} {F F' : PH} {H H' : List Asrt}
theorem J_weak (h : J C k l F' H') (s : ∀ w, Sat F H w → Sat F' H' w) : J C k l F H := fun a w ha hm hs => h a w ha hm (s w hs)
theorem J_persist {A : Asrt} (h : ∀ h', A h' → F.dj h' → J C k l (F.un h') H) : J C k l F (A :: H) := fun a w ha hm hs => by
  obtain ⟨h', hA, hd, hs'⟩ := hs.persist
  exact h h' hA hd a w ha hm hs'
theorem J_seq {x y : Code} (h : J C (.code x :: .code y :: k) l F H) : J C (.code (.seq x y) :: k) l F H := fun a w ha hm hs => by
  have h1 := h a w ha hm hs
  exact wp_seq (wp_mono h1 fun e a w he => by cases e <;> exact he)
theorem J_skip (h : J C k l F H) : J C (.code .skip :: k) l F H := fun a w ha hm hs => wp_skip (h a w ha hm hs)
theorem J_label {n : Nat} (h : J C k l F H) : J C (.code (.label n) :: k) l F H := fun a w ha hm hs => wp_label (h a w ha hm hs)
theorem J_blk {id : Nat} (h : J C k l F H) : J C (.blk id :: k) l F H := h
theorem J_block {id : Nat} {c : Code} (h : J C (.code c :: .blk id :: k) l F H) : J C (.code (.block id c) :: k) l F H := fun a w ha hm hs =>
  wp_block (wp_mono (h a w ha hm hs) fun e a w he => by cases e <;> exact he)
def kexit (id : Nat) : List KItem → Option (List KItem)
  | [] => none
  | .blk i :: k => match Nat.beq id i with | true => some k | false => kexit id k
  | _ :: k => kexit id k
theorem kpost_exit {id : Nat} {a : Act} {w : World} : ∀ {k k' : List KItem}, kexit id k = some k' → kpost C k' .normal a w → kpost C k (.exit id) a w
  | [], k', h, _ => by cases h
  | .code c :: k, k', h, g => kpost_exit (k := k) h g
  | .again G :: k, k', h, g => kpost_exit (k := k) h g
  | .blk i :: k, k', h, g => by
    unfold kexit at h
    unfold kpost
    cases hb : Nat.beq id i with
    | true => rw [hb] at h; cases h; rw [if_pos (Nat.eq_of_beq_eq_true hb)]; exact g
    | false =>
      rw [hb] at h
      rw [if_neg (fun e => by subst e; simp at hb)]
      exact kpost_exit (k := k) h g
theorem J_exit {id : Nat} {k' : List KItem} (e : kexit id k = some k') (h : J C k' l F H) : J C (.code (.exit id) :: k) l F H := fun a w ha hm hs =>
  wp_exit (kpost_exit e (h a w ha hm hs))
theorem kpost_ret {a : Act} {w : World} : ∀ {k : List KItem}, bodyPost C.P C.fn C.R .ret a w → kpost C k .ret a w
  | [], h => h
  | .code _ :: k, h => kpost_ret (k := k) h
  | .again _ :: k, h => kpost_ret (k := k) h
  | .blk _ :: k, h => kpost_ret (k := k) h
theorem J_cond {c : Operand} {x y : Code} {b : Bool} (hc : opv l c = some (.bool b)) (ht : b = true → J C (.code x :: k) l F H) (hf : b = false → J C (.code y :: k) l F H) :
    J C (.code (.cond c x y) :: k) l F H := fun a w ha hm hs =>
  wp_cond_split (ha.opv hc) (fun e => ht e a w ha hm hs) (fun e => hf e a w ha hm hs)
theorem J_cond_t {c : Operand} {x y : Code} (hc : opv l c = some (.bool true)) (ht : J C (.code x :: k) l F H) : J C (.code (.cond c x y) :: k) l F H :=
  J_cond hc (fun _ => ht) (fun e => by cases e)
theorem J_cond_f {c : Operand} {x y : Code} (hc : opv l c = some (.bool false)) (hf : J C (.code y :: k) l F H) : J C (.code (.cond c x y) :: k) l F H :=
  J_cond hc (fun e => by cases e) (fun _ => hf)
/-- The state at a loop's head, by an index. -/
structure Ent (l : Env) (F : PH) (H : List Asrt) (l' : Env) (F' : PH) (H' : List Asrt) : Prop where
  env : l'.sub l
  sat : ∀ w, Sat F H w → Sat F' H' w
def Again (C : Ctx) {ι : Type} (inv : ι → Prop) (μ : ι → Nat) (l : ι → Env) (F : ι → PH) (H : ι → List Asrt) (m : Nat) (a : Act) (w : World) : Prop :=
  ∃ i, inv i ∧ μ i < m ∧ Holds C.N (l i) a ∧ Mild C.w0 w ∧ Sat (F i) (H i) w
theorem J_loop {ι : Type} {c : Code} (inv : ι → Prop) (μ : ι → Nat) (L : ι → Env) (G : ι → PH) (K : ι → List Asrt) (i0 : ι) (hi : inv i0) (he : Ent l F H (L i0) (G i0) (K i0))
    (round : ∀ i, inv i → J C (.code c :: .again (Again C inv μ L G K (μ i)) :: k) (L i) (G i) (K i)) : J C (.code (.loop c) :: k) l F H := fun a w ha hm hs => by
  refine wp_loop_ghost (Q := kpost C k) (fun n a w => ∃ i, inv i ∧ μ i = n ∧ Holds C.N (L i) a ∧ Mild C.w0 w ∧ Sat (G i) (K i) w) (μ i0) ⟨i0, hi, rfl, ha.sub he.env, hm, he.sat w hs⟩ ?_
  rintro n a w ⟨i, hinv, rfl, ha', hmw, hsw⟩
  refine wp_mono (round i hinv a w ha' hmw hsw) fun e a1 w1 he1 => ?_
  cases e with
  | normal =>
    obtain ⟨j, hj, hlt, hh⟩ : Again C inv μ L G K (μ i) a1 w1 := he1
    exact show ∃ n', n' < μ i ∧ _ from ⟨μ j, hlt, j, hj, rfl, hh⟩
  | exit id => exact he1
  | goto n => exact he1
  | ret => exact he1
  | panic ch => exact he1
  | outgrown => exact he1
theorem J_again {ι : Type} {inv : ι → Prop} {μ : ι → Nat} {L : ι → Env} {G : ι → PH} {K : ι → List Asrt} {m : Nat} (i : ι) (hi : inv i) (hlt : μ i < m) (he : Ent l F H (L i) (G i) (K i)) :
    J C (.again (Again C inv μ L G K m) :: k) l F H := fun a w ha hm hs => ⟨i, hi, hlt, ha.sub he.env, hm, he.sat w hs⟩

/-! a region -/
theorem J_region {id : Nat} {ops : List Oper} (hd : ops.all (fun o => o.dst.all (· < C.N)) = true) (h : JO C ops.toArray ops k l F H) : J C (.code (.region id ops.toArray false) :: k) l F H := fun a w ha hm hs =>
  wp_region_list (h hd a w ha hm hs)
theorem JO_nil {ops : Array Oper} (h : J C k l F H) : JO C ops [] k l F H := fun _ a w ha hm hs => wpList_nil (h a w ha hm hs)
end

/-- One operation: a value, the world as it was. -/
def Ev (P : Program) (o : Oper) (l : Env) (F : PH) (H : List Asrt) (v : Value) : Prop :=
  ∀ N a w, Holds N l a → Sat F H w → (execOp a.eval o).run P w = .ok (.value v) w
/-- Is the operation carried out? -/
def runs (ops : Array Oper) (l : Env) (o : Oper) : Option Bool :=
  match o.guard with
  | none => some true
  | some (j, want) => match (ops[j]?).bind (·.dst) with
    | none => none
    | some d => match l.get d with
      | some (.bool b) => some (b == want)
      | some _ => some false
      | none => none
theorem runs_wanted {ops : Array Oper} {l : Env} {o : Oper} {N : Nat} {a : Act} {b : Bool} (h : runs ops l o = some b) (ha : Holds N l a) : Region.wanted o (yielded ops a.tmps) = b := by
  unfold runs at h
  unfold Region.wanted
  cases hg : o.guard with
  | none => rw [hg] at h; cases h; rfl
  | some g =>
    obtain ⟨j, want⟩ := g
    rw [hg] at h
    dsimp only at h ⊢
    cases hd : (ops[j]?).bind (·.dst) with
    | none => rw [hd] at h; cases h
    | some d =>
      rw [hd] at h
      dsimp only at h
      cases hv : l.get d with
      | none => rw [hv] at h; cases h
      | some v =>
        rw [hv] at h
        have h1 := ha.val d v hv
        unfold yielded
        rw [hd]
        simp only [Option.bind_some]
        rw [Array.getD_eq_getD_getElem?] at h1
        cases ht : a.tmps[d]? with
        | none =>
          rw [ht] at h1
          have h2 : v = undef := by rw [← h1]; rfl
          subst h2
          cases h
          rfl
        | some u =>
          rw [ht] at h1
          have h2 : u = v := h1
          subst h2
          cases u <;> cases h <;> rfl
section
variable {C : Ctx} {ops : Array Oper} {rest : List Oper} {k : List KItem} {l : Env} {F : PH} {H : List Asrt} {o : Oper}
theorem JO_put {v : Value} {a : Act} {w : World} (hd : (o :: rest).all (fun o => o.dst.all (· < C.N)) = true) (h : JO C ops rest k (l.put o.dst v) F H) (ha : Holds C.N l a) (hm : Mild C.w0 w) (hs : Sat F H w) :
    wpList C.P ops (kpost C k) rest (a.put o.dst v) w := by
  rw [List.all_cons, Bool.and_eq_true] at hd
  exact h hd.2 _ w (ha.puts hd.1 v) hm hs
theorem JO_ev {v : Value} (hr : runs ops l o = some true) (he : Ev C.P o l F H v) (h : JO C ops rest k (l.put o.dst v) F H) : JO C ops (o :: rest) k l F H := fun hd a w ha hm hs => by
  unfold wpList
  rw [if_pos (runs_wanted hr ha)]
  left
  have := he _ a w ha hs
  unfold Oper.wp
  rw [this]
  exact JO_put hd h ha hm hs
theorem JO_skip (hr : runs ops l o = some false) (h : JO C ops rest k (l.put o.dst undef) F H) : JO C ops (o :: rest) k l F H := fun hd a w ha hm hs => by
  unfold wpList
  rw [if_neg (by rw [runs_wanted hr ha]; decide)]
  exact JO_put hd h ha hm hs
theorem JO_s {d : Nat} {p : Op} {T : TypeId} {pos : String} {af : Array Edge} {g : Option (Nat × Bool)} {v : Value} (he : Ev C.P ⟨some d, p, T, pos, af, g⟩ l F H v) (hr : runs ops l ⟨some d, p, T, pos, af, g⟩ = some true)
    (h : JO C ops rest k ((d, v) :: l) F H) : JO C ops (⟨some d, p, T, pos, af, g⟩ :: rest) k l F H := JO_ev hr he h
theorem JO_sk {d : Nat} {p : Op} {T : TypeId} {pos : String} {af : Array Edge} {g : Option (Nat × Bool)} (hr : runs ops l ⟨some d, p, T, pos, af, g⟩ = some false)
    (h : JO C ops rest k ((d, undef) :: l) F H) : JO C ops (⟨some d, p, T, pos, af, g⟩ :: rest) k l F H := JO_skip hr h
theorem JO_weak {F' : PH} {H' : List Asrt} (h : JO C ops rest k l F' H') (s : ∀ w, Sat F H w → Sat F' H' w) : JO C ops rest k l F H := fun hd a w ha hm hs => h hd a w ha hm (s w hs)
theorem JO_persist {A : Asrt} (h : ∀ h', A h' → F.dj h' → JO C ops rest k l (F.un h') H) : JO C ops rest k l F (A :: H) := fun hd a w ha hm hs => by
  obtain ⟨h', hA, hdj, hs'⟩ := hs.persist
  exact h h' hA hdj hd a w ha hm hs'
/-- An operation that hands back a value in a world that has turned. -/
def Ev' (P : Program) (o : Oper) (l : Env) (F : PH) (H : List Asrt) (Q : Value → PH → List Asrt → Prop) : Prop :=
  ∀ N a w, Holds N l a → Sat F H w → ∃ nx w' v F' H', (execOp a.eval o).run P w = .ok nx w' ∧ (nx = .value v ∨ (nx = .skip ∧ v = undef)) ∧ Mild w w' ∧ F.le F' ∧ Q v F' H' ∧ Sat F' H' w'
theorem JO_ev' {Q : Value → PH → List Asrt → Prop} (hr : runs ops l o = some true) (he : Ev' C.P o l F H Q) (h : ∀ v F' H', F.le F' → Q v F' H' → JO C ops rest k (l.put o.dst v) F' H') : JO C ops (o :: rest) k l F H := fun hd a w ha hm hs => by
  unfold wpList
  rw [if_pos (runs_wanted hr ha)]
  left
  obtain ⟨nx, w', v, F', H', hrun, hv, hmw, hF, hq, hs'⟩ := he _ a w ha hs
  unfold Oper.wp
  rw [hrun]
  rcases hv with rfl | ⟨rfl, rfl⟩
  · exact JO_put hd (h v F' H' hF hq) ha (hm.trans hmw) hs'
  · exact JO_put hd (h undef F' H' hF hq) ha (hm.trans hmw) hs'

theorem JO_e {d : Nat} {p : Op} {T : TypeId} {pos : String} {af : Array Edge} {g : Option (Nat × Bool)} {Q : Value → PH → List Asrt → Prop} (he : Ev' C.P ⟨some d, p, T, pos, af, g⟩ l F H Q) (hr : runs ops l ⟨some d, p, T, pos, af, g⟩ = some true)
    (h : ∀ v F' H', F.le F' → Q v F' H' → JO C ops rest k ((d, v) :: l) F' H') : JO C ops (⟨some d, p, T, pos, af, g⟩ :: rest) k l F H := JO_ev' hr he h
theorem JO_en {p : Op} {T : TypeId} {pos : String} {af : Array Edge} {g : Option (Nat × Bool)} {Q : Value → PH → List Asrt → Prop} (he : Ev' C.P ⟨none, p, T, pos, af, g⟩ l F H Q) (hr : runs ops l ⟨none, p, T, pos, af, g⟩ = some true)
    (h : ∀ v F' H', F.le F' → Q v F' H' → JO C ops rest k l F' H') : JO C ops (⟨none, p, T, pos, af, g⟩ :: rest) k l F H := JO_ev' hr he h

/-! ### calls -/
/-- What a call does: whatever the memory beside it (X), it returns; what was never written (F) stays and may grow. -/
def Spec (P : Program) (f : FuncId) (args : List Value) (F : PH) (H : List Asrt) (Q : Value → PH → List Asrt → Prop) : Prop :=
  ∀ (X : List Asrt) (w : World), Sat F (H ++ X) w → Calls P f args.toArray w fun e w' => ∃ v F' H', e = .returned v ∧ F.le F' ∧ Q v F' H' ∧ Mild w w' ∧ Sat F' (H' ++ X) w'
theorem Spec.mono {P : Program} {f : FuncId} {args : List Value} {Q Q' : Value → PH → List Asrt → Prop} (h : Spec P f args F H Q) (hq : ∀ v F' H', F.le F' → Q v F' H' → Q' v F' H') : Spec P f args F H Q' := fun X w s =>
  (h X w s).mono fun _ _ ⟨v, F', H', he, hF, hQ, hm, hs⟩ => ⟨v, F', H', he, hF, hq v F' H' hF hQ, hm, hs⟩
/-- A call that only hands back a value. -/
def Pure (P : Program) (f : FuncId) (args : List Value) (F : PH) (v : Value) : Prop := Spec P f args F [] fun u _ H' => u = v ∧ H' = []
def Post (w0 : World) (F : PH) (X : List Asrt) (Q : Value → PH → List Asrt → Prop) (e : Ending) (w' : World) : Prop :=
  ∃ v F' H', e = .returned v ∧ F.le F' ∧ Q v F' H' ∧ Mild w0 w' ∧ Sat F' (H' ++ X) w'
def argEnv : Nat → List Value → Env
  | _, [] => []
  | n, v :: r => (n, v) :: argEnv (n + 1) r
theorem argEnv_get : ∀ (vs : List Value) (n t : Nat) (v : Value), (argEnv n vs).get t = some v → n ≤ t ∧ vs[t - n]? = some v
  | [], n, t, v, h => by cases h
  | u :: r, n, t, v, h => by
    unfold argEnv at h
    rw [Env.get_cons] at h
    split at h
    · rename_i e; subst e; cases h; simp
    · rename_i hne
      obtain ⟨h1, h2⟩ := argEnv_get r (n + 1) t v h
      refine ⟨by omega, ?_⟩
      obtain ⟨m, rfl⟩ : ∃ m, t = n + 1 + m := ⟨t - (n + 1), by omega⟩
      rw [show n + 1 + m - (n + 1) = m from by omega] at h2
      rw [show n + 1 + m - n = m + 1 from by omega]
      exact h2
theorem Spec.of {P : Program} {f : FuncId} {fn : Func} {c : Code} {args : List Value} {Q : Value → PH → List Asrt → Prop} (hf : P.funcs[f]? = some fn) (hb : fn.body = some c) (hn : Nat.ble args.length fn.ntmps = true)
    (h : ∀ X w0, J { P := P, fn := fn, R := Post w0 F X Q, N := fn.ntmps, w0 := w0 } [.code c] (argEnv 0 args) F (H ++ X)) : Spec P f args F H Q := fun X w s => by
  have hn' : args.length ≤ fn.ntmps := Nat.le_of_ble_eq_true hn
  refine calls_of_wp hf hb ?_
  have h1 := h X w { tmps := args.toArray ++ Array.replicate (fn.ntmps - args.toArray.size) undef, defers := [] } w
    ⟨by simp; omega, rfl, fun t v e => ?_⟩ (Mild.refl w) s
  · exact wp_mono h1 fun e a w he => he
  · obtain ⟨_, h2⟩ := argEnv_get args 0 t v e
    rw [Nat.sub_zero] at h2
    obtain ⟨hlt, h3⟩ := List.getElem?_eq_some_iff.1 h2
    simp [Array.getD_eq_getD_getElem?, Array.getElem?_append, hlt, h3]
end

section
variable {P : Program} {f : FuncId} {fn : Func} {c : Code} {F : PH} {H : List Asrt} {Q : Value → PH → List Asrt → Prop} {v0 v1 v2 v3 v4 v5 v6 v7 : Value} (hf : P.funcs[f]? = some fn) (hb : fn.body = some c)
include hf hb
theorem Spec.of1 (hn : Nat.ble 1 fn.ntmps = true) (h : ∀ X w0, J ⟨P, fn, Post w0 F X Q, fn.ntmps, w0⟩ [.code c] [(0, v0)] F (H ++ X)) : Spec P f [v0] F H Q := Spec.of hf hb hn h
theorem Spec.of2 (hn : Nat.ble 2 fn.ntmps = true) (h : ∀ X w0, J ⟨P, fn, Post w0 F X Q, fn.ntmps, w0⟩ [.code c] [(0, v0), (1, v1)] F (H ++ X)) : Spec P f [v0, v1] F H Q := Spec.of hf hb hn h
theorem Spec.of3 (hn : Nat.ble 3 fn.ntmps = true) (h : ∀ X w0, J ⟨P, fn, Post w0 F X Q, fn.ntmps, w0⟩ [.code c] [(0, v0), (1, v1), (2, v2)] F (H ++ X)) : Spec P f [v0, v1, v2] F H Q := Spec.of hf hb hn h
theorem Spec.of4 (hn : Nat.ble 4 fn.ntmps = true) (h : ∀ X w0, J ⟨P, fn, Post w0 F X Q, fn.ntmps, w0⟩ [.code c] [(0, v0), (1, v1), (2, v2), (3, v3)] F (H ++ X)) : Spec P f [v0, v1, v2, v3] F H Q := Spec.of hf hb hn h
theorem Spec.of5 (hn : Nat.ble 5 fn.ntmps = true) (h : ∀ X w0, J ⟨P, fn, Post w0 F X Q, fn.ntmps, w0⟩ [.code c] [(0, v0), (1, v1), (2, v2), (3, v3), (4, v4)] F (H ++ X)) : Spec P f [v0, v1, v2, v3, v4] F H Q := Spec.of hf hb hn h
end
/-! ### the end -/
section
variable {C : Ctx} {k : List KItem} {l : Env} {F F0 : PH} {H X : List Asrt} {Q : Value → PH → List Asrt → Prop}
theorem J_ret0 {v : Value} (hr : ∀ a w, Holds C.N l a → Sat F H w → (results C.fn a.tmps).run C.P w = .ok v w) (hR : ∀ w, Mild C.w0 w → Sat F H w → C.R (.returned v) w) : J C (.code .ret :: k) l F H := fun a w ha hm hs =>
  wp_ret (kpost_ret ⟨ha.defers, v, hr a w ha hs, hR w hm hs⟩)
theorem J_ret1 {P : Program} {fn : Func} {N : Nat} {w0 : World} {t : Nat} {v : Value} (hres : fn.results = #[.tmp t]) (hv : l.get t = some v) (H' : List Asrt) (hH : H = H' ++ X) (hF : F0.le F) (hQ : Q v F H') :
    J ⟨P, fn, Post w0 F0 X Q, N, w0⟩ (.code .ret :: k) l F H := J_ret0 (v := v) (fun a w ha _ => by
      have := ha.val t v hv
      simp only [Array.getD_eq_getD_getElem?] at this
      simp [results, hres, go_sem, this]) fun w hm hs => ⟨v, F, H', rfl, hF, hQ, hm, hH ▸ hs⟩
end
section
variable {C : Ctx} {ops : Array Oper} {rest : List Oper} {k : List KItem} {l : Env} {F : PH} {H : List Asrt}
end
theorem Ev.of {P : Program} {o : Oper} {l : Env} {F : PH} {H : List Asrt} {v : Value} (h : ∀ ρ : Operand → Value, (∀ x u, opv l x = some u → ρ x = u) → ∀ w, Sat F H w → (execOp ρ o).run P w = .ok (.value v) w) : Ev P o l F H v := fun _ a w ha hs => h a.eval (fun _ _ e => ha.opv e) w hs
theorem Ev'.of {P : Program} {o : Oper} {l : Env} {F : PH} {H : List Asrt} {Q : Value → PH → List Asrt → Prop} (h : ∀ N a w, Holds N l a → Sat F H w → ∃ nx w' v F' H', (execOp a.eval o).run P w = .ok nx w' ∧ (nx = .value v ∨ (nx = .skip ∧ v = undef)) ∧ Mild w w' ∧ F.le F' ∧ Q v F' H' ∧ Sat F' H' w') : Ev' P o l F H Q := h
theorem Ev'.out {P : Program} {o : Oper} {l : Env} {F : PH} {H : List Asrt} {Q : Value → PH → List Asrt → Prop} (h : Ev' P o l F H Q) : ∀ N a w, Holds N l a → Sat F H w → ∃ nx w' v F' H', (execOp a.eval o).run P w = .ok nx w' ∧ (nx = .value v ∨ (nx = .skip ∧ v = undef)) ∧ Mild w w' ∧ F.le F' ∧ Q v F' H' ∧ Sat F' H' w' := h
theorem Ev.out {P : Program} {o : Oper} {l : Env} {F : PH} {H : List Asrt} {v : Value} (h : Ev P o l F H v) : ∀ N a w, Holds N l a → Sat F H w → (execOp a.eval o).run P w = .ok (.value v) w := h
theorem Spec.out {P : Program} {f : FuncId} {args : List Value} {F : PH} {H : List Asrt} {Q : Value → PH → List Asrt → Prop} (h : Spec P f args F H Q) : ∀ (X : List Asrt) (w : World), Sat F (H ++ X) w → Calls P f args.toArray w fun e w' => ∃ v F' H', e = .returned v ∧ F.le F' ∧ Q v F' H' ∧ Mild w w' ∧ Sat F' (H' ++ X) w' := h
attribute [irreducible] J JO Spec Ev Ev'
end Go.Proofs.YtjjjckmpkldgnaaGreatDoor
