/-
  A small logic for walks: separated memory (what is never written, and what the call owns), a frame's slots as a list, one rule an operation. Plain theorems over any program; no condition.
-/
import Derived.WalkKit
import Derived.WalkSpells
import Derived.WalkLawsBesides
import Derived.Maps.AppendAt
namespace Go.Proofs.YtekdmpbkcjjllaaDoor
open Go.RowKit

/-! ### partial heaps -/
abbrev PH := Nat → Option Obj
namespace PH
def le (f g : PH) : Prop := ∀ b o, f b = some o → g b = some o
def dj (f g : PH) : Prop := ∀ b, f b = none ∨ g b = none
def un (f g : PH) : PH := fun b => (f b).or (g b)
def emp : PH := fun _ => none
def one (b : Nat) (o : Obj) : PH := fun x => if x = b then some o else none
theorem ler (f : PH) : f.le f := fun _ _ h => h
theorem le.trans {f g h : PH} (a : f.le g) (b : g.le h) : f.le h := fun x o e => b x o (a x o e)
theorem le_l (f g : PH) : f.le (f.un g) := fun b o h => by simp [un, h]
theorem le_r {f g : PH} (d : f.dj g) : g.le (f.un g) := fun b o h => by
  rcases d b with e | e
  · simp [un, h, e]
  · rw [e] at h; cases h
theorem un_le {f g h : PH} (a : f.le h) (b : g.le h) : (f.un g).le h := fun x o e => by
  unfold un at e
  cases hf : f x with
  | some y => rw [hf] at e; simp at e; subst e; exact a x _ hf
  | none => rw [hf] at e; simp at e; exact b x _ e
theorem dj.symm {f g : PH} (d : f.dj g) : g.dj f := fun b => (d b).symm
theorem dj.mono {f f' g : PH} (d : f.dj g) (a : f'.le f) : f'.dj g := fun b => by
  rcases d b with e | e
  · left
    cases h : f' b with
    | none => rfl
    | some y => rw [a b y h] at e; cases e
  · exact .inr e
theorem dj.mono_r {f g g' : PH} (d : f.dj g) (a : g'.le g) : f.dj g' := (d.symm.mono a).symm
theorem dj_un {f g h : PH} (a : f.dj h) (b : g.dj h) : (f.un g).dj h := fun x => by
  rcases a x with e | e
  · rcases b x with e' | e'
    · left; simp [un, e, e']
    · exact .inr e'
  · exact .inr e
theorem dj_un_r {f g h : PH} (a : h.dj f) (b : h.dj g) : h.dj (f.un g) := (dj_un a.symm b.symm).symm
theorem un_comm {f g : PH} (d : f.dj g) : f.un g = g.un f := funext fun b => by
  rcases d b with e | e
  · simp [un, e]
  · simp [un, e]
theorem un_assoc (f g h : PH) : (f.un g).un h = f.un (g.un h) := funext fun b => by
  unfold un; cases f b <;> simp
theorem emp_un (f : PH) : emp.un f = f := funext fun b => by simp [un, emp]
theorem un_emp (f : PH) : f.un emp = f := funext fun b => by simp [un, emp]
theorem dj_emp (f : PH) : f.dj emp := fun _ => .inr rfl
theorem emp_dj (f : PH) : emp.dj f := fun _ => .inl rfl
theorem emp_le (f : PH) : emp.le f := fun _ _ h => by cases h
theorem one_self (b : Nat) (o : Obj) : one b o b = some o := by simp [one]
theorem one_le {b : Nat} {o : Obj} {g : PH} (h : g b = some o) : (one b o).le g := fun x o' e => by
  unfold one at e
  split at e
  · rename_i hx; subst hx; cases e; exact h
  · cases e
theorem dj_one {f : PH} {b : Nat} {o : Obj} (h : f b = none) : f.dj (one b o) := fun x => by
  by_cases hx : x = b
  · subst hx; exact .inl h
  · right; simp [one, hx]
end PH

def ph (w : World) : PH := fun b => w.heap[b]?
theorem ph_lt {w : World} {b : Nat} {o : Obj} (h : ph w b = some o) : b < w.heap.size := (Array.getElem?_eq_some_iff.1 h).1
theorem ph_none {w : World} {b : Nat} (h : w.heap.size ≤ b) : ph w b = none := Array.getElem?_eq_none h

abbrev Asrt := PH → Prop
def Star : List Asrt → PH → Prop
  | [], h => h = PH.emp
  | A :: H, h => ∃ h1 h2, A h1 ∧ Star H h2 ∧ h1.dj h2 ∧ h = h1.un h2
def Sat (F : PH) (H : List Asrt) (w : World) : Prop := ∃ r, Star H r ∧ F.dj r ∧ (F.un r).le (ph w)

/-- A stands somewhere in H; H' is H with A' in its place. -/
inductive Upd (A A' : Asrt) : List Asrt → List Asrt → Prop where
  | here {H : List Asrt} : Upd A A' (A :: H) (A' :: H)
  | there {B : Asrt} {H H' : List Asrt} (h : Upd A A' H H') : Upd A A' (B :: H) (B :: H')
/-- H is Hr with A put in somewhere. -/
inductive Pick (A : Asrt) : List Asrt → List Asrt → Prop where
  | here {H : List Asrt} : Pick A (A :: H) H
  | there {B : Asrt} {H Hr : List Asrt} (h : Pick A H Hr) : Pick A (B :: H) (B :: Hr)

theorem star_swap {a b c : PH} (hab : a.dj b) (hc : c.dj (a.un b)) : c.dj a ∧ c.dj b :=
  ⟨hc.mono_r (PH.le_l _ _), hc.mono_r (PH.le_r hab)⟩
theorem Star.focus {A A' : Asrt} {H H' : List Asrt} (u : Upd A A' H H') : ∀ {r : PH}, Star H r →
    ∃ h s, A h ∧ h.dj s ∧ r = h.un s ∧ ∀ h', A' h' → h'.dj s → Star H' (h'.un s) := by
  induction u with
  | here =>
    rintro r ⟨h, s, hA, hs, hd, rfl⟩
    exact ⟨h, s, hA, hd, rfl, fun h' hA' hd' => ⟨h', s, hA', hs, hd', rfl⟩⟩
  | @there B H H' _ ih =>
    rintro r ⟨b, r2, hB, hr, hd, rfl⟩
    obtain ⟨h, s, hA, hhs, rfl, hk⟩ := ih hr
    obtain ⟨hbh, hbs⟩ := star_swap hhs hd
    refine ⟨h, b.un s, hA, PH.dj_un_r hbh.symm hhs, ?_, fun h' hA' hd' => ?_⟩
    · rw [← PH.un_assoc, ← PH.un_assoc, PH.un_comm hbh]
    · have h1 : h'.dj b := hd'.mono_r (PH.le_l _ _)
      have h2 : h'.dj s := hd'.mono_r (PH.le_r hbs)
      refine ⟨b, h'.un s, hB, hk h' hA' h2, PH.dj_un_r h1.symm hbs, ?_⟩
      rw [← PH.un_assoc, ← PH.un_assoc, PH.un_comm h1]
theorem Star.pick {A : Asrt} {H Hr : List Asrt} (p : Pick A H Hr) : ∀ {r : PH}, Star H r → Star (A :: Hr) r := by
  induction p with
  | here => exact fun h => h
  | @there B H Hr _ ih =>
    rintro r ⟨b, r2, hB, hr, hd, rfl⟩
    obtain ⟨h, s, hA, hs, hhs, rfl⟩ := ih hr
    obtain ⟨hbh, hbs⟩ := star_swap hhs hd
    refine ⟨h, b.un s, hA, ⟨b, s, hB, hs, hbs, rfl⟩, PH.dj_un_r hbh.symm hhs, ?_⟩
    rw [← PH.un_assoc, ← PH.un_assoc, PH.un_comm hbh]
theorem Star.unpick {A : Asrt} {H Hr : List Asrt} (p : Pick A H Hr) : ∀ {r : PH}, Star (A :: Hr) r → Star H r := by
  induction p with
  | here => exact fun h => h
  | @there B H Hr _ ih =>
    rintro r ⟨h, r2, hA, ⟨b, s, hB, hs, hbs, rfl⟩, hd, rfl⟩
    obtain ⟨hhb, hhs⟩ := star_swap hbs hd
    refine ⟨b, h.un s, hB, ih ⟨h, s, hA, hs, hhs, rfl⟩, PH.dj_un_r hhb.symm hbs, ?_⟩
    rw [← PH.un_assoc, ← PH.un_assoc, PH.un_comm hhb]
theorem Star.append : ∀ {H K : List Asrt} {r : PH}, Star (H ++ K) r ↔ ∃ a b, Star H a ∧ Star K b ∧ a.dj b ∧ r = a.un b
  | [], K, r => ⟨fun h => ⟨PH.emp, r, rfl, h, PH.emp_dj _, (PH.emp_un _).symm⟩, fun ⟨a, b, ha, hb, _, e⟩ => by
      cases ha; rw [PH.emp_un] at e; subst e; exact hb⟩
  | A :: H, K, r => by
    constructor
    · rintro ⟨h, r2, hA, hr, hd, rfl⟩
      obtain ⟨a, b, ha, hb, hab, rfl⟩ := Star.append.1 hr
      obtain ⟨h1, h2⟩ := star_swap hab hd
      exact ⟨h.un a, b, ⟨h, a, hA, ha, h1, rfl⟩, hb, PH.dj_un h2 hab, (PH.un_assoc _ _ _).symm⟩
    · rintro ⟨_, b, ⟨h, a, hA, ha, h1, rfl⟩, hb, hab, rfl⟩
      have e1 : h.dj b := hab.mono (PH.le_l _ _)
      have e2 : a.dj b := hab.mono (PH.le_r h1)
      exact ⟨h, a.un b, hA, Star.append.2 ⟨a, b, ha, hb, e2, rfl⟩, PH.dj_un_r h1 e1, PH.un_assoc _ _ _⟩

section
variable {F F' : PH} {H H' K : List Asrt} {A A' : Asrt} {w w' : World}
theorem Sat.le (s : Sat F H w) : F.le (ph w) := let ⟨_, _, _, h⟩ := s; (PH.le_l _ _).trans h
theorem Sat.mono (s : Sat F H w) (h : F'.le F) : Sat F' H w := by
  obtain ⟨r, hr, hd, hl⟩ := s
  exact ⟨r, hr, hd.mono h, PH.un_le (h.trans ((PH.le_l _ _).trans hl)) ((PH.le_r hd).trans hl)⟩
theorem Sat.world (s : Sat F H w) (h : (ph w).le (ph w')) : Sat F H w' := by
  obtain ⟨r, hr, hd, hl⟩ := s
  exact ⟨r, hr, hd, hl.trans h⟩
theorem Sat.pick (p : Pick A H K) (s : Sat F H w) : Sat F (A :: K) w := let ⟨r, hr, hd, hl⟩ := s; ⟨r, hr.pick p, hd, hl⟩
theorem Sat.unpick (p : Pick A H K) (s : Sat F (A :: K) w) : Sat F H w := let ⟨r, hr, hd, hl⟩ := s; ⟨r, hr.unpick p, hd, hl⟩
theorem Sat.persist (s : Sat F (A :: H) w) : ∃ h, A h ∧ F.dj h ∧ Sat (F.un h) H w := by
  obtain ⟨_, ⟨h, r, hA, hr, hhr, rfl⟩, hd, hl⟩ := s
  have e1 : F.dj h := hd.mono_r (PH.le_l _ _)
  have e2 : F.dj r := hd.mono_r (PH.le_r hhr)
  exact ⟨h, hA, e1, r, hr, PH.dj_un e2 hhr, by rw [PH.un_assoc]; exact hl⟩
theorem Sat.drop (s : Sat F (A :: H) w) : Sat F H w := let ⟨_, _, _, h⟩ := s.persist; h.mono (PH.le_l _ _)
theorem Sat.focus (u : Upd A A' H H') (s : Sat F H w) : ∃ h R, A h ∧ R.dj h ∧ (R.un h).le (ph w) ∧ F.le R ∧
    ∀ h' w', A' h' → R.dj h' → (R.un h').le (ph w') → Sat F H' w' := by
  obtain ⟨r, hr, hd, hl⟩ := s
  obtain ⟨h, s, hA, hhs, rfl, hk⟩ := hr.focus u
  have e1 : F.dj h := hd.mono_r (PH.le_l _ _)
  have e2 : F.dj s := hd.mono_r (PH.le_r hhs)
  refine ⟨h, F.un s, hA, PH.dj_un e1 hhs.symm, ?_, PH.le_l _ _, fun h' w' hA' hd' hl' => ?_⟩
  · rw [PH.un_assoc, PH.un_comm hhs.symm]; exact hl
  · have e3 : F.dj h' := hd'.mono (PH.le_l _ _)
    have e4 : s.dj h' := hd'.mono (PH.le_r e2)
    refine ⟨h'.un s, hk h' hA' e4.symm, PH.dj_un_r e3 e2, ?_⟩
    rw [PH.un_comm e4.symm, ← PH.un_assoc]; exact hl'
theorem Sat.add (s : Sat F H w) : ∃ R, R.le (ph w) ∧ F.le R ∧ ∀ (A : Asrt) h w', A h → R.dj h → (R.un h).le (ph w') → Sat F (A :: H) w' := by
  obtain ⟨r, hr, hd, hl⟩ := s
  refine ⟨F.un r, hl, PH.le_l _ _, fun A h w' hA hdj hl' => ?_⟩
  have e1 : F.dj h := hdj.mono (PH.le_l _ _)
  have e2 : r.dj h := hdj.mono (PH.le_r hd)
  refine ⟨h.un r, ⟨h, r, hA, hr, e2.symm, rfl⟩, PH.dj_un_r e1 hd, ?_⟩
  rw [PH.un_comm e2.symm, ← PH.un_assoc]; exact hl'
theorem Sat.nil (w : World) : Sat (ph w) [] w := ⟨PH.emp, rfl, PH.dj_emp _, by rw [PH.un_emp]; exact PH.ler _⟩
/-- H splits: what H holds may be taken for a part of the frame. -/
theorem Sat.split (s : Sat F (H ++ K) w) : ∃ r, Star K r ∧ F.dj r ∧ Sat (F.un r) H w ∧ ∀ F' H' w', F.le F' → F'.dj r → Sat (F'.un r) H' w' → Sat F' (H' ++ K) w' := by
  obtain ⟨r, hr, hd, hl⟩ := s
  obtain ⟨a, b, ha, hb, hab, rfl⟩ := Star.append.1 hr
  have e1 : F.dj a := hd.mono_r (PH.le_l _ _)
  have e2 : F.dj b := hd.mono_r (PH.le_r hab)
  refine ⟨b, hb, e2, ⟨a, ha, PH.dj_un e1 hab.symm, ?_⟩, fun F' H' w' _ hdj ⟨c, hc, hdc, hlc⟩ => ?_⟩
  · rw [PH.un_assoc, PH.un_comm hab.symm]; exact hl
  · have e3 : F'.dj c := hdc.mono (PH.le_l _ _)
    have e4 : b.dj c := hdc.mono (PH.le_r hdj)
    refine ⟨c.un b, Star.append.2 ⟨c, b, hc, hb, e4.symm, rfl⟩, PH.dj_un_r e3 hdj, ?_⟩
    rw [PH.un_comm e4.symm, ← PH.un_assoc]; exact hlc
end

/-! ### worlds -/
structure Mild (w w' : World) : Prop where
  os : w'.os = w.os
  tape : w'.tape = w.tape
  output : w'.output = w.output
  size : w.heap.size ≤ w'.heap.size
theorem Mild.refl (w : World) : Mild w w := ⟨rfl, rfl, rfl, Nat.le_refl _⟩
theorem Mild.trans {a b c : World} (h : Mild a b) (k : Mild b c) : Mild a c := ⟨k.os.trans h.os, k.tape.trans h.tape, k.output.trans h.output, Nat.le_trans h.size k.size⟩
theorem ph_drew (w : World) : ph w.drew = ph w := rfl
theorem Mild.drew (w : World) : Mild w w.drew := ⟨rfl, rfl, rfl, Nat.le_refl _⟩
theorem Mild.alloc (w : World) (o : Obj) : Mild w (w.alloc o) := ⟨rfl, rfl, rfl, by simp⟩
theorem Mild.setCell (w : World) (a : Addr) (v : Value) : Mild w (w.setCell a v) := ⟨rfl, rfl, rfl, by simp [World.setCell]⟩
theorem ph_alloc_le (w : World) (o : Obj) : (ph w).le (ph (w.alloc o)) := fun b o' h => (heap_alloc_old w o (h := ph_lt h)).trans h
theorem ph_alloc_new (w : World) (o : Obj) : ph (w.alloc o) w.heap.size = some o := heap_alloc_new w o
theorem Sat.alloc {F : PH} {H : List Asrt} {w : World} (s : Sat F H w) (A : Asrt) (o : Obj) (hA : A (PH.one w.heap.size o)) : Sat F (A :: H) (w.alloc o) := by
  obtain ⟨R, hR, _, k⟩ := s.add
  refine k A _ _ hA (PH.dj_one ?_) (PH.un_le (hR.trans (ph_alloc_le w o)) (PH.one_le (ph_alloc_new w o)))
  cases h : R w.heap.size with
  | none => rfl
  | some y => exact absurd (ph_lt (hR _ _ h)) (by omega)
theorem Mild.grown {w w' : World} {r : Option Nat} (g : w.grownBy w' r) : Mild w w' := ⟨g.os, g.tape, g.output, g.size⟩

end Go.Proofs.YtekdmpbkcjjllaaDoor
