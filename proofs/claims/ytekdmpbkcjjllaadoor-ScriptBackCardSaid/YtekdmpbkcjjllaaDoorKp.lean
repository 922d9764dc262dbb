/-
  Open orders: what a call has left may be kept for good, and what is read of it may then be taken first. Plain theorems over any program; no condition.
-/
import Derived.Test.YtekdmpbkcjjllaaDoorKo
namespace Go.Proofs.YtekdmpbkcjjllaaDoor
open Go.RowKit
theorem Sat.unpersist {F h' : PH} {A : Asrt} {H : List Asrt} {w : World} (hA : A h') (hd : F.dj h') (s : Sat (F.un h') H w) : Sat F (A :: H) w := by
  obtain ⟨r, hr, hdr, hl⟩ := s
  have e1 : F.dj r := hdr.mono (PH.le_l _ _)
  have e2 : h'.dj r := hdr.mono (PH.le_r hd)
  exact ⟨h'.un r, ⟨h', r, hA, hr, e2, rfl⟩, PH.dj_un_r hd e1, by rw [← PH.un_assoc]; exact hl⟩
theorem wpAnyH_mono {P : Program} {md : Region.Mode} {ops : Array Oper} {Q : Exit → Act → World → Prop} {S S' : World → Prop} (h : ∀ w, S' w → S w) : ∀ (fuel : Nat) (listed : Array Bool) (a : Act) (w : World), wpAnyH P md ops Q S' fuel listed a w → wpAnyH P md ops Q S fuel listed a w
  | 0, _, _, _, g => g
  | fuel + 1, _, _, _, g => ⟨g.1, fun i hi => wpOp_mono (fun a' w' h' => ⟨h w' h'.1, wpAnyH_mono h fuel _ a' w' h'.2⟩) (g.2 i hi)⟩
section
variable {C : Ctx} {S : World → Prop} {ops : Array Oper} {fuel : Nat} {listed : Array Bool} {k : List KItem} {l : Env} {F Fs : PH} {H Hs : List Asrt}
/-- From here on more stays. -/
theorem aS (Fs' : PH) (Hs' : List Asrt) (h1 : ∀ w, Sat Fs' Hs' w → Sat Fs Hs w) (h2 : ∀ w, Sat F H w → Sat Fs' Hs' w) (h : JA C (Sat Fs' Hs') ops fuel listed k l F H) : JA C (Sat Fs Hs) ops fuel listed k l F H := by
  unfold JA at *
  exact fun _ a w ha hm hs => wpAnyH_mono h1 fuel listed a w (h h2 a w ha hm hs)
/-- What F holds stays. -/
theorem aF (hF : Fs.le F) (h : JA C (Sat F []) ops fuel listed k l F H) : JA C (Sat Fs []) ops fuel listed k l F H := aS F [] (fun _ s => s.mono hF) (fun _ s => s.bare) h
theorem aPersist {A : Asrt} (h : ∀ h', A h' → F.dj h' → JA C S ops fuel listed k l (F.un h') H) : JA C S ops fuel listed k l F (A :: H) := by
  unfold JA at *
  intro hS a w ha hm hs
  obtain ⟨h', hA, hdj, hs'⟩ := hs.persist
  exact h h' hA hdj (fun w' s' => hS w' (s'.unpersist hA hdj)) a w ha hm hs'
theorem aKeep (l' : Env) (h : JA C S ops fuel listed k l' F H) (s : l'.sub l) : JA C S ops fuel listed k l F H := by
  unfold JA at *
  exact fun hS a w ha hm hs => h hS a w (ha.sub s) hm hs
theorem aWeak {F' : PH} {H' : List Asrt} (h : JA C S ops fuel listed k l F' H') (hS : ∀ w, Sat F' H' w → S w) (s : ∀ w, Sat F H w → Sat F' H' w) : JA C S ops fuel listed k l F H := by
  unfold JA at *
  exact fun _ a w ha hm hs => h hS a w ha hm (s w hs)
end
end Go.Proofs.YtekdmpbkcjjllaaDoor
