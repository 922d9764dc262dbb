/-
  'append(append([]T{}, a...), x)' and 'append(append(append([]T{}, a...), x), b...)' in an open order. Plain theorems over any program; no condition.
-/
import Derived.Test.YtmicjjhkoicdnaaLh
import Derived.Test.YtmicjjhkoicdnaaLd
namespace Go.Proofs.Ytmicjjhkoicdnaa
open Go.RowKit
section
variable {C : Ctx} {Fs : PH} {Hs : List Asrt} {ops : Array Oper} {fuel : Nat} {listed : Array Bool} {k : List KItem} {l : Env} {F : PH} {Y : List Asrt}
theorem aKeepG {S : World → Prop} {H : List Asrt} (l' : Env) (h : JA C S ops fuel listed k l' F H) (s : ∀ t v, l'.get t = some v → l.get t = some v) : JA C S ops fuel listed k l F H := by
  unfold JA at *
  exact fun hS a w ha hm hs => h hS a w ⟨ha.size, ha.defers, fun t v e => ha.val t v (s t v e)⟩ hm hs
theorem opv_put {d t : Nat} {v u : Value} {l : Env} (h : opv l (.tmp t) = some v) (hn : Nat.beq d t = false) : opv ((d, u) :: l) (.tmp t) = some v := by
  have : d ≠ t := fun e => by subst e; simp at hn
  show Env.get ((d, u) :: l) t = some v
  rw [Env.get_cons, if_neg this]
  exact h
theorem opv_at {d : Nat} {v : Value} {l : Env} : opv ((d, v) :: l) (.tmp d) = some v := by
  show Env.get ((d, v) :: l) d = some v
  rw [Env.get_cons, if_pos rfl]
theorem aApp2 {a b c d da db dc dd tA ty T E size bytes nA : Nat} {zv vA yv : Value} {rA xc : List Value} {Ua Ub Uc Ud : TypeId} {pa pb pc pd : String} {fa fb fc fd : Array Edge}
    (hoa : ops[a]? = some ⟨some da, .buildSlice T 0 #[], Ua, pa, fa, none⟩)
    (hob : ops[b]? = some ⟨some db, .call { callee := .builtin .append, args := #[.tmp da, .tmp tA], argTypes := #[T, T] }, Ub, pb, fb, none⟩)
    (hoc : ops[c]? = some ⟨some dc, .buildSlice T 1 #[(0, .tmp ty)], Uc, pc, fc, none⟩)
    (hod : ops[d]? = some ⟨some dd, .call { callee := .builtin .append, args := #[.tmp db, .tmp dc], argTypes := #[T, T] }, Ud, pd, fd, none⟩)
    (hA : opv l (.tmp tA) = some vA) (hy : opv l (.tmp ty) = some yv)
    (r1 : Region.ready .any ops listed = [a, c]) (r2 : Region.ready .any ops (listed.setIfInBounds a true) = [b, c]) (r3 : Region.ready .any ops (listed.setIfInBounds c true) = [a])
    (r4 : Region.ready .any ops ((listed.setIfInBounds a true).setIfInBounds b true) = [c]) (r5 : Region.ready .any ops ((listed.setIfInBounds a true).setIfInBounds c true) = [b])
    (r6 : Region.ready .any ops (((listed.setIfInBounds a true).setIfInBounds b true).setIfInBounds c true) = [d])
    (hN : (Nat.blt da C.N && Nat.blt db C.N && Nat.blt dc C.N && Nat.blt dd C.N) = true)
    (hne : (!Nat.beq da tA && !Nat.beq dc tA && !Nat.beq da ty && !Nat.beq db ty && !Nat.beq dc db && !Nat.beq dc da && !Nat.beq db dc && !Nat.beq da dc && !Nat.beq a c && !Nat.beq b c) = true)
    (hv : VC yv xc) (hxl : xc.length = size) (hxo : Ones xc) (he : Elem C.P T E size bytes zv)
    (hrA : ∀ H, RdS F H size vA nA rA) (hoA : Ones rA) (hb : (nA + 1) * bytes ≤ 140737488355328) (hS : ∀ w, Sat F Y w → Sat Fs Hs w)
    (h : ∀ u wa wb wc, JA C (Sat Fs Hs) ops fuel ((((listed.setIfInBounds a true).setIfInBounds b true).setIfInBounds c true).setIfInBounds d true) k ((dd, u) :: (dc, wc) :: (db, wb) :: (da, wa) :: l) F (own u E size (nA + 1) (rA ++ xc) :: Y)) :
    JA C (Sat Fs Hs) ops (fuel + 4) listed k l F Y := by
  simp only [Bool.and_eq_true, Bool.not_eq_true'] at hN hne
  obtain ⟨⟨⟨n1, n2⟩, n3⟩, n4⟩ := hN
  obtain ⟨⟨⟨⟨⟨⟨⟨⟨⟨e1, e2⟩, e3⟩, e4⟩, e5⟩, e6⟩, e7⟩, e8⟩, e9⟩, e10⟩ := hne
  have hb2 : nA * bytes ≤ 140737488355328 := Nat.le_trans (Nat.mul_le_mul_right _ (Nat.le_succ nA)) hb
  have ne9 : a ≠ c := fun e => by subst e; simp at e9
  have ne10 : b ≠ c := fun e => by subst e; simp at e10
  have nda : da ≠ dc := fun e => by subst e; simp at e6
  have ndb : db ≠ dc := fun e => by subst e; simp at e5
  -- the last append, from the state with both parts
  have last : ∀ (l' : Env) (wa wb : Value) (b6 : Nat), (∀ t v, Env.get ((dc, Value.slice (some ⟨b6, 0, none⟩) 1 1) :: (db, wb) :: (da, wa) :: l) t = some v → Env.get l' t = some v) →
      JA C (Sat Fs Hs) ops (fuel + 1) (((listed.setIfInBounds a true).setIfInBounds b true).setIfInBounds c true) k l' F (blk b6 E xc :: own wb E size nA rA :: Y) := fun l' wa wb b6 hl' => by
    refine aKeepG _ ?_ hl'
    refine aB (i := d) r6 (aE hod (ev_append_s (n := nA) (m := 1) (xs := rA) (news := xc) (K := fun v' => blk b6 E xc :: own v' E size (nA + 1) (rA ++ xc) :: Y) (opv_put opv_at e5) opv_at he (RdS.blk .here (by rw [hxl, Nat.one_mul]) (by rw [List.drop_zero, List.take_length]) (Nat.le_refl _)) hxo hb (fun v' => .there .here)) rfl n4 (fun _ _ _ _ hq w t => by obtain ⟨rfl, _, rfl⟩ := hq; exact hS _ t.drop.drop) ?_)
    rintro u _ _ _ ⟨rfl, _, rfl⟩
    exact aWeak (h u wa wb _) (fun w t => hS _ t.drop) (fun w t => t.drop)
  refine aB2 (i := a) (i' := c) r1
    (aE hoa (ev_mt he) rfl n1 (fun _ _ _ _ hq w t => by obtain ⟨rfl, _, rfl⟩ := hq; exact hS _ t.drop) ?_)
    (aE hoc (ev_one hy hv hxl he) rfl n3 (fun _ _ _ _ hq w t => by obtain ⟨rfl, _, _, rfl⟩ := hq; exact hS _ t.drop) ?_)
  · rintro wa _ _ _ ⟨rfl, _, rfl⟩
    refine aB2 (i := b) (i' := c) r2
      (aE hob (ev_append_s (n := 0) (m := nA) (xs := []) (news := rA) (K := fun v' => own v' E size nA rA :: Y) opv_at (opv_put hA e1) he (hrA _) hoA (by rw [Nat.zero_add]; exact hb2) (fun v' => by rw [Nat.zero_add, List.nil_append]; exact .here)) rfl n2 (fun _ _ _ _ hq w t => by obtain ⟨rfl, _, rfl⟩ := hq; exact hS _ t.drop) ?_)
      (aE hoc (ev_one (opv_put hy e3) hv hxl he) rfl n3 (fun _ _ _ _ hq w t => by obtain ⟨rfl, _, _, rfl⟩ := hq; exact hS _ t.drop.drop) ?_)
    · rintro wb _ _ _ ⟨rfl, _, rfl⟩
      refine aB (i := c) r4 (aE hoc (ev_one (opv_put (opv_put hy e3) e4) hv hxl he) rfl n3 (fun _ _ _ _ hq w t => by obtain ⟨rfl, _, _, rfl⟩ := hq; exact hS _ t.drop.drop) ?_)
      rintro _ _ _ _ ⟨rfl, b6, rfl, rfl⟩
      exact last _ wa wb b6 fun _ _ e => e
    · rintro _ _ _ _ ⟨rfl, b6, rfl, rfl⟩
      refine aB (i := b) r5 (aE hob (ev_append_s (n := 0) (m := nA) (xs := []) (news := rA) (K := fun v' => blk b6 E xc :: own v' E size nA rA :: Y) (opv_put opv_at e6) (opv_put (opv_put hA e1) e2) he (hrA _) hoA (by rw [Nat.zero_add]; exact hb2) (fun v' => by rw [Nat.zero_add, List.nil_append]; exact .there .here)) rfl n2 (fun _ _ _ _ hq w t => by obtain ⟨rfl, _, rfl⟩ := hq; exact hS _ t.drop.drop) ?_)
      rintro wb _ _ _ ⟨rfl, _, rfl⟩
      rw [show ((listed.setIfInBounds a true).setIfInBounds c true).setIfInBounds b true = ((listed.setIfInBounds a true).setIfInBounds b true).setIfInBounds c true from Array.setIfInBounds_comm _ _ (fun e => ne10 e.symm)]
      refine last _ wa wb b6 fun t v e => ?_
      simp only [Env.get_cons] at e ⊢
      by_cases t1 : db = t
      · subst t1
        rw [if_neg (fun e => ndb e.symm)] at e
        simpa using e
      · rw [if_neg t1] at e ⊢
        exact e
  · rintro _ _ _ _ ⟨rfl, b6, rfl, rfl⟩
    refine aB (i := a) r3 (aE hoa (ev_mt he) rfl n1 (fun _ _ _ _ hq w t => by obtain ⟨rfl, _, rfl⟩ := hq; exact hS _ t.drop.drop) ?_)
    rintro wa _ _ _ ⟨rfl, _, rfl⟩
    rw [show (listed.setIfInBounds c true).setIfInBounds a true = (listed.setIfInBounds a true).setIfInBounds c true from Array.setIfInBounds_comm _ _ (fun e => ne9 e.symm)]
    refine aB (i := b) r5 (aE hob (ev_append_s (n := 0) (m := nA) (xs := []) (news := rA) (K := fun v' => own v' E size nA rA :: blk b6 E xc :: Y) opv_at (opv_put (opv_put hA e2) e1) he (hrA _) hoA (by rw [Nat.zero_add]; exact hb2) (fun v' => by rw [Nat.zero_add, List.nil_append]; exact .here)) rfl n2 (fun _ _ _ _ hq w t => by obtain ⟨rfl, _, rfl⟩ := hq; exact hS _ t.drop.drop) ?_)
    rintro wb _ _ _ ⟨rfl, _, rfl⟩
    rw [show ((listed.setIfInBounds a true).setIfInBounds c true).setIfInBounds b true = ((listed.setIfInBounds a true).setIfInBounds b true).setIfInBounds c true from Array.setIfInBounds_comm _ _ (fun e => ne10 e.symm)]
    refine aWeak (F' := F) (H' := blk b6 E xc :: own wb E size nA rA :: Y) ?_ (fun w t => hS _ t.drop.drop) (fun w t => t.perm (.swap _ _ _))
    refine last _ wa wb b6 fun t v e => ?_
    simp only [Env.get_cons] at e ⊢
    by_cases t1 : db = t
    · subst t1
      rw [if_neg (fun e => ndb e.symm)] at e
      simpa using e
    · rw [if_neg t1] at e ⊢
      by_cases t2 : da = t
      · subst t2
        rw [if_neg (fun e => nda e.symm)] at e
        simpa using e
      · rw [if_neg t2] at e ⊢
        exact e
end
end Go.Proofs.Ytmicjjhkoicdnaa
