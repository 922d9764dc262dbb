/-
  A replica alone: New and Tick by the reckoner. Conditions are typed with each.
-/
import Derived.Test.YtjjjckmpkldgnaaGreatDoorUah
import Derived.Test.YtjjjckmpkldgnaaGreatDoorPda
namespace Go.Proofs.YtjjjckmpkldgnaaGreatDoor.Rk
open Go.RowKit
set_option maxRecDepth 100000
noncomputable def noFS : SV → Bool
  | .pby _ _ => false
  | .fn _ _ _ => false
  | _ => true
noncomputable def noFT : TV → Bool
  | .s x => noFS x
  | .agg l => l.all noFS
noncomputable def noFO : AO → Bool
  | .cells _ cs => cs.all noFS
  | .row _ _ cs => cs.all noFS
  | .brow _ _ => true
  | .map es _ => es.all fun e => noFT e.1 && noFT e.2.1
  | _ => false
section
variable {F : PH} {φ ψ : Vl}
theorem SvD.on {x : SV} {u : Value} (e : noFS x = true) (ho : ∀ m ∈ idS x, ψ m = φ m) (h : SvD F φ x u) : SvD F ψ x u := by
  cases x with
  | ptr a c => obtain ⟨b, κ, e1, r⟩ := h; exact ⟨b, κ, (ho _ (List.mem_singleton_self _)).trans e1, r⟩
  | slc a c l k => obtain ⟨b, κ, e1, r⟩ := h; exact ⟨b, κ, (ho _ (List.mem_singleton_self _)).trans e1, r⟩
  | map a => obtain ⟨b, κ, e1, r⟩ := h; exact ⟨b, κ, (ho _ (List.mem_singleton_self _)).trans e1, r⟩
  | ifc t a c => obtain ⟨b, κ, e1, r⟩ := h; exact ⟨b, κ, (ho _ (List.mem_singleton_self _)).trans e1, r⟩
  | _ => first | exact h | cases e
theorem svs_on : ∀ {l : List SV} {us : List Value}, l.all noFS = true → (∀ m ∈ l.flatMap idS, ψ m = φ m) → All2 (SvD F φ) l us → All2 (SvD F ψ) l us
  | [], _, _, _, .nil => .nil
  | _ :: _, _, e, ho, .cons h t => by
    rw [List.all_cons, Bool.and_eq_true] at e
    exact .cons (h.on e.1 fun m hm => ho m (List.mem_flatMap.2 ⟨_, List.mem_cons_self .., hm⟩)) (svs_on e.2 (fun m hm => ho m (by rw [List.flatMap_cons, List.mem_append]; exact .inr hm)) t)
theorem TvD.on {x : TV} {u : Value} (e : noFT x = true) (ho : ∀ m ∈ idT x, ψ m = φ m) (h : TvD F φ x u) : TvD F ψ x u := by
  cases x with
  | s x => exact SvD.on e ho h
  | agg l => obtain ⟨us, h1, h2⟩ := h; exact ⟨us, svs_on e ho h1, h2⟩
theorem mes_on : ∀ {l : List (TV × TV × Nat)} {ms : List MapEntry}, (l.all fun e => noFT e.1 && noFT e.2.1) = true → (∀ m ∈ l.flatMap (fun e => idT e.1 ++ idT e.2.1), ψ m = φ m) → All2 (EsD F φ) l ms → All2 (EsD F ψ) l ms
  | [], _, _, _, .nil => .nil
  | _ :: _, _, e, ho, .cons h t => by
    rw [List.all_cons, Bool.and_eq_true, Bool.and_eq_true] at e
    rw [List.flatMap_cons] at ho
    exact .cons ⟨h.1.on e.1.1 fun m hm => ho m (List.mem_append_left _ (List.mem_append_left _ hm)), h.2.1.on e.1.2 fun m hm => ho m (List.mem_append_left _ (List.mem_append_right _ hm)), h.2.2⟩ (mes_on e.2 (fun m hm => ho m (List.mem_append_right _ hm)) t)
theorem ObD.on {κ : Nat} {x : AO} {o : Obj} (e : noFO x = true) (ho : ∀ m ∈ idO x, ψ m = φ m) (h : ObD F φ κ x o) : ObD F ψ κ x o := by
  cases x with
  | cells => obtain ⟨us, h1, h2⟩ := h; exact ⟨us, svs_on e ho h1, h2⟩
  | row => obtain ⟨us, cur, h1, h2⟩ := h; exact ⟨us, cur, svs_on e ho h1, h2⟩
  | brow => exact h
  | map => obtain ⟨ms, h1, h2⟩ := h; exact ⟨ms, h1, mes_on e ho h2⟩
  | _ => cases e
theorem ObsP.on {g : Nat → Option AO} {p : PH} (e : ∀ n o, g n = some o → noFO o = true ∧ ψ n = φ n ∧ ∀ m ∈ idO o, ψ m = φ m) (h : ObsP φ g p) : ObsP ψ g p := by
  refine ⟨fun n o hn => ?_, fun n m o o' b κ κ' e1 e2 e3 e4 => h.inj n m o o' b κ κ' e1 e2 ((e n o e1).2.1.symm.trans e3) ((e m o' e2).2.1.symm.trans e4), fun b ob hb => ?_⟩
  · obtain ⟨b, κ, ob, k1, k2, k3⟩ := h.obj n o hn
    obtain ⟨a1, a2, a3⟩ := e n o hn
    exact ⟨b, κ, ob, a2.trans k1, k2, k3.on a1 a3⟩
  · obtain ⟨n, o, κ, k1, k2⟩ := h.dom b ob hb
    exact ⟨n, o, κ, k1, (e n o k1).2.1.trans k2⟩
end
/-- All ids in a list are of some numbers. -/
noncomputable def inB (ks : List Nat) (L : HpT) : Bool := L.all fun p => noFO p.2 && (nhas p.1 ks && (idO p.2).all fun m => nhas m ks)
theorem Obs.on {φ ψ : Vl} {ks : List Nat} {L : HpT} (hb : inB ks L = true) (e : ∀ n ∈ ks, ψ n = φ n) : ∀ p, Obs φ (hpT L).get p → Obs ψ (hpT L).get p := fun p h => by
  refine ObsP.on (fun n o hn => ?_) h
  have h1 := List.all_eq_true.1 hb _ (hpT_mem hn)
  rw [Bool.and_eq_true, Bool.and_eq_true] at h1
  exact ⟨h1.1, e n (nhas_ok.1 h1.2.1), fun m hm => e m (nhas_ok.1 (List.all_eq_true.1 h1.2.2 m hm))⟩
/-- One object of the call's own. -/
def ob1 (φ : Vl) (b κ : Nat) (o : AO) : Asrt := fun h => ∃ ob, ObD PH.emp φ κ o ob ∧ h = PH.one b ob
theorem star_two {A B : Asrt} {p : PH} : Star [A, B] p ↔ ∃ a b, A a ∧ B b ∧ a.dj b ∧ p = a.un b := by
  constructor
  · rintro ⟨a, _, ha, ⟨b, _, hb, rfl, _, rfl⟩, hd, rfl⟩
    rw [PH.un_emp] at *
    exact ⟨a, b, ha, hb, hd, rfl⟩
  · rintro ⟨a, b, ha, hb, hd, rfl⟩
    exact ⟨a, b, ha, ⟨b, PH.emp, hb, rfl, PH.dj_emp _, (PH.un_emp b).symm⟩, hd, rfl⟩
open Classical in
theorem obs_cons {φ : Vl} {n : Nat} {o : AO} {L : HpT} {b κ : Nat} (hn : (hpT L).get n = none) (hφ : φ n = some (b, κ)) (p : PH) : Obs φ (hpT ((n, o) :: L)).get p ↔ Star [ob1 φ b κ o, Obs φ (hpT L).get] p := by
  have hg : ∀ m, (hpT ((n, o) :: L)).get m = if m = n then some o else (hpT L).get m := fun m => by
    show ((hpT L).set o n).get m = _
    rw [Tr.get_set]
  have hgn : (hpT ((n, o) :: L)).get n = some o := by rw [hg, if_pos rfl]
  have hgm : ∀ {m x}, (hpT L).get m = some x → m ≠ n ∧ (hpT ((n, o) :: L)).get m = some x := fun {m x} hm => by
    have : m ≠ n := fun e => by rw [e, hn] at hm; cases hm
    exact ⟨this, by rw [hg, if_neg this]; exact hm⟩
  rw [star_two]
  constructor
  · intro h
    obtain ⟨b1, κ1, ob, k1, k2, k3⟩ := h.obj n o hgn
    rw [hφ] at k1; cases k1
    refine ⟨PH.one b ob, fun x => if x = b then none else p x, ⟨ob, k3, rfl⟩, ⟨fun m x hm => ?_, fun m m' x x' c κ κ' e1 e2 e3 e4 => h.inj m m' x x' c κ κ' (hgm e1).2 (hgm e2).2 e3 e4, fun c ob' hc => ?_⟩, fun x => ?_, funext fun x => ?_⟩
    · obtain ⟨c, κ', ob', q1, q2, q3⟩ := h.obj m x (hgm hm).2
      refine ⟨c, κ', ob', q1, ?_, q3⟩
      show (if c = b then none else p c) = _
      rw [if_neg]
      · exact q2
      · rintro rfl
        exact (hgm hm).1 (h.inj m n x o c κ' κ (hgm hm).2 hgn q1 hφ)
    · split at hc
      · cases hc
      · rename_i hcb
        obtain ⟨m, x, κ', q1, q2⟩ := h.dom c ob' hc
        have hm : m ≠ n := by rintro rfl; rw [hφ] at q2; cases q2; exact hcb rfl
        rw [hg, if_neg hm] at q1
        exact ⟨m, x, κ', q1, q2⟩
    · by_cases e : x = b
      · right; dsimp only; rw [if_pos e]
      · left; unfold PH.one; rw [if_neg e]
    · unfold PH.un PH.one
      by_cases e : x = b
      · rw [if_pos e, e, k2]; rfl
      · rw [if_neg e]; dsimp only; rw [if_neg e]; rfl
  · rintro ⟨p1, p2, ⟨ob, h1, rfl⟩, h2, hd, rfl⟩
    have hb : p2 b = none := by
      rcases hd b with e | e
      · rw [PH.one_self] at e; cases e
      · exact e
    have hne : ∀ {x ob'}, p2 x = some ob' → x ≠ b := fun {x ob'} hx e => by rw [e, hb] at hx; cases hx
    have hun : ∀ {x ob'}, p2 x = some ob' → (PH.one b ob).un p2 x = some ob' := fun {x ob'} hx => by
      unfold PH.un PH.one; rw [if_neg (hne hx)]; exact hx
    refine ⟨fun m x hm => ?_, fun m m' x x' c κ1 κ2 e1 e2 e3 e4 => ?_, fun c ob' hc => ?_⟩
    · rw [hg] at hm
      split at hm
      · rename_i e; subst e; cases hm
        refine ⟨b, κ, ob, hφ, ?_, h1⟩
        unfold PH.un; rw [PH.one_self]; rfl
      · obtain ⟨c, κ', ob', q1, q2, q3⟩ := h2.obj m x hm
        exact ⟨c, κ', ob', q1, hun q2, q3⟩
    · rw [hg] at e1 e2
      split at e1 <;> split at e2
      · rename_i a b; rw [a, b]
      · rename_i a _; subst a
        obtain ⟨c', κ', ob', q1, q2, _⟩ := h2.obj m' x' e2
        rw [e4] at q1; cases q1
        rw [hφ] at e3; cases e3
        exact absurd rfl (hne q2)
      · rename_i a; subst a
        obtain ⟨c', κ', ob', q1, q2, _⟩ := h2.obj m x e1
        rw [e3] at q1; cases q1
        rw [hφ] at e4; cases e4
        exact absurd rfl (hne q2)
      · exact h2.inj m m' x x' c κ1 κ2 e1 e2 e3 e4
    · by_cases e : c = b
      · exact ⟨n, o, κ, hgn, by rw [e]; exact hφ⟩
      · have hc2 : p2 c = some ob' := by
          unfold PH.un PH.one at hc; rw [if_neg e] at hc; exact hc
        obtain ⟨m, x, κ', q1, q2⟩ := h2.dom c ob' hc2
        exact ⟨m, x, κ', (hgm q1).2, q2⟩
end Go.Proofs.YtjjjckmpkldgnaaGreatDoor.Rk
namespace Go.Proofs.YtjjjckmpkldgnaaGreatDoor.Rk.Run
open Go Go.RowKit
set_option maxRecDepth 100000
noncomputable def midC : List SV := [q 4 0, q 7 0, q 9 0, q 10 0, q 12 0, q 33 0, q 34 0, M 35]
noncomputable def repO (d : Int) : AO := .cells 77 [.ifc 27 2 0, I 4, I 1, I 0, bt, I 0, zs, zs, I 0, q 4 0, q 7 0, q 9 0, q 10 0, q 12 0, q 33 0, q 34 0, M 35, .int .i64 d, zs]
noncomputable def repR : HpT := [(4, .cells 107 [I 4, I 0, M 3]), (7, .cells 111 [I 4, I 1, M 5, K 6 0 4 4]), (9, .cells 114 [I 4, M 8]), (10, .cells 117 [zs, zs]), (12, .cells 121 [.ifc 27 2 0, I 4, M 11, L 32 0 4 0]), (33, .cells 127 [I 32, I 0]), (34, .cells 134 [I 4, I 0, I 0, zs, zs, zs]), (35, .map [] 0), (3, .map [] 0), (5, .map [(S (I 0), A [Y 104, Y 0, Y 0, Y 0, Y 0, Y 0, Y 0, Y 0, Y 0, Y 0, Y 0, Y 0, Y 0, Y 0, Y 0, Y 0, Y 0, Y 0, Y 0, Y 0, Y 0, Y 0, Y 0, Y 0, Y 0, Y 0, Y 0, Y 0, Y 0, Y 0, Y 0, Y 1, L 49 0 20 0], 0)] 1), (6, .cells 143 [zs, zs, zs, zs]), (8, .map [] 0), (11, .map [] 0), (32, .row 122 1 [q 15 0, q 20 0, q 25 0, q 30 0]), (49, .brow 20 0), (15, .cells 200 [M 13, M 14]), (20, .cells 200 [M 18, M 19]), (25, .cells 200 [M 23, M 24]), (30, .cells 200 [M 28, M 29]), (13, .map [] 0), (14, .map [] 0), (18, .map [] 0), (19, .map [] 0), (23, .map [] 0), (24, .map [] 0), (28, .map [] 0), (29, .map [] 0)]
noncomputable def bookH : HpT := [(2, .cells 86 [M 0, M 1]), (0, .map [] 0), (1, .map [] 0)]
noncomputable def newH : HpT := (36, repO 0) :: (2, .cells 86 [M 0, M 1]) :: (0, .map [(A [Y 104, T 20 0], S (I 1), 0)] 1) :: (1, .map [] 0) :: repR
theorem book_run : endC (callR 20000 6 [] [] 0) (.s (q 2 0)) bookH 3 1000000 = some (true, none) := by kernel_rfl
theorem new_run : endC (callR 20000 5 [.s (.ifc 27 2 0), .s (I 4), .s (I 1)] bookH 3) (.s (q 36 0)) newH 50 1000000 = some (true, none) := by kernel_rfl
theorem tick_run (d : Int) : endC (callR 20000 9 [.s (q 36 0)] ((36, repO d) :: repR) 50) (.s zs) ((36, repO d) :: repR) 239 36 = some (true, some (repO d)) := by kernel_rfl
end Go.Proofs.YtjjjckmpkldgnaaGreatDoor.Rk.Run
