/-
  A run by the reckoner as a call's contract. Plain theorems; no condition.
  Entries that are read again under more that stays; entries taken by search; calls, stores and new blocks in one stroke. Plain theorems over any program; no condition.
  Open orders whose last operation waits for all others: the others in whatever order, memory made among them; then comes the last one. Plain theorems over any program; no condition.
-/
import Derived.Test.YtjjjckmpkldgnaaGreatDoorUaf
import Derived.Test.YtjjjckmpkldgnaaGreatDoorKja
import Derived.Test.YtjjjckmpkldgnaaGreatDoorKp
import Derived.Test.YtjjjckmpkldgnaaGreatDoorUf
namespace Go.Proofs.YtjjjckmpkldgnaaGreatDoor.Rk
open Go.RowKit
set_option maxRecDepth 100000
noncomputable def noPS : SV → Bool
  | .pby _ _ => false
  | _ => true
noncomputable def noPT : TV → Bool
  | .s x => noPS x
  | .agg l => l.all noPS
noncomputable def noPA : AV → Bool
  | .s x => noPS x
  | .agg l => l.all noPS
  | .tup l => l.all noPT
  | .und => true
noncomputable def noPO : AO → Bool
  | .cells _ cs => cs.all noPS
  | .row _ _ cs => cs.all noPS
  | .brow _ _ => true
  | .map es _ => es.all fun e => noPT e.1 && noPT e.2.1
  | _ => false
noncomputable def idS : SV → List Nat
  | .ptr a _ => [a]
  | .slc a _ _ _ => [a]
  | .map a => [a]
  | .ifc _ a _ => [a]
  | _ => []
noncomputable def idT : TV → List Nat
  | .s x => idS x
  | .agg l => l.flatMap idS
noncomputable def idA : AV → List Nat
  | .s x => idS x
  | .agg l => l.flatMap idS
  | .tup l => l.flatMap idT
  | .und => []
noncomputable def idO : AO → List Nat
  | .cells _ cs => cs.flatMap idS
  | .row _ _ cs => cs.flatMap idS
  | .map es _ => es.flatMap fun e => idT e.1 ++ idT e.2.1
  | _ => []
section
variable {F G : PH} {φ : Vl}
theorem SvD.any {x : SV} {u : Value} (e : noPS x = true) (h : SvD F φ x u) : SvD G φ x u := by
  cases x <;> first | exact h | cases e
theorem svs_any : ∀ {l : List SV} {us : List Value}, l.all noPS = true → All2 (SvD F φ) l us → All2 (SvD G φ) l us
  | [], _, _, .nil => .nil
  | _ :: _, _, e, .cons h t => by
    rw [List.all_cons, Bool.and_eq_true] at e
    exact .cons (h.any e.1) (svs_any e.2 t)
theorem TvD.any {x : TV} {u : Value} (e : noPT x = true) (h : TvD F φ x u) : TvD G φ x u := by
  cases x with
  | s x => exact SvD.any e h
  | agg l => obtain ⟨us, h1, h2⟩ := h; exact ⟨us, svs_any e h1, h2⟩
theorem tvs_any : ∀ {l : List TV} {us : List Value}, l.all noPT = true → All2 (TvD F φ) l us → All2 (TvD G φ) l us
  | [], _, _, .nil => .nil
  | _ :: _, _, e, .cons h t => by
    rw [List.all_cons, Bool.and_eq_true] at e
    exact .cons (h.any e.1) (tvs_any e.2 t)
theorem AvD.any {x : AV} {u : Value} (e : noPA x = true) (h : AvD F φ x u) : AvD G φ x u := by
  cases x with
  | s x => exact SvD.any e h
  | agg l => obtain ⟨us, h1, h2⟩ := h; exact ⟨us, svs_any e h1, h2⟩
  | tup l => obtain ⟨us, h1, h2⟩ := h; exact ⟨us, tvs_any e h1, h2⟩
  | und => exact h
theorem mes_any : ∀ {l : List (TV × TV × Nat)} {ms : List MapEntry}, (l.all fun e => noPT e.1 && noPT e.2.1) = true → All2 (EsD F φ) l ms → All2 (EsD G φ) l ms
  | [], _, _, .nil => .nil
  | _ :: _, _, e, .cons h t => by
    rw [List.all_cons, Bool.and_eq_true, Bool.and_eq_true] at e
    exact .cons ⟨h.1.any e.1.1, h.2.1.any e.1.2, h.2.2⟩ (mes_any e.2 t)
theorem ObD.any {κ : Nat} {x : AO} {o : Obj} (e : noPO x = true) (h : ObD F φ κ x o) : ObD G φ κ x o := by
  cases x with
  | cells => obtain ⟨us, h1, h2⟩ := h; exact ⟨us, svs_any e h1, h2⟩
  | row => obtain ⟨us, cur, h1, h2⟩ := h; exact ⟨us, cur, svs_any e h1, h2⟩
  | brow => exact h
  | map => obtain ⟨ms, h1, h2⟩ := h; exact ⟨ms, h1, mes_any e h2⟩
  | _ => cases e
theorem SvD.ids {x : SV} {u : Value} (h : SvD F φ x u) : ∀ n ∈ idS x, ∃ y, φ n = some y := by
  cases x with
  | ptr a b => obtain ⟨b, κ, e, _⟩ := h; intro n hn; cases List.mem_singleton.1 hn; exact ⟨_, e⟩
  | slc a b c d => obtain ⟨b, κ, e, _⟩ := h; intro n hn; cases List.mem_singleton.1 hn; exact ⟨_, e⟩
  | map a => obtain ⟨b, κ, e, _⟩ := h; intro n hn; cases List.mem_singleton.1 hn; exact ⟨_, e⟩
  | ifc t a b => obtain ⟨b, κ, e, _⟩ := h; intro n hn; cases List.mem_singleton.1 hn; exact ⟨_, e⟩
  | _ => intro n hn; cases hn
theorem svs_ids {l : List SV} {us : List Value} (h : All2 (SvD F φ) l us) : ∀ n ∈ l.flatMap idS, ∃ y, φ n = some y := by
  induction h with
  | nil => intro n hn; cases hn
  | cons h _ ih =>
    intro n hn
    rw [List.flatMap_cons, List.mem_append] at hn
    rcases hn with hn | hn
    · exact h.ids n hn
    · exact ih n hn
theorem TvD.ids {x : TV} {u : Value} (h : TvD F φ x u) : ∀ n ∈ idT x, ∃ y, φ n = some y := by
  cases x with
  | s x => exact SvD.ids h
  | agg l => obtain ⟨us, h1, _⟩ := h; exact svs_ids h1
theorem tvs_ids {l : List TV} {us : List Value} (h : All2 (TvD F φ) l us) : ∀ n ∈ l.flatMap idT, ∃ y, φ n = some y := by
  induction h with
  | nil => intro n hn; cases hn
  | cons h _ ih =>
    intro n hn
    rw [List.flatMap_cons, List.mem_append] at hn
    rcases hn with hn | hn
    · exact h.ids n hn
    · exact ih n hn
theorem AvD.ids {x : AV} {u : Value} (h : AvD F φ x u) : ∀ n ∈ idA x, ∃ y, φ n = some y := by
  cases x with
  | s x => exact SvD.ids h
  | agg l => obtain ⟨us, h1, _⟩ := h; exact svs_ids h1
  | tup l => obtain ⟨us, h1, _⟩ := h; exact tvs_ids h1
  | und => intro n hn; cases hn
theorem mes_ids {l : List (TV × TV × Nat)} {ms : List MapEntry} (h : All2 (EsD F φ) l ms) : ∀ n ∈ l.flatMap (fun e => idT e.1 ++ idT e.2.1), ∃ y, φ n = some y := by
  induction h with
  | nil => intro n hn; cases hn
  | cons h _ ih =>
    intro n hn
    rw [List.flatMap_cons, List.mem_append, List.mem_append] at hn
    rcases hn with (hn | hn) | hn
    · exact h.1.ids n hn
    · exact h.2.1.ids n hn
    · exact ih n hn
theorem ObD.ids {κ : Nat} {x : AO} {o : Obj} (h : ObD F φ κ x o) : ∀ n ∈ idO x, ∃ y, φ n = some y := by
  cases x with
  | cells => obtain ⟨us, h1, _⟩ := h; exact svs_ids h1
  | row => obtain ⟨us, cur, h1, _⟩ := h; exact svs_ids h1
  | map => obtain ⟨ms, _, h1⟩ := h; exact mes_ids h1
  | _ => intro n hn; cases hn
end
/-- Each object is led to by what is known, or by one ahead of it. -/
noncomputable def chainB : List Nat → HpT → Bool
  | _, [] => true
  | ks, (n, o) :: r => nhas n ks && chainB (idO o ++ ks) r
theorem hpT_mem : ∀ {l : HpT} {n : Nat} {o : AO}, (hpT l).get n = some o → (n, o) ∈ l
  | [], n, o, h => by cases h
  | (m, x) :: r, n, o, h => by
    unfold hpT at h
    rw [Tr.get_set] at h
    split at h
    · rename_i e; subst e; cases h; exact List.mem_cons_self ..
    · exact List.mem_cons_of_mem _ (hpT_mem h)
theorem chain_ok {F : PH} {φ : Vl} {h : Hp} {w : World} (r : HR F φ h w) : ∀ {l : HpT} {ks : List Nat}, (∀ n o, (n, o) ∈ l → h.get n = some o) → (∀ n ∈ ks, ∃ x, φ n = some x) → chainB ks l = true → ∀ p ∈ l, ∃ x, φ p.1 = some x
  | [], _, _, _, _, p, hp => by cases hp
  | (n, o) :: l, ks, hl, hk, hc, p, hp => by
    unfold chainB at hc
    rw [Bool.and_eq_true] at hc
    have hn := hk n (nhas_ok.1 hc.1)
    obtain ⟨⟨b, κ⟩, hn'⟩ := hn
    rcases List.mem_cons.1 hp with rfl | hp
    · exact ⟨_, hn'⟩
    · obtain ⟨ob, _, ho⟩ := r.obj n o b κ (hl n o (List.mem_cons_self ..)) hn'
      refine chain_ok r (fun m q hm => hl m q (List.mem_cons_of_mem _ hm)) (fun m hm => ?_) hc.2 p hp
      rcases List.mem_append.1 hm with hm | hm
      · exact ho.ids m hm
      · exact hk m hm
/-! objects the call's own -/
structure ObsP (φ : Vl) (g : Nat → Option AO) (p : PH) : Prop where
  obj : ∀ n o, g n = some o → ∃ b κ ob, φ n = some (b, κ) ∧ p b = some ob ∧ ObD PH.emp φ κ o ob
  inj : ∀ n m o o' b κ κ', g n = some o → g m = some o' → φ n = some (b, κ) → φ m = some (b, κ') → n = m
  dom : ∀ b ob, p b = some ob → ∃ n o κ, g n = some o ∧ φ n = some (b, κ)
abbrev Obs (φ : Vl) (g : Nat → Option AO) : Asrt := fun p => ObsP φ g p
/-! a call -/
noncomputable def callR (n : Nat) (f : FuncId) (args : List AV) (h : HpT) (nx : Nat) : Res := run n [.code (bodyOf f)] (mkEnv args 0 .nil) ⟨hpT h, .nil⟩ nx ⟨f, none, [], [], 1000000000⟩
noncomputable def covK (skip : Nat) (h : Hp) : HpT → Bool
  | [] => true
  | (n, o) :: r => match Nat.beq n skip with
    | true => covK skip h r
    | false => match h.get n with
      | some p => aoEq p o && covK skip h r
      | none => false
noncomputable def endC (r : Res) (v : AV) (hT : HpT) (nx skip : Nat) : Option (Bool × Option AO) := match r with
  | .done v' h nx' => some (avEq v' v && (Nat.beq nx' nx && covK skip h hT), h.get skip)
  | _ => none
theorem covK_ok {skip : Nat} {h : Hp} : ∀ {l : HpT}, covK skip h l = true → ∀ n o, (n, o) ∈ l → n = skip ∨ h.get n = some o
  | [], _, n, o, hn => by cases hn
  | (m, x) :: r, hc, n, o, hn => by
    unfold covK at hc
    split at hc
    · rename_i hm
      rcases List.mem_cons.1 hn with e | hn
      · cases e; exact .inl (Nat.eq_of_beq_eq_true hm)
      · exact covK_ok hc n o hn
    · split at hc
      · rename_i p hp
        rw [Bool.and_eq_true] at hc
        rcases List.mem_cons.1 hn with e | hn
        · cases e; right; rw [hp, aoEq_ok hc.1]
        · exact covK_ok hc.2 n o hn
      · cases hc
theorem endC_ok {r : Res} {v : AV} {hT : HpT} {nx skip : Nat} {o : Option AO} (e : endC r v hT nx skip = some (true, o)) (hs : ∀ q, (skip, q) ∈ hT → some q = o) : ∃ h, r = .done v h nx ∧ ∀ n q, (n, q) ∈ hT → h.get n = some q := by
  unfold endC at e
  split at e
  · rename_i v' h nx'
    simp only [Option.some.injEq, Prod.mk.injEq, Bool.and_eq_true] at e
    obtain ⟨⟨e1, e2, e3⟩, e4⟩ := e
    have e1 := avEq_ok e1
    have e2 : nx' = nx := Nat.eq_of_beq_eq_true e2
    subst e1 e2
    refine ⟨h, rfl, fun n q hq => ?_⟩
    rcases covK_ok e3 n q hq with rfl | h
    · rw [e4, hs q hq]
    · exact h
  · cases e
open Classical in
/-- What a call by the reckoner does. -/
theorem rk_spec {f : FuncId} {fn : Func} {c : Code} (hf : funT f = some fn) (hb : fn.body = some c) {n nx0 nx1 skip : Nat} {args : List AV} {us : List Value} {h0 hT : HpT} {v : AV} {o : Option AO} {ks : List Nat} {φ : Vl} (hrun : endC (callR n f args h0 nx0) v hT nx1 skip = some (true, o)) (hskip : ∀ q, (skip, q) ∈ hT → some q = o) (hno : hT.all (fun p => noPO p.2) = true) (hv : noPA v = true)
    (hφ : ∀ n, nx0 ≤ n → φ n = none) (ha : All2 (AvD PH.emp φ) args us) (hch : chainB ks hT = true) (hks : ∀ n ∈ ks, (∃ x, φ n = some x) ∨ n ∈ idA v) (F : PH) :
    Spec P f us F [Obs φ (hpT h0).get] fun u F' H' => F = F' ∧ ∃ φ', φ.le φ' ∧ (∀ n, nx1 ≤ n → φ' n = none) ∧ AvD PH.emp φ' v u ∧ (∀ p ∈ hT, ∃ x, φ' p.1 = some x) ∧ H' = [Obs φ' (hpT hT).get] := by
  unfold Spec
  intro X w hs cs
  obtain ⟨r, hst, hd, hl⟩ := hs
  obtain ⟨p, q, hp, hq, hpq, rfl⟩ := hst
  have d1 : F.dj p := hd.mono_r (PH.le_l _ _)
  have d2 : F.dj q := hd.mono_r (PH.le_r hpq)
  have hFw : F.le (ph w) := (PH.le_l _ _).trans hl
  have hpw : p.le (ph w) := (PH.le_l _ _).trans ((PH.le_r hd).trans hl)
  have hqw : q.le (ph w) := (PH.le_r hpq).trans ((PH.le_r hd).trans hl)
  have none_of : ∀ {a b : PH} {x : Nat} {y : Obj}, a.dj b → b x = some y → a x = none := fun hab hx => by
    rcases hab _ with h | h
    · exact h
    · rw [hx] at h; cases h
  have hr0 : HR (F.un q) φ ⟨hpT h0, .nil⟩ w := by
    have hg : ∀ n, (⟨hpT h0, .nil⟩ : Hp).get n = (hpT h0).get n := fun n => rfl
    refine ⟨fun n o b κ e1 e2 => ?_, fun n m o o' b κ κ' e1 e2 e3 e4 => hp.inj n m o o' b κ κ' (by rw [← hg]; exact e1) (by rw [← hg]; exact e2) e3 e4, PH.un_le hFw hqw, fun n o b κ e1 e2 => ?_⟩
    · obtain ⟨b', κ', ob, k1, k2, k3⟩ := hp.obj n o (by rw [← hg]; exact e1)
      rw [e2] at k1
      cases k1
      exact ⟨ob, hpw _ _ k2, k3.mono (PH.emp_le _) (Vl.ler _)⟩
    · obtain ⟨b', κ', ob, k1, k2, k3⟩ := hp.obj n o (by rw [← hg]; exact e1)
      rw [e2] at k1
      cases k1
      unfold PH.un
      rw [none_of d1 k2, none_of hpq.symm k2]
      rfl
  obtain ⟨h1, hres, hsub⟩ := endC_ok hrun hskip
  obtain ⟨e1, e2, e3⟩ := body_ok hf hb
  have hk := run_all n ⟨F.un q, φ, nx0, w, cs, f⟩ [.code (bodyOf f)] (mkEnv args 0 .nil) ⟨hpT h0, .nil⟩ nx0 ⟨f, none, [], [], 1000000000⟩ (lone (Frame.enter P f us.toArray .normal) cs w) ⟨F.un q, φ, w, none, ⟨us.toArray ++ Array.replicate (fn.ntmps - us.toArray.size) undef, []⟩, [.code c], cs, nx0, by rw [enter_G (funT_ok hf) hb], by
    refine ⟨hr0, .plain (env_args (ha.imp fun _ _ h => h.mono (PH.emp_le _) (Vl.ler _)) _) (by rw [e1]; exact .code e2 .nil), rfl, .nil, ?_, .nil, Nat.le_refl _, hφ, PH.ler _, Vl.ler _, fun _ _ => rfl, Mild.refl w⟩
    show nT f ≤ (us.toArray ++ Array.replicate (fn.ntmps - us.toArray.size) undef).size
    rw [e3, Array.size_append, Array.size_replicate]
    omega⟩
  have hk : ResOk ⟨F.un q, φ, nx0, w, cs, f⟩ (lone (Frame.enter P f us.toArray .normal) cs w) (callR n f args h0 nx0) := hk
  rw [hres] at hk
  obtain ⟨fr, w', u, F3, φ', k1, k2, k3, k4, k5, k6, k7, k8, k9, k10, k11⟩ := hk
  have hdef : ∀ p ∈ hT, ∃ x, φ' p.1 = some x := chain_ok k5 hsub (fun n hn => by
    rcases hks n hn with ⟨x, hx⟩ | h
    · exact ⟨x, k7 _ _ hx⟩
    · exact k4.ids n h) hch
  have hF3 : F.le F3 := (PH.le_l _ _).trans k6
  have hq3 : q.le F3 := (PH.le_r d2).trans k6
  have hget : ∀ n o, (hpT hT).get n = some o → h1.get n = some o := fun n o h => hsub n o (hpT_mem h)
  -- what the objects have become
  let p' : PH := fun b => if ∃ n o κ, (hpT hT).get n = some o ∧ φ' n = some (b, κ) then ph w' b else none
  have hp'w : p'.le (ph w') := fun b x hx => by
    dsimp only [p'] at hx
    split at hx
    · exact hx
    · cases hx
  have hdj : F3.dj p' := fun b => by
    by_cases e : ∃ n o κ, (hpT hT).get n = some o ∧ φ' n = some (b, κ)
    · left
      obtain ⟨n, o, κ, g1, g2⟩ := e
      exact k5.dj n o b κ (hget n o g1) g2
    · right
      dsimp only [p']
      rw [if_neg e]
  have hobs : ObsP φ' (hpT hT).get p' := by
    refine ⟨fun n o hn => ?_, fun n m o o' b κ κ' e1 e2 e3 e4 => k5.inj n m o o' b κ κ' (hget _ _ e1) (hget _ _ e2) e3 e4, fun b ob hx => ?_⟩
    · obtain ⟨⟨b, κ⟩, hx⟩ := hdef (n, o) (hpT_mem hn)
      obtain ⟨ob, g1, g2⟩ := k5.obj n o b κ (hget n o hn) hx
      refine ⟨b, κ, ob, hx, ?_, g2.any (List.all_eq_true.1 hno _ (hpT_mem hn))⟩
      dsimp only [p']
      rw [if_pos ⟨n, o, κ, hn, hx⟩]
      exact g1
    · dsimp only [p'] at hx
      split at hx
      · rename_i e; exact e
      · cases hx
  refine ⟨.returned u, w', fr, ⟨u, F, [Obs φ' (hpT hT).get], rfl, PH.ler _, ⟨rfl, φ', k7, k9, k4.any hv, hdef, rfl⟩, k10, p'.un q, ⟨p', q, hobs, hq, (hdj.mono hq3).symm, rfl⟩, PH.dj_un_r (hdj.mono hF3) d2, PH.un_le (hF3.trans k5.fr) (PH.un_le hp'w (hq3.trans k5.fr))⟩, k1, k3, k2⟩
end Go.Proofs.YtjjjckmpkldgnaaGreatDoor.Rk
namespace Go.Proofs.YtjjjckmpkldgnaaGreatDoor
open Go.RowKit
set_option maxRecDepth 100000
/-- An entry under F is another one under whatever is more. -/
class LiftA (F : PH) (A : Asrt) (A' : outParam (PH → Asrt)) : Prop where
  lift : ∀ G, F.le G → ∀ h, A h → A' G h
class LiftL (F : PH) (H : List Asrt) (H' : outParam (PH → List Asrt)) : Prop where
  lift : ∀ G, F.le G → ∀ r, Star H r → Star (H' G) r
instance (priority := 10) liftA_same (F : PH) (A : Asrt) : LiftA F A (fun _ => A) := ⟨fun _ _ _ h => h⟩
instance (priority := 10) liftL_same (F : PH) (H : List Asrt) : LiftL F H (fun _ => H) := ⟨fun _ _ _ h => h⟩
instance liftL_nil (F : PH) : LiftL F [] (fun _ => []) := ⟨fun _ _ _ h => h⟩
instance liftL_cons (F : PH) (A : Asrt) (H : List Asrt) (A' : PH → Asrt) (H' : PH → List Asrt) [a : LiftA F A A'] [b : LiftL F H H'] : LiftL F (A :: H) (fun G => A' G :: H' G) :=
  ⟨fun G g _ ⟨h1, h2, hA, hs, hd, e⟩ => ⟨h1, h2, a.lift G g h1 hA, b.lift G g h2 hs, hd, e⟩⟩
theorem Star.lift {F G : PH} {Hc Hr : List Asrt} {Hr' : PH → List Asrt} [b : LiftL F Hr Hr'] (g : F.le G) {r : PH} (h : Star (Hc ++ Hr) r) : Star (Hc ++ Hr' G) r := by
  obtain ⟨x, y, hx, hy, hd, e⟩ := Star.append.1 h
  exact Star.append.2 ⟨x, y, hx, b.lift G g y hy, hd, e⟩
theorem Sat.lift {F G : PH} {Hc Hr : List Asrt} {Hr' : PH → List Asrt} [LiftL F Hr Hr'] (g : F.le G) {w : World} (s : Sat G (Hc ++ Hr) w) : Sat G (Hc ++ Hr' G) w := by
  obtain ⟨r, hr, hd, hl⟩ := s
  exact ⟨r, hr.lift g, hd, hl⟩
/-- H is what is taken, and the rest. -/
inductive Tak : List Asrt → List Asrt → List Asrt → Prop where
  | nil {H : List Asrt} : Tak H [] H
  | cons {A : Asrt} {H K Hc Hr : List Asrt} (p : Pick A H K) (t : Tak K Hc Hr) : Tak H (A :: Hc) Hr
theorem Tak.star {H Hc Hr : List Asrt} (t : Tak H Hc Hr) : ∀ {r : PH}, Star H r → Star (Hc ++ Hr) r := by
  induction t with
  | nil => exact fun h => h
  | cons p t ih =>
    intro r h
    obtain ⟨x, y, hx, hy, hd, e⟩ := h.pick p
    exact ⟨x, y, hx, ih hy, hd, e⟩
theorem Tak.sat {F : PH} {H Hc Hr : List Asrt} {w : World} (t : Tak H Hc Hr) (s : Sat F H w) : Sat F (Hc ++ Hr) w := let ⟨r, hr, hd, hl⟩ := s; ⟨r, t.star hr, hd, hl⟩
section
variable {C : Ctx} {m : Bool} {ops : Array Oper} {rest : List Oper} {k : List KItem} {l : Env} {F : PH} {H : List Asrt} {d : Nat} {T U : TypeId} {pos : String} {af : Array Edge} {g : Option (Nat × Bool)}
/-- A call: the entries that it asks for are looked for; the others are lifted. -/
theorem oL {f : FuncId} {args : List Operand} {tys : Array TypeId} {vs : List Value} {Hc Hr : List Asrt} {Hr' : PH → List Asrt} {Q : Value → PH → List Asrt → Prop} (sp : Spec C.P f vs F Hc Q) (hc : ∀ args w, (callFunc f args).run C.P w = .ok (.enter f args) w)
    (h : ∀ v G H', F.le G → Q v G H' → JM C false ops rest k ((d, v) :: l) G (H' ++ Hr' G))
    (hv : opvs l args = some vs := by rfl) (hr : runs ops l ⟨some d, .call { callee := .value (.func f), args := args.toArray, argTypes := tys }, T, pos, af, g⟩ = some true := by rfl)
    (t : Tak H Hc Hr := by repeat (first | exact Tak.nil | exact Pick.here | apply Pick.there | apply Tak.cons)) (lf : LiftL F Hr Hr' := by infer_instance) :
    JM C false ops (⟨some d, .call { callee := .value (.func f), args := args.toArray, argTypes := tys }, T, pos, af, g⟩ :: rest) k l F H :=
  oC sp hc hv hr (fun _ s => t.sat s) fun v G H' hG hq => oW (h v G H' hG hq) fun _ s => s.lift hG
/-- A store into a block of the call's own. -/
theorem oSt {b off n : Nat} {E : TypeId} {u : Value} {r vs s : List Value} {H' : List Asrt} {x y : Operand} (h : JM C false ops rest k l F H')
    (hx : opv l x = some (.pointer (some ⟨b, off, none⟩)) := by rfl) (hy : opv l y = some u := by rfl) (hv : VC u vs := by constructor) (ht : (C.P.info? T).map (·.size) = some n := by rfl) (hn : vs.length = n := by rfl)
    (hu : Upd (blk b E r) (blk b E s) H H' := by repeat (first | exact Upd.here | apply Upd.there))
    (hlay : Lay off vs r s := by repeat (first | exact Lay.nil | apply Lay.skip | apply Lay.put)) (h1 : Ones vs := by repeat (first | exact ones_nil | refine ones_cons rfl ?_)) (hr : runs ops l ⟨none, .store T x y, U, pos, af, g⟩ = some true := by rfl) :
    JM C false ops (⟨none, .store T x y, U, pos, af, g⟩ :: rest) k l F H :=
  oN (ev_store hx hy hv ht hn hlay h1 hu) hr (by rintro _ _ _ _ ⟨rfl, _, rfl⟩; exact h)
/-- A new variable. -/
theorem oAl {E : TypeId} {cs : List Value} (h : ∀ b, JM C false ops rest k ((d, .pointer (some ⟨b, 0, none⟩)) :: l) F (blk b E cs :: H)) (hz : zeroCs C.P E = some cs := by rfl) (hr : runs ops l ⟨some d, .alloc E, U, pos, af, g⟩ = some true := by rfl) :
    JM C false ops (⟨some d, .alloc E, U, pos, af, g⟩ :: rest) k l F H := oE (ev_alloc hz) hr (by rintro _ _ _ _ ⟨rfl, b, rfl, rfl⟩; exact h b)
/-- A value put into a new block. -/
theorem oBx {E : TypeId} {x : Operand} {u : Value} {cs : List Value} (h : ∀ b, JM C false ops rest k ((d, .pointer (some ⟨b, 0, none⟩)) :: l) F (blk b E cs :: H)) (hx : opv l x = some u := by rfl) (hv : VC u cs := by constructor) (hr : runs ops l ⟨some d, .box E x, U, pos, af, g⟩ = some true := by rfl) :
    JM C false ops (⟨some d, .box E x, U, pos, af, g⟩ :: rest) k l F H := oE (ev_box hx hv) hr (by rintro _ _ _ _ ⟨rfl, b, rfl, rfl⟩; exact h b)
end
section
variable {C : Ctx} {k : List KItem} {l : Env} {F : PH} {H Hc Hr : List Asrt} {A : Asrt}
/-- Parts become a whole. -/
theorem J_fold (A : Asrt) (Hc : List Asrt) (f : ∀ r, Star Hc r → A r) (h : J C k l F (A :: Hr)) (t : Tak H Hc Hr := by repeat (first | exact Tak.nil | exact Pick.here | apply Pick.there | apply Tak.cons)) : J C k l F H :=
  J_weak h fun _ s => by
    obtain ⟨r, hr, hd, hl⟩ := t.sat s
    obtain ⟨x, y, hx, hy, hxy, e⟩ := Star.append.1 hr
    exact ⟨r, ⟨x, y, f x hx, hy, hxy, e⟩, hd, hl⟩
end
/-- A whole: entries, by things that fit. -/
def Whole {α : Type} (q : α → Prop) (L : α → List Asrt) : Asrt := fun r => ∃ x, q x ∧ Star (L x) r
theorem Whole.of {α : Type} {q : α → Prop} {L : α → List Asrt} (x : α) (h : q x) : ∀ r, Star (L x) r → Whole q L r := fun _ s => ⟨x, h, s⟩
theorem Sat.whole {α : Type} {q : α → Prop} {L : α → List Asrt} {F : PH} {H : List Asrt} {w : World} (s : Sat F (Whole q L :: H) w) : ∃ x, q x ∧ Sat F (L x ++ H) w := by
  obtain ⟨r, ⟨a, b, ⟨x, hq, hx⟩, hb, hd, e⟩, hF, hl⟩ := s
  exact ⟨x, hq, r, Star.append.2 ⟨a, b, hx, hb, hd, e⟩, hF, hl⟩
theorem J_whole {α : Type} {q : α → Prop} {L : α → List Asrt} {C : Ctx} {k : List KItem} {l : Env} {F : PH} {H : List Asrt} (h : ∀ x, q x → J C k l F (L x ++ H)) : J C k l F (Whole q L :: H) := by
  unfold J at *
  intro a w ha hm hs
  obtain ⟨x, hq, hs'⟩ := hs.whole
  exact h x hq a w ha hm hs'
theorem JM_whole {α : Type} {q : α → Prop} {L : α → List Asrt} {C : Ctx} {ops : Array Oper} {rest : List Oper} {k : List KItem} {l : Env} {F : PH} {H : List Asrt} (h : ∀ x, q x → JM C false ops rest k l F (L x ++ H)) : JM C false ops rest k l F (Whole q L :: H) := by
  unfold JM JO at *
  intro hd a w ha hm hs
  obtain ⟨x, hq, hs'⟩ := hs.whole
  exact h x hq hd a w ha hm hs'
/-- A contract over a whole is one over its parts. -/
theorem Spec.whole {P : Program} {f : FuncId} {vs : List Value} {F : PH} {H : List Asrt} {Q : Value → PH → List Asrt → Prop} {α : Type} {q : α → Prop} {L : α → List Asrt} (h : ∀ x, q x → Spec P f vs F (L x ++ H) Q) : Spec P f vs F (Whole q L :: H) Q := by
  unfold Spec at *
  intro X w s
  obtain ⟨x, hq, s'⟩ := Sat.whole (H := H ++ X) s
  exact h x hq X w (by rw [List.append_assoc]; exact s')
theorem Spec.fold {P : Program} {f : FuncId} {vs : List Value} {F : PH} {H : List Asrt} {Q Q' : Value → PH → List Asrt → Prop} (h : Spec P f vs F H Q) (c : ∀ v G H', F.le G → Q v G H' → ∃ K, Q' v G K ∧ ∀ r, Star H' r → Star K r) : Spec P f vs F H Q' := by
  unfold Spec at *
  intro X w s
  refine (h X w s).mono fun _ _ ⟨v, G, H', e, hF, hq, hm, r, hr, hd, hl⟩ => ?_
  · obtain ⟨K, hK, hs⟩ := c v G H' hF hq
    obtain ⟨x, y, hx, hy, hxy, e2⟩ := Star.append.1 hr
    exact ⟨v, G, K, e, hF, hK, hm, r, Star.append.2 ⟨x, y, hs x hx, hy, hxy, e2⟩, hd, hl⟩
end Go.Proofs.YtjjjckmpkldgnaaGreatDoor
namespace Go.Proofs.YtjjjckmpkldgnaaGreatDoor
open Go.RowKit
section
variable {P : Program} {md : Region.Mode} {pre : List Oper} {o : Oper} {Q Q' : Exit → Act → World → Prop}
theorem getD_some {L : Array Bool} {k : Nat} (hk : k < L.size) (d d' : Bool) : L.getD k d = L.getD k d' := by
  simp [Array.getD_eq_getD_getElem?, hk]
end
section
variable {C : Ctx} {k : List KItem} {l : Env} {F : PH} {H : List Asrt}
end
end Go.Proofs.YtjjjckmpkldgnaaGreatDoor
