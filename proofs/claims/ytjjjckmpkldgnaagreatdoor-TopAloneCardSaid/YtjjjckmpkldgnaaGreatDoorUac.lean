/-
  The reckoner's run is the machine's: ranges over functions, all code, runs. Plain theorems; no condition.
  A function that is run by itself leaves what has been at rest. Plain theorems; no condition.
  The functions that the reckoner takes whole: what their contracts say. Plain theorems; no condition.
-/
import Derived.Test.YtjjjckmpkldgnaaGreatDoorUaa
namespace Go.Proofs.YtjjjckmpkldgnaaGreatDoor.Rk
open Go.RowKit
set_option maxRecDepth 100000
section
variable {B : Base} {k : List AI} {l : Env} {h h' : Hp} {nx nx' nb N : Nat} {c : Cx} {F F' : PH} {φ φ' : Vl} {w w' : World} {ro : Option Nat} {a a' : Act} {t : List Item} {cs : List Frame} {dst : Option Nat} {ih fk : KT} {m : Machine}
theorem none_at (w : World) : ph w w.heap.size = none := by
  cases hq : ph w w.heap.size with
  | none => rfl
  | some y => exact absurd (ph_lt hq) (by omega)
theorem rangeF_ok (hi : KtOk ih) {x : Operand} {ps : Array Nat} {ca cb : Code} {g1 g2 : CT} (hR : Rel B (.code (.rangeFunc x ps ca cb) :: k) l h nx c m) : ResOk B m (cRange x ps ca cb g1 g2 k l h nx c ih fk) := by
  obtain ⟨F, φ, w, ro, a, t, cs, nb, rfl, R⟩ := hR
  obtain ⟨t', rfl, he, hc, r⟩ := R.act.code_inv
  unfold cRange
  split
  · rename_i gv hro hev
    have e0 := R.ro
    rw [hro] at e0
    have e0 : ro = none := e0
    subst e0
    have hv := he.op x gv hev
    split
    · rename_i f args hcall
      split
      · unfold oCallV at hcall
        split at hcall
        · rename_i f' p q
          obtain ⟨g', us, ws, hf, h1, h2, e⟩ := hv
          have hf : g' = .func f' := hf
          subst hf
          unfold callF at hcall
          split at hcall
          · rename_i fn hfn
            split at hcall
            · rename_i bd hbd
              cases hcall
              have hn0 : φ nx = none := R.free nx (Nat.le_refl _)
              have hl1 := Vl.le_put (x := (w.heap.size, 0)) hn0
              have hn1 : (φ.put nx (w.heap.size, 0)) (nx + 1) = none := by rw [Vl.put_other _ _ (by omega)]; exact R.free _ (by omega)
              have hl2 := Vl.le_put (x := (w.heap.size + 1, 0)) hn1
              simp only [codeOk, Bool.and_eq_true] at hc
              obtain ⟨hps, hca, hcb⟩ := hc
              have hsz : (w.alloc (.deferred (some []))).heap.size = w.heap.size + 1 := by simp
              have hr1 : HR F (φ.put nx (w.heap.size, 0)) (h.set .dfr nx) (w.alloc (.deferred (some []))) := R.hr.new hn0 (ph_alloc_le w _) (none_at w) (ph_alloc_new w _) rfl
              have hr2 : HR F ((φ.put nx (w.heap.size, 0)).put (nx + 1) (w.heap.size + 1, 0)) ((h.set .dfr nx).set (.loop c.f l ps.toList ca cb nx none 0) (nx + 1)) ((w.alloc (.deferred (some []))).alloc (.loop { state := .ready, pending := none, fn := c.f, tmps := a.tmps, params := ps, assign := ca, body := cb, defers := w.heap.size })) := by
                refine hr1.new hn1 (ph_alloc_le _ _) (by rw [← hsz]; exact none_at _) (by rw [← hsz]; exact ph_alloc_new _ _) ?_
                refine ⟨a.tmps, w.heap.size, 0, hl2 _ _ (Vl.put_self ..), fun t v ht => (he t v ht).mono (PH.ler _) (hl1.trans hl2), R.size, hca, hcb, fun p hp => ?_, by rw [Array.toArray_toList]; rfl⟩
                exact Nat.le_of_ble_eq_true (List.all_eq_true.1 hps p hp)
              have hm2 : Mild w ((w.alloc (.deferred (some []))).alloc (.loop { state := .ready, pending := none, fn := c.f, tmps := a.tmps, params := ps, assign := ca, body := cb, defers := w.heap.size })) := (Mild.alloc w _).trans (Mild.alloc _ _)
              have hrun : ∀ w' : World, (do let d ← resolve a.eval { callee := .value x, args := #[.const (.func (.yield (w.heap.size + 1)) #[] #[])], argTypes := #[] } 0; invoke d.target d.args).run P w' = .ok (.enter f ((us.toArray ++ #[.func (.yield (w.heap.size + 1)) #[] #[]]) ++ ws.toArray)) w' := fun w' => by
                have := enter_ok hfn hbd ((us.toArray ++ #[.func (.yield (w.heap.size + 1)) #[] #[]]) ++ ws.toArray) w'
                have hmap : Array.map a.eval #[(.const (.func (.yield (w.heap.size + 1)) #[] #[]) : Operand)] = #[.func (.yield (w.heap.size + 1)) #[] #[]] := by simp [Act.eval]
                simp only [resolve, e, Deferred.ofValue, pure_bind, invoke, hmap]
                exact this
              refine ResOk.steps (.one (st_range hrun)) ?_
              have hle := R.le
              have hput : ∀ n, n ≠ nx → n ≠ nx + 1 → ((φ.put nx (w.heap.size, 0)).put (nx + 1) (w.heap.size + 1, 0)) n = φ n := fun n h1 h2 => by rw [Vl.put_other _ _ h2, Vl.put_other _ _ h1]
              have d := R.fr.go (nx' := nx + 2) (a' := a) (PH.ler F) (hl1.trans hl2) (fun n hn => hput n (by omega) (by omega)) (by omega) (fun n hn => (hput n (by omega) (by omega)).trans (R.free n (by omega))) hm2 rfl rfl
              refine rGo_ok (c := ⟨c.f, none, nx :: c.df, c.stk, c.nb⟩) (fk := fk) hi (a := ⟨a.tmps, { target := .collected w.heap.size, args := #[] } :: a.defers⟩) (ro := none) (dst := none) (t := .inRangeFunc (w.heap.size + 1) :: t') ⟨rfl, .cons ⟨w.heap.size, 0, hl2 _ _ (Vl.put_self ..), rfl⟩ d.df, d.size, d.stk, d.le, d.free, d.bF, d.bφ, d.bk, d.bw⟩ (.endr (fun t v ht => (he t v ht).mono (PH.ler _) (hl1.trans hl2)) (Vl.put_self ..) r) hr2 ?_ hfn hbd
              have e1 : All2 (AvD F ((φ.put nx (w.heap.size, 0)).put (nx + 1) (w.heap.size + 1, 0))) (p.map ofPV) us := (pvs_ofPV (F := F) h1).imp fun _ _ h => h.mono (PH.ler _) (hl1.trans hl2)
              have e2 : All2 (AvD F ((φ.put nx (w.heap.size, 0)).put (nx + 1) (w.heap.size + 1, 0))) (q.map ofPV) ws := (pvs_ofPV (F := F) h2).imp fun _ _ h => h.mono (PH.ler _) (hl1.trans hl2)
              have e3 : AvD F ((φ.put nx (w.heap.size, 0)).put (nx + 1) (w.heap.size + 1, 0)) (.s (.fn (.yield (nx + 1)) [] [])) (.func (.yield (w.heap.size + 1)) #[] #[]) := ⟨.yield (w.heap.size + 1), [], [], ⟨_, _, Vl.put_self .., rfl⟩, .nil, .nil, rfl⟩
              simpa [List.append_assoc] using e1.app (All2.app (.cons e3 .nil) e2)
            · cases hcall
          · cases hcall
        · cases hcall
        · cases hcall
      · trivial
    · trivial
  · trivial
theorem leaveAny_ok (hi : KtOk ih) {j : Option Code} {x : List Item} (hj : (j = none ∧ t = []) ∨ (j = some .ret ∧ t = .code .ret :: x)) (he : EnvOk F φ l a) (hr : HR F φ h w) (d : FrD B nx c F φ w ro a cs nb) : ResOk B (lone (FrG c.f ro a t) cs w) (leave j l h nx c ih fk) := by
  cases hro : c.ro with
  | none => exact leave_ok hi hj hro he hr d
  | some y =>
    unfold leave
    rw [hro]
    have hj' : (j = none ∧ t = []) ∨ (j = some .ret ∧ t = .code .ret :: x) ∨ ∃ n, j = some (.exit n) ∧ t = .code (.exit n) :: x ∧ exitTo n x = none := by
      rcases hj with h | h
      · exact .inl h
      · exact .inr (.inl h)
    exact roundEnd_ok hi hj' hro hr d
theorem iCode_ok (hB : BuiltOk) (hi : KtOk ih) (hfk : KtOk fk) (hro : noFk fk = true → KtRo ih) : ∀ (x : Code) (k : List AI) (l : Env) (h : Hp) (nx : Nat) (c : Cx) (m : Machine), Rel B (.code x :: k) l h nx c m → ResOk B m (iCode x k l h nx c ih fk) := by
  intro x
  induction x with
  | skip =>
    rintro k l h nx c m ⟨F, φ, w, ro, a, t, cs, nb, rfl, R⟩
    obtain ⟨t', rfl, he, hc, r⟩ := R.act.code_inv
    exact ResOk.steps (.one st_skip) (hi _ _ _ _ _ _ _ ⟨F, φ, w, ro, a, t', cs, nb, rfl, R.fr.rel R.hr (.plain he r)⟩)
  | region n ops d =>
    intro k l h nx c m hR
    exact region_ok hB hi hfk hro hR
  | seq x y ihx ihy =>
    rintro k l h nx c m ⟨F, φ, w, ro, a, t, cs, nb, rfl, R⟩
    obtain ⟨t', rfl, he, hc, r⟩ := R.act.code_inv
    simp only [codeOk, Bool.and_eq_true] at hc
    exact ResOk.steps (.one st_seq) (ihx _ _ _ _ _ _ ⟨F, φ, w, ro, a, _, cs, nb, rfl, R.fr.rel R.hr (.plain he (.code hc.1 (.code hc.2 r)))⟩)
  | cond q x y ihx ihy =>
    rintro k l h nx c m ⟨F, φ, w, ro, a, t, cs, nb, rfl, R⟩
    obtain ⟨t', rfl, he, hc, r⟩ := R.act.code_inv
    simp only [codeOk, Bool.and_eq_true] at hc
    show ResOk B _ (cCond q x y (iCode x) (iCode y) k l h nx c ih fk)
    unfold cCond
    split
    · rename_i hq
      have hb : a.eval q = .bool true := he.op q _ hq
      exact ResOk.steps (.one (st_cond hb)) (ihx _ _ _ _ _ _ ⟨F, φ, w, ro, a, _, cs, nb, rfl, R.fr.rel R.hr (.plain he (.code hc.1 r))⟩)
    · rename_i hq
      have hb : a.eval q = .bool false := he.op q _ hq
      exact ResOk.steps (.one (st_cond hb)) (ihy _ _ _ _ _ _ ⟨F, φ, w, ro, a, _, cs, nb, rfl, R.fr.rel R.hr (.plain he (.code hc.2 r))⟩)
    · trivial
  | block n x ihx =>
    rintro k l h nx c m ⟨F, φ, w, ro, a, t, cs, nb, rfl, R⟩
    obtain ⟨t', rfl, he, hc, r⟩ := R.act.code_inv
    exact ResOk.steps (.one st_block) (ihx _ _ _ _ _ _ ⟨F, φ, w, ro, a, _, cs, nb, rfl, R.fr.rel R.hr (.plain he (.code hc (.block r)))⟩)
  | loop x ihx =>
    rintro k l h nx c m ⟨F, φ, w, ro, a, t, cs, nb, rfl, R⟩
    obtain ⟨t', rfl, he, hc, r⟩ := R.act.code_inv
    exact ResOk.steps (.one st_loop) (ihx _ _ _ _ _ _ ⟨F, φ, w, ro, a, _, cs, nb, rfl, R.fr.rel R.hr (.plain he (.code hc (.loop hc r)))⟩)
  | rangeFunc g ps x y ihx ihy =>
    intro k l h nx c m hR
    exact rangeF_ok (g1 := iCode x) (g2 := iCode y) hi hR
  | exit n =>
    rintro k l h nx c m ⟨F, φ, w, ro, a, t, cs, nb, rfl, R⟩
    obtain ⟨t', rfl, he, hc, r⟩ := R.act.code_inv
    obtain ⟨x1, x2⟩ := r.exit (id := n)
    show ResOk B _ (cExit n k l h nx c ih fk)
    unfold cExit
    split
    · rename_i k' hk
      obtain ⟨t2, y1, y2⟩ := x1 k' hk
      exact ResOk.steps (.one (st_exit y1)) (hi _ _ _ _ _ _ _ ⟨F, φ, w, ro, a, t2, cs, nb, rfl, R.fr.rel R.hr (.plain he y2)⟩)
    · rename_i hk
      split
      · rename_i y hy
        exact roundEnd_ok hi (.inr (.inr ⟨n, rfl, rfl, x2 hk⟩)) hy R.hr R.fr
      · trivial
  | scope x _ => intros; trivial
  | label n =>
    rintro k l h nx c m ⟨F, φ, w, ro, a, t, cs, nb, rfl, R⟩
    obtain ⟨t', rfl, he, hc, r⟩ := R.act.code_inv
    exact ResOk.steps (.one st_label) (hi _ _ _ _ _ _ _ ⟨F, φ, w, ro, a, t', cs, nb, rfl, R.fr.rel R.hr (.plain he r)⟩)
  | goto n => intros; trivial
  | ret =>
    rintro k l h nx c m ⟨F, φ, w, ro, a, t, cs, nb, rfl, R⟩
    obtain ⟨t', rfl, he, hc, r⟩ := R.act.code_inv
    exact leaveAny_ok (fk := fk) hi (.inr ⟨rfl, rfl⟩) he R.hr R.fr
  | refuse s => intros; trivial
theorem stepK_ok (hB : BuiltOk) (hi : KtOk ih) (hfk : KtOk fk) (hro : noFk fk = true → KtRo ih) (hR : Rel B k l h nx c m) : ResOk B m (stepK k l h nx c ih fk) := by
  cases k with
  | nil =>
    obtain ⟨F, φ, w, ro, a, t, cs, nb, rfl, R⟩ := hR
    obtain ⟨rfl, he⟩ := R.act.nil_inv
    exact leaveAny_ok (fk := fk) hi (x := []) (.inl ⟨rfl, rfl⟩) he R.hr R.fr
  | cons x k =>
    cases x with
    | code x => exact iCode_ok hB hi hfk hro x k l h nx c m hR
    | inLoop x =>
      obtain ⟨F, φ, w, ro, a, t, cs, nb, rfl, R⟩ := hR
      obtain ⟨t', rfl, he, hc, r⟩ := R.act.loop_inv
      exact ResOk.steps (.one st_inLoop) (hi _ _ _ _ _ _ _ ⟨F, φ, w, ro, a, _, cs, nb, rfl, R.fr.rel R.hr (.plain he (.code hc (.loop hc r)))⟩)
    | inBlock n =>
      obtain ⟨F, φ, w, ro, a, t, cs, nb, rfl, R⟩ := hR
      obtain ⟨t', rfl, he, r⟩ := R.act.block_inv
      exact ResOk.steps (.one st_inBlock) (hi _ _ _ _ _ _ _ ⟨F, φ, w, ro, a, t', cs, nb, rfl, R.fr.rel R.hr (.plain he r)⟩)
    | lin ops rest => exact lin_ok hB hi hfk hro hR
    | any ops phs => exact any_ok hB hi hfk hro hR
    | endr x =>
      obtain ⟨F, φ, w, ro, a, t, cs, nb, rfl, R⟩ := hR
      obtain ⟨b, κ, t', rfl, hx, he, r⟩ := R.act.endr_inv
      show ResOk B _ (iEndr x k l h nx c ih fk)
      unfold iEndr
      split
      · rename_i f e ps ca cb dd pd st hg
        obtain ⟨ob, hw, tm, db, κ', l1, l2, l3, l4, l5, l6, rfl⟩ := R.hr.obj _ _ _ _ hg hx
        split
        · trivial
        · rename_i hst
          have hbusy : (match st with | 0 => LoopState.ready | 1 => .busy | 2 => .done | _ => .exhausted) ≠ .busy := by
            match st, hst with
            | 0, _ => intro h; cases h
            | 1, h => exact absurd rfl h
            | 2, _ => intro h; cases h
            | _ + 3, _ => intro h; cases h
          have hs := st_endLoop (f := c.f) (ro := ro) (a := a) (k := t') (cs := cs) hw hbusy
          refine ResOk.steps (.one hs) ?_
          have hr1 := R.hr.gone hg hx (.loop { state := .exhausted, pending := pd, fn := f, tmps := tm, params := ps.toArray, assign := ca, body := cb, defers := db })
          have hle := R.le
          have d1 := R.fr.go (a' := a) (PH.ler F) (Vl.ler φ) (fun _ _ => rfl) (Nat.le_refl _) R.free (mild_put w b (.loop { state := .exhausted, pending := pd, fn := f, tmps := tm, params := ps.toArray, assign := ca, body := cb, defers := db })) rfl rfl
          cases pd with
          | none => exact hi _ _ _ _ _ _ _ ⟨F, φ, _, ro, a, t', cs, nb, rfl, d1.rel hr1 (.plain he r)⟩
          | some q =>
            cases q with
            | ret => exact hi _ _ _ _ _ _ _ ⟨F, φ, _, ro, a, .code .ret :: t', cs, nb, rfl, d1.rel hr1 (.plain he (.code rfl r))⟩
            | exit i => exact hi _ _ _ _ _ _ _ ⟨F, φ, _, ro, a, .code (.exit i) :: t', cs, nb, rfl, d1.rel hr1 (.plain he (.code rfl r))⟩
            | _ => trivial
      · trivial
    | begr =>
      obtain ⟨F, φ, w, ro, a, t, cs, nb, rfl, R⟩ := hR
      obtain ⟨t', rfl, he, r⟩ := R.act.begr_inv
      show ResOk B _ (iBegr k l h nx c ih fk)
      unfold iBegr
      split
      · rename_i x hx
        have e0 := R.ro
        rw [hx] at e0
        obtain ⟨b, κ, hb, rfl⟩ := e0
        split
        · rename_i f e ps ca cb dd pd hg
          obtain ⟨ob, hw, tm, db, κ', l1, l2, l3, l4, l5, l6, rfl⟩ := R.hr.obj _ _ _ _ hg hb
          have hr1 := R.hr.put hg hb (o' := .loop f e ps ca cb dd pd 1) (ob := .loop { state := .busy, pending := pd, fn := f, tmps := tm, params := ps.toArray, assign := ca, body := cb, defers := db }) ⟨tm, db, κ', l1, l2, l3, l4, l5, l6, rfl⟩
          have d1 := R.fr.go (a' := a) (PH.ler F) (Vl.ler φ) (fun _ _ => rfl) (Nat.le_refl _) R.free (mild_put w b (.loop { state := .busy, pending := pd, fn := f, tmps := tm, params := ps.toArray, assign := ca, body := cb, defers := db })) rfl rfl
          refine ResOk.steps (.one (st_begin hw rfl)) ?_
          exact hi _ _ _ _ _ _ _ ⟨F, φ, _, some b, a, t', cs, nb, rfl, d1.rel hr1 (.plain he r)⟩
        · trivial
      · trivial
theorem runF_ok (hB : BuiltOk) (hfk : KtOk fk) (hro : noFk fk = true → ∀ n, KtRo (runF fk n)) : ∀ n, KtOk (runF fk n)
  | 0 => fun B k l h nx c m hR => ⟨m, .refl _ _, hR⟩
  | n + 1 => fun B k l h nx c m hR => stepK_ok hB (runF_ok hB hfk hro n) hfk (fun hn => hro hn n) hR
end
end Go.Proofs.YtjjjckmpkldgnaaGreatDoor.Rk
namespace Go.Proofs.YtjjjckmpkldgnaaGreatDoor.Rk
open Go.RowKit
set_option maxRecDepth 100000
def ResRo (r : Tr AO) : Res → Prop
  | .done _ h _ => h.ro = r
  | _ => True
def RoK (ih : KT) : Prop := ∀ k l h nx c, ResRo h.ro (ih k l h nx c)
theorem RoK.of {ih : KT} (hi : RoK ih) {k : List AI} {l : Env} {h h0 : Hp} {nx : Nat} {c : Cx} (e : h.ro = h0.ro) : ResRo h0.ro (ih k l h nx c) := by
  rw [← e]; exact hi k l h nx c
section
variable {k : List AI} {l : Env} {h h0 : Hp} {nx : Nat} {c : Cx} {ih : KT} {d : Option Nat}
theorem rGo_ro (hi : RoK ih) {f : FuncId} {args : List AV} {fk : KT} (e : h.ro = h0.ro) : ResRo h0.ro (rGo f args d k l h nx c ih fk) := hi.of e
theorem newB_ro {x : Option (Nat × Nat)} {g : Nat × Nat → Nat × Nat} {v : AV} {h' : Hp} {nx' : Nat} (e : (x.map fun b => newB (g b) h nx) = some (v, h', nx')) : h'.ro = h.ro := by
  cases x with
  | none => cases e
  | some q => cases e; rfl
theorem built_ro {m : Nat} {args : List AV} {v : AV} {h' : Hp} {nx' : Nat} (e : built m args h nx = some (v, h', nx')) : h'.ro = h.ro := by
  unfold built at e
  split at e
  · unfold bPut at e
    split at e
    · split at e
      · exact newB_ro e
      · cases e
    · cases e
  · unfold bRow at e
    split at e
    · obtain ⟨_, _, e⟩ := oget_some e
      exact newB_ro e
    · cases e
  · unfold bRead at e
    split at e
    · obtain ⟨q, _, e⟩ := Option.map_eq_some_iff.1 e
      cases e; rfl
    · cases e
  · unfold bFixed at e
    split at e
    · split at e
      · split at e
        · cases e; rfl
        · cases e
      · cases e
    · cases e
  · unfold bNumber at e
    split at e
    · split at e
      · split at e
        · cases e; rfl
        · cases e
      · cases e
    · cases e
  · unfold bClone at e
    split at e
    · split at e
      · cases e; rfl
      · exact newB_ro (g := fun b => b) e
      · split at e
        · cases e
        · exact newB_ro (g := fun b => b) e
      · cases e
    · cases e
  · cases e
theorem rCall_ro (hi : RoK ih) {f : FuncId} {args : List AV} (e : h.ro = h0.ro) : ResRo h0.ro (rCall f args d k l h nx c ih noF) := by
  unfold rCall
  split
  · exact rGo_ro hi e
  · trivial
  · unfold rBi
    split
    · rename_i hb
      exact hi.of ((built_ro hb).trans e)
    · trivial
theorem rYld_ro (hi : RoK ih) {x : Nat} {args : List AV} {fk : KT} (e : h.ro = h0.ro) : ResRo h0.ro (rYld x args d k l h nx c ih fk) := by
  unfold rYld
  split
  · split
    · exact hi.of e
    · trivial
  · trivial
theorem forkR_ro (hi : RoK ih) {vs : List (AV × Hp)} {r : Res} (hr : ResRo h0.ro r) : ResRo h0.ro (forkR ih d k l nx c vs r) := by
  induction vs with
  | nil => exact hr
  | cons p vs ih' =>
    obtain ⟨v, hp⟩ := p
    unfold forkR
    split
    · exact ih'
    · split <;> trivial
theorem rFork_ro (hi : RoK ih) {vs : List (AV × Hp)} {fk : KT} (hv : ∀ p ∈ vs, p.2.ro = h0.ro) : ResRo h0.ro (rFork vs d k l h nx c ih fk) := by
  unfold rFork
  split
  · trivial
  · split
    · trivial
    · exact forkR_ro hi (hi.of (hv _ (List.mem_cons_self ..)))
theorem lin_ro (hi : RoK ih) {ops : List Oper} : ∀ {rest : List Oper} {k : List AI} {l : Env} {h : Hp} {nx : Nat}, h.ro = h0.ro → ResRo h0.ro (lin ops rest k l h nx c ih noF) := by
  intro rest
  induction rest with
  | nil => intro k l h nx e; exact hi.of e
  | cons o rest IH =>
    intro k l h nx e
    have go : ResRo h0.ro (linGo o ops rest (lin ops rest) k l h nx c ih noF) := by
      have hs := sem_ro (p := o.op) (l := l) (h := h) (nx := nx)
      unfold linGo
      cases hsr : sem o.op l h nx with
      | v x => exact IH e
      | m x h1 nx1 =>
        rw [hsr] at hs
        exact IH (hs.trans e)
      | call f args => exact rCall_ro hi e
      | yld x args => exact rYld_ro hi e
      | fork vs =>
        rw [hsr] at hs
        exact rFork_ro hi fun p hp => (hs p hp).trans e
      | bad n => trivial
    show ResRo h0.ro (linG ops o rest (lin ops rest) k l h nx c ih noF o.guard)
    unfold linG
    split
    · exact go
    · split
      · split
        · exact go
        · exact IH e
      · trivial
theorem runNew_ro {ops : List Oper} : ∀ {ps : List POp} {l l' : Env} {h h' : Hp} {nx nx' : Nat}, runNew ops ps l h nx = some (l', h', nx') → h'.ro = h.ro
  | [], l, l', h, h', nx, nx', e => by cases e; rfl
  | p :: r, l, l', h, h', nx, nx', e => by
    have hs := sem_ro (p := p.o.op) (l := l) (h := h) (nx := nx)
    unfold runNew at e
    split at e
    · split at e
      · exact runNew_ro e
      · rename_i x h1 n1 hx
        rw [hx] at hs
        exact (runNew_ro e).trans hs
      · cases e
    · exact runNew_ro e
    · cases e
theorem opRun_ro (hi : RoK ih) {ops : List Oper} {o : Oper} (e : h.ro = h0.ro) : ResRo h0.ro (opRun ops o k l h nx c ih noF) := by
  have go : ResRo h0.ro (opGo o k l h nx c ih noF) := by
    have hs := sem_ro (p := o.op) (l := l) (h := h) (nx := nx)
    unfold opGo
    cases hsr : sem o.op l h nx with
    | v x => exact hi.of e
    | m x h1 nx1 =>
      rw [hsr] at hs
      exact hi.of (hs.trans e)
    | call f args => exact rCall_ro hi e
    | yld x args => exact rYld_ro hi e
    | fork vs =>
      rw [hsr] at hs
      exact rFork_ro hi fun p hp => (hs p hp).trans e
    | bad n => trivial
  unfold opRun
  split
  · exact go
  · split
    · split
      · exact go
      · exact hi.of e
    · trivial
theorem iAny_ro (hi : RoK ih) {ops : List Oper} {phs : List Phase} (e : h.ro = h0.ro) : ResRo h0.ro (iAny ops phs k l h nx c ih noF) := by
  unfold iAny
  split
  · trivial
  · split
    · trivial
    · rename_i l1 h1 nx1 hn
      have e1 : h1.ro = h0.ro := (runNew_ro hn).trans e
      split
      · trivial
      · split
        · trivial
        · split
          · exact hi.of e1
          · exact opRun_ro hi e1
theorem delFrom_ro {x : Option Nat} : ∀ (m n : Nat) (h : Hp), (delFrom x m n h).ro = h.ro
  | 0, _, _ => rfl
  | m + 1, n, h => by
    unfold delFrom
    rw [delFrom_ro m (n + 1)]
    split
    · split <;> rfl
    · rfl
theorem retGo_ro (hi : RoK ih) {v : Option AV} {stk : List Fr} {nb : Nat} (e : h.ro = h0.ro) : ResRo h0.ro (retGo v h nx stk nb ih) := by
  unfold retGo
  split
  · trivial
  · split
    · exact (delFrom_ro _ _ _).trans e
    · exact hi.of e
theorem retTo_ro (hi : RoK ih) {v : AV} {stk : List Fr} {nb : Nat} (e : h.ro = h0.ro) : ResRo h0.ro (retTo v h nx stk nb ih) := by
  unfold retTo
  split
  · trivial
  · exact hi.of e
theorem roundEnd_ro (hi : RoK ih) {x : Nat} {j : Option Code} {stk : List Fr} {nb : Nat} (e : h.ro = h0.ro) : ResRo h0.ro (roundEnd x j h nx stk nb ih) := by
  unfold roundEnd
  split
  · exact retTo_ro hi e
  · trivial
theorem delDf_ro : ∀ {df : List Nat} {h h' : Hp}, delDf df h = some h' → h'.ro = h.ro
  | [], h, h', e => by cases e; rfl
  | d :: r, h, h', e => by
    unfold delDf at e
    split at e
    · exact (delDf_ro (h := h.del d) e).trans rfl
    · cases e
theorem leave_ro (hi : RoK ih) {j : Option Code} {fk : KT} (e : h.ro = h0.ro) : ResRo h0.ro (leave j l h nx c ih fk) := by
  unfold leave
  split
  · split
    · rename_i h1 hd
      exact retGo_ro hi ((delDf_ro hd).trans e)
    · trivial
  · exact roundEnd_ro hi e
theorem iCode_ro (hi : RoK ih) : ∀ (x : Code) (k : List AI) (l : Env) (h : Hp) (nx : Nat) (c : Cx), h.ro = h0.ro → ResRo h0.ro (iCode x k l h nx c ih noF) := by
  intro x
  induction x with
  | skip => intro k l h nx c e; exact hi.of e
  | region n ops d =>
    intro k l h nx c e
    show ResRo h0.ro (cRegion n ops d k l h nx c ih noF)
    unfold cRegion
    split
    · exact lin_ro hi e
    · split
      · exact hi.of e
      · trivial
  | seq x y ihx ihy => intro k l h nx c e; exact ihx _ _ _ _ _ e
  | cond q x y ihx ihy =>
    intro k l h nx c e
    show ResRo h0.ro (cCond q x y (iCode x) (iCode y) k l h nx c ih noF)
    unfold cCond
    split
    · exact ihx _ _ _ _ _ e
    · exact ihy _ _ _ _ _ e
    · trivial
  | block n x ihx => intro k l h nx c e; exact ihx _ _ _ _ _ e
  | loop x ihx => intro k l h nx c e; exact ihx _ _ _ _ _ e
  | rangeFunc g ps x y ihx ihy =>
    intro k l h nx c e
    show ResRo h0.ro (cRange g ps x y (iCode x) (iCode y) k l h nx c ih noF)
    unfold cRange
    split
    · split
      · split
        · exact rGo_ro hi e
        · trivial
      · trivial
    · trivial
  | exit n =>
    intro k l h nx c e
    show ResRo h0.ro (cExit n k l h nx c ih noF)
    unfold cExit
    split
    · exact hi.of e
    · split
      · exact roundEnd_ro hi e
      · trivial
  | scope x _ => intros; trivial
  | label n => intro k l h nx c e; exact hi.of e
  | goto n => intros; trivial
  | ret => intro k l h nx c e; exact leave_ro (fk := noF) hi e
  | refuse s => intros; trivial
theorem stepK_ro (hi : RoK ih) : ResRo h.ro (stepK k l h nx c ih noF) := by
  cases k with
  | nil => exact leave_ro (fk := noF) hi rfl
  | cons x k =>
    cases x with
    | code x => exact iCode_ro hi x k l h nx c rfl
    | inLoop x => exact hi.of rfl
    | inBlock n => exact hi.of rfl
    | lin ops rest => exact lin_ro hi rfl
    | any ops phs => exact iAny_ro hi rfl
    | endr x =>
      show ResRo h.ro (iEndr x k l h nx c ih noF)
      unfold iEndr
      split
      · rename_i f e ps ca cb dd pd st hg
        split
        · trivial
        · cases pd with
          | none => exact hi.of rfl
          | some q =>
            cases q with
            | ret => exact hi.of rfl
            | exit i => exact hi.of rfl
            | _ => trivial
      · trivial
    | begr =>
      show ResRo h.ro (iBegr k l h nx c ih noF)
      unfold iBegr
      split
      · split
        · exact hi.of rfl
        · trivial
      · trivial
end
theorem runNoF_ro : ∀ n, RoK (runF noF n)
  | 0 => fun _ _ _ _ _ => trivial
  | n + 1 => fun _ _ _ _ _ => stepK_ro (runNoF_ro n)
theorem noF_ok : KtOk noF := fun _ _ _ _ _ _ _ _ => (trivial : ResOk _ _ (.bad 331))
theorem fkRun_ok (hB : BuiltOk) : KtOk fkRun := runF_ok hB noF_ok (fun _ n k l h nx c v h' nx' e => by
  have := runNoF_ro n k l h nx c
  rw [e] at this
  exact this) 20000
theorem noFk_fkRun : noFk fkRun = false := by decide +kernel
theorem run_ok (hB : BuiltOk) (n : Nat) : KtOk (run n) := runF_ok hB (fkRun_ok hB) (fun h => by rw [noFk_fkRun] at h; cases h) n
end Go.Proofs.YtjjjckmpkldgnaaGreatDoor.Rk
namespace Go.Proofs.YtjjjckmpkldgnaaGreatDoor.Rk
open Go.RowKit
set_option maxRecDepth 100000
theorem spec_steps {f : FuncId} {args : List Value} {F : PH} {H X : List Asrt} {Q : Value → PH → List Asrt → Prop} {w : World} (sp : Spec P f args F H Q) (hs : Sat F (H ++ X) w) (cs : List Frame) : ∃ fr w' u F' H', Steps P (lone (Frame.enter P f args.toArray .normal) cs w) (lone fr cs w') ∧ fr.leaving P w' (.returned u) ∧ F.le F' ∧ Q u F' H' ∧ Mild w w' ∧ Sat F' (H' ++ X) w' := by
  obtain ⟨e, w', fr, ⟨v, F', H', rfl, h1, h2, h3, h4⟩, hc, _, hl⟩ := sp.out X w hs cs
  exact ⟨fr, w', v, F', H', hc, hl, h1, h2, h3, h4⟩
/-- What a function taken whole does, for one call. -/
def BOut (f : FuncId) (us : Array Value) (F : PH) (φ : Vl) (nx : Nat) (w : World) (v : AV) (h' : Hp) (nx' : Nat) : Prop := ∀ cs, ∃ fr w' u F' φ', Steps P (lone (Frame.enter P f us .normal) cs w) (lone fr cs w') ∧ fr.leaving P w' (.returned u) ∧ AvD F' φ' v u ∧ HR F' φ' h' w' ∧ F.le F' ∧ φ.le φ' ∧ (∀ n, n < nx → φ' n = φ n) ∧ (∀ n, nx' ≤ n → φ' n = none) ∧ Mild w w' ∧ nx ≤ nx'
section
variable {F : PH} {φ : Vl} {h : Hp} {nx : Nat} {w : World} {f : FuncId}
theorem ph_own {v : Value} {bs : List UInt8} {h1 : PH} (ho : bytes v bs h1) (hn : v ≠ .slice none 0 0) : ∃ g cap cur, v = .slice (some ⟨g, 0, none⟩) bs.length cap ∧ h1 = PH.one g (.cells cur tyByte (0, 0)) ∧ bs.length ≤ cap ∧ cap ≤ maxLen ∧ cur.size = cap ∧ cur.toList.take bs.length = u8s bs := by
  obtain ⟨_, h⟩ := ho
  rcases h with ⟨h, _⟩ | ⟨g, cap, cur, k1, k2, k3, k4, k5, k6⟩
  · exact absurd h hn
  · exact ⟨g, cap, cur, k1, k2, k3, k4, by rw [k5, Nat.mul_one], by rw [Nat.mul_one] at k6; exact k6⟩
/-- New bytes. -/
theorem bout_new {us : List Value} {G : Value → Prop} {bs : List UInt8} {n x : Nat} (r : HR F φ h w) (hfr : ∀ n, nx ≤ n → φ n = none) (sp : Spec P f us (ph w) [] fun u F' H' => ph w = F' ∧ G u ∧ H' = [bytes u bs]) (hb : bs = unp n x) (hne : ∀ u, G u → bs.length = 0 → u ≠ .slice none 0 0) :
    BOut f us.toArray F φ nx w (.s (.slc nx 0 n (.t 0))) (h.set (.brow n x) nx) (nx + 1) := fun cs => by
  have hn : bs.length = n := by rw [hb, unp_len]
  obtain ⟨fr, w', u, F', H', s1, s2, s3, ⟨e1, e2, e3⟩, s5, s6⟩ := spec_steps (X := []) sp (Sat.nil w) cs
  subst e1 e3
  obtain ⟨h1, k1, k2, r0, _, k3, k4⟩ := Sat.persist s6
  have hu : u ≠ .slice none 0 0 := by
    by_cases h0 : bs.length = 0
    · exact hne u e2 h0
    · intro e
      subst e
      rcases k1.2 with ⟨_, h, _⟩ | ⟨g, _, _, h, _⟩
      · exact h0 h
      · cases h
  obtain ⟨g, cap, cur, q1, q2, q3, q4, q5, q6⟩ := ph_own k1 hu
  have hle : (ph w).le (ph w') := (PH.le_l _ _).trans ((PH.le_l _ _).trans k4)
  have hg' : ph w' g = some (.cells cur tyByte (0, 0)) := k4 _ _ (PH.le_l _ _ _ _ (PH.le_r k2 _ _ (by rw [q2]; exact PH.one_self ..)))
  have hg : ph w g = none := by
    rcases k2 g with h | h
    · exact h
    · rw [q2, PH.one_self] at h; cases h
  have hnx : φ nx = none := hfr nx (Nat.le_refl _)
  have hl := Vl.le_put (x := (g, cap)) hnx
  refine ⟨fr, w', u, F, φ.put nx (g, cap), s1, s2, ⟨g, cap, Vl.put_self .., by rw [← hn]; exact q3, by rw [q1, hn]; rfl⟩, r.new hnx hle hg hg' ⟨cur, (0, 0), rfl, .inl rfl, by rw [hn, hb] at q6; exact q6, q5, q4⟩, PH.ler _, hl, fun n hn => Vl.put_other _ _ (by omega), fun n hn => by rw [Vl.put_other _ _ (by omega)]; exact hfr n (by omega), s5, Nat.le_succ _⟩
theorem bytesA_ok (r : HR F φ h w) {v : AV} {u : Value} {n s : Nat} (e : bytesA h v = some (n, s)) (hv : AvD F φ v u) : s < 256 ^ n ∧ n ≤ 1000000 ∧ ∃ a c, u = .slice a n c ∧ n ≤ c ∧ Byt (ph w) u (unp n s) := by
  unfold bytesA at e
  split at e
  · cases e
  · rename_i hns
    obtain ⟨b, hb, e⟩ := oget_some e
    split at e
    · rename_i hle
      cases e
      obtain ⟨h1, h2⟩ := bytesOf_ok r hb hv
      refine ⟨h1, Nat.le_of_ble_eq_true hle, ?_⟩
      rcases h2 with ⟨h2, _⟩ | h2
      · exact absurd h2 (hns _ _)
      · have h3 := h2
        obtain ⟨_, a, c, e, hn, _⟩ := h2
        refine ⟨a, c, e, hn, ?_⟩
        show SliceV (ph w) 1 u (unp n s).length (u8s (unp n s))
        rw [unp_len]; exact h3
    · cases e
theorem be8_unp (v : Nat) : be8 v = unp 8 v := by
  simp [be8, unp, List.range_succ, Nat.shiftRight_eq_div_pow]
theorem sizeB_of {n : Nat} (e : sizeB8 n = true) : sizeB (n : Int) = true ∧ n ≤ 8 ∧ 1 ≤ n := by
  unfold sizeB8 at e
  have : n = 1 ∨ n = 2 ∨ n = 4 ∨ n = 8 := by
    simp only [Bool.or_eq_true, Nat.beq_eq] at e
    omega
  rcases this with rfl | rfl | rfl | rfl <;> exact ⟨rfl, by omega, by omega⟩
theorem putB_unp {v n : Nat} (e : sizeB8 n = true) : putB v (n : Int) = unp n v := by
  obtain ⟨h1, h2, _⟩ := sizeB_of e
  unfold putB
  rw [h1, if_pos rfl, be8_unp, Int.toNat_natCast]
  obtain ⟨k, hk⟩ : ∃ k, 8 = k + n := ⟨8 - n, by omega⟩
  rw [show 8 - n = k from by omega, hk, unp_drop]
theorem arr_of {us : Array Value} {l : List Value} (e : us.toList = l) : us = l.toArray := by rw [← e, Array.toArray_toList]
theorem bPut_ok {args : List AV} {us : Array Value} {v : AV} {h' : Hp} {nx' : Nat} (r : HR F φ h w) (hu : All2 (AvD F φ) args us.toList) (hfr : ∀ n, nx ≤ n → φ n = none) (e : bPut args h nx = some (v, h', nx')) : BOut 100 us F φ nx w v h' nx' := by
  unfold bPut at e
  split at e
  · rename_i b k n
    split at e
    · rename_i hc
      rw [Bool.and_eq_true] at hc
      obtain ⟨p, hp, e⟩ := Option.map_eq_some_iff.1 e
      obtain ⟨m, s⟩ := p
      cases e
      generalize hul : us.toList = ul at hu
      cases hu with
      | @cons _ u1 _ _ h1 t1 => cases t1 with
        | @cons _ u2 _ _ h2 t2 => cases t2 with
          | @cons _ u3 _ _ h3 t3 =>
            cases t3
            have h2 : u2 = .int .u64 (Int.ofNat k) := h2
            have h3 : u3 = .int .i64 (Int.ofNat n) := h3
            subst h2 h3
            obtain ⟨b1, b2, a, c, rfl, b3, b4⟩ := bytesA_ok r hp h1
            rw [arr_of hul]
            have hlt : k < 2 ^ 64 := Nat.le_of_ble_eq_true hc.2
            have sp := put_spec a c k (n : Int) (unp m s) (ph w) (by rw [unp_len]; exact b4) (by rw [unp_len]; exact b3) hlt (by rw [unp_len]; omega)
            rw [unp_len, putB_unp hc.1] at sp
            have hk : unp n k = unp n (k % 256 ^ n) := (unp_mod n k).symm
            have hn := (sizeB_of hc.1).2.2
            refine bout_new (G := fun _ => True) (bs := unp m s ++ unp n k) (n := m + n) (x := s * 256 ^ n + k % 256 ^ n) r hfr (sp.mono fun _ _ _ _ hq => ⟨hq.1, trivial, hq.2⟩) ?_ fun u _ h0 => ?_
            · rw [hk, unp_cat _ _ _ _ (Nat.mod_lt _ (pow_pos' n))]
            · rw [List.length_append, unp_len, unp_len] at h0; omega
    · cases e
  · cases e
theorem bRow_ok {args : List AV} {us : Array Value} {v : AV} {h' : Hp} {nx' : Nat} (r : HR F φ h w) (hu : All2 (AvD F φ) args us.toList) (hfr : ∀ n, nx ≤ n → φ n = none) (e : bRow args h nx = some (v, h', nx')) : BOut 101 us F φ nx w v h' nx' := by
  unfold bRow at e
  split at e
  · rename_i x y
    obtain ⟨p, hp, e⟩ := oget_some e
    obtain ⟨q, hq, e⟩ := Option.map_eq_some_iff.1 e
    obtain ⟨m, s⟩ := p
    obtain ⟨n, t⟩ := q
    cases e
    generalize hul : us.toList = ul at hu
    cases hu with
    | @cons _ u1 _ _ h1 t1 => cases t1 with
      | @cons _ u2 _ _ h2 t2 =>
        cases t2
        obtain ⟨b1, b2, a, c, rfl, b3, b4⟩ := bytesA_ok r hp h1
        obtain ⟨c1, c2, a', c', rfl, c3, c4⟩ := bytesA_ok r hq h2
        rw [arr_of hul]
        have sp := row_spec a a' c c' (unp m s) (unp n t) (ph w) (by rw [unp_len]; exact b4) (by rw [unp_len]; exact b3) (by rw [unp_len]; exact c4) (by rw [unp_len]; omega) (by rw [unp_len]; omega)
        rw [unp_len, unp_len] at sp
        have h4 : putB n 4 = unp 4 n := putB_unp (n := 4) rfl
        rw [h4] at sp
        refine bout_new (G := fun _ => True) (bs := unp m s ++ unp 4 n ++ unp n t) (n := m + 4 + n) (x := (s * 4294967296 + n) * 256 ^ n + t) r hfr (sp.mono fun _ _ _ _ hq => ⟨hq.1, trivial, hq.2⟩) ?_ fun u _ h0 => ?_
        · rw [unp_cat _ _ _ _ c1, ← unp_cat m 4 s n (by omega)]
        · rw [List.length_append, List.length_append, unp_len, unp_len, unp_len] at h0; omega
  · cases e
theorem bClone_ok {args : List AV} {us : Array Value} {v : AV} {h' : Hp} {nx' : Nat} (r : HR F φ h w) (hu : All2 (AvD F φ) args us.toList) (hfr : ∀ n, nx ≤ n → φ n = none) (e : bClone args h nx = some (v, h', nx')) : BOut 46 us F φ nx w v h' nx' := by
  unfold bClone at e
  have main : ∀ {b : AV} {u1 : Value} {m s : Nat}, bytesA h b = some (m, s) → AvD F φ b u1 → us = #[u1] → (m = 0 → ∀ c, u1 ≠ .slice none 0 c) → BOut 46 us F φ nx w (.s (.slc nx 0 m (.t 0))) (h.set (.brow m s) nx) (nx + 1) := fun {b u1 m s} hp h1 hus hnn => by
    obtain ⟨b1, b2, a, c, rfl, b3, b4⟩ := bytesA_ok r hp h1
    have sp := clone_spec a c (unp m s) (ph w) (by rw [unp_len]; exact b4) (by rw [unp_len]; omega)
    rw [unp_len] at sp
    rw [hus]
    refine bout_new (us := [.slice a m c]) (G := fun u => (u = .slice none 0 0 ↔ a = none)) (bs := unp m s) (n := m) (x := s) r hfr sp rfl fun u hg h0 e => ?_
    rw [unp_len] at h0
    subst h0
    exact hnn rfl c (by rw [hg.1 e])
  split at e
  · rename_i b
    generalize hul : us.toList = ul at hu
    cases hu with
    | @cons _ u1 _ _ h1 t1 =>
      cases t1
      have hus := arr_of hul
      split at e
      · cases e
        have h1 : u1 = .slice none 0 0 := h1
        subst h1
        intro cs
        have sp := clone_spec none 0 [] (ph w) (SliceV.nil _ 1) (by simp)
        obtain ⟨fr, w', u, F', H', s1, s2, s3, ⟨e1, e2, e3⟩, s5, s6⟩ := spec_steps (X := []) sp (Sat.nil w) cs
        subst e1 e3
        have hu0 := e2.2 rfl
        have hle : (ph w).le (ph w') := s6.le
        rw [hus]
        exact ⟨fr, w', u, F, φ, s1, s2, hu0, r.grow hle, PH.ler _, Vl.ler _, fun _ _ => rfl, hfr, s5, Nat.le_refl _⟩
      · obtain ⟨q, hq, e⟩ := Option.map_eq_some_iff.1 e
        obtain ⟨m, s⟩ := q
        cases e
        refine main hq h1 hus fun _ c e => ?_
        obtain ⟨_, _, _, _, h⟩ := h1
        rw [h] at e; cases e
      · split at e
        · cases e
        · rename_i hn0
          obtain ⟨q, hq, e⟩ := Option.map_eq_some_iff.1 e
          obtain ⟨m, s⟩ := q
          cases e
          refine main hq h1 hus fun h0 c _ => ?_
          subst h0
          unfold bytesA at hq
          obtain ⟨b, hb, hq⟩ := oget_some hq
          split at hq
          · cases hq
            cases hb
            rw [Nat.beq_refl] at hn0
            cases hn0
          · cases hq
      · cases e
  · cases e
end
end Go.Proofs.YtjjjckmpkldgnaaGreatDoor.Rk
