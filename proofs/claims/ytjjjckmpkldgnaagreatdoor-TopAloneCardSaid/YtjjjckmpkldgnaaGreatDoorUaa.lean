/-
  The reckoner's regions, ranges and ends are the machine's. Plain theorems; no condition.
  The reckoner's run is the machine's. Plain theorems; no condition.
-/
import Derived.Test.YtjjjckmpkldgnaaGreatDoorUy
namespace Go.Proofs.YtjjjckmpkldgnaaGreatDoor.Rk
open Go.RowKit
set_option maxRecDepth 100000
section
variable {B : Base} {k : List AI} {l : Env} {h h' : Hp} {nx nx' nb N : Nat} {c : Cx} {F F' : PH} {φ φ' : Vl} {w w' : World} {ro : Option Nat} {a a' : Act} {t : List Item} {cs : List Frame} {dst : Option Nat} {ih fk : KT} {m : Machine}
theorem Actv.lin_inv {os rest : List Oper} (A : Actv F φ nb nx N l a (.lin os rest :: k) t) : ∃ ops idx t', os = Array.toList ops ∧ t = .inRegion ops idx :: t' ∧ EnvOk F φ l a ∧ idx.map (fun i => ops[i]?) = rest.map some ∧ (∀ o ∈ rest, dstOk N o = true) ∧ KT' N k t' := by
  generalize hk : (AI.lin os rest :: k) = k0 at A
  cases A with
  | plain he r => subst hk; cases r
  | lin he hr hd r => cases hk; exact ⟨_, _, _, rfl, rfl, he, hr, hd, r⟩
  | endr he hx r => cases hk
  | any I hp hd r => cases hk
theorem Actv.any_inv {os : List Oper} {phs : List Phase} (A : Actv F φ nb nx N l a (.any os phs :: k) t) : ∃ ops es rs K D sch prev t', os = Array.toList ops ∧ phs = phGo rs K prev (es.drop K) ∧ t = .inRegion ops sch :: t' ∧ AnyI ops es rs K K D sch F φ nb nx l a ∧ (∀ e, prev = some e → e ∈ es ∧ D.getD e.i false = true) ∧ (∀ o ∈ ops.toList, dstOk N o = true) ∧ KT' N k t' := by
  generalize hk : (AI.any os phs :: k) = k0 at A
  cases A with
  | plain he r => subst hk; cases r
  | lin he hr hd r => cases hk
  | endr he hx r => cases hk
  | any I hp hd r => cases hk; exact ⟨_, _, _, _, _, _, _, _, rfl, rfl, rfl, I, hp, hd, r⟩
theorem Actv.endr_inv {x : Nat} (A : Actv F φ nb nx N l a (.endr x :: k) t) : ∃ b κ t', t = .endRangeFunc b :: t' ∧ φ x = some (b, κ) ∧ EnvOk F φ l a ∧ KT' N k t' := by
  generalize hk : (AI.endr x :: k) = k0 at A
  cases A with
  | plain he r => subst hk; cases r
  | lin he hr hd r => cases hk
  | endr he hx r => cases hk; exact ⟨_, _, _, rfl, hx, he, r⟩
  | any I hp hd r => cases hk
theorem Actv.code_inv {x : Code} (A : Actv F φ nb nx N l a (.code x :: k) t) : ∃ t', t = .code x :: t' ∧ EnvOk F φ l a ∧ codeOk N x = true ∧ KT' N k t' := by
  generalize hk : (AI.code x :: k) = k0 at A
  cases A with
  | plain he r => subst hk; cases r with | code h r => exact ⟨_, rfl, he, h, r⟩
  | lin he hr hd r => cases hk
  | endr he hx r => cases hk
  | any I hp hd r => cases hk
theorem Actv.loop_inv {x : Code} (A : Actv F φ nb nx N l a (.inLoop x :: k) t) : ∃ t', t = .inLoop x :: t' ∧ EnvOk F φ l a ∧ codeOk N x = true ∧ KT' N k t' := by
  generalize hk : (AI.inLoop x :: k) = k0 at A
  cases A with
  | plain he r => subst hk; cases r with | loop h r => exact ⟨_, rfl, he, h, r⟩
  | lin he hr hd r => cases hk
  | endr he hx r => cases hk
  | any I hp hd r => cases hk
theorem Actv.block_inv {x : Nat} (A : Actv F φ nb nx N l a (.inBlock x :: k) t) : ∃ t', t = .inBlock x :: t' ∧ EnvOk F φ l a ∧ KT' N k t' := by
  generalize hk : (AI.inBlock x :: k) = k0 at A
  cases A with
  | plain he r => subst hk; cases r with | block r => exact ⟨_, rfl, he, r⟩
  | lin he hr hd r => cases hk
  | endr he hx r => cases hk
  | any I hp hd r => cases hk
theorem Actv.begr_inv (A : Actv F φ nb nx N l a (.begr :: k) t) : ∃ t', t = .beginRound :: t' ∧ EnvOk F φ l a ∧ KT' N k t' := by
  generalize hk : (AI.begr :: k) = k0 at A
  cases A with
  | plain he r => subst hk; cases r with | begr r => exact ⟨_, rfl, he, r⟩
  | lin he hr hd r => cases hk
  | endr he hx r => cases hk
  | any I hp hd r => cases hk
theorem Actv.nil_inv (A : Actv F φ nb nx N l a [] t) : t = [] ∧ EnvOk F φ l a := by
  generalize hk : ([] : List AI) = k0 at A
  cases A with
  | plain he r => subst hk; cases r; exact ⟨rfl, he⟩
  | lin he hr hd r => cases hk
  | endr he hx r => cases hk
  | any I hp hd r => cases hk
/-- Operations in the text's order. -/
theorem lin_ok (hB : BuiltOk) (hi : KtOk ih) (hfk : KtOk fk) (hro : noFk fk = true → KtRo ih) {os : List Oper} : ∀ {rest : List Oper} {l : Env} {h : Hp} {nx : Nat} {m : Machine}, Rel B (.lin os rest :: k) l h nx c m → ResOk B m (lin os rest k l h nx c ih fk) := by
  intro rest
  induction rest with
  | nil =>
    intro l h nx m ⟨F, φ, w, ro, a, t, cs, nb, hm, R⟩
    obtain ⟨ops, idx, t', e1, e2, he, hr, hd, r⟩ := R.act.lin_inv
    have hidx : idx = [] := by
      cases idx with
      | nil => rfl
      | cons i idx => cases hr
    subst e1 e2 hm hidx
    refine ResOk.steps (.one st_end) ?_
    exact hi _ _ _ _ _ _ _ ⟨F, φ, w, ro, a, t', cs, nb, rfl, R.fr.rel R.hr (.plain he r)⟩
  | cons o rest IH =>
    intro l h nx m ⟨F, φ, w, ro, a, t, cs, nb, hm, R⟩
    obtain ⟨ops, idx, t', e1, e2, he, hr, hd, r⟩ := R.act.lin_inv
    cases idx with
    | nil => cases hr
    | cons i idx =>
    simp only [List.map_cons, List.cons.injEq] at hr
    obtain ⟨ho, hr⟩ := hr
    subst e1 e2 hm
    have hs : Susp F φ nb nx (nT c.f) l a o.dst (.lin ops.toList rest :: k) (.inRegion ops (i :: idx) :: t') := .lin he ho (hd o (List.mem_cons_self ..)) hr (fun q hq => hd q (List.mem_cons_of_mem _ hq)) r
    have hsok : SROk o a.eval F φ h nx w (sem o.op l h nx) := sem_ok he R.hr
    have go : Region.wanted o (yielded ops a.tmps) = true → ResOk B (lone (FrG c.f ro a (.inRegion ops (i :: idx) :: t')) cs w) (linGo o ops.toList rest (lin ops.toList rest) k l h nx c ih fk) := fun hw => by
      have H : HdR B (.lin ops.toList rest :: k) l h nx c o F φ w ro a ops i idx t' cs nb := ⟨R.fr, hs, R.hr, ho, hw, hsok⟩
      unfold linGo
      cases hsr : sem o.op l h nx with
      | v x =>
        rw [hsr] at hsok
        obtain ⟨m', s1, s2⟩ := head_val H (not_defer hsr fun n e => by cases e) (Nat.le_refl _) hsok
        exact ResOk.steps s1 (IH s2)
      | m x h1 nx1 =>
        rw [hsr] at hsok
        obtain ⟨m', s1, s2⟩ := head_val H (not_defer hsr fun n e => by cases e) hsok.1 (hsok.2 fun n h1 _ => R.free n h1)
        exact ResOk.steps s1 (IH s2)
      | call f args => exact head_call hB hi hfk H hsr
      | yld x args => exact head_yld hi H hsr
      | fork vs => exact head_fork hi hro H hsr
      | bad n => trivial
    show ResOk B _ (linG ops.toList o rest (lin ops.toList rest) k l h nx c ih fk o.guard)
    unfold linG
    split
    · rename_i hg
      exact go (by unfold Region.wanted; rw [hg])
    · rename_i j b hg
      split
      · rename_i v hv
        have hw := guard_ok he hg hv
        split
        · rename_i hb
          exact go (by rw [hw]; exact hb)
        · rename_i hb
          obtain ⟨m', s1, s2⟩ := head_skip R.fr hs R.hr ho (by rw [hw]; exact hb)
          exact ResOk.steps s1 (IH s2)
      · trivial
/-- Operations in whatever order. -/
theorem any_ok (hB : BuiltOk) (hi : KtOk ih) (hfk : KtOk fk) (hro : noFk fk = true → KtRo ih) {os : List Oper} {phs : List Phase} (hR : Rel B (.any os phs :: k) l h nx c m) : ResOk B m (iAny os phs k l h nx c ih fk) := by
  obtain ⟨F, φ, w, ro, a, t, cs, nb, hm, R⟩ := hR
  obtain ⟨ops, es, rs, K, D, sch, prev, t', e1, e2, e3, I, hp, hd, r⟩ := R.act.any_inv
  subst e1 e3 hm
  have hds : ∀ p ∈ rs, ∀ d, p.o.dst = some d → d < a.tmps.size := fun p hp' d hd' => dst_lt (hd p.o (List.mem_of_getElem? (I.reg.at_ p (.inr hp')))) R.size d hd'
  unfold iAny
  split
  · trivial
  · rename_i p r'
    split
    · trivial
    · rename_i l1 h1 nx1 hn
      split
      · trivial
      · rename_i hc1
        split
        · trivial
        · rename_i hc2
          cases hdr : es.drop K with
          | nil =>
            rw [hdr] at e2
            have e2 : p :: r' = [⟨sel K rs, selOld K prev rs, none⟩] := e2
            cases e2
            obtain ⟨I2, q1, q2, q3, q4, _⟩ := any_phase I R.hr R.le R.free hp hn hc1 hc2
            have hK : es.length ≤ K := by simpa using hdr
            obtain ⟨a1, w1, F1, φ1, s1, s2, s3, s4, s5, s6, s7, s8, s9⟩ := any_rest (f := c.f) (ro := ro) (k := t') (cs := cs) hK hds I2 q1 q4
            refine ResOk.steps s1 ?_
            have hle := R.le
            exact hi _ _ _ _ _ _ _ ⟨F1, φ1, w1, ro, a1, t', cs, nb, rfl, (R.fr.go s4 s5 (fun n hn => s6 n (.inl hn)) q2 (fun n hn => (s6 n (.inr hn)).trans (q3 n hn)) s7 s8 s9).rel s3 (.plain s2 r)⟩
          | cons e rem =>
            rw [hdr] at e2
            have e2 : p :: r' = ⟨sel K rs, selOld K prev rs, some e⟩ :: phGo rs (K + 1) (some e) rem := e2
            cases e2
            obtain ⟨I2, q1, q2, q3, q4, _⟩ := any_phase I R.hr R.le R.free hp hn hc1 hc2
            have heK : es[K]? = some e := by
              have := congrArg (fun x => x[0]?) hdr
              simpa using this
            have hrem : rem = es.drop (K + 1) := by
              rw [← List.drop_drop, hdr]; rfl
            obtain ⟨sch', D', a1, w1, F1, φ1, s1, I3, s3, s4, s5, s6, s7, s8, s9⟩ := any_till (f := c.f) (ro := ro) (k := t') (cs := cs) heK hds I2 q1 q4
            refine ResOk.steps s1 ?_
            have hem : e ∈ es := List.mem_of_getElem? heK
            have ho : ops[e.i]? = some e.o := by rw [← Array.getElem?_toList]; exact I.reg.at_ e (.inl hem)
            have hfr : FrD B nx1 c F1 φ1 w1 ro a1 cs nb := R.fr.go s4 s5 (fun n hn => s6 n (.inl hn)) q2 (fun n hn => (s6 n (.inr hn)).trans (q3 n hn)) s7 s8 s9
            have hS := I3.sch
            cases hS with
            | cons c1 c2 c3 c4 =>
            have hmask := I3.dyn.ready I3.reg (.inl hem) c3
            obtain ⟨_, hdyn⟩ := I3.dyn.effect I3.reg hem c1 c2 hmask
            have hsz := I3.dyn.size
            have hpd : ∀ q, Pend rs (K + 1) (D'.setIfInBounds e.i true) q → Pend rs (K + 1) D' q := fun q hq => ⟨hq.1, hq.2.1, by
              have := hq.2.2
              rw [getD_set (by omega)] at this
              split at this
              · cases this
              · exact this⟩
            have hpd' : ∀ q, Pend rs (K + 1) D' q → Pend rs (K + 1) (D'.setIfInBounds e.i true) q := fun q hq => ⟨hq.1, hq.2.1, by
              rw [getD_set (by omega), if_neg (fun h => I3.reg.apart hem hq.1 h.symm)]
              exact hq.2.2⟩
            have I4 : AnyI ops es rs (K + 1) (K + 1) (D'.setIfInBounds e.i true) sch' F1 φ1 nb nx1 l1 a1 := ⟨I3.reg, hdyn, c4, fun t v h1 h2 => I3.env t v h1 fun p hp => h2 p (hpd' p hp), fun p hp => I3.rsv p (hpd p hp), fun p q hp hq => I3.rsd p q (hpd p hp) (hpd q hq), fun p hp hd => by
              rw [getD_set (by omega), if_neg (fun h => I3.reg.apart hem hp h.symm)] at hd
              exact I3.old p hp hd⟩
            have hsusp : Susp F1 φ1 nb nx1 (nT c.f) l1 a1 e.o.dst (.any ops.toList (phGo rs (K + 1) (some e) (es.drop (K + 1))) :: k) (.inRegion ops (e.i :: sch') :: t') := .any I4 (fun e' h => by
                cases h
                exact ⟨hem, by rw [getD_set (by omega), if_pos rfl]⟩) hd ho (fun p hp d h1 h2 => by
                have := I3.reg.wr p hp e (.inl hem) d h1 h2
                exact I3.reg.apart hem hp this.symm) r
            rw [← hrem] at hsusp
            -- what the effect looks at
            obtain ⟨l2, hl, hl'⟩ := I3.less
            have hlook := I3.looks (.inl hem) hmask
            have hsc : sem e.o.op l1 h1 nx1 = sem e.o.op l2 h1 nx1 := sem_congr fun x hx => by
              refine ev_congr fun t e' => ?_
              subst e'
              exact hl' t (hlook t (.inl hx))
            have hsok : SROk e.o a1.eval F1 φ1 h1 nx1 w1 (sem e.o.op l1 h1 nx1) := by
              rw [hsc]; exact sem_ok hl s3
            have go : Region.wanted e.o (yielded ops a1.tmps) = true → ResOk B (lone (FrG c.f ro a1 (.inRegion ops (e.i :: sch') :: t')) cs w1) (opGo e.o (.any ops.toList (phGo rs (K + 1) (some e) rem) :: k) l1 h1 nx1 c ih fk) := fun hw => by
              have H : HdR B (.any ops.toList (phGo rs (K + 1) (some e) rem) :: k) l1 h1 nx1 c e.o F1 φ1 w1 ro a1 ops e.i sch' t' cs nb := ⟨hfr, hsusp, s3, ho, hw, hsok⟩
              unfold opGo
              cases hsr : sem e.o.op l1 h1 nx1 with
              | v x =>
                rw [hsr] at hsok
                obtain ⟨m', z1, z2⟩ := head_val H (not_defer hsr fun n e => by cases e) (Nat.le_refl _) hsok
                exact ResOk.steps z1 (hi _ _ _ _ _ _ _ z2)
              | m x h2 nx2 =>
                rw [hsr] at hsok
                obtain ⟨m', z1, z2⟩ := head_val H (not_defer hsr fun n e => by cases e) hsok.1 (hsok.2 fun n h1 _ => hfr.free n h1)
                exact ResOk.steps z1 (hi _ _ _ _ _ _ _ z2)
              | call f args => exact head_call hB hi hfk H hsr
              | yld x args => exact head_yld hi H hsr
              | fork vs => exact head_fork hi hro H hsr
              | bad n => trivial
            show ResOk B _ (opRun ops.toList e.o (.any ops.toList (phGo rs (K + 1) (some e) rem) :: k) l1 h1 nx1 c ih fk)
            unfold opRun
            split
            · rename_i hg
              exact go (by unfold Region.wanted; rw [hg])
            · rename_i j b hg
              split
              · rename_i v hv
                have hv2 : gval ops.toList l2 j = some v := by
                  obtain ⟨g, d, g1, g2, g3⟩ := gval_ok hv
                  unfold gval
                  rw [lget_eq, Array.getElem?_toList, g1]
                  show oget g.dst (fun d => l2.get d) = some v
                  rw [g2]
                  show l2.get d = some v
                  rw [hl' d (hlook d (.inr ⟨j, b, g, hg, by rw [Array.getElem?_toList]; exact g1, g2⟩))]
                  exact g3
                have hw := guard_ok hl hg hv2
                split
                · rename_i hb
                  exact go (by rw [hw]; exact hb)
                · rename_i hb
                  obtain ⟨m', z1, z2⟩ := head_skip hfr hsusp s3 ho (by rw [hw]; exact hb)
                  exact ResOk.steps z1 (hi _ _ _ _ _ _ _ z2)
              · trivial
end
end Go.Proofs.YtjjjckmpkldgnaaGreatDoor.Rk
namespace Go.Proofs.YtjjjckmpkldgnaaGreatDoor.Rk
open Go.RowKit
set_option maxRecDepth 100000
section
variable {B : Base} {k : List AI} {l : Env} {h h' : Hp} {nx nx' nb N : Nat} {c : Cx} {F F' : PH} {φ φ' : Vl} {w w' : World} {ro : Option Nat} {a a' : Act} {t : List Item} {cs : List Frame} {dst : Option Nat} {ih fk : KT} {m : Machine}
theorem putObj_other {b c : Nat} {o : Obj} (hc : c ≠ b) : ph (w.putObj b o) c = ph w c := World.putObj_heap_other hc
theorem mild_put (w : World) (b : Nat) (o : Obj) : Mild w (w.putObj b o) := ⟨rfl, rfl, rfl, by rw [World.putObj_size]; exact Nat.le_refl _⟩
/-- A block that is not looked at any more. -/
theorem HR.gone (r : HR F φ h w) {x b κ : Nat} {o : AO} (hg : h.get x = some o) (hn : φ x = some (b, κ)) (ob : Obj) : HR F φ (h.del x) (w.putObj b ob) := by
  have key : ∀ n o' c κ', (h.del x).get n = some o' → φ n = some (c, κ') → n ≠ x ∧ h.get n = some o' ∧ c ≠ b := fun n o' c κ' e1 e2 => by
    rw [Hp.get_del] at e1
    split at e1
    · cases e1
    · rename_i hnx
      exact ⟨hnx, e1, fun e => hnx (by subst e; exact r.inj n x o' o c κ' κ e1 hg e2 hn)⟩
  exact ⟨fun n o' c κ' e1 e2 => by
    obtain ⟨_, h2, h3⟩ := key n o' c κ' e1 e2
    obtain ⟨ob', q1, q2⟩ := r.obj n o' c κ' h2 e2
    exact ⟨ob', by rw [putObj_other h3]; exact q1, q2⟩, fun n m o1 o2 c κ1 κ2 e1 e2 e3 e4 => r.inj n m o1 o2 c κ1 κ2 (key _ _ _ _ e1 e3).2.1 (key _ _ _ _ e2 e4).2.1 e3 e4, fun c x' e => by
    have hne : c ≠ b := fun h => by
      subst h
      rw [r.dj x o c κ hg hn] at e
      cases e
    rw [putObj_other hne]
    exact r.fr c x' e, fun n o' c κ' e1 e2 => r.dj n o' c κ' (key _ _ _ _ e1 e2).2.1 e2⟩
theorem HR.put (r : HR F φ h w) {x b κ : Nat} {o o' : AO} {ob : Obj} (hg : h.get x = some o) (hn : φ x = some (b, κ)) (ho : ObD F φ κ o' ob) : HR F φ (h.set o' x) (w.putObj b ob) := put_hr r hg hn ho
theorem delDf_ok {f : FuncId} {ts : Array Value} {kk : List Item} : ∀ {df : List Nat} {ds : List Deferred} {h h' : Hp} {w : World}, DfR φ df ds → HR F φ h w → delDf df h = some h' → ∃ w', Steps P (lone (FrE f ⟨ts, ds⟩ kk) cs w) (lone (FrE f ⟨ts, []⟩ kk) cs w') ∧ HR F φ h' w' ∧ Mild w w'
  | [], ds, h, h', w, hd, r, e => by
    cases hd
    cases e
    exact ⟨w, .refl _ _, r, Mild.refl w⟩
  | d :: df, ds, h, h', w, hd, r, e => by
    cases hd with
    | @cons _ D _ ds h1 h2 =>
    obtain ⟨b, κ, hb, rfl⟩ := h1
    unfold delDf at e
    split at e
    · rename_i hg
      obtain ⟨ob, hw, ho⟩ := r.obj _ _ _ _ hg hb
      have ho : ob = .deferred (some []) := ho
      subst ho
      obtain ⟨w', s1, s2, s3⟩ := delDf_ok h2 (r.gone hg hb (.deferred none)) e
      exact ⟨w', .head (st_take hw) s1, s2, (mild_put w b _).trans s3⟩
    · cases e
theorem oLoad_run {T : TypeId} {v x : AV} {u : Value} (r : HR F φ h w) (hv : AvD F φ v u) (e : oLoad T h v = .v x) : ∃ ad u', u = .pointer (some ad) ∧ (loadVar T ad).run P w = .ok u' w ∧ AvD F φ x u' := by
  unfold oLoad at e
  split at e
  · rename_i id off
    obtain ⟨b, κ, hb, rfl⟩ := hv
    split at e
    · rename_i n ht
      unfold srv at e
      cases hr : rd h id off n with
      | none => rw [hr] at e; cases e
      | some q =>
        rw [hr] at e
        cases e
        obtain ⟨us, h1, h2, h3⟩ := rd_ok r hr hb
        exact ⟨_, _, rfl, run_load_agg (tagg_ok ht) h2 (by rw [← h1.len, h3]), us, h1, rfl⟩
    · split at e
      · rename_i hp
        unfold srv at e
        split at e
        · rename_i y hy
          cases e
          obtain ⟨q, hr, hy⟩ := oget_some hy
          obtain ⟨us, h1, h2, h3⟩ := rd_ok r hr hb
          cases h1 with
          | nil => cases hy
          | @cons s u q' us' h1 ht =>
            cases hy
            have : q' = [] := by simpa using h3
            subst this
            cases ht
            exact ⟨_, u, rfl, run_load_one (tplain_ok hp) h2, h1⟩
        · cases e
      · cases e
  · cases e
theorem resVars_ok (he : EnvOk F φ l a) (r : HR F φ h w) : ∀ {rs : List ResultVar} {vs : List TV}, resVars l h rs = some vs → ∃ us, All2 (TvD F φ) vs us ∧ (rs.mapM (resF a.tmps)).run P w = .ok us w
  | [], vs, e => by cases e; exact ⟨[], .nil, rfl⟩
  | v :: rs, vs, e => by
    unfold resVars at e
    obtain ⟨x, hx, e⟩ := oget_some e
    obtain ⟨xs, hxs, e⟩ := oget_some e
    cases e
    obtain ⟨us, h1, h2⟩ := resVars_ok he r hxs
    have one : ∃ u, TvD F φ x u ∧ (resF a.tmps v).run P w = .ok u w := by
      cases v with
      | tmp t =>
        obtain ⟨q, hq, hx⟩ := oget_some hx
        exact ⟨_, av_tv hx (he t q hq), rfl⟩
      | cell t T =>
        obtain ⟨q, hq, hx⟩ := oget_some hx
        split at hx
        · rename_i y hy
          obtain ⟨ad, u', e1, e2, e3⟩ := oLoad_run r (he t q hq) hy
          refine ⟨u', av_tv hx e3, ?_⟩
          show Sem.run P (do loadVar T (← asAddr (a.tmps.getD t undef))) w = _
          rw [e1]
          exact e2
        · cases hx
    obtain ⟨u, k1, k2⟩ := one
    refine ⟨u :: us, .cons k1 h1, ?_⟩
    rw [List.mapM_cons, Sem.run_bind, k2, Result.andThen_ok, Sem.run_bind, h2]
    rfl
theorem res_ok {f : FuncId} {v : AV} (he : EnvOk F φ l a) (r : HR F φ h w) (e : resOf f l h = some v) : ∃ fn u, P.funcs[f]? = some fn ∧ (results fn a.tmps).run P w = .ok u w ∧ AvD F φ v u := by
  unfold resOf at e
  obtain ⟨fn, hf, e⟩ := oget_some e
  obtain ⟨vs, hv, e⟩ := oget_some e
  obtain ⟨us, h1, h2⟩ := resVars_ok he r hv
  have hrun : (results fn a.tmps).run P w = .ok (retV us) w := by
    have e : results fn a.tmps = (do let vs ← fn.results.mapM (resF a.tmps); pure (if h : vs.size = 1 then vs[0] else .tuple vs)) := by
      unfold results
      congr 2
    rw [e, Array.mapM_eq_mapM_toList, Sem.run_bind, Sem.run_map, h2]
    simp only [Result.andThen_ok]
    cases us with
    | nil => rfl
    | cons v vs =>
      cases vs with
      | nil => rfl
      | cons u vs => rfl
  refine ⟨fn, _, funT_ok hf, hrun, ?_⟩
  split at e
  · cases e
    cases h1 with
    | cons k1 k2 => cases k2; exact tv_av k1
  · rename_i hne
    cases e
    cases h1 with
    | nil => exact ⟨[], .nil, rfl⟩
    | cons p1 p2 =>
      cases p2 with
      | nil => exact absurd rfl (hne _)
      | cons p2 p3 => exact ⟨_, .cons p1 (.cons p2 p3), rfl⟩
/-- The value goes to the frame that waits. -/
theorem pop_fin {f : FuncId} {fr : Fr} {stk : List Fr} {cnb : Nat} (r : StkR B F φ nb f (fr :: stk) cs) (hle : nb ≤ nx) (hf : ∀ n, nx ≤ n → φ n = none) (bF : B.F.le F) (bφ : B.φ.le φ) (bk : ∀ n, n < B.nb → φ n = B.φ n) (bw : Mild B.w w) (hr : HR F φ h w) {v : AV} {u : Value} (hv : AvD F φ v u) :
    ∃ c0 cs' ro a' t' nb0, cs = c0 :: cs' ∧ c0.finish u = FrG fr.f ro a' t' ∧ RelD B fr.k (putD fr.l fr.dst v) h nx ⟨fr.f, fr.ro, fr.df, stk, cnb⟩ F φ w ro a' t' cs' nb0 := by
  cases r with
  | @cons _ _ ro a t cs nb0 _ _ s hro hdf hN hle' r =>
    obtain ⟨a', t', h1, h2, h3, h4⟩ := (s.mono (PH.ler _) (Vl.ler _) (fun _ _ => rfl) hle).fin (f := fr.f) (ro := ro) hv hN
    exact ⟨_, cs, ro, a', t', nb0, rfl, h1, hr, h2, hro, by rw [h3]; exact hdf, by rw [h4]; exact hN, r, by omega, hf, bF, bφ, bk, bw⟩
theorem delFrom_sub {x : Option Nat} : ∀ (m n : Nat) (h : Hp), ∀ i o, (delFrom x m n h).get i = some o → h.get i = some o
  | 0, _, h, i, o, e => e
  | m + 1, n, h, i, o, e => by
    unfold delFrom at e
    have e := delFrom_sub m (n + 1) _ i o e
    have hd : ∀ q, (h.del q).get i = some o → h.get i = some o := fun q e => by
      rw [Hp.get_del] at e
      split at e
      · cases e
      · exact e
    split at e
    · split at e
      · exact e
      · exact hd _ e
    · exact hd _ e
/-- A call comes to its end. -/
theorem leave_ok (hi : KtOk ih) {j : Option Code} {x : List Item} (hj : (j = none ∧ t = []) ∨ (j = some .ret ∧ t = .code .ret :: x)) (hro : c.ro = none) (he : EnvOk F φ l a) (hr : HR F φ h w) (d : FrD B nx c F φ w ro a cs nb) : ResOk B (lone (FrG c.f ro a t) cs w) (leave j l h nx c ih fk) := by
  have e0 := d.ro
  rw [hro] at e0
  have e0 : ro = none := e0
  subst e0
  have hs : step P (lone (FrG c.f none a t) cs w) = .next (lone (FrE c.f a t) cs w) := by
    rcases hj with ⟨_, rfl⟩ | ⟨_, rfl⟩
    · exact st_nil
    · exact st_ret
  unfold leave
  rw [hro]
  dsimp only
  split
  · rename_i h1 hdd
    obtain ⟨w1, s1, s2, s3⟩ := delDf_ok (f := c.f) (ts := a.tmps) (kk := t) (cs := cs) d.df hr hdd
    refine ResOk.steps (.head hs s1) ?_
    unfold retGo
    split
    · trivial
    · rename_i v hv
      obtain ⟨fn, u, q1, q2, q3⟩ := res_ok he s2 hv
      have hleave : (FrE c.f ⟨a.tmps, []⟩ t).leaving P w1 (.returned u) := leave_E rfl q1 q2
      have hst := d.stk
      split
      · rename_i hstk
        rw [hstk] at hst
        generalize hf0 : c.f = f0 at hst hleave
        cases hst with
        | nil =>
          have := d.le
          exact ⟨FrE B.f ⟨a.tmps, []⟩ t, w1, u, F, φ, .refl _ _, hleave, rfl, q3, s2.sub (delFrom_sub _ _ _), d.bF, d.bφ, d.bk, d.free, d.bw.trans s3, d.le⟩
      · rename_i fr r hstk
        rw [hstk] at hst
        obtain ⟨c0, cs', ro', a', t', nb0, rfl, p1, p2⟩ := pop_fin (cnb := c.nb) hst d.le d.free d.bF d.bφ d.bk (d.bw.trans s3) s2 q3
        refine ResOk.steps (.one (step_leave_returned hleave)) ?_
        rw [p1]
        exact hi _ _ _ _ _ _ _ ⟨F, φ, w1, ro', a', t', cs', nb0, rfl, p2⟩
  · trivial
theorem roundEnd_ok (hi : KtOk ih) {j : Option Code} {x : Nat} {k' : List Item} (hj : (j = none ∧ t = []) ∨ (j = some .ret ∧ t = .code .ret :: k') ∨ ∃ n, j = some (.exit n) ∧ t = .code (.exit n) :: k' ∧ exitTo n k' = none) (hro : c.ro = some x) (hr : HR F φ h w) (d : FrD B nx c F φ w ro a cs nb) : ResOk B (lone (FrG c.f ro a t) cs w) (roundEnd x j h nx c.stk c.nb ih) := by
  have e0 := d.ro
  rw [hro] at e0
  obtain ⟨b, κ, hb, rfl⟩ := e0
  unfold roundEnd
  split
  · rename_i f e ps ca cb dd pd st hg
    obtain ⟨ob, hw, tm, db, κ', l1, l2, l3, l4, l5, l6, rfl⟩ := hr.obj _ _ _ _ hg hb
    have hr0 : ∀ j : Option Code, HR F φ (h.set (.loop f e ps ca cb dd j (match j with | none => 0 | some _ => 2)) x) (w.putObj b (.loop { state := if j.isNone then .ready else .done, pending := j, fn := f, tmps := tm, params := ps.toArray, assign := ca, body := cb, defers := db })) := fun j => hr.put hg hb ⟨tm, db, κ', l1, l2, l3, l4, l5, l6, by cases j <;> rfl⟩
    have hr1 := hr0 j
    unfold retTo
    have hst := d.stk
    split
    · trivial
    · rename_i fr r hstk
      rw [hstk] at hst
      obtain ⟨c0, cs', ro', a', t', nb0, rfl, p1, p2⟩ := pop_fin (cnb := c.nb) (v := .s (.bool j.isNone)) (u := .bool j.isNone) hst d.le d.free d.bF d.bφ d.bk (d.bw.trans (mild_put w b (.loop { state := if j.isNone then .ready else .done, pending := j, fn := f, tmps := tm, params := ps.toArray, assign := ca, body := cb, defers := db }))) hr1 rfl
      refine ResOk.steps (.one (st_endRound hj hw)) ?_
      rw [p1]
      exact hi _ _ _ _ _ _ _ ⟨F, φ, _, ro', a', t', cs', nb0, rfl, p2⟩
  · trivial
/-- Any code. -/
theorem mixed : P.follows .mixedOrders = true := by decide +kernel
theorem hback {es rs : List POp} {ops : Array Oper} (R : Reg ops.toList es rs) : ∀ i o, ops[i]? = some o → ∀ e ∈ o.after.toList, Region.binds .any e = true → e.on < i := fun i o ho e he hb => by
  obtain ⟨p, hp, rfl⟩ := R.cover i (by
    have := (Array.getElem?_eq_some_iff.1 ho).1
    simpa using this)
  have h1 := R.at_ p hp
  rw [Array.getElem?_toList, ho] at h1
  cases h1
  exact R.back p hp _ (R.edges p hp e he hb)
theorem region_ok (hB : BuiltOk) (hi : KtOk ih) (hfk : KtOk fk) (hro : noFk fk = true → KtRo ih) {n : Nat} {ops : Array Oper} {d : Bool} (hR : Rel B (.code (.region n ops d) :: k) l h nx c m) : ResOk B m (cRegion n ops d k l h nx c ih fk) := by
  obtain ⟨F, φ, w, ro, a, t, cs, nb, rfl, R⟩ := hR
  obtain ⟨t', rfl, he, hc, r⟩ := R.act.code_inv
  have hd : ∀ o ∈ ops.toList, dstOk (nT c.f) o = true := List.all_eq_true.1 hc
  unfold cRegion
  cases d with
  | false =>
    dsimp only
    refine ResOk.steps (.one st_region) (lin_ok hB hi hfk hro ?_)
    refine ⟨F, φ, w, ro, a, _, cs, nb, rfl, R.fr.rel R.hr (.lin he ?_ hd r)⟩
    apply List.ext_getElem?
    intro i
    rw [List.getElem?_map, List.getElem?_map]
    by_cases hi : i < ops.size
    · rw [List.getElem?_range hi, Array.getElem?_toList, Array.getElem?_eq_getElem hi]
      simp [hi]
    · rw [List.getElem?_eq_none (by simp; omega), Array.getElem?_toList, Array.getElem?_eq_none (by omega)]
      rfl
  | true =>
    dsimp only
    split
    · rename_i phs hp
      obtain ⟨es, rs, G, rfl⟩ := reg_of hp
      refine ResOk.steps (.one st_draw) ?_
      have hm : Mild w { w with drawn := w.drawn + 1 } := ⟨rfl, rfl, rfl, Nat.le_refl _⟩
      have hle := R.le
      refine hi _ _ _ _ _ _ _ ⟨F, φ, _, ro, a, _, cs, nb, rfl, (R.fr.go (PH.ler _) (Vl.ler _) (fun _ _ => rfl) (Nat.le_refl _) R.free hm rfl rfl).rel (R.hr.grow (PH.ler _)) (.any (es := es) (rs := rs) (K := 0) (D := Array.replicate ops.size false) (prev := none) ?_ (fun e h => by cases h) hd r)⟩
      have hD : ∀ i, (Array.replicate ops.size false).getD i false = false := fun i => by
        rw [Array.getD_eq_getD_getElem?, Array.getElem?_replicate]
        split <;> rfl
      refine ⟨G, ⟨by simp, fun k e _ => ?_, fun p _ hp => ?_⟩, ?_, fun t v ht _ => he t v ht, fun p hp => ?_, fun p q hp => ?_, fun p _ hp => ?_⟩
      · rw [hD]; simp
      · rw [hD] at hp; cases hp
      · rw [show Region.schedule (P.follows .mixedOrders) ops (w.tape w.drawn (.order c.f n)) = Region.linearise .any ops (w.tape w.drawn (.order c.f n)) from by
          unfold Region.schedule
          rw [mixed]
          rfl]
        unfold Region.linearise
        exact sch_go (hback G) _ _ _ (by simp) (Nat.le_trans (List.length_filter_le _ _) (by simp))
      · exact absurd hp.2.1 (by omega)
      · exact absurd hp.2.1 (by omega)
      · rw [hD] at hp; cases hp
    · trivial
end
end Go.Proofs.YtjjjckmpkldgnaaGreatDoor.Rk
