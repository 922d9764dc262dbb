/-
  The reckoner's state and the machine's: frames at work, frames that wait. Plain theorems; no condition.
  The reckoner's calls, values and rounds are the machine's. Plain theorems; no condition.
-/
import Derived.Test.YtjjjckmpkldgnaaGreatDoorUw
namespace Go.Proofs.YtjjjckmpkldgnaaGreatDoor.Rk
open Go.RowKit
set_option maxRecDepth 100000
/-- What is left, but for what stands at the head. -/
inductive KT' (N : Nat) : List AI → List Item → Prop where
  | nil : KT' N [] []
  | code {c : Code} {k : List AI} {t : List Item} (h : codeOk N c = true) (r : KT' N k t) : KT' N (.code c :: k) (.code c :: t)
  | loop {c : Code} {k : List AI} {t : List Item} (h : codeOk N c = true) (r : KT' N k t) : KT' N (.inLoop c :: k) (.inLoop c :: t)
  | block {i : Nat} {k : List AI} {t : List Item} (r : KT' N k t) : KT' N (.inBlock i :: k) (.inBlock i :: t)
  | begr {k : List AI} {t : List Item} (r : KT' N k t) : KT' N (.begr :: k) (.beginRound :: t)
theorem KT'.exit {N id : Nat} {k : List AI} {t : List Item} (r : KT' N k t) : (∀ k', exitK id k = some k' → ∃ t', exitTo id t = some t' ∧ KT' N k' t') ∧ (exitK id k = none → exitTo id t = none) := by
  induction r with
  | nil => exact ⟨(fun _ h => by cases h), (fun _ => rfl)⟩
  | code _ _ ih => exact ih
  | loop _ _ ih => exact ih
  | begr _ ih => exact ih
  | @block i k t r ih =>
    have e1 : exitK id (.inBlock i :: k) = if Nat.beq i id then some k else exitK id k := rfl
    have e2 : exitTo id (.inBlock i :: t) = if i == id then some t else exitTo id t := rfl
    rw [e1, e2]
    by_cases h : i = id
    · subst h
      rw [if_pos (Nat.beq_refl i), if_pos (by simp)]
      exact ⟨fun k' h => by cases h; exact ⟨t, rfl, r⟩, fun h => by cases h⟩
    · rw [if_neg (fun e => h (Nat.eq_of_beq_eq_true e)), if_neg (by simpa using h)]
      exact ih
def RoR (φ : Vl) : Option Nat → Option Nat → Prop
  | none, r => r = none
  | some x, r => ∃ b κ, φ x = some (b, κ) ∧ r = some b
def DfR (φ : Vl) (df : List Nat) (ds : List Deferred) : Prop := All2 (fun d D => ∃ b κ, φ d = some (b, κ) ∧ D = { target := .collected b, args := #[] }) df ds
theorem RoR.mono {φ φ' : Vl} (h : φ.le φ') {x r : Option Nat} (e : RoR φ x r) : RoR φ' x r := by
  cases x with
  | none => exact e
  | some x => exact let ⟨b, κ, h1, h2⟩ := e; ⟨b, κ, h _ _ h1, h2⟩
theorem DfR.mono {φ φ' : Vl} (h : φ.le φ') {df : List Nat} {ds : List Deferred} (e : DfR φ df ds) : DfR φ' df ds := e.imp fun _ _ ⟨b, κ, h1, h2⟩ => ⟨b, κ, h _ _ h1, h2⟩
/-- A frame at work. -/
inductive Actv (F : PH) (φ : Vl) (nb nx N : Nat) (l : Env) (a : Act) : List AI → List Item → Prop where
  | plain {k : List AI} {t : List Item} (he : EnvOk F φ l a) (r : KT' N k t) : Actv F φ nb nx N l a k t
  | lin {ops : Array Oper} {rest : List Oper} {idx : List Nat} {k : List AI} {t : List Item} (he : EnvOk F φ l a) (hr : idx.map (fun i => ops[i]?) = rest.map some) (hd : ∀ o ∈ rest, dstOk N o = true) (r : KT' N k t) : Actv F φ nb nx N l a (.lin ops.toList rest :: k) (.inRegion ops idx :: t)
  | endr {x b κ : Nat} {k : List AI} {t : List Item} (he : EnvOk F φ l a) (hx : φ x = some (b, κ)) (r : KT' N k t) : Actv F φ nb nx N l a (.endr x :: k) (.endRangeFunc b :: t)
  | any {ops : Array Oper} {es rs : List POp} {K : Nat} {D : Array Bool} {sch : List Nat} {prev : Option POp} {k : List AI} {t : List Item} (I : AnyI ops es rs K K D sch F φ nb nx l a) (hp : ∀ e, prev = some e → e ∈ es ∧ D.getD e.i false = true) (hd : ∀ o ∈ ops.toList, dstOk N o = true) (r : KT' N k t) : Actv F φ nb nx N l a (.any ops.toList (phGo rs K prev (es.drop K)) :: k) (.inRegion ops sch :: t)
/-- A frame that waits for a value. -/
inductive Susp (F : PH) (φ : Vl) (nb nx N : Nat) (l : Env) (a : Act) : Option Nat → List AI → List Item → Prop where
  | lin {ops : Array Oper} {rest : List Oper} {i : Nat} {o : Oper} {idx : List Nat} {k : List AI} {t : List Item} (he : EnvOk F φ l a) (ho : ops[i]? = some o) (hod : dstOk N o = true) (hr : idx.map (fun i => ops[i]?) = rest.map some) (hd : ∀ o ∈ rest, dstOk N o = true) (r : KT' N k t) : Susp F φ nb nx N l a o.dst (.lin ops.toList rest :: k) (.inRegion ops (i :: idx) :: t)
  | endr {x b κ : Nat} {k : List AI} {t : List Item} (he : EnvOk F φ l a) (hx : φ x = some (b, κ)) (r : KT' N k t) : Susp F φ nb nx N l a none (.endr x :: k) (.inRangeFunc b :: t)
  | any {ops : Array Oper} {es rs : List POp} {K i : Nat} {o : Oper} {D : Array Bool} {sch : List Nat} {prev : Option POp} {k : List AI} {t : List Item} (I : AnyI ops es rs K K D sch F φ nb nx l a) (hp : ∀ e, prev = some e → e ∈ es ∧ D.getD e.i false = true) (hd : ∀ o ∈ ops.toList, dstOk N o = true) (ho : ops[i]? = some o) (hn : ∀ p ∈ rs, ∀ d, p.o.dst = some d → o.dst ≠ some d) (r : KT' N k t) : Susp F φ nb nx N l a o.dst (.any ops.toList (phGo rs K prev (es.drop K)) :: k) (.inRegion ops (i :: sch) :: t)
section
variable {F F' : PH} {φ φ' : Vl} {nb nx nx' N : Nat} {l : Env} {a : Act} {dst : Option Nat} {k : List AI} {t : List Item}
theorem EnvOk.mono (hF : F.le F') (hp : φ.le φ') (e : EnvOk F φ l a) : EnvOk F' φ' l a := fun t v h => (e t v h).mono hF hp
theorem AnyI.mono {ops : Array Oper} {es rs : List POp} {K K' : Nat} {D : Array Bool} {sch : List Nat} (I : AnyI ops es rs K K' D sch F φ nb nx l a) (hF : F.le F') (hp : φ.le φ') (hk : ∀ n, n < nx → φ' n = φ n) (hn : nx ≤ nx') : AnyI ops es rs K K' D sch F' φ' nb nx' l a :=
  ⟨I.reg, I.dyn, I.sch, fun t v h1 h2 => (I.env t v h1 h2).mono hF hp, fun p h n hn' => by
    obtain ⟨k1, k2, k3⟩ := I.rsv p h n hn'
    exact ⟨by rw [hk n k3]; exact k1, k2, by omega⟩, I.rsd, I.old⟩
theorem Susp.mono (s : Susp F φ nb nx N l a dst k t) (hF : F.le F') (hp : φ.le φ') (hk : ∀ n, n < nx → φ' n = φ n) (hn : nx ≤ nx') : Susp F' φ' nb nx' N l a dst k t := by
  cases s with
  | lin he ho hod hr hd r => exact .lin (he.mono hF hp) ho hod hr hd r
  | endr he hx r => exact .endr (he.mono hF hp) (hp _ _ hx) r
  | any I h1 hd ho h2 r => exact .any (I.mono hF hp hk hn) h1 hd ho h2 r
theorem put_size {d : Option Nat} {u : Value} : (a.put d u).tmps.size = a.tmps.size := by
  unfold Act.put
  split
  · simp
  · rfl
theorem put_defers {d : Option Nat} {u : Value} : (a.put d u).defers = a.defers := by
  unfold Act.put
  split <;> rfl
theorem dst_lt {o : Oper} (h : dstOk N o = true) (hN : N ≤ a.tmps.size) : ∀ d, o.dst = some d → d < a.tmps.size := fun d hd => by
  unfold dstOk at h
  rw [hd] at h
  exact Nat.lt_of_lt_of_le (Nat.le_of_ble_eq_true h) hN
theorem get_putD {d : Option Nat} {v : AV} {t : Nat} (h : d ≠ some t) : (putD l d v).get t = l.get t := by
  cases d with
  | none => rfl
  | some d =>
    show (l.set v d).get t = _
    rw [Tr.get_set, if_neg (fun e => h (by rw [e]))]
/-- The value comes. -/
theorem Susp.fin {f : FuncId} {ro : Option Nat} {v : AV} {u : Value} (s : Susp F φ nb nx N l a dst k t) (hv : AvD F φ v u) (hN : N ≤ a.tmps.size) : ∃ a' t', (FrG f ro a t).finish u = FrG f ro a' t' ∧ Actv F φ nb nx N (putD l dst v) a' k t' ∧ a'.defers = a.defers ∧ a'.tmps.size = a.tmps.size := by
  cases s with
  | @lin ops rest i o idx k t he ho hod hr hd r =>
    refine ⟨a.put o.dst u, .inRegion ops idx :: t, ?_, .lin (he.put (dst_lt hod hN) hv) hr hd r, put_defers, put_size⟩
    rw [fin_G, ho]; rfl
  | endr he hx r => exact ⟨a, _, rfl, .endr he hx r, rfl, rfl⟩
  | @any ops es rs K i o D sch prev k t I h1 hd ho h2 r =>
    have hod : dstOk N o = true := hd o (List.mem_of_getElem? (by rw [Array.getElem?_toList]; exact ho))
    have hrs : ∀ p, Pend rs K D p → rsvOf (putD l o.dst v) p = rsvOf l p := fun p hp => by
      unfold rsvOf
      cases isAlloc p.o.op with
      | false => rfl
      | true =>
        dsimp only
        cases hd : p.o.dst with
        | none => rfl
        | some d =>
          dsimp only
          rw [get_putD (h2 p hp.1 d hd)]
    refine ⟨a.put o.dst u, .inRegion ops sch :: t, ?_, .any (es := es) (rs := rs) (D := D) (prev := prev) ⟨I.reg, I.dyn, I.sch, fun t v' ht hnp => ?_, fun p hp n hn => ?_, fun p q hp hq n hn hn' => ?_, I.old⟩ h1 hd r, put_defers, put_size⟩
    · rw [fin_G, ho]; rfl
    · by_cases e : o.dst = some t
      · rw [e] at ht ⊢
        unfold putD at ht
        dsimp only at ht
        rw [Tr.get_set, if_pos rfl] at ht
        cases ht
        have hlt := dst_lt hod hN t e
        show AvD F φ v ((a.tmps.setIfInBounds t u).getD t undef)
        simpa [Array.getD_eq_getD_getElem?, Array.getElem?_setIfInBounds, hlt] using hv
      · rw [get_putD e] at ht
        have := I.env t v' ht hnp
        unfold Act.put
        split
        · rename_i d hd'
          show AvD F φ v' ((a.tmps.setIfInBounds d u).getD t undef)
          rw [Array.getD_eq_getD_getElem?] at this ⊢
          rw [Array.getElem?_setIfInBounds, if_neg (fun h => e (by rw [hd', h]))]
          exact this
        · exact this
    · rw [hrs p hp] at hn
      exact I.rsv p hp n hn
    · rw [hrs p hp] at hn
      rw [hrs q hq] at hn'
      exact I.rsd p q hp hq n hn hn'
end
/-- Where a run began. -/
structure Base where
  F : PH
  φ : Vl
  nb : Nat
  w : World
  cs : List Frame
  f : FuncId
/-- The frames that wait. -/
inductive StkR (B : Base) (F : PH) (φ : Vl) : Nat → FuncId → List Fr → List Frame → Prop where
  | nil : StkR B F φ B.nb B.f [] B.cs
  | cons {fr : Fr} {stk : List Fr} {ro : Option Nat} {a : Act} {t : List Item} {cs : List Frame} {nb nb' : Nat} {f : FuncId} (s : Susp F φ nb nb' (nT fr.f) fr.l a fr.dst fr.k t) (hro : RoR φ fr.ro ro) (hdf : DfR φ fr.df a.defers) (hN : nT fr.f ≤ a.tmps.size) (hle : nb ≤ nb') (r : StkR B F φ nb fr.f stk cs) : StkR B F φ nb' f (fr :: stk) (FrG fr.f ro a t :: cs)
theorem StkR.mono {B : Base} {F F' : PH} {φ φ' : Vl} {nb : Nat} {f : FuncId} {stk : List Fr} {cs : List Frame} (r : StkR B F φ nb f stk cs) (hF : F.le F') (hp : φ.le φ') (hk : ∀ n, n < nb → φ' n = φ n) : StkR B F' φ' nb f stk cs := by
  induction r with
  | nil => exact .nil
  | cons s hro hdf hN hle r ih => exact .cons (s.mono hF hp hk (Nat.le_refl _)) (hro.mono hp) (hdf.mono hp) hN hle (ih fun n hn => hk n (by omega))
theorem StkR.base {B : Base} {F : PH} {φ : Vl} {nb : Nat} {f : FuncId} {stk : List Fr} {cs : List Frame} (r : StkR B F φ nb f stk cs) : B.nb ≤ nb := by
  induction r with
  | nil => exact Nat.le_refl _
  | cons s hro hdf hN hle r ih => omega
/-- The machine's state stands for the reckoner's. -/
structure RelD (B : Base) (k : List AI) (l : Env) (h : Hp) (nx : Nat) (c : Cx) (F : PH) (φ : Vl) (w : World) (ro : Option Nat) (a : Act) (t : List Item) (cs : List Frame) (nb : Nat) : Prop where
  hr : HR F φ h w
  act : Actv F φ nb nx (nT c.f) l a k t
  ro : RoR φ c.ro ro
  df : DfR φ c.df a.defers
  size : nT c.f ≤ a.tmps.size
  stk : StkR B F φ nb c.f c.stk cs
  le : nb ≤ nx
  free : ∀ n, nx ≤ n → φ n = none
  bF : B.F.le F
  bφ : B.φ.le φ
  bk : ∀ n, n < B.nb → φ n = B.φ n
  bw : Mild B.w w
def Rel (B : Base) (k : List AI) (l : Env) (h : Hp) (nx : Nat) (c : Cx) (m : Machine) : Prop := ∃ F φ w ro a t cs nb, m = lone (FrG c.f ro a t) cs w ∧ RelD B k l h nx c F φ w ro a t cs nb
def ResOk (B : Base) (m : Machine) : Res → Prop
  | .done v h nx => ∃ fr w u F φ, Steps P m (lone fr B.cs w) ∧ fr.leaving P w (.returned u) ∧ fr.fn = B.f ∧ AvD F φ v u ∧ HR F φ h w ∧ B.F.le F ∧ B.φ.le φ ∧ (∀ n, n < B.nb → φ n = B.φ n) ∧ (∀ n, nx ≤ n → φ n = none) ∧ Mild B.w w ∧ B.nb ≤ nx
  | .at s => ∃ m', Steps P m m' ∧ Rel B s.k s.l s.h s.nx s.c m'
  | .bad _ => True
theorem ResOk.steps {B : Base} {m m' : Machine} {r : Res} (h : Steps P m m') (o : ResOk B m' r) : ResOk B m r := by
  match r, o with
  | .done _ _ _, o => obtain ⟨fr, w, u, F, φ, h1, h2⟩ := o; exact ⟨fr, w, u, F, φ, h.trans h1, h2⟩
  | .at _, o => obtain ⟨m'', h1, h2⟩ := o; exact ⟨m'', h.trans h1, h2⟩
  | .bad _, _ => trivial
def KtOk (ih : KT) : Prop := ∀ B k l h nx c m, Rel B k l h nx c m → ResOk B m (ih k l h nx c)
def KtRo (ih : KT) : Prop := ∀ k l h nx c v h' nx', ih k l h nx c = .done v h' nx' → h'.ro = h.ro
end Go.Proofs.YtjjjckmpkldgnaaGreatDoor.Rk
namespace Go.Proofs.YtjjjckmpkldgnaaGreatDoor.Rk
open Go.RowKit
set_option maxRecDepth 100000
theorem codes_all : P.funcs.toList.all (fun f => match f.body with | some c => codeOk f.ntmps c | none => true) = true := by decide +kernel
theorem body_ok {f : FuncId} {fn : Func} {c : Code} (hf : funT f = some fn) (hb : fn.body = some c) : bodyOf f = c ∧ codeOk (nT f) c = true ∧ nT f = fn.ntmps := by
  have h1 := funT_ok hf
  have h2 : fn ∈ P.funcs.toList := List.mem_of_getElem? (by rw [Array.getElem?_toList]; exact h1)
  have h3 := List.all_eq_true.1 codes_all fn h2
  rw [hb] at h3
  have h4 : nT f = fn.ntmps := by unfold nT; rw [hf]
  refine ⟨by unfold bodyOf; rw [hf]; dsimp only; rw [hb], by rw [h4]; exact h3, h4⟩
theorem mkEnv_get : ∀ (args : List AV) (i : Nat) (l : Env) (t : Nat), (mkEnv args i l).get t = if i ≤ t ∧ t < i + args.length then args[t - i]? else l.get t
  | [], i, l, t => by
    show l.get t = _
    rw [if_neg (by simp)]
  | a :: r, i, l, t => by
    show (mkEnv r (i + 1) (l.set a i)).get t = _
    rw [mkEnv_get r (i + 1), Tr.get_set]
    by_cases h1 : t = i
    · subst h1
      rw [if_neg (by omega), if_pos rfl, if_pos (by simp)]
      simp
    · by_cases h2 : i ≤ t ∧ t < i + (a :: r).length
      · rw [if_pos (by simp at h2 ⊢; omega), if_pos h2]
        obtain ⟨m, rfl⟩ : ∃ m, t = i + 1 + m := ⟨t - (i + 1), by omega⟩
        rw [show i + 1 + m - (i + 1) = m from by omega, show i + 1 + m - i = m + 1 from by omega]
        rfl
      · rw [if_neg (by simp at h2 ⊢; omega), if_neg h1, if_neg h2]
/-- A frame's facts, but for what it has left to do. -/
structure FrD (B : Base) (nx : Nat) (c : Cx) (F : PH) (φ : Vl) (w : World) (ro : Option Nat) (a : Act) (cs : List Frame) (nb : Nat) : Prop where
  ro : RoR φ c.ro ro
  df : DfR φ c.df a.defers
  size : nT c.f ≤ a.tmps.size
  stk : StkR B F φ nb c.f c.stk cs
  le : nb ≤ nx
  free : ∀ n, nx ≤ n → φ n = none
  bF : B.F.le F
  bφ : B.φ.le φ
  bk : ∀ n, n < B.nb → φ n = B.φ n
  bw : Mild B.w w
section
variable {B : Base} {k : List AI} {l : Env} {h h' : Hp} {nx nx' nb : Nat} {c : Cx} {F F' : PH} {φ φ' : Vl} {w w' : World} {ro : Option Nat} {a a' : Act} {t : List Item} {cs : List Frame} {dst : Option Nat} {ih fk : KT}
theorem RelD.fr (r : RelD B k l h nx c F φ w ro a t cs nb) : FrD B nx c F φ w ro a cs nb := ⟨r.ro, r.df, r.size, r.stk, r.le, r.free, r.bF, r.bφ, r.bk, r.bw⟩
theorem FrD.rel (d : FrD B nx c F φ w ro a cs nb) (hr : HR F φ h w) (act : Actv F φ nb nx (nT c.f) l a k t) : RelD B k l h nx c F φ w ro a t cs nb := ⟨hr, act, d.ro, d.df, d.size, d.stk, d.le, d.free, d.bF, d.bφ, d.bk, d.bw⟩
theorem FrD.go (d : FrD B nx c F φ w ro a cs nb) (hF : F.le F') (hp : φ.le φ') (hk : ∀ n, n < nb → φ' n = φ n) (hn : nx ≤ nx') (hf : ∀ n, nx' ≤ n → φ' n = none) (hm : Mild w w') (h1 : a'.defers = a.defers) (h2 : a'.tmps.size = a.tmps.size) : FrD B nx' c F' φ' w' ro a' cs nb :=
  ⟨d.ro.mono hp, by rw [h1]; exact d.df.mono hp, by rw [h2]; exact d.size, d.stk.mono hF hp hk, Nat.le_trans d.le hn, hf, d.bF.trans hF, d.bφ.trans hp, fun n hn => (hk n (Nat.lt_of_lt_of_le hn d.stk.base)).trans (d.bk n hn), d.bw.trans hm⟩
/-- The value comes to a frame that waits. -/
theorem fin_rel (d : FrD B nx c F φ w ro a cs nb) (s : Susp F φ nb nx (nT c.f) l a dst k t) (hF : F.le F') (hp : φ.le φ') (hk : ∀ n, n < nx → φ' n = φ n) (hn : nx ≤ nx') (hf : ∀ n, nx' ≤ n → φ' n = none) (hm : Mild w w') (hr : HR F' φ' h' w') {v : AV} {u : Value} (hv : AvD F' φ' v u) :
    ∃ a' t', (FrG c.f ro a t).finish u = FrG c.f ro a' t' ∧ RelD B k (putD l dst v) h' nx' c F' φ' w' ro a' t' cs nb := by
  obtain ⟨a', t', h1, h2, h3, h4⟩ := (s.mono hF hp hk hn).fin (f := c.f) (ro := ro) hv d.size
  have := d.le
  exact ⟨a', t', h1, (d.go hF hp (fun n hn => hk n (by omega)) hn hf hm h3 h4).rel hr h2⟩
theorem env_args {args : List AV} {us : Array Value} (hu : All2 (AvD F φ) args us.toList) (N : Nat) : EnvOk F φ (mkEnv args 0 .nil) ⟨us ++ Array.replicate N undef, []⟩ := fun t v hv => by
  rw [mkEnv_get] at hv
  split at hv
  · rw [Nat.sub_zero] at hv
    obtain ⟨u, h1, h2⟩ := hu.get hv
    have hlt : t < us.size := by
      have := (List.getElem?_eq_some_iff.1 h1).1
      simpa using this
    rw [Array.getElem?_toList] at h1
    show AvD F φ v ((us ++ Array.replicate N undef).getD t undef)
    rw [Array.getD_eq_getD_getElem?, Array.getElem?_append_left hlt, h1]
    exact h2
  · rw [Tr.get_nil] at hv; cases hv
/-- A call that is entered. -/
theorem rGo_ok {f : FuncId} {args : List AV} {us : Array Value} {fn : Func} {b : Code} (hi : KtOk ih) (d : FrD B nx c F φ w ro a cs nb) (s : Susp F φ nb nx (nT c.f) l a dst k t) (hr : HR F φ h w) (hu : All2 (AvD F φ) args us.toList) (hf : funT f = some fn) (hb : fn.body = some b) :
    ResOk B (lone (Frame.enter P f us .normal) (FrG c.f ro a t :: cs) w) (rGo f args dst k l h nx c ih fk) := by
  obtain ⟨e1, e2, e3⟩ := body_ok hf hb
  unfold rGo
  refine hi _ _ _ _ _ _ _ ⟨F, φ, w, none, _, [.code b], FrG c.f ro a t :: cs, nx, by rw [enter_G (funT_ok hf) hb], ?_⟩
  refine ⟨hr, .plain (env_args hu _) (by rw [e1]; exact .code e2 .nil), rfl, .nil, ?_, .cons s d.ro d.df d.size d.le d.stk, Nat.le_refl _, d.free, d.bF, d.bφ, d.bk, d.bw⟩
  show nT f ≤ (us ++ Array.replicate (fn.ntmps - us.size) undef).size
  rw [e3, Array.size_append, Array.size_replicate]
  omega
/-- What a function that is taken whole does. -/
def BuiltOk : Prop := ∀ (f : FuncId) (m : Nat) (args : List AV) (us : Array Value) (F : PH) (φ : Vl) (h : Hp) (nx : Nat) (w : World) (v : AV) (h' : Hp) (nx' : Nat), kindOf f = m + 2 → HR F φ h w → All2 (AvD F φ) args us.toList → (∀ n, nx ≤ n → φ n = none) → built (m + 2) args h nx = some (v, h', nx') →
  ∀ cs, ∃ fr w' u F' φ', Steps P (lone (Frame.enter P f us .normal) cs w) (lone fr cs w') ∧ fr.leaving P w' (.returned u) ∧ AvD F' φ' v u ∧ HR F' φ' h' w' ∧ F.le F' ∧ φ.le φ' ∧ (∀ n, n < nx → φ' n = φ n) ∧ (∀ n, nx' ≤ n → φ' n = none) ∧ Mild w w' ∧ nx ≤ nx'
theorem rCall_ok (hB : BuiltOk) {f : FuncId} {args : List AV} {us : Array Value} {fn : Func} {b : Code} (hi : KtOk ih) (hfk : KtOk fk) (d : FrD B nx c F φ w ro a cs nb) (s : Susp F φ nb nx (nT c.f) l a dst k t) (hr : HR F φ h w) (hu : All2 (AvD F φ) args us.toList) (hf : funT f = some fn) (hb : fn.body = some b) :
    ResOk B (lone (Frame.enter P f us .normal) (FrG c.f ro a t :: cs) w) (rCall f args dst k l h nx c ih fk) := by
  unfold rCall
  split
  · exact rGo_ok hi d s hr hu hf hb
  · obtain ⟨e1, e2, e3⟩ := body_ok hf hb
    have hk := hfk ⟨F, φ, nx, w, FrG c.f ro a t :: cs, f⟩ [.code (bodyOf f)] (mkEnv args 0 .nil) h.firm nx ⟨f, none, [], [], nx⟩ (lone (Frame.enter P f us .normal) (FrG c.f ro a t :: cs) w) ⟨F, φ, w, none, _, [.code b], FrG c.f ro a t :: cs, nx, by rw [enter_G (funT_ok hf) hb], by
      refine ⟨hr.firm, .plain (env_args hu _) (by rw [e1]; exact .code e2 .nil), rfl, .nil, ?_, .nil, Nat.le_refl _, d.free, PH.ler _, Vl.ler _, fun _ _ => rfl, Mild.refl w⟩
      show nT f ≤ (us ++ Array.replicate (fn.ntmps - us.size) undef).size
      rw [e3, Array.size_append, Array.size_replicate]
      omega⟩
    unfold rBack
    split
    · rename_i v h1 nx1 hres
      rw [hres] at hk
      obtain ⟨fr, w1, u, F1, φ1, k1, k2, _, k4, k5, k6, k7, k8, k9, k10, k11⟩ := hk
      obtain ⟨a', t', q1, q2⟩ := fin_rel d s k6 k7 k8 k11 k9 k10 k5 k4
      refine ResOk.steps (k1.trans (.one (step_leave_returned k2))) ?_
      rw [q1]
      exact hi _ _ _ _ _ _ _ ⟨F1, φ1, w1, ro, a', t', cs, nb, rfl, q2⟩
    · trivial
    · trivial
  · rename_i h0 h1
    obtain ⟨m, hm⟩ : ∃ m', kindOf f = m' + 2 := ⟨kindOf f - 2, by
      have a0 : kindOf f ≠ 0 := fun e => h0 e
      have a1 : kindOf f ≠ 1 := fun e => h1 e
      omega⟩
    unfold rBi
    split
    · rename_i v h1 nx1 hres
      rw [hm] at hres
      obtain ⟨fr, w1, u, F1, φ1, k1, k2, k4, k5, k6, k7, k8, k9, k10, k11⟩ := hB f m args us F φ h nx w v h1 nx1 hm hr hu d.free hres (FrG c.f ro a t :: cs)
      obtain ⟨a', t', q1, q2⟩ := fin_rel d s k6 k7 k8 k11 k9 k10 k5 k4
      refine ResOk.steps (k1.trans (.one (step_leave_returned k2))) ?_
      rw [q1]
      exact hi _ _ _ _ _ _ _ ⟨F1, φ1, w1, ro, a', t', cs, nb, rfl, q2⟩
    · trivial
/-- An operation's turn, at a frame's head. -/
structure HdR (B : Base) (k : List AI) (l : Env) (h : Hp) (nx : Nat) (c : Cx) (o : Oper) (F : PH) (φ : Vl) (w : World) (ro : Option Nat) (a : Act) (ops : Array Oper) (i : Nat) (idx : List Nat) (t : List Item) (cs : List Frame) (nb : Nat) : Prop where
  fr : FrD B nx c F φ w ro a cs nb
  susp : Susp F φ nb nx (nT c.f) l a o.dst k (.inRegion ops (i :: idx) :: t)
  hr : HR F φ h w
  ho : ops[i]? = some o
  wt : Region.wanted o (yielded ops a.tmps) = true
  sok : SROk o a.eval F φ h nx w (sem o.op l h nx)
variable {o : Oper} {ops : Array Oper} {i : Nat} {idx : List Nat}
theorem not_defer {sr : SR} (h : sem o.op l h' nx = sr) (hb : ∀ n, sr ≠ .bad n) : ∀ c, o.op ≠ .defer c := fun c e => by
  rw [e] at h
  exact hb 129 h.symm
/-- A value comes of it. -/
theorem head_val (H : HdR B k l h nx c o F φ w ro a ops i idx t cs nb) (hd : ∀ c, o.op ≠ .defer c) {v : AV} {h1 : Hp} {nx1 : Nat} (hn : nx ≤ nx1) (hm : OpM o a.eval F φ nx w v h1 nx1) :
    ∃ m', Steps P (lone (FrG c.f ro a (.inRegion ops (i :: idx) :: t)) cs w) m' ∧ Rel B k (putD l o.dst v) h1 nx1 c m' := by
  obtain ⟨nt, u, w1, F1, φ1, e1, e2, e3, e4, e5, e6, e7, e8⟩ := hm
  obtain ⟨a', t', q1, q2⟩ := fin_rel H.fr H.susp e5 e6 (fun n hn => e7 n (.inl hn)) hn (fun n hn' => (e7 n (.inr hn')).trans (H.fr.free n (by omega))) e8 e4 e3
  refine ⟨_, .one (st_value H.ho H.wt hd e2 e1), F1, φ1, w1, ro, a', t', cs, nb, ?_, q2⟩
  rw [← q1, fin_G, H.ho]
  rfl
theorem head_skip (d : FrD B nx c F φ w ro a cs nb) (s : Susp F φ nb nx (nT c.f) l a o.dst k (.inRegion ops (i :: idx) :: t)) (hr : HR F φ h w) (ho : ops[i]? = some o) (hw : Region.wanted o (yielded ops a.tmps) = false) :
    ∃ m', Steps P (lone (FrG c.f ro a (.inRegion ops (i :: idx) :: t)) cs w) m' ∧ Rel B k (putD l o.dst .und) h nx c m' := by
  obtain ⟨a', t', q1, q2⟩ := fin_rel d s (PH.ler _) (Vl.ler _) (fun _ _ => rfl) (Nat.le_refl _) d.free (Mild.refl w) hr (v := .und) (u := undef) rfl
  refine ⟨_, .one (st_unwanted ho hw), F, φ, w, ro, a', t', cs, nb, ?_, q2⟩
  rw [← q1, fin_G, ho]
  rfl
theorem head_call (hB : BuiltOk) (hi : KtOk ih) (hfk : KtOk fk) (H : HdR B k l h nx c o F φ w ro a ops i idx t cs nb) {f : FuncId} {args : List AV} (hs : sem o.op l h nx = .call f args) :
    ResOk B (lone (FrG c.f ro a (.inRegion ops (i :: idx) :: t)) cs w) (rCall f args o.dst k l h nx c ih fk) := by
  have hd := not_defer hs fun n e => by cases e
  have hk := H.sok
  rw [hs] at hk
  obtain ⟨us, e1, e2, fn, b, e3, e4⟩ := hk
  exact ResOk.steps (.one (st_enter H.ho H.wt hd e1)) (rCall_ok hB hi hfk H.fr H.susp H.hr e2 e3 e4)
theorem putPs_ok : ∀ {ps : List Nat} {vs : List AV} {us : List Value} {l : Env} {ts : Array Value} {N : Nat}, ps.length = vs.length → All2 (AvD F φ) vs us → EnvOk F φ l ⟨ts, []⟩ → N ≤ ts.size → (∀ p ∈ ps, p < N) → EnvOk F φ (putPs ps vs l) ⟨(ps.zip us).foldl (fun tmps (t, a) => tmps.setIfInBounds t a) ts, []⟩ ∧ ((ps.zip us).foldl (fun (tmps : Array Value) (t, a) => tmps.setIfInBounds t a) ts).size = ts.size
  | [], vs, us, l, ts, N, hl, hu, he, hN, hp => by
    cases vs with
    | nil => exact ⟨he, rfl⟩
    | cons => simp at hl
  | p :: ps, vs, us, l, ts, N, hl, hu, he, hN, hp => by
    cases hu with
    | nil => simp at hl
    | @cons v u vs us h1 h2 =>
      have h3 : EnvOk F φ (l.set v p) ⟨ts.setIfInBounds p u, []⟩ := EnvOk.put (d := some p) he (fun t e => by cases e; exact Nat.lt_of_lt_of_le (hp p (List.mem_cons_self ..)) hN) h1
      obtain ⟨k1, k2⟩ := putPs_ok (ps := ps) (by simpa using hl) h2 h3 (by simpa using hN) fun q hq => hp q (List.mem_cons_of_mem _ hq)
      exact ⟨k1, by rw [List.zip_cons_cons, List.foldl_cons]; exact k2.trans (by simp)⟩
theorem head_yld (hi : KtOk ih) (H : HdR B k l h nx c o F φ w ro a ops i idx t cs nb) {x : Nat} {args : List AV} (hs : sem o.op l h nx = .yld x args) :
    ResOk B (lone (FrG c.f ro a (.inRegion ops (i :: idx) :: t)) cs w) (rYld x args o.dst k l h nx c ih fk) := by
  have hd := not_defer hs fun n e => by cases e
  have hk := H.sok
  rw [hs] at hk
  obtain ⟨b, κ, us, e1, e2, e3⟩ := hk
  unfold rYld
  split
  · rename_i f e ps ca cb dd pd hg
    split
    · rename_i hl
      have hl := Nat.eq_of_beq_eq_true hl
      obtain ⟨ob, hw, tm, db, κ', l1, l2, l3, l4, l5, l6, rfl⟩ := H.hr.obj _ _ _ _ hg e1
      have hw : w.heap[b]? = some (.loop _) := hw
      have hy := run_yield (P := P) (args := us) hw (by simp only [List.size_toArray]; rw [hl, e3.len]; simp)
      rw [← e2] at hy
      refine ResOk.steps (.one (st_round H.ho H.wt hd hy)) ?_
      obtain ⟨q1, q2⟩ := putPs_ok (ps := ps) (vs := args) (us := us.toList) (ts := tm) hl e3 (fun t v hv => l2 t v hv) l3 l6
      have hz : ((ps.toArray.zip us).foldl (fun (tmps : Array Value) (x : Nat × Value) => tmps.setIfInBounds x.1 x.2) tm) = (ps.zip us.toList).foldl (fun tmps (x : Nat × Value) => tmps.setIfInBounds x.1 x.2) tm := by
        rw [← Array.foldl_toList, Array.toList_zip]
      refine hi _ _ _ _ _ _ _ ⟨F, φ, w, some b, ⟨(ps.zip us.toList).foldl (fun tmps (t, a) => tmps.setIfInBounds t a) tm, []⟩, [.code ca, .beginRound, .code cb], FrG c.f ro a (.inRegion ops (i :: idx) :: t) :: cs, nx, ?_, ?_⟩
      · show lone (FrG f (some b) ⟨(ps.toArray.zip us).foldl _ tm, []⟩ _) _ _ = _
        rw [hz]
      · refine ⟨H.hr, .plain q1 (.code l4 (.begr (.code l5 .nil))), ⟨b, κ, e1, rfl⟩, .nil, by show nT f ≤ _; rw [q2]; exact l3, .cons H.susp H.fr.ro H.fr.df H.fr.size H.fr.le H.fr.stk, Nat.le_refl _, H.fr.free, H.fr.bF, H.fr.bφ, H.fr.bk, H.fr.bw⟩
    · trivial
  · trivial
/-! the same outcomes -/
theorem rwvEq_ok {a b : Option (Option AO)} (h : rwvEq a b = true) : a = b := by
  cases a <;> cases b
  · rfl
  · cases h
  · cases h
  · rw [oaoEq_ok h]
theorem hpEq_ok : ∀ {a b : Tr (Option AO)}, hpEq a b = true → a = b
  | .nil, .nil, _ => rfl
  | .nil, .node .., h => by cases h
  | .node .., .nil, h => by cases h
  | .node l v r, .node l' v' r', h => by
    simp only [hpEq, Bool.and_eq_true] at h
    rw [rwvEq_ok h.1.1, hpEq_ok h.1.2, hpEq_ok h.2]
theorem resEq_ok {r r' : Res} (h : resEq r r' = true) : ∃ v hp hp' n, r = .done v hp n ∧ r' = .done v hp' n ∧ hp.rw = hp'.rw := by
  cases r <;> cases r' <;> first | (exact Bool.noConfusion h) | skip
  rename_i v hp n v' hp' n'
  simp only [resEq, Bool.and_eq_true] at h
  have h1 := avEq_ok h.1.1
  have h2 := hpEq_ok h.1.2
  have h3 : n = n' := Nat.eq_of_beq_eq_true h.2
  subst h1 h3
  exact ⟨v, hp, hp', n, rfl, rfl, h2⟩
theorem forkR_ok (hro : KtRo ih) {d : Option Nat} {m : Machine} {h0 : Tr AO} : ∀ {vs : List (AV × Hp)} {r : Res} {v0 : AV} {hp0 : Hp}, hp0.ro = h0 → r = ih k (putD l d v0) hp0 nx c → (∀ p ∈ vs, p.2.ro = h0) → ∀ p, p = (v0, hp0) ∨ p ∈ vs → ResOk B m (ih k (putD l d p.1) p.2 nx c) → ResOk B m (forkR ih d k l nx c vs r)
  | [], r, v0, hp0, _, hr, _, p, hp, ho => by
    rcases hp with rfl | hp
    · show ResOk B m r
      rw [hr]; exact ho
    · cases hp
  | (v1, hp1) :: vs, r, v0, hp0, h00, hr, hvs, p, hp, ho => by
    unfold forkR
    split
    · rename_i he
      have same : ResOk B m (ih k (putD l d v1) hp1 nx c) → ResOk B m r := fun hok => by
        obtain ⟨v, q, q', n, e1, e2, e3⟩ := resEq_ok he
        rw [e2] at hok
        rw [e1]
        have r1 : q.ro = h0 := by rw [hr] at e1; exact (hro _ _ _ _ _ _ _ _ e1).trans h00
        have r2 : q'.ro = h0 := (hro _ _ _ _ _ _ _ _ e2).trans (hvs _ (List.mem_cons_self ..))
        have : q = q' := by
          obtain ⟨a, b⟩ := q
          obtain ⟨a', b'⟩ := q'
          have r1 : a = h0 := r1
          have r2 : a' = h0 := r2
          have e3 : b = b' := e3
          rw [r1, r2, e3]
        rw [this]
        exact hok
      have ok0 : ResOk B m (ih k (putD l d p.1) p.2 nx c) → p = (v1, hp1) → ResOk B m r := fun ho e => by subst e; exact same ho
      by_cases e : p = (v1, hp1)
      · refine forkR_ok hro h00 hr (fun q hq => hvs q (List.mem_cons_of_mem _ hq)) (v0, hp0) (.inl rfl) ?_
        rw [← hr]
        exact ok0 ho e
      · refine forkR_ok hro h00 hr (fun q hq => hvs q (List.mem_cons_of_mem _ hq)) p ?_ ho
        rcases hp with hp | hp
        · exact .inl hp
        · rcases List.mem_cons.1 hp with hp | hp
          · exact absurd hp e
          · exact .inr hp
    · split <;> trivial
theorem head_fork (hi : KtOk ih) (hro : noFk fk = true → KtRo ih) (H : HdR B k l h nx c o F φ w ro a ops i idx t cs nb) {vs : List (AV × Hp)} (hs : sem o.op l h nx = .fork vs) :
    ResOk B (lone (FrG c.f ro a (.inRegion ops (i :: idx) :: t)) cs w) (rFork vs o.dst k l h nx c ih fk) := by
  have hd := not_defer hs fun n e => by cases e
  have hk := H.sok
  rw [hs] at hk
  obtain ⟨p, hp, hm⟩ := hk
  have hvs : ∀ q ∈ vs, q.2.ro = h.ro := by
    have := sem_ro (p := o.op) (l := l) (h := h) (nx := nx)
    rw [hs] at this
    exact this
  obtain ⟨m', s1, s2⟩ := head_val H hd (Nat.le_refl _) hm
  refine ResOk.steps s1 ?_
  unfold rFork
  split
  · trivial
  · rename_i hno
    cases vs with
    | nil => trivial
    | cons q vs =>
      obtain ⟨v0, hp0⟩ := q
      refine forkR_ok (hro hno) (h0 := h.ro) (hvs _ (List.mem_cons_self ..)) rfl (fun q hq => hvs q (List.mem_cons_of_mem _ hq)) p (List.mem_cons.1 hp) ?_
      exact hi _ _ _ _ _ _ _ s2
end
end Go.Proofs.YtjjjckmpkldgnaaGreatDoor.Rk
