/-
  From a walk to a row: a law's post, out of what a walk leaves. Plain theorems over any program; no condition.
  The walk's own steps, few and short: control by reckoning, several plain operations at once, one name a rule for both kinds of regions. Plain theorems over any program; no condition.
  Regions whose order is open and in which memory is made or written: what yields its value in every world that keeps a part of memory is taken first. Plain theorems over any program; no condition.
  Rules of operations, third part: nil, results in memory, rows opened and shut, stores by index, arrays. Plain theorems over any program; no condition.
-/
import Derived.Test.YtjjjckmpkldgnaaGreatDoorKe
import Derived.ProofKit
import Derived.OpenShut
import Derived.OrdersHeld
namespace Go.Proofs.YtjjjckmpkldgnaaGreatDoor
open Go.RowKit Go.ChangeShapes Go.WideShapes Go.ChangeAt

instance (k : IntKind) (n : Int) : Decidable (InK k n) := by cases k <;> (unfold InK; infer_instance)
theorem below_of {w w' : World} (hm : Mild w w') (h : (ph w).le (ph w')) : Below w.heap.size w w' :=
  ⟨hm.os, hm.tape, hm.output, hm.size, fun k hk => by
    obtain ⟨o, ho⟩ : ∃ o, w.heap[k]? = some o := ⟨_, Array.getElem?_eq_getElem hk⟩
    rw [ho]; exact h k o ho⟩
/-- A law's walk, as the row wants it. -/
theorem law_walk {P : Program} {f : FuncId} {args : List Value} {w : World} {v : Value} (h : Pure P f args (ph w) v) : Calls P f args.toArray w fun e w' => e = .returned v ∧ Below w.heap.size w w' :=
  (Spec.out h [] w (Sat.nil w)).mono fun e w' ⟨u, F', H', he, hF, ⟨hu, _⟩, hm, hs⟩ => ⟨by rw [he, hu], below_of hm (hF.trans hs.le)⟩
theorem trodAll_below {H : Type} {enc : TypeId × Value → H} {P : Program} (hl : laidOutB P = true) {W W' : World} (hb : Below W.heap.size W W') : ∀ {ts : List TypeId} {vs : List Value} {ds : List (DataW H)} {ps : List MemPlace},
    ts.all (fun t => P.readableRec t && decide (t < P.types.size)) = true → DataW.TrodAll enc P W 0 (fun _ => true) true ts vs ds ps → (∀ x ∈ ps, x.block < W.heap.size) → DataW.TrodAll enc P W' 0 (fun b => decide (b < W.heap.size)) true ts vs ds ps
  | [], vs, ds, ps, _, h, _ => by
    obtain ⟨rfl, rfl, rfl⟩ := trodAll_nil h
    exact trodAll_mk0
  | t :: ts, vs, ds, ps, hr, h, hlt => by
    obtain ⟨v, vs', d, ds', p, q, rfl, rfl, rfl, h1, h2⟩ := trodAll_cons h
    rw [List.all_cons, Bool.and_eq_true, Bool.and_eq_true] at hr
    exact ⟨p, q, Below.trod hl hr.1.1 (by simpa using hr.1.2) h1 hb (fun x hx => hlt x (by simp [hx])), trodAll_below hl hb hr.2 h2 (fun x hx => hlt x (by simp [hx])), rfl⟩
theorem law_post {H : Type} {enc : TypeId × Value → H} {P : Program} {f : Func} {s : ChangeSpec} {W W' : World} {args : Array Value} {ds gs : List (DataW H)} {before p : List MemPlace} {tb : TypeId}
    (hl : laidOutB P = true) (hr : f.params.toList.all (fun t => P.readableRec t && decide (t < P.types.size)) = true) (hv : s.vars = []) (ht : f.resultTypes = #[tb]) (hu : P.underlying tb = some .bool)
    (hW : DataW.Whole enc P f.params.toList s.vars false W args.toList ds gs before) (hA : DataW.TrodAll enc P W 0 (fun _ => true) true f.params.toList args.toList ds p) (hp : before = p)
    (hs : s.fn H (ds ++ gs) = { results := [.lit (.bool true)], args := ds }) (hb : Below W.heap.size W W') : s.post enc P f false true false false W args (.bool true) W' := by
  subst hp
  refine ⟨ds, gs, before, [], before, [], hW, ?_, ?_, ?_, ?_, fun h => by cases h⟩
  · rw [hs, ht]
    exact trodAll_mk1 (shut_bool hu true)
  · rw [hs]
    exact trodAll_below hl hb hr hA (fun x hx => by simpa using hW.lt x hx)
  · rw [hs, hv]
    rfl
  · exact World.keptBut_mono (fun q hq => ⟨hq, .inr (.inl hq)⟩) (hb.frame (· ∈ before))
end Go.Proofs.YtjjjckmpkldgnaaGreatDoor
namespace Go.Proofs.YtjjjckmpkldgnaaGreatDoor
open Go.RowKit

def kgo : Nat → Env → List KItem → List KItem
  | 0, _, k => k
  | n + 1, l, k => match k with
    | .code (.seq a b) :: k => kgo n l (.code a :: .code b :: k)
    | .code (.block id c) :: k => kgo n l (.code c :: .blk id :: k)
    | .blk _ :: k => kgo n l k
    | .code .skip :: k => kgo n l k
    | .code (.label _) :: k => kgo n l k
    | .code (.exit id) :: k => match kexit id k with
      | some k' => kgo n l k'
      | none => .code (.exit id) :: k
    | k => k
/-- Does control go on by itself? -/
def kmay : List KItem → Bool
  | .code (.seq _ _) :: _ => true
  | .code (.block _ _) :: _ => true
  | .blk _ :: _ => true
  | .code .skip :: _ => true
  | .code (.label _) :: _ => true
  | .code (.exit _) :: _ => true
  | _ => false
section
variable {C : Ctx} {k k' : List KItem} {l l' : Env} {F : PH} {H : List Asrt}
theorem J_kgo : ∀ (n : Nat) (k : List KItem), J C (kgo n l k) l F H → J C k l F H
  | 0, _, h => h
  | n + 1, k, h => by
    unfold kgo at h
    split at h
    · exact J_seq (J_kgo n _ h)
    · exact J_block (J_kgo n _ h)
    · exact J_blk (J_kgo n _ h)
    · exact J_skip (J_kgo n _ h)
    · exact J_label (J_kgo n _ h)
    · split at h
      · rename_i e; exact J_exit e (J_kgo n _ h)
      · exact h
    · exact h
theorem jc {a : KItem} (hm : kmay k = true) (e : kgo 60 l k = a :: k') (h : J C (a :: k') l F H) : J C k l F H := by
  rw [← e] at h; exact J_kgo 60 k h
def JM (C : Ctx) (m : Bool) (ops : Array Oper) (rest : List Oper) (k : List KItem) (l : Env) (F : PH) (H : List Asrt) : Prop :=
  match m with
  | true => JQ C ops rest k l F H
  | false => JO C ops rest k l F H
theorem jr {id : Nat} {ops : List Oper} (hd : ops.all (fun o => o.dst.all (· < C.N)) = true) (h : JM C false ops.toArray ops k l F H) : J C (.code (.region id ops.toArray false) :: k) l F H := J_region hd h
/-- No call, no memory made or written. -/
def quietOp : Op → Bool
  | .move _ => true
  | .assign _ => true
  | .pick _ _ _ => true
  | .extract _ _ => true
  | .nilCheck _ => true
  | .binOp _ _ _ _ _ => true
  | .unOp _ _ _ => true
  | .fieldAddr _ _ _ => true
  | .field _ _ _ => true
  | .indexAddr _ _ _ => true
  | .index _ _ _ => true
  | .load _ _ => true
  | .slice _ _ _ _ _ => true
  | .convert _ _ _ => true
  | .build _ _ => true
  | .call { callee := .builtin .len, .. } => true
  | .call { callee := .builtin .cap, .. } => true
  | .call { callee := .builtin .min, .. } => true
  | .call { callee := .builtin .max, .. } => true
  | _ => false
theorem jdq {id : Nat} {ops : List Oper} (hd : ops.all (fun o => o.dst.all (· < C.N)) = true) (_hq : ops.all (fun o => o.dst.isSome && quietOp o.op) = true) (hm : C.P.follows .mixedOrders = true) (hB : Region.lexB .any ops.toArray = true) (h : JM C true ops.toArray ops k l F H) : J C (.code (.region id ops.toArray true) :: k) l F H := J_draw hd hm hB h
theorem jn {m : Bool} {ops : Array Oper} (h : J C k l F H) : JM C m ops [] k l F H := by
  cases m
  · exact JO_nil h
  · exact JQ_nil h
end
section
variable {C : Ctx} {m : Bool} {ops : Array Oper} {rest : List Oper} {k : List KItem} {l : Env} {F : PH} {H : List Asrt} {d : Nat} {T : TypeId} {pos : String} {af : Array Edge} {g : Option (Nat × Bool)} {f : FuncId} {args : List Operand} {tys : Array TypeId} {vs : List Value} {p : Op}
theorem oS {v : Value} (he : Ev C.P ⟨some d, p, T, pos, af, g⟩ l F H v) (hr : runs ops l ⟨some d, p, T, pos, af, g⟩ = some true) (h : JM C m ops rest k ((d, v) :: l) F H) : JM C m ops (⟨some d, p, T, pos, af, g⟩ :: rest) k l F H := by
  cases m
  · exact JO_s he hr h
  · exact JQ_s he hr h
theorem oX (hr : runs ops l ⟨some d, p, T, pos, af, g⟩ = some false) (h : JM C m ops rest k ((d, undef) :: l) F H) : JM C m ops (⟨some d, p, T, pos, af, g⟩ :: rest) k l F H := by
  cases m
  · exact JO_sk hr h
  · exact JQ_sk hr h
theorem oP {v : Value} (sp : Pure C.P f vs F v) (hc : ∀ args w, (callFunc f args).run C.P w = .ok (.enter f args) w) (hv : opvs l args = some vs)
    (hr : runs ops l ⟨some d, .call { callee := .value (.func f), args := args.toArray, argTypes := tys }, T, pos, af, g⟩ = some true)
    (h : JM C m ops rest k ((d, v) :: l) F H) : JM C m ops (⟨some d, .call { callee := .value (.func f), args := args.toArray, argTypes := tys }, T, pos, af, g⟩ :: rest) k l F H := by
  cases m
  · exact JO_p sp hc hv hr h
  · exact JQ_p sp hc hv hr h
theorem oC {Hc Hr : List Asrt} {Q : Value → PH → List Asrt → Prop} (sp : Spec C.P f vs F Hc Q) (hc : ∀ args w, (callFunc f args).run C.P w = .ok (.enter f args) w) (hv : opvs l args = some vs)
    (hr : runs ops l ⟨some d, .call { callee := .value (.func f), args := args.toArray, argTypes := tys }, T, pos, af, g⟩ = some true) (hp : ∀ w, Sat F H w → Sat F (Hc ++ Hr) w)
    (h : ∀ v F' H', F.le F' → Q v F' H' → JM C false ops rest k ((d, v) :: l) F' (H' ++ Hr)) :
    JM C false ops (⟨some d, .call { callee := .value (.func f), args := args.toArray, argTypes := tys }, T, pos, af, g⟩ :: rest) k l F H := JO_c sp hc hv hr hp h
theorem oE {Q : Value → PH → List Asrt → Prop} (he : Ev' C.P ⟨some d, p, T, pos, af, g⟩ l F H Q) (hr : runs ops l ⟨some d, p, T, pos, af, g⟩ = some true)
    (h : ∀ v F' H', F.le F' → Q v F' H' → JM C false ops rest k ((d, v) :: l) F' H') : JM C false ops (⟨some d, p, T, pos, af, g⟩ :: rest) k l F H := JO_e he hr h
theorem oN {Q : Value → PH → List Asrt → Prop} (he : Ev' C.P ⟨none, p, T, pos, af, g⟩ l F H Q) (hr : runs ops l ⟨none, p, T, pos, af, g⟩ = some true)
    (h : ∀ v F' H', F.le F' → Q v F' H' → JM C false ops rest k l F' H') : JM C false ops (⟨none, p, T, pos, af, g⟩ :: rest) k l F H := JO_en he hr h
theorem oW {F' : PH} {H' : List Asrt} (h : JM C false ops rest k l F' H') (s : ∀ w, Sat F H w → Sat F' H' w) : JM C false ops rest k l F H := JO_weak h s
theorem oPersist {A : Asrt} (h : ∀ h', A h' → F.dj h' → JM C false ops rest k l (F.un h') H) : JM C false ops rest k l F (A :: H) := JO_persist h
theorem oA {E size bytes : Nat} {z : Value} {d1 d2 : Nat} {U1 U2 : TypeId} {pos1 pos2 : String} {af1 af2 : Array Edge} {g1 g2 : Option (Nat × Bool)} {x y : Operand} {v yv : Value} {n : Nat} {xs vs : List Value} {K : Value → List Asrt}
    (hx : ∀ w, opv ((d1, w) :: l) x = some v) (hy : opv l y = some yv) (hv : VC yv vs) (hl : vs.length = size) (he : Elem C.P T E size bytes z) (h1 : Ones vs) (hb : (n + 1) * bytes ≤ 140737488355328)
    (hu : ∀ v', Upd (own v E size n xs) (own v' E size (n + 1) (xs ++ vs)) H (K v'))
    (hr1 : runs ops l ⟨some d1, .buildSlice T 1 #[(0, y)], U1, pos1, af1, g1⟩ = some true)
    (hr2 : ∀ w, runs ops ((d1, w) :: l) ⟨some d2, .call { callee := .builtin .append, args := #[x, .tmp d1], argTypes := #[T, T] }, U2, pos2, af2, g2⟩ = some true)
    (h : ∀ u w, JM C false ops rest k ((d2, u) :: (d1, w) :: l) F (K u)) :
    JM C false ops (⟨some d1, .buildSlice T 1 #[(0, y)], U1, pos1, af1, g1⟩ :: ⟨some d2, .call { callee := .builtin .append, args := #[x, .tmp d1], argTypes := #[T, T] }, U2, pos2, af2, g2⟩ :: rest) k l F H :=
  JO_append1 hx hy hv hl he h1 hb hu hr1 hr2 h
/-- Plain operations, one behind the other, as far as they go. -/
def pst (l : Env) (o : Oper) : Option Env := match o with
  | ⟨some d, .move x, _, _, _, none⟩ => match opv l x with | some v => some ((d, v) :: l) | none => none
  | ⟨some d, .assign x, _, _, _, none⟩ => match opv l x with | some v => some ((d, v) :: l) | none => none
  | ⟨some d, .extract t i, _, _, _, none⟩ => match pv l (.extract t i) with | some v => some ((d, v) :: l) | none => none
  | ⟨some d, .nilCheck x, _, _, _, none⟩ => match pv l (.nilCheck x) with | some v => some ((d, v) :: l) | none => none
  | _ => none
def psteps : List Oper → Env → Env × List Oper
  | [], l => (l, [])
  | o :: r, l => match pst l o with
    | some l' => psteps r l'
    | none => (l, o :: r)
theorem JM_pst {o : Oper} {l' : Env} (e : pst l o = some l') (h : JM C m ops rest k l' F H) : JM C m ops (o :: rest) k l F H := by
  unfold pst at e
  split at e
  · split at e
    · rename_i hv; cases e; exact oS (ev_pv hv) rfl h
    · cases e
  · split at e
    · rename_i hv; cases e; exact oS (ev_pv hv) rfl h
    · cases e
  · split at e
    · rename_i hv; cases e; exact oS (ev_pv hv) rfl h
    · cases e
  · split at e
    · rename_i hv; cases e; exact oS (ev_pv hv) rfl h
    · cases e
  · cases e
theorem JM_psteps : ∀ (rest : List Oper) (l : Env), JM C m ops (psteps rest l).2 k (psteps rest l).1 F H → JM C m ops rest k l F H
  | [], _, h => h
  | o :: r, l, h => by
    unfold psteps at h
    split at h
    · rename_i l' e; exact JM_pst e (JM_psteps r l' h)
    · exact h
theorem oM {o : Oper} {l1 l' : Env} {rest' : List Oper} (e1 : pst l o = some l1) (e : psteps rest l1 = (l', rest')) (h : JM C m ops rest' k l' F H) : JM C m ops (o :: rest) k l F H := by
  refine JM_pst e1 (JM_psteps rest l1 ?_)
  rw [e]; exact h
end
/-! one name for several operations -/
def arF (op : BinOp) (m n : Int) : Option Int := match op with
  | .add => some (m + n)
  | .sub => some (m - n)
  | .mul => some (m * n)
  | _ => none
def cmpB (op : BinOp) (m n : Int) : Option Bool := match op with
  | .lss => some (decide (m < n))
  | .leq => some (decide (m ≤ n))
  | .gtr => some (decide (n < m))
  | .geq => some (decide (n ≤ m))
  | .eql => some (decide (m = n))
  | .neq => some (!decide (m = n))
  | _ => none
section
variable {P : Program} {l : Env} {F : PH} {H : List Asrt} {d : Option Nat} {T T' U : TypeId} {pos : String} {af : Array Edge} {g : Option (Nat × Bool)} {x y : Operand}
theorem ea {op : BinOp} {k : IntKind} {m n r : Int} (hx : opv l x = some (.int k m)) (hy : opv l y = some (.int k n)) (hf : arF op m n = some r) (hr : InK k r) : Ev P ⟨d, .binOp op T x y T', U, pos, af, g⟩ l F H (.int k r) := by
  unfold arF at hf
  split at hf
  · cases hf; exact ev_add hx hy hr
  · cases hf; exact ev_sub hx hy hr
  · cases hf; exact ev_mul hx hy hr
  · cases hf
theorem eg {op : BinOp} {k : IntKind} {m n : Int} {b : Bool} (hx : opv l x = some (.int k m)) (hy : opv l y = some (.int k n)) (hf : cmpB op m n = some b) : Ev P ⟨d, .binOp op T x y T', U, pos, af, g⟩ l F H (.bool b) := by
  unfold cmpB at hf
  split at hf
  · cases hf; exact ev_lss hx hy
  · cases hf; exact ev_leq hx hy
  · cases hf; exact ev_gtr hx hy
  · cases hf; exact ev_geq hx hy
  · cases hf; exact ev_eql hx hy
  · cases hf; exact ev_neq hx hy
  · cases hf
def dvF (op : BinOp) (m n : Int) : Option Int := match op with
  | .quo => some (m / n)
  | .rem => some (m % n)
  | _ => none
theorem ed {op : BinOp} {k : IntKind} {m n r : Int} (hx : opv l x = some (.int k m)) (hy : opv l y = some (.int k n)) (hf : dvF op m n = some r) (h0 : 0 ≤ m) (h1 : 1 ≤ n) (hm : InK k m) : Ev P ⟨d, .binOp op T x y T', U, pos, af, g⟩ l F H (.int k r) := by
  unfold dvF at hf
  split at hf
  · cases hf; exact ev_quo hx hy h0 h1 hm
  · cases hf; exact ev_rem hx hy h0 h1
  · cases hf
/-- len, cap, min, max. -/
def biF (P : Program) (l : Env) : Builtin → Array TypeId → List Operand → Option Value
  | .len, ⟨[t]⟩, [x] => match P.underlying t, opv l x with
    | some (.slice _), some (.slice _ n _) => some (.int .i64 n)
    | some .string, some (.string s) => some (.int .i64 s.size)
    | _, _ => none
  | .cap, ⟨[t]⟩, [x] => match P.underlying t, opv l x with
    | some (.slice _), some (.slice _ _ c) => some (.int .i64 c)
    | _, _ => none
  | .min, _, [x, y] => match opv l x, opv l y with
    | some (.int k m), some (.int k' n) => match decEq k' k with
      | .isTrue _ => some (.int k (min m n))
      | .isFalse _ => none
    | _, _ => none
  | .max, _, [x, y] => match opv l x, opv l y with
    | some (.int k m), some (.int k' n) => match decEq k' k with
      | .isTrue _ => some (.int k (max m n))
      | .isFalse _ => none
    | _, _ => none
  | _, _, _ => none
theorem eb {b : Builtin} {ts : Array TypeId} {xs : List Operand} {v : Value} (h : biF P l b ts xs = some v) : Ev P ⟨d, .call { callee := .builtin b, args := xs.toArray, argTypes := ts }, U, pos, af, g⟩ l F H v := by
  unfold biF at h
  split at h
  · split at h
    · rename_i hu hx; cases h; exact ev_len_slice hx hu
    · rename_i hu hx; cases h; exact ev_len_string hx hu
    · cases h
  · split at h
    · rename_i hu hx; cases h; exact ev_cap_slice hx hu
    · cases h
  · split at h
    · rename_i hx hy
      split at h
      · rename_i e _; cases h; subst e; exact ev_min hx hy
      · cases h
    · cases h
  · split at h
    · rename_i hx hy
      split at h
      · rename_i e _; cases h; subst e; exact ev_max hx hy
      · cases h
    · cases h
  · cases h
end
attribute [irreducible] JM
end Go.Proofs.YtjjjckmpkldgnaaGreatDoor
namespace Go.Proofs.YtjjjckmpkldgnaaGreatDoor
open Go.RowKit

theorem kpost_panic {C : Ctx} {c : List PanicEntry} {a a' : Act} {w : World} (hd : a'.defers = a.defers) : ∀ {k : List KItem}, kpost C k (.panic c) a w → kpost C k (.panic c) a' w
  | [], h => by
    unfold kpost bodyPost at h ⊢
    exact ⟨by rw [hd]; exact h.1, h.2⟩
  | .code _ :: k, h => kpost_panic (k := k) hd h
  | .again _ :: k, h => kpost_panic (k := k) hd h
  | .blk _ :: k, h => kpost_panic (k := k) hd h
def JA (C : Ctx) (S : World → Prop) (ops : Array Oper) (fuel : Nat) (listed : Array Bool) (k : List KItem) (l : Env) (F : PH) (H : List Asrt) : Prop :=
  (∀ w, Sat F H w → S w) → ∀ a w, Holds C.N l a → Mild C.w0 w → Sat F H w → wpAnyH C.P .any ops (kpost C k) S fuel listed a w
section
variable {C : Ctx} {Fs : PH} {Hs : List Asrt} {ops : Array Oper} {fuel : Nat} {listed : Array Bool} {k : List KItem} {l : Env} {F : PH} {H : List Asrt} {d : Nat} {T : TypeId} {pos : String} {af : Array Edge} {g : Option (Nat × Bool)} {p : Op}
theorem ja {id : Nat} {ops : List Oper} (Fs : PH) (Hs : List Asrt) (hm : C.P.follows .mixedOrders = true) (hS : ∀ w, Sat F H w → Sat Fs Hs w) (h : JA C (Sat Fs Hs) ops.toArray ops.toArray.size (Array.replicate ops.toArray.size false) k l F H) :
    J C (.code (.region id ops.toArray true) :: k) l F H := by
  unfold J JA at *
  intro a w ha hmw hs
  exact wp_region_held hm (h hS a { w with drawn := w.drawn + 1 } ha (hmw.trans (Mild.drew w)) hs)
theorem aT {v : Value} (i : Nat) (ho : ops[i]? = some ⟨some d, p, T, pos, af, g⟩) (he : Ev C.P ⟨some d, p, T, pos, af, g⟩ l Fs Hs v) (hr : runs ops l ⟨some d, p, T, pos, af, g⟩ = some true) (hN : Nat.blt d C.N = true)
    (hsel : Region.noSelect ops = true) (hf : Region.free .any ops listed i = true) (hrd : (Region.ready .any ops listed).contains i = true)
    (h : JA C (Sat Fs Hs) ops fuel (listed.setIfInBounds i true) k ((d, v) :: l) F H) : JA C (Sat Fs Hs) ops (fuel + 1) listed k l F H := by
  unfold JA at *
  intro hS a w ha hm hs
  have hd : d < C.N := Nat.le_of_ble_eq_true hN
  exact wpAnyH_take ho hsel hf hrd (fun c a w hq => kpost_panic (by simp [Act.put]) hq) (.inl ⟨runs_wanted hr ha, fun w hw => he.out _ a w ha hw⟩) (hS w hs) (h hS _ w (ha.put hd v) hm hs)
theorem aX (i : Nat) (ho : ops[i]? = some ⟨some d, p, T, pos, af, g⟩) (hr : runs ops l ⟨some d, p, T, pos, af, g⟩ = some false) (hN : Nat.blt d C.N = true)
    (hsel : Region.noSelect ops = true) (hf : Region.free .any ops listed i = true) (hrd : (Region.ready .any ops listed).contains i = true)
    (h : JA C (Sat Fs Hs) ops fuel (listed.setIfInBounds i true) k ((d, undef) :: l) F H) : JA C (Sat Fs Hs) ops (fuel + 1) listed k l F H := by
  unfold JA at *
  intro hS a w ha hm hs
  have hd : d < C.N := Nat.le_of_ble_eq_true hN
  exact wpAnyH_take ho hsel hf hrd (fun c a w hq => kpost_panic (by simp [Act.put]) hq) (.inr ⟨runs_wanted hr ha, rfl⟩) (hS w hs) (h hS _ w (ha.put hd undef) hm hs)
theorem aD (hr : Region.ready .any ops listed = []) (h : J C k l F H) : JA C (Sat Fs Hs) ops fuel listed k l F H := by
  unfold JA J at *
  intro _ a w ha hm hs
  exact wpAnyH_done hr (h a w ha hm hs) fuel
/-- Operation number i comes next. -/
def JA1 (C : Ctx) (S : World → Prop) (ops : Array Oper) (fuel : Nat) (listed : Array Bool) (i : Nat) (k : List KItem) (l : Env) (F : PH) (H : List Asrt) : Prop :=
  (∀ w, Sat F H w → S w) → ∀ a w, Holds C.N l a → Mild C.w0 w → Sat F H w → wpOp C.P ops (kpost C k) i (fun a' w' => S w' ∧ wpAnyH C.P .any ops (kpost C k) S fuel (listed.setIfInBounds i true) a' w') a w
theorem aB {i : Nat} (hrd : Region.ready .any ops listed = [i]) (h : JA1 C (Sat Fs Hs) ops fuel listed i k l F H) : JA C (Sat Fs Hs) ops (fuel + 1) listed k l F H := by
  unfold JA JA1 at *
  intro hS a w ha hm hs
  refine wpAnyH_all hrd (by simp) ?_
  intro j hj
  rw [List.mem_singleton] at hj
  subst hj
  exact h hS a w ha hm hs
theorem aE {Q : Value → PH → List Asrt → Prop} {i : Nat} (ho : ops[i]? = some ⟨some d, p, T, pos, af, g⟩) (he : Ev' C.P ⟨some d, p, T, pos, af, g⟩ l F H Q) (hr : runs ops l ⟨some d, p, T, pos, af, g⟩ = some true) (hN : Nat.blt d C.N = true)
    (hQ : ∀ v F' H', F.le F' → Q v F' H' → ∀ w, Sat F' H' w → Sat Fs Hs w)
    (h : ∀ v F' H', F.le F' → Q v F' H' → JA C (Sat Fs Hs) ops fuel (listed.setIfInBounds i true) k ((d, v) :: l) F' H') : JA1 C (Sat Fs Hs) ops fuel listed i k l F H := by
  unfold JA at h
  unfold JA1
  intro hS a w ha hm hs
  have hd : d < C.N := Nat.le_of_ble_eq_true hN
  unfold wpOp
  rw [ho]
  dsimp only
  rw [if_pos (runs_wanted hr ha)]
  left
  obtain ⟨nx, w', v, F', H', hrun, hv, hmw, hF, hq, hs'⟩ := he.out _ a w ha hs
  have hS' := hQ v F' H' hF hq
  unfold Oper.wp
  rw [hrun]
  rcases hv with rfl | ⟨rfl, rfl⟩
  · exact ⟨hS' w' hs', h v F' H' hF hq hS' _ w' (ha.put hd v) (hm.trans hmw) hs'⟩
  · exact ⟨hS' w' hs', h undef F' H' hF hq hS' _ w' (ha.put hd undef) (hm.trans hmw) hs'⟩
theorem aN {Q : Value → PH → List Asrt → Prop} {i : Nat} (ho : ops[i]? = some ⟨none, p, T, pos, af, g⟩) (he : Ev' C.P ⟨none, p, T, pos, af, g⟩ l F H Q) (hr : runs ops l ⟨none, p, T, pos, af, g⟩ = some true)
    (hQ : ∀ v F' H', F.le F' → Q v F' H' → ∀ w, Sat F' H' w → Sat Fs Hs w)
    (h : ∀ v F' H', F.le F' → Q v F' H' → JA C (Sat Fs Hs) ops fuel (listed.setIfInBounds i true) k l F' H') : JA1 C (Sat Fs Hs) ops fuel listed i k l F H := by
  unfold JA at h
  unfold JA1
  intro hS a w ha hm hs
  unfold wpOp
  rw [ho]
  dsimp only
  rw [if_pos (runs_wanted hr ha)]
  left
  obtain ⟨nx, w', v, F', H', hrun, hv, hmw, hF, hq, hs'⟩ := he.out _ a w ha hs
  have hS' := hQ v F' H' hF hq
  unfold Oper.wp
  rw [hrun]
  rcases hv with rfl | ⟨rfl, rfl⟩
  · exact ⟨hS' w' hs', h v F' H' hF hq hS' _ w' (ha.put_none v) (hm.trans hmw) hs'⟩
  · exact ⟨hS' w' hs', h undef F' H' hF hq hS' _ w' (ha.put_none undef) (hm.trans hmw) hs'⟩
/-- A call stands next. -/
theorem aC {f : FuncId} {args : List Operand} {tys : Array TypeId} {vs : List Value} {Hc Hr : List Asrt} {Q : Value → PH → List Asrt → Prop} {i : Nat}
    (ho : ops[i]? = some ⟨some d, .call { callee := .value (.func f), args := args.toArray, argTypes := tys }, T, pos, af, g⟩) (sp : Spec C.P f vs F Hc Q) (hc : ∀ args w, (callFunc f args).run C.P w = .ok (.enter f args) w) (hv : opvs l args = some vs)
    (hr : runs ops l ⟨some d, .call { callee := .value (.func f), args := args.toArray, argTypes := tys }, T, pos, af, g⟩ = some true) (hN : Nat.blt d C.N = true)
    (hp : ∀ w, Sat F H w → Sat F (Hc ++ Hr) w) (hQ : ∀ v F' H', F.le F' → Q v F' H' → ∀ w, Sat F' (H' ++ Hr) w → Sat Fs Hs w)
    (h : ∀ v F' H', F.le F' → Q v F' H' → JA C (Sat Fs Hs) ops fuel (listed.setIfInBounds i true) k ((d, v) :: l) F' (H' ++ Hr)) : JA1 C (Sat Fs Hs) ops fuel listed i k l F H := by
  unfold JA at h
  unfold JA1
  intro hS a w ha hm hs
  have hd : d < C.N := Nat.le_of_ble_eq_true hN
  unfold wpOp
  rw [ho]
  dsimp only
  rw [if_pos (runs_wanted hr ha)]
  left
  unfold Oper.wp
  have he : args.toArray.map a.eval = vs.toArray := by rw [← ha.opvs hv]; simp
  have hrun : (execOp a.eval ⟨some d, .call { callee := .value (.func f), args := args.toArray, argTypes := tys }, T, pos, af, g⟩).run C.P w = .ok (.enter f vs.toArray) w := by
    unfold execOp
    simp only [resolve, Act.eval, Deferred.ofValue, invoke]
    simp only [Array.append_empty, pure_bind, ← he]
    simp [hc]
  rw [hrun]
  simp only [Oper.upon_enter]
  refine (sp.out Hr w (hp w hs)).mono ?_
  rintro e w' ⟨v, F', H', rfl, hF, hq, hmw, hs'⟩
  have hS' := hQ v F' H' hF hq
  exact ⟨hS' w' hs', h v F' H' hF hq hS' _ w' (ha.put hd v) (hm.trans hmw) hs'⟩
end
attribute [irreducible] JA JA1
end Go.Proofs.YtjjjckmpkldgnaaGreatDoor
namespace Go.Proofs.YtjjjckmpkldgnaaGreatDoor
open Go.RowKit

section
variable {P : Program} {l : Env} {F : PH} {H Hr : List Asrt} {d : Option Nat} {T T' U E : TypeId} {pos : String} {af : Array Edge} {g : Option (Nat × Bool)} {x y z y' z' : Operand}
/-! nil -/
theorem run_v2 {A : Sem Unit} {s : Sem Value} {v : Value} {w : World} (hA : A.run P w = .ok () w) (h : s.run P w = .ok v w) : Sem.run P (do pure (Next.value (← (do A; s)))) w = .ok (.value v) w := by
  refine run_v ?_
  rw [Sem.run_bind, hA]; exact h
theorem equal_of (T : TypeId) (u v : Value) (b : Bool) (w : World) (h : ∀ n : Nat, (Op.equalIn (n + 1) T u v).run P w = .ok b w) : (Op.equal T u v).run P w = .ok b w := h 9999
theorem ev_ptr_eql_nil {a : Option Addr} {t : TypeId} (hx : opv l x = some (.pointer a)) (hy : opv l y = some (.pointer none)) (hu : P.underlying T = some (.pointer t)) : Ev P ⟨d, .binOp .eql T x y T', U, pos, af, g⟩ l F H (.bool a.isNone) := .of fun ρ hρ w _ => by
  have e1 := hρ _ _ hx; have e2 := hρ _ _ hy
  have hr : (Op.equal T (.pointer a) (.pointer none)).run P w = .ok a.isNone w := equal_of _ _ _ _ _ fun n => by cases a <;> simp [Op.equalIn, run_underlying hu]
  refine run_v2 ?_ ?_
  · rw [e1, e2]; rfl
  · rw [e1, e2]; simp [binOp, hr]
theorem ev_ptr_neq_nil {a : Option Addr} {t : TypeId} (hx : opv l x = some (.pointer a)) (hy : opv l y = some (.pointer none)) (hu : P.underlying T = some (.pointer t)) : Ev P ⟨d, .binOp .neq T x y T', U, pos, af, g⟩ l F H (.bool a.isSome) := .of fun ρ hρ w _ => by
  have e1 := hρ _ _ hx; have e2 := hρ _ _ hy
  have hr : (Op.equal T (.pointer a) (.pointer none)).run P w = .ok a.isNone w := equal_of _ _ _ _ _ fun n => by cases a <;> simp [Op.equalIn, run_underlying hu]
  refine run_v2 ?_ ?_
  · rw [e1, e2]; rfl
  · rw [e1, e2]; cases a <;> simp [binOp, hr]
theorem ev_slice_eql_nil {a : Option Addr} {n c : Nat} {t : TypeId} (hx : opv l x = some (.slice a n c)) (hy : opv l y = some (.slice none 0 0)) (hu : P.underlying T = some (.slice t)) : Ev P ⟨d, .binOp .eql T x y T', U, pos, af, g⟩ l F H (.bool a.isNone) := .of fun ρ hρ w _ => by
  have e1 := hρ _ _ hx; have e2 := hρ _ _ hy
  have hr : (Op.equal T (.slice a n c) (.slice none 0 0)).run P w = .ok a.isNone w := equal_of _ _ _ _ _ fun n => by cases a <;> simp [Op.equalIn, run_underlying hu]
  refine run_v2 ?_ ?_
  · rw [e1, e2]; rfl
  · rw [e1, e2]; simp [binOp, hr]
theorem ev_fn_eql_nil {t1 t2 : Array TypeId} {b : Bool} (hx : opv l x = some .nilFunc) (hy : opv l y = some .nilFunc) (hu : P.underlying T = some (.func t1 t2 b)) : Ev P ⟨d, .binOp .eql T x y T', U, pos, af, g⟩ l F H (.bool true) := .of fun ρ hρ w _ => by
  have e1 := hρ _ _ hx; have e2 := hρ _ _ hy
  have hr : (Op.equal T .nilFunc .nilFunc).run P w = .ok true w := equal_of _ _ _ _ _ fun n => by simp [Op.equalIn, run_underlying hu]
  refine run_v2 ?_ ?_
  · rw [e1, e2]; rfl
  · rw [e1, e2]; simp [binOp, hr]
theorem ev_fn_eql_some {t1 t2 : Array TypeId} {b : Bool} {f : Fn} {p q : Array Value} (hx : opv l x = some (.func f p q)) (hy : opv l y = some .nilFunc) (hu : P.underlying T = some (.func t1 t2 b)) : Ev P ⟨d, .binOp .eql T x y T', U, pos, af, g⟩ l F H (.bool false) := .of fun ρ hρ w _ => by
  have e1 := hρ _ _ hx; have e2 := hρ _ _ hy
  have hr : (Op.equal T (.func f p q) .nilFunc).run P w = .ok false w := equal_of _ _ _ _ _ fun n => by simp [Op.equalIn, run_underlying hu]
  refine run_v2 ?_ ?_
  · rw [e1, e2]; rfl
  · rw [e1, e2]; simp [binOp, hr]
/-! rows of the call's own -/
theorem own_rdb {b n c size : Nat} {xs : List Value} (p : Pick (own (.slice (some ⟨b, 0, none⟩) n c) E size n xs) H Hr) : Rdb F H b 0 xs := fun w s => by
  obtain ⟨h, hA, hd, s'⟩ := (s.pick p).persist
  obtain ⟨hl, h1⟩ := hA
  rcases h1 with ⟨e, _, _⟩ | ⟨g, cap, cur, e, rfl, h2, _, _, h5⟩
  · cases e
  · cases e
    exact (cells_row ((PH.le_r hd) b _ (PH.one_self _ _)) (by rw [hl]; exact h5)).mono s'.le
theorem own_is {v : Value} {size n : Nat} {xs : List Value} {h : PH} (ho : own v E size n xs h) : ∃ a c, v = .slice a n c ∧ n ≤ c ∧ c ≤ maxLen ∧ (∀ b, a = some b → b.off = 0 ∧ b.spot = none) := by
  obtain ⟨_, h1⟩ := ho
  rcases h1 with ⟨e, e2, _⟩ | ⟨g, cap, cur, e, _, h2, h3, _⟩
  · subst e2; exact ⟨none, 0, e, Nat.le_refl _, by unfold maxLen; omega, fun b hb => by cases hb⟩
  · exact ⟨_, cap, e, h2, h3, fun b hb => by cases hb; exact ⟨rfl, rfl⟩⟩
theorem Rdb.take {b off : Nat} {cs : List Value} (h : Rdb F H b off cs) (i n : Nat) : Rdb F H b (off + i) ((cs.drop i).take n) := fun w s j u e => by
  have hlt : j < n := by
    have := (List.getElem?_eq_some_iff.1 e).1
    simp at this; omega
  rw [List.getElem?_take, if_pos hlt, List.getElem?_drop] at e
  have := h w s _ u e
  rwa [← Nat.add_assoc] at this
end
theorem ones_nil : Ones [] := fun v hv => by cases hv
theorem ones_cons {v : Value} {vs : List Value} (h : v.oneCell' = true) (hs : Ones vs) : Ones (v :: vs) := fun u hu => by
  rcases List.mem_cons.1 hu with rfl | hu
  · exact h
  · exact hs u hu
theorem ones_append {us vs : List Value} (h : Ones us) (hs : Ones vs) : Ones (us ++ vs) := fun u hu => by
  rcases List.mem_append.1 hu with hu | hu
  · exact h u hu
  · exact hs u hu
theorem flat_len {n : Nat} : ∀ {css : List (List Value)}, (∀ c ∈ css, c.length = n) → css.flatten.length = css.length * n
  | [], _ => by simp
  | c :: css, h => by
    rw [List.flatten_cons, List.length_append, h c (List.mem_cons_self), flat_len (fun d hd => h d (List.mem_cons_of_mem _ hd)), List.length_cons, Nat.succ_mul, Nat.add_comm]
theorem flat_drop {n : Nat} : ∀ {css : List (List Value)} (i : Nat), (∀ c ∈ css, c.length = n) → css.flatten.drop (i * n) = (css.drop i).flatten
  | _, 0, _ => by simp
  | [], i + 1, _ => by simp
  | c :: css, i + 1, h => by
    rw [List.flatten_cons, List.drop_append, h c (List.mem_cons_self), Nat.succ_mul, Nat.add_sub_cancel, List.drop_eq_nil_of_le (by rw [h c (List.mem_cons_self)]; omega), List.nil_append, flat_drop i (fun d hd => h d (List.mem_cons_of_mem _ hd))]
    rfl
theorem flat_take {n : Nat} : ∀ {css : List (List Value)} (i : Nat), (∀ c ∈ css, c.length = n) → css.flatten.take (i * n) = (css.take i).flatten
  | _, 0, _ => by simp
  | [], i + 1, _ => by simp
  | c :: css, i + 1, h => by
    rw [List.flatten_cons, List.take_append, h c (List.mem_cons_self), Nat.succ_mul, Nat.add_sub_cancel, List.take_of_length_le (by rw [h c (List.mem_cons_self)]; omega), flat_take i (fun d hd => h d (List.mem_cons_of_mem _ hd))]
    rfl
/-- One row of a slice whose rows are known. -/
theorem flat_at {n i : Nat} {css : List (List Value)} {c : List Value} (h : ∀ c ∈ css, c.length = n) (hi : css[i]? = some c) : (css.flatten.drop (i * n)).take n = c := by
  obtain ⟨hlt, he⟩ := List.getElem?_eq_some_iff.1 hi
  rw [flat_drop i h, List.drop_eq_getElem_cons hlt, he, List.flatten_cons, List.take_append_of_le_length (by rw [h c (List.mem_of_getElem? hi)]; exact Nat.le_refl _)]
  exact List.take_of_length_le (by rw [h c (List.mem_of_getElem? hi)]; exact Nat.le_refl _)
theorem SliceV.row {F : PH} {size n i c : Nat} {a : Option Addr} {css : List (List Value)} {r : List Value} (hs : SliceV F size (.slice a n c) n css.flatten) (h : ∀ c ∈ css, c.length = size) (hi : css[i]? = some r) (hin : i < n) :
    ∃ b off, a = some ⟨b, off, none⟩ ∧ Cells F b (off + i * size) r := by
  obtain ⟨hl, a', c', hv, _, hc⟩ := hs
  cases hv
  obtain ⟨b, off, ha, hcc⟩ := hc (by omega)
  refine ⟨b, off, ha, ?_⟩
  have := slice_at hl hcc hin
  rwa [flat_at h hi] at this
theorem SliceV.pre {F : PH} {size n k c : Nat} {a : Option Addr} {css : List (List Value)} (hs : SliceV F size (.slice a n c) n css.flatten) (h : ∀ c ∈ css, c.length = size) (hk : k ≤ n) (hn : css.length = n) : SliceV F size (.slice a k c) k (css.take k).flatten := by
  obtain ⟨hl, a', c', hv, hnc, hc⟩ := hs
  cases hv
  refine ⟨?_, a, c, rfl, by omega, fun h0 => ?_⟩
  · rw [flat_len (fun d hd => h d (List.mem_of_mem_take hd)), List.length_take, hn, Nat.min_eq_left hk]
  · obtain ⟨b, off, ha, hcc⟩ := hc (by omega)
    refine ⟨b, off, ha, ?_⟩
    rw [← flat_take k h]
    have := hcc
    rw [← List.take_append_drop (k * size) css.flatten] at this
    exact this.left
theorem Sat.head {F : PH} {H : List Asrt} {A : Asrt} {w : World} (s : Sat F (A :: H) w) : Sat F [A] w := by
  obtain ⟨_, ⟨h, r, hA, hr, hhr, rfl⟩, hd, hl⟩ := s
  refine ⟨h, ⟨h, PH.emp, hA, rfl, PH.dj_emp _, (PH.un_emp _).symm⟩, hd.mono_r (PH.le_l _ _), PH.un_le ((PH.le_l _ _).trans hl) ?_⟩
  exact (PH.le_l h r).trans ((PH.le_r hd).trans hl)
theorem Sat.bare {F : PH} {H : List Asrt} {w : World} (s : Sat F H w) : Sat F [] w := ⟨PH.emp, rfl, PH.dj_emp _, by rw [PH.un_emp]; exact s.le⟩
theorem Sat.own_is {F : PH} {H Hr : List Asrt} {w : World} {v : Value} {E size n : Nat} {xs : List Value} (s : Sat F H w) (p : Pick (own v E size n xs) H Hr) : ∃ a c, v = .slice a n c ∧ n ≤ c ∧ c ≤ maxLen ∧ xs.length = n * size := by
  obtain ⟨h', ho, _, _⟩ := (s.pick p).persist
  have hl := ho.1
  obtain ⟨a, c, h1, h2, h3, _⟩ := Go.Proofs.YtjjjckmpkldgnaaGreatDoor.own_is ho
  exact ⟨a, c, h1, h2, h3, hl⟩
section
variable {C : Ctx} {k : List KItem} {l : Env} {F : PH} {H Hr : List Asrt} {v : Value} {E size n : Nat} {xs : List Value} {S : World → Prop} {ops : Array Oper} {fuel : Nat} {listed : Array Bool} {rest : List Oper}
theorem oOwn (p : Pick (own v E size n xs) H Hr) (h : ∀ a c, v = .slice a n c → n ≤ c → c ≤ maxLen → xs.length = n * size → JM C false ops rest k l F H) : JM C false ops rest k l F H := by
  by_cases hx : ∃ a c, v = .slice a n c ∧ n ≤ c ∧ c ≤ maxLen ∧ xs.length = n * size
  · obtain ⟨a, c, h1, h2, h3, h4⟩ := hx
    exact h a c h1 h2 h3 h4
  · unfold JM JO
    exact fun _ _ _ _ _ s => absurd (s.own_is p) hx
theorem aWith {A : Asrt} {q : Prop} (p : Pick A H Hr) (hq : ∀ h', A h' → q) (h : q → JA C S ops fuel listed k l F H) : JA C S ops fuel listed k l F H := by
  by_cases hx : q
  · exact h hx
  · unfold JA
    exact fun _ _ _ _ _ s => absurd (let ⟨h', ho, _⟩ := (s.pick p).persist; hq h' ho) hx
end
/-! results in memory -/
inductive ResOk (P : Program) (l : Env) (F : PH) (H : List Asrt) : List ResultVar → List Value → Prop where
  | nil : ResOk P l F H [] []
  | tmp {t : Nat} {v : Value} {rs : List ResultVar} {vs : List Value} (hv : l.get t = some v) (h : ResOk P l F H rs vs) : ResOk P l F H (.tmp t :: rs) (v :: vs)
  | agg {t : Nat} {T b off n : Nat} {cs : List Value} {rs : List ResultVar} {vs : List Value} (hv : l.get t = some (.pointer (some ⟨b, off, none⟩))) (hs : aggSize P T = some n) (hc : Rdb F H b off cs) (hn : cs.length = n) (h : ResOk P l F H rs vs) :
      ResOk P l F H (.cell t T :: rs) (.agg cs.toArray :: vs)
  | one {t : Nat} {T b off : Nat} {v : Value} {rs : List ResultVar} {vs : List Value} (hv : l.get t = some (.pointer (some ⟨b, off, none⟩))) (hs : plainB P T = true) (hc : Rdb F H b off [v]) (h : ResOk P l F H rs vs) :
      ResOk P l F H (.cell t T :: rs) (v :: vs)
def retV : List Value → Value
  | [v] => v
  | vs => .tuple vs.toArray
def resF (tmps : Array Value) : ResultVar → Sem Value
  | .tmp t => pure (tmps.getD t undef)
  | .cell a t => do loadVar t (← asAddr (tmps.getD a undef))
theorem ResOk.run {P : Program} {l : Env} {F : PH} {H : List Asrt} {N : Nat} {a : Act} {w : World} (ha : Holds N l a) (hs : Sat F H w) {rs : List ResultVar} {vs : List Value} (h : ResOk P l F H rs vs) :
    (rs.mapM (resF a.tmps)).run P w = .ok vs w := by
  induction h with
  | nil => rfl
  | @tmp t v rs vs hv _ ih =>
    have h1 : (resF a.tmps (.tmp t)).run P w = .ok v w := by
      show Sem.run P (pure (a.tmps.getD t undef)) w = _
      rw [ha.val _ _ hv]; rfl
    rw [List.mapM_cons, Sem.run_bind, h1, Result.andThen_ok, Sem.run_bind, ih]
    rfl
  | @agg t T b off n cs rs vs hv hsz hc hn _ ih =>
    have h1 : (resF a.tmps (.cell t T)).run P w = .ok (.agg cs.toArray) w := by
      show Sem.run P (do loadVar T (← asAddr (a.tmps.getD t undef))) w = _
      rw [ha.val _ _ hv]; exact run_load_agg hsz (hc w hs) hn
    rw [List.mapM_cons, Sem.run_bind, h1, Result.andThen_ok, Sem.run_bind, ih]
    rfl
  | @one t T b off v rs vs hv hsz hc _ ih =>
    have h1 : (resF a.tmps (.cell t T)).run P w = .ok v w := by
      show Sem.run P (do loadVar T (← asAddr (a.tmps.getD t undef))) w = _
      rw [ha.val _ _ hv]; exact run_load_one hsz (hc w hs)
    rw [List.mapM_cons, Sem.run_bind, h1, Result.andThen_ok, Sem.run_bind, ih]
    rfl
theorem results_run {P : Program} {l : Env} {F : PH} {H : List Asrt} {N : Nat} {a : Act} {w : World} (ha : Holds N l a) (hs : Sat F H w) {fn : Func} {rs : List ResultVar} {vs : List Value} (hres : fn.results = rs.toArray) (h : ResOk P l F H rs vs) :
    (results fn a.tmps).run P w = .ok (retV vs) w := by
  have e : results fn a.tmps = (do let vs ← fn.results.mapM (resF a.tmps); pure (if h : vs.size = 1 then vs[0] else .tuple vs)) := by
    unfold results
    congr 2
  rw [e, hres, Array.mapM_eq_mapM_toList, Sem.run_bind, Sem.run_map]
  have := h.run ha hs
  rw [List.toList_toArray, this]
  simp only [Result.andThen_ok]
  cases vs with
  | nil => rfl
  | cons v vs =>
    cases vs with
    | nil => rfl
    | cons u vs => rfl
section
variable {F F0 : PH} {H X : List Asrt} {Q : Value → PH → List Asrt → Prop} {P : Program} {fn : Func} {N : Nat} {w0 : World} {k : List KItem} {l : Env}
/-- The end, with results wherever they lie. H' is what is handed back beside X. -/
theorem J_retv {rs : List ResultVar} {vs : List Value} (hres : fn.results = rs.toArray) (h : ResOk P l F H rs vs) (H' : List Asrt) (hH : ∀ w, Sat F H w → Sat F (H' ++ X) w) (hF : F0.le F) (hQ : Q (retV vs) F H') :
    J ⟨P, fn, Post w0 F0 X Q, N, w0⟩ (.code .ret :: k) l F H :=
  J_ret0 (v := retV vs) (fun _ _ ha hs => results_run ha hs hres h) fun w hm hs => ⟨_, F, H', rfl, hF, hQ, hm, hH w hs⟩
end
end Go.Proofs.YtjjjckmpkldgnaaGreatDoor
