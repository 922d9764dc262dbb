/-
  The walk's own steps, few and short: control by reckoning, several plain operations at once, one name a rule for both kinds of regions. Plain theorems over any program; no condition.
-/
import Derived.Test.YtekdmpbkcjjllaaDoorKg
namespace Go.Proofs.YtekdmpbkcjjllaaDoor
open Go.RowKit

def kgo : Nat → Env → List KItem → List KItem
  | 0, _, k => k
  | n + 1, l, k => match k with
    | .code (.seq a b) :: k => kgo n l (.code a :: .code b :: k)
    | .code (.block id c) :: k => kgo n l (.code c :: .blk id :: k)
    | .blk _ :: k => kgo n l k
    | .code .skip :: k => kgo n l k
    | .code (.label _) :: k => kgo n l k
    | .code (.exit id) :: k => match kexit id k with
      | some k' => kgo n l k'
      | none => .code (.exit id) :: k
    | k => k
/-- Does control go on by itself? -/
def kmay : List KItem → Bool
  | .code (.seq _ _) :: _ => true
  | .code (.block _ _) :: _ => true
  | .blk _ :: _ => true
  | .code .skip :: _ => true
  | .code (.label _) :: _ => true
  | .code (.exit _) :: _ => true
  | _ => false
section
variable {C : Ctx} {k k' : List KItem} {l l' : Env} {F : PH} {H : List Asrt}
theorem J_kgo : ∀ (n : Nat) (k : List KItem), J C (kgo n l k) l F H → J C k l F H
  | 0, _, h => h
  | n + 1, k, h => by
    unfold kgo at h
    split at h
    · exact J_seq (J_kgo n _ h)
    · exact J_block (J_kgo n _ h)
    · exact J_blk (J_kgo n _ h)
    · exact J_skip (J_kgo n _ h)
    · exact J_label (J_kgo n _ h)
    · split at h
      · rename_i e; exact J_exit e (J_kgo n _ h)
      · exact h
    · exact h
theorem jc {a : KItem} (hm : kmay k = true) (e : kgo 60 l k = a :: k') (h : J C (a :: k') l F H) : J C k l F H := by
  rw [← e] at h; exact J_kgo 60 k h
def JM (C : Ctx) (m : Bool) (ops : Array Oper) (rest : List Oper) (k : List KItem) (l : Env) (F : PH) (H : List Asrt) : Prop :=
  match m with
  | true => JQ C ops rest k l F H
  | false => JO C ops rest k l F H
theorem jr {id : Nat} {ops : List Oper} (hd : ops.all (fun o => o.dst.all (· < C.N)) = true) (h : JM C false ops.toArray ops k l F H) : J C (.code (.region id ops.toArray false) :: k) l F H := J_region hd h
theorem jd {id : Nat} {ops : List Oper} (hd : ops.all (fun o => o.dst.all (· < C.N)) = true) (hm : C.P.follows .mixedOrders = true) (hB : Region.lexB .any ops.toArray = true) (h : JM C true ops.toArray ops k l F H) : J C (.code (.region id ops.toArray true) :: k) l F H := J_draw hd hm hB h
/-- No call, no memory made or written. -/
def quietOp : Op → Bool
  | .move _ => true
  | .assign _ => true
  | .pick _ _ _ => true
  | .extract _ _ => true
  | .nilCheck _ => true
  | .binOp _ _ _ _ _ => true
  | .unOp _ _ _ => true
  | .fieldAddr _ _ _ => true
  | .field _ _ _ => true
  | .indexAddr _ _ _ => true
  | .index _ _ _ => true
  | .load _ _ => true
  | .slice _ _ _ _ _ => true
  | .convert _ _ _ => true
  | .build _ _ => true
  | .call { callee := .builtin .len, .. } => true
  | .call { callee := .builtin .cap, .. } => true
  | .call { callee := .builtin .min, .. } => true
  | .call { callee := .builtin .max, .. } => true
  | _ => false
theorem jdq {id : Nat} {ops : List Oper} (hd : ops.all (fun o => o.dst.all (· < C.N)) = true) (_hq : ops.all (fun o => o.dst.isSome && quietOp o.op) = true) (hm : C.P.follows .mixedOrders = true) (hB : Region.lexB .any ops.toArray = true) (h : JM C true ops.toArray ops k l F H) : J C (.code (.region id ops.toArray true) :: k) l F H := J_draw hd hm hB h
theorem jn {m : Bool} {ops : Array Oper} (h : J C k l F H) : JM C m ops [] k l F H := by
  cases m
  · exact JO_nil h
  · exact JQ_nil h
end
section
variable {C : Ctx} {m : Bool} {ops : Array Oper} {rest : List Oper} {k : List KItem} {l : Env} {F : PH} {H : List Asrt} {d : Nat} {T : TypeId} {pos : String} {af : Array Edge} {g : Option (Nat × Bool)} {f : FuncId} {args : List Operand} {tys : Array TypeId} {vs : List Value} {p : Op}
theorem oS {v : Value} (he : Ev C.P ⟨some d, p, T, pos, af, g⟩ l F H v) (hr : runs ops l ⟨some d, p, T, pos, af, g⟩ = some true) (h : JM C m ops rest k ((d, v) :: l) F H) : JM C m ops (⟨some d, p, T, pos, af, g⟩ :: rest) k l F H := by
  cases m
  · exact JO_s he hr h
  · exact JQ_s he hr h
theorem oX (hr : runs ops l ⟨some d, p, T, pos, af, g⟩ = some false) (h : JM C m ops rest k ((d, undef) :: l) F H) : JM C m ops (⟨some d, p, T, pos, af, g⟩ :: rest) k l F H := by
  cases m
  · exact JO_sk hr h
  · exact JQ_sk hr h
theorem oP {v : Value} (sp : Pure C.P f vs F v) (hc : ∀ args w, (callFunc f args).run C.P w = .ok (.enter f args) w) (hv : opvs l args = some vs)
    (hr : runs ops l ⟨some d, .call { callee := .value (.func f), args := args.toArray, argTypes := tys }, T, pos, af, g⟩ = some true)
    (h : JM C m ops rest k ((d, v) :: l) F H) : JM C m ops (⟨some d, .call { callee := .value (.func f), args := args.toArray, argTypes := tys }, T, pos, af, g⟩ :: rest) k l F H := by
  cases m
  · exact JO_p sp hc hv hr h
  · exact JQ_p sp hc hv hr h
theorem oC {Hc Hr : List Asrt} {Q : Value → PH → List Asrt → Prop} (sp : Spec C.P f vs F Hc Q) (hc : ∀ args w, (callFunc f args).run C.P w = .ok (.enter f args) w) (hv : opvs l args = some vs)
    (hr : runs ops l ⟨some d, .call { callee := .value (.func f), args := args.toArray, argTypes := tys }, T, pos, af, g⟩ = some true) (hp : ∀ w, Sat F H w → Sat F (Hc ++ Hr) w)
    (h : ∀ v F' H', F.le F' → Q v F' H' → JM C false ops rest k ((d, v) :: l) F' (H' ++ Hr)) :
    JM C false ops (⟨some d, .call { callee := .value (.func f), args := args.toArray, argTypes := tys }, T, pos, af, g⟩ :: rest) k l F H := JO_c sp hc hv hr hp h
theorem oR {Q : Value → PH → Prop} (sp : Spec C.P f vs F [] fun v F' H' => H' = [] ∧ Q v F') (hc : ∀ args w, (callFunc f args).run C.P w = .ok (.enter f args) w) (hv : opvs l args = some vs)
    (hr : runs ops l ⟨some d, .call { callee := .value (.func f), args := args.toArray, argTypes := tys }, T, pos, af, g⟩ = some true)
    (h : ∀ v F', F.le F' → Q v F' → JM C false ops rest k ((d, v) :: l) F' H) :
    JM C false ops (⟨some d, .call { callee := .value (.func f), args := args.toArray, argTypes := tys }, T, pos, af, g⟩ :: rest) k l F H := JO_r sp hc hv hr h
theorem oE {Q : Value → PH → List Asrt → Prop} (he : Ev' C.P ⟨some d, p, T, pos, af, g⟩ l F H Q) (hr : runs ops l ⟨some d, p, T, pos, af, g⟩ = some true)
    (h : ∀ v F' H', F.le F' → Q v F' H' → JM C false ops rest k ((d, v) :: l) F' H') : JM C false ops (⟨some d, p, T, pos, af, g⟩ :: rest) k l F H := JO_e he hr h
theorem oN {Q : Value → PH → List Asrt → Prop} (he : Ev' C.P ⟨none, p, T, pos, af, g⟩ l F H Q) (hr : runs ops l ⟨none, p, T, pos, af, g⟩ = some true)
    (h : ∀ v F' H', F.le F' → Q v F' H' → JM C false ops rest k l F' H') : JM C false ops (⟨none, p, T, pos, af, g⟩ :: rest) k l F H := JO_en he hr h
theorem oXn (hr : runs ops l ⟨none, p, T, pos, af, g⟩ = some false) (h : JM C false ops rest k l F H) : JM C false ops (⟨none, p, T, pos, af, g⟩ :: rest) k l F H := JO_skn hr h
theorem oW {F' : PH} {H' : List Asrt} (h : JM C false ops rest k l F' H') (s : ∀ w, Sat F H w → Sat F' H' w) : JM C false ops rest k l F H := JO_weak h s
theorem oPick {A : Asrt} {K : List Asrt} (p : Pick A H K) (h : JM C false ops rest k l F (A :: K)) : JM C false ops rest k l F H := JO_pick p h
theorem oPersist {A : Asrt} (h : ∀ h', A h' → F.dj h' → JM C false ops rest k l (F.un h') H) : JM C false ops rest k l F (A :: H) := JO_persist h
theorem oKeep (l' : Env) (h : JM C false ops rest k l' F H) (s : l'.sub l) : JM C false ops rest k l F H := JO_keep l' h s
theorem oDrop {A : Asrt} (h : JM C false ops rest k l F H) : JM C false ops rest k l F (A :: H) := JO_weak h fun _ s => s.drop
theorem oA {E size bytes : Nat} {z : Value} {d1 d2 : Nat} {U1 U2 : TypeId} {pos1 pos2 : String} {af1 af2 : Array Edge} {g1 g2 : Option (Nat × Bool)} {x y : Operand} {v yv : Value} {n : Nat} {xs vs : List Value} {K : Value → List Asrt}
    (hx : ∀ w, opv ((d1, w) :: l) x = some v) (hy : opv l y = some yv) (hv : VC yv vs) (hl : vs.length = size) (he : Elem C.P T E size bytes z) (h1 : Ones vs) (hb : (n + 1) * bytes ≤ 140737488355328)
    (hu : ∀ v', Upd (own v E size n xs) (own v' E size (n + 1) (xs ++ vs)) H (K v'))
    (hr1 : runs ops l ⟨some d1, .buildSlice T 1 #[(0, y)], U1, pos1, af1, g1⟩ = some true)
    (hr2 : ∀ w, runs ops ((d1, w) :: l) ⟨some d2, .call { callee := .builtin .append, args := #[x, .tmp d1], argTypes := #[T, T] }, U2, pos2, af2, g2⟩ = some true)
    (h : ∀ u w, JM C false ops rest k ((d2, u) :: (d1, w) :: l) F (K u)) :
    JM C false ops (⟨some d1, .buildSlice T 1 #[(0, y)], U1, pos1, af1, g1⟩ :: ⟨some d2, .call { callee := .builtin .append, args := #[x, .tmp d1], argTypes := #[T, T] }, U2, pos2, af2, g2⟩ :: rest) k l F H :=
  JO_append1 hx hy hv hl he h1 hb hu hr1 hr2 h
/-- Plain operations, one behind the other, as far as they go. -/
def pst (l : Env) (o : Oper) : Option Env := match o with
  | ⟨some d, .move x, _, _, _, none⟩ => match opv l x with | some v => some ((d, v) :: l) | none => none
  | ⟨some d, .assign x, _, _, _, none⟩ => match opv l x with | some v => some ((d, v) :: l) | none => none
  | ⟨some d, .extract t i, _, _, _, none⟩ => match pv l (.extract t i) with | some v => some ((d, v) :: l) | none => none
  | ⟨some d, .nilCheck x, _, _, _, none⟩ => match pv l (.nilCheck x) with | some v => some ((d, v) :: l) | none => none
  | _ => none
def psteps : List Oper → Env → Env × List Oper
  | [], l => (l, [])
  | o :: r, l => match pst l o with
    | some l' => psteps r l'
    | none => (l, o :: r)
theorem JM_pst {o : Oper} {l' : Env} (e : pst l o = some l') (h : JM C m ops rest k l' F H) : JM C m ops (o :: rest) k l F H := by
  unfold pst at e
  split at e
  · split at e
    · rename_i hv; cases e; exact oS (ev_pv hv) rfl h
    · cases e
  · split at e
    · rename_i hv; cases e; exact oS (ev_pv hv) rfl h
    · cases e
  · split at e
    · rename_i hv; cases e; exact oS (ev_pv hv) rfl h
    · cases e
  · split at e
    · rename_i hv; cases e; exact oS (ev_pv hv) rfl h
    · cases e
  · cases e
theorem JM_psteps : ∀ (rest : List Oper) (l : Env), JM C m ops (psteps rest l).2 k (psteps rest l).1 F H → JM C m ops rest k l F H
  | [], _, h => h
  | o :: r, l, h => by
    unfold psteps at h
    split at h
    · rename_i l' e; exact JM_pst e (JM_psteps r l' h)
    · exact h
theorem oM {o : Oper} {l1 l' : Env} {rest' : List Oper} (e1 : pst l o = some l1) (e : psteps rest l1 = (l', rest')) (h : JM C m ops rest' k l' F H) : JM C m ops (o :: rest) k l F H := by
  refine JM_pst e1 (JM_psteps rest l1 ?_)
  rw [e]; exact h
end
/-! one name for several operations -/
def arF (op : BinOp) (m n : Int) : Option Int := match op with
  | .add => some (m + n)
  | .sub => some (m - n)
  | .mul => some (m * n)
  | _ => none
def cmpB (op : BinOp) (m n : Int) : Option Bool := match op with
  | .lss => some (decide (m < n))
  | .leq => some (decide (m ≤ n))
  | .gtr => some (decide (n < m))
  | .geq => some (decide (n ≤ m))
  | .eql => some (decide (m = n))
  | .neq => some (!decide (m = n))
  | _ => none
section
variable {P : Program} {l : Env} {F : PH} {H : List Asrt} {d : Option Nat} {T T' U : TypeId} {pos : String} {af : Array Edge} {g : Option (Nat × Bool)} {x y : Operand}
theorem ea {op : BinOp} {k : IntKind} {m n r : Int} (hx : opv l x = some (.int k m)) (hy : opv l y = some (.int k n)) (hf : arF op m n = some r) (hr : InK k r) : Ev P ⟨d, .binOp op T x y T', U, pos, af, g⟩ l F H (.int k r) := by
  unfold arF at hf
  split at hf
  · cases hf; exact ev_add hx hy hr
  · cases hf; exact ev_sub hx hy hr
  · cases hf; exact ev_mul hx hy hr
  · cases hf
theorem eg {op : BinOp} {k : IntKind} {m n : Int} {b : Bool} (hx : opv l x = some (.int k m)) (hy : opv l y = some (.int k n)) (hf : cmpB op m n = some b) : Ev P ⟨d, .binOp op T x y T', U, pos, af, g⟩ l F H (.bool b) := by
  unfold cmpB at hf
  split at hf
  · cases hf; exact ev_lss hx hy
  · cases hf; exact ev_leq hx hy
  · cases hf; exact ev_gtr hx hy
  · cases hf; exact ev_geq hx hy
  · cases hf; exact ev_eql hx hy
  · cases hf; exact ev_neq hx hy
  · cases hf
def dvF (op : BinOp) (m n : Int) : Option Int := match op with
  | .quo => some (m / n)
  | .rem => some (m % n)
  | _ => none
theorem ed {op : BinOp} {k : IntKind} {m n r : Int} (hx : opv l x = some (.int k m)) (hy : opv l y = some (.int k n)) (hf : dvF op m n = some r) (h0 : 0 ≤ m) (h1 : 1 ≤ n) (hm : InK k m) : Ev P ⟨d, .binOp op T x y T', U, pos, af, g⟩ l F H (.int k r) := by
  unfold dvF at hf
  split at hf
  · cases hf; exact ev_quo hx hy h0 h1 hm
  · cases hf; exact ev_rem hx hy h0 h1
  · cases hf
/-- len, cap, min, max. -/
def biF (P : Program) (l : Env) : Builtin → Array TypeId → List Operand → Option Value
  | .len, ⟨[t]⟩, [x] => match P.underlying t, opv l x with
    | some (.slice _), some (.slice _ n _) => some (.int .i64 n)
    | some .string, some (.string s) => some (.int .i64 s.size)
    | _, _ => none
  | .cap, ⟨[t]⟩, [x] => match P.underlying t, opv l x with
    | some (.slice _), some (.slice _ _ c) => some (.int .i64 c)
    | _, _ => none
  | .min, _, [x, y] => match opv l x, opv l y with
    | some (.int k m), some (.int k' n) => match decEq k' k with
      | .isTrue _ => some (.int k (min m n))
      | .isFalse _ => none
    | _, _ => none
  | .max, _, [x, y] => match opv l x, opv l y with
    | some (.int k m), some (.int k' n) => match decEq k' k with
      | .isTrue _ => some (.int k (max m n))
      | .isFalse _ => none
    | _, _ => none
  | _, _, _ => none
theorem eb {b : Builtin} {ts : Array TypeId} {xs : List Operand} {v : Value} (h : biF P l b ts xs = some v) : Ev P ⟨d, .call { callee := .builtin b, args := xs.toArray, argTypes := ts }, U, pos, af, g⟩ l F H v := by
  unfold biF at h
  split at h
  · split at h
    · rename_i hu hx; cases h; exact ev_len_slice hx hu
    · rename_i hu hx; cases h; exact ev_len_string hx hu
    · cases h
  · split at h
    · rename_i hu hx; cases h; exact ev_cap_slice hx hu
    · cases h
  · split at h
    · rename_i hx hy
      split at h
      · rename_i e _; cases h; subst e; exact ev_min hx hy
      · cases h
    · cases h
  · split at h
    · rename_i hx hy
      split at h
      · rename_i e _; cases h; subst e; exact ev_max hx hy
      · cases h
    · cases h
  · cases h
end
attribute [irreducible] JM
end Go.Proofs.YtekdmpbkcjjllaaDoor
