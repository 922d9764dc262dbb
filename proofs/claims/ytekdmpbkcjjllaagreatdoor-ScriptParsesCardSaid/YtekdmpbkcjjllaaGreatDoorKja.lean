/-
  The walk's steps once more, fewer and shorter: plain operations one behind the other by reckoning, one name for those that ask for a bound. Plain theorems over any program; no condition.
-/
import Derived.Test.YtekdmpbkcjjllaaGreatDoorKj
namespace Go.Proofs.YtekdmpbkcjjllaaGreatDoor
open Go.RowKit
/-- Control by reckoning, tests on what is known among it. -/
def kgd : Nat → Env → List KItem → List KItem
  | 0, _, k => k
  | n + 1, l, k => match k with
    | .code (.seq a b) :: k => kgd n l (.code a :: .code b :: k)
    | .code (.block id c) :: k => kgd n l (.code c :: .blk id :: k)
    | .blk _ :: k => kgd n l k
    | .code .skip :: k => kgd n l k
    | .code (.label _) :: k => kgd n l k
    | .code (.exit id) :: k => match kexit id k with
      | some k' => kgd n l k'
      | none => .code (.exit id) :: k
    | .code (.cond c x y) :: k => match opv l c with
      | some (.bool true) => kgd n l (.code x :: k)
      | some (.bool false) => kgd n l (.code y :: k)
      | _ => .code (.cond c x y) :: k
    | k => k
/-- Does control go on by itself? -/
def kmad (l : Env) : List KItem → Bool
  | .code (.cond c _ _) :: _ => match opv l c with
    | some (.bool true) => true
    | some (.bool false) => true
    | _ => false
  | k => kmay k
section
variable {C : Ctx} {k k' : List KItem} {l l' : Env} {F : PH} {H : List Asrt}
theorem J_kgd : ∀ (n : Nat) (k : List KItem), J C (kgd n l k) l F H → J C k l F H
  | 0, _, h => h
  | n + 1, k, h => by
    unfold kgd at h
    split at h
    · exact J_seq (J_kgd n _ h)
    · exact J_block (J_kgd n _ h)
    · exact J_blk (J_kgd n _ h)
    · exact J_skip (J_kgd n _ h)
    · exact J_label (J_kgd n _ h)
    · split at h
      · rename_i e; exact J_exit e (J_kgd n _ h)
      · exact h
    · split at h
      · rename_i e; exact J_cond_t e (J_kgd n _ h)
      · rename_i e; exact J_cond_f e (J_kgd n _ h)
      · exact h
    · exact h
theorem zJ {a : KItem} (hm : kmad l k = true) (e : kgd 60 l k = a :: k') (h : J C (a :: k') l F H) : J C k l F H := by
  rw [← e] at h; exact J_kgd 60 k h
/-- Nothing is left to run. -/
theorem zE (e : kgd 60 l k = []) (h : J C [] l F H) : J C k l F H := J_kgd 60 k (by rw [e]; exact h)
end
/-- Operations whose value is reckoned from what is known, with nothing asked. -/
def qe (P : Program) (l : Env) (o : Op) : Option Value := match o with
  | .call { callee := .builtin b, args := ⟨xs⟩, argTypes := ts } => biF P l b ts xs
  | .fieldAddr T x i => match opv l x with
    | some (.pointer (some ⟨b, off, none⟩)) => match fieldOff P T i with
      | some n => some (.pointer (some ⟨b, off + n, none⟩))
      | none => none
    | _ => none
  | .binOp .eql T x y _ => match opv l x, opv l y with
    | some (.bool a), some (.bool b) => match P.underlying T with
      | some .bool => some (.bool (a == b))
      | _ => none
    | some (.pointer a), some (.pointer none) => match P.underlying T with
      | some (.pointer _) => some (.bool a.isNone)
      | _ => none
    | _, _ => none
  | .binOp .neq T x y _ => match opv l x, opv l y with
    | some (.pointer a), some (.pointer none) => match P.underlying T with
      | some (.pointer _) => some (.bool a.isSome)
      | _ => none
    | _, _ => none
  | o => pv l o
section
variable {P : Program} {l : Env} {F : PH} {H : List Asrt} {d : Option Nat} {T T' U : TypeId} {pos : String} {af : Array Edge} {g : Option (Nat × Bool)} {x y : Operand}
theorem ev_qe {p : Op} {v : Value} (h : qe P l p = some v) : Ev P ⟨d, p, U, pos, af, g⟩ l F H v := by
  unfold qe at h
  split at h
  · exact eb h
  · split at h
    · rename_i hx
      split at h
      · rename_i hf; cases h; exact ev_fieldAddr hx hf
      · cases h
    · cases h
  · split at h
    · rename_i hx hy
      split at h
      · rename_i hu; cases h; exact ev_bool_eql hx hy hu
      · cases h
    · rename_i hx hy
      split at h
      · rename_i hu; cases h; exact ev_ptr_eql_nil hx hy hu
      · cases h
    · cases h
  · split at h
    · rename_i hx hy
      split at h
      · rename_i hu; cases h; exact ev_ptr_neq_nil hx hy hu
      · cases h
    · cases h
  · exact ev_pv h
end
/-- One plain operation, or one that isn't carried out. -/
def qst (P : Program) (ops : Array Oper) (l : Env) (o : Oper) : Option Env := match o with
  | ⟨some d, p, T, pos, af, g⟩ => match runs ops l ⟨some d, p, T, pos, af, g⟩ with
    | some true => match qe P l p with
      | some v => some ((d, v) :: l)
      | none => none
    | some false => some ((d, undef) :: l)
    | none => none
  | _ => none
def qsteps (P : Program) (ops : Array Oper) : List Oper → Env → Env × List Oper
  | [], l => (l, [])
  | o :: r, l => match qst P ops l o with
    | some l' => qsteps P ops r l'
    | none => (l, o :: r)
section
variable {C : Ctx} {m : Bool} {ops : Array Oper} {rest : List Oper} {k : List KItem} {l : Env} {F : PH} {H : List Asrt}
theorem JM_qst {o : Oper} {l' : Env} (e : qst C.P ops l o = some l') (h : JM C m ops rest k l' F H) : JM C m ops (o :: rest) k l F H := by
  unfold qst at e
  split at e
  · split at e
    · rename_i hr
      split at e
      · rename_i hv; cases e; exact oS (ev_qe hv) hr h
      · cases e
    · rename_i hr; cases e; exact oX hr h
    · cases e
  · cases e
theorem JM_qsteps : ∀ (rest : List Oper) (l : Env), JM C m ops (qsteps C.P ops rest l).2 k (qsteps C.P ops rest l).1 F H → JM C m ops rest k l F H
  | [], _, h => h
  | o :: r, l, h => by
    unfold qsteps at h
    split at h
    · rename_i l' e; exact JM_qst e (JM_qsteps r l' h)
    · exact h
theorem zM {o : Oper} {l1 l' : Env} {rest' : List Oper} (e1 : qst C.P ops l o = some l1) (e : qsteps C.P ops rest l1 = (l', rest')) (h : JM C m ops rest' k l' F H) : JM C m ops (o :: rest) k l F H := by
  refine JM_qst e1 (JM_qsteps rest l1 ?_)
  rw [e]; exact h
end
/-! what asks for a bound -/
@[reducible] def InR : IntKind → Int → Prop
  | .i8, n => -128 ≤ n ∧ n ≤ 127
  | .i16, n => -32768 ≤ n ∧ n ≤ 32767
  | .i32, n => -2147483648 ≤ n ∧ n ≤ 2147483647
  | .i64, n => -9223372036854775808 ≤ n ∧ n ≤ 9223372036854775807
  | .u8, n => 0 ≤ n ∧ n ≤ 255
  | .u16, n => 0 ≤ n ∧ n ≤ 65535
  | .u32, n => 0 ≤ n ∧ n ≤ 4294967295
  | .u64, n => 0 ≤ n ∧ n ≤ 18446744073709551615
theorem InR.in {k : IntKind} {n : Int} (h : InR k n) : InK k n := by cases k <;> exact h
@[reducible] def cmpR (op : BinOp) (m n : Int) : Prop := match op with
  | .lss => m < n
  | .leq => m ≤ n
  | .gtr => n < m
  | .geq => n ≤ m
  | .eql => m = n
  | .neq => m ≠ n
  | _ => False
@[reducible] def cmpS (op : BinOp) (m n : Int) : Prop := match op with
  | .lss => n ≤ m
  | .leq => n < m
  | .gtr => m ≤ n
  | .geq => m < n
  | .eql => m ≠ n
  | .neq => m = n
  | _ => False
theorem cmpR.in {op : BinOp} {m n : Int} (h : cmpR op m n) : cmpP op m n := by cases op <;> exact h
theorem cmpS.in {op : BinOp} {m n : Int} (h : cmpS op m n) : cmpN op m n := by cases op <;> exact h
/-- The value, and what is asked for it. -/
def obl (P : Program) (l : Env) (o : Op) : Option (Value × Prop) := match o with
  | .binOp .add _ x y _ => match opv l x, opv l y with
    | some (.int k m), some (.int k' n) => match decEq k' k with
      | .isTrue _ => some (.int k (m + n), InR k (m + n))
      | .isFalse _ => none
    | _, _ => none
  | .binOp .sub _ x y _ => match opv l x, opv l y with
    | some (.int k m), some (.int k' n) => match decEq k' k with
      | .isTrue _ => some (.int k (m - n), InR k (m - n))
      | .isFalse _ => none
    | _, _ => none
  | .binOp .mul _ x y _ => match opv l x, opv l y with
    | some (.int k m), some (.int k' n) => match decEq k' k with
      | .isTrue _ => some (.int k (m * n), InR k (m * n))
      | .isFalse _ => none
    | _, _ => none
  | .binOp .quo _ x y _ => match opv l x, opv l y with
    | some (.int k m), some (.int k' n) => match decEq k' k with
      | .isTrue _ => some (.int k (m / n), 0 ≤ m ∧ 1 ≤ n ∧ InR k m)
      | .isFalse _ => none
    | _, _ => none
  | .binOp .rem _ x y _ => match opv l x, opv l y with
    | some (.int k m), some (.int k' n) => match decEq k' k with
      | .isTrue _ => some (.int k (m % n), 0 ≤ m ∧ 1 ≤ n ∧ InR k m)
      | .isFalse _ => none
    | _, _ => none
  | .convert T T' x => match opv l x with
    | some (.int _ n) => match P.underlying T' with
      | some (.int k') => match P.underlying T with
        | some _ => some (.int k' n, InR k' n)
        | none => none
      | _ => none
    | _ => none
  | _ => none
theorem ev_obl {P : Program} {l : Env} {F : PH} {H : List Asrt} {d : Option Nat} {U : TypeId} {pos : String} {af : Array Edge} {g : Option (Nat × Bool)} {p : Op} {v : Value} {q : Prop} (h : obl P l p = some (v, q)) (hq : q) : Ev P ⟨d, p, U, pos, af, g⟩ l F H v := by
  unfold obl at h
  split at h
  · split at h
    · rename_i hx hy
      split at h
      · rename_i e _; cases h; subst e; exact ev_add hx hy hq.in
      · cases h
    · cases h
  · split at h
    · rename_i hx hy
      split at h
      · rename_i e _; cases h; subst e; exact ev_sub hx hy hq.in
      · cases h
    · cases h
  · split at h
    · rename_i hx hy
      split at h
      · rename_i e _; cases h; subst e; exact ev_mul hx hy hq.in
      · cases h
    · cases h
  · split at h
    · rename_i hx hy
      split at h
      · rename_i e _; cases h; subst e; exact ev_quo hx hy hq.1 hq.2.1 hq.2.2.in
      · cases h
    · cases h
  · split at h
    · rename_i hx hy
      split at h
      · rename_i e _; cases h; subst e; exact ev_rem hx hy hq.1 hq.2.1
      · cases h
    · cases h
  · split at h
    · rename_i hx
      split at h
      · rename_i hu
        split at h
        · rename_i hs; cases h; exact ev_conv hx hu (by rw [hs]; rfl) (wrap_in hq.in)
        · cases h
      · cases h
    · cases h
  · cases h
section
variable {C : Ctx} {m : Bool} {ops : Array Oper} {rest : List Oper} {k : List KItem} {l : Env} {F : PH} {H Hr : List Asrt} {d : Nat} {T U T' : TypeId} {pos : String} {af : Array Edge} {g : Option (Nat × Bool)} {p : Op} {x y : Operand}
theorem zP {v : Value} {q : Prop} (e : obl C.P l p = some (v, q)) (hq : q) (hr : runs ops l ⟨some d, p, T, pos, af, g⟩ = some true) (h : JM C m ops rest k ((d, v) :: l) F H) : JM C m ops (⟨some d, p, T, pos, af, g⟩ :: rest) k l F H := oS (ev_obl e hq) hr h
theorem zC {op : BinOp} {ik : IntKind} {a b : Int} (hx : opv l x = some (.int ik a)) (hy : opv l y = some (.int ik b)) (hc : cmpR op a b) (hr : runs ops l ⟨some d, .binOp op T x y T', U, pos, af, g⟩ = some true) (h : JM C m ops rest k ((d, .bool true) :: l) F H) : JM C m ops (⟨some d, .binOp op T x y T', U, pos, af, g⟩ :: rest) k l F H := oS (ev_cmp_t hx hy hc.in) hr h
theorem zD {op : BinOp} {ik : IntKind} {a b : Int} (hx : opv l x = some (.int ik a)) (hy : opv l y = some (.int ik b)) (hc : cmpS op a b) (hr : runs ops l ⟨some d, .binOp op T x y T', U, pos, af, g⟩ = some true) (h : JM C m ops rest k ((d, .bool false) :: l) F H) : JM C m ops (⟨some d, .binOp op T x y T', U, pos, af, g⟩ :: rest) k l F H := oS (ev_cmp_f hx hy hc.in) hr h
theorem zG {op : BinOp} {ik : IntKind} {a b : Int} {r : Bool} (hx : opv l x = some (.int ik a)) (hy : opv l y = some (.int ik b)) (hf : cmpB op a b = some r) (hr : runs ops l ⟨some d, .binOp op T x y T', U, pos, af, g⟩ = some true) (h : JM C m ops rest k ((d, .bool r) :: l) F H) : JM C m ops (⟨some d, .binOp op T x y T', U, pos, af, g⟩ :: rest) k l F H := oS (eg hx hy hf) hr h
theorem zB {ps : List (Nat × Operand)} {vs : List (Nat × Value)} {pl : List (Nat × Nat)} {zs t : List Value} (hp : partvs l ps = some vs) (hz : zeroCs C.P T = some zs) (hpl : placesOf C.P T = some pl) (hf : FillF pl vs zs t) (hr : runs ops l ⟨some d, .build T ps.toArray, U, pos, af, g⟩ = some true) (h : JM C m ops rest k ((d, .agg t.toArray) :: l) F H) :
    JM C m ops (⟨some d, .build T ps.toArray, U, pos, af, g⟩ :: rest) k l F H := oS (ev_build hp hz hpl hf) hr h
/-- A variable of one cell, in a block of the call's own. -/
theorem zH {b off : Nat} {E : TypeId} {r : List Value} {v : Value} (pk : Pick (blk b E r) H Hr) (hx : opv l x = some (.pointer (some ⟨b, off, none⟩))) (hp : plainB C.P T = true) (hv : (r.drop off).take 1 = [v]) (hr : runs ops l ⟨some d, .load T x, U, pos, af, g⟩ = some true) (h : JM C m ops rest k ((d, v) :: l) F H) :
    JM C m ops (⟨some d, .load T x, U, pos, af, g⟩ :: rest) k l F H := oS (ev_load hx hp (Rdb.ofB (n := 0) pk (by simpa using hv))) hr h
end
structure Bx (q : Prop) : Prop where
  out : q
theorem zQ {p q : Prop} (h : q) (k : Bx q → p := by intro h; (repeat (first|refine zJ rfl rfl ?_|refine jr rfl ?_|refine jn ?_|refine zM rfl rfl ?_|(refine zC rfl rfl ?_ rfl ?_;omega)|(refine zD rfl rfl ?_ rfl ?_;omega)|(refine zP rfl ?_ rfl ?_;omega)|refine zG rfl rfl rfl rfl ?_|(refine jdq rfl rfl ?_ ?_ ?_;kernel_rfl;kernel_rfl)|refine zB rfl rfl rfl (by repeat constructor) rfl ?_|refine zH .here rfl rfl rfl rfl ?_|refine zH (.there .here) rfl rfl rfl rfl ?_|refine zH (.there (.there .here)) rfl rfl rfl rfl ?_|refine zH (.there (.there (.there .here))) rfl rfl rfl rfl ?_|refine zH (.there (.there (.there (.there .here)))) rfl rfl rfl rfl ?_)); exact h.out) : p := k ⟨h⟩
end Go.Proofs.YtekdmpbkcjjllaaGreatDoor
