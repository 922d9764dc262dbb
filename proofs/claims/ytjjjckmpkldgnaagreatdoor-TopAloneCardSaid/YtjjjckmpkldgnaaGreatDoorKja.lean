/-
  The walk's steps once more, fewer and shorter: plain operations one behind the other by reckoning, one name for those that ask for a bound. Plain theorems over any program; no condition.
  Rules of operations, fourth part: a row shifted within itself, cleared behind its end; appends of whole slices; texts and bytes; make. Plain theorems over any program; no condition.
  Rules of operations, fifth part: what may be read of a slice, whoever owns it; appends of whole slices, onto new memory; texts and bytes; arrays; make. Plain theorems over any program; no condition.
  Rules of operations, sixth part: arrays; cells written in a row of the call's own; make; conversions between texts and bytes that make memory. Plain theorems over any program; no condition.
  Where ways of a walk meet again; signed shifts to the right. Plain theorems over any program; no condition.
-/
import Derived.Test.YtjjjckmpkldgnaaGreatDoorKg
import Derived.Laws.BytesString
import Derived.Deep.AppendSrc
import Derived.Laws.BytesArg
import Derived.Laws.MakeOwn
import Derived.Lib.ConvBytes
namespace Go.Proofs.YtjjjckmpkldgnaaGreatDoor
open Go.RowKit
/-- Control by reckoning, tests on what is known among it. -/
def kgd : Nat → Env → List KItem → List KItem
  | 0, _, k => k
  | n + 1, l, k => match k with
    | .code (.seq a b) :: k => kgd n l (.code a :: .code b :: k)
    | .code (.block id c) :: k => kgd n l (.code c :: .blk id :: k)
    | .blk _ :: k => kgd n l k
    | .code .skip :: k => kgd n l k
    | .code (.label _) :: k => kgd n l k
    | .code (.exit id) :: k => match kexit id k with
      | some k' => kgd n l k'
      | none => .code (.exit id) :: k
    | .code (.cond c x y) :: k => match opv l c with
      | some (.bool true) => kgd n l (.code x :: k)
      | some (.bool false) => kgd n l (.code y :: k)
      | _ => .code (.cond c x y) :: k
    | k => k
/-- Does control go on by itself? -/
def kmad (l : Env) : List KItem → Bool
  | .code (.cond c _ _) :: _ => match opv l c with
    | some (.bool true) => true
    | some (.bool false) => true
    | _ => false
  | k => kmay k
section
variable {C : Ctx} {k k' : List KItem} {l l' : Env} {F : PH} {H : List Asrt}
theorem J_kgd : ∀ (n : Nat) (k : List KItem), J C (kgd n l k) l F H → J C k l F H
  | 0, _, h => h
  | n + 1, k, h => by
    unfold kgd at h
    split at h
    · exact J_seq (J_kgd n _ h)
    · exact J_block (J_kgd n _ h)
    · exact J_blk (J_kgd n _ h)
    · exact J_skip (J_kgd n _ h)
    · exact J_label (J_kgd n _ h)
    · split at h
      · rename_i e; exact J_exit e (J_kgd n _ h)
      · exact h
    · split at h
      · rename_i e; exact J_cond_t e (J_kgd n _ h)
      · rename_i e; exact J_cond_f e (J_kgd n _ h)
      · exact h
    · exact h
theorem zJ {a : KItem} (hm : kmad l k = true) (e : kgd 60 l k = a :: k') (h : J C (a :: k') l F H) : J C k l F H := by
  rw [← e] at h; exact J_kgd 60 k h
/-- Nothing is left to run. -/
theorem zE (e : kgd 60 l k = []) (h : J C [] l F H) : J C k l F H := J_kgd 60 k (by rw [e]; exact h)
end
/-- Operations whose value is reckoned from what is known, with nothing asked. -/
def qe (P : Program) (l : Env) (o : Op) : Option Value := match o with
  | .call { callee := .builtin b, args := ⟨xs⟩, argTypes := ts } => biF P l b ts xs
  | .fieldAddr T x i => match opv l x with
    | some (.pointer (some ⟨b, off, none⟩)) => match fieldOff P T i with
      | some n => some (.pointer (some ⟨b, off + n, none⟩))
      | none => none
    | _ => none
  | .binOp .eql T x y _ => match opv l x, opv l y with
    | some (.bool a), some (.bool b) => match P.underlying T with
      | some .bool => some (.bool (a == b))
      | _ => none
    | some (.pointer a), some (.pointer none) => match P.underlying T with
      | some (.pointer _) => some (.bool a.isNone)
      | _ => none
    | _, _ => none
  | .binOp .neq T x y _ => match opv l x, opv l y with
    | some (.pointer a), some (.pointer none) => match P.underlying T with
      | some (.pointer _) => some (.bool a.isSome)
      | _ => none
    | _, _ => none
  | o => pv l o
section
variable {P : Program} {l : Env} {F : PH} {H : List Asrt} {d : Option Nat} {T T' U : TypeId} {pos : String} {af : Array Edge} {g : Option (Nat × Bool)} {x y : Operand}
theorem ev_qe {p : Op} {v : Value} (h : qe P l p = some v) : Ev P ⟨d, p, U, pos, af, g⟩ l F H v := by
  unfold qe at h
  split at h
  · exact eb h
  · split at h
    · rename_i hx
      split at h
      · rename_i hf; cases h; exact ev_fieldAddr hx hf
      · cases h
    · cases h
  · split at h
    · rename_i hx hy
      split at h
      · rename_i hu; cases h; exact ev_bool_eql hx hy hu
      · cases h
    · rename_i hx hy
      split at h
      · rename_i hu; cases h; exact ev_ptr_eql_nil hx hy hu
      · cases h
    · cases h
  · split at h
    · rename_i hx hy
      split at h
      · rename_i hu; cases h; exact ev_ptr_neq_nil hx hy hu
      · cases h
    · cases h
  · exact ev_pv h
end
/-- One plain operation, or one that isn't carried out. -/
def qst (P : Program) (ops : Array Oper) (l : Env) (o : Oper) : Option Env := match o with
  | ⟨some d, p, T, pos, af, g⟩ => match runs ops l ⟨some d, p, T, pos, af, g⟩ with
    | some true => match qe P l p with
      | some v => some ((d, v) :: l)
      | none => none
    | some false => some ((d, undef) :: l)
    | none => none
  | _ => none
def qsteps (P : Program) (ops : Array Oper) : List Oper → Env → Env × List Oper
  | [], l => (l, [])
  | o :: r, l => match qst P ops l o with
    | some l' => qsteps P ops r l'
    | none => (l, o :: r)
section
variable {C : Ctx} {m : Bool} {ops : Array Oper} {rest : List Oper} {k : List KItem} {l : Env} {F : PH} {H : List Asrt}
theorem JM_qst {o : Oper} {l' : Env} (e : qst C.P ops l o = some l') (h : JM C m ops rest k l' F H) : JM C m ops (o :: rest) k l F H := by
  unfold qst at e
  split at e
  · split at e
    · rename_i hr
      split at e
      · rename_i hv; cases e; exact oS (ev_qe hv) hr h
      · cases e
    · rename_i hr; cases e; exact oX hr h
    · cases e
  · cases e
theorem JM_qsteps : ∀ (rest : List Oper) (l : Env), JM C m ops (qsteps C.P ops rest l).2 k (qsteps C.P ops rest l).1 F H → JM C m ops rest k l F H
  | [], _, h => h
  | o :: r, l, h => by
    unfold qsteps at h
    split at h
    · rename_i l' e; exact JM_qst e (JM_qsteps r l' h)
    · exact h
theorem zM {o : Oper} {l1 l' : Env} {rest' : List Oper} (e1 : qst C.P ops l o = some l1) (e : qsteps C.P ops rest l1 = (l', rest')) (h : JM C m ops rest' k l' F H) : JM C m ops (o :: rest) k l F H := by
  refine JM_qst e1 (JM_qsteps rest l1 ?_)
  rw [e]; exact h
end
/-! what asks for a bound -/
@[reducible] def InR : IntKind → Int → Prop
  | .i8, n => -128 ≤ n ∧ n ≤ 127
  | .i16, n => -32768 ≤ n ∧ n ≤ 32767
  | .i32, n => -2147483648 ≤ n ∧ n ≤ 2147483647
  | .i64, n => -9223372036854775808 ≤ n ∧ n ≤ 9223372036854775807
  | .u8, n => 0 ≤ n ∧ n ≤ 255
  | .u16, n => 0 ≤ n ∧ n ≤ 65535
  | .u32, n => 0 ≤ n ∧ n ≤ 4294967295
  | .u64, n => 0 ≤ n ∧ n ≤ 18446744073709551615
theorem InR.in {k : IntKind} {n : Int} (h : InR k n) : InK k n := by cases k <;> exact h
@[reducible] def cmpR (op : BinOp) (m n : Int) : Prop := match op with
  | .lss => m < n
  | .leq => m ≤ n
  | .gtr => n < m
  | .geq => n ≤ m
  | .eql => m = n
  | .neq => m ≠ n
  | _ => False
@[reducible] def cmpS (op : BinOp) (m n : Int) : Prop := match op with
  | .lss => n ≤ m
  | .leq => n < m
  | .gtr => m ≤ n
  | .geq => m < n
  | .eql => m ≠ n
  | .neq => m = n
  | _ => False
theorem cmpR.in {op : BinOp} {m n : Int} (h : cmpR op m n) : cmpP op m n := by cases op <;> exact h
theorem cmpS.in {op : BinOp} {m n : Int} (h : cmpS op m n) : cmpN op m n := by cases op <;> exact h
/-- The value, and what is asked for it. -/
def obl (P : Program) (l : Env) (o : Op) : Option (Value × Prop) := match o with
  | .binOp .add _ x y _ => match opv l x, opv l y with
    | some (.int k m), some (.int k' n) => match decEq k' k with
      | .isTrue _ => some (.int k (m + n), InR k (m + n))
      | .isFalse _ => none
    | _, _ => none
  | .binOp .sub _ x y _ => match opv l x, opv l y with
    | some (.int k m), some (.int k' n) => match decEq k' k with
      | .isTrue _ => some (.int k (m - n), InR k (m - n))
      | .isFalse _ => none
    | _, _ => none
  | .binOp .mul _ x y _ => match opv l x, opv l y with
    | some (.int k m), some (.int k' n) => match decEq k' k with
      | .isTrue _ => some (.int k (m * n), InR k (m * n))
      | .isFalse _ => none
    | _, _ => none
  | .binOp .quo _ x y _ => match opv l x, opv l y with
    | some (.int k m), some (.int k' n) => match decEq k' k with
      | .isTrue _ => some (.int k (m / n), 0 ≤ m ∧ 1 ≤ n ∧ InR k m)
      | .isFalse _ => none
    | _, _ => none
  | .binOp .rem _ x y _ => match opv l x, opv l y with
    | some (.int k m), some (.int k' n) => match decEq k' k with
      | .isTrue _ => some (.int k (m % n), 0 ≤ m ∧ 1 ≤ n ∧ InR k m)
      | .isFalse _ => none
    | _, _ => none
  | .convert T T' x => match opv l x with
    | some (.int _ n) => match P.underlying T' with
      | some (.int k') => match P.underlying T with
        | some _ => some (.int k' n, InR k' n)
        | none => none
      | _ => none
    | _ => none
  | _ => none
theorem ev_obl {P : Program} {l : Env} {F : PH} {H : List Asrt} {d : Option Nat} {U : TypeId} {pos : String} {af : Array Edge} {g : Option (Nat × Bool)} {p : Op} {v : Value} {q : Prop} (h : obl P l p = some (v, q)) (hq : q) : Ev P ⟨d, p, U, pos, af, g⟩ l F H v := by
  unfold obl at h
  split at h
  · split at h
    · rename_i hx hy
      split at h
      · rename_i e _; cases h; subst e; exact ev_add hx hy hq.in
      · cases h
    · cases h
  · split at h
    · rename_i hx hy
      split at h
      · rename_i e _; cases h; subst e; exact ev_sub hx hy hq.in
      · cases h
    · cases h
  · split at h
    · rename_i hx hy
      split at h
      · rename_i e _; cases h; subst e; exact ev_mul hx hy hq.in
      · cases h
    · cases h
  · split at h
    · rename_i hx hy
      split at h
      · rename_i e _; cases h; subst e; exact ev_quo hx hy hq.1 hq.2.1 hq.2.2.in
      · cases h
    · cases h
  · split at h
    · rename_i hx hy
      split at h
      · rename_i e _; cases h; subst e; exact ev_rem hx hy hq.1 hq.2.1
      · cases h
    · cases h
  · split at h
    · rename_i hx
      split at h
      · rename_i hu
        split at h
        · rename_i hs; cases h; exact ev_conv hx hu (by rw [hs]; rfl) (wrap_in hq.in)
        · cases h
      · cases h
    · cases h
  · cases h
section
variable {C : Ctx} {m : Bool} {ops : Array Oper} {rest : List Oper} {k : List KItem} {l : Env} {F : PH} {H Hr : List Asrt} {d : Nat} {T U T' : TypeId} {pos : String} {af : Array Edge} {g : Option (Nat × Bool)} {p : Op} {x y : Operand}
theorem zP {v : Value} {q : Prop} (e : obl C.P l p = some (v, q)) (hq : q) (hr : runs ops l ⟨some d, p, T, pos, af, g⟩ = some true) (h : JM C m ops rest k ((d, v) :: l) F H) : JM C m ops (⟨some d, p, T, pos, af, g⟩ :: rest) k l F H := oS (ev_obl e hq) hr h
theorem zC {op : BinOp} {ik : IntKind} {a b : Int} (hx : opv l x = some (.int ik a)) (hy : opv l y = some (.int ik b)) (hc : cmpR op a b) (hr : runs ops l ⟨some d, .binOp op T x y T', U, pos, af, g⟩ = some true) (h : JM C m ops rest k ((d, .bool true) :: l) F H) : JM C m ops (⟨some d, .binOp op T x y T', U, pos, af, g⟩ :: rest) k l F H := oS (ev_cmp_t hx hy hc.in) hr h
theorem zD {op : BinOp} {ik : IntKind} {a b : Int} (hx : opv l x = some (.int ik a)) (hy : opv l y = some (.int ik b)) (hc : cmpS op a b) (hr : runs ops l ⟨some d, .binOp op T x y T', U, pos, af, g⟩ = some true) (h : JM C m ops rest k ((d, .bool false) :: l) F H) : JM C m ops (⟨some d, .binOp op T x y T', U, pos, af, g⟩ :: rest) k l F H := oS (ev_cmp_f hx hy hc.in) hr h
theorem zG {op : BinOp} {ik : IntKind} {a b : Int} {r : Bool} (hx : opv l x = some (.int ik a)) (hy : opv l y = some (.int ik b)) (hf : cmpB op a b = some r) (hr : runs ops l ⟨some d, .binOp op T x y T', U, pos, af, g⟩ = some true) (h : JM C m ops rest k ((d, .bool r) :: l) F H) : JM C m ops (⟨some d, .binOp op T x y T', U, pos, af, g⟩ :: rest) k l F H := oS (eg hx hy hf) hr h
theorem zB {ps : List (Nat × Operand)} {vs : List (Nat × Value)} {pl : List (Nat × Nat)} {zs t : List Value} (hp : partvs l ps = some vs) (hz : zeroCs C.P T = some zs) (hpl : placesOf C.P T = some pl) (hf : FillF pl vs zs t) (hr : runs ops l ⟨some d, .build T ps.toArray, U, pos, af, g⟩ = some true) (h : JM C m ops rest k ((d, .agg t.toArray) :: l) F H) :
    JM C m ops (⟨some d, .build T ps.toArray, U, pos, af, g⟩ :: rest) k l F H := oS (ev_build hp hz hpl hf) hr h
/-- A variable of one cell, in a block of the call's own. -/
theorem zH {b off : Nat} {E : TypeId} {r : List Value} {v : Value} (pk : Pick (blk b E r) H Hr) (hx : opv l x = some (.pointer (some ⟨b, off, none⟩))) (hp : plainB C.P T = true) (hv : (r.drop off).take 1 = [v]) (hr : runs ops l ⟨some d, .load T x, U, pos, af, g⟩ = some true) (h : JM C m ops rest k ((d, v) :: l) F H) :
    JM C m ops (⟨some d, .load T x, U, pos, af, g⟩ :: rest) k l F H := oS (ev_load hx hp (Rdb.ofB (n := 0) pk (by simpa using hv))) hr h
end
structure Bx (q : Prop) : Prop where
  out : q
end Go.Proofs.YtjjjckmpkldgnaaGreatDoor
namespace Go.Proofs.YtjjjckmpkldgnaaGreatDoor
open Go.RowKit

theorem own_mk {g n c E size : Nat} {cur : Array Value} {xs : List Value} (h1 : xs.length = n * size) (h2 : n ≤ c) (h3 : c ≤ maxLen) (h4 : cur.size = c * size) (h5 : cur.toList.take (n * size) = xs) :
    own (.slice (some ⟨g, 0, none⟩) n c) E size n xs (PH.one g (.cells cur E (0, 0))) := ⟨h1, .inr ⟨g, c, cur, rfl, rfl, h2, h3, h4, h5⟩⟩
section
variable {P : Program} {l : Env} {F : PH} {H Hr H' : List Asrt} {d : Option Nat} {T T' U E : TypeId} {pos : String} {af : Array Edge} {gd : Option (Nat × Bool)} {x y z y' z' : Operand} {size bytes : Nat} {zv : Value}
end
end Go.Proofs.YtjjjckmpkldgnaaGreatDoor
namespace Go.Proofs.YtjjjckmpkldgnaaGreatDoor
open Go.RowKit

/-- A slice value that reads as the cells cs, by F or by what the call owns. -/
def RdS (F : PH) (H : List Asrt) (size : Nat) (v : Value) (n : Nat) (cs : List Value) : Prop :=
  cs.length = n * size ∧ ∃ a c, v = .slice a n c ∧ n ≤ c ∧ (0 < n → ∃ b off, a = some ⟨b, off, none⟩ ∧ Rdb F H b off cs)
theorem SliceV.rds {F : PH} {H : List Asrt} {size n : Nat} {v : Value} {cs : List Value} (h : SliceV F size v n cs) : RdS F H size v n cs := by
  obtain ⟨h1, a, c, hv, hn, h2⟩ := h
  exact ⟨h1, a, c, hv, hn, fun h0 => let ⟨b, off, ha, hc⟩ := h2 h0; ⟨b, off, ha, Rdb.ofF hc⟩⟩
theorem RdS.blk {F : PH} {H Hr : List Asrt} {E b off n c size : Nat} {r cs : List Value} (p : Pick (blk b E r) H Hr) (hl : cs.length = n * size) (hr : (r.drop off).take cs.length = cs) (hn : n ≤ c) :
    RdS F H size (.slice (some ⟨b, off, none⟩) n c) n cs := ⟨hl, _, _, rfl, hn, fun _ => ⟨b, off, rfl, Rdb.ofB (n := 0) p hr⟩⟩
/-- What the call owns may be read. -/
theorem RdS.own {F : PH} {H Hr : List Asrt} {E n c size : Nat} {a : Option Addr} {xs : List Value} (p : Pick (own (.slice a n c) E size n xs) H Hr) (hn : n ≤ c) (hl : xs.length = n * size) (ha : 0 < n → ∃ b, a = some ⟨b, 0, none⟩) : RdS F H size (.slice a n c) n xs := by
  refine ⟨hl, a, c, rfl, hn, fun h0 => ?_⟩
  obtain ⟨b, rfl⟩ := ha h0
  exact ⟨b, 0, rfl, own_rdb p⟩
theorem RdS.at {F : PH} {H : List Asrt} {size n c : Nat} {a : Option Addr} {cs : List Value} (h : RdS F H size (.slice a n c) n cs) {w : World} (hs : Sat F H w) (h0 : 0 < n) : ∃ b off, a = some ⟨b, off, none⟩ ∧ ∀ j u, cs[j]? = some u → w.cell? ((⟨b, off, none⟩ : Addr).add j) = some u := by
  obtain ⟨_, a', c', e, _, h2⟩ := h
  cases e
  obtain ⟨b, off, ha, hc⟩ := h2 h0
  exact ⟨b, off, ha, (hc w hs).world⟩
section
variable {P : Program} {l : Env} {F : PH} {H Hr H' : List Asrt} {d : Option Nat} {T T' U E : TypeId} {pos : String} {af : Array Edge} {gd : Option (Nat × Bool)} {x y z y' z' : Operand} {size bytes : Nat} {zv : Value}
theorem run_append_zero {t e ty : TypeId} {i : TypeInfo} (ht : P.underlying t = some (.slice e)) (hi : P.info? e = some i) (base a : Option Addr) (n cap c : Nat) (h : n ≤ cap) (w : World) :
    (Builtin.append_ #[t, t] ty #[.slice base n cap, .slice a 0 c]).run P w = .ok (.slice base n cap) w := by
  cases a <;> cases base <;> simp [Builtin.append_, run_underlying ht, sizeOf, typeInfo, hi, Builtin.lenOf, Builtin.firstCells, h, loadCells, loadCellsFrom, storeCells, go_sem]
theorem src_of {e' : TypeId} {w : World} {m : Nat} {v : Value} {news : List Value} (hk : P.underlying T = some (.slice e')) (h : RdS F H size v m news) (hs : Sat F H w) (h1 : Ones news) : Src P size T v m news w := by
  have h' := h
  obtain ⟨hl, a, c, rfl, hn, hc⟩ := h
  by_cases h0 : 0 < m
  · obtain ⟨b, off, rfl, hw⟩ := h'.at hs h0
    exact Src.ofSlice w hk _ _ _ _ hl hw h1
  · have hm : m = 0 := by omega
    subst hm
    have hnil : news = [] := List.eq_nil_of_length_eq_zero (by simpa using hl)
    subst hnil
    cases a with
    | none => exact Src.ofNil w hk c
    | some ad => exact Src.ofSlice w hk ad 0 c [] (by simp) (fun j u e => by simp at e) h1
/-- 'append(s, t...)': s the call's own, t whatever may be read. -/
theorem ev_append_s {v sv : Value} {n m : Nat} {xs news : List Value} {K : Value → List Asrt} (hx : opv l x = some v) (hy : opv l y = some sv) (he : Elem P T E size bytes zv) (hr : RdS F H size sv m news) (h1 : Ones news)
    (hb : (n + m) * bytes ≤ 140737488355328) (hu : ∀ v', Upd (own v E size n xs) (own v' E size (n + m) (xs ++ news)) H (K v')) :
    Ev' P ⟨d, .call { callee := .builtin .append, args := #[x, y], argTypes := #[T, T] }, U, pos, af, gd⟩ l F H fun u F' H' => F = F' ∧ (u = .slice none 0 0 ↔ v = .slice none 0 0 ∧ m = 0) ∧ H' = K u := by
  have hpos := Nat.le_of_ble_eq_true he.pos
  have hnm : n + m ≤ (n + m) * bytes := Nat.le_mul_of_pos_right _ hpos
  by_cases h0 : 0 < m
  · obtain ⟨hl, a, c, rfl, hn, hc⟩ := hr
    obtain ⟨b, off, rfl, hcc⟩ := hc h0
    exact ev_append hx hy he hcc hl h1 hb (by unfold maxLen; omega) hu
  · have hm : m = 0 := by omega
    subst hm
    obtain ⟨hl, a, c, rfl, hn, hc⟩ := hr
    have hnil : news = [] := List.eq_nil_of_length_eq_zero (by simpa using hl)
    subst hnil
    refine .of fun N A w ha hs => ?_
    obtain ⟨h, R, ⟨hlen, hA⟩, hd, hle, _, k⟩ := hs.focus (hu v)
    have hform : ∃ base cap, v = .slice base n cap ∧ n ≤ cap := by
      rcases hA with ⟨e, e2, _⟩ | ⟨g, cap, cur, e, _, h2, _⟩
      · subst e2; exact ⟨_, _, e, Nat.le_refl _⟩
      · exact ⟨_, _, e, h2⟩
    obtain ⟨base, cap, rfl, hcap⟩ := hform
    have e1 := ha.opv hx; have e2 := ha.opv hy
    have hu' := he.u
    obtain ⟨i, hi, _⟩ := he.i
    refine ⟨.value (.slice base n cap), w, .slice base n cap, F, K (.slice base n cap), ?_, .inl rfl, Mild.refl w, PH.ler F, ⟨rfl, by simp, rfl⟩, ?_⟩
    · generalize A.eval = ρ at e1 e2 ⊢
      simp only [execOp, resolve, List.map_toArray, List.map_cons, List.map_nil, e1, e2, pure_bind, invoke, builtin]
      exact run_v (run_append_zero hu' hi base a n cap c hcap w)
    · exact k h w ⟨by simpa using hlen, by simpa using hA⟩ hd hle
/-- 'append(s, t...)' where there is no room in s: a new row. -/
theorem ev_append_fresh {a : Option Addr} {c n m : Nat} {sv : Value} {xs news : List Value} (hx : opv l x = some (.slice a n c)) (hy : opv l y = some sv) (he : Elem P T E size bytes zv) (hr0 : RdS F H size (.slice a n c) n xs) (hr : RdS F H size sv m news) (h1 : Ones news)
    (hg : c < n + m) (hb : (n + m) * bytes ≤ 140737488355328) :
    Ev' P ⟨d, .call { callee := .builtin .append, args := #[x, y], argTypes := #[T, T] }, U, pos, af, gd⟩ l F H fun u F' H' => F = F' ∧ u ≠ .slice none 0 0 ∧ H' = own u E size (n + m) (xs ++ news) :: H := .of fun N A w ha hs => by
  obtain ⟨hu1, ⟨i, hi, hz, hsz, hby, hzs, h0⟩, _, hbp⟩ := he
  have hpos := Nat.le_of_ble_eq_true hbp
  have hnm : n + m ≤ (n + m) * bytes := Nat.le_mul_of_pos_right _ hpos
  subst hsz; subst hby
  have e1 := ha.opv hx; have e2 := ha.opv hy
  have hsrc := src_of (T := T) hu1 hr hs h1
  have hl0 : xs.length = n * i.size := hr0.1
  have hold : (Builtin.firstCells i.size n (.slice a n c)).run P w.drew = .ok xs.toArray w.drew := by
    by_cases hn0 : 0 < n
    · obtain ⟨b, off, rfl, hw⟩ := hr0.at hs hn0
      exact run_firstCells_some w.drew i.size n _ n c xs hl0 (by simpa using hw)
    · have hn : n = 0 := by omega
      subst hn
      have hnil : xs = [] := List.eq_nil_of_length_eq_zero (by simpa using hl0)
      subst hnil
      cases a with
      | none => exact run_firstCells_none w.drew i.size 0 0 c
      | some ad => exact run_firstCells_some w.drew i.size 0 ad 0 c [] (by simp) (fun j u e => by simp at e)
  have hrun := run_append_grow_src (P := P) w T T U E i zv hu1 hi hz a n c xs hold sv m news hsrc hg (by omega) (growslice_fits hg hb)
  refine ⟨.value (.slice (some ⟨w.heap.size, 0, none⟩) (n + m) (grownCap w (n + m) c E)), _, .slice (some ⟨w.heap.size, 0, none⟩) (n + m) (grownCap w (n + m) c E), F, _, ?_, .inl rfl, (Mild.drew w).trans (Mild.alloc w.drew (.cells ((xs ++ news).toArray ++ Builtin.zeroCells zv.cells (grownCap w (n + m) c E - (n + m))) E)), PH.ler F, ⟨rfl, by simp, rfl⟩, Sat.alloc (w := w.drew) hs _ _ ?_⟩
  · generalize A.eval = ρ at e1 e2 ⊢
    simp only [execOp, resolve, List.map_toArray, List.map_cons, List.map_nil, e1, e2, pure_bind, invoke, builtin]
    exact run_v hrun
  · have hlen : (xs ++ news).length = (n + m) * i.size := by rw [List.length_append, hl0, hr.1, Nat.add_mul]
    have hge := grownCap_ge w (n + m) c E
    have hcm : grownCap w (n + m) c E ≤ maxLen := grownCap_le_maxLen w (n + m) c E (by unfold maxLen; omega)
    refine own_mk (g := w.heap.size) (c := grownCap w (n + m) c E) hlen hge hcm ?_ ?_
    · simp only [Array.size_append, List.size_toArray, size_zeroCells, hzs, hlen, ← Nat.add_mul]
      congr 1
      omega
    · simp only [Array.toList_append]
      rw [← hlen]
      exact List.take_left
/-! texts and bytes -/
def strOf (bs : List UInt8) : ByteArray := ⟨bs.toArray⟩
theorem strOf_size (bs : List UInt8) : (strOf bs).size = bs.length := by simp [strOf, ByteArray.size]
theorem strOf_toList (bs : List UInt8) : (strOf bs).toList = bs := by
  rw [ByteArray.toList_eq] <;> simp [strOf]
theorem ev_bytes_string {e : TypeId} {bs : List UInt8} {v : Value} {n : Nat} (hx : opv l x = some v) (hr : RdS F H 1 v n (u8s bs)) (hu : P.underlying T = some (.slice e)) (he : P.underlying e = some (.int .u8)) (hd : P.underlying T' = some .string) :
    Ev P ⟨d, .convert T T' x, U, pos, af, gd⟩ l F H (.string (strOf bs)) := .of fun ρ hρ w hs => by
  have e1 := hρ _ _ hx
  have hr' := hr
  obtain ⟨hl, a, c, rfl, hn, hc⟩ := hr
  refine run_v (s := convert T T' (ρ x)) ?_
  rw [e1]
  have hlen : bs.length = n := by simpa [u8s] using hl
  by_cases h0 : 0 < n
  · obtain ⟨b, off, rfl, hw⟩ := hr'.at hs h0
    have := run_convert_bytes_arg (P := P) w T e hu he b off n c (bs.map fun b => ((b.toNat : Nat) : Int)) (by simpa using hlen) (fun i hi => by
      have hlt : i < bs.length := by omega
      have := hw i (.int .u8 (bs[i].toNat : Int)) (by simp [u8s, hlt])
      rw [adr_add] at this
      simpa [hlt] using this) T' hd
    rw [this]
    simp [strOfNums, strOf]
    apply List.map_id''
    intro b
    simp
  · have hm : n = 0 := by omega
    subst hm
    have hnil : bs = [] := List.eq_nil_of_length_eq_zero hlen
    subst hnil
    cases a with
    | none => rw [run_convert_bytes_nil w T e hu he 0 c T' hd]; rfl
    | some ad =>
      rw [run_convert_bytes_string w T T' e _ 0 c hu he hd, run_bytesToString w ad 0 c [] (by simp [loadCells, loadCellsFrom, go_sem])]
      rfl
end
end Go.Proofs.YtjjjckmpkldgnaaGreatDoor
namespace Go.Proofs.YtjjjckmpkldgnaaGreatDoor
open Go.RowKit

/-- An array's length, its element, the element's size. -/
def arrOf (P : Program) (T : TypeId) : Option (Nat × TypeId × Nat) := match P.underlying T with
  | some (.array n e) => match P.info? e with
    | some ⟨_, _, sz, _, _, _, _, _, _, _⟩ => some (n, e, sz)
    | none => none
  | _ => none
theorem arrOf_info {P : Program} {T : TypeId} {n E size : Nat} (h : arrOf P T = some (n, E, size)) : P.underlying T = some (.array n E) ∧ ∃ i, P.info? E = some i ∧ i.size = size := by
  unfold arrOf at h
  split at h
  · rename_i hu
    split at h
    · rename_i hi; cases h; exact ⟨hu, _, hi, rfl⟩
    · cases h
  · cases h
theorem lay_set : ∀ {i : Nat} {r : List Value} (v : Value), i < r.length → Lay i [v] r (r.set i v)
  | 0, u :: r, v, _ => .put .nil
  | i + 1, u :: r, v, h => .skip (lay_set v (by simpa using h))
section
variable {P : Program} {l : Env} {F : PH} {H Hr H' : List Asrt} {d : Option Nat} {T T' U E : TypeId} {pos : String} {af : Array Edge} {gd : Option (Nat × Bool)} {x y z y' z' : Operand} {size bytes : Nat} {zv : Value}
theorem ev_indexAddr_arr {b off len i : Nat} {k : IntKind} (hx : opv l x = some (.pointer (some ⟨b, off, none⟩))) (hy : opv l y = some (.int k (i : Int))) (ht : arrOf P T = some (len, E, size)) (hi : i < len) :
    Ev P ⟨d, .indexAddr T x y, U, pos, af, gd⟩ l F H (.pointer (some ⟨b, off + i * size, none⟩)) := .of fun ρ hρ w _ => by
  have e1 := hρ _ _ hx; have e2 := hρ _ _ hy
  obtain ⟨hu, j, hj, rfl⟩ := arrOf_info ht
  have h1 : (i : Int) < (len : Int) := by omega
  simp [execOp, e1, e2, go_sem, Instr.indexAt, asIntOf, run_underlying hu, Instr.sureAddr, sizeOf, typeInfo, hj, h1, adr_add, hi]
theorem ev_slice_arr_lo {b off len lo : Nat} {k : IntKind} (hx : opv l x = some (.pointer (some ⟨b, off, none⟩))) (hz : opv l z = some (.int k (lo : Int))) (ht : arrOf P T = some (len, E, size)) (h1 : lo < len) :
    Ev P ⟨d, .slice T x (some z) none none, U, pos, af, gd⟩ l F H (.slice (some ⟨b, off + lo * size, none⟩) (len - lo) (len - lo)) := .of fun ρ hρ w _ => by
  have e1 := hρ _ _ hx; have e2 := hρ _ _ hz
  obtain ⟨hu, j, hj, rfl⟩ := arrOf_info ht
  have h2 : (lo : Int) ≤ (len : Int) := by omega
  have h3 : ¬ len = lo := by omega
  have h4 : lo ≤ len := by omega
  simp [execOp, e1, e2, go_sem, Instr.sliceAt, run_underlying hu, Instr.sureAddr, Instr.sliceBounds, Instr.sliceBound, asIntOf, sizeOf, typeInfo, hj, h2, h3, h4, adr_add]
/-! make -/
/-! conversions that make memory, or mark it -/
end
end Go.Proofs.YtjjjckmpkldgnaaGreatDoor
namespace Go.Proofs.YtjjjckmpkldgnaaGreatDoor
open Go.RowKit
section
variable {C : Ctx} {k : List KItem} {l : Env} {F : PH} {H : List Asrt}
theorem kpost_again {G : Act → World → Prop} (hG : ∀ a w, G a w → kpost C k .normal a w) : ∀ (pre : List KItem) (e : Exit) (a : Act) (w : World), kpost C (pre ++ .again G :: k) e a w → kpost C (pre ++ k) e a w
  | [], e, a, w, h => by
    cases e with
    | normal => exact hG a w h
    | _ => exact h
  | .code c :: pre, e, a, w, h => by
    cases e with
    | normal => exact wp_mono h fun e a w he => kpost_again hG pre e a w he
    | _ => exact kpost_again hG pre _ a w h
  | .blk id :: pre, e, a, w, h => by
    cases e with
    | normal => exact kpost_again hG pre _ a w h
    | exit id' =>
      show (if id' = id then kpost C (pre ++ k) .normal a w else kpost C (pre ++ k) (.exit id') a w)
      have h' : (if id' = id then kpost C (pre ++ .again G :: k) .normal a w else kpost C (pre ++ .again G :: k) (.exit id') a w) := h
      split
      · rename_i e; rw [if_pos e] at h'; exact kpost_again hG pre _ a w h'
      · rename_i e; rw [if_neg e] at h'; exact kpost_again hG pre _ a w h'
    | _ => exact kpost_again hG pre _ a w h
  | .again G' :: pre, e, a, w, h => by
    cases e with
    | normal => exact h
    | _ => exact kpost_again hG pre _ a w h
def Join (C : Ctx) {ι : Type} (inv : ι → Prop) (L : ι → Env) (G : ι → PH) (K : ι → List Asrt) (a : Act) (w : World) : Prop := ∃ i, inv i ∧ Holds C.N (L i) a ∧ Mild C.w0 w ∧ Sat (G i) (K i) w
/-- However the items 'pre' are gone through: behind them the state is one of L, G, K. -/
theorem J_join {ι : Type} (pre : List KItem) (inv : ι → Prop) (L : ι → Env) (G : ι → PH) (K : ι → List Asrt) (h : J C (pre ++ .again (Join C inv L G K) :: k) l F H) (h2 : ∀ i, inv i → J C k (L i) (G i) (K i)) : J C (pre ++ k) l F H := by
  unfold J at h h2 ⊢
  exact fun a w ha hm hs => kpost_again (fun a w ⟨i, hi, ha, hm, hs⟩ => h2 i hi a w ha hm hs) pre _ a w (h a w ha hm hs)
theorem J_joined {ι : Type} {inv : ι → Prop} {L : ι → Env} {G : ι → PH} {K : ι → List Asrt} (i : ι) (hi : inv i) (he : Ent l F H (L i) (G i) (K i)) : J C (.again (Join C inv L G K) :: k) l F H := by
  unfold J
  exact fun a w ha hm hs => ⟨i, hi, ha.sub he.env, hm, he.sat w hs⟩
/-- A row of two, laid open. -/
theorem J_open {x y z : Code} (h : J C (.code x :: .code y :: .code z :: k) l F H) : J C (.code x :: .code (.seq y z) :: k) l F H := by
  unfold J at h ⊢
  intro a w ha hm hs
  refine wp_mono (h a w ha hm hs) fun e a w he => ?_
  cases e with
  | normal => exact wp_seq (wp_mono he fun e a w he => by cases e <;> exact he)
  | _ => exact he
end
section
variable {P : Program} {l : Env} {F : PH} {H : List Asrt} {d : Option Nat} {T T' U : TypeId} {pos : String} {af : Array Edge} {g : Option (Nat × Bool)} {x y : Operand}
end
end Go.Proofs.YtjjjckmpkldgnaaGreatDoor
