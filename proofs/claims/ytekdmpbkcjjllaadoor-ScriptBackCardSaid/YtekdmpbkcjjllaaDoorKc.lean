/-
  The rules of single operations: numbers, tests, memory. Plain theorems over any program; no condition.
-/
import Derived.Test.YtekdmpbkcjjllaaDoorKb
namespace Go.Proofs.YtekdmpbkcjjllaaDoor
open Go.RowKit

/-! ### cells -/
def cellF (F : PH) (b off : Nat) : Option Value := match F b with
  | some (.cells c _ _) => c[off]?
  | _ => none
def Cells (F : PH) (b off : Nat) (cs : List Value) : Prop := ∀ j u, cs[j]? = some u → cellF F b (off + j) = some u
theorem cellF_mono {F G : PH} (h : F.le G) {b off : Nat} {v : Value} (e : cellF F b off = some v) : cellF G b off = some v := by
  unfold cellF at e ⊢
  cases hb : F b with
  | none => rw [hb] at e; cases e
  | some o => rw [hb] at e; rw [h b o hb]; exact e
theorem Cells.mono {F G : PH} {b off : Nat} {cs : List Value} (c : Cells F b off cs) (h : F.le G) : Cells G b off cs := fun j u e => cellF_mono h (c j u e)
theorem Cells.nil (F : PH) (b off : Nat) : Cells F b off [] := fun j u e => by simp at e
theorem Cells.left {F : PH} {b off : Nat} {xs ys : List Value} (c : Cells F b off (xs ++ ys)) : Cells F b off xs := fun j u e => c j u (by
  rw [List.getElem?_append_left (List.getElem?_eq_some_iff.1 e).1]; exact e)
theorem Cells.right {F : PH} {b off : Nat} {xs ys : List Value} (c : Cells F b off (xs ++ ys)) : Cells F b (off + xs.length) ys := fun j u e => by
  rw [Nat.add_assoc]
  exact c _ u (by rw [List.getElem?_append_right (by omega)]; simpa using e)
theorem Cells.append {F : PH} {b off : Nat} {xs ys : List Value} (c : Cells F b off xs) (d : Cells F b (off + xs.length) ys) : Cells F b off (xs ++ ys) := fun j u e => by
  by_cases h : j < xs.length
  · exact c j u (by rwa [List.getElem?_append_left h] at e)
  · rw [List.getElem?_append_right (by omega)] at e
    have := d _ u e
    rwa [show off + xs.length + (j - xs.length) = off + j from by omega] at this
theorem cellF_ph {w : World} {b off : Nat} {v : Value} : cellF (ph w) b off = some v ↔ w.cell? ⟨b, off, none⟩ = some v := by
  unfold cellF ph World.cell?
  cases w.heap[b]? with
  | none => simp
  | some o => cases o <;> simp
theorem adr_add (b off n : Nat) : (⟨b, off, none⟩ : Addr).add n = ⟨b, off + n, none⟩ := by
  unfold Addr.add; split <;> simp_all
theorem Cells.world {w : World} {b off : Nat} {cs : List Value} (c : Cells (ph w) b off cs) : ∀ j u, cs[j]? = some u → w.cell? ((⟨b, off, none⟩ : Addr).add j) = some u := fun j u e => by
  rw [adr_add]; exact cellF_ph.1 (c j u e)

/-- Block b, known whole, the call's own. -/
def blk (b : Nat) (E : TypeId) (cs : List Value) : Asrt := fun h => h = PH.one b (.cells cs.toArray E (0, 0))
/-- A slice value whose row is the call's own: nil, or the head of a row; xs: its cells. -/
def own (v : Value) (E size n : Nat) (xs : List Value) : Asrt := fun h => xs.length = n * size ∧
  ((v = .slice none 0 0 ∧ n = 0 ∧ h = PH.emp) ∨
   ∃ g cap cur, v = .slice (some ⟨g, 0, none⟩) n cap ∧ h = PH.one g (.cells cur E (0, 0)) ∧ n ≤ cap ∧ cap ≤ maxLen ∧ cur.size = cap * size ∧ cur.toList.take (n * size) = xs)
/-- What may be read at (b, off), by F or by what the call owns. -/
def Rdb (F : PH) (H : List Asrt) (b off : Nat) (cs : List Value) : Prop := ∀ w, Sat F H w → Cells (ph w) b off cs
section
variable {F : PH} {H Hr : List Asrt} {b off : Nat} {cs : List Value} {E : TypeId} {w : World}
theorem Rdb.ofF (c : Cells F b off cs) : Rdb F H b off cs := fun _ s => c.mono s.le
theorem Sat.blk_heap (p : Pick (blk b E cs) H Hr) (s : Sat F H w) : w.heap[b]? = some (.cells cs.toArray E (0, 0)) := by
  obtain ⟨h, hA, hd, s'⟩ := (s.pick p).persist
  have h1 : h = PH.one b (.cells cs.toArray E (0, 0)) := hA
  subst h1
  have := s'.le b (.cells cs.toArray E (0, 0)) ((PH.le_r hd) b _ (PH.one_self _ _))
  exact this
theorem cells_row {g : Nat} {cur : Array Value} {t : TypeId} {fr : Nat × Nat} {xs : List Value} {F : PH} (h : F g = some (.cells cur t fr)) (hx : cur.toList.take xs.length = xs) : Cells F g 0 xs := fun j u e => by
  unfold cellF
  rw [h]
  have hlt : j < xs.length := (List.getElem?_eq_some_iff.1 e).1
  rw [← hx, List.getElem?_take, if_pos hlt] at e
  simpa using e
theorem Rdb.ofB {r : List Value} {n : Nat} (p : Pick (blk b E r) H Hr) (hr : (r.drop off).take cs.length = cs) : Rdb F H b off cs := fun w s j u e => by
  have := s.blk_heap p
  unfold cellF ph
  rw [this]
  have hlt : j < cs.length := (List.getElem?_eq_some_iff.1 e).1
  rw [← hr, List.getElem?_take, if_pos hlt, List.getElem?_drop] at e
  simpa using e
end
/-- Lists by parts, in a form that a search by constructors writes out. -/
inductive Cut : Nat → Nat → List Value → List Value → Prop where
  | nil {r : List Value} : Cut 0 0 r []
  | take {n : Nat} {v : Value} {r cs : List Value} (h : Cut 0 n r cs) : Cut 0 (n + 1) (v :: r) (v :: cs)
  | drop {i n : Nat} {v : Value} {r cs : List Value} (h : Cut i n r cs) : Cut (i + 1) n (v :: r) cs
theorem Cut.eq {i n : Nat} {r cs : List Value} (h : Cut i n r cs) : (r.drop i).take n = cs ∧ cs.length = n ∧ i + n ≤ r.length := by
  induction h with
  | nil => simp
  | take h ih => obtain ⟨a, b, c⟩ := ih; simp at a ⊢; exact ⟨a, b, by omega⟩
  | drop h ih => obtain ⟨a, b, c⟩ := ih; simp at a ⊢; exact ⟨a, b, by omega⟩
/-- 'r' with 'vs' laid in from place i on. -/
inductive Lay : Nat → List Value → List Value → List Value → Prop where
  | nil {r : List Value} : Lay 0 [] r r
  | put {v u : Value} {vs r s : List Value} (h : Lay 0 vs r s) : Lay 0 (v :: vs) (u :: r) (v :: s)
  | skip {i : Nat} {vs : List Value} {u : Value} {r s : List Value} (h : Lay i vs r s) : Lay (i + 1) vs (u :: r) (u :: s)
theorem Lay.eq {i : Nat} {vs r s : List Value} (h : Lay i vs r s) : s = r.take i ++ vs ++ r.drop (i + vs.length) ∧ i + vs.length ≤ r.length := by
  induction h with
  | nil => simp
  | put h ih => obtain ⟨a, b⟩ := ih; simp at a b ⊢; exact ⟨a, b⟩
  | skip h ih =>
    obtain ⟨a, b⟩ := ih
    refine ⟨?_, by simp; omega⟩
    rw [a, Nat.add_right_comm]
    simp
/-- The cells of a value. -/
inductive VC : Value → List Value → Prop where
  | agg {cs : List Value} : VC (.agg cs.toArray) cs
  | int {k : IntKind} {n : Int} : VC (.int k n) [.int k n]
  | bool {x : Bool} : VC (.bool x) [.bool x]
  | string {s : ByteArray} : VC (.string s) [.string s]
  | slice {a : Option Addr} {n c : Nat} : VC (.slice a n c) [.slice a n c]
  | pointer {a : Option Addr} : VC (.pointer a) [.pointer a]
  | map {a : Option Nat} : VC (.map a) [.map a]
  | nilIface : VC .nilIface [.nilIface]
  | iface {t : TypeId} {v : Value} : VC (.iface t v) [.iface t v]
  | nilFunc : VC .nilFunc [.nilFunc]
  | func {f : Fn} {a b : Array Value} : VC (.func f a b) [.func f a b]
theorem VC.eq {v : Value} {cs : List Value} (h : VC v cs) : v.cells = cs.toArray := by cases h <;> rfl
def One (v : Value) : Prop := v.oneCell' = true
def Ones (cs : List Value) : Prop := ∀ v ∈ cs, v.oneCell' = true

/-! ### numbers -/
def InK : IntKind → Int → Prop
  | .i8, n => -128 ≤ n ∧ n ≤ 127
  | .i16, n => -32768 ≤ n ∧ n ≤ 32767
  | .i32, n => -2147483648 ≤ n ∧ n ≤ 2147483647
  | .i64, n => -9223372036854775808 ≤ n ∧ n ≤ 9223372036854775807
  | .u8, n => 0 ≤ n ∧ n ≤ 255
  | .u16, n => 0 ≤ n ∧ n ≤ 65535
  | .u32, n => 0 ≤ n ∧ n ≤ 4294967295
  | .u64, n => 0 ≤ n ∧ n ≤ 18446744073709551615
theorem wrap_in {k : IntKind} {n : Int} (h : InK k n) : k.wrap n = n := by
  cases k <;> simp only [InK] at h <;> simp [IntKind.wrap, IntKind.bits, IntKind.signed] <;> omega
def cmpP : BinOp → Int → Int → Prop
  | .lss, m, n => m < n
  | .leq, m, n => m ≤ n
  | .gtr, m, n => n < m
  | .geq, m, n => n ≤ m
  | .eql, m, n => m = n
  | .neq, m, n => m ≠ n
  | _, _, _ => False
def cmpN : BinOp → Int → Int → Prop
  | .lss, m, n => n ≤ m
  | .leq, m, n => n < m
  | .gtr, m, n => m ≤ n
  | .geq, m, n => m < n
  | .eql, m, n => m ≠ n
  | .neq, m, n => m = n
  | _, _, _ => False
/-- Operations that touch neither memory nor a bound, reckoned. -/
def pv (l : Env) : Op → Option Value
  | .move x => opv l x
  | .assign x => opv l x
  | .pick c a b => match opv l c with
    | some (.bool true) => opv l a
    | some (.bool false) => opv l b
    | _ => none
  | .extract t i => match opv l t with
    | some (.tuple vs) => vs[i]?
    | _ => none
  | .nilCheck x => match opv l x with
    | some (.pointer (some a)) => some (.pointer (some a))
    | _ => none
  | .unOp .not _ x => match opv l x with
    | some (.bool b) => some (.bool (!b))
    | _ => none
  | _ => none
section
variable {P : Program} {l : Env} {F : PH} {H : List Asrt} {d : Option Nat} {T T' : TypeId} {pos : String} {af : Array Edge} {g : Option (Nat × Bool)} {x y : Operand}
theorem ev_pv {o : Oper} {v : Value} (h : pv l o.op = some v) : Ev P o l F H v := .of fun ρ hρ w _ => by
  obtain ⟨dst, op, ty, ps, aft, gd⟩ := o
  unfold execOp
  dsimp only at h ⊢
  cases op <;> unfold pv at h <;> dsimp only at h ⊢
  case move x => simp [go_sem, hρ _ _ h]
  case assign x => simp [go_sem, hρ _ _ h]
  case pick c x y =>
    split at h
    · rename_i hc; simp [go_sem, hρ _ _ hc, hρ _ _ h, asBool]
    · rename_i hc; simp [go_sem, hρ _ _ hc, hρ _ _ h, asBool]
    · cases h
  case extract t i =>
    split at h
    · rename_i hc; simp [go_sem, hρ _ _ hc, Instr.extract, h]
    · cases h
  case nilCheck x =>
    split at h
    · rename_i hc; cases h; simp [go_sem, hρ _ _ hc]
    · cases h
  case unOp o t x =>
    cases o
    case not =>
      dsimp only at h
      split at h
      · rename_i hc; cases h; simp [go_sem, hρ _ _ hc, Op.unary]
      · cases h
    all_goals cases h
  all_goals cases h
/-- A pick whose test isn't known: both sides bools. -/
theorem ev_and {c : Operand} {b b' : Bool} (hc : opv l c = some (.bool b)) (ha : opv l x = some (.bool b')) : Ev P ⟨d, .pick c x (.const (.bool false)), T, pos, af, g⟩ l F H (.bool (b && b')) := .of fun ρ hρ w _ => by
  have e1 := hρ _ _ hc; have e2 := hρ _ _ ha; have e3 := hρ (.const (.bool false)) _ rfl; have e4 := hρ (.const (.bool true)) _ rfl
  cases b <;> simp [execOp, go_sem, e1, e2, e3, e4, asBool]
theorem ev_or {c : Operand} {b b' : Bool} (hc : opv l c = some (.bool b)) (ha : opv l x = some (.bool b')) : Ev P ⟨d, .pick c (.const (.bool true)) x, T, pos, af, g⟩ l F H (.bool (b || b')) := .of fun ρ hρ w _ => by
  have e1 := hρ _ _ hc; have e2 := hρ _ _ ha; have e3 := hρ (.const (.bool false)) _ rfl; have e4 := hρ (.const (.bool true)) _ rfl
  cases b <;> simp [execOp, go_sem, e1, e2, e3, e4, asBool]
theorem ev_arith {op : BinOp} {k : IntKind} {m n r : Int} (hx : opv l x = some (.int k m)) (hy : opv l y = some (.int k n)) (f : Int)
    (hf : (op = .add ∧ f = m + n) ∨ (op = .sub ∧ f = m - n) ∨ (op = .mul ∧ f = m * n)) (hr : k.wrap f = r) {U : TypeId} : Ev P ⟨d, .binOp op T x y T', U, pos, af, g⟩ l F H (.int k r) := .of fun ρ hρ w _ => by
  have e1 := hρ _ _ hx
  have e2 := hρ _ _ hy
  subst hr
  rcases hf with ⟨rfl, rfl⟩ | ⟨rfl, rfl⟩ | ⟨rfl, rfl⟩ <;> simp [execOp, e1, e2, eqGuard, binOp, Op.intArith, go_sem]
theorem ev_add {k : IntKind} {m n : Int} (hx : opv l x = some (.int k m)) (hy : opv l y = some (.int k n)) (hr : InK k (m + n)) {U : TypeId} : Ev P ⟨d, .binOp .add T x y T', U, pos, af, g⟩ l F H (.int k (m + n)) :=
  ev_arith hx hy _ (.inl ⟨rfl, rfl⟩) (wrap_in hr)
theorem ev_sub {k : IntKind} {m n : Int} (hx : opv l x = some (.int k m)) (hy : opv l y = some (.int k n)) (hr : InK k (m - n)) {U : TypeId} : Ev P ⟨d, .binOp .sub T x y T', U, pos, af, g⟩ l F H (.int k (m - n)) :=
  ev_arith hx hy _ (.inr (.inl ⟨rfl, rfl⟩)) (wrap_in hr)
theorem ev_mul {k : IntKind} {m n : Int} (hx : opv l x = some (.int k m)) (hy : opv l y = some (.int k n)) (hr : InK k (m * n)) {U : TypeId} : Ev P ⟨d, .binOp .mul T x y T', U, pos, af, g⟩ l F H (.int k (m * n)) :=
  ev_arith hx hy _ (.inr (.inr ⟨rfl, rfl⟩)) (wrap_in hr)
theorem ev_addw {k : IntKind} {m n : Int} (hx : opv l x = some (.int k m)) (hy : opv l y = some (.int k n)) {U : TypeId} : Ev P ⟨d, .binOp .add T x y T', U, pos, af, g⟩ l F H (.int k (k.wrap (m + n))) :=
  ev_arith hx hy _ (.inl ⟨rfl, rfl⟩) rfl
theorem ev_subw {k : IntKind} {m n : Int} (hx : opv l x = some (.int k m)) (hy : opv l y = some (.int k n)) {U : TypeId} : Ev P ⟨d, .binOp .sub T x y T', U, pos, af, g⟩ l F H (.int k (k.wrap (m - n))) :=
  ev_arith hx hy _ (.inr (.inl ⟨rfl, rfl⟩)) rfl
theorem ev_mulw {k : IntKind} {m n : Int} (hx : opv l x = some (.int k m)) (hy : opv l y = some (.int k n)) {U : TypeId} : Ev P ⟨d, .binOp .mul T x y T', U, pos, af, g⟩ l F H (.int k (k.wrap (m * n))) :=
  ev_arith hx hy _ (.inr (.inr ⟨rfl, rfl⟩)) rfl
theorem ev_quo {k : IntKind} {m n : Int} (hx : opv l x = some (.int k m)) (hy : opv l y = some (.int k n)) (h0 : 0 ≤ m) (h1 : 1 ≤ n) (hm : InK k m) {U : TypeId} : Ev P ⟨d, .binOp .quo T x y T', U, pos, af, g⟩ l F H (.int k (m / n)) := .of fun ρ hρ w _ => by
  have e1 := hρ _ _ hx
  have e2 := hρ _ _ hy
  have hn : ¬ n = 0 := by omega
  have hq : m.tdiv n = m / n := Int.tdiv_eq_ediv_of_nonneg h0
  have hq0 : 0 ≤ m / n := Int.ediv_nonneg h0 (by omega)
  have hq1 : m / n ≤ m := Int.ediv_le_self n h0
  have hw : k.wrap (m / n) = m / n := wrap_in (by cases k <;> simp only [InK] at hm ⊢ <;> omega)
  simp [execOp, e1, e2, eqGuard, binOp, Op.intDiv, go_sem, hn, hq, hw]
theorem ev_rem {k : IntKind} {m n : Int} (hx : opv l x = some (.int k m)) (hy : opv l y = some (.int k n)) (h0 : 0 ≤ m) (h1 : 1 ≤ n) {U : TypeId} : Ev P ⟨d, .binOp .rem T x y T', U, pos, af, g⟩ l F H (.int k (m % n)) := .of fun ρ hρ w _ => by
  have e1 := hρ _ _ hx
  have e2 := hρ _ _ hy
  have hn : ¬ n = 0 := by omega
  have hq : m.tmod n = m % n := Int.tmod_eq_emod_of_nonneg h0
  simp [execOp, e1, e2, eqGuard, binOp, Op.intDiv, go_sem, hn, hq]
theorem ev_cmp_t {op : BinOp} {k : IntKind} {m n : Int} (hx : opv l x = some (.int k m)) (hy : opv l y = some (.int k n)) (h : cmpP op m n) {U : TypeId} : Ev P ⟨d, .binOp op T x y T', U, pos, af, g⟩ l F H (.bool true) := .of fun ρ hρ w _ => by
  have e1 := hρ _ _ hx
  have e2 := hρ _ _ hy
  cases op <;> simp only [cmpP] at h <;> first | exact h.elim | simp [execOp, e1, e2, eqGuard, binOp, Op.intCmp, go_sem, h]
theorem ev_cmp_f {op : BinOp} {k : IntKind} {m n : Int} (hx : opv l x = some (.int k m)) (hy : opv l y = some (.int k n)) (h : cmpN op m n) {U : TypeId} : Ev P ⟨d, .binOp op T x y T', U, pos, af, g⟩ l F H (.bool false) := .of fun ρ hρ w _ => by
  have e1 := hρ _ _ hx
  have e2 := hρ _ _ hy
  cases op <;> simp only [cmpN] at h <;> first | exact h.elim | simp [execOp, e1, e2, eqGuard, binOp, Op.intCmp, go_sem, h]
theorem ev_lss {k : IntKind} {m n : Int} (hx : opv l x = some (.int k m)) (hy : opv l y = some (.int k n)) {U : TypeId} : Ev P ⟨d, .binOp .lss T x y T', U, pos, af, g⟩ l F H (.bool (decide (m < n))) := .of fun ρ hρ w _ => by
  simp [execOp, hρ _ _ hx, hρ _ _ hy, eqGuard, binOp, Op.intCmp, go_sem]
theorem ev_leq {k : IntKind} {m n : Int} (hx : opv l x = some (.int k m)) (hy : opv l y = some (.int k n)) {U : TypeId} : Ev P ⟨d, .binOp .leq T x y T', U, pos, af, g⟩ l F H (.bool (decide (m ≤ n))) := .of fun ρ hρ w _ => by
  simp [execOp, hρ _ _ hx, hρ _ _ hy, eqGuard, binOp, Op.intCmp, go_sem]
theorem ev_gtr {k : IntKind} {m n : Int} (hx : opv l x = some (.int k m)) (hy : opv l y = some (.int k n)) {U : TypeId} : Ev P ⟨d, .binOp .gtr T x y T', U, pos, af, g⟩ l F H (.bool (decide (n < m))) := .of fun ρ hρ w _ => by
  simp [execOp, hρ _ _ hx, hρ _ _ hy, eqGuard, binOp, Op.intCmp, go_sem]
theorem ev_geq {k : IntKind} {m n : Int} (hx : opv l x = some (.int k m)) (hy : opv l y = some (.int k n)) {U : TypeId} : Ev P ⟨d, .binOp .geq T x y T', U, pos, af, g⟩ l F H (.bool (decide (n ≤ m))) := .of fun ρ hρ w _ => by
  simp [execOp, hρ _ _ hx, hρ _ _ hy, eqGuard, binOp, Op.intCmp, go_sem]
theorem ev_eql {k : IntKind} {m n : Int} (hx : opv l x = some (.int k m)) (hy : opv l y = some (.int k n)) {U : TypeId} : Ev P ⟨d, .binOp .eql T x y T', U, pos, af, g⟩ l F H (.bool (decide (m = n))) := .of fun ρ hρ w _ => by
  simp [execOp, hρ _ _ hx, hρ _ _ hy, eqGuard, binOp, Op.intCmp, go_sem]; rfl
theorem ev_neq {k : IntKind} {m n : Int} (hx : opv l x = some (.int k m)) (hy : opv l y = some (.int k n)) {U : TypeId} : Ev P ⟨d, .binOp .neq T x y T', U, pos, af, g⟩ l F H (.bool (!decide (m = n))) := .of fun ρ hρ w _ => by
  simp [execOp, hρ _ _ hx, hρ _ _ hy, eqGuard, binOp, Op.intCmp, go_sem, bne]; rfl
end
end Go.Proofs.YtekdmpbkcjjllaaDoor
