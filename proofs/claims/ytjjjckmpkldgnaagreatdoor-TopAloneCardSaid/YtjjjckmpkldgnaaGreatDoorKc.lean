/-
  The rules of single operations: numbers, tests, memory. Plain theorems over any program; no condition.
  The rules of operations on memory. Plain theorems over any program; no condition.
-/
import Derived.Test.YtjjjckmpkldgnaaGreatDoorKa
namespace Go.Proofs.YtjjjckmpkldgnaaGreatDoor
open Go.RowKit

/-! ### cells -/
def cellF (F : PH) (b off : Nat) : Option Value := match F b with
  | some (.cells c _ _) => c[off]?
  | _ => none
def Cells (F : PH) (b off : Nat) (cs : List Value) : Prop := ∀ j u, cs[j]? = some u → cellF F b (off + j) = some u
theorem cellF_mono {F G : PH} (h : F.le G) {b off : Nat} {v : Value} (e : cellF F b off = some v) : cellF G b off = some v := by
  unfold cellF at e ⊢
  cases hb : F b with
  | none => rw [hb] at e; cases e
  | some o => rw [hb] at e; rw [h b o hb]; exact e
theorem Cells.mono {F G : PH} {b off : Nat} {cs : List Value} (c : Cells F b off cs) (h : F.le G) : Cells G b off cs := fun j u e => cellF_mono h (c j u e)
theorem Cells.nil (F : PH) (b off : Nat) : Cells F b off [] := fun j u e => by simp at e
theorem Cells.left {F : PH} {b off : Nat} {xs ys : List Value} (c : Cells F b off (xs ++ ys)) : Cells F b off xs := fun j u e => c j u (by
  rw [List.getElem?_append_left (List.getElem?_eq_some_iff.1 e).1]; exact e)
theorem Cells.right {F : PH} {b off : Nat} {xs ys : List Value} (c : Cells F b off (xs ++ ys)) : Cells F b (off + xs.length) ys := fun j u e => by
  rw [Nat.add_assoc]
  exact c _ u (by rw [List.getElem?_append_right (by omega)]; simpa using e)
theorem Cells.append {F : PH} {b off : Nat} {xs ys : List Value} (c : Cells F b off xs) (d : Cells F b (off + xs.length) ys) : Cells F b off (xs ++ ys) := fun j u e => by
  by_cases h : j < xs.length
  · exact c j u (by rwa [List.getElem?_append_left h] at e)
  · rw [List.getElem?_append_right (by omega)] at e
    have := d _ u e
    rwa [show off + xs.length + (j - xs.length) = off + j from by omega] at this
theorem cellF_ph {w : World} {b off : Nat} {v : Value} : cellF (ph w) b off = some v ↔ w.cell? ⟨b, off, none⟩ = some v := by
  unfold cellF ph World.cell?
  cases w.heap[b]? with
  | none => simp
  | some o => cases o <;> simp
theorem adr_add (b off n : Nat) : (⟨b, off, none⟩ : Addr).add n = ⟨b, off + n, none⟩ := by
  unfold Addr.add; split <;> simp_all
theorem Cells.world {w : World} {b off : Nat} {cs : List Value} (c : Cells (ph w) b off cs) : ∀ j u, cs[j]? = some u → w.cell? ((⟨b, off, none⟩ : Addr).add j) = some u := fun j u e => by
  rw [adr_add]; exact cellF_ph.1 (c j u e)

/-- Block b, known whole, the call's own. -/
def blk (b : Nat) (E : TypeId) (cs : List Value) : Asrt := fun h => h = PH.one b (.cells cs.toArray E (0, 0))
/-- A slice value whose row is the call's own: nil, or the head of a row; xs: its cells. -/
def own (v : Value) (E size n : Nat) (xs : List Value) : Asrt := fun h => xs.length = n * size ∧
  ((v = .slice none 0 0 ∧ n = 0 ∧ h = PH.emp) ∨
   ∃ g cap cur, v = .slice (some ⟨g, 0, none⟩) n cap ∧ h = PH.one g (.cells cur E (0, 0)) ∧ n ≤ cap ∧ cap ≤ maxLen ∧ cur.size = cap * size ∧ cur.toList.take (n * size) = xs)
/-- What may be read at (b, off), by F or by what the call owns. -/
def Rdb (F : PH) (H : List Asrt) (b off : Nat) (cs : List Value) : Prop := ∀ w, Sat F H w → Cells (ph w) b off cs
section
variable {F : PH} {H Hr : List Asrt} {b off : Nat} {cs : List Value} {E : TypeId} {w : World}
theorem Rdb.ofF (c : Cells F b off cs) : Rdb F H b off cs := fun _ s => c.mono s.le
theorem Sat.blk_heap (p : Pick (blk b E cs) H Hr) (s : Sat F H w) : w.heap[b]? = some (.cells cs.toArray E (0, 0)) := by
  obtain ⟨h, hA, hd, s'⟩ := (s.pick p).persist
  have h1 : h = PH.one b (.cells cs.toArray E (0, 0)) := hA
  subst h1
  have := s'.le b (.cells cs.toArray E (0, 0)) ((PH.le_r hd) b _ (PH.one_self _ _))
  exact this
theorem cells_row {g : Nat} {cur : Array Value} {t : TypeId} {fr : Nat × Nat} {xs : List Value} {F : PH} (h : F g = some (.cells cur t fr)) (hx : cur.toList.take xs.length = xs) : Cells F g 0 xs := fun j u e => by
  unfold cellF
  rw [h]
  have hlt : j < xs.length := (List.getElem?_eq_some_iff.1 e).1
  rw [← hx, List.getElem?_take, if_pos hlt] at e
  simpa using e
theorem Rdb.ofB {r : List Value} {n : Nat} (p : Pick (blk b E r) H Hr) (hr : (r.drop off).take cs.length = cs) : Rdb F H b off cs := fun w s j u e => by
  have := s.blk_heap p
  unfold cellF ph
  rw [this]
  have hlt : j < cs.length := (List.getElem?_eq_some_iff.1 e).1
  rw [← hr, List.getElem?_take, if_pos hlt, List.getElem?_drop] at e
  simpa using e
end
/-- Lists by parts, in a form that a search by constructors writes out. -/
inductive Cut : Nat → Nat → List Value → List Value → Prop where
  | nil {r : List Value} : Cut 0 0 r []
  | take {n : Nat} {v : Value} {r cs : List Value} (h : Cut 0 n r cs) : Cut 0 (n + 1) (v :: r) (v :: cs)
  | drop {i n : Nat} {v : Value} {r cs : List Value} (h : Cut i n r cs) : Cut (i + 1) n (v :: r) cs
theorem Cut.eq {i n : Nat} {r cs : List Value} (h : Cut i n r cs) : (r.drop i).take n = cs ∧ cs.length = n ∧ i + n ≤ r.length := by
  induction h with
  | nil => simp
  | take h ih => obtain ⟨a, b, c⟩ := ih; simp at a ⊢; exact ⟨a, b, by omega⟩
  | drop h ih => obtain ⟨a, b, c⟩ := ih; simp at a ⊢; exact ⟨a, b, by omega⟩
/-- 'r' with 'vs' laid in from place i on. -/
inductive Lay : Nat → List Value → List Value → List Value → Prop where
  | nil {r : List Value} : Lay 0 [] r r
  | put {v u : Value} {vs r s : List Value} (h : Lay 0 vs r s) : Lay 0 (v :: vs) (u :: r) (v :: s)
  | skip {i : Nat} {vs : List Value} {u : Value} {r s : List Value} (h : Lay i vs r s) : Lay (i + 1) vs (u :: r) (u :: s)
theorem Lay.eq {i : Nat} {vs r s : List Value} (h : Lay i vs r s) : s = r.take i ++ vs ++ r.drop (i + vs.length) ∧ i + vs.length ≤ r.length := by
  induction h with
  | nil => simp
  | put h ih => obtain ⟨a, b⟩ := ih; simp at a b ⊢; exact ⟨a, b⟩
  | skip h ih =>
    obtain ⟨a, b⟩ := ih
    refine ⟨?_, by simp; omega⟩
    rw [a, Nat.add_right_comm]
    simp
/-- The cells of a value. -/
inductive VC : Value → List Value → Prop where
  | agg {cs : List Value} : VC (.agg cs.toArray) cs
  | int {k : IntKind} {n : Int} : VC (.int k n) [.int k n]
  | bool {x : Bool} : VC (.bool x) [.bool x]
  | string {s : ByteArray} : VC (.string s) [.string s]
  | slice {a : Option Addr} {n c : Nat} : VC (.slice a n c) [.slice a n c]
  | pointer {a : Option Addr} : VC (.pointer a) [.pointer a]
  | map {a : Option Nat} : VC (.map a) [.map a]
  | nilIface : VC .nilIface [.nilIface]
  | iface {t : TypeId} {v : Value} : VC (.iface t v) [.iface t v]
  | nilFunc : VC .nilFunc [.nilFunc]
  | func {f : Fn} {a b : Array Value} : VC (.func f a b) [.func f a b]
theorem VC.eq {v : Value} {cs : List Value} (h : VC v cs) : v.cells = cs.toArray := by cases h <;> rfl
def One (v : Value) : Prop := v.oneCell' = true
def Ones (cs : List Value) : Prop := ∀ v ∈ cs, v.oneCell' = true

/-! ### numbers -/
def InK : IntKind → Int → Prop
  | .i8, n => -128 ≤ n ∧ n ≤ 127
  | .i16, n => -32768 ≤ n ∧ n ≤ 32767
  | .i32, n => -2147483648 ≤ n ∧ n ≤ 2147483647
  | .i64, n => -9223372036854775808 ≤ n ∧ n ≤ 9223372036854775807
  | .u8, n => 0 ≤ n ∧ n ≤ 255
  | .u16, n => 0 ≤ n ∧ n ≤ 65535
  | .u32, n => 0 ≤ n ∧ n ≤ 4294967295
  | .u64, n => 0 ≤ n ∧ n ≤ 18446744073709551615
theorem wrap_in {k : IntKind} {n : Int} (h : InK k n) : k.wrap n = n := by
  cases k <;> simp only [InK] at h <;> simp [IntKind.wrap, IntKind.bits, IntKind.signed] <;> omega
def cmpP : BinOp → Int → Int → Prop
  | .lss, m, n => m < n
  | .leq, m, n => m ≤ n
  | .gtr, m, n => n < m
  | .geq, m, n => n ≤ m
  | .eql, m, n => m = n
  | .neq, m, n => m ≠ n
  | _, _, _ => False
def cmpN : BinOp → Int → Int → Prop
  | .lss, m, n => n ≤ m
  | .leq, m, n => n < m
  | .gtr, m, n => m ≤ n
  | .geq, m, n => m < n
  | .eql, m, n => m ≠ n
  | .neq, m, n => m = n
  | _, _, _ => False
/-- Operations that touch neither memory nor a bound, reckoned. -/
def pv (l : Env) : Op → Option Value
  | .move x => opv l x
  | .assign x => opv l x
  | .pick c a b => match opv l c with
    | some (.bool true) => opv l a
    | some (.bool false) => opv l b
    | _ => none
  | .extract t i => match opv l t with
    | some (.tuple vs) => vs[i]?
    | _ => none
  | .nilCheck x => match opv l x with
    | some (.pointer (some a)) => some (.pointer (some a))
    | _ => none
  | .unOp .not _ x => match opv l x with
    | some (.bool b) => some (.bool (!b))
    | _ => none
  | _ => none
section
variable {P : Program} {l : Env} {F : PH} {H : List Asrt} {d : Option Nat} {T T' : TypeId} {pos : String} {af : Array Edge} {g : Option (Nat × Bool)} {x y : Operand}
theorem ev_pv {o : Oper} {v : Value} (h : pv l o.op = some v) : Ev P o l F H v := .of fun ρ hρ w _ => by
  obtain ⟨dst, op, ty, ps, aft, gd⟩ := o
  unfold execOp
  dsimp only at h ⊢
  cases op <;> unfold pv at h <;> dsimp only at h ⊢
  case move x => simp [go_sem, hρ _ _ h]
  case assign x => simp [go_sem, hρ _ _ h]
  case pick c x y =>
    split at h
    · rename_i hc; simp [go_sem, hρ _ _ hc, hρ _ _ h, asBool]
    · rename_i hc; simp [go_sem, hρ _ _ hc, hρ _ _ h, asBool]
    · cases h
  case extract t i =>
    split at h
    · rename_i hc; simp [go_sem, hρ _ _ hc, Instr.extract, h]
    · cases h
  case nilCheck x =>
    split at h
    · rename_i hc; cases h; simp [go_sem, hρ _ _ hc]
    · cases h
  case unOp o t x =>
    cases o
    case not =>
      dsimp only at h
      split at h
      · rename_i hc; cases h; simp [go_sem, hρ _ _ hc, Op.unary]
      · cases h
    all_goals cases h
  all_goals cases h
theorem ev_arith {op : BinOp} {k : IntKind} {m n r : Int} (hx : opv l x = some (.int k m)) (hy : opv l y = some (.int k n)) (f : Int)
    (hf : (op = .add ∧ f = m + n) ∨ (op = .sub ∧ f = m - n) ∨ (op = .mul ∧ f = m * n)) (hr : k.wrap f = r) {U : TypeId} : Ev P ⟨d, .binOp op T x y T', U, pos, af, g⟩ l F H (.int k r) := .of fun ρ hρ w _ => by
  have e1 := hρ _ _ hx
  have e2 := hρ _ _ hy
  subst hr
  rcases hf with ⟨rfl, rfl⟩ | ⟨rfl, rfl⟩ | ⟨rfl, rfl⟩ <;> simp [execOp, e1, e2, eqGuard, binOp, Op.intArith, go_sem]
theorem ev_add {k : IntKind} {m n : Int} (hx : opv l x = some (.int k m)) (hy : opv l y = some (.int k n)) (hr : InK k (m + n)) {U : TypeId} : Ev P ⟨d, .binOp .add T x y T', U, pos, af, g⟩ l F H (.int k (m + n)) :=
  ev_arith hx hy _ (.inl ⟨rfl, rfl⟩) (wrap_in hr)
theorem ev_sub {k : IntKind} {m n : Int} (hx : opv l x = some (.int k m)) (hy : opv l y = some (.int k n)) (hr : InK k (m - n)) {U : TypeId} : Ev P ⟨d, .binOp .sub T x y T', U, pos, af, g⟩ l F H (.int k (m - n)) :=
  ev_arith hx hy _ (.inr (.inl ⟨rfl, rfl⟩)) (wrap_in hr)
theorem ev_mul {k : IntKind} {m n : Int} (hx : opv l x = some (.int k m)) (hy : opv l y = some (.int k n)) (hr : InK k (m * n)) {U : TypeId} : Ev P ⟨d, .binOp .mul T x y T', U, pos, af, g⟩ l F H (.int k (m * n)) :=
  ev_arith hx hy _ (.inr (.inr ⟨rfl, rfl⟩)) (wrap_in hr)
theorem ev_addw {k : IntKind} {m n : Int} (hx : opv l x = some (.int k m)) (hy : opv l y = some (.int k n)) {U : TypeId} : Ev P ⟨d, .binOp .add T x y T', U, pos, af, g⟩ l F H (.int k (k.wrap (m + n))) :=
  ev_arith hx hy _ (.inl ⟨rfl, rfl⟩) rfl
theorem ev_quo {k : IntKind} {m n : Int} (hx : opv l x = some (.int k m)) (hy : opv l y = some (.int k n)) (h0 : 0 ≤ m) (h1 : 1 ≤ n) (hm : InK k m) {U : TypeId} : Ev P ⟨d, .binOp .quo T x y T', U, pos, af, g⟩ l F H (.int k (m / n)) := .of fun ρ hρ w _ => by
  have e1 := hρ _ _ hx
  have e2 := hρ _ _ hy
  have hn : ¬ n = 0 := by omega
  have hq : m.tdiv n = m / n := Int.tdiv_eq_ediv_of_nonneg h0
  have hq0 : 0 ≤ m / n := Int.ediv_nonneg h0 (by omega)
  have hq1 : m / n ≤ m := Int.ediv_le_self n h0
  have hw : k.wrap (m / n) = m / n := wrap_in (by cases k <;> simp only [InK] at hm ⊢ <;> omega)
  simp [execOp, e1, e2, eqGuard, binOp, Op.intDiv, go_sem, hn, hq, hw]
theorem ev_rem {k : IntKind} {m n : Int} (hx : opv l x = some (.int k m)) (hy : opv l y = some (.int k n)) (h0 : 0 ≤ m) (h1 : 1 ≤ n) {U : TypeId} : Ev P ⟨d, .binOp .rem T x y T', U, pos, af, g⟩ l F H (.int k (m % n)) := .of fun ρ hρ w _ => by
  have e1 := hρ _ _ hx
  have e2 := hρ _ _ hy
  have hn : ¬ n = 0 := by omega
  have hq : m.tmod n = m % n := Int.tmod_eq_emod_of_nonneg h0
  simp [execOp, e1, e2, eqGuard, binOp, Op.intDiv, go_sem, hn, hq]
theorem ev_cmp_t {op : BinOp} {k : IntKind} {m n : Int} (hx : opv l x = some (.int k m)) (hy : opv l y = some (.int k n)) (h : cmpP op m n) {U : TypeId} : Ev P ⟨d, .binOp op T x y T', U, pos, af, g⟩ l F H (.bool true) := .of fun ρ hρ w _ => by
  have e1 := hρ _ _ hx
  have e2 := hρ _ _ hy
  cases op <;> simp only [cmpP] at h <;> first | exact h.elim | simp [execOp, e1, e2, eqGuard, binOp, Op.intCmp, go_sem, h]
theorem ev_cmp_f {op : BinOp} {k : IntKind} {m n : Int} (hx : opv l x = some (.int k m)) (hy : opv l y = some (.int k n)) (h : cmpN op m n) {U : TypeId} : Ev P ⟨d, .binOp op T x y T', U, pos, af, g⟩ l F H (.bool false) := .of fun ρ hρ w _ => by
  have e1 := hρ _ _ hx
  have e2 := hρ _ _ hy
  cases op <;> simp only [cmpN] at h <;> first | exact h.elim | simp [execOp, e1, e2, eqGuard, binOp, Op.intCmp, go_sem, h]
theorem ev_lss {k : IntKind} {m n : Int} (hx : opv l x = some (.int k m)) (hy : opv l y = some (.int k n)) {U : TypeId} : Ev P ⟨d, .binOp .lss T x y T', U, pos, af, g⟩ l F H (.bool (decide (m < n))) := .of fun ρ hρ w _ => by
  simp [execOp, hρ _ _ hx, hρ _ _ hy, eqGuard, binOp, Op.intCmp, go_sem]
theorem ev_leq {k : IntKind} {m n : Int} (hx : opv l x = some (.int k m)) (hy : opv l y = some (.int k n)) {U : TypeId} : Ev P ⟨d, .binOp .leq T x y T', U, pos, af, g⟩ l F H (.bool (decide (m ≤ n))) := .of fun ρ hρ w _ => by
  simp [execOp, hρ _ _ hx, hρ _ _ hy, eqGuard, binOp, Op.intCmp, go_sem]
theorem ev_gtr {k : IntKind} {m n : Int} (hx : opv l x = some (.int k m)) (hy : opv l y = some (.int k n)) {U : TypeId} : Ev P ⟨d, .binOp .gtr T x y T', U, pos, af, g⟩ l F H (.bool (decide (n < m))) := .of fun ρ hρ w _ => by
  simp [execOp, hρ _ _ hx, hρ _ _ hy, eqGuard, binOp, Op.intCmp, go_sem]
theorem ev_geq {k : IntKind} {m n : Int} (hx : opv l x = some (.int k m)) (hy : opv l y = some (.int k n)) {U : TypeId} : Ev P ⟨d, .binOp .geq T x y T', U, pos, af, g⟩ l F H (.bool (decide (n ≤ m))) := .of fun ρ hρ w _ => by
  simp [execOp, hρ _ _ hx, hρ _ _ hy, eqGuard, binOp, Op.intCmp, go_sem]
theorem ev_eql {k : IntKind} {m n : Int} (hx : opv l x = some (.int k m)) (hy : opv l y = some (.int k n)) {U : TypeId} : Ev P ⟨d, .binOp .eql T x y T', U, pos, af, g⟩ l F H (.bool (decide (m = n))) := .of fun ρ hρ w _ => by
  simp [execOp, hρ _ _ hx, hρ _ _ hy, eqGuard, binOp, Op.intCmp, go_sem]; rfl
theorem ev_neq {k : IntKind} {m n : Int} (hx : opv l x = some (.int k m)) (hy : opv l y = some (.int k n)) {U : TypeId} : Ev P ⟨d, .binOp .neq T x y T', U, pos, af, g⟩ l F H (.bool (!decide (m = n))) := .of fun ρ hρ w _ => by
  simp [execOp, hρ _ _ hx, hρ _ _ hy, eqGuard, binOp, Op.intCmp, go_sem, bne]; rfl
end
end Go.Proofs.YtjjjckmpkldgnaaGreatDoor
namespace Go.Proofs.YtjjjckmpkldgnaaGreatDoor
open Go.RowKit

/-! ### what is asked of the types' table -/
def fieldOff (P : Program) (S i : Nat) : Option Nat := match P.underlying S with
  | some (.struct fs) => match fs[i]? with
    | some ⟨_, t, off, _, _, _, _⟩ => match P.info? t with
      | some ⟨_, _, .succ _, _, _, _, _, _, _, _⟩ => some off
      | _ => none
    | _ => none
  | _ => none
/-- A slice's element type and its size. -/
def elemSize (P : Program) (T : TypeId) : Option (TypeId × Nat) := match P.underlying T with
  | some (.slice e) => match P.info? e with
    | some ⟨_, _, n, _, _, _, _, _, _, _⟩ => some (e, n)
    | none => none
  | _ => none
/-- A struct's (or an array's) size; a plain variable's. -/
def aggSize (P : Program) (T : TypeId) : Option Nat := match P.underlying T with
  | some (.struct _) => (match P.info? T with | some ⟨_, _, n, _, _, _, _, _, _, _⟩ => some n | none => none)
  | some (.array _ _) => (match P.info? T with | some ⟨_, _, n, _, _, _, _, _, _, _⟩ => some n | none => none)
  | _ => none
def plainB (P : Program) (T : TypeId) : Bool := match P.underlying T with
  | some (.struct _) => false
  | some (.array _ _) => false
  | some _ => (match P.info? T with | some ⟨_, _, 1, _, _, _, _, _, _, _⟩ => true | _ => false)
  | none => false
/-- The zero's cells. -/
def zeroCs (P : Program) (T : TypeId) : Option (List Value) := match P.info? T with
  | some ⟨_, _, _, _, _, _, _, some (.agg ⟨cs⟩), _, _⟩ => some cs
  | some ⟨_, _, _, _, _, _, _, some v, _, _⟩ => some [v]
  | _ => none
/-- A slice's element: its type, its size, the zero's cells, its bytes. -/
structure Elem (P : Program) (T E size bytes : Nat) (z : Value) : Prop where
  u : P.underlying T = some (.slice E)
  i : ∃ i, P.info? E = some i ∧ i.zero = some z ∧ i.size = size ∧ i.bytes = bytes ∧ z.cells.size = size ∧ 0 < size
  small : Nat.ble size 16777216 = true
  pos : Nat.ble 1 bytes = true
section
variable {P : Program} {l : Env} {F : PH} {H Hr : List Asrt} {d : Option Nat} {T T' U E : TypeId} {pos : String} {af : Array Edge} {g : Option (Nat × Bool)} {x y : Operand}
theorem run_v {s : Sem Value} {v : Value} {w w' : World} (h : s.run P w = .ok v w') : Sem.run P (do pure (Next.value (← s))) w = .ok (.value v) w' := by
  simp only [bind_pure_comp, Sem.run_map, h, Result.andThen_ok]
theorem run_u {s : Sem Unit} {w w' : World} (h : s.run P w = .ok () w') : Sem.run P (do s; pure Next.skip) w = .ok .skip w' := by
  rw [Sem.run_bind, h]; rfl
theorem run_typeInfo {i : TypeInfo} (h : P.info? T = some i) (w : World) : (typeInfo T).run P w = .ok i w := by simp [typeInfo, h, go_sem]
theorem run_newVar (v : Value) (w : World) : (newVar E v).run P w = .ok ⟨w.heap.size, 0, none⟩ (w.alloc (.cells v.cells E)) := by
  simp [newVar, newRow, go_sem]
theorem ev_fieldAddr {b off n i : Nat} (hx : opv l x = some (.pointer (some ⟨b, off, none⟩))) (hf : fieldOff P T i = some n) : Ev P ⟨d, .fieldAddr T x i, U, pos, af, g⟩ l F H (.pointer (some ⟨b, off + n, none⟩)) := .of fun ρ hρ w _ => by
  have e1 := hρ _ _ hx
  unfold fieldOff at hf
  split at hf
  · rename_i fs hu
    split at hf
    · rename_i nm t o e tg pk bo hfi
      split at hf
      · rename_i a1 a2 sz a4 a5 a6 a7 a8 a9 a10 hinf
        cases hf
        simp [execOp, e1, go_sem, Instr.fieldAt, run_underlying hu, hfi, Instr.sureAddr, fieldPlace, sizeOf, typeInfo, hinf, adr_add]
      · cases hf
    · cases hf
  · cases hf
theorem agg_isAgg {n : Nat} (h : aggSize P T = some n) : ∃ ds i, P.underlying T = some ds ∧ (match ds with | .struct _ | .array _ _ => true | _ => false) = true ∧ P.info? T = some i ∧ i.size = n := by
  unfold aggSize at h
  split at h
  · rename_i hu
    split at h
    · rename_i hi; cases h; exact ⟨_, _, hu, rfl, hi, rfl⟩
    · cases h
  · rename_i hu
    split at h
    · rename_i hi; cases h; exact ⟨_, _, hu, rfl, hi, rfl⟩
    · cases h
  · cases h
theorem plain_info (h : plainB P T = true) : ∃ ds i, P.underlying T = some ds ∧ (match ds with | .struct _ | .array _ _ => true | _ => false) = false ∧ P.info? T = some i ∧ i.size = 1 := by
  unfold plainB at h
  split at h
  · cases h
  · cases h
  · rename_i ds h1 h2 hu
    split at h
    · rename_i hi
      refine ⟨ds, _, hu, ?_, hi, rfl⟩
      cases ds <;> first | rfl | simp_all
    · cases h
  · cases h
theorem run_load_agg {n b off : Nat} {cs : List Value} {w : World} (h : aggSize P T = some n) (hc : Cells (ph w) b off cs) (hn : cs.length = n) : (loadVar T ⟨b, off, none⟩).run P w = .ok (.agg cs.toArray) w := by
  obtain ⟨ds, i, hu, ha, hi, hs⟩ := agg_isAgg h
  have hl := run_loadCells_list (P := P) w ⟨b, off, none⟩ cs hc.world
  subst hn
  rw [← hs] at hl
  simp only [loadCells] at hl
  cases ds <;> simp at ha <;> simp [loadVar, isAgg, run_underlying hu, go_sem, sizeOf, typeInfo, hi, hl]
theorem run_load_one {b off : Nat} {v : Value} {w : World} (h : plainB P T = true) (hc : Cells (ph w) b off [v]) : (loadVar T ⟨b, off, none⟩).run P w = .ok v w := by
  obtain ⟨ds, i, hu, ha, hi, hs⟩ := plain_info h
  have hl := cellF_ph.1 (hc 0 v rfl)
  simp only [Nat.add_zero] at hl
  cases ds <;> simp at ha <;> simp [loadVar, isAgg, run_underlying hu, go_sem, hl]
theorem ev_load_agg {n b off : Nat} {cs : List Value} (hx : opv l x = some (.pointer (some ⟨b, off, none⟩))) (h : aggSize P T = some n) (hc : Rdb F H b off cs) (hn : cs.length = n) : Ev P ⟨d, .load T x, U, pos, af, g⟩ l F H (.agg cs.toArray) := .of fun ρ hρ w hs => by
  have e1 := hρ _ _ hx
  exact run_v (s := Instr.loadAt T (ρ x)) (by rw [e1]; exact run_load_agg h (hc w hs) hn)
theorem ev_load {b off : Nat} {v : Value} (hx : opv l x = some (.pointer (some ⟨b, off, none⟩))) (h : plainB P T = true) (hc : Rdb F H b off [v]) : Ev P ⟨d, .load T x, U, pos, af, g⟩ l F H v := .of fun ρ hρ w hs => by
  have e1 := hρ _ _ hx
  exact run_v (s := Instr.loadAt T (ρ x)) (by rw [e1]; exact run_load_one h (hc w hs))
/-! what the call makes -/
theorem zeroCs_info {cs : List Value} (h : zeroCs P T = some cs) : ∃ i v, P.info? T = some i ∧ i.zero = some v ∧ v.cells = cs.toArray := by
  unfold zeroCs at h
  split at h
  · rename_i hi; cases h; exact ⟨_, _, hi, rfl, rfl⟩
  · rename_i v a9 a10 hv hi
    cases h
    refine ⟨_, _, hi, rfl, ?_⟩
    cases v <;> first | rfl | (exfalso; apply hv; rfl)
  · cases h
theorem ev_alloc {cs : List Value} (h : zeroCs P E = some cs) : Ev' P ⟨d, .alloc E, U, pos, af, g⟩ l F H fun v F' H' => F = F' ∧ ∃ b, v = .pointer (some ⟨b, 0, none⟩) ∧ H' = blk b E cs :: H := .of fun N a w ha hs => by
  obtain ⟨i, z, hi, hz, hc⟩ := zeroCs_info h
  refine ⟨.value (.pointer (some ⟨w.heap.size, 0, none⟩)), w.alloc (.cells cs.toArray E), _, F, blk w.heap.size E cs :: H, ?_, .inl rfl, Mild.alloc w _, PH.ler F, ⟨rfl, _, rfl, rfl⟩, hs.alloc _ _ rfl⟩
  refine run_v (s := Instr.alloc E true (.tuple #[])) ?_
  have h0 : (zeroValue E).run P w = .ok z w := by simp [zeroValue, typeInfo, hi, hz, go_sem]
  rw [← hc]
  simp [Instr.alloc, h0, run_newVar]
theorem ev_box {u : Value} {cs : List Value} (hx : opv l x = some u) (hv : VC u cs) : Ev' P ⟨d, .box E x, U, pos, af, g⟩ l F H fun v F' H' => F = F' ∧ ∃ b, v = .pointer (some ⟨b, 0, none⟩) ∧ H' = blk b E cs :: H := .of fun N a w ha hs => by
  have e1 := ha.opv hx
  refine ⟨.value (.pointer (some ⟨w.heap.size, 0, none⟩)), w.alloc (.cells cs.toArray E), _, F, blk w.heap.size E cs :: H, ?_, .inl rfl, Mild.alloc w _, PH.ler F, ⟨rfl, _, rfl, rfl⟩, hs.alloc _ _ rfl⟩
  refine run_v (s := Instr.box E (a.eval x)) ?_
  rw [e1, ← hv.eq]
  simp [Instr.box, run_newVar]
theorem setRow_ph {w : World} {b : Nat} {cs : Array Value} {E : TypeId} {fr : Nat × Nat} (h : w.heap[b]? = some (.cells cs E fr)) (c : Array Value) : ph (w.setRow b c) b = some (.cells c E fr) := setRow_heap w b cs c E fr h
theorem Mild.setRow (w : World) (b : Nat) (c : Array Value) : Mild w (w.setRow b c) := by
  unfold World.setRow
  exact ⟨rfl, rfl, rfl, by simp⟩
theorem Sat.setRow {b : Nat} {cs vs : List Value} {H' : List Asrt} {w : World} (s : Sat F H w) (u : Upd (blk b E cs) (blk b E vs) H H') : Sat F H' (w.setRow b vs.toArray) := by
  obtain ⟨h, R, hA, hd, hl, _, k⟩ := s.focus u
  have h1 : h = PH.one b (.cells cs.toArray E (0, 0)) := hA
  subst h1
  have hb : w.heap[b]? = some (.cells cs.toArray E (0, 0)) := hl b _ ((PH.le_r hd) b _ (PH.one_self _ _))
  have hR : R b = none := by
    rcases hd b with e | e
    · exact e
    · rw [PH.one_self] at e; cases e
  refine k _ _ rfl (PH.dj_one hR) (PH.un_le (fun c o e => ?_) (PH.one_le (setRow_ph hb _)))
  have hne : c ≠ b := fun ec => by subst ec; rw [hR] at e; cases e
  show (w.setRow b vs.toArray).heap[c]? = some o
  rw [setRow_other w b c _ hne]
  exact hl c o ((PH.le_l _ _) c o e)
theorem ev_store {b off n : Nat} {u : Value} {r vs s : List Value} {H' : List Asrt} (hx : opv l x = some (.pointer (some ⟨b, off, none⟩))) (hy : opv l y = some u) (hv : VC u vs) (ht : (P.info? T).map (·.size) = some n) (hn : vs.length = n)
    (hlay : Lay off vs r s) (h1 : Ones vs) (hu : Upd (blk b E r) (blk b E s) H H') : Ev' P ⟨d, .store T x y, U, pos, af, g⟩ l F H fun v F' H'' => F = F' ∧ v = undef ∧ H'' = H' := .of fun N a w ha hs => by
  have e1 := ha.opv hx
  have e2 := ha.opv hy
  obtain ⟨hs1, hs2⟩ := hlay.eq
  have hb : w.heap[b]? = some (.cells r.toArray E (0, 0)) := by
    obtain ⟨h, R, hA, hd, hl, _, _⟩ := hs.focus hu
    have h1 : h = PH.one b (.cells r.toArray E (0, 0)) := hA
    subst h1
    exact hl b _ ((PH.le_r hd) b _ (PH.one_self _ _))
  refine ⟨.skip, w.setRow b s.toArray, undef, F, H', ?_, .inr ⟨rfl, rfl⟩, Mild.setRow w b _, PH.ler F, ⟨rfl, rfl, rfl⟩, hs.setRow hu⟩
  have hrun := run_storeCells_at P b off E vs 0 r.toArray w hb (by simp; omega) h1
  simp only [Nat.add_zero, List.toList_toArray] at hrun
  rw [← hs1] at hrun
  cases hi : P.info? T with
  | none => rw [hi] at ht; cases ht
  | some i =>
    rw [hi] at ht
    have hsz : i.size = n := by simpa using ht
    refine run_u (s := Instr.storeAt T (a.eval x) (a.eval y)) ?_
    rw [e1, e2]
    show (storeVar T ⟨b, off, none⟩ u).run P w = _
    unfold storeVar
    rw [hv.eq]
    simp [sizeOf, typeInfo, hi, hsz, hn, hrun, run_typeInfo hi]
/-! lengths -/
theorem ev_len_slice {a : Option Addr} {n c : Nat} {E : TypeId} (hx : opv l x = some (.slice a n c)) (hu : P.underlying T = some (.slice E)) : Ev P ⟨d, .call { callee := .builtin .len, args := #[x], argTypes := #[T] }, U, pos, af, g⟩ l F H (.int .i64 n) := .of fun ρ hρ w _ => by
  simp [execOp, hρ _ _ hx, go_sem, resolve, invoke, builtin, Builtin.len_, run_underlying hu, goInt]
theorem ev_len_string {s : ByteArray} (hx : opv l x = some (.string s)) (hu : P.underlying T = some .string) : Ev P ⟨d, .call { callee := .builtin .len, args := #[x], argTypes := #[T] }, U, pos, af, g⟩ l F H (.int .i64 s.size) := .of fun ρ hρ w _ => by
  simp [execOp, hρ _ _ hx, go_sem, resolve, invoke, builtin, Builtin.len_, run_underlying hu, goInt]
theorem ev_cap_slice {a : Option Addr} {n c : Nat} {E : TypeId} (hx : opv l x = some (.slice a n c)) (hu : P.underlying T = some (.slice E)) : Ev P ⟨d, .call { callee := .builtin .cap, args := #[x], argTypes := #[T] }, U, pos, af, g⟩ l F H (.int .i64 c) := .of fun ρ hρ w _ => by
  simp [execOp, hρ _ _ hx, go_sem, resolve, invoke, builtin, Builtin.cap_, run_underlying hu, goInt]
theorem ev_min {k : IntKind} {m n : Int} (hx : opv l x = some (.int k m)) (hy : opv l y = some (.int k n)) {ts : Array TypeId} : Ev P ⟨d, .call { callee := .builtin .min, args := #[x, y], argTypes := ts }, U, pos, af, g⟩ l F H (.int k (min m n)) := .of fun ρ hρ w _ => by
  have e1 := hρ _ _ hx; have e2 := hρ _ _ hy
  by_cases h : n < m
  · have : min m n = n := by omega
    simp [execOp, e1, e2, go_sem, resolve, invoke, builtin, Builtin.min_, Builtin.min2, h, this]
  · have : min m n = m := by omega
    simp [execOp, e1, e2, go_sem, resolve, invoke, builtin, Builtin.min_, Builtin.min2, h, this]
theorem ev_max {k : IntKind} {m n : Int} (hx : opv l x = some (.int k m)) (hy : opv l y = some (.int k n)) {ts : Array TypeId} : Ev P ⟨d, .call { callee := .builtin .max, args := #[x, y], argTypes := ts }, U, pos, af, g⟩ l F H (.int k (max m n)) := .of fun ρ hρ w _ => by
  have e1 := hρ _ _ hx; have e2 := hρ _ _ hy
  by_cases h : m < n
  · have : max m n = n := by omega
    simp [execOp, e1, e2, go_sem, resolve, invoke, builtin, Builtin.max_, Builtin.max2, h, this]
  · have : max m n = m := by omega
    simp [execOp, e1, e2, go_sem, resolve, invoke, builtin, Builtin.max_, Builtin.max2, h, this]
/-! indexes -/
theorem ev_indexAddr {b off n c i size E : Nat} {k : IntKind} (hx : opv l x = some (.slice (some ⟨b, off, none⟩) n c)) (hy : opv l y = some (.int k (i : Int))) (ht : elemSize P T = some (E, size)) (hi : i < n) :
    Ev P ⟨d, .indexAddr T x y, U, pos, af, g⟩ l F H (.pointer (some ⟨b, off + i * size, none⟩)) := .of fun ρ hρ w _ => by
  have e1 := hρ _ _ hx; have e2 := hρ _ _ hy
  unfold elemSize at ht
  split at ht
  · rename_i e hu
    split at ht
    · rename_i hinf
      cases ht
      have h1 : (i : Int) < (n : Int) := by omega
      simp [execOp, e1, e2, go_sem, Instr.indexAt, asIntOf, run_underlying hu, sizeOf, typeInfo, hinf, h1, adr_add, hi]
    · cases ht
  · cases ht
theorem ev_index_string {s : ByteArray} {i : Nat} {k : IntKind} (hx : opv l x = some (.string s)) (hy : opv l y = some (.int k (i : Int))) (ht : P.underlying T = some .string) (hi : i < s.size) :
    Ev P ⟨d, .index T x y, U, pos, af, g⟩ l F H (.int .u8 (s[i]'hi).toNat) := .of fun ρ hρ w _ => by
  have e1 := hρ _ _ hx; have e2 := hρ _ _ hy
  have h1 : s[i]? = some (s[i]'hi) := by simp [hi]
  simp [execOp, e1, e2, go_sem, Instr.index, asIntOf, run_underlying ht, h1]
/-! a cut of a slice -/
end
end Go.Proofs.YtjjjckmpkldgnaaGreatDoor
