/-
  Open orders: what a call has left may be kept for good, and what is read of it may then be taken first. Plain theorems over any program; no condition.
  Arrays of bytes as values: compared, read; a copy of bytes into a block of the call's own. Plain theorems over any program; no condition.
  Copies: into a block of the call's own. Plain theorems over any program; no condition.
  Texts gone through rune by rune: the iterator as the call's own. Plain theorems over any program; no condition.
  Structs ae values: compared field by field. Plain theorems over any program; no condition.
  Maps of the call's own: keys as plain data; made, looked up, updated, entries stored, deleted. Conditions are typed with each.
-/
import Derived.Test.YtjjjckmpkldgnaaGreatDoorOd
import Derived.Stop.BytesEq
import Derived.Laws.CopyOwn
import Derived.Lib.OthersKept
import Derived.Laws.RangeString
import Derived.Laws.StructEq
import Derived.WideKeyRuns
import Derived.MapKept
namespace Go.Proofs.YtjjjckmpkldgnaaGreatDoor
open Go.RowKit
section
variable {C : Ctx} {S : World → Prop} {ops : Array Oper} {fuel : Nat} {listed : Array Bool} {k : List KItem} {l : Env} {F Fs : PH} {H Hs : List Asrt}
theorem aWeak {F' : PH} {H' : List Asrt} (h : JA C S ops fuel listed k l F' H') (hS : ∀ w, Sat F' H' w → S w) (s : ∀ w, Sat F H w → Sat F' H' w) : JA C S ops fuel listed k l F H := by
  unfold JA at *
  exact fun _ a w ha hm hs => h hS a w ha hm (s w hs)
end
end Go.Proofs.YtjjjckmpkldgnaaGreatDoor
namespace Go.Proofs.YtjjjckmpkldgnaaGreatDoor
open Go.RowKit
section
variable {P : Program} {l : Env} {F : PH} {H Hr H' : List Asrt} {d : Option Nat} {T T' U E : TypeId} {pos : String} {af : Array Edge} {gd : Option (Nat × Bool)} {x y z y' z' : Operand}
theorem arr_equal {e n : Nat} (ht : arrOf P T = some (n, e, 1)) (he : P.underlying e = some (.int .u8)) (xs ys : List UInt8) (hx : xs.length = n) (hy : ys.length = n) (w : World) :
    (Op.equal T (.agg (u8s xs).toArray) (.agg (u8s ys).toArray)).run P w = .ok (xs == ys) w := by
  obtain ⟨hu, i, hi, hs⟩ := arrOf_info ht
  exact run_equalIn_bytes w 9998 T e n hu he (fun w => by rw [run_sizeOf hi, hs]) xs ys hx hy
theorem ev_arr_eql {e n : Nat} {xs ys : List UInt8} (hx : opv l x = some (.agg (u8s xs).toArray)) (hy : opv l y = some (.agg (u8s ys).toArray)) (ht : arrOf P T = some (n, e, 1)) (he : P.underlying e = some (.int .u8)) (hxl : xs.length = n) (hyl : ys.length = n) (hm : P.eqGuardType P.depth T = false) :
    Ev P ⟨d, .binOp .eql T x y T', U, pos, af, gd⟩ l F H (.bool (xs == ys)) := .of fun ρ hρ w _ => by
  have e1 := hρ _ _ hx; have e2 := hρ _ _ hy
  have hr := arr_equal (P := P) ht he xs ys hxl hyl w
  refine run_v2 ?_ ?_
  · rw [e1, e2]; exact run_eqGuard_agg _ _ _ _ _ _ _ hm
  · rw [e1, e2]; simp [binOp, hr]
end
end Go.Proofs.YtjjjckmpkldgnaaGreatDoor
namespace Go.Proofs.YtjjjckmpkldgnaaGreatDoor
open Go.RowKit
section
variable {P : Program} {l : Env} {F : PH} {H Hr H' : List Asrt} {d : Option Nat} {T T' U E : TypeId} {pos : String} {af : Array Edge} {gd : Option (Nat × Bool)} {x y z y' z' : Operand}
theorem blk_heap {b : Nat} {E : TypeId} {r s : List Value} {w : World} (hs : Sat F H w) (hu : Upd (blk b E r) (blk b E s) H H') : w.heap[b]? = some (.cells r.toArray E (0, 0)) := by
  obtain ⟨h, R, hA, hd, hl, _, _⟩ := hs.focus hu
  have h1 : h = PH.one b (.cells r.toArray E (0, 0)) := hA
  subst h1
  exact hl b _ ((PH.le_r hd) b _ (PH.one_self _ _))
/-- 'copy(d, s)', d in a block of the call's own, elements of one cell. -/
theorem ev_copy {b off n c m c2 k e : Nat} {a2 : Option Addr} {r s cs news : List Value} (hx : opv l x = some (.slice (some ⟨b, off, none⟩) n c)) (hy : opv l y = some (.slice a2 m c2)) (ht : elemSize P T = some (e, 1))
    (hr : RdS F H 1 (.slice a2 m c2) m news) (h1 : Ones news) (hk : Nat.min m n = k) (hcs : news.take k = cs) (hlay : Lay off cs r s) (hu : Upd (blk b E r) (blk b E s) H H') :
    Ev' P ⟨d, .call { callee := .builtin .copy, args := #[x, y], argTypes := #[T, T'] }, U, pos, af, gd⟩ l F H fun v F' H'' => F = F' ∧ v = .int .i64 k ∧ H'' = H' := .of fun N A w ha hs => by
  have e1 := ha.opv hx
  have e2 := ha.opv hy
  obtain ⟨hs1, hs2⟩ := hlay.eq
  have hb := blk_heap hs hu
  obtain ⟨hul, hsz⟩ := elemSize_info ht
  have hsz' : (P.info? e).map (·.size) = some 1 := by obtain ⟨i, hi, h⟩ := hsz; rw [hi]; simp [h]
  have hlen := hr.1
  have hcl : cs.length = k := by
    subst hcs
    rw [List.length_take, hlen, Nat.mul_one]
    have : k ≤ m := by subst hk; exact Nat.min_le_left _ _
    omega
  by_cases h0 : k = 0
  · have hcs0 : cs = [] := List.eq_nil_of_length_eq_zero (by omega)
    have hst : s = r := by rw [hs1, hcs0]; simp
    have hrun := run_copy_none (P := P) w T T' U e (some ⟨b, off, none⟩) a2 n c m c2 hul hsz' (by omega)
    refine ⟨.value (goInt 0), w, goInt 0, F, H', ?_, .inl rfl, Mild.refl w, PH.ler F, ⟨rfl, by subst h0; rfl, rfl⟩, ?_⟩
    · generalize A.eval = ρ at e1 e2 ⊢
      simp only [execOp, resolve, List.map_toArray, List.map_cons, List.map_nil, e1, e2, pure_bind, invoke, builtin]
      exact run_v hrun
    · have h2 := hs.setRow hu
      refine h2.world fun b' o h => ?_
      by_cases hbb : b = b'
      · subst hbb
        rw [setRow_ph hb] at h
        rw [hst] at h
        exact hb.trans h
      · have h3 : (w.setRow b s.toArray).heap[b']? = some o := h
        rw [setRow_other w b b' _ (fun e => hbb e.symm)] at h3
        exact h3
  · have hm0 : 0 < m := by
      have : k ≤ m := by subst hk; exact Nat.min_le_left _ _
      omega
    obtain ⟨b2, off2, rfl, hw⟩ := hr.at hs hm0
    have hrun := run_copy_row (P := P) w T T' U e b off n c ⟨b2, off2, none⟩ m c2 r.toArray E cs hul hsz' hb (by omega) (fun j v hj => hw j v (by
      subst hcs
      rw [List.getElem?_take] at hj
      split at hj
      · exact hj
      · cases hj)) (by simpa using hs2) (fun v hv => h1 v (by subst hcs; exact List.mem_of_mem_take hv))
    refine ⟨.value (goInt cs.length), w.setRow b s.toArray, goInt cs.length, F, H', ?_, .inl rfl, Mild.setRow w b _, PH.ler F, ⟨rfl, by rw [hcl]; rfl, rfl⟩, hs.setRow hu⟩
    generalize A.eval = ρ at e1 e2 ⊢
    simp only [execOp, resolve, List.map_toArray, List.map_cons, List.map_nil, e1, e2, pure_bind, invoke, builtin]
    refine run_v ?_
    rw [hrun]
    simp only [List.toList_toArray]
    rw [← hs1]
end
end Go.Proofs.YtjjjckmpkldgnaaGreatDoor
namespace Go.Proofs.YtjjjckmpkldgnaaGreatDoor
open Go.RowKit
def siter (b : Nat) (s : ByteArray) (pos : Nat) : Asrt := fun h => h = PH.one b (.stringIter s pos)
/-- Some object of the call's own, put anew. -/
theorem Sat.putObj {F : PH} {H H' : List Asrt} {w : World} {b : Nat} {o o' : Obj} (s : Sat F H w) (u : Upd (fun h => h = PH.one b o) (fun h => h = PH.one b o') H H') : w.heap[b]? = some o ∧ Sat F H' { w with heap := w.heap.setIfInBounds b o' } := by
  obtain ⟨h, R, hA, hd, hl, _, k⟩ := s.focus u
  have h1 : h = PH.one b o := hA
  subst h1
  have hb : w.heap[b]? = some o := hl b _ ((PH.le_r hd) b _ (PH.one_self _ _))
  have hlt : b < w.heap.size := (Array.getElem?_eq_some_iff.1 hb).1
  have hR : R b = none := by
    rcases hd b with e | e
    · exact e
    · rw [PH.one_self] at e; cases e
  refine ⟨hb, k _ _ rfl (PH.dj_one hR) (PH.un_le (fun c o e => ?_) (PH.one_le ?_))⟩
  · have hne : c ≠ b := fun ec => by subst ec; rw [hR] at e; cases e
    have := hl c o ((PH.le_l _ _) c o e)
    show (w.heap.setIfInBounds b o')[c]? = some o
    rw [Array.getElem?_setIfInBounds_ne (Ne.symm hne)]
    exact this
  · show (w.heap.setIfInBounds b o')[b]? = some o'
    rw [Array.getElem?_setIfInBounds_self_of_lt hlt]
theorem Mild.putObj (w : World) (b : Nat) (o : Obj) : Mild w { w with heap := w.heap.setIfInBounds b o } := ⟨rfl, rfl, rfl, by simp⟩
section
variable {P : Program} {l : Env} {F : PH} {H H' : List Asrt} {d : Option Nat} {T U : TypeId} {pos : String} {af : Array Edge} {g : Option (Nat × Bool)} {x : Operand}
end
end Go.Proofs.YtjjjckmpkldgnaaGreatDoor
namespace Go.Proofs.YtjjjckmpkldgnaaGreatDoor
open Go.RowKit
/-- Two structs' cells from offset o on, and whether the fields agree. -/
inductive EqC (P : Program) (d : Nat) : Nat → List Value → List Value → List Field → Bool → Prop where
  | nil {o : Nat} {xs ys : List Value} : EqC P d o xs ys [] true
  | int {f : Field} {fs : List Field} {k k' : IntKind} {a b : Int} {xs ys : List Value} {r : Bool} {o : Nat} (hn : f.name ≠ "_") (ho : f.offset = o) (ht : P.underlying f.type = some (.int k')) (t : EqC P d (o + 1) xs ys fs r) :
      EqC P d o (.int k a :: xs) (.int k b :: ys) (f :: fs) (decide (a = b) && r)
  | bool {f : Field} {fs : List Field} {a b : Bool} {xs ys : List Value} {r : Bool} {o : Nat} (hn : f.name ≠ "_") (ho : f.offset = o) (ht : P.underlying f.type = some .bool) (t : EqC P d (o + 1) xs ys fs r) :
      EqC P d o (.bool a :: xs) (.bool b :: ys) (f :: fs) (decide (a = b) && r)
  | str {f : Field} {fs : List Field} {a b : ByteArray} {xs ys : List Value} {r : Bool} {o : Nat} (hn : f.name ≠ "_") (ho : f.offset = o) (ht : P.underlying f.type = some .string) (t : EqC P d (o + 1) xs ys fs r) :
      EqC P d o (.string a :: xs) (.string b :: ys) (f :: fs) (decide (a.toList = b.toList) && r)
  | arr {f : Field} {fs : List Field} {ae bs : List UInt8} {e n : Nat} {xs ys : List Value} {r : Bool} {o : Nat} (hn : f.name ≠ "_") (ho : f.offset = o) (ht : arrOf P f.type = some (n, e, 1)) (hz : aggSize P f.type = some n) (he : P.underlying e = some (.int .u8)) (ha : ae.length = n) (hb : bs.length = n)
      (t : EqC P d (o + n) xs ys fs r) : EqC P d o (u8s ae ++ xs) (u8s bs ++ ys) (f :: fs) (decide (ae = bs) && r)
  | sub {f : Field} {fs : List Field} {us vs : List Value} {n : Nat} {xs ys : List Value} {r r1 : Bool} {o : Nat} (hn : f.name ≠ "_") (ho : f.offset = o) (hz : aggSize P f.type = some n) (ha : us.length = n) (hb : vs.length = n)
      (he : ∀ w, (Op.equalIn d f.type (.agg us.toArray) (.agg vs.toArray)).run P w = .ok r1 w) (t : EqC P d (o + n) xs ys fs r) : EqC P d o (us ++ xs) (vs ++ ys) (f :: fs) (r1 && r)
theorem run_part_1 {P : Program} {T off : Nat} {cs : List Value} {v : Value} {ds : TypeDesc} (hu : P.underlying T = some ds) (hds : (match ds with | .struct _ | .array _ _ => true | _ => false) = false) (h : cs[off]? = some v) (w : World) : (part T cs.toArray off).run P w = .ok v w := by
  have hi : (isAgg T).run P w = .ok false w := by
    unfold isAgg
    simp [run_underlying hu, go_sem]
    cases ds <;> simp_all
  unfold part
  simp [hi, h, go_sem]
theorem run_part_n {P : Program} {T off n : Nat} {cs : List Value} (hz : aggSize P T = some n) (w : World) : (part T cs.toArray off).run P w = .ok (.agg ((cs.drop off).take n).toArray) w := by
  obtain ⟨ds, i, hu, hds, hi, hs⟩ := agg_isAgg hz
  have hi' : (isAgg T).run P w = .ok true w := by
    unfold isAgg
    simp [run_underlying hu, go_sem]
    cases ds <;> simp_all
  unfold part
  simp [hi', run_sizeOf hi, hs, go_sem]
theorem eqC_run {P : Program} {d o : Nat} {xs ys : List Value} {fs : List Field} {r : Bool} (h : EqC P (d + 2) o xs ys fs r) : ∀ (px py : List Value), px.length = o → py.length = o → ∀ w, (Op.eqFields (d + 2) (px ++ xs).toArray (py ++ ys).toArray fs).run P w = .ok r w := by
  induction h with
  | nil => intro px py _ _ w; simp [Op.eqFields]
  | @int f fs k k' a b xs ys r o hn ho ht _ ih =>
    intro px py hx hy w
    have p1 := run_part_1 (cs := px ++ .int k a :: xs) (off := o) (v := .int k a) ht rfl (by rw [← hx]; simp) w
    have p2 := run_part_1 (cs := py ++ .int k b :: ys) (off := o) (v := .int k b) ht rfl (by rw [← hy]; simp) w
    have p3 := run_equalIn_int (P := P) w (d + 1) f.type k k' a b ht
    have := ih (px ++ [.int k a]) (py ++ [.int k b]) (by simp [hx]) (by simp [hy]) w
    simp only [List.append_assoc, List.singleton_append] at this
    simp only [Op.eqFields, ne_eq, hn, not_false_eq_true, if_true, ho, Sem.run_bind, p1, p2, p3, Result.andThen_ok]
    by_cases hab : a = b
    · subst hab; simpa using this
    · have : (a == b) = false := by simpa using hab
      simp [this, hab]
  | @bool f fs a b xs ys r o hn ho ht _ ih =>
    intro px py hx hy w
    have p1 := run_part_1 (cs := px ++ .bool a :: xs) (off := o) (v := .bool a) ht rfl (by rw [← hx]; simp) w
    have p2 := run_part_1 (cs := py ++ .bool b :: ys) (off := o) (v := .bool b) ht rfl (by rw [← hy]; simp) w
    have p3 := run_equalIn_bool' (P := P) w (d + 1) f.type a b ht
    have := ih (px ++ [.bool a]) (py ++ [.bool b]) (by simp [hx]) (by simp [hy]) w
    simp only [List.append_assoc, List.singleton_append] at this
    simp only [Op.eqFields, ne_eq, hn, not_false_eq_true, if_true, ho, Sem.run_bind, p1, p2, p3, Result.andThen_ok]
    by_cases hab : a = b
    · subst hab; simpa using this
    · have : (a == b) = false := by simpa using hab
      simp [this, hab]
  | @str f fs a b xs ys r o hn ho ht _ ih =>
    intro px py hx hy w
    have p1 := run_part_1 (cs := px ++ .string a :: xs) (off := o) (v := .string a) ht rfl (by rw [← hx]; simp) w
    have p2 := run_part_1 (cs := py ++ .string b :: ys) (off := o) (v := .string b) ht rfl (by rw [← hy]; simp) w
    have p3 := run_equalIn_string (P := P) w (d + 1) f.type a b ht
    have := ih (px ++ [.string a]) (py ++ [.string b]) (by simp [hx]) (by simp [hy]) w
    simp only [List.append_assoc, List.singleton_append] at this
    simp only [Op.eqFields, ne_eq, hn, not_false_eq_true, if_true, ho, Sem.run_bind, p1, p2, p3, Result.andThen_ok]
    by_cases hab : a.toList = b.toList
    · simp only [hab, beq_self_eq_true, Bool.not_true, Bool.false_eq_true, if_false, decide_true, Bool.true_and]; exact this
    · have : (a.toList == b.toList) = false := by simpa using hab
      simp [this, hab]
  | @arr f fs ae bs e n xs ys r o hn ho ht hz he ha hb _ ih =>
    intro px py hx hy w
    obtain ⟨hu, i, hi, hs⟩ := arrOf_info ht
    have la : (u8s ae).length = n := by simp [u8s, ha]
    have lb : (u8s bs).length = n := by simp [u8s, hb]
    have p1 := run_part_n (cs := px ++ (u8s ae ++ xs)) (off := o) hz w
    have p2 := run_part_n (cs := py ++ (u8s bs ++ ys)) (off := o) hz w
    rw [← hx, List.drop_left, ← la, List.take_left] at p1
    rw [← hy, List.drop_left, ← lb, List.take_left] at p2
    have p3 := run_equalIn_bytes w d f.type e n hu he (fun w => by rw [run_sizeOf hi, hs]) ae bs ha hb
    have := ih (px ++ u8s ae) (py ++ u8s bs) (by simp [hx, la]) (by simp [hy, lb]) w
    simp only [List.append_assoc] at this
    rw [hx] at p1
    rw [hy] at p2
    have hp3 : (Op.equalIn (d + 2) f.type (.agg (u8s ae).toArray) (.agg (u8s bs).toArray)).run P w = .ok (ae == bs) w := p3
    simp only [Op.eqFields, ne_eq, hn, not_false_eq_true, if_true, ho, Sem.run_bind, p1, p2, hp3, Result.andThen_ok]
    by_cases hab : ae = bs
    · subst hab; simpa using this
    · have : (ae == bs) = false := by simpa using hab
      simp [this, hab]
  | @sub f fs us vs n xs ys r r1 o hn ho hz ha hb he _ ih =>
    intro px py hx hy w
    have p1 := run_part_n (cs := px ++ (us ++ xs)) (off := o) hz w
    have p2 := run_part_n (cs := py ++ (vs ++ ys)) (off := o) hz w
    rw [← hx, List.drop_left, ← ha, List.take_left] at p1
    rw [← hy, List.drop_left, ← hb, List.take_left] at p2
    have p3 := he w
    have := ih (px ++ us) (py ++ vs) (by simp [hx, ha]) (by simp [hy, hb]) w
    simp only [List.append_assoc] at this
    rw [hx] at p1
    rw [hy] at p2
    simp only [Op.eqFields, ne_eq, hn, not_false_eq_true, if_true, ho, Sem.run_bind, p1, p2, p3, Result.andThen_ok]
    cases r1
    · simp
    · simpa using this
theorem eqC_struct {P : Program} {T d : Nat} {xs ys : List Value} {r : Bool} (hu : P.underlying T = some (.struct (P.fieldsOf T))) (hp : P.stoodInHeld T = false) (h : EqC P (d + 2) 0 xs ys (P.fieldsOf T).toList r) (w : World) :
    (Op.equalIn (d + 3) T (.agg xs.toArray) (.agg ys.toArray)).run P w = .ok r w := by
  rw [run_equalIn_struct w (d + 2) T _ _ hu hp]
  exact eqC_run h [] [] rfl rfl w
section
variable {P : Program} {l : Env} {F : PH} {H : List Asrt} {d : Option Nat} {T T' U : TypeId} {pos : String} {af : Array Edge} {gd : Option (Nat × Bool)} {x y : Operand}
end
end Go.Proofs.YtjjjckmpkldgnaaGreatDoor
namespace Go.Proofs.YtjjjckmpkldgnaaGreatDoor
open Go.RowKit
set_option maxRecDepth 100000
/-- The first entry whose key is a. -/
def scanK {α : Type} [DecidableEq α] (a : α) : List (α × Value) → Nat → Option (Nat × Value)
  | [], _ => none
  | (k, v) :: r, i => if a = k then some (i, v) else scanK a r (i + 1)
/-- A key's type as plain data. -/
structure KeyT (P : Program) (kt : TypeId) (α : Type) [DecidableEq α] where
  val : α → Value
  chk : ∀ (b : Bool) (a : α) (w : World), (Instr.checkKey b 10000 kt (val a)).run P w = .ok () w
  find : ∀ (a : α) (M : List (α × Value)) (es : List MapEntry), es.map (fun e => (e.key, e.val)) = M.map (fun p => (val p.1, p.2)) → ∀ w, (Instr.findKey kt (val a) es).run P w = .ok (scanK a M 0) w
  same : ∀ a, Instr.sameBits 10000 (val a) (val a) = true
theorem checkKey_int {P : Program} {kt : TypeId} {k : IntKind} (hk : P.underlying kt = some (.int k)) (n : Nat) (b : Bool) (v : Value) (w : World) : (Instr.checkKey b (n + 1) kt v).run P w = .ok () w := by
  cases v <;> simp [Instr.checkKey, run_underlying hk]
theorem find_wide {P : Program} {kt : TypeId} {α : Type} [DecidableEq α] (val : α → Value) (hwide : (match P.underlying kt with | some (.array _ _) | some (.struct _) => true | _ => false) = true)
    (heq : ∀ (a b : α) (w : World), (Op.equal kt (val a) (val b)).run P w = .ok (decide (a = b)) w) (a : α) (M : List (α × Value)) (es : List MapEntry) (h : es.map (fun e => (e.key, e.val)) = M.map (fun p => (val p.1, p.2))) (w : World) :
    (Instr.findKey kt (val a) es).run P w = .ok (scanK a M 0) w := by
  rw [run_findKey_eq w hwide]
  have key : ∀ (M : List (α × Value)) (es : List MapEntry) (i : Nat), es.map (fun e => (e.key, e.val)) = M.map (fun p => (val p.1, p.2)) → (Instr.findAsking kt (val a) es i).run P w = .ok (scanK a M i) w := by
    intro M
    induction M with
    | nil => intro es i h; cases es with
      | nil => rfl
      | cons e es => simp at h
    | cons p M ih =>
      intro es i h
      cases es with
      | nil => simp at h
      | cons e es =>
        simp only [List.map_cons, List.cons.injEq, Prod.mk.injEq] at h
        obtain ⟨⟨h1, h2⟩, h3⟩ := h
        obtain ⟨k', v'⟩ := p
        dsimp only at h1 h2
        unfold Instr.findAsking
        simp only [Sem.run_bind, h1, heq, Result.andThen_ok, scanK]
        by_cases hak : a = k'
        · subst hak; simp [h2]
        · simp [hak, ih es (i + 1) h3]
  exact key M es 0 h
/-! a map of the call's own -/
def MpC {P : Program} {kt : TypeId} {α : Type} [DecidableEq α] (K : KeyT P kt α) (M : List (α × Value)) (es : Array MapEntry) (clock : Nat) : Prop :=
  es.toList.map (fun e => (e.key, e.val)) = M.map (fun p => (K.val p.1, p.2)) ∧ (∀ e ∈ es.toList, e.born < clock) ∧ (es.toList.map (·.born)).Nodup
def mp {P : Program} {kt : TypeId} {α : Type} [DecidableEq α] (K : KeyT P kt α) (b : Nat) (M : List (α × Value)) : Asrt := fun h => ∃ es clock, h = PH.one b (.map es clock) ∧ MpC K M es clock
section
variable {α : Type} [DecidableEq α]
def getK (M : List (α × Value)) (a : α) : Option Value := (scanK a M 0).map (·.2)
def setK (M : List (α × Value)) (a : α) (v : Value) : List (α × Value) := match M with
  | [] => [(a, v)]
  | (k, u) :: r => if a = k then (k, v) :: r else (k, u) :: setK r a v
def delK (M : List (α × Value)) (a : α) : List (α × Value) := match M with
  | [] => []
  | (k, u) :: r => if a = k then r else (k, u) :: delK r a
theorem scanK_shift (a : α) : ∀ (M : List (α × Value)) (i : Nat), scanK a M i = (scanK a M 0).map fun p => (p.1 + i, p.2)
  | [], _ => rfl
  | (k, v) :: r, i => by
    unfold scanK
    by_cases h : a = k
    · rw [if_pos h, if_pos h]; simp
    · rw [if_neg h, if_neg h, scanK_shift a r (i + 1), scanK_shift a r (0 + 1)]
      generalize scanK a r 0 = q
      cases q with
      | none => rfl
      | some p => simp; omega
theorem scanK_cons (k : α) (v : Value) (r : List (α × Value)) (a : α) (i : Nat) : scanK a ((k, v) :: r) i = if a = k then some (i, v) else scanK a r (i + 1) := rfl
theorem getK_cons (k : α) (v : Value) (r : List (α × Value)) (a : α) : getK ((k, v) :: r) a = if a = k then some v else getK r a := by
  unfold getK
  rw [scanK_cons]
  by_cases h : a = k
  · rw [if_pos h, if_pos h]; rfl
  · rw [if_neg h, if_neg h, scanK_shift]
    generalize scanK a r 0 = q
    cases q <;> rfl
/-- What an array of entries becomes, by the place found. -/
theorem scanK_some {a : α} : ∀ {M : List (α × Value)} {i : Nat} {v : Value}, scanK a M 0 = some (i, v) → M[i]? = some (a, v) ∧ ∀ u, setK M a u = M.set i (a, u) ∧ delK M a = M.eraseIdx i
  | [], _, _, h => by cases h
  | (k, u) :: r, i, v, h => by
    unfold scanK at h
    by_cases hk : a = k
    · rw [if_pos hk] at h
      cases h
      subst hk
      exact ⟨rfl, fun u => ⟨by unfold setK; rw [if_pos rfl]; rfl, by unfold delK; rw [if_pos rfl]; rfl⟩⟩
    · rw [if_neg hk, scanK_shift] at h
      cases hr : scanK a r 0 with
      | none => rw [hr] at h; cases h
      | some p =>
        rw [hr] at h
        cases h
        obtain ⟨h1, h2⟩ := scanK_some (i := p.1) (v := p.2) hr
        refine ⟨h1, fun u => ?_⟩
        obtain ⟨h3, h4⟩ := h2 u
        exact ⟨by unfold setK; rw [if_neg hk, h3]; rfl, by unfold delK; rw [if_neg hk, h4]; rfl⟩
theorem scanK_none {a : α} : ∀ {M : List (α × Value)}, scanK a M 0 = none → ∀ u, setK M a u = M ++ [(a, u)] ∧ delK M a = M
  | [], _, u => ⟨rfl, rfl⟩
  | (k, v) :: r, h, u => by
    unfold scanK at h
    by_cases hk : a = k
    · rw [if_pos hk] at h; cases h
    · rw [if_neg hk, scanK_shift] at h
      have hr : scanK a r 0 = none := by
        cases hr : scanK a r 0 with
        | none => rfl
        | some p => rw [hr] at h; cases h
      obtain ⟨h1, h2⟩ := scanK_none hr u
      exact ⟨by unfold setK; rw [if_neg hk, h1]; rfl, by unfold delK; rw [if_neg hk, h2]⟩
end
theorem run_getMap {P : Program} {w : World} {r : Nat} {es : Array MapEntry} {clock : Nat} (hb : w.heap[r]? = some (.map es clock)) : (getObj r).run P w = .ok (.map es clock) w := by simp [getObj, Sem.run, hb]
theorem run_setMap {P : Program} {w : World} {r : Nat} {es : Array MapEntry} {clock : Nat} (o : Obj) (hb : w.heap[r]? = some (.map es clock)) : (setObj r o).run P w = .ok () { w with heap := w.heap.setIfInBounds r o } := by simp [setObj, Sem.run, hb]
def mapOf (P : Program) (T : TypeId) : Option (TypeId × TypeId) := match P.underlying T with
  | some (.map k e) => some (k, e)
  | _ => none
theorem mapOf_u {P : Program} {T k e : TypeId} (h : mapOf P T = some (k, e)) : P.underlying T = some (.map k e) := by
  unfold mapOf at h
  split at h
  · rename_i hu; cases h; exact hu
  · cases h
/-- The zero of a map's elements. -/
def zeroV (P : Program) (T : TypeId) : Option Value := match P.info? T with
  | some ⟨_, _, _, _, _, _, _, z, _, _⟩ => z
  | none => none
theorem zeroV_run {P : Program} {T : TypeId} {z : Value} (h : zeroV P T = some z) (w : World) : (zeroValue T).run P w = .ok z w := by
  unfold zeroV at h
  split at h
  · rename_i hi; simp [zeroValue, typeInfo, hi, h, go_sem]
  · cases h
section
variable {P : Program} {l : Env} {F : PH} {H H' Hr : List Asrt} {d : Option Nat} {T U kt et : TypeId} {pos : String} {af : Array Edge} {g : Option (Nat × Bool)} {x y z : Operand} {α : Type} [DecidableEq α] {K : KeyT P kt α} {b : Nat} {M : List (α × Value)}
/-- What stands in the block. -/
theorem mp_obj {w : World} (hs : Sat F H w) (p : Pick (mp K b M) H Hr) : ∃ es clock, w.heap[b]? = some (.map es clock) ∧ MpC K M es clock := by
  obtain ⟨_, ⟨h, r, ⟨es, c, rfl, hc⟩, hr, hhr, rfl⟩, hd, hl⟩ := hs.pick p
  exact ⟨es, c, hl b _ ((PH.le_r hd) b _ ((PH.le_l _ _) b _ (PH.one_self _ _))), hc⟩
theorem ev_lookup_ok {a : α} {zv : Value} {r : Value} (hx : opv l x = some (.map (some b))) (hy : opv l y = some (K.val a)) (ht : mapOf P T = some (kt, et)) (hz : zeroV P et = some zv) (p : Pick (mp K b M) H Hr)
    (hr : r = (match getK M a with | some v => .tuple #[v, .bool true] | none => .tuple #[zv, .bool false])) : Ev P ⟨d, .lookup T x y true, U, pos, af, g⟩ l F H r := .of fun ρ hρ w hs => by
  have e1 := hρ _ _ hx; have e2 := hρ _ _ hy
  obtain ⟨es, c, hb, hc⟩ := mp_obj hs p
  have hf := K.find a M es.toList hc.1 w
  subst hr
  refine run_v (s := Instr.lookup T (ρ x) (ρ y) true) ?_
  rw [e1, e2]
  unfold Instr.lookup getK
  cases hsc : scanK a M 0 with
  | none => simp [run_underlying (mapOf_u ht), run_getMap hb, go_sem, K.chk, hf, hsc, zeroV_run hz]
  | some q => simp [run_underlying (mapOf_u ht), run_getMap hb, go_sem, K.chk, hf, hsc]
theorem ev_len_map (hx : opv l x = some (.map (some b))) (ht : mapOf P T = some (kt, et)) (p : Pick (mp K b M) H Hr) : Ev P ⟨d, .call { callee := .builtin .len, args := #[x], argTypes := #[T] }, U, pos, af, g⟩ l F H (.int .i64 M.length) := .of fun ρ hρ w hs => by
  have e1 := hρ _ _ hx
  obtain ⟨es, c, hb, hc⟩ := mp_obj hs p
  have hl : es.size = M.length := by have := congrArg List.length hc.1; simpa using this
  simp [execOp, e1, go_sem, resolve, invoke, builtin, Builtin.len_, run_underlying (mapOf_u ht), run_getMap hb, goInt, hl]
end
/-! what changes a map -/
theorem set_same {β : Type} {L : List β} {i : Nat} {x : β} (h : L[i]? = some x) : L.set i x = L := by
  apply List.ext_getElem?
  intro j
  rw [List.getElem?_set]
  by_cases hij : i = j
  · subst hij
    obtain ⟨hlt, _⟩ := List.getElem?_eq_some_iff.1 h
    rw [if_pos rfl, if_pos hlt, h]
  · rw [if_neg hij]
theorem mpC_set {P : Program} {kt : TypeId} {α : Type} [DecidableEq α] {K : KeyT P kt α} {M : List (α × Value)} {es : Array MapEntry} {c i : Nat} {a : α} {v u : Value} (hc : MpC K M es c) (hs : scanK a M 0 = some (i, v)) : MpC K (setK M a u) (es.modify i fun e => { e with key := K.val a, val := u }) c := by
  obtain ⟨h1, h2, h3⟩ := hc
  obtain ⟨hM, hset⟩ := scanK_some hs
  rw [(hset u).1]
  have hlen : es.toList.length = M.length := by have := congrArg List.length h1; simpa using this
  have hi : i < M.length := (List.getElem?_eq_some_iff.1 hM).1
  have hmod : (es.modify i fun e => { e with key := K.val a, val := u }).toList = es.toList.set i { (es.toList[i]'(by omega)) with key := K.val a, val := u } := by
    rw [Array.toList_modify]
    apply List.ext_getElem?
    intro j
    rw [List.getElem?_modify, List.getElem?_set]
    by_cases hij : i = j
    · subst hij
      have hlt : i < es.size := by simp at hlen; omega
      simp [hlt]
    · simp [hij]
  refine ⟨?_, ?_, ?_⟩
  · rw [hmod, List.map_set, h1, List.map_set]
  · intro e he
    rw [hmod] at he
    rcases List.mem_or_eq_of_mem_set he with he | he
    · exact h2 e he
    · subst he
      show (es.toList[i]'(by omega)).born < c
      exact h2 _ (List.getElem_mem _)
  · rw [hmod, List.map_set]
    show ((es.toList.map MapEntry.born).set i (es.toList[i]'(by omega)).born).Nodup
    rw [set_same (by rw [List.getElem?_map, List.getElem?_eq_getElem (by omega)]; rfl)]
    exact h3
theorem mpC_push {P : Program} {kt : TypeId} {α : Type} [DecidableEq α] {K : KeyT P kt α} {M : List (α × Value)} {es : Array MapEntry} {c : Nat} {a : α} {u : Value} (hc : MpC K M es c) : MpC K (M ++ [(a, u)]) (es.push { key := K.val a, val := u, born := c }) (c + 1) := by
  obtain ⟨h1, h2, h3⟩ := hc
  refine ⟨by simp [h1], ?_, ?_⟩
  · intro e he
    simp only [Array.toList_push, List.mem_append, List.mem_singleton] at he
    rcases he with he | rfl
    · have := h2 e he; omega
    · exact Nat.lt_succ_self _
  · simp only [Array.toList_push, List.map_append, List.map_cons, List.map_nil]
    rw [List.nodup_append]
    refine ⟨h3, by simp, ?_⟩
    intro x hx y hy
    simp at hy
    obtain ⟨e, he, rfl⟩ := List.mem_map.1 hx
    have := h2 e he
    omega
section
variable {P : Program} {l : Env} {F : PH} {H H' Hr : List Asrt} {d : Option Nat} {T U kt et : TypeId} {pos : String} {af : Array Edge} {g : Option (Nat × Bool)} {x y z : Operand} {α : Type} [DecidableEq α] {K : KeyT P kt α} {b : Nat} {M M' : List (α × Value)}
/-- The map's block, put anew. -/
theorem Sat.putMap {A A' : Asrt} {w : World} (s : Sat F H w) (u : Upd A A' H H') (hA : ∀ h, A h → ∃ es c, h = PH.one b (.map es c)) : ∃ es c, A (PH.one b (.map es c)) ∧ w.heap[b]? = some (.map es c) ∧ b < w.heap.size ∧ ∀ es' c', A' (PH.one b (.map es' c')) → Sat F H' { w with heap := w.heap.setIfInBounds b (.map es' c') } := by
  obtain ⟨h, R, hAh, hd, hl, _, k⟩ := s.focus u
  obtain ⟨es, c, rfl⟩ := hA h hAh
  have hb : w.heap[b]? = some (.map es c) := hl b _ ((PH.le_r hd) b _ (PH.one_self _ _))
  have hlt : b < w.heap.size := (Array.getElem?_eq_some_iff.1 hb).1
  have hR : R b = none := by
    rcases hd b with e | e
    · exact e
    · rw [PH.one_self] at e; cases e
  refine ⟨es, c, hAh, hb, hlt, fun es' c' hA' => k _ _ hA' (PH.dj_one hR) (PH.un_le (fun j o e => ?_) (PH.one_le ?_))⟩
  · have hne : j ≠ b := fun ec => by subst ec; rw [hR] at e; cases e
    have := hl j o ((PH.le_l _ _) j o e)
    show (w.heap.setIfInBounds b (.map es' c'))[j]? = some o
    rw [Array.getElem?_setIfInBounds_ne (Ne.symm hne)]
    exact this
  · show (w.heap.setIfInBounds b (.map es' c'))[b]? = some _
    rw [Array.getElem?_setIfInBounds_self_of_lt hlt]
theorem keyStays (K : KeyT P kt α) {a : α} {es : Array MapEntry} {i : Nat} {v : Value} (h1 : es.toList.map (fun e => (e.key, e.val)) = M.map (fun p => (K.val p.1, p.2))) (hs : scanK a M 0 = some (i, v)) (w : World) : (Instr.keyThatStays (((es[i]?).map (·.key)).getD (K.val a)) (K.val a)).run P w = .ok (K.val a) w ∧ ∃ e, es[i]? = some e ∧ e.key = K.val a ∧ e.val = v := by
  obtain ⟨hM, _⟩ := scanK_some hs
  have hi := (List.getElem?_eq_some_iff.1 hM).1
  have hlen : es.size = M.length := by have := congrArg List.length h1; simpa using this
  have hg : es.toList[i]? = some (es.toList[i]'(by simp; omega)) := List.getElem?_eq_getElem _
  have h2 : (es.toList.map (fun e => (e.key, e.val)))[i]? = some (K.val a, v) := by rw [h1, List.getElem?_map, hM]; rfl
  rw [List.getElem?_map, hg] at h2
  simp only [Option.map_some, Option.some.injEq, Prod.mk.injEq] at h2
  have hg' : es[i]? = some (es.toList[i]'(by simp; omega)) := by rw [← hg]; simp
  refine ⟨?_, _, hg', h2.1, h2.2⟩
  rw [hg']
  simp only [Option.map_some, Option.getD_some]
  rw [h2.1]
  unfold Instr.keyThatStays
  rw [if_pos (K.same a)]
  rfl
theorem ev_mapUpdate {a : α} {u : Value} (hx : opv l x = some (.map (some b))) (hy : opv l y = some (K.val a)) (hz : opv l z = some u) (ht : mapOf P T = some (kt, et)) (hu : Upd (mp K b M) (mp K b (setK M a u)) H H') :
    Ev' P ⟨d, .mapUpdate T x y z, U, pos, af, g⟩ l F H fun v F' H'' => F = F' ∧ v = undef ∧ H'' = H' := .of fun N A w ha hs => by
  have e1 := ha.opv hx; have e2 := ha.opv hy; have e3 := ha.opv hz
  obtain ⟨es, c, ⟨es1, c1, he, hc⟩, hb, hlt, k⟩ := hs.putMap hu (fun h ⟨es, c, e, _⟩ => ⟨es, c, e⟩)
  have hee : Obj.map es c = Obj.map es1 c1 := by have := congrFun he b; rw [PH.one_self, PH.one_self] at this; exact Option.some.inj this
  cases hee
  have hf := K.find a M es.toList hc.1 w
  cases hsc : scanK a M 0 with
  | none =>
    have hM := ((scanK_none hsc) u).1
    refine ⟨.skip, _, undef, F, H', ?_, .inr ⟨rfl, rfl⟩, Mild.putObj w b (.map (es.push { key := K.val a, val := u, born := c }) (c + 1)), PH.ler F, ⟨rfl, rfl, rfl⟩, k _ _ ⟨_, _, rfl, by rw [hM]; exact mpC_push hc⟩⟩
    refine run_u (s := Instr.mapUpdate T (A.eval x) (A.eval y) (A.eval z)) ?_
    rw [e1, e2, e3]
    unfold Instr.mapUpdate
    simp [run_underlying (mapOf_u ht), run_getMap hb, go_sem, K.chk, hf, hsc, run_setMap _ hb]
  | some q =>
    obtain ⟨i, v⟩ := q
    obtain ⟨hst, e0, he0, _, _⟩ := keyStays K hc.1 hsc w
    refine ⟨.skip, _, undef, F, H', ?_, .inr ⟨rfl, rfl⟩, Mild.putObj w b (.map (es.modify i fun e => { e with key := K.val a, val := u }) c), PH.ler F, ⟨rfl, rfl, rfl⟩, k _ _ ⟨_, _, rfl, mpC_set hc hsc⟩⟩
    refine run_u (s := Instr.mapUpdate T (A.eval x) (A.eval y) (A.eval z)) ?_
    rw [e1, e2, e3]
    unfold Instr.mapUpdate
    rw [he0] at hst
    simp only [Option.map_some, Option.getD_some] at hst
    simp [run_underlying (mapOf_u ht), run_getMap hb, go_sem, K.chk, hf, hsc, run_setMap _ hb, he0, hst]
end
/-- In any order. -/
theorem Star.perm {H H' : List Asrt} (p : H.Perm H') : ∀ {r : PH}, Star H r → Star H' r := by
  induction p with
  | nil => exact fun h => h
  | cons A _ ih => exact fun ⟨h1, h2, ha, hs, hd, e⟩ => ⟨h1, h2, ha, ih hs, hd, e⟩
  | swap A B l => exact fun h => h.pick (.there .here)
  | trans _ _ ih1 ih2 => exact fun h => ih2 (ih1 h)
theorem Sat.perm {F : PH} {H H' : List Asrt} {w : World} (p : H.Perm H') (s : Sat F H w) : Sat F H' w := let ⟨r, hr, hd, hl⟩ := s; ⟨r, hr.perm p, hd, hl⟩
theorem Ev.sub {P : Program} {o : Oper} {l : Env} {F F' : PH} {H H' : List Asrt} {v : Value} (e : Ev P o l F' H' v) (h : ∀ w, Sat F H w → Sat F' H' w) : Ev P o l F H v := by
  unfold Ev at *
  exact fun N a w ha hs => e N a w ha (h w hs)
theorem layP : ∀ (p : List Value) {i : Nat} {vs r s : List Value}, Lay i vs r s → Lay (p.length + i) vs (p ++ r) (p ++ s)
  | [], i, _, _, _, h => by rw [List.length_nil, Nat.zero_add]; exact h
  | x :: p, i, vs, r, s, h => by
    have := Lay.skip (u := x) (layP p h)
    rw [List.length_cons, show p.length + 1 + i = p.length + i + 1 from by omega]
    exact this
end Go.Proofs.YtjjjckmpkldgnaaGreatDoor
