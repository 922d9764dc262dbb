/-
  Structs as values: compared field by field. Plain theorems over any program; no condition.
-/
import Derived.Test.YtekdmpbkcjjllaaDoorKq
import Derived.Laws.StructEq
namespace Go.Proofs.YtekdmpbkcjjllaaDoor
open Go.RowKit
/-- Two structs' cells from offset o on, and whether the fields agree. -/
inductive EqC (P : Program) (d : Nat) : Nat → List Value → List Value → List Field → Bool → Prop where
  | nil {o : Nat} {xs ys : List Value} : EqC P d o xs ys [] true
  | int {f : Field} {fs : List Field} {k k' : IntKind} {a b : Int} {xs ys : List Value} {r : Bool} {o : Nat} (hn : f.name ≠ "_") (ho : f.offset = o) (ht : P.underlying f.type = some (.int k')) (t : EqC P d (o + 1) xs ys fs r) :
      EqC P d o (.int k a :: xs) (.int k b :: ys) (f :: fs) (decide (a = b) && r)
  | bool {f : Field} {fs : List Field} {a b : Bool} {xs ys : List Value} {r : Bool} {o : Nat} (hn : f.name ≠ "_") (ho : f.offset = o) (ht : P.underlying f.type = some .bool) (t : EqC P d (o + 1) xs ys fs r) :
      EqC P d o (.bool a :: xs) (.bool b :: ys) (f :: fs) (decide (a = b) && r)
  | str {f : Field} {fs : List Field} {a b : ByteArray} {xs ys : List Value} {r : Bool} {o : Nat} (hn : f.name ≠ "_") (ho : f.offset = o) (ht : P.underlying f.type = some .string) (t : EqC P d (o + 1) xs ys fs r) :
      EqC P d o (.string a :: xs) (.string b :: ys) (f :: fs) (decide (a.toList = b.toList) && r)
  | arr {f : Field} {fs : List Field} {as bs : List UInt8} {e n : Nat} {xs ys : List Value} {r : Bool} {o : Nat} (hn : f.name ≠ "_") (ho : f.offset = o) (ht : arrOf P f.type = some (n, e, 1)) (hz : aggSize P f.type = some n) (he : P.underlying e = some (.int .u8)) (ha : as.length = n) (hb : bs.length = n)
      (t : EqC P d (o + n) xs ys fs r) : EqC P d o (u8s as ++ xs) (u8s bs ++ ys) (f :: fs) (decide (as = bs) && r)
  | sub {f : Field} {fs : List Field} {us vs : List Value} {n : Nat} {xs ys : List Value} {r r1 : Bool} {o : Nat} (hn : f.name ≠ "_") (ho : f.offset = o) (hz : aggSize P f.type = some n) (ha : us.length = n) (hb : vs.length = n)
      (he : ∀ w, (Op.equalIn d f.type (.agg us.toArray) (.agg vs.toArray)).run P w = .ok r1 w) (t : EqC P d (o + n) xs ys fs r) : EqC P d o (us ++ xs) (vs ++ ys) (f :: fs) (r1 && r)
theorem run_part_1 {P : Program} {T off : Nat} {cs : List Value} {v : Value} {ds : TypeDesc} (hu : P.underlying T = some ds) (hds : (match ds with | .struct _ | .array _ _ => true | _ => false) = false) (h : cs[off]? = some v) (w : World) : (part T cs.toArray off).run P w = .ok v w := by
  have hi : (isAgg T).run P w = .ok false w := by
    unfold isAgg
    simp [run_underlying hu, go_sem]
    cases ds <;> simp_all
  unfold part
  simp [hi, h, go_sem]
theorem run_part_n {P : Program} {T off n : Nat} {cs : List Value} (hz : aggSize P T = some n) (w : World) : (part T cs.toArray off).run P w = .ok (.agg ((cs.drop off).take n).toArray) w := by
  obtain ⟨ds, i, hu, hds, hi, hs⟩ := agg_isAgg hz
  have hi' : (isAgg T).run P w = .ok true w := by
    unfold isAgg
    simp [run_underlying hu, go_sem]
    cases ds <;> simp_all
  unfold part
  simp [hi', run_sizeOf hi, hs, go_sem]
theorem eqC_run {P : Program} {d o : Nat} {xs ys : List Value} {fs : List Field} {r : Bool} (h : EqC P (d + 2) o xs ys fs r) : ∀ (px py : List Value), px.length = o → py.length = o → ∀ w, (Op.eqFields (d + 2) (px ++ xs).toArray (py ++ ys).toArray fs).run P w = .ok r w := by
  induction h with
  | nil => intro px py _ _ w; simp [Op.eqFields]
  | @int f fs k k' a b xs ys r o hn ho ht _ ih =>
    intro px py hx hy w
    have p1 := run_part_1 (cs := px ++ .int k a :: xs) (off := o) (v := .int k a) ht rfl (by rw [← hx]; simp) w
    have p2 := run_part_1 (cs := py ++ .int k b :: ys) (off := o) (v := .int k b) ht rfl (by rw [← hy]; simp) w
    have p3 := run_equalIn_int (P := P) w (d + 1) f.type k k' a b ht
    have := ih (px ++ [.int k a]) (py ++ [.int k b]) (by simp [hx]) (by simp [hy]) w
    simp only [List.append_assoc, List.singleton_append] at this
    simp only [Op.eqFields, ne_eq, hn, not_false_eq_true, if_true, ho, Sem.run_bind, p1, p2, p3, Result.andThen_ok]
    by_cases hab : a = b
    · subst hab; simpa using this
    · have : (a == b) = false := by simpa using hab
      simp [this, hab]
  | @bool f fs a b xs ys r o hn ho ht _ ih =>
    intro px py hx hy w
    have p1 := run_part_1 (cs := px ++ .bool a :: xs) (off := o) (v := .bool a) ht rfl (by rw [← hx]; simp) w
    have p2 := run_part_1 (cs := py ++ .bool b :: ys) (off := o) (v := .bool b) ht rfl (by rw [← hy]; simp) w
    have p3 := run_equalIn_bool' (P := P) w (d + 1) f.type a b ht
    have := ih (px ++ [.bool a]) (py ++ [.bool b]) (by simp [hx]) (by simp [hy]) w
    simp only [List.append_assoc, List.singleton_append] at this
    simp only [Op.eqFields, ne_eq, hn, not_false_eq_true, if_true, ho, Sem.run_bind, p1, p2, p3, Result.andThen_ok]
    by_cases hab : a = b
    · subst hab; simpa using this
    · have : (a == b) = false := by simpa using hab
      simp [this, hab]
  | @str f fs a b xs ys r o hn ho ht _ ih =>
    intro px py hx hy w
    have p1 := run_part_1 (cs := px ++ .string a :: xs) (off := o) (v := .string a) ht rfl (by rw [← hx]; simp) w
    have p2 := run_part_1 (cs := py ++ .string b :: ys) (off := o) (v := .string b) ht rfl (by rw [← hy]; simp) w
    have p3 := run_equalIn_string (P := P) w (d + 1) f.type a b ht
    have := ih (px ++ [.string a]) (py ++ [.string b]) (by simp [hx]) (by simp [hy]) w
    simp only [List.append_assoc, List.singleton_append] at this
    simp only [Op.eqFields, ne_eq, hn, not_false_eq_true, if_true, ho, Sem.run_bind, p1, p2, p3, Result.andThen_ok]
    by_cases hab : a.toList = b.toList
    · simp only [hab, beq_self_eq_true, Bool.not_true, Bool.false_eq_true, if_false, decide_true, Bool.true_and]; exact this
    · have : (a.toList == b.toList) = false := by simpa using hab
      simp [this, hab]
  | @arr f fs as bs e n xs ys r o hn ho ht hz he ha hb _ ih =>
    intro px py hx hy w
    obtain ⟨hu, i, hi, hs⟩ := arrOf_info ht
    have la : (u8s as).length = n := by simp [u8s, ha]
    have lb : (u8s bs).length = n := by simp [u8s, hb]
    have p1 := run_part_n (cs := px ++ (u8s as ++ xs)) (off := o) hz w
    have p2 := run_part_n (cs := py ++ (u8s bs ++ ys)) (off := o) hz w
    rw [← hx, List.drop_left, ← la, List.take_left] at p1
    rw [← hy, List.drop_left, ← lb, List.take_left] at p2
    have p3 := run_equalIn_bytes w d f.type e n hu he (fun w => by rw [run_sizeOf hi, hs]) as bs ha hb
    have := ih (px ++ u8s as) (py ++ u8s bs) (by simp [hx, la]) (by simp [hy, lb]) w
    simp only [List.append_assoc] at this
    rw [hx] at p1
    rw [hy] at p2
    have hp3 : (Op.equalIn (d + 2) f.type (.agg (u8s as).toArray) (.agg (u8s bs).toArray)).run P w = .ok (as == bs) w := p3
    simp only [Op.eqFields, ne_eq, hn, not_false_eq_true, if_true, ho, Sem.run_bind, p1, p2, hp3, Result.andThen_ok]
    by_cases hab : as = bs
    · subst hab; simpa using this
    · have : (as == bs) = false := by simpa using hab
      simp [this, hab]
  | @sub f fs us vs n xs ys r r1 o hn ho hz ha hb he _ ih =>
    intro px py hx hy w
    have p1 := run_part_n (cs := px ++ (us ++ xs)) (off := o) hz w
    have p2 := run_part_n (cs := py ++ (vs ++ ys)) (off := o) hz w
    rw [← hx, List.drop_left, ← ha, List.take_left] at p1
    rw [← hy, List.drop_left, ← hb, List.take_left] at p2
    have p3 := he w
    have := ih (px ++ us) (py ++ vs) (by simp [hx, ha]) (by simp [hy, hb]) w
    simp only [List.append_assoc] at this
    rw [hx] at p1
    rw [hy] at p2
    simp only [Op.eqFields, ne_eq, hn, not_false_eq_true, if_true, ho, Sem.run_bind, p1, p2, p3, Result.andThen_ok]
    cases r1
    · simp
    · simpa using this
theorem eqC_struct {P : Program} {T d : Nat} {xs ys : List Value} {r : Bool} (hu : P.underlying T = some (.struct (P.fieldsOf T))) (hp : P.stoodInHeld T = false) (h : EqC P (d + 2) 0 xs ys (P.fieldsOf T).toList r) (w : World) :
    (Op.equalIn (d + 3) T (.agg xs.toArray) (.agg ys.toArray)).run P w = .ok r w := by
  rw [run_equalIn_struct w (d + 2) T _ _ hu hp]
  exact eqC_run h [] [] rfl rfl w
section
variable {P : Program} {l : Env} {F : PH} {H : List Asrt} {d : Option Nat} {T T' U : TypeId} {pos : String} {af : Array Edge} {gd : Option (Nat × Bool)} {x y : Operand}
theorem ev_st_eql {xs ys : List Value} {r : Bool} (hx : opv l x = some (.agg xs.toArray)) (hy : opv l y = some (.agg ys.toArray)) (hu : P.underlying T = some (.struct (P.fieldsOf T))) (hp : P.stoodInHeld T = false) (hm : P.eqGuardType P.depth T = false) (h : EqC P 9999 0 xs ys (P.fieldsOf T).toList r) :
    Ev P ⟨d, .binOp .eql T x y T', U, pos, af, gd⟩ l F H (.bool r) := .of fun ρ hρ w _ => by
  have e1 := hρ _ _ hx; have e2 := hρ _ _ hy
  have hr := eqC_struct hu hp h w
  refine run_v2 ?_ ?_
  · rw [e1, e2]; exact run_eqGuard_agg _ _ _ _ _ _ _ hm
  · rw [e1, e2, run_eql_struct]
    have hr' : (Op.equalIn 10000 T (.agg xs.toArray) (.agg ys.toArray)).run P w = .ok r w := hr
    rw [hr']; rfl
theorem ev_st_neq {xs ys : List Value} {r : Bool} (hx : opv l x = some (.agg xs.toArray)) (hy : opv l y = some (.agg ys.toArray)) (hu : P.underlying T = some (.struct (P.fieldsOf T))) (hp : P.stoodInHeld T = false) (hm : P.eqGuardType P.depth T = false) (h : EqC P 9999 0 xs ys (P.fieldsOf T).toList r) :
    Ev P ⟨d, .binOp .neq T x y T', U, pos, af, gd⟩ l F H (.bool (!r)) := .of fun ρ hρ w _ => by
  have e1 := hρ _ _ hx; have e2 := hρ _ _ hy
  have hr := eqC_struct hu hp h w
  refine run_v2 ?_ ?_
  · rw [e1, e2]; exact run_eqGuard_agg _ _ _ _ _ _ _ hm
  · rw [e1, e2, run_neq_struct]
    have hr' : (Op.equalIn 10000 T (.agg xs.toArray) (.agg ys.toArray)).run P w = .ok r w := hr
    rw [hr']; rfl
end
end Go.Proofs.YtekdmpbkcjjllaaDoor
