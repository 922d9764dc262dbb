/-
  Rules of operations, third part: nil, results in memory, rows opened and shut, stores by index, arrays. Plain theorems over any program; no condition.
-/
import Derived.Test.YtekdmpbkcjjllaaDoorKi
namespace Go.Proofs.YtekdmpbkcjjllaaDoor
open Go.RowKit

section
variable {P : Program} {l : Env} {F : PH} {H Hr : List Asrt} {d : Option Nat} {T T' U E : TypeId} {pos : String} {af : Array Edge} {g : Option (Nat × Bool)} {x y z y' z' : Operand}
/-! nil -/
theorem run_v2 {A : Sem Unit} {s : Sem Value} {v : Value} {w : World} (hA : A.run P w = .ok () w) (h : s.run P w = .ok v w) : Sem.run P (do pure (Next.value (← (do A; s)))) w = .ok (.value v) w := by
  refine run_v ?_
  rw [Sem.run_bind, hA]; exact h
theorem equal_of (T : TypeId) (u v : Value) (b : Bool) (w : World) (h : ∀ n : Nat, (Op.equalIn (n + 1) T u v).run P w = .ok b w) : (Op.equal T u v).run P w = .ok b w := h 9999
theorem ev_ptr_eql_nil {a : Option Addr} {t : TypeId} (hx : opv l x = some (.pointer a)) (hy : opv l y = some (.pointer none)) (hu : P.underlying T = some (.pointer t)) : Ev P ⟨d, .binOp .eql T x y T', U, pos, af, g⟩ l F H (.bool a.isNone) := .of fun ρ hρ w _ => by
  have e1 := hρ _ _ hx; have e2 := hρ _ _ hy
  have hr : (Op.equal T (.pointer a) (.pointer none)).run P w = .ok a.isNone w := equal_of _ _ _ _ _ fun n => by cases a <;> simp [Op.equalIn, run_underlying hu]
  refine run_v2 ?_ ?_
  · rw [e1, e2]; rfl
  · rw [e1, e2]; simp [binOp, hr]
theorem ev_ptr_neq_nil {a : Option Addr} {t : TypeId} (hx : opv l x = some (.pointer a)) (hy : opv l y = some (.pointer none)) (hu : P.underlying T = some (.pointer t)) : Ev P ⟨d, .binOp .neq T x y T', U, pos, af, g⟩ l F H (.bool a.isSome) := .of fun ρ hρ w _ => by
  have e1 := hρ _ _ hx; have e2 := hρ _ _ hy
  have hr : (Op.equal T (.pointer a) (.pointer none)).run P w = .ok a.isNone w := equal_of _ _ _ _ _ fun n => by cases a <;> simp [Op.equalIn, run_underlying hu]
  refine run_v2 ?_ ?_
  · rw [e1, e2]; rfl
  · rw [e1, e2]; cases a <;> simp [binOp, hr]
theorem ev_slice_eql_nil {a : Option Addr} {n c : Nat} {t : TypeId} (hx : opv l x = some (.slice a n c)) (hy : opv l y = some (.slice none 0 0)) (hu : P.underlying T = some (.slice t)) : Ev P ⟨d, .binOp .eql T x y T', U, pos, af, g⟩ l F H (.bool a.isNone) := .of fun ρ hρ w _ => by
  have e1 := hρ _ _ hx; have e2 := hρ _ _ hy
  have hr : (Op.equal T (.slice a n c) (.slice none 0 0)).run P w = .ok a.isNone w := equal_of _ _ _ _ _ fun n => by cases a <;> simp [Op.equalIn, run_underlying hu]
  refine run_v2 ?_ ?_
  · rw [e1, e2]; rfl
  · rw [e1, e2]; simp [binOp, hr]
theorem ev_fn_eql_nil {t1 t2 : Array TypeId} {b : Bool} (hx : opv l x = some .nilFunc) (hy : opv l y = some .nilFunc) (hu : P.underlying T = some (.func t1 t2 b)) : Ev P ⟨d, .binOp .eql T x y T', U, pos, af, g⟩ l F H (.bool true) := .of fun ρ hρ w _ => by
  have e1 := hρ _ _ hx; have e2 := hρ _ _ hy
  have hr : (Op.equal T .nilFunc .nilFunc).run P w = .ok true w := equal_of _ _ _ _ _ fun n => by simp [Op.equalIn, run_underlying hu]
  refine run_v2 ?_ ?_
  · rw [e1, e2]; rfl
  · rw [e1, e2]; simp [binOp, hr]
theorem ev_fn_eql_some {t1 t2 : Array TypeId} {b : Bool} {f : Fn} {p q : Array Value} (hx : opv l x = some (.func f p q)) (hy : opv l y = some .nilFunc) (hu : P.underlying T = some (.func t1 t2 b)) : Ev P ⟨d, .binOp .eql T x y T', U, pos, af, g⟩ l F H (.bool false) := .of fun ρ hρ w _ => by
  have e1 := hρ _ _ hx; have e2 := hρ _ _ hy
  have hr : (Op.equal T (.func f p q) .nilFunc).run P w = .ok false w := equal_of _ _ _ _ _ fun n => by simp [Op.equalIn, run_underlying hu]
  refine run_v2 ?_ ?_
  · rw [e1, e2]; rfl
  · rw [e1, e2]; simp [binOp, hr]
theorem ev_bool_neq' {a b : Bool} (hx : opv l x = some (.bool a)) (hy : opv l y = some (.bool b)) (hu : P.underlying T = some .bool) : Ev P ⟨d, .binOp .neq T x y T', U, pos, af, g⟩ l F H (.bool (!(a == b))) := ev_bool_neq hx hy hu
/-! rows of the call's own -/
theorem own_rdb {b n c size : Nat} {xs : List Value} (p : Pick (own (.slice (some ⟨b, 0, none⟩) n c) E size n xs) H Hr) : Rdb F H b 0 xs := fun w s => by
  obtain ⟨h, hA, hd, s'⟩ := (s.pick p).persist
  obtain ⟨hl, h1⟩ := hA
  rcases h1 with ⟨e, _, _⟩ | ⟨g, cap, cur, e, rfl, h2, _, _, h5⟩
  · cases e
  · cases e
    exact (cells_row ((PH.le_r hd) b _ (PH.one_self _ _)) (by rw [hl]; exact h5)).mono s'.le
/-- What stands at a place of a row: the value's form. -/
theorem own_form {v : Value} {size n : Nat} {xs : List Value} {h : PH} (ho : own v E size n xs h) (hn : 0 < n) : ∃ g c, v = .slice (some ⟨g, 0, none⟩) n c ∧ n ≤ c := by
  obtain ⟨_, h1⟩ := ho
  rcases h1 with ⟨_, e, _⟩ | ⟨g, cap, cur, e, _, h2, _⟩
  · omega
  · exact ⟨g, cap, e, h2⟩
theorem own_is {v : Value} {size n : Nat} {xs : List Value} {h : PH} (ho : own v E size n xs h) : ∃ a c, v = .slice a n c ∧ n ≤ c ∧ c ≤ maxLen ∧ (∀ b, a = some b → b.off = 0 ∧ b.spot = none) := by
  obtain ⟨_, h1⟩ := ho
  rcases h1 with ⟨e, e2, _⟩ | ⟨g, cap, cur, e, _, h2, h3, _⟩
  · subst e2; exact ⟨none, 0, e, Nat.le_refl _, by unfold maxLen; omega, fun b hb => by cases hb⟩
  · exact ⟨_, cap, e, h2, h3, fun b hb => by cases hb; exact ⟨rfl, rfl⟩⟩
theorem Rdb.take {b off : Nat} {cs : List Value} (h : Rdb F H b off cs) (i n : Nat) : Rdb F H b (off + i) ((cs.drop i).take n) := fun w s j u e => by
  have hlt : j < n := by
    have := (List.getElem?_eq_some_iff.1 e).1
    simp at this; omega
  rw [List.getElem?_take, if_pos hlt, List.getElem?_drop] at e
  have := h w s _ u e
  rwa [← Nat.add_assoc] at this
/-- One cell of a row, written. -/
theorem Sat.own_set {b n c size i : Nat} {xs : List Value} {u : Value} {H' : List Asrt} {w : World} (s : Sat F H w) (hu : Upd (own (.slice (some ⟨b, 0, none⟩) n c) E size n xs) (own (.slice (some ⟨b, 0, none⟩) n c) E size n (xs.set i u)) H H') (hi : i < xs.length) :
    ∃ cur : Array Value, w.heap[b]? = some (.cells cur E (0, 0)) ∧ i < cur.size ∧ Sat F H' (w.setRow b (cur.setIfInBounds i u)) := by
  obtain ⟨h, R, hA, hd, hl, _, k⟩ := s.focus hu
  obtain ⟨hlen, h1⟩ := hA
  rcases h1 with ⟨e, _, _⟩ | ⟨g, cap, cur, e, e2, h2, h3, h4, h5⟩
  · cases e
  cases e
  subst e2
  have hb : w.heap[b]? = some (.cells cur E (0, 0)) := hl b _ ((PH.le_r hd) b _ (PH.one_self _ _))
  have hR : R b = none := by
    rcases hd b with e | e
    · exact e
    · rw [PH.one_self] at e; cases e
  have hsz : i < cur.size := by
    rw [h4]
    have : n * size ≤ c * size := Nat.mul_le_mul_right _ h2
    omega
  refine ⟨cur, hb, hsz, k (PH.one b (.cells (cur.setIfInBounds i u) E (0, 0))) _ ⟨by simpa using hlen, .inr ⟨b, c, cur.setIfInBounds i u, rfl, rfl, h2, h3, by simpa using h4, ?_⟩⟩ (PH.dj_one hR) (PH.un_le (fun j o e => ?_) (PH.one_le (setRow_ph hb _)))⟩
  · rw [Array.toList_setIfInBounds, ← h5]
    rw [List.take_set]
  · have hne : j ≠ b := fun ec => by subst ec; rw [hR] at e; cases e
    show (w.setRow b _).heap[j]? = some o
    rw [setRow_other w b j _ hne]
    exact hl j o ((PH.le_l _ _) j o e)
end
theorem ones_nil : Ones [] := fun v hv => by cases hv
theorem ones_cons {v : Value} {vs : List Value} (h : v.oneCell' = true) (hs : Ones vs) : Ones (v :: vs) := fun u hu => by
  rcases List.mem_cons.1 hu with rfl | hu
  · exact h
  · exact hs u hu
theorem ones_append {us vs : List Value} (h : Ones us) (hs : Ones vs) : Ones (us ++ vs) := fun u hu => by
  rcases List.mem_append.1 hu with hu | hu
  · exact h u hu
  · exact hs u hu
theorem ones_head {v : Value} {vs : List Value} (h : Ones (v :: vs)) : v.oneCell' = true := h v (List.mem_cons_self)
theorem ones_tail {v : Value} {vs : List Value} (h : Ones (v :: vs)) : Ones vs := fun u hu => h u (List.mem_cons_of_mem _ hu)
theorem five {cs : List Value} (h : cs.length = 5) : ∃ a b c d e, cs = [a, b, c, d, e] := by
  rcases cs with _ | ⟨a, _ | ⟨b, _ | ⟨c, _ | ⟨d, _ | ⟨e, _ | ⟨f, r⟩⟩⟩⟩⟩⟩ <;> simp at h
  exact ⟨a, b, c, d, e, rfl⟩
theorem six {cs : List Value} (h : cs.length = 6) : ∃ a b c d e f, cs = [a, b, c, d, e, f] := by
  rcases cs with _ | ⟨a, _ | ⟨b, _ | ⟨c, _ | ⟨d, _ | ⟨e, _ | ⟨f, _ | ⟨g, r⟩⟩⟩⟩⟩⟩⟩ <;> simp at h
  exact ⟨a, b, c, d, e, f, rfl⟩
theorem flat_len {n : Nat} : ∀ {css : List (List Value)}, (∀ c ∈ css, c.length = n) → css.flatten.length = css.length * n
  | [], _ => by simp
  | c :: css, h => by
    rw [List.flatten_cons, List.length_append, h c (List.mem_cons_self), flat_len (fun d hd => h d (List.mem_cons_of_mem _ hd)), List.length_cons, Nat.succ_mul, Nat.add_comm]
theorem flat_drop {n : Nat} : ∀ {css : List (List Value)} (i : Nat), (∀ c ∈ css, c.length = n) → css.flatten.drop (i * n) = (css.drop i).flatten
  | _, 0, _ => by simp
  | [], i + 1, _ => by simp
  | c :: css, i + 1, h => by
    rw [List.flatten_cons, List.drop_append, h c (List.mem_cons_self), Nat.succ_mul, Nat.add_sub_cancel, List.drop_eq_nil_of_le (by rw [h c (List.mem_cons_self)]; omega), List.nil_append, flat_drop i (fun d hd => h d (List.mem_cons_of_mem _ hd))]
    rfl
theorem flat_take {n : Nat} : ∀ {css : List (List Value)} (i : Nat), (∀ c ∈ css, c.length = n) → css.flatten.take (i * n) = (css.take i).flatten
  | _, 0, _ => by simp
  | [], i + 1, _ => by simp
  | c :: css, i + 1, h => by
    rw [List.flatten_cons, List.take_append, h c (List.mem_cons_self), Nat.succ_mul, Nat.add_sub_cancel, List.take_of_length_le (by rw [h c (List.mem_cons_self)]; omega), flat_take i (fun d hd => h d (List.mem_cons_of_mem _ hd))]
    rfl
/-- One row of a slice whose rows are known. -/
theorem flat_at {n i : Nat} {css : List (List Value)} {c : List Value} (h : ∀ c ∈ css, c.length = n) (hi : css[i]? = some c) : (css.flatten.drop (i * n)).take n = c := by
  obtain ⟨hlt, he⟩ := List.getElem?_eq_some_iff.1 hi
  rw [flat_drop i h, List.drop_eq_getElem_cons hlt, he, List.flatten_cons, List.take_append_of_le_length (by rw [h c (List.mem_of_getElem? hi)]; exact Nat.le_refl _)]
  exact List.take_of_length_le (by rw [h c (List.mem_of_getElem? hi)]; exact Nat.le_refl _)
theorem SliceV.row {F : PH} {size n i c : Nat} {a : Option Addr} {css : List (List Value)} {r : List Value} (hs : SliceV F size (.slice a n c) n css.flatten) (h : ∀ c ∈ css, c.length = size) (hi : css[i]? = some r) (hin : i < n) :
    ∃ b off, a = some ⟨b, off, none⟩ ∧ Cells F b (off + i * size) r := by
  obtain ⟨hl, a', c', hv, _, hc⟩ := hs
  cases hv
  obtain ⟨b, off, ha, hcc⟩ := hc (by omega)
  refine ⟨b, off, ha, ?_⟩
  have := slice_at hl hcc hin
  rwa [flat_at h hi] at this
theorem SliceV.pre {F : PH} {size n k c : Nat} {a : Option Addr} {css : List (List Value)} (hs : SliceV F size (.slice a n c) n css.flatten) (h : ∀ c ∈ css, c.length = size) (hk : k ≤ n) (hn : css.length = n) : SliceV F size (.slice a k c) k (css.take k).flatten := by
  obtain ⟨hl, a', c', hv, hnc, hc⟩ := hs
  cases hv
  refine ⟨?_, a, c, rfl, by omega, fun h0 => ?_⟩
  · rw [flat_len (fun d hd => h d (List.mem_of_mem_take hd)), List.length_take, hn, Nat.min_eq_left hk]
  · obtain ⟨b, off, ha, hcc⟩ := hc (by omega)
    refine ⟨b, off, ha, ?_⟩
    rw [← flat_take k h]
    have := hcc
    rw [← List.take_append_drop (k * size) css.flatten] at this
    exact this.left
theorem J_own_is {C : Ctx} {k : List KItem} {l : Env} {F : PH} {H : List Asrt} {v : Value} {E size n : Nat} {xs : List Value} (h : ∀ a c, v = .slice a n c → n ≤ c → c ≤ maxLen → J C k l F (own v E size n xs :: H)) : J C k l F (own v E size n xs :: H) := by
  by_cases hx : ∃ a c, v = .slice a n c ∧ n ≤ c ∧ c ≤ maxLen
  · obtain ⟨a, c, h1, h2, h3⟩ := hx
    exact h a c h1 h2 h3
  · exact J_persist fun h' ho _ => absurd (let ⟨a, c, h1, h2, h3, _⟩ := own_is ho; ⟨a, c, h1, h2, h3⟩) hx
theorem Sat.head {F : PH} {H : List Asrt} {A : Asrt} {w : World} (s : Sat F (A :: H) w) : Sat F [A] w := by
  obtain ⟨_, ⟨h, r, hA, hr, hhr, rfl⟩, hd, hl⟩ := s
  refine ⟨h, ⟨h, PH.emp, hA, rfl, PH.dj_emp _, (PH.un_emp _).symm⟩, hd.mono_r (PH.le_l _ _), PH.un_le ((PH.le_l _ _).trans hl) ?_⟩
  exact (PH.le_l h r).trans ((PH.le_r hd).trans hl)
theorem Sat.bare {F : PH} {H : List Asrt} {w : World} (s : Sat F H w) : Sat F [] w := ⟨PH.emp, rfl, PH.dj_emp _, by rw [PH.un_emp]; exact s.le⟩
theorem Sat.own_is {F : PH} {H Hr : List Asrt} {w : World} {v : Value} {E size n : Nat} {xs : List Value} (s : Sat F H w) (p : Pick (own v E size n xs) H Hr) : ∃ a c, v = .slice a n c ∧ n ≤ c ∧ c ≤ maxLen ∧ xs.length = n * size := by
  obtain ⟨h', ho, _, _⟩ := (s.pick p).persist
  have hl := ho.1
  obtain ⟨a, c, h1, h2, h3, _⟩ := Go.Proofs.YtekdmpbkcjjllaaDoor.own_is ho
  exact ⟨a, c, h1, h2, h3, hl⟩
section
variable {C : Ctx} {k : List KItem} {l : Env} {F : PH} {H Hr : List Asrt} {v : Value} {E size n : Nat} {xs : List Value} {S : World → Prop} {ops : Array Oper} {fuel : Nat} {listed : Array Bool} {rest : List Oper}
theorem aOwn (p : Pick (own v E size n xs) H Hr) (h : ∀ a c, v = .slice a n c → n ≤ c → c ≤ maxLen → xs.length = n * size → JA C S ops fuel listed k l F H) : JA C S ops fuel listed k l F H := by
  by_cases hx : ∃ a c, v = .slice a n c ∧ n ≤ c ∧ c ≤ maxLen ∧ xs.length = n * size
  · obtain ⟨a, c, h1, h2, h3, h4⟩ := hx
    exact h a c h1 h2 h3 h4
  · unfold JA
    exact fun _ _ _ _ _ s => absurd (s.own_is p) hx
theorem jOwn (p : Pick (own v E size n xs) H Hr) (h : ∀ a c, v = .slice a n c → n ≤ c → c ≤ maxLen → xs.length = n * size → J C k l F H) : J C k l F H := by
  by_cases hx : ∃ a c, v = .slice a n c ∧ n ≤ c ∧ c ≤ maxLen ∧ xs.length = n * size
  · obtain ⟨a, c, h1, h2, h3, h4⟩ := hx
    exact h a c h1 h2 h3 h4
  · unfold J
    exact fun _ _ _ _ s => absurd (s.own_is p) hx
theorem oOwn (p : Pick (own v E size n xs) H Hr) (h : ∀ a c, v = .slice a n c → n ≤ c → c ≤ maxLen → xs.length = n * size → JM C false ops rest k l F H) : JM C false ops rest k l F H := by
  by_cases hx : ∃ a c, v = .slice a n c ∧ n ≤ c ∧ c ≤ maxLen ∧ xs.length = n * size
  · obtain ⟨a, c, h1, h2, h3, h4⟩ := hx
    exact h a c h1 h2 h3 h4
  · unfold JM JO
    exact fun _ _ _ _ _ s => absurd (s.own_is p) hx
/-- A fact that an entry of memory bears. -/
theorem oWith {A : Asrt} {q : Prop} (p : Pick A H Hr) (hq : ∀ h', A h' → q) (h : q → JM C false ops rest k l F H) : JM C false ops rest k l F H := by
  by_cases hx : q
  · exact h hx
  · unfold JM JO
    exact fun _ _ _ _ _ s => absurd (let ⟨h', ho, _⟩ := (s.pick p).persist; hq h' ho) hx
theorem aWith {A : Asrt} {q : Prop} (p : Pick A H Hr) (hq : ∀ h', A h' → q) (h : q → JA C S ops fuel listed k l F H) : JA C S ops fuel listed k l F H := by
  by_cases hx : q
  · exact h hx
  · unfold JA
    exact fun _ _ _ _ _ s => absurd (let ⟨h', ho, _⟩ := (s.pick p).persist; hq h' ho) hx
theorem jWith {A : Asrt} {q : Prop} (p : Pick A H Hr) (hq : ∀ h', A h' → q) (h : q → J C k l F H) : J C k l F H := by
  by_cases hx : q
  · exact h hx
  · unfold J
    exact fun _ _ _ _ s => absurd (let ⟨h', ho, _⟩ := (s.pick p).persist; hq h' ho) hx
end
/-- The first entry goes behind the two that follow it. -/
theorem Sat.back2 {F : PH} {A B D : Asrt} {H : List Asrt} {w : World} (s : Sat F (A :: B :: D :: H) w) : Sat F (B :: D :: A :: H) w := s.unpick (.there (.there .here)) |> fun h => h
/-! results in memory -/
inductive ResOk (P : Program) (l : Env) (F : PH) (H : List Asrt) : List ResultVar → List Value → Prop where
  | nil : ResOk P l F H [] []
  | tmp {t : Nat} {v : Value} {rs : List ResultVar} {vs : List Value} (hv : l.get t = some v) (h : ResOk P l F H rs vs) : ResOk P l F H (.tmp t :: rs) (v :: vs)
  | agg {t : Nat} {T b off n : Nat} {cs : List Value} {rs : List ResultVar} {vs : List Value} (hv : l.get t = some (.pointer (some ⟨b, off, none⟩))) (hs : aggSize P T = some n) (hc : Rdb F H b off cs) (hn : cs.length = n) (h : ResOk P l F H rs vs) :
      ResOk P l F H (.cell t T :: rs) (.agg cs.toArray :: vs)
  | one {t : Nat} {T b off : Nat} {v : Value} {rs : List ResultVar} {vs : List Value} (hv : l.get t = some (.pointer (some ⟨b, off, none⟩))) (hs : plainB P T = true) (hc : Rdb F H b off [v]) (h : ResOk P l F H rs vs) :
      ResOk P l F H (.cell t T :: rs) (v :: vs)
def retV : List Value → Value
  | [v] => v
  | vs => .tuple vs.toArray
def resF (tmps : Array Value) : ResultVar → Sem Value
  | .tmp t => pure (tmps.getD t undef)
  | .cell a t => do loadVar t (← asAddr (tmps.getD a undef))
theorem ResOk.run {P : Program} {l : Env} {F : PH} {H : List Asrt} {N : Nat} {a : Act} {w : World} (ha : Holds N l a) (hs : Sat F H w) {rs : List ResultVar} {vs : List Value} (h : ResOk P l F H rs vs) :
    (rs.mapM (resF a.tmps)).run P w = .ok vs w := by
  induction h with
  | nil => rfl
  | @tmp t v rs vs hv _ ih =>
    have h1 : (resF a.tmps (.tmp t)).run P w = .ok v w := by
      show Sem.run P (pure (a.tmps.getD t undef)) w = _
      rw [ha.val _ _ hv]; rfl
    rw [List.mapM_cons, Sem.run_bind, h1, Result.andThen_ok, Sem.run_bind, ih]
    rfl
  | @agg t T b off n cs rs vs hv hsz hc hn _ ih =>
    have h1 : (resF a.tmps (.cell t T)).run P w = .ok (.agg cs.toArray) w := by
      show Sem.run P (do loadVar T (← asAddr (a.tmps.getD t undef))) w = _
      rw [ha.val _ _ hv]; exact run_load_agg hsz (hc w hs) hn
    rw [List.mapM_cons, Sem.run_bind, h1, Result.andThen_ok, Sem.run_bind, ih]
    rfl
  | @one t T b off v rs vs hv hsz hc _ ih =>
    have h1 : (resF a.tmps (.cell t T)).run P w = .ok v w := by
      show Sem.run P (do loadVar T (← asAddr (a.tmps.getD t undef))) w = _
      rw [ha.val _ _ hv]; exact run_load_one hsz (hc w hs)
    rw [List.mapM_cons, Sem.run_bind, h1, Result.andThen_ok, Sem.run_bind, ih]
    rfl
theorem results_run {P : Program} {l : Env} {F : PH} {H : List Asrt} {N : Nat} {a : Act} {w : World} (ha : Holds N l a) (hs : Sat F H w) {fn : Func} {rs : List ResultVar} {vs : List Value} (hres : fn.results = rs.toArray) (h : ResOk P l F H rs vs) :
    (results fn a.tmps).run P w = .ok (retV vs) w := by
  have e : results fn a.tmps = (do let vs ← fn.results.mapM (resF a.tmps); pure (if h : vs.size = 1 then vs[0] else .tuple vs)) := by
    unfold results
    congr 2
  rw [e, hres, Array.mapM_eq_mapM_toList, Sem.run_bind, Sem.run_map]
  have := h.run ha hs
  rw [List.toList_toArray, this]
  simp only [Result.andThen_ok]
  cases vs with
  | nil => rfl
  | cons v vs =>
    cases vs with
    | nil => rfl
    | cons u vs => rfl
section
variable {F F0 : PH} {H X : List Asrt} {Q : Value → PH → List Asrt → Prop} {P : Program} {fn : Func} {N : Nat} {w0 : World} {k : List KItem} {l : Env}
/-- The end, with results wherever they lie. H' is what is handed back beside X. -/
theorem J_retv {rs : List ResultVar} {vs : List Value} (hres : fn.results = rs.toArray) (h : ResOk P l F H rs vs) (H' : List Asrt) (hH : ∀ w, Sat F H w → Sat F (H' ++ X) w) (hF : F0.le F) (hQ : Q (retV vs) F H') :
    J ⟨P, fn, Post w0 F0 X Q, N, w0⟩ (.code .ret :: k) l F H :=
  J_ret0 (v := retV vs) (fun _ _ ha hs => results_run ha hs hres h) fun w hm hs => ⟨_, F, H', rfl, hF, hQ, hm, hH w hs⟩
end
end Go.Proofs.YtekdmpbkcjjllaaDoor
