/-
  Rows of the call's own: copied into, made longer; 'append(s, make([]T, m)...)' where there is no room; slices.overlaps. Plain theorems over any program; no condition.
-/
import Derived.Test.YtekdmpbkcjjllaaDoorKx
import Derived.Test.YtekdmpbkcjjllaaDoorLf
import Derived.Lib.Overlaps
namespace Go.Proofs.YtekdmpbkcjjllaaDoor
open Go.RowKit
set_option maxRecDepth 100000
theorem run_copy_rowN {P : Program} (w : World) (dT sT ty e : TypeId) (size g o dLen dCap : Nat) (sb : Option Addr) (m sc : Nat) (cur : Array Value) (t : TypeId) (cs : List Value) (k : Nat)
    (hu : P.underlying dT = some (.slice e)) (hz : ∀ w, (sizeOf e).run P w = .ok size w) (hb : w.heap[g]? = some (.cells cur t (0, 0))) (hk : Nat.min m dLen = k) (hcs : (Builtin.firstCells size k (.slice sb m sc)).run P w = .ok cs.toArray w) (hfit : o + cs.length ≤ cur.size) (h1 : ∀ v ∈ cs, v.oneCell' = true) :
    (Builtin.copy_ #[dT, sT] ty #[.slice (some ⟨g, o, none⟩) dLen dCap, .slice sb m sc]).run P w = .ok (goInt k) (w.setRow g (cur.toList.take o ++ cs ++ cur.toList.drop (o + cs.length)).toArray) := by
  have hst := run_storeCells_at P g o t cs 0 cur w hb (by simpa using hfit) h1
  simp only [Nat.add_zero] at hst
  simp [Builtin.copy_, run_underlying hu, Builtin.lenOf, hz, hk, hcs, hst]
theorem zeros_len {P : Program} {T E size bytes : Nat} {zv : Value} (he : Elem P T E size bytes zv) (m : Nat) : ((List.replicate m zv.cells.toList).flatten).length = m * size := by
  have hzc := zeroCells_list he m
  obtain ⟨_, ⟨i, _, _, hsz, _, hzs, _⟩, _, _⟩ := he
  have := congrArg Array.size hzc
  rw [size_zeroCells, hzs] at this
  simpa using this.symm
section
variable {P : Program} {l : Env} {F : PH} {H Hr H' : List Asrt} {d : Option Nat} {T T' U E : TypeId} {pos : String} {af : Array Edge} {gd : Option (Nat × Bool)} {x y : Operand} {size bytes : Nat} {zv : Value}
/-- 'copy(d, s)', d cut from a row of the call's own. -/
theorem ev_copy_own {g n c lo m k c2 e : Nat} {a2 : Option Addr} {xs ys news : List Value} (hx : opv l x = some (cutV (some ⟨g, 0, none⟩) size c lo n c)) (hy : opv l y = some (.slice a2 m c2)) (ht : elemSize P T = some (e, size))
    (hr : RdS F H size (.slice a2 m c2) m news) (h1 : Ones (news.take (k * size))) (hlo : lo ≤ n) (hk : Nat.min m (n - lo) = k) (hlay : Lay (lo * size) (news.take (k * size)) xs ys)
    (hu : Upd (own (.slice (some ⟨g, 0, none⟩) n c) E size n xs) (own (.slice (some ⟨g, 0, none⟩) n c) E size n ys) H H') :
    Ev' P ⟨d, .call { callee := .builtin .copy, args := #[x, y], argTypes := #[T, T'] }, U, pos, af, gd⟩ l F H fun v F' H'' => F = F' ∧ v = .int .i64 k ∧ H'' = H' := .of fun N A w ha hs => by
  have e1 := ha.opv hx
  have e2 := ha.opv hy
  obtain ⟨hs1, hs2⟩ := hlay.eq
  obtain ⟨hul, i, hi, hisz⟩ := elemSize_info ht
  have hz := fun w => run_sizeOf (P := P) hi w
  rw [hisz] at hz
  obtain ⟨cur, hb, hlen, hnc, hcm, hcs, htk, kk⟩ := own_block hs hu
  have hkm : k ≤ m := by subst hk; exact Nat.min_le_left _ _
  have hkn : k ≤ n - lo := by subst hk; exact Nat.min_le_right _ _
  have hcl : (news.take (k * size)).length = k * size := by rw [List.length_take, hr.1]; exact Nat.min_eq_left (Nat.mul_le_mul_right _ hkm)
  have hsrc : (Builtin.firstCells size k (.slice a2 m c2)).run P w = .ok (news.take (k * size)).toArray w := by
    by_cases h0 : 0 < m
    · obtain ⟨b2, off2, rfl, hw⟩ := hr.at hs h0
      exact run_firstCells_some w size k _ m c2 _ hcl (fun j v hj => hw j v (by
        rw [List.getElem?_take] at hj
        split at hj
        · exact hj
        · cases hj))
    · have hk0 : k = 0 := by omega
      subst hk0
      rw [Nat.zero_mul, List.take_zero]
      cases a2 with
      | none => exact run_firstCells_none w size 0 m c2
      | some ad => exact run_firstCells_some w size 0 ad m c2 [] (by simp) (fun j u e => by simp at e)
  have h1' : ∀ v ∈ news.take (k * size), v.oneCell' = true := h1
  have hnsz : n * size ≤ c * size := Nat.mul_le_mul_right _ hnc
  have hfin : ∀ (o : Nat), (o = lo * size ∨ k = 0 ∧ o = 0) → own (.slice (some ⟨g, 0, none⟩) n c) E size n ys (PH.one g (.cells (cur.toList.take o ++ news.take (k * size) ++ cur.toList.drop (o + (news.take (k * size)).length)).toArray E (0, 0))) ∧ o + (news.take (k * size)).length ≤ cur.size := by
    intro o ho
    rcases ho with rfl | ⟨rfl, rfl⟩
    · refine ⟨own_mk ?_ hnc hcm ?_ ?_, ?_⟩
      · rw [hs1]
        simp only [List.length_append, List.length_take, List.length_drop] at hs2 ⊢
        omega
      · simp only [List.size_toArray, List.length_append, List.length_take, List.length_drop, Array.length_toList] at hs2 hcl ⊢
        omega
      · simp only []
        rw [hs1, ← htk]
        rw [← htk] at hs2
        simp only [List.length_take, Array.length_toList] at hs2
        apply List.ext_getElem?
        intro j
        simp only [List.getElem?_take, List.getElem?_append, List.length_take, List.length_append, Array.length_toList, List.getElem?_drop, List.length_drop]
        grind
      · rw [hcl] at hs2 ⊢
        omega
    · rw [Nat.zero_mul, List.take_zero] at hs1 ⊢
      refine ⟨own_mk ?_ hnc hcm ?_ ?_, by simp⟩
      · rw [hs1]; simp [hlen]
      · simp [hcs]
      · simp at hs1
        simp [hs1, htk]
  have fin : ∀ (o dl dc : Nat), Nat.min m dl = k → (o = lo * size ∨ k = 0 ∧ o = 0) → opv l x = some (.slice (some ⟨g, o, none⟩) dl dc) → ∃ nx w' v F' H'', (execOp A.eval ⟨d, .call { callee := .builtin .copy, args := #[x, y], argTypes := #[T, T'] }, U, pos, af, gd⟩).run P w = .ok nx w' ∧ (nx = .value v ∨ (nx = .skip ∧ v = undef)) ∧ Mild w w' ∧ F.le F' ∧ (F = F' ∧ v = .int .i64 k ∧ H'' = H') ∧ Sat F' H'' w' := fun o dl dc hm ho hxo => by
    obtain ⟨f1, f2⟩ := hfin o ho
    have e1 := ha.opv hxo
    have hrun := run_copy_rowN (P := P) w T T' U e size g o dl dc a2 m c2 cur E (news.take (k * size)) k hul hz hb hm hsrc f2 h1'
    refine ⟨.value (goInt k), _, goInt k, F, H', ?_, .inl rfl, Mild.setRow w g _, PH.ler F, ⟨rfl, rfl, rfl⟩, kk _ f1⟩
    generalize A.eval = ρ at e1 e2 ⊢
    simp only [execOp, resolve, List.map_toArray, List.map_cons, List.map_nil, e1, e2, pure_bind, invoke, builtin]
    exact run_v hrun
  unfold cutV at hx
  by_cases hc : c = lo
  · rw [if_pos hc] at hx
    exact fin 0 _ _ hk (.inr ⟨by omega, rfl⟩) hx
  · rw [if_neg hc, Option.map_some, adr_add, Nat.zero_add] at hx
    exact fin (lo * size) _ _ hk (.inl rfl) hx
/-- 'append(s, make([]T, m)...)' where there is no room in s: a new row. -/
theorem ev_append_zeros_fresh {a : Option Addr} {c n m : Nat} {k kn : IntKind} {xs : List Value} (hx : opv l x = some (.slice a n c)) (hy : opv l y = some (.int k (m : Int))) (he : Elem P T E size bytes zv) (hn : P.underlying T' = some (.int kn)) (hr0 : RdS F H size (.slice a n c) n xs)
    (hg : c < n + m) (h0m : 0 < m) (hb : (n + m) * bytes ≤ 140737488355328) :
    Ev' P ⟨d, .call { callee := .builtin .append, args := #[x, y], argTypes := #[T, T'] }, U, pos, af, gd⟩ l F H fun u F' H' => F = F' ∧ H' = own u E size (n + m) (xs ++ (List.replicate m zv.cells.toList).flatten) :: H := .of fun N A w ha hs => by
  have hzc := zeroCells_list he m
  obtain ⟨hu1, ⟨i, hi, hz, hsz, hby, hzs, h0⟩, _, hbp⟩ := he
  have hpos := Nat.le_of_ble_eq_true hbp
  have hnm : n + m ≤ (n + m) * bytes := Nat.le_mul_of_pos_right _ hpos
  have hmb : m * bytes ≤ (n + m) * bytes := Nat.mul_le_mul_right _ (by omega)
  subst hsz; subst hby
  have e1 := ha.opv hx; have e2 := ha.opv hy
  have hl0 : xs.length = n * i.size := hr0.1
  have hzl : ((List.replicate m zv.cells.toList).flatten).length = m * i.size := by
    have := congrArg Array.size hzc
    rw [size_zeroCells, hzs] at this
    simpa using this.symm
  have hold : (Builtin.firstCells i.size n (.slice a n c)).run P w.drew = .ok xs.toArray w.drew := by
    by_cases hn0 : 0 < n
    · obtain ⟨b, off, rfl, hw⟩ := hr0.at hs hn0
      exact run_firstCells_some w.drew i.size n _ n c xs hl0 (by simpa using hw)
    · have hn : n = 0 := by omega
      subst hn
      have hnil : xs = [] := List.eq_nil_of_length_eq_zero (by simpa using hl0)
      subst hnil
      cases a with
      | none => exact run_firstCells_none w.drew i.size 0 0 c
      | some ad => exact run_firstCells_some w.drew i.size 0 ad 0 c [] (by simp) (fun j u e => by simp at e)
  have hrun := run_append_zeros_grow (P := P) w T T' U E i zv k kn hu1 hn hi hz a n c m xs hold h0m h0 hg (by omega) (by omega) (growslice_fits hg hb)
  rw [hzc, List.toList_toArray] at hrun
  have hge := grownCap_ge w (n + m) c E
  have hcm : grownCap w (n + m) c E ≤ maxLen := grownCap_le_maxLen w (n + m) c E (by unfold maxLen; omega)
  have hl2 : (xs ++ (List.replicate m zv.cells.toList).flatten).length = (n + m) * i.size := by rw [List.length_append, hl0, hzl, Nat.add_mul]
  refine ⟨.value (.slice (some ⟨w.heap.size, 0, none⟩) (n + m) (grownCap w (n + m) c E)), _, .slice (some ⟨w.heap.size, 0, none⟩) (n + m) (grownCap w (n + m) c E), F, _, ?_, .inl rfl,
    (Mild.drew w).trans (Mild.alloc w.drew (.cells ((xs ++ (List.replicate m zv.cells.toList).flatten).toArray ++ Builtin.zeroCells zv.cells (grownCap w (n + m) c E - (n + m))) E)), PH.ler F, ⟨rfl, rfl⟩, Sat.alloc (w := w.drew) hs _ _ ?_⟩
  · generalize A.eval = ρ at e1 e2 ⊢
    simp only [execOp, resolve, List.map_toArray, List.map_cons, List.map_nil, e1, e2, pure_bind, invoke, builtin]
    exact run_v hrun
  · refine own_mk (g := w.heap.size) (c := grownCap w (n + m) c E) hl2 hge hcm ?_ ?_
    · simp only [Array.size_append, List.size_toArray, size_zeroCells, hzs, hl2, ← Nat.add_mul]
      congr 1
      omega
    · simp only [Array.toList_append]
      rw [← hl2]
      exact List.take_left
/-- Two rows of the call's own do not overlap. -/
theorem ev_overlaps {f : FuncId} {fn : Func} {tS tR e E1 E2 : TypeId} {b1 b2 o2 la ca lb cb n c size' : Nat} {cs xs : List Value} {args : List Operand} {tys : Array TypeId} (ha' : args = [x, y]) (hx : opv l x = some (.slice (some ⟨b1, 0, none⟩) la ca)) (hy : opv l y = some (.slice (some ⟨b2, o2, none⟩) lb cb))
    (hf : P.funcs[f]? = some fn) (hname : (fn.name == "runtime.NumGoroutine") = false) (hb : fn.body.isNone = true) (hn : Extern.findNext fn = none) (he : Extern.find fn = some (Extern.SlicesOverlaps.overlaps #[tS, tS] #[tR]))
    (hes : elemSize P tS = some (e, size)) (p1 : Pick (blk b1 E1 cs) H Hr) (p2 : Pick (own (.slice (some ⟨b2, 0, none⟩) n c) E2 size' n xs) Hr H') (hk : 0 < c * size') :
    Ev P ⟨d, .call { callee := .value (.func f), args := args.toArray, argTypes := tys }, U, pos, af, gd⟩ l F H (.bool false) := .of fun ρ hρ w hs => by
  subst ha'
  have e1 := hρ _ _ hx
  have e2 := hρ _ _ hy
  obtain ⟨hul, i, hi, hisz⟩ := elemSize_info hes
  have hz := fun w => run_sizeOf (P := P) hi w
  rw [hisz] at hz
  have hb1 := hs.blk_heap p1
  obtain ⟨h1, hA1, hd1, s1⟩ := (hs.pick p1).persist
  have eh1 : h1 = PH.one b1 (.cells cs.toArray E1 (0, 0)) := hA1
  subst eh1
  obtain ⟨h2, hA2, hd2, s2⟩ := (s1.pick p2).persist
  obtain ⟨_, hA3⟩ := hA2
  rcases hA3 with ⟨e, _, _⟩ | ⟨g', cap, cur, e, eh2, q2, q3, q4, q5⟩
  · cases e
  cases e
  subst eh2
  have hb2 : w.heap[b2]? = some (.cells cur E2 (0, 0)) := s2.le b2 _ ((PH.le_r hd2) b2 _ (PH.one_self _ _))
  have hne : b1 ≠ b2 := fun eb => by
    subst eb
    rcases hd2 b1 with e | e
    · have := (PH.le_r hd1) b1 _ (PH.one_self _ _)
      rw [this] at e; cases e
    · rw [PH.one_self] at e; cases e
  have hsa : w.shape? b1 = some (E1, cs.toArray.size) := by simp [World.shape?, hb1]
  have hsb : w.shape? b2 = some (E2, cur.size) := by simp [World.shape?, hb2]
  have hfa : w.frozen? ⟨b1, 0, none⟩ = false := by simp [World.frozen?, hb1]
  have hfe : w.frozen? ⟨b1, cs.toArray.size, none⟩ = false := by simp [World.frozen?, hb1]
  have hrun := Lib.run_overlaps_apart (P := P) w tS tR e hul size hz ⟨b1, 0, none⟩ ⟨b2, o2, none⟩ la ca lb cb hne E1 E2 _ _ hsa hsb (by omega) hfa hfe
  have hcall := run_callFunc_extern hf hname hb hn he #[.slice (some ⟨b1, 0, none⟩) la ca, .slice (some ⟨b2, o2, none⟩) lb cb] w
  rw [hrun] at hcall
  have e3 : ρ (.func f) = .func (.func f) #[] #[] := hρ _ _ rfl
  simp only [execOp, resolve, List.map_toArray, List.map_cons, List.map_nil, e1, e2, e3, pure_bind, invoke]
  exact hcall
end
theorem Sat.left {F : PH} {A B : List Asrt} {w : World} (s : Sat F (A ++ B) w) : Sat F A w := by
  obtain ⟨r, hr, hd, hw⟩ := s
  obtain ⟨a, b, ha, hb, hab, rfl⟩ := Star.append.1 hr
  exact ⟨a, ha, hd.mono_r (PH.le_l _ _), PH.un_le ((PH.le_l _ _).trans hw) ((PH.le_l a b).trans ((PH.le_r hd).trans hw))⟩
theorem rds_hi {F : PH} {H Hr : List Asrt} {E n hi c size g : Nat} {xs : List Value} (p : Pick (own (.slice (some ⟨g, 0, none⟩) n c) E size n xs) H Hr) (hn : n ≤ c) (hl : xs.length = n * size) (hh : hi ≤ n) : RdS F H size (.slice (some ⟨g, 0, none⟩) hi c) hi (xs.take (hi * size)) := by
  refine ⟨?_, _, c, rfl, by omega, fun h0 => ⟨g, 0, rfl, fun w s j u e => own_rdb p w s j u ?_⟩⟩
  · rw [List.length_take, hl, Nat.min_eq_left (Nat.mul_le_mul_right _ hh)]
  · rw [List.getElem?_take] at e
    split at e
    · exact e
    · cases e
theorem rds_lo {F : PH} {H Hr : List Asrt} {E n lo c size g : Nat} {xs : List Value} (p : Pick (own (.slice (some ⟨g, 0, none⟩) n c) E size n xs) H Hr) (hn : n ≤ c) (hl : xs.length = n * size) (hh : lo ≤ n) : RdS F H size (cutV (some ⟨g, 0, none⟩) size c lo n c) (n - lo) (xs.drop (lo * size)) := by
  refine ⟨?_, _, _, rfl, by omega, fun h0 => ⟨g, lo * size, ?_, fun w s j u e => ?_⟩⟩
  · rw [List.length_drop, hl, Nat.sub_mul]
  · rw [if_neg (by omega), Option.map_some, adr_add, Nat.zero_add]
  · rw [List.getElem?_drop] at e
    have := own_rdb p w s _ u e
    rwa [Nat.zero_add] at this
section
variable {C : Ctx} {k : List KItem} {l : Env} {F : PH} {H : List Asrt}
theorem jOwnA {Hr : List Asrt} {v : Value} {E size n : Nat} {xs : List Value} (p : Pick (own v E size n xs) H Hr) (h : ∀ a c, v = .slice a n c → n ≤ c → c ≤ maxLen → xs.length = n * size → (0 < n → ∃ b, a = some ⟨b, 0, none⟩) → J C k l F H) : J C k l F H :=
  jWith p (q := ∃ a c, v = .slice a n c ∧ n ≤ c ∧ c ≤ maxLen ∧ xs.length = n * size ∧ (0 < n → ∃ b, a = some ⟨b, 0, none⟩)) (fun h' hA => by
    obtain ⟨hl, hB⟩ := hA
    rcases hB with ⟨rfl, rfl, _⟩ | ⟨g, cap, cur, rfl, _, h2, h3, _⟩
    · exact ⟨none, 0, rfl, Nat.le_refl _, Nat.zero_le _, hl, fun h0 => absurd h0 (by omega)⟩
    · exact ⟨_, cap, rfl, h2, h3, hl, fun _ => ⟨g, rfl⟩⟩) fun ⟨a, c, h1, h2, h3, h4, h5⟩ => h a c h1 h2 h3 h4 h5
theorem oOwnA {ops : Array Oper} {rest : List Oper} {Hr : List Asrt} {v : Value} {E size n : Nat} {xs : List Value} (p : Pick (own v E size n xs) H Hr) (h : ∀ a c, v = .slice a n c → n ≤ c → c ≤ maxLen → xs.length = n * size → (0 < n → ∃ b, a = some ⟨b, 0, none⟩) → JM C false ops rest k l F H) : JM C false ops rest k l F H :=
  oWith p (q := ∃ a c, v = .slice a n c ∧ n ≤ c ∧ c ≤ maxLen ∧ xs.length = n * size ∧ (0 < n → ∃ b, a = some ⟨b, 0, none⟩)) (fun h' hA => by
    obtain ⟨hl, hB⟩ := hA
    rcases hB with ⟨rfl, rfl, _⟩ | ⟨g, cap, cur, rfl, _, h2, h3, _⟩
    · exact ⟨none, 0, rfl, Nat.le_refl _, Nat.zero_le _, hl, fun h0 => absurd h0 (by omega)⟩
    · exact ⟨_, cap, rfl, h2, h3, hl, fun _ => ⟨g, rfl⟩⟩) fun ⟨a, c, h1, h2, h3, h4, h5⟩ => h a c h1 h2 h3 h4 h5
/-- A row is seen longer, as far as its room goes. -/
theorem J_own_more {g n n' c E size : Nat} {xs : List Value} (hn : n ≤ n') (hc : n' ≤ c) (h : ∀ ys : List Value, ys.length = (n' - n) * size → J C k l F (own (.slice (some ⟨g, 0, none⟩) n' c) E size n' (xs ++ ys) :: H)) :
    J C k l F (own (.slice (some ⟨g, 0, none⟩) n c) E size n xs :: H) := by
  unfold J at h ⊢
  intro a w ha hm hs
  obtain ⟨r, ⟨h1, h2, hA, hr, hd, he⟩, hF, hw⟩ := hs
  obtain ⟨hlen, hB⟩ := hA
  rcases hB with ⟨e, _, _⟩ | ⟨g', cap, cur, e, eh, q2, q3, q4, q5⟩
  · cases e
  cases e
  have hs1 : n * size ≤ n' * size := Nat.mul_le_mul_right _ hn
  have hs2 : n' * size ≤ c * size := Nat.mul_le_mul_right _ hc
  have hyl : ((cur.toList.take (n' * size)).drop (n * size)).length = (n' - n) * size := by
    rw [List.length_drop, List.length_take, Array.length_toList, q4, Nat.min_eq_left hs2, Nat.sub_mul]
  have hxy : xs ++ (cur.toList.take (n' * size)).drop (n * size) = cur.toList.take (n' * size) := by
    rw [← q5]
    have : cur.toList.take (n * size) = (cur.toList.take (n' * size)).take (n * size) := by rw [List.take_take, Nat.min_eq_left hs1]
    rw [this, List.take_append_drop]
  refine h _ hyl a w ha hm ⟨r, ⟨h1, h2, ⟨?_, .inr ⟨g, c, cur, rfl, eh, hc, q3, q4, hxy.symm⟩⟩, hr, hd, he⟩, hF, hw⟩
  rw [hxy, List.length_take, Array.length_toList, q4, Nat.min_eq_left hs2]
theorem o_own_more {ops : Array Oper} {rest : List Oper} {g n n' c E size : Nat} {xs : List Value} (hn : n ≤ n') (hc : n' ≤ c) (h : ∀ ys : List Value, ys.length = (n' - n) * size → JM C false ops rest k l F (own (.slice (some ⟨g, 0, none⟩) n' c) E size n' (xs ++ ys) :: H)) :
    JM C false ops rest k l F (own (.slice (some ⟨g, 0, none⟩) n c) E size n xs :: H) := by
  unfold JM JO at h ⊢
  intro hdst a w ha hm hs
  obtain ⟨r, ⟨h1, h2, hA, hr, hd, he⟩, hF, hw⟩ := hs
  obtain ⟨hlen, hB⟩ := hA
  rcases hB with ⟨e, _, _⟩ | ⟨g', cap, cur, e, eh, q2, q3, q4, q5⟩
  · cases e
  cases e
  have hs1 : n * size ≤ n' * size := Nat.mul_le_mul_right _ hn
  have hs2 : n' * size ≤ c * size := Nat.mul_le_mul_right _ hc
  have hyl : ((cur.toList.take (n' * size)).drop (n * size)).length = (n' - n) * size := by
    rw [List.length_drop, List.length_take, Array.length_toList, q4, Nat.min_eq_left hs2, Nat.sub_mul]
  have hxy : xs ++ (cur.toList.take (n' * size)).drop (n * size) = cur.toList.take (n' * size) := by
    rw [← q5]
    have : cur.toList.take (n * size) = (cur.toList.take (n' * size)).take (n * size) := by rw [List.take_take, Nat.min_eq_left hs1]
    rw [this, List.take_append_drop]
  refine h _ hyl hdst a w ha hm ⟨r, ⟨h1, h2, ⟨?_, .inr ⟨g, c, cur, rfl, eh, hc, q3, q4, hxy.symm⟩⟩, hr, hd, he⟩, hF, hw⟩
  rw [hxy, List.length_take, Array.length_toList, q4, Nat.min_eq_left hs2]
end
end Go.Proofs.YtekdmpbkcjjllaaDoor
