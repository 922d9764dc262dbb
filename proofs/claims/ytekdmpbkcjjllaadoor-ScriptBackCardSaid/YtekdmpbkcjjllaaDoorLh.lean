/-
  Open orders whose last operation waits for all others: the others in whatever order, memory made among them; then comes the last one. Plain theorems over any program; no condition.
-/
import Derived.Test.YtekdmpbkcjjllaaDoorKw
namespace Go.Proofs.YtekdmpbkcjjllaaDoor
open Go.RowKit
/-- The last operation waits for each other one, be it through others; the others for earlier ones alone. -/
def lastB (md : Region.Mode) (ops : List Oper) : Bool :=
  (List.range (ops.length - 1)).all (fun i => match ops[i]? with
    | none => false
    | some o => o.after.all (fun e => !(Region.binds md e) || decide (e.on < i)) && (match o.guard with | none => true | some g => decide (g.1 < ops.length - 1))) &&
  (match ops[ops.length - 1]? with
    | none => false
    | some o => o.after.all (fun e => !(Region.binds md e) || decide (e.on < ops.length - 1)) && (List.range (ops.length - 1)).all fun k => (o.after.any fun e => Region.binds md e && e.on == k) || (List.range (ops.length - 1)).any fun j => decide (k < j) && (match ops[j]? with
      | none => false
      | some oj => oj.after.any fun e => Region.binds md e && e.on == k))
/-- What has come up waits for nothing that hasn't. -/
def ShutL (md : Region.Mode) (pre : List Oper) (L : Array Bool) : Prop := ∀ j oj, pre[j]? = some oj → L.getD j false = true → ∀ e ∈ oj.after, Region.binds md e = true → L.getD e.on false = true
theorem wp_same {P : Program} {o : Oper} {a : Act} {w : World} {K : Act → World → Prop} {Q Q' : Exit → Act → World → Prop} (hp : ∀ c a w, Q' (.panic c) a w → Q (.panic c) a w) (ho : LetsOut Q' → LetsOut Q) (h : o.wp P a w K Q') : o.wp P a w K Q := by
  unfold Oper.wp at *
  generalize (execOp a.eval o).run P w = r at *
  cases r with
  | ok n w' =>
    cases n <;> simp only [Oper.upon] at h ⊢ <;> first | exact h | skip
    refine Calls.mono h fun e w'' he => ?_
    cases e with
    | returned u => exact he
    | panicked c => exact hp _ _ _ he
    | outgrown => exact ho he
  | halt x w' =>
    cases x <;> simp only [Oper.upon] at h ⊢ <;> first | exact h | skip
    exact hp _ _ _ h
theorem getD_push {L : Array Bool} {b d : Bool} {i : Nat} : (L.push b).getD i d = if i < L.size then L.getD i d else if i = L.size then b else d := by
  simp only [Array.getD_eq_getD_getElem?, Array.getElem?_push]
  by_cases h : i = L.size
  · subst h; simp
  · rw [if_neg h]
    by_cases h2 : i < L.size
    · rw [if_pos h2]
    · rw [if_neg h2, if_neg h, Array.getElem?_eq_none (by omega)]; rfl
section
variable {P : Program} {md : Region.Mode} {pre : List Oper} {o : Oper} {Q Q' : Exit → Act → World → Prop}
theorem last_pre (hB : lastB md (pre ++ [o]) = true) : (∀ i oi, pre[i]? = some oi → (∀ e ∈ oi.after, Region.binds md e = true → e.on < i) ∧ ∀ g, oi.guard = some g → g.1 < pre.length) ∧ (∀ e ∈ o.after, Region.binds md e = true → e.on < pre.length) ∧ ∀ k, k < pre.length → (∃ e ∈ o.after, Region.binds md e = true ∧ e.on = k) ∨ ∃ j oj, k < j ∧ pre[j]? = some oj ∧ ∃ e ∈ oj.after, Region.binds md e = true ∧ e.on = k := by
  unfold lastB at hB
  have hl : (pre ++ [o]).length - 1 = pre.length := by simp
  rw [hl] at hB
  simp only [Bool.and_eq_true, List.all_eq_true, List.mem_range] at hB
  obtain ⟨h1, h2⟩ := hB
  have ho : (pre ++ [o])[pre.length]? = some o := by simp
  rw [ho] at h2
  simp only [Bool.and_eq_true, Array.all_eq_true_iff_forall_mem, Bool.or_eq_true, Bool.not_eq_true', decide_eq_true_eq, List.all_eq_true, List.mem_range, Array.any_eq_true, beq_iff_eq, List.any_eq_true] at h2
  refine ⟨fun i oi hi => ?_, fun e he hb => (h2.1 e he).resolve_left (by simp [hb]), fun k hk => ?_⟩
  · have hlt := (List.getElem?_eq_some_iff.1 hi).1
    have h3 := h1 i hlt
    rw [List.getElem?_append_left hlt, hi] at h3
    simp only [Bool.and_eq_true, Array.all_eq_true_iff_forall_mem, Bool.or_eq_true, Bool.not_eq_true', decide_eq_true_eq] at h3
    refine ⟨fun e he hb => (h3.1 e he).resolve_left (by simp [hb]), fun g hg => ?_⟩
    have h4 := h3.2
    rw [hg] at h4
    simpa using h4
  · rcases h2.2 k hk with ⟨j, hj, hb, he⟩ | ⟨j, hjn, hkj, h5⟩
    · exact .inl ⟨o.after[j], Array.getElem_mem hj, hb, he⟩
    · rw [List.getElem?_append_left hjn] at h5
      cases hoj : pre[j]? with
      | none => rw [hoj] at h5; cases h5
      | some oj =>
        rw [hoj] at h5
        simp only [Array.any_eq_true, Bool.and_eq_true, beq_iff_eq] at h5
        obtain ⟨q, hq, hb, he⟩ := h5
        exact .inr ⟨j, oj, hkj, hoj, oj.after[q], Array.getElem_mem hq, hb, he⟩
theorem ready_pre (hB : lastB md (pre ++ [o]) = true) {L : Array Bool} (hL : L.size = pre.length) {i : Nat} (hi : i < pre.length) : i ∈ Region.ready md (pre ++ [o]).toArray (L.push false) ↔ i ∈ Region.ready md pre.toArray L := by
  obtain ⟨h1, _, _⟩ := last_pre hB
  rw [mem_ready, mem_ready]
  have e1 : (pre ++ [o]).toArray[i]? = pre.toArray[i]? := by simp [List.getElem?_append_left hi]
  rw [e1, getD_push, if_pos (by omega)]
  refine and_congr Iff.rfl (exists_congr fun oi => and_congr_right fun hoi => ?_)
  have hoi' : pre[i]? = some oi := by simpa using hoi
  refine forall_congr' fun e => forall_congr' fun he => forall_congr' fun hb => ?_
  have := (h1 i oi hoi').1 e he hb
  rw [getD_push, if_pos (by omega)]
theorem ready_all {L : Array Bool} (hB : lastB md (pre ++ [o]) = true) (hL : L.size = pre.length) (hsh : ShutL md pre L) (h : pre.length ∈ Region.ready md (pre ++ [o]).toArray (L.push false)) : ∀ k, k < pre.length → L.getD k false = true := by
  obtain ⟨_, _, h3⟩ := last_pre hB
  obtain ⟨_, o', ho', hall⟩ := mem_ready.1 h
  have : o' = o := by simpa using ho'.symm
  subst this
  have key : ∀ m k, k < pre.length → pre.length - k ≤ m → L.getD k false = true := by
    intro m
    induction m with
    | zero => intro k hk hm; omega
    | succ m ih =>
      intro k hk hm
      rcases h3 k hk with ⟨e, he, hb, rfl⟩ | ⟨j, oj, hkj, hoj, e, he, hb, rfl⟩
      · have := hall e he hb
        rwa [getD_push, if_pos (by omega)] at this
      · have hj := (List.getElem?_eq_some_iff.1 hoj).1
        exact hsh j oj hoj (ih j hj (by omega)) e he hb
  exact fun k hk => key _ k hk (Nat.le_refl _)
theorem shut_set {L : Array Bool} {i : Nat} (hL : L.size = pre.length) (hsh : ShutL md pre L) (hi : i ∈ Region.ready md pre.toArray L) : ShutL md pre (L.setIfInBounds i true) := by
  obtain ⟨_, oi, hoi, hall⟩ := mem_ready.1 hi
  have hmono : ∀ k, L.getD k false = true → (L.setIfInBounds i true).getD k false = true := fun k hk => by
    simp only [Array.getD_eq_getD_getElem?, Array.getElem?_setIfInBounds] at hk ⊢
    by_cases e : i = k
    · subst e
      rw [if_pos rfl]
      by_cases hlt : i < L.size
      · rw [if_pos hlt]; rfl
      · rw [Array.getElem?_eq_none (by omega)] at hk; cases hk
    · rw [if_neg e]; exact hk
  intro j oj hoj hj e he hb
  by_cases hji : j = i
  · subst hji
    have : oj = oi := by
      have h2 : pre[j]? = some oi := by simpa using hoi
      rw [hoj] at h2; exact Option.some.inj h2
    subst this
    exact hmono _ (hall e he hb)
  · refine hmono _ (hsh j oj hoj ?_ e he hb)
    simp only [Array.getD_eq_getD_getElem?, Array.getElem?_setIfInBounds] at hj ⊢
    rwa [if_neg (fun e => hji e.symm)] at hj
theorem getD_some {L : Array Bool} {k : Nat} (hk : k < L.size) (d d' : Bool) : L.getD k d = L.getD k d' := by
  simp [Array.getD_eq_getD_getElem?, hk]
theorem ready_nil {ops : List Oper} {L : Array Bool} (hL : L.size = ops.length) (h : ∀ k, k < ops.length → L.getD k false = true) : Region.ready md ops.toArray L = [] := by
  rw [List.eq_nil_iff_forall_not_mem]
  intro j hj
  obtain ⟨h1, oj, hoj, _⟩ := mem_ready.1 hj
  have hlt : j < ops.length := by
    have := (Array.getElem?_eq_some_iff.1 hoj).1
    simpa using this
  rw [getD_some (by omega) true false, h j hlt] at h1
  cases h1
/-- Where nothing more can come up of the others, all have. -/
theorem pre_done (hB : lastB md (pre ++ [o]) = true) {L : Array Bool} (hL : L.size = pre.length) (h : Region.ready md pre.toArray L = []) : ∀ k, k < pre.length → L.getD k false = true := by
  obtain ⟨h1, _, _⟩ := last_pre hB
  intro k
  induction k using Nat.strongRecOn with
  | ind k ih =>
    intro hk
    cases hc : L.getD k false with
    | true => rfl
    | false =>
      exfalso
      have hk' : pre[k]? = some pre[k] := List.getElem?_eq_getElem hk
      have : k ∈ Region.ready md pre.toArray L := by
        rw [mem_ready]
        refine ⟨by rw [getD_some (by omega) true false]; exact hc, pre[k], by rw [List.getElem?_toArray]; exact hk', fun e he hb => ?_⟩
        have := (h1 k _ hk').1 e he hb
        exact ih e.on this (by omega)
      rw [h] at this
      cases this
theorem last_ready (hB : lastB md (pre ++ [o]) = true) {L : Array Bool} (hL : L.size = pre.length) (h : ∀ k, k < pre.length → L.getD k false = true) : pre.length ∈ Region.ready md (pre ++ [o]).toArray (L.push false) := by
  obtain ⟨_, h2, _⟩ := last_pre hB
  rw [mem_ready]
  refine ⟨by rw [getD_push, if_neg (by omega), if_pos hL.symm], o, by simp, fun e he hb => ?_⟩
  have := h2 e he hb
  rw [getD_push, if_pos (by omega)]
  exact h _ this
theorem wpOp_pre (hB : lastB md (pre ++ [o]) = true) (hp : ∀ c a w, Q' (.panic c) a w → Q (.panic c) a w) (ho : LetsOut Q' → LetsOut Q) {i : Nat} (hi : i < pre.length) {K : Act → World → Prop} {a : Act} {w : World} (h : wpOp P pre.toArray Q' i K a w) : wpOp P (pre ++ [o]).toArray Q i K a w := by
  obtain ⟨h1, _, _⟩ := last_pre hB
  have e1 : (pre ++ [o]).toArray[i]? = pre.toArray[i]? := by simp [List.getElem?_append_left hi]
  have hoi : pre.toArray[i]? = some pre[i] := by simp [hi]
  have hoi' : pre[i]? = some pre[i] := List.getElem?_eq_getElem hi
  unfold wpOp at *
  rw [e1]
  rw [hoi] at h ⊢
  dsimp only at h ⊢
  have hw : Region.wanted pre[i] (yielded (pre ++ [o]).toArray a.tmps) = Region.wanted pre[i] (yielded pre.toArray a.tmps) := by
    unfold Region.wanted
    cases hg : pre[i].guard with
    | none => rfl
    | some g =>
      have hlt := (h1 i _ hoi').2 g hg
      have : yielded (pre ++ [o]).toArray a.tmps g.1 = yielded pre.toArray a.tmps g.1 := by
        unfold yielded
        have e2 : (pre ++ [o]).toArray[g.1]? = pre.toArray[g.1]? := by simp [List.getElem?_append_left hlt]
        rw [e2]
      obtain ⟨j, want⟩ := g
      dsimp only at this ⊢
      rw [this]
  rw [hw]
  split at h
  · rename_i hx
    rw [if_pos hx]
    rcases h with h | ⟨ha, hl⟩
    · exact .inl (wp_same hp ho h)
    · exact .inr ⟨ha, ho hl⟩
  · rename_i hx
    rw [if_neg hx]
    exact h
theorem wpAny_last (hB : lastB md (pre ++ [o]) = true) (hp : ∀ c a w, Q' (.panic c) a w → Q (.panic c) a w) (ho : LetsOut Q' → LetsOut Q) (hn : ∀ a w, Q' .normal a w → wpOp P (pre ++ [o]).toArray Q pre.length (fun a' w' => Q .normal a' w') a w) :
    ∀ (fuel : Nat) (L : Array Bool) (a : Act) (w : World), L.size = pre.length → ShutL md pre L → wpAny P md pre.toArray Q' fuel L a w → wpAny P md (pre ++ [o]).toArray Q (fuel + 1) (L.push false) a w := by
  have hlastop : ∀ (fuel : Nat) (L : Array Bool) (a : Act) (w : World), L.size = pre.length → (∀ k, k < pre.length → L.getD k false = true) → Q' .normal a w → wpOp P (pre ++ [o]).toArray Q pre.length (wpAny P md (pre ++ [o]).toArray Q fuel ((L.push false).setIfInBounds pre.length true)) a w := fun fuel L a w hL hall hq => by
    have hnil : Region.ready md (pre ++ [o]).toArray ((L.push false).setIfInBounds pre.length true) = [] := by
      refine ready_nil (by simp [hL]) fun k hk => ?_
      simp only [Array.getD_eq_getD_getElem?, Array.getElem?_setIfInBounds, Array.size_push, hL]
      by_cases e : pre.length = k
      · rw [if_pos e, if_pos (by simp at hk; omega)]; rfl
      · rw [if_neg e]
        have hk' : k < pre.length := by simp at hk; omega
        have := hall k hk'
        rw [Array.getElem?_push, if_neg (by omega)]
        simpa [Array.getD_eq_getD_getElem?] using this
    refine wpOp_mono (fun a' w' h' => ?_) (hn a w hq)
    cases fuel with
    | zero => exact ⟨hnil, h'⟩
    | succ f => exact ⟨fun _ => h', fun i hi => by rw [hnil] at hi; cases hi⟩
  have hcase : ∀ (L : Array Bool), L.size = pre.length → ∀ i, i ∈ Region.ready md (pre ++ [o]).toArray (L.push false) → i < pre.length ∨ i = pre.length := fun L _ i hi => by
    obtain ⟨_, oi, hoi, _⟩ := mem_ready.1 hi
    have := (Array.getElem?_eq_some_iff.1 hoi).1
    simp at this
    omega
  have hnn : ∀ (L : Array Bool), L.size = pre.length → Region.ready md (pre ++ [o]).toArray (L.push false) = [] → False := fun L hL h0 => by
    by_cases hr : Region.ready md pre.toArray L = []
    · have := last_ready hB hL (pre_done hB hL hr)
      rw [h0] at this; cases this
    · obtain ⟨i, hi⟩ := List.exists_mem_of_ne_nil _ hr
      obtain ⟨_, oi, hoi, _⟩ := mem_ready.1 hi
      have hlt : i < pre.length := by simpa using (Array.getElem?_eq_some_iff.1 hoi).1
      have := (ready_pre hB hL hlt).2 hi
      rw [h0] at this; cases this
  intro fuel
  induction fuel with
  | zero =>
    intro L a w hL hsh h
    obtain ⟨hr, hq⟩ := h
    refine ⟨fun h0 => (hnn L hL h0).elim, fun i hi => ?_⟩
    rcases hcase L hL i hi with hlt | rfl
    · have := (ready_pre hB hL hlt).1 hi
      rw [hr] at this; cases this
    · exact hlastop 0 L a w hL (pre_done hB hL hr) hq
  | succ f ih =>
    intro L a w hL hsh h
    obtain ⟨hq, hall⟩ := h
    refine ⟨fun h0 => (hnn L hL h0).elim, fun i hi => ?_⟩
    rcases hcase L hL i hi with hlt | rfl
    · have h2 := hall i ((ready_pre hB hL hlt).1 hi)
      refine wpOp_pre hB hp ho hlt (wpOp_mono (fun a' w' h' => ?_) h2)
      have := ih (L.setIfInBounds i true) a' w' (by simp [hL]) (shut_set hL hsh ((ready_pre hB hL hlt).1 hi)) h'
      have e : (L.push false).setIfInBounds i true = (L.setIfInBounds i true).push false := by
        apply Array.ext_getElem?
        intro j
        simp only [Array.getElem?_setIfInBounds, Array.getElem?_push, Array.size_setIfInBounds, Array.size_push]
        by_cases hj : i = j
        · subst hj
          rw [if_pos rfl, if_pos (by omega), if_neg (by omega), if_pos rfl, if_pos (by omega)]
        · rw [if_neg hj, if_neg hj]
      rw [e]
      exact this
    · have hl := ready_all hB hL hsh hi
      have hr : Region.ready md pre.toArray L = [] := ready_nil hL hl
      exact hlastop (f + 1) L a w hL hl (hq hr)
end
section
variable {C : Ctx} {k : List KItem} {l : Env} {F : PH} {H : List Asrt}
/-- The others in whatever order, S held behind each; then the last one. -/
theorem jaL {id : Nat} {ops : List Oper} {o : Oper} (Fs : PH) (Hs : List Asrt) (hlo : lastO ops = some o) (hm : C.P.follows .mixedOrders = true) (hB : lastB .any ops = true) (hS : ∀ w, Sat F H w → Sat Fs Hs w)
    (h : JA C (Sat Fs Hs) ops.dropLast.toArray ops.dropLast.toArray.size (Array.replicate ops.dropLast.toArray.size false) (lastK C ops.toArray o k) l F H) : J C (.code (.region id ops.toArray true) :: k) l F H := by
  have he := lastO_eq hlo
  generalize ops.dropLast = pre at he h
  subst he
  unfold J
  unfold JA at h
  intro a w ha hmw hs
  refine wp_region_any hm ?_
  have h1 := wpAny_of_held _ _ _ _ (h hS a { w with drawn := w.drawn + 1 } ha (hmw.trans (Mild.drew w)) hs)
  have h2 := wpAny_last (P := C.P) (Q := kpost C k) (Q' := kpost C (lastK C (pre ++ [o]).toArray o k)) hB (fun _ _ _ h => h) (fun h => h) (fun a w hq => ?_) _ (Array.replicate pre.length false) a _ (by simp) (fun j oj hoj hj => by
    simp only [Array.getD_eq_getD_getElem?, Array.getElem?_replicate] at hj
    split at hj <;> cases hj) (by simpa using h1)
  · have e1 : Array.replicate (pre ++ [o]).toArray.size false = (Array.replicate pre.length false).push false := by
      apply Array.ext
      · simp
      · intro j h1 h2
        simp [Array.getElem_push]
    rw [e1]
    simpa using h2
  · have h4 : wpList C.P (pre ++ [o]).toArray (kpost C k) [o] a w := hq
    have hn : (pre ++ [o]).toArray[pre.length]? = some o := by simp
    unfold wpOp
    simp only [hn]
    unfold wpList at h4
    split
    · rename_i hwn
      rw [if_pos hwn] at h4
      exact h4
    · rename_i hwn
      rw [if_neg hwn] at h4
      exact h4
end
end Go.Proofs.YtekdmpbkcjjllaaDoor
