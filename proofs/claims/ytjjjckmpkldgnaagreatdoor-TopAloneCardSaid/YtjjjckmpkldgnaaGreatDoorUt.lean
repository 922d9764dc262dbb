/-
  Regions of open order: what the reckoner's look at one tells. Plain theorems; no condition.
  Regions of open order, run: whichever comes next, the reckoner's state stands for the machine's. Plain theorems; no condition.
-/
import Derived.Test.YtjjjckmpkldgnaaGreatDoorUr
namespace Go.Proofs.YtjjjckmpkldgnaaGreatDoor.Rk
open Go.RowKit
set_option maxRecDepth 100000
theorem bitB_eq (m i : Nat) : bitB m i = m.testBit i := by
  unfold bitB
  rw [Nat.testBit, Nat.and_comm 1]
  show Nat.beq ((m >>> i) &&& 1) 1 = (((m >>> i) &&& 1) != 0)
  rw [Nat.and_one_is_mod]
  have : m >>> i % 2 = 0 ∨ m >>> i % 2 = 1 := by omega
  rcases this with e | e <;> rw [e] <;> rfl
theorem bitB_or (a b i : Nat) : bitB (Nat.lor a b) i = (bitB a i || bitB b i) := by
  rw [bitB_eq, bitB_eq, bitB_eq]
  exact Nat.testBit_or a b i
theorem bitB_one (j i : Nat) : bitB (Nat.shiftLeft 1 j) i = decide (j = i) := by
  rw [bitB_eq]
  show (1 <<< j).testBit i = _
  rw [Nat.shiftLeft_eq, Nat.one_mul, Nat.testBit_two_pow]
theorem bitB_zero (i : Nat) : bitB 0 i = false := by rw [bitB_eq]; exact Nat.zero_testBit i
theorem backB_ok {i : Nat} : ∀ {es : List Edge}, backB i es = true → ∀ e ∈ es, Region.binds .any e = true → e.on < i
  | [], _, e, h, _ => by cases h
  | a :: r, h, e, he, hb => by
    unfold backB at h
    rcases List.mem_cons.1 he with rfl | he
    · rw [hb] at h
      dsimp only at h
      split at h
      · rename_i hlt; exact Nat.le_of_ble_eq_true hlt
      · cases h
    · split at h
      · exact backB_ok h e he hb
      · split at h
        · exact backB_ok h e he hb
        · cases h
/-- What an operation waits for: each edge's operation, and what that waits for. -/
theorem edgeM_ok {ms : Tr Nat} (j : Nat) : ∀ {es : List Edge} {m : Nat}, bitB (edgeM ms es m) j = true ↔ bitB m j = true ∨ ∃ e ∈ es, Region.binds .any e = true ∧ (e.on = j ∨ bitB (maskAt ms e.on) j = true)
  | [], m => by
    unfold edgeM
    constructor
    · intro h; exact .inl h
    · rintro (h | ⟨e, he, _⟩)
      · exact h
      · cases he
  | a :: r, m => by
    unfold edgeM
    split
    · rename_i hb
      rw [edgeM_ok j]
      constructor
      · rintro (h | ⟨e, he, h⟩)
        · exact .inl h
        · exact .inr ⟨e, List.mem_cons_of_mem _ he, h⟩
      · rintro (h | ⟨e, he, h1, h2⟩)
        · exact .inl h
        · rcases List.mem_cons.1 he with rfl | he
          · rw [hb] at h1; cases h1
          · exact .inr ⟨e, he, h1, h2⟩
    · rename_i hb
      rw [edgeM_ok j, bitB_or, bitB_or, bitB_one]
      constructor
      · rintro (h | ⟨e, he, h⟩)
        · simp only [Bool.or_eq_true, decide_eq_true_eq] at h
          rcases h with h | h | h
          · exact .inl h
          · exact .inr ⟨a, List.mem_cons_self .., hb, .inl h⟩
          · exact .inr ⟨a, List.mem_cons_self .., hb, .inr h⟩
        · exact .inr ⟨e, List.mem_cons_of_mem _ he, h⟩
      · rintro (h | ⟨e, he, h1, h2⟩)
        · exact .inl (by rw [h]; rfl)
        · rcases List.mem_cons.1 he with rfl | he
          · refine .inl ?_
            simp only [Bool.or_eq_true, decide_eq_true_eq]
            rcases h2 with h2 | h2
            · exact .inr (.inl h2)
            · exact .inr (.inr h2)
          · exact .inr ⟨e, he, h1, h2⟩
/-- The look, as far as it has come. -/
structure PI (ops : List Oper) (i : Nat) (ms : Tr Nat) (es rs : List POp) : Prop where
  cover : ∀ j, j < i → ∃ p, (p ∈ es ∨ p ∈ rs) ∧ p.i = j
  lt : ∀ p, p ∈ es ∨ p ∈ rs → p.i < i ∧ ops[p.i]? = some p.o ∧ ms.get p.i = some p.m
  fe : ∀ p ∈ es, isEff p.o.op = true
  fr : ∀ p ∈ rs, isEff p.o.op = false
  edges : ∀ p, p ∈ es ∨ p ∈ rs → ∀ e ∈ p.o.after.toList, Region.binds .any e = true → bitB p.m e.on = true
  back : ∀ p, p ∈ es ∨ p ∈ rs → ∀ j, bitB p.m j = true → j < p.i
  trans : ∀ p q, p ∈ es ∨ p ∈ rs → q ∈ es ∨ q ∈ rs → bitB p.m q.i = true → ∀ j, bitB q.m j = true → bitB p.m j = true
  chain : ∀ k e e', es[k]? = some e' → es[k + 1]? = some e → bitB e'.m e.i = true
  need : ∀ p ∈ rs, ∃ es0 es1, es = es1 ++ es0 ∧ p.nd = needN p.m es0
  src : ∀ p, p ∈ es ∨ p ∈ rs → ∀ j, bitB p.m j = true → ∃ e ∈ p.o.after.toList, Region.binds .any e = true ∧ (e.on = j ∨ ∃ q, (q ∈ es ∨ q ∈ rs) ∧ q.i = e.on ∧ bitB q.m j = true)
  uniq : ∀ p q, p ∈ es ∨ p ∈ rs → q ∈ es ∨ q ∈ rs → p.i = q.i → p = q
theorem PI.start (ops : List Oper) : PI ops 0 .nil [] [] where
  cover := fun j h => absurd h (by omega)
  lt := fun p h => by rcases h with h | h <;> cases h
  fe := fun p h => by cases h
  fr := fun p h => by cases h
  edges := fun p h => by rcases h with h | h <;> cases h
  back := fun p h => by rcases h with h | h <;> cases h
  trans := fun p q h => by rcases h with h | h <;> cases h
  chain := fun k e e' h => by simp at h
  need := fun p h => by cases h
  src := fun p h => by rcases h with h | h <;> cases h
  uniq := fun p q h => by rcases h with h | h <;> cases h
theorem PI.step {ops : List Oper} {i : Nat} {ms : Tr Nat} {es rs : List POp} (I : PI ops i ms es rs) {o : Oper} (ho : ops[i]? = some o) (hb : backB i o.after.toList = true) {p : POp} (hi : p.i = i) (hpo : p.o = o) (hm : p.m = edgeM ms o.after.toList 0) {es' rs' : List POp}
    (hc : (es' = p :: es ∧ rs' = rs ∧ isEff o.op = true ∧ (∀ e r, es = e :: r → bitB p.m e.i = true)) ∨ (es' = es ∧ rs' = p :: rs ∧ isEff o.op = false ∧ p.nd = needN p.m es)) : PI ops (i + 1) (ms.set p.m i) es' rs' := by
  have mem : ∀ q, q ∈ es' ∨ q ∈ rs' → q = p ∨ (q ∈ es ∨ q ∈ rs) := by
    intro q hq
    rcases hc with ⟨rfl, rfl, _⟩ | ⟨rfl, rfl, _⟩
    · rcases hq with hq | hq
      · rcases List.mem_cons.1 hq with h | h
        · exact .inl h
        · exact .inr (.inl h)
      · exact .inr (.inr hq)
    · rcases hq with hq | hq
      · exact .inr (.inl hq)
      · rcases List.mem_cons.1 hq with h | h
        · exact .inl h
        · exact .inr (.inr h)
  have old : ∀ q, q ∈ es ∨ q ∈ rs → q ∈ es' ∨ q ∈ rs' := by
    intro q hq
    rcases hc with ⟨rfl, rfl, _⟩ | ⟨rfl, rfl, _⟩
    · rcases hq with hq | hq
      · exact .inl (List.mem_cons_of_mem _ hq)
      · exact .inr hq
    · rcases hq with hq | hq
      · exact .inl hq
      · exact .inr (List.mem_cons_of_mem _ hq)
  have me : p ∈ es' ∨ p ∈ rs' := by
    rcases hc with ⟨rfl, _⟩ | ⟨_, rfl, _⟩
    · exact .inl (List.mem_cons_self ..)
    · exact .inr (List.mem_cons_self ..)
  have hback : ∀ j, bitB p.m j = true → j < i := by
    intro j hj
    rw [hm, edgeM_ok, bitB_zero] at hj
    rcases hj with hj | ⟨e, he, h1, h2⟩
    · cases hj
    · have hlt := backB_ok hb e he h1
      rcases h2 with rfl | h2
      · exact hlt
      · obtain ⟨q, hq, hqi⟩ := I.cover _ hlt
        obtain ⟨_, _, hget⟩ := I.lt q hq
        have : maskAt ms e.on = q.m := by unfold maskAt; rw [← hqi, hget]
        rw [this] at h2
        have := I.back q hq j h2
        omega
  refine ⟨fun j hj => ?_, fun q hq => ?_, fun q hq => ?_, fun q hq => ?_, fun q hq e he hbe => ?_, fun q hq j hj => ?_, fun q q' hq hq' h1 j hj => ?_, fun k e e' h1 h2 => ?_, fun q hq => ?_, fun q hq j hj => ?_, fun q q' hq hq' e => ?_⟩
  · by_cases e : j = i
    · exact ⟨p, me, by omega⟩
    · obtain ⟨q, hq, h⟩ := I.cover j (by omega)
      exact ⟨q, old q hq, h⟩
  · rw [Tr.get_set]
    rcases mem q hq with rfl | hq
    · exact ⟨by omega, by rw [hi, hpo]; exact ho, by rw [if_pos hi]⟩
    · obtain ⟨h1, h2, h3⟩ := I.lt q hq
      exact ⟨by omega, h2, by rw [if_neg (by omega)]; exact h3⟩
  · rcases hc with ⟨rfl, rfl, h, _⟩ | ⟨rfl, rfl, _⟩
    · rcases List.mem_cons.1 hq with rfl | hq
      · rw [hpo]; exact h
      · exact I.fe q hq
    · exact I.fe q hq
  · rcases hc with ⟨rfl, rfl, _⟩ | ⟨rfl, rfl, h, _⟩
    · exact I.fr q hq
    · rcases List.mem_cons.1 hq with rfl | hq
      · rw [hpo]; exact h
      · exact I.fr q hq
  · rcases mem q hq with rfl | hq
    · rw [hm, edgeM_ok]
      rw [hpo] at he
      exact .inr ⟨e, he, hbe, .inl rfl⟩
    · exact I.edges q hq e he hbe
  · rcases mem q hq with rfl | hq
    · rw [hi]; exact hback j hj
    · exact I.back q hq j hj
  · rcases mem q hq with rfl | hq
    · have hlt := hback _ h1
      have hq'' : q' ∈ es ∨ q' ∈ rs := by
        rcases mem q' hq' with rfl | h
        · omega
        · exact h
      rw [hm, edgeM_ok, bitB_zero] at h1
      rcases h1 with h1 | ⟨e, he, e1, e2⟩
      · cases h1
      · rw [hm, edgeM_ok]
        refine .inr ⟨e, he, e1, .inr ?_⟩
        have hlt := backB_ok hb e he e1
        obtain ⟨u, hu, hui⟩ := I.cover _ hlt
        obtain ⟨_, _, hget⟩ := I.lt u hu
        have hmu : maskAt ms e.on = u.m := by unfold maskAt; rw [← hui, hget]
        rw [hmu] at e2 ⊢
        rcases e2 with e2 | e2
        · have : u.m = q'.m := by
            obtain ⟨_, _, hget'⟩ := I.lt q' hq''
            rw [← e2, ← hui] at hget'
            rw [hget] at hget'
            exact Option.some.inj hget'
          rw [this]; exact hj
        · exact I.trans u q' hu hq'' e2 j hj
    · have hq'' : q' ∈ es ∨ q' ∈ rs := by
        rcases mem q' hq' with rfl | h
        · have := I.back q hq _ h1
          have := (I.lt q hq).1
          omega
        · exact h
      exact I.trans q q' hq hq'' h1 j hj
  · rcases hc with ⟨rfl, rfl, _, h⟩ | ⟨rfl, rfl, _⟩
    · cases k with
      | zero =>
        cases h1
        cases es with
        | nil => simp at h2
        | cons x r => simp at h2; subst h2; exact h _ _ rfl
      | succ k => exact I.chain k e e' (by simpa using h1) (by simpa using h2)
    · exact I.chain k e e' h1 h2
  · rcases hc with ⟨rfl, rfl, _⟩ | ⟨rfl, rfl, _, h⟩
    · obtain ⟨es0, es1, h1, h2⟩ := I.need q hq
      exact ⟨es0, p :: es1, by rw [h1]; rfl, h2⟩
    · rcases List.mem_cons.1 hq with rfl | hq
      · exact ⟨es', [], rfl, h⟩
      · exact I.need q hq
  · rcases mem q hq with rfl | hq
    · rw [hm, edgeM_ok, bitB_zero] at hj
      rcases hj with hj | ⟨e, he, e1, e2⟩
      · cases hj
      · rw [hpo]
        refine ⟨e, he, e1, ?_⟩
        rcases e2 with e2 | e2
        · exact .inl e2
        · have hlt := backB_ok hb e he e1
          obtain ⟨u, hu, hui⟩ := I.cover _ hlt
          obtain ⟨_, _, hget⟩ := I.lt u hu
          have hmu : maskAt ms e.on = u.m := by unfold maskAt; rw [← hui, hget]
          rw [hmu] at e2
          exact .inr ⟨u, old u hu, hui, e2⟩
    · obtain ⟨e, he, e1, e2⟩ := I.src q hq j hj
      exact ⟨e, he, e1, e2.imp id fun ⟨u, hu, h⟩ => ⟨u, old u hu, h⟩⟩
  · rcases mem q hq with rfl | hq
    · rcases mem q' hq' with rfl | hq'
      · rfl
      · have := (I.lt q' hq').1; omega
    · rcases mem q' hq' with rfl | hq'
      · have := (I.lt q hq).1; omega
      · exact I.uniq q q' hq hq' e
theorem pops_ok {ops : List Oper} : ∀ {r : List Oper} {i : Nat} {ms : Tr Nat} {es rs es' rs' : List POp}, ops.drop i = r → PI ops i ms es rs → pops r i ms es rs = some (es', rs') → ∃ ms', PI ops ops.length ms' es'.reverse rs'.reverse
  | [], i, ms, es, rs, es', rs', hd, I, h => by
    unfold pops at h
    cases h
    have hlen : ops.length ≤ i := by simpa using hd
    refine ⟨ms, ?_⟩
    rw [List.reverse_reverse, List.reverse_reverse]
    exact ⟨fun j hj => I.cover j (by omega), fun p hp => by
      obtain ⟨_, h2, h3⟩ := I.lt p hp
      exact ⟨(List.getElem?_eq_some_iff.1 h2).1, h2, h3⟩, I.fe, I.fr, I.edges, I.back, I.trans, I.chain, I.need, I.src, I.uniq⟩
  | o :: r, i, ms, es, rs, es', rs', hd, I, h => by
    have ho : ops[i]? = some o := by
      have := congrArg (fun l => l[0]?) hd
      simpa using this
    have hd' : ops.drop (i + 1) = r := by
      rw [← List.drop_drop, hd]; rfl
    unfold pops at h
    split at h
    · cases h
    · rename_i hb
      split at h
      · rename_i he
        split at h
        · exact pops_ok hd' (I.step ho hb (p := ⟨i, o, edgeM ms o.after.toList 0, 0⟩) rfl rfl rfl (.inl ⟨rfl, rfl, he, fun e r h => by cases h⟩)) h
        · rename_i e t
          dsimp only at h
          split at h
          · rename_i hbit
            exact pops_ok hd' (I.step ho hb (p := ⟨i, o, edgeM ms o.after.toList 0, (e :: t).length⟩) rfl rfl rfl (.inl ⟨rfl, rfl, he, fun e' r h => by cases h; exact hbit⟩)) h
          · cases h
      · rename_i he
        exact pops_ok hd' (I.step ho hb (p := ⟨i, o, edgeM ms o.after.toList 0, needN (edgeM ms o.after.toList 0) es⟩) rfl rfl rfl (.inr ⟨rfl, rfl, he, rfl⟩)) h
/-! who writes, who looks -/
theorem writers_ok : ∀ {ps : List POp} {w w' : Tr Nat}, writers ps w = some w' → (∀ t i, w.get t = some i → w'.get t = some i) ∧ (∀ p ∈ ps, ∀ d, p.o.dst = some d → w.get d = none ∧ w'.get d = some p.i)
  | [], w, w', h => by cases h; exact ⟨fun _ _ h => h, fun p hp => by cases hp⟩
  | p :: r, w, w', h => by
    unfold writers at h
    split at h
    · rename_i hd
      obtain ⟨h1, h2⟩ := writers_ok h
      refine ⟨h1, fun q hq d hd' => ?_⟩
      rcases List.mem_cons.1 hq with rfl | hq
      · rw [hd] at hd'; cases hd'
      · exact h2 q hq d hd'
    · rename_i d hd
      split at h
      · cases h
      · rename_i hn
        obtain ⟨h1, h2⟩ := writers_ok h
        refine ⟨fun t i ht => h1 t i ?_, fun q hq d' hd' => ?_⟩
        · rw [Tr.get_set, if_neg (fun e => by subst e; rw [hn] at ht; cases ht)]; exact ht
        · rcases List.mem_cons.1 hq with rfl | hq
          · rw [hd] at hd'; cases hd'
            exact ⟨hn, h1 _ _ (by rw [Tr.get_set, if_pos rfl])⟩
          · obtain ⟨k1, k2⟩ := h2 q hq d' hd'
            rw [Tr.get_set] at k1
            split at k1
            · cases k1
            · exact ⟨k1, k2⟩
theorem seesB_ok {w : Tr Nat} {m : Nat} : ∀ {xs : List Operand}, seesB w m xs = true → ∀ t, .tmp t ∈ xs → ∀ i, w.get t = some i → bitB m i = true
  | [], _, t, h, _, _ => by cases h
  | x :: r, hs, t, h, i, hi => by
    unfold seesB at hs
    split at hs
    · rename_i t'
      rcases List.mem_cons.1 h with e | h
      · cases e
        rw [hi] at hs
        dsimp only at hs
        split at hs
        · rename_i hb; exact hb
        · cases hs
      · split at hs
        · exact seesB_ok hs t h i hi
        · split at hs
          · exact seesB_ok hs t h i hi
          · cases hs
    · rename_i hx
      rcases List.mem_cons.1 h with e | h
      · exact absurd e.symm (hx t)
      · exact seesB_ok hs t h i hi
/-- The slots that an operation looks at. -/
def looksAt (ops : List Oper) (o : Oper) (t : Nat) : Prop := .tmp t ∈ o.op.operands.toList ∨ ∃ j w g, o.guard = some (j, w) ∧ ops[j]? = some g ∧ g.dst = some t
theorem lookB_ok {ops : List Oper} {w : Tr Nat} {p : POp} (h : lookB ops w p = true) (t : Nat) (ht : looksAt ops p.o t) : ∀ i, w.get t = some i → bitB p.m i = true := by
  unfold lookB at h
  split at h
  · cases h
  · rename_i hs
    rcases ht with ht | ⟨j, b, g, hg, hj, hd⟩
    · exact seesB_ok hs t ht
    · rw [hg] at h
      dsimp only at h
      rw [lget_eq, hj] at h
      dsimp only at h
      rw [hd] at h
      dsimp only at h
      intro i hi
      rw [hi] at h
      exact h
theorem looksB_ok {ops : List Oper} {w : Tr Nat} : ∀ {ps : List POp}, looksB ops w ps = true → ∀ p ∈ ps, lookB ops w p = true
  | [], _, p, h => by cases h
  | a :: r, h, p, hp => by
    unfold looksB at h
    split at h
    · rename_i h1
      rcases List.mem_cons.1 hp with rfl | hp
      · exact h1
      · exact looksB_ok h p hp
    · cases h
/-- What is known of a region. -/
structure Reg (ops : List Oper) (es rs : List POp) : Prop where
  cover : ∀ j, j < ops.length → ∃ p, (p ∈ es ∨ p ∈ rs) ∧ p.i = j
  at_ : ∀ p, p ∈ es ∨ p ∈ rs → ops[p.i]? = some p.o
  same : ∀ p q, p ∈ es ∨ p ∈ rs → q ∈ es ∨ q ∈ rs → p.i = q.i → p.m = q.m
  uniq : ∀ p q, p ∈ es ∨ p ∈ rs → q ∈ es ∨ q ∈ rs → p.i = q.i → p = q
  fe : ∀ p ∈ es, isEff p.o.op = true
  fr : ∀ p ∈ rs, isEff p.o.op = false
  edges : ∀ p, p ∈ es ∨ p ∈ rs → ∀ e ∈ p.o.after.toList, Region.binds .any e = true → bitB p.m e.on = true
  back : ∀ p, p ∈ es ∨ p ∈ rs → ∀ j, bitB p.m j = true → j < p.i
  trans : ∀ p q, p ∈ es ∨ p ∈ rs → q ∈ es ∨ q ∈ rs → bitB p.m q.i = true → ∀ j, bitB q.m j = true → bitB p.m j = true
  chain : ∀ k e e', es[k]? = some e → es[k + 1]? = some e' → bitB e'.m e.i = true
  ndle : ∀ p ∈ rs, ∀ K, (∀ k e, es[k]? = some e → bitB p.m e.i = true → k < K) → p.nd ≤ K
  ndlen : ∀ p ∈ rs, p.nd ≤ es.length
  src : ∀ p, p ∈ es ∨ p ∈ rs → ∀ j, bitB p.m j = true → ∃ e ∈ p.o.after.toList, Region.binds .any e = true ∧ (e.on = j ∨ ∃ q, (q ∈ es ∨ q ∈ rs) ∧ q.i = e.on ∧ bitB q.m j = true)
  look : ∀ p, p ∈ es ∨ p ∈ rs → ∀ t, looksAt ops p.o t → ∀ q ∈ rs, q.o.dst = some t → bitB p.m q.i = true
  wr : ∀ p ∈ rs, ∀ q, q ∈ es ∨ q ∈ rs → ∀ d, p.o.dst = some d → q.o.dst = some d → p.i = q.i
theorem needN_cons (m : Nat) (x : POp) (r : List POp) : needN m (x :: r) = (match bitB m x.i with | true => needN m r + 1 | false => needN m r) := rfl
theorem needN_le {m K : Nat} : ∀ (l : List POp), (∀ k e, l[k]? = some e → bitB m e.i = true → k < K) → needN m l.reverse ≤ K ∧ needN m l.reverse ≤ l.length := by
  have app : ∀ (a b : List POp), needN m (a ++ b) = needN m a + needN m b := by
    intro a b
    induction a with
    | nil => simp [needN]
    | cons x r ih =>
      rw [List.cons_append, needN_cons, needN_cons, ih]
      cases bitB m x.i with
      | true => show needN m r + needN m b + 1 = needN m r + 1 + needN m b; omega
      | false => rfl
  have len : ∀ (a : List POp), needN m a ≤ a.length := by
    intro a
    induction a with
    | nil => simp [needN]
    | cons x r ih =>
      rw [needN_cons, List.length_cons]
      cases bitB m x.i with
      | true => show needN m r + 1 ≤ r.length + 1; omega
      | false => show needN m r ≤ r.length + 1; omega
  have zero : ∀ (a : List POp), (∀ e ∈ a, bitB m e.i = false) → needN m a = 0 := by
    intro a h
    induction a with
    | nil => rfl
    | cons x r ih =>
      rw [needN_cons, h x (List.mem_cons_self ..)]
      exact ih fun e he => h e (List.mem_cons_of_mem _ he)
  intro l hl
  refine ⟨?_, by have := len l.reverse; simpa using this⟩
  have h1 : needN m l.reverse = needN m (l.drop K).reverse + needN m (l.take K).reverse := by
    rw [← app, ← List.reverse_append, List.take_append_drop]
  have h2 : needN m (l.drop K).reverse = 0 := zero _ fun e he => by
    rw [List.mem_reverse] at he
    obtain ⟨j, hj⟩ := List.getElem?_of_mem he
    rw [List.getElem?_drop] at hj
    cases hb : bitB m e.i with
    | false => rfl
    | true => exact absurd (hl _ _ hj hb) (by omega)
  have h3 := len (l.take K).reverse
  rw [List.length_reverse, List.length_take] at h3
  omega
theorem reg_of {ops : List Oper} {phs : List Phase} (h : phases ops = some phs) : ∃ es rs, Reg ops es rs ∧ phs = phGo rs 0 none es := by
  unfold phases at h
  split at h
  · cases h
  · rename_i es rs hp
    obtain ⟨ms, I⟩ := pops_ok rfl (PI.start ops) hp
    split at h
    · cases h
    · rename_i w hw
      split at h
      · cases h
      · rename_i w' hw'
        split at h
        · cases h
        · rename_i l1
          split at h
          · cases h
          · rename_i l2
            cases h
            obtain ⟨w1, w2⟩ := writers_ok hw
            obtain ⟨w3, w4⟩ := writers_ok hw'
            have me : ∀ {p : POp}, p ∈ es ∨ p ∈ rs → p ∈ es.reverse ∨ p ∈ rs.reverse := fun h => h.imp (List.mem_reverse.2) (List.mem_reverse.2)
            have hchain : ∀ k e e', es[k]? = some e → es[k + 1]? = some e' → bitB e'.m e.i = true := by
              intro k e e' h1 h2
              have hl1 := (List.getElem?_eq_some_iff.1 h1).1
              have hl2 := (List.getElem?_eq_some_iff.1 h2).1
              refine I.chain (es.length - 1 - (k + 1)) e e' ?_ ?_
              · rw [List.getElem?_reverse (by omega), ← h2]; congr 1; omega
              · rw [List.getElem?_reverse (by omega), ← h1]; congr 1; omega
            have hneed : ∀ p ∈ rs, ∀ K, (∀ k e, es[k]? = some e → bitB p.m e.i = true → k < K) → p.nd ≤ K ∧ p.nd ≤ es.length := by
              intro p hp' K hK
              obtain ⟨es0, es1, h1, h2⟩ := I.need p (List.mem_reverse.2 hp')
              have h3 : es = es0.reverse ++ es1.reverse := by rw [← List.reverse_append, ← h1, List.reverse_reverse]
              have h4 := needN_le (m := p.m) (K := K) es0.reverse fun k e hk hb => hK k e (by
                rw [h3, List.getElem?_append_left ((List.getElem?_eq_some_iff.1 hk).1)]; exact hk) hb
              rw [List.reverse_reverse] at h4
              refine ⟨by rw [h2]; exact h4.1, ?_⟩
              rw [h2, h3, List.length_append]
              have := h4.2
              omega
            exact ⟨es, rs, {
              cover := fun j hj => by
                obtain ⟨p, hp, e⟩ := I.cover j hj
                exact ⟨p, hp.imp (List.mem_reverse.1) (List.mem_reverse.1), e⟩
              at_ := fun p hp => (I.lt p (me hp)).2.1
              same := fun p q hp hq e => by
                have h1 := (I.lt p (me hp)).2.2
                have h2 := (I.lt q (me hq)).2.2
                rw [e] at h1
                exact Option.some.inj (h1.symm.trans h2)
              uniq := fun p q hp hq => I.uniq p q (me hp) (me hq)
              fe := fun p hp => I.fe p (List.mem_reverse.2 hp)
              fr := fun p hp => I.fr p (List.mem_reverse.2 hp)
              edges := fun p hp => I.edges p (me hp)
              back := fun p hp => I.back p (me hp)
              trans := fun p q hp hq => I.trans p q (me hp) (me hq)
              chain := hchain
              ndle := fun p hp K hK => (hneed p hp K hK).1
              ndlen := fun p hp => (hneed p hp es.length fun k e hk _ => (List.getElem?_eq_some_iff.1 hk).1).2
              src := fun p hp j hj => by
                obtain ⟨e, he, e1, e2⟩ := I.src p (me hp) j hj
                exact ⟨e, he, e1, e2.imp id fun ⟨u, hu, h⟩ => ⟨u, hu.imp (List.mem_reverse.1) (List.mem_reverse.1), h⟩⟩
              look := fun p hp t ht q hq hd => by
                have hl : lookB ops w p = true := by
                  rcases hp with hp | hp
                  · exact looksB_ok l2 p hp
                  · exact looksB_ok l1 p hp
                exact lookB_ok hl t ht _ (w2 q hq t hd).2
              wr := fun p hp q hq d h1 h2 => by
                have k1 := (w2 p hp d h1).2
                rcases hq with hq | hq
                · have := (w4 q hq d h2).1
                  rw [k1] at this; cases this
                · have k2 := (w2 q hq d h2).2
                  rw [k1] at k2
                  exact Option.some.inj k2 }, rfl⟩
end Go.Proofs.YtjjjckmpkldgnaaGreatDoor.Rk
namespace Go.Proofs.YtjjjckmpkldgnaaGreatDoor.Rk
open Go.RowKit
set_option maxRecDepth 100000
/-! orders -/
/-- What is left of an order, D being done. -/
inductive Sch (ops : Array Oper) : Array Bool → List Nat → Prop where
  | nil {D : Array Bool} (h : ∀ i, i < ops.size → D.getD i false = true) : Sch ops D []
  | cons {D : Array Bool} {i : Nat} {r : List Nat} (h1 : i < ops.size) (h2 : D.getD i false = false) (h3 : ∀ o, ops[i]? = some o → ∀ e ∈ o.after.toList, Region.binds .any e = true → D.getD e.on false = true) (t : Sch ops (D.setIfInBounds i true) r) : Sch ops D (i :: r)
theorem getD_set {D : Array Bool} {i j : Nat} (h : i < D.size) : (D.setIfInBounds i true).getD j false = if j = i then true else D.getD j false := by
  simp only [Array.getD_eq_getD_getElem?, Array.getElem?_setIfInBounds]
  by_cases e : i = j
  · subst e; simp [h]
  · rw [if_neg e, if_neg (fun e' => e e'.symm)]
theorem filter_lt {p p' : Nat → Bool} {i : Nat} : ∀ {l : List Nat}, i ∈ l → (∀ j, p' j = true → p j = true) → p i = true → p' i = false → (l.filter p').length + 1 ≤ (l.filter p).length
  | a :: r, hi, hs, h1, h2 => by
    have le : ∀ l : List Nat, (l.filter p').length ≤ (l.filter p).length := by
      intro l
      induction l with
      | nil => simp
      | cons b l ih =>
        cases hb : p' b with
        | true => rw [List.filter_cons_of_pos hb, List.filter_cons_of_pos (hs b hb)]; simpa using ih
        | false =>
          rw [List.filter_cons_of_neg (by simp [hb])]
          cases hb2 : p b with
          | true => rw [List.filter_cons_of_pos hb2]; simp; omega
          | false => rw [List.filter_cons_of_neg (by simp [hb2])]; exact ih
    by_cases e : a = i
    · subst e
      rw [List.filter_cons_of_pos h1, List.filter_cons_of_neg (by simp [h2])]
      have := le r
      simp; omega
    · have hi' : i ∈ r := by
        rcases List.mem_cons.1 hi with h | h
        · exact absurd h.symm e
        · exact h
      have ih := filter_lt hi' hs h1 h2
      cases hb : p' a with
      | true => rw [List.filter_cons_of_pos hb, List.filter_cons_of_pos (hs a hb)]; simpa using ih
      | false =>
        rw [List.filter_cons_of_neg (by simp [hb])]
        cases hb2 : p a with
        | true => rw [List.filter_cons_of_pos hb2]; simp; omega
        | false => rw [List.filter_cons_of_neg (by simp [hb2])]; exact ih
theorem ready_mem {ops : Array Oper} {D : Array Bool} (hs : D.size = ops.size) {i : Nat} : i ∈ Region.ready .any ops D ↔ i < ops.size ∧ D.getD i false = false ∧ ∀ o, ops[i]? = some o → ∀ e ∈ o.after.toList, Region.binds .any e = true → D.getD e.on false = true := by
  unfold Region.ready
  rw [List.mem_filter, List.mem_range]
  constructor
  · rintro ⟨h1, h2⟩
    rw [Bool.and_eq_true] at h2
    have hd : D.getD i true = D.getD i false := by simp [Array.getD_eq_getD_getElem?, Array.getElem?_eq_getElem (show i < D.size by omega)]
    refine ⟨h1, by simpa [hd] using h2.1, fun o ho e he hb => ?_⟩
    rw [ho] at h2
    have := h2.2
    simp only [Option.map_some, Option.getD_some, Array.all_eq_true_iff_forall_mem] at this
    have := this e (Array.mem_toList_iff.1 he)
    simpa [hb] using this
  · rintro ⟨h1, h2, h3⟩
    refine ⟨h1, ?_⟩
    have hd : D.getD i true = D.getD i false := by simp [Array.getD_eq_getD_getElem?, Array.getElem?_eq_getElem (show i < D.size by omega)]
    rw [hd, h2]
    have ho : ops[i]? = some ops[i] := Array.getElem?_eq_getElem h1
    rw [ho]
    simp only [Option.map_some, Option.getD_some, Bool.not_false, Bool.true_and, Array.all_eq_true_iff_forall_mem]
    intro e he
    cases hb : Region.binds .any e with
    | false => rfl
    | true => simpa using h3 _ ho e (Array.mem_toList_iff.2 he) hb
theorem sch_go {ops : Array Oper} (hback : ∀ i o, ops[i]? = some o → ∀ e ∈ o.after.toList, Region.binds .any e = true → e.on < i) : ∀ (fuel t : Nat) (D : Array Bool), D.size = ops.size → ((List.range ops.size).filter fun i => !D.getD i false).length ≤ fuel → Sch ops D (Region.linearise.go .any ops fuel t D []) := by
  intro fuel
  induction fuel with
  | zero =>
    intro t D hs hc
    have : ((List.range ops.size).filter fun i => !D.getD i false) = [] := List.eq_nil_of_length_eq_zero (by omega)
    refine .nil fun i hi => ?_
    have h2 := (List.filter_eq_nil_iff.1 this) i (List.mem_range.2 hi)
    simpa using h2
  | succ fuel ih =>
    intro t D hs hc
    simp only [Region.linearise.go]
    change Sch ops D (match (Region.ready .any ops D)[t % (Region.ready .any ops D).length]? with
      | some i => Region.linearise.go .any ops fuel (t / (Region.ready .any ops D).length) (D.setIfInBounds i true) [i]
      | none => [].reverse)
    cases hi : (Region.ready .any ops D)[t % (Region.ready .any ops D).length]? with
    | none =>
      have hnil : Region.ready .any ops D = [] := by
        cases hr : Region.ready .any ops D with
        | nil => rfl
        | cons x xs =>
          rw [hr] at hi
          have hlt : t % (x :: xs).length < (x :: xs).length := Nat.mod_lt _ (by simp)
          have := List.getElem?_eq_none_iff.1 hi
          omega
      have all : ∀ n i, i < n → i < ops.size → D.getD i false = true := by
        intro n
        induction n with
        | zero => intro i h; omega
        | succ n ihn =>
          intro i h1 h2
          cases hd : D.getD i false with
          | true => rfl
          | false =>
            have : i ∈ Region.ready .any ops D := (ready_mem hs).2 ⟨h2, hd, fun o ho e he hb => by
              have := hback i o ho e he hb
              exact ihn e.on (by omega) (by omega)⟩
            rw [hnil] at this; cases this
      exact .nil fun i hi => all (i + 1) i (by omega) hi
    | some i =>
      have hm : i ∈ Region.ready .any ops D := List.mem_of_getElem? hi
      obtain ⟨h1, h2, h3⟩ := (ready_mem hs).1 hm
      simp only []
      rw [linearise_go_acc, List.reverse_singleton, List.singleton_append]
      refine .cons h1 h2 h3 (ih _ _ (by simpa using hs) ?_)
      have := filter_lt (p := fun i => !D.getD i false) (p' := fun j => !(D.setIfInBounds i true).getD j false) (i := i) (l := List.range ops.size) (List.mem_range.2 h1) (fun j hj => by
        rw [getD_set (by omega)] at hj
        split at hj
        · cases hj
        · exact hj) (by simp [h2]) (by rw [getD_set (by omega)]; simp)
      omega
/-! slots -/
theorem Tr.get_del {α : Type} : ∀ (t : Tr α) (n m : Nat), (t.del n).get m = if m = n then none else t.get m := by
  intro t
  induction t with
  | nil => intro n m; show (Tr.nil : Tr α).get m = _; rw [Tr.get_nil]; simp
  | node l v r ihl ihr =>
    intro n m
    have hz : (Tr.node l v r).del 0 = .node l none r := rfl
    have hs : ∀ n, (Tr.node l v r).del (n + 1) = if n % 2 = 0 then .node (l.del (n / 2)) v r else .node l v (r.del (n / 2)) := by
      intro n
      show (Bool.rec (Tr.node l v (r.del (n / 2))) (Tr.node (l.del (n / 2)) v r) (Nat.beq (n % 2) 0) : Tr α) = _
      by_cases h : n % 2 = 0
      · rw [if_pos h, h]; rfl
      · rw [if_neg h]
        have : Nat.beq (n % 2) 0 = false := by
          cases hb : Nat.beq (n % 2) 0 with
          | false => rfl
          | true => exact absurd (Nat.eq_of_beq_eq_true hb) h
        rw [this]
    cases n with
    | zero =>
      rw [hz]
      cases m with
      | zero => rfl
      | succ m => rw [if_neg (by omega), Tr.get_succ, Tr.get_succ]
    | succ n =>
      rw [hs]
      by_cases h2 : n % 2 = 0
      · rw [if_pos h2]
        cases m with
        | zero => rw [if_neg (by omega)]; rfl
        | succ m =>
          rw [Tr.get_succ, Tr.get_succ]
          by_cases h3 : m % 2 = 0
          · rw [if_pos h3, if_pos h3, ihl]
            by_cases h4 : m = n
            · subst h4; simp
            · rw [if_neg (by omega), if_neg (by omega)]
          · rw [if_neg h3, if_neg h3, if_neg (by omega)]
      · rw [if_neg h2]
        cases m with
        | zero => rw [if_neg (by omega)]; rfl
        | succ m =>
          rw [Tr.get_succ, Tr.get_succ]
          by_cases h3 : m % 2 = 0
          · rw [if_pos h3, if_pos h3, if_neg (by omega)]
          · rw [if_neg h3, if_neg h3, ihr]
            by_cases h4 : m = n
            · subst h4; simp
            · rw [if_neg (by omega), if_neg (by omega)]
/-- The slots but for some. -/
theorem env_less (l : Env) : ∀ S : List Nat, ∃ l' : Env, ∀ t, l'.get t = if t ∈ S then none else l.get t
  | [] => ⟨l, fun t => by simp⟩
  | s :: S => by
    obtain ⟨l', h⟩ := env_less l S
    refine ⟨l'.del s, fun t => ?_⟩
    rw [Tr.get_del, h]
    by_cases e : t = s
    · subst e; simp
    · by_cases e2 : t ∈ S
      · simp [e, e2]
      · simp [e, e2]
section
variable {F : PH} {φ : Vl} {l : Env} {a : Act} {ops : Array Oper}
theorem EnvOk.put (he : EnvOk F φ l a) {d : Option Nat} {v : AV} {u : Value} (hd : ∀ t, d = some t → t < a.tmps.size) (hv : AvD F φ v u) : EnvOk F φ (putD l d v) (a.put d u) := by
  cases d with
  | none => exact he
  | some d =>
    intro t v' h
    unfold putD at h
    dsimp only at h
    rw [Tr.get_set] at h
    show AvD F φ v' ((a.tmps.setIfInBounds d u).getD t undef)
    have hlt := hd d rfl
    by_cases e : t = d
    · subst e
      rw [if_pos rfl] at h
      cases h
      simpa [Array.getD_eq_getD_getElem?, Array.getElem?_setIfInBounds, hlt] using hv
    · rw [if_neg e] at h
      have := he t v' h
      rw [Array.getD_eq_getD_getElem?] at this ⊢
      rw [Array.getElem?_setIfInBounds, if_neg (fun h => e h.symm)]
      exact this
def boolOf : Value → Option Bool
  | .bool b => some b
  | _ => none
theorem isB_ok {w : Bool} {v : AV} {u : Value} (hv : AvD F φ v u) : (boolOf u == some w) = isB w v := by
  cases v with
  | s x =>
    cases x with
    | bool b => have hv : u = .bool b := hv; subst hv; cases b <;> cases w <;> rfl
    | int k n => have hv : u = .int k n := hv; subst hv; rfl
    | str n x => obtain ⟨_, rfl⟩ := hv; rfl
    | ptr => obtain ⟨_, _, _, rfl⟩ := hv; rfl
    | slc => obtain ⟨_, _, _, _, rfl⟩ := hv; rfl
    | map => obtain ⟨_, _, _, rfl⟩ := hv; rfl
    | fn => obtain ⟨_, _, _, _, _, _, rfl⟩ := hv; rfl
    | ifc => obtain ⟨_, _, _, rfl⟩ := hv; rfl
    | pby => obtain ⟨_, _, _, rfl, _⟩ := hv; rfl
    | nilp => have hv : u = .pointer none := hv; subst hv; rfl
    | nils => have hv : u = .slice none 0 0 := hv; subst hv; rfl
    | nilm => have hv : u = .map none := hv; subst hv; rfl
    | nilf => have hv : u = .nilFunc := hv; subst hv; rfl
    | nili => have hv : u = .nilIface := hv; subst hv; rfl
  | agg => obtain ⟨_, _, rfl⟩ := hv; rfl
  | tup => obtain ⟨_, _, rfl⟩ := hv; rfl
  | und => have hv : u = undef := hv; subst hv; rfl
theorem gval_ok {j : Nat} {v : AV} (hg : gval ops.toList l j = some v) : ∃ g d, ops[j]? = some g ∧ g.dst = some d ∧ l.get d = some v := by
  unfold gval at hg
  obtain ⟨g, h1, hg⟩ := oget_some hg
  obtain ⟨d, h2, h3⟩ := oget_some hg
  rw [lget_eq, Array.getElem?_toList] at h1
  exact ⟨g, d, h1, h2, h3⟩
theorem guard_ok (he : EnvOk F φ l a) {o : Oper} {j : Nat} {w : Bool} {v : AV} (ho : o.guard = some (j, w)) (hg : gval ops.toList l j = some v) : Region.wanted o (yielded ops a.tmps) = isB w v := by
  obtain ⟨g, d, h1, h2, h3⟩ := gval_ok hg
  have hv := he d v h3
  have hb := isB_ok (w := w) hv
  unfold Region.wanted
  rw [ho]
  dsimp only
  rw [← hb]
  congr 1
  unfold yielded
  rw [h1]
  simp only [Option.bind_some, h2]
  rw [Array.getD_eq_getD_getElem?]
  cases a.tmps[d]? with
  | none => rfl
  | some u => cases u <;> rfl
theorem wanted_ok (he : EnvOk F φ l a) {o : Oper} {b : Bool} (h : wanted ops.toList l o = some b) : Region.wanted o (yielded ops a.tmps) = b := by
  unfold wanted at h
  split at h
  · rename_i hg
    cases h
    unfold Region.wanted
    rw [hg]
  · rename_i j w hg
    cases hv : gval ops.toList l j with
    | none => rw [hv] at h; cases h
    | some v =>
      rw [hv] at h
      cases h
      exact guard_ok he hg hv
theorem ev_congr {l' : Env} {x : Operand} (h : ∀ t, x = .tmp t → l'.get t = l.get t) : ev x l = ev x l' := by
  cases x with
  | tmp t => exact (h t rfl).symm
  | _ => rfl
theorem wanted_congr {l' : Env} {os : List Oper} {o : Oper} (h : ∀ j w g t, o.guard = some (j, w) → os[j]? = some g → g.dst = some t → l'.get t = l.get t) : wanted os l o = wanted os l' o := by
  unfold wanted
  split
  · rfl
  · rename_i j w hg
    congr 1
    unfold gval
    cases h1 : lget os j with
    | none => rfl
    | some g =>
      show oget g.dst (fun d => l.get d) = oget g.dst (fun d => l'.get d)
      cases h2 : g.dst with
      | none => rfl
      | some d =>
        show l.get d = l'.get d
        rw [lget_eq] at h1
        exact (h j w g d hg h1 h2).symm
end
end Go.Proofs.YtjjjckmpkldgnaaGreatDoor.Rk
