/-
  'for k, v := range m' over a map of the call's own that the round does not change; keys of bools, of two whole numbers. Plain theorems over any program; conditions are typed with each.
-/
import Derived.Test.YtekdmpbkcjjllaaDoorLd
import Derived.Maps.RangeRun
namespace Go.Proofs.YtekdmpbkcjjllaaDoor
open Go.RowKit
set_option maxRecDepth 100000
/-- One block, one object. -/
def ob (b : Nat) (o : Obj) : Asrt := fun h => h = PH.one b o
/-- The iterator. -/
def itr (r b clock : Nat) (seen : Array Nat) : Asrt := ob r (.mapIter (some b) clock seen clock)
theorem ob_obj {F : PH} {H Hr : List Asrt} {b : Nat} {o : Obj} {w : World} (hs : Sat F H w) (p : Pick (ob b o) H Hr) : w.heap[b]? = some o := by
  obtain ⟨_, ⟨h, r, rfl, hr, hhr, rfl⟩, hd, hl⟩ := hs.pick p
  exact hl b _ ((PH.le_r hd) b _ ((PH.le_l _ _) b _ (PH.one_self _ _)))
theorem Sat.putOb {F : PH} {H H' : List Asrt} {b : Nat} {o o' : Obj} {w : World} (s : Sat F H w) (u : Upd (ob b o) (ob b o') H H') : Sat F H' { w with heap := w.heap.setIfInBounds b o' } := by
  obtain ⟨h, R, rfl, hd, hl, _, k⟩ := s.focus u
  have hb : w.heap[b]? = some o := hl b _ ((PH.le_r hd) b _ (PH.one_self _ _))
  have hlt : b < w.heap.size := (Array.getElem?_eq_some_iff.1 hb).1
  have hR : R b = none := by
    rcases hd b with e | e
    · exact e
    · rw [PH.one_self] at e; cases e
  refine k _ _ rfl (PH.dj_one hR) (PH.un_le (fun j o1 e => ?_) (PH.one_le ?_))
  · have hne : j ≠ b := fun ec => by subst ec; rw [hR] at e; cases e
    have := hl j o1 ((PH.le_l _ _) j o1 e)
    show (w.heap.setIfInBounds b o')[j]? = some o1
    rw [Array.getElem?_setIfInBounds_ne (Ne.symm hne)]
    exact this
  · show (w.heap.setIfInBounds b o')[b]? = some _
    rw [Array.getElem?_setIfInBounds_self_of_lt hlt]
section
variable {P : Program} {kt : TypeId} {α : Type} [DecidableEq α] {K : KeyT P kt α}
/-- What is still to come. -/
def ToCome (K : KeyT P kt α) (es : Array MapEntry) (seen : Array Nat) (L : List (α × Value)) : Prop := (leftOf es seen).toList.map (fun e => (e.key, e.val)) = L.map (fun p => (K.val p.1, p.2))
/-- The entry that has come. -/
def Come (K : KeyT P kt α) (es : Array MapEntry) (s : Nat) (p : α × Value) : Prop := ∃ e ∈ es.toList, e.born = s ∧ e.key = K.val p.1 ∧ e.val = p.2
theorem ToCome.start {M : List (α × Value)} {es : Array MapEntry} {c : Nat} (h : MpC K M es c) : ToCome K es #[] M := by
  unfold ToCome leftOf
  rw [Array.filter_eq_self.2 (fun x _ => by simp)]
  exact h.1
theorem ToCome.done {es : Array MapEntry} {seen : Array Nat} {L : List (α × Value)} (h : ToCome K es seen L) (h0 : (leftOf es seen).size = 0) : L = [] := by
  unfold ToCome at h
  have : leftOf es seen = #[] := Array.eq_empty_of_size_eq_zero h0
  rw [this] at h
  cases L with
  | nil => rfl
  | cons p L => simp at h
theorem ToCome.step {es : Array MapEntry} {seen : Array Nat} {L : List (α × Value)} (h : ToCome K es seen L) (hn : (es.toList.map (·.born)).Nodup) {e : MapEntry} (he : e ∈ (leftOf es seen).toList) :
    ∃ p L1 L2, L = L1 ++ p :: L2 ∧ e.key = K.val p.1 ∧ e.val = p.2 ∧ ToCome K es (seen.push e.born) (L1 ++ L2) ∧ Come K es e.born p := by
  have hmem := (mem_left he).1
  have hsub : ((leftOf es seen).toList.map (·.born)).Nodup := hn.sublist (by
    unfold leftOf
    rw [Array.toList_filter]
    exact (List.filter_sublist).map _)
  have hpush : (leftOf es (seen.push e.born)).toList = (leftOf es seen).toList.filter (fun x => x.born != e.born) := by
    unfold leftOf
    rw [Array.toList_filter, Array.toList_filter, List.filter_filter]
    refine List.filter_congr fun x _ => ?_
    rw [contains_push, Bool.not_or, Bool.and_comm]
    rfl
  unfold ToCome at h ⊢
  rw [hpush]
  generalize (leftOf es seen).toList = l at *
  obtain ⟨l1, l2, rfl⟩ := List.append_of_mem he
  rw [List.map_append, List.map_cons] at h
  obtain ⟨L1, R, rfl, h1, h2⟩ := List.map_eq_append_iff.1 h.symm
  obtain ⟨p, L2, rfl, h3, h4⟩ := List.map_eq_cons_iff.1 h2
  simp only [Prod.mk.injEq] at h3
  refine ⟨p, L1, L2, rfl, h3.1.symm, h3.2.symm, ?_, e, hmem, rfl, h3.1.symm, h3.2.symm⟩
  rw [List.map_append, List.map_cons, List.nodup_append] at hsub
  obtain ⟨_, hs2, hs3⟩ := hsub
  have e1 : l1.filter (fun x => x.born != e.born) = l1 := List.filter_eq_self.2 fun x hx => by
    have := hs3 x.born (List.mem_map.2 ⟨x, hx, rfl⟩) e.born (by simp)
    simpa using this
  have e2 : l2.filter (fun x => x.born != e.born) = l2 := List.filter_eq_self.2 fun x hx => by
    have := (List.nodup_cons.1 hs2).1
    have hne : x.born ≠ e.born := fun hc => this (by rw [← hc]; exact List.mem_map.2 ⟨x, hx, rfl⟩)
    simpa using hne
  rw [List.filter_append, List.filter_cons, e1, e2]
  simp only [bne_self_eq_false, Bool.false_eq_true, if_false]
  rw [List.map_append, List.map_append, h1, h4]
variable {l : Env} {F : PH} {H H' Hr : List Asrt} {d : Option Nat} {T U et : TypeId} {pos : String} {af : Array Edge} {g : Option (Nat × Bool)} {x : Operand} {b r : Nat} {M L : List (α × Value)} {es : Array MapEntry} {clock : Nat} {seen : Array Nat}
theorem ev_range (hx : opv l x = some (.map (some b))) (ht : mapOf P T = some (kt, et)) (p : Pick (mp K b M) H Hr) :
    Ev' P ⟨d, .range T x, U, pos, af, g⟩ l F H fun v F' H' => F = F' ∧ ∃ r es clock, v = .pointer (some ⟨r, 0, none⟩) ∧ MpC K M es clock ∧ ToCome K es #[] M ∧ H' = itr r b clock #[] :: ob b (.map es clock) :: Hr := .of fun N a w ha hs => by
  have e1 := ha.opv hx
  obtain ⟨_, ⟨h, r, ⟨es, c, rfl, hc⟩, hr, hhr, rfl⟩, hd, hl⟩ := hs.pick p
  have hb : w.heap[b]? = some (.map es c) := hl b _ ((PH.le_r hd) b _ ((PH.le_l _ _) b _ (PH.one_self _ _)))
  have hs' : Sat F (ob b (.map es c) :: Hr) w := ⟨_, ⟨_, r, rfl, hr, hhr, rfl⟩, hd, hl⟩
  refine ⟨.value (.pointer (some ⟨w.heap.size, 0, none⟩)), w.alloc (.mapIter (some b) c #[] c), _, F, itr w.heap.size b c #[] :: ob b (.map es c) :: Hr, ?_, .inl rfl, Mild.alloc w _, PH.ler F, ⟨rfl, _, es, c, rfl, hc, ToCome.start hc, rfl⟩, hs'.alloc _ _ rfl⟩
  refine run_v (s := Instr.range T (a.eval x)) ?_
  rw [e1]
  exact run_range_map w T kt et b es c (mapOf_u ht) hb
theorem ev_next (hx : opv l x = some (.pointer (some ⟨r, 0, none⟩))) (hc : MpC K M es clock) (hL : ToCome K es seen L) (p : Pick (ob b (.map es clock)) H Hr) {H1 : Array Nat → List Asrt} (hu : ∀ s, Upd (itr r b clock seen) (itr r b clock s) H (H1 s)) :
    Ev' P ⟨d, .next x false, U, pos, af, g⟩ l F H fun v F' H' => F = F' ∧ ((v = .tuple #[.bool false] ∧ H' = H ∧ L = []) ∨ ∃ q L1 L2 s, v = .tuple #[.bool true, K.val q.1, q.2] ∧ L = L1 ++ q :: L2 ∧ ToCome K es (seen.push s) (L1 ++ L2) ∧ Come K es s q ∧ H' = H1 (seen.push s)) := .of fun N a w ha hs => by
  have e1 := ha.opv hx
  have hb := ob_obj hs p
  have hr : w.heap[r]? = some (.mapIter (some b) clock seen clock) := by
    obtain ⟨h, R, rfl, hd, hl, _, _⟩ := hs.focus (hu seen)
    exact hl r _ ((PH.le_r hd) r _ (PH.one_self _ _))
  have hst := hc.2
  rcases run_next_at (P := P) w U r b clock clock seen es clock hr hb (fun x hx => hc.2.1 x hx) (Nat.le_refl _) with ⟨h0, hrun⟩ | ⟨e, he, w1, hw1, hrun⟩
  · refine ⟨.value (.tuple #[.bool false]), w, _, F, H, run_v (s := Instr.next (a.eval x) false U) (by rw [e1]; exact hrun), .inl rfl, Mild.refl w, PH.ler F, ⟨rfl, .inl ⟨rfl, rfl, hL.done h0⟩⟩, hs⟩
  · obtain ⟨q, L1, L2, hq, hk, hv, ht, hcm⟩ := hL.step hc.2.2 he
    have hs1 : Sat F H w1 := by rcases hw1 with rfl | rfl <;> exact hs
    have hm1 : Mild w w1 := by
      rcases hw1 with rfl | rfl
      · exact Mild.refl _
      · exact Mild.drew _
    refine ⟨.value (.tuple #[.bool true, e.key, e.val]), _, _, F, H1 (seen.push e.born), run_v (s := Instr.next (a.eval x) false U) (by rw [e1]; exact hrun), .inl rfl, hm1.trans (Mild.putObj w1 r _), PH.ler F, ⟨rfl, .inr ⟨q, L1, L2, e.born, by rw [hk, hv], hq, ht, hcm, rfl⟩⟩, hs1.putOb (hu _)⟩
theorem ev_entry {q : α × Value} {s : Nat} {Hr2 : List Asrt} (hx : opv l x = some (.pointer (some ⟨r, 0, none⟩))) (hc : MpC K M es clock) (hcm : Come K es s q) (p : Pick (ob b (.map es clock)) H Hr) (p2 : Pick (itr r b clock (seen.push s)) H Hr2) :
    Ev P ⟨d, .entry x, U, pos, af, g⟩ l F H (.tuple #[K.val q.1, q.2]) := .of fun ρ hρ w hs => by
  have e1 := hρ _ _ hx
  obtain ⟨e, he, rfl, hk, hv⟩ := hcm
  have hrun := run_entry_at (P := P) w r b clock seen es clock e (ob_obj hs p2) (ob_obj hs p) he hc.2.2
  refine run_v (s := Instr.entry (ρ x)) ?_
  rw [e1, hrun, hk, hv]
/-- Afterwards it is a map again. -/
theorem Sat.obMap {w : World} (hc : MpC K M es clock) (p : Pick (ob b (.map es clock)) H Hr) (s : Sat F H w) : Sat F (mp K b M :: Hr) w := by
  obtain ⟨_, ⟨h, r, rfl, hr, hhr, rfl⟩, hd, hl⟩ := s.pick p
  exact ⟨_, ⟨_, r, ⟨es, clock, rfl, hc⟩, hr, hhr, rfl⟩, hd, hl⟩
end
/-! other keys -/
theorem checkKey_bool {P : Program} {kt : TypeId} (hk : P.underlying kt = some .bool) (n : Nat) (b : Bool) (v : Value) (w : World) : (Instr.checkKey b (n + 1) kt v).run P w = .ok () w := by
  cases v <;> simp [Instr.checkKey, run_underlying hk]
def keyBool {P : Program} {kt : TypeId} (hk : P.underlying kt = some .bool) : KeyT P kt Bool where
  val := fun n => .bool n
  chk := fun b a w => checkKey_bool hk 9999 b _ w
  same := fun a => by simp [Instr.sameBits]
  find := by
    intro a M es h w
    have key : ∀ (M : List (Bool × Value)) (es : List MapEntry) (i : Nat), es.map (fun e => (e.key, e.val)) = M.map (fun p => (Value.bool p.1, p.2)) → Instr.findNow .bool (.bool a) es i = some (scanK a M i) := by
      intro M
      induction M with
      | nil => intro es i h; cases es with
        | nil => rfl
        | cons e es => simp at h
      | cons p M ih =>
        intro es i h
        cases es with
        | nil => simp at h
        | cons e es =>
          simp only [List.map_cons, List.cons.injEq, Prod.mk.injEq] at h
          obtain ⟨⟨h1, h2⟩, h3⟩ := h
          obtain ⟨k', v'⟩ := p
          dsimp only at h1 h2
          simp only [Instr.findNow, scanK, h1, Instr.sameNow, if_true]
          by_cases hak : a = k'
          · subst hak; simp [h2]
          · have : (a == k') = false := by simpa using hak
            simp [this, hak, ih es (i + 1) h3]
    unfold Instr.findKey
    simp only [Sem.run_bind, run_underlying hk, Result.andThen_ok, key M es 0 h]
    rfl
/-! keys as plain data -/
section
variable {α : Type} [DecidableEq α]
theorem setK_keys (M : List (α × Value)) (a : α) (v : Value) : (setK M a v).map (·.1) = if a ∈ M.map (·.1) then M.map (·.1) else M.map (·.1) ++ [a] := by
  induction M with
  | nil => rfl
  | cons p r ih =>
    obtain ⟨k, u⟩ := p
    unfold setK
    by_cases h : a = k
    · subst h; simp
    · rw [if_neg h, List.map_cons, ih]
      by_cases hm : a ∈ r.map (·.1)
      · simp [hm]
      · simp [hm, h]
theorem setK_nodup {M : List (α × Value)} (h : (M.map (·.1)).Nodup) (a : α) (v : Value) : ((setK M a v).map (·.1)).Nodup := by
  rw [setK_keys]
  split
  · exact h
  · rename_i hm
    rw [List.nodup_append]
    refine ⟨h, by simp, fun x hx y hy => ?_⟩
    simp at hy
    subst hy
    exact fun e => hm (e ▸ hx)
theorem getK_mem : ∀ {M : List (α × Value)} {p : α × Value}, (M.map (·.1)).Nodup → p ∈ M → getK M p.1 = some p.2
  | (k, v) :: r, p, hn, hp => by
    rw [getK_cons]
    have hn' := List.nodup_cons.1 hn
    rcases List.mem_cons.1 hp with rfl | hp
    · rw [if_pos rfl]
    · rw [if_neg (fun e => hn'.1 (by show k ∈ _; rw [← e]; exact List.mem_map.2 ⟨p, hp, rfl⟩))]
      exact getK_mem hn'.2 hp
theorem getK_none {M : List (α × Value)} {a : α} (h : a ∉ M.map (·.1)) : getK M a = none := by
  induction M with
  | nil => rfl
  | cons p r ih =>
    obtain ⟨k, v⟩ := p
    rw [getK_cons, if_neg (fun e => h (by simp [e]))]
    exact ih (fun hm => h (by simp only [List.map_cons, List.mem_cons]; exact .inr hm))
theorem mem_getK {M : List (α × Value)} {a : α} {v : Value} (h : getK M a = some v) : (a, v) ∈ M := by
  induction M with
  | nil => cases h
  | cons p r ih =>
    obtain ⟨k, u⟩ := p
    rw [getK_cons] at h
    by_cases hk : a = k
    · rw [if_pos hk] at h; cases h; subst hk; exact List.mem_cons_self
    · rw [if_neg hk] at h; exact List.mem_cons_of_mem _ (ih h)
end
end Go.Proofs.YtekdmpbkcjjllaaDoor
