/-
  Open orders in which the last operations wait for all others, be it through others: the others are walked in the text's order (calls that only hand back a value among them). Plain theorems over any program; no condition.
-/
import Derived.Test.YtekdmpbkcjjllaaDoorKv
namespace Go.Proofs.YtekdmpbkcjjllaaDoor
open Go.RowKit
section
variable {P : Program} {ops : Array Oper} {md : Region.Mode} {Cl : World → Prop} {E : List Nat} {R : Array Bool → Act → Prop}
/-- Whatever order is picked of all but E's. -/
def toL (P : Program) (md : Region.Mode) (ops : Array Oper) (Cl : World → Prop) (E : List Nat) (R : Array Bool → Act → Prop) : Nat → Array Bool → Act → Prop
  | 0, listed, a => (∀ j ∈ Region.ready md ops listed, j ∈ E) ∧ R listed a
  | f + 1, listed, a => (∃ i, i ∈ Region.ready md ops listed) ∧ ∀ i ∈ Region.ready md ops listed, i ∉ E ∧ qOp P ops Cl i (toL P md ops Cl E R f (listed.setIfInBounds i true)) a
def Shut (md : Region.Mode) (ops : Array Oper) (listed : Array Bool) : Prop := ∀ (j : Nat) (o : Oper), ops[j]? = some o → listed.getD j false = true → ∀ e ∈ o.after, Region.binds md e = true → listed.getD e.on false = true
theorem Shut.set {listed : Array Bool} {i : Nat} (h : Shut md ops listed) (hr : i ∈ Region.ready md ops listed) : Shut md ops (listed.setIfInBounds i true) := fun j o ho hj e he hb => by
  by_cases hji : i = j
  · subst hji
    obtain ⟨_, o', ho', hall⟩ := mem_ready.1 hr
    rw [ho] at ho'
    cases ho'
    exact getD_set_true (hall e he hb)
  · rw [getD_set_ne false hji] at hj
    exact getD_set_true (h j o ho hj e he hb)
/-- Does number e wait for number i, be it through others? -/
def waits (md : Region.Mode) (ops : Array Oper) : Nat → Nat → Nat → Bool
  | 0, _, _ => false
  | f + 1, e, i => match ops[e]? with
    | none => false
    | some o => o.after.any fun ed => Region.binds md ed && (ed.on == i || waits md ops f ed.on i)
theorem waits_spec {listed : Array Bool} (h : Shut md ops listed) {i : Nat} : ∀ (f e : Nat), waits md ops f e i = true → (∀ o, ops[e]? = some o → ∀ ed ∈ o.after, Region.binds md ed = true → listed.getD ed.on false = true) → listed.getD i false = true
  | 0, _, hw, _ => by cases hw
  | f + 1, e, hw, hall => by
    unfold waits at hw
    cases ho : ops[e]? with
    | none => rw [ho] at hw; cases hw
    | some o =>
      rw [ho] at hw
      simp only [Array.any_eq_true] at hw
      obtain ⟨j, hj, hb⟩ := hw
      simp only [Bool.and_eq_true, Bool.or_eq_true, beq_iff_eq] at hb
      have hl := hall o ho _ (Array.getElem_mem hj) hb.1
      rcases hb.2 with h1 | h1
      · rw [← h1]; exact hl
      · exact waits_spec h f _ h1 fun o' ho' ed hed hbd => h _ o' ho' hl ed hed hbd
theorem toL_first {n i : Nat} {oi : Oper} {v : Value} (hi : ops[i]? = some oi) (hsel : ∀ (j : Nat) (o : Oper) cs b, ops[j]? = some o → o.op ≠ .select cs b)
    (hE : ∀ e ∈ E, waits md ops n e i = true) : ∀ (f : Nat) (listed : Array Bool) (a : Act), Shut md ops listed →
      (∀ j oj, ops[j]? = some oj → j ≠ i → listed.getD j true = false → (∀ e ∈ oj.after, Region.binds md e = true → e.on ≠ i) → oi.apart ops oj = true) →
      i ∈ Region.ready md ops listed → YieldsIn P ops Cl oi v a →
      toL P md ops Cl E R f (listed.setIfInBounds i true) (a.put oi.dst v) → toL P md ops Cl E R (f + 1) listed a := by
  have key : ∀ listed, Shut md ops listed → i ∈ Region.ready md ops listed → ∀ e ∈ E, e ∉ Region.ready md ops listed := fun listed hsh hr e he hn => by
    obtain ⟨_, o, ho, hall⟩ := mem_ready.1 hn
    have h1 := waits_spec hsh n e (hE e he) fun o' ho' ed hed hb => by
      rw [ho] at ho'; cases ho'; exact hall ed hed hb
    have h0 := (mem_ready.1 hr).1
    rcases Nat.lt_or_ge i listed.size with h' | h'
    · simp [h'] at h0 h1; rw [h0] at h1; cases h1
    · simp [Array.getElem?_eq_none h'] at h1
  intro f
  induction f with
  | zero =>
    intro listed a hsh _ hr hy H
    refine ⟨⟨i, hr⟩, fun j hj => ⟨fun e => key _ hsh hr j e hj, ?_⟩⟩
    by_cases hji : j = i
    · subst hji; exact hy.qOp hi H
    · exact absurd hj (key _ hsh hr j (H.1 j (ready_mono hj hji)))
  | succ f ih =>
    intro listed a hsh hfree hr hy H
    refine ⟨⟨i, hr⟩, fun j hj => ⟨fun e => key _ hsh hr j e hj, ?_⟩⟩
    by_cases hji : j = i
    · subst hji; exact hy.qOp hi H
    · have h1 := (H.2 j (ready_mono hj hji)).2
      obtain ⟨hjun, oj, hoj, hall⟩ := mem_ready.1 hj
      have hnot : ∀ e ∈ oj.after, Region.binds md e = true → e.on ≠ i := fun e he hb heq => by
        have h1 := hall e he hb
        have h0 := (mem_ready.1 hr).1
        rw [heq] at h1
        rcases Nat.lt_or_ge i listed.size with h' | h'
        · simp [h'] at h0 h1; rw [h0] at h1; cases h1
        · simp [Array.getElem?_eq_none h'] at h1
      have h2 := qOp_put hoj (hfree j oj hoj hji hjun hnot) (fun cs b => hsel i oi cs b hi) (fun cs b => hsel j oj cs b hoj) hy h1
      refine qOp_mono (fun a' h3 => ih (listed.setIfInBounds j true) a' (hsh.set hj) (fun k ok hk hki hun hno => ?_) (ready_mono hr (Ne.symm hji)) h3.1 ?_) h2
      · refine hfree k ok hk hki ?_ hno
        by_cases hjk : j = k
        · subst hjk; exact hjun
        · rw [getD_set_ne true hjk] at hun; exact hun
      · rw [Array.setIfInBounds_comm _ _ hji]; exact h3.2
def opsAt (ops : Array Oper) (L : List Nat) : List Oper := L.filterMap fun i => ops[i]?
def lexOk (md : Region.Mode) (ops : Array Oper) (E : List Nat) (n : Nat) : List Nat → Array Bool → Bool
  | [], listed => (Region.ready md ops listed).all fun j => E.contains j
  | i :: L, listed => (Region.ready md ops listed).contains i && Region.free md ops listed i && E.all (fun e => waits md ops n e i) && lexOk md ops E n L (listed.setIfInBounds i true)
def setAll (listed : Array Bool) : List Nat → Array Bool
  | [] => listed
  | i :: L => setAll (listed.setIfInBounds i true) L
theorem toL_lex {n : Nat} (hs : Region.noSelect ops = true) : ∀ (L : List Nat) (listed : Array Bool) (a : Act), Shut md ops listed → lexOk md ops E n L listed = true →
    wpQuiet P ops Cl (R (setAll listed L)) (opsAt ops L) a → toL P md ops Cl E R L.length listed a
  | [], listed, a, _, hB, h => by
    simp only [lexOk, List.all_eq_true] at hB
    exact ⟨fun j hj => by simpa using hB j hj, h⟩
  | i :: L, listed, a, hsh, hB, h => by
    simp only [lexOk, Bool.and_eq_true, List.all_eq_true] at hB
    obtain ⟨⟨⟨hr, hf⟩, hE⟩, hB'⟩ := hB
    have hr' : i ∈ Region.ready md ops listed := by simpa using hr
    obtain ⟨_, o, h0, _⟩ := mem_ready.1 hr'
    have hst : qOp P ops Cl i (wpQuiet P ops Cl (R (setAll (listed.setIfInBounds i true) L)) (opsAt ops L)) a := by
      unfold qOp
      simp only [h0]
      unfold opsAt at h
      rw [List.filterMap_cons_some h0] at h
      exact h
    obtain ⟨v, hy, hK⟩ := yieldsIn_of_qOp h0 hst
    exact toL_first h0 (Region.noSelect_spec hs) hE L.length listed a hsh (Region.free_spec h0 hf) hr' hy (toL_lex hs L _ _ (hsh.set hr') hB' hK)
theorem wpAnyH_of_toL {Q' : Exit → Act → World → Prop} {S : World → Prop} {f0 : Nat} (hS : ∀ w, S w) (hR : ∀ listed a w, Cl w → R listed a → wpAnyH P md ops Q' S f0 listed a w) : ∀ (f : Nat) (listed : Array Bool) (a : Act) (w : World), Cl w →
    toL P md ops Cl E R f listed a → wpAnyH P md ops Q' S (f + f0) listed a w
  | 0, listed, a, w, hw, h => by rw [Nat.zero_add]; exact hR listed a w hw h.2
  | f + 1, listed, a, w, hw, ⟨⟨i0, hi0⟩, h⟩ => by
    rw [show f + 1 + f0 = (f + f0) + 1 from by omega]
    refine ⟨fun h0 => (by rw [h0] at hi0; cases hi0), fun i hi => wpOp_of_qOp hw (fun a' w' hw' h' => ⟨hS w', wpAnyH_of_toL hS hR f _ a' w' hw' h'⟩) (h i hi).2⟩
end
theorem wpQuiet_imp {P : Program} {ops : Array Oper} {Cl : World → Prop} {Q Q' : Act → Prop} (h : ∀ a, Q a → Q' a) : ∀ {l : List Oper} {a : Act}, wpQuiet P ops Cl Q l a → wpQuiet P ops Cl Q' l a
  | [], a, hq => h a hq
  | o :: l, a, hq => by
    unfold wpQuiet at hq ⊢
    split
    · rename_i hw
      rw [if_pos hw] at hq
      exact Oper.quiet_mono (fun a hq => wpQuiet_imp h hq) hq
    · rename_i hw
      rw [if_neg hw] at hq
      exact wpQuiet_imp h hq
theorem Sat.any {F : PH} {H : List Asrt} {w : World} (s : Sat F H w) : Sat PH.emp [] w := s.bare.mono (PH.emp_le F)
theorem sat_any (w : World) : Sat PH.emp [] w := Sat.any (Sat.nil w)
def shutB (md : Region.Mode) (ops : Array Oper) (listed : Array Bool) : Bool := (List.range ops.size).all fun j => !(listed.getD j false) || match ops[j]? with
  | none => true
  | some o => o.after.all fun e => !(Region.binds md e) || listed.getD e.on false
theorem shutB_spec {md : Region.Mode} {ops : Array Oper} {listed : Array Bool} (h : shutB md ops listed = true) : Shut md ops listed := fun j o ho hj e he hb => by
  unfold shutB at h
  rw [List.all_eq_true] at h
  have h1 := h j (List.mem_range.2 (Array.getElem?_eq_some_iff.1 ho).1)
  rw [hj, ho] at h1
  simp only [Bool.not_true, Bool.false_or, Array.all_eq_true] at h1
  obtain ⟨m, hm, rfl⟩ := Array.getElem_of_mem he
  have h2 := h1 m hm
  rw [hb] at h2
  simpa using h2
section
variable {C : Ctx} {k : List KItem} {l : Env} {F : PH} {H : List Asrt}
abbrev restK (C : Ctx) (ops : Array Oper) (f : Nat) (listed : Array Bool) (k : List KItem) : List KItem := .again (fun a w => wpAnyH C.P .any ops (kpost C k) (Sat PH.emp []) f listed a w) :: k
/-- The others, in the text's order; then what E names. -/
theorem aL {opsl : List Oper} {fuel : Nat} {listed : Array Bool} (g : List Oper → List Oper) (E L : List Nat) (f : Nat) (hf : fuel = L.length + f) (hg : opsAt opsl.toArray L = g opsl) (hd : (g opsl).all (fun o => o.dst.all (· < C.N)) = true) (hsel : Region.noSelect opsl.toArray = true)
    (hc : shutB .any opsl.toArray listed = true) (hB : lexOk .any opsl.toArray E opsl.length L listed = true) (h : JM C true opsl.toArray (g opsl) (restK C opsl.toArray f (setAll listed L) k) l F H) : JA C (Sat PH.emp []) opsl.toArray fuel listed k l F H := by
  unfold JM at h
  unfold JA
  unfold JQ at h
  intro _ a w ha hm hs
  have h1 := h hd a ha
  rw [← hg] at h1
  subst hf
  exact wpAnyH_of_toL (Cl := fun w => Mild C.w0 w ∧ Sat F H w) (E := E) (R := fun li a' => li = setAll listed L ∧ ∀ w', (Mild C.w0 w' ∧ Sat F H w') → wpAnyH C.P .any opsl.toArray (kpost C k) (Sat PH.emp []) f (setAll listed L) a' w') (fun w => sat_any w)
    (fun li a w hw hR => by rw [hR.1]; exact hR.2 w hw) L.length listed a w ⟨hm, hs⟩ (toL_lex hsel L listed a (shutB_spec hc) hB (wpQuiet_imp (fun a' ha' => ⟨rfl, ha'⟩) h1))
theorem aR {ops : Array Oper} {f : Nat} {listed : Array Bool} (h : JA C (Sat PH.emp []) ops f listed k l F H) : J C (restK C ops f listed k) l F H := by
  unfold JA at h
  unfold J
  intro a w ha hm hs
  exact h (fun w _ => sat_any w) a w ha hm hs
end
end Go.Proofs.YtekdmpbkcjjllaaDoor
