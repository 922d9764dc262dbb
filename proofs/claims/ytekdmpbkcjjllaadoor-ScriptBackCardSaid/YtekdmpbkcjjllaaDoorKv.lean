/-
  Open orders whose last operation waits for all others: the others are walked in the text's order (calls that only hand back a value among them), then comes the last one. Plain theorems over any program; no condition.
-/
import Derived.Test.YtekdmpbkcjjllaaDoorKu
namespace Go.Proofs.YtekdmpbkcjjllaaDoor
open Go.RowKit
section
variable {P : Program} {ops : Array Oper} {md : Region.Mode} {Cl : World → Prop} {n : Nat} {R : Act → Prop}
/-- Whatever order is picked of all but number n, which comes last. -/
def toLast (P : Program) (md : Region.Mode) (ops : Array Oper) (Cl : World → Prop) (n : Nat) (R : Act → Prop) : Nat → Array Bool → Act → Prop
  | 0, listed, a => Region.ready md ops listed = [n] ∧ Region.ready md ops (listed.setIfInBounds n true) = [] ∧ R a
  | f + 1, listed, a => (∃ i, i ∈ Region.ready md ops listed) ∧ ∀ i ∈ Region.ready md ops listed, i ≠ n ∧ qOp P ops Cl i (toLast P md ops Cl n R f (listed.setIfInBounds i true)) a
theorem toLast_first {i : Nat} {oi o : Oper} {v : Value} (hi : ops[i]? = some oi) (hsel : ∀ (j : Nat) (o : Oper) cs b, ops[j]? = some o → o.op ≠ .select cs b)
    (ho : ops[n]? = some o) (hw : ∃ e ∈ o.after, Region.binds md e = true ∧ e.on = i) : ∀ (f : Nat) (listed : Array Bool) (a : Act),
      (∀ j oj, ops[j]? = some oj → j ≠ i → listed.getD j true = false → (∀ e ∈ oj.after, Region.binds md e = true → e.on ≠ i) → oi.apart ops oj = true) →
      i ∈ Region.ready md ops listed → YieldsIn P ops Cl oi v a →
      toLast P md ops Cl n R f (listed.setIfInBounds i true) (a.put oi.dst v) → toLast P md ops Cl n R (f + 1) listed a := by
  have key : ∀ listed, i ∈ Region.ready md ops listed → n ∉ Region.ready md ops listed := fun listed hr hn => by
    obtain ⟨_, o', ho', hall⟩ := mem_ready.1 hn
    rw [ho] at ho'
    cases ho'
    obtain ⟨e, he, hb, rfl⟩ := hw
    have h1 := hall e he hb
    have h0 := (mem_ready.1 hr).1
    rcases Nat.lt_or_ge e.on listed.size with h' | h'
    · simp [h'] at h0 h1; rw [h0] at h1; cases h1
    · simp [Array.getElem?_eq_none h'] at h1
  intro f
  induction f with
  | zero =>
    intro listed a _ hr hy H
    refine ⟨⟨i, hr⟩, fun j hj => ⟨fun e => key _ hr (e ▸ hj), ?_⟩⟩
    by_cases hji : j = i
    · subst hji; exact hy.qOp hi H
    · have h1 := ready_mono hj hji
      rw [H.1, List.mem_singleton] at h1
      exact absurd hj (h1 ▸ key _ hr)
  | succ f ih =>
    intro listed a hfree hr hy H
    refine ⟨⟨i, hr⟩, fun j hj => ⟨fun e => key _ hr (e ▸ hj), ?_⟩⟩
    by_cases hji : j = i
    · subst hji; exact hy.qOp hi H
    · have h1 := (H.2 j (ready_mono hj hji)).2
      obtain ⟨hjun, oj, hoj, hall⟩ := mem_ready.1 hj
      have hnot : ∀ e ∈ oj.after, Region.binds md e = true → e.on ≠ i := fun e he hb heq => by
        have h1 := hall e he hb
        have h0 := (mem_ready.1 hr).1
        rw [heq] at h1
        rcases Nat.lt_or_ge i listed.size with h' | h'
        · simp [h'] at h0 h1; rw [h0] at h1; cases h1
        · simp [Array.getElem?_eq_none h'] at h1
      have h2 := qOp_put hoj (hfree j oj hoj hji hjun hnot) (fun cs b => hsel i oi cs b hi) (fun cs b => hsel j oj cs b hoj) hy h1
      refine qOp_mono (fun a' h3 => ih (listed.setIfInBounds j true) a' (fun k ok hk hki hun hno => ?_) (ready_mono hr (Ne.symm hji)) h3.1 ?_) h2
      · refine hfree k ok hk hki ?_ hno
        by_cases hjk : j = k
        · subst hjk; exact hjun
        · rw [getD_set_ne true hjk] at hun; exact hun
      · rw [Array.setIfInBounds_comm _ _ hji]; exact h3.2
/-- The others may be taken as they stand. -/
def preFrom (md : Region.Mode) (ops : Array Oper) (n : Nat) : Nat → Nat → Array Bool → Bool
  | 0, _, listed => (match Region.ready md ops listed with | [m] => m == n | _ => false) && (Region.ready md ops (listed.setIfInBounds n true)).isEmpty
  | f + 1, k, listed => (Region.ready md ops listed).contains k && Region.free md ops listed k && (match ops[n]? with | some o => o.after.any (fun e => Region.binds md e && e.on == k) | none => false) && preFrom md ops n f (k + 1) (listed.setIfInBounds k true)
def preB (md : Region.Mode) (ops : Array Oper) : Bool := Region.noSelect ops && preFrom md ops (ops.size - 1) (ops.size - 1) 0 (Array.replicate ops.size false)
theorem toLast_lex (hs : Region.noSelect ops = true) : ∀ (l : List Oper) (k : Nat) (listed : Array Bool) (a : Act), (∀ j, j < l.length → l[j]? = ops[k + j]?) →
    preFrom md ops n l.length k listed = true → wpQuiet P ops Cl R l a → toLast P md ops Cl n R l.length listed a
  | [], _, listed, _, _, hB, h => by
    simp only [List.length_nil, preFrom, Bool.and_eq_true, List.isEmpty_iff] at hB
    obtain ⟨h1, h2⟩ := hB
    refine ⟨?_, h2, h⟩
    split at h1
    · rename_i m e; rw [e, beq_iff_eq.1 h1]
    · cases h1
  | o :: l, k, listed, a, hl, hB, h => by
    have h0 : ops[k]? = some o := by simpa using (hl 0 (by simp)).symm
    simp only [List.length_cons, preFrom, Bool.and_eq_true] at hB
    obtain ⟨⟨⟨hr, hf⟩, hw⟩, hB'⟩ := hB
    have hst : qOp P ops Cl k (wpQuiet P ops Cl R l) a := by unfold qOp; simp only [h0]; exact h
    obtain ⟨v, hy, hK⟩ := yieldsIn_of_qOp h0 hst
    cases hn : ops[n]? with
    | none => rw [hn] at hw; cases hw
    | some on =>
      rw [hn] at hw
      simp only [Array.any_eq_true] at hw
      obtain ⟨j, hj, hb⟩ := hw
      simp only [Bool.and_eq_true, beq_iff_eq] at hb
      exact toLast_first h0 (Region.noSelect_spec hs) hn ⟨on.after[j], Array.getElem_mem hj, hb.1, hb.2⟩ l.length listed a (Region.free_spec h0 hf) (by simpa using hr) hy
        (toLast_lex hs l (k + 1) _ _ (fun j hjl => by have := hl (j + 1) (by simpa using hjl); simpa [Nat.add_assoc, Nat.add_comm 1 j] using this) hB' hK)
theorem wpAny_of_toLast {Q' : Exit → Act → World → Prop} {o : Oper} (ho : ops[n]? = some o) (hR : ∀ a w, Cl w → R a → wpList P ops Q' [o] a w) : ∀ (f : Nat) (listed : Array Bool) (a : Act) (w : World), Cl w →
    toLast P md ops Cl n R f listed a → wpAny P md ops Q' (f + 1) listed a w
  | 0, listed, a, w, hw, ⟨h1, h2, h3⟩ => by
    refine ⟨fun h0 => (by rw [h1] at h0; cases h0), fun i hi => ?_⟩
    rw [h1, List.mem_singleton] at hi
    subst hi
    have h4 := hR a w hw h3
    unfold wpOp
    simp only [ho]
    unfold wpList at h4
    split
    · rename_i hwn
      rw [if_pos hwn] at h4
      refine h4.imp (fun h => Oper.wp_mono (fun a w hq => ⟨h2, hq⟩) h) id
    · rename_i hwn
      rw [if_neg hwn] at h4
      exact ⟨h2, h4⟩
  | f + 1, listed, a, w, hw, ⟨⟨i0, hi0⟩, h⟩ => by
    refine ⟨fun h0 => (by rw [h0] at hi0; cases hi0), fun i hi => wpOp_of_qOp hw (fun a' w' hw' h' => wpAny_of_toLast ho hR f _ a' w' hw' h') (h i hi).2⟩
end
section
variable {C : Ctx} {k : List KItem} {l : Env} {F : PH} {H : List Asrt}
/-- What is left: the last operation. -/
abbrev lastK (C : Ctx) (ops : Array Oper) (o : Oper) (k : List KItem) : List KItem := .again (fun a w => wpList C.P ops (kpost C k) [o] a w) :: k
theorem J_drawL {id : Nat} {ops pre : List Oper} {o : Oper} (hops : ops = pre ++ [o]) (hd : pre.all (fun o => o.dst.all (· < C.N)) = true) (hm : C.P.follows .mixedOrders = true) (hB : preB .any ops.toArray = true)
    (h : JM C true ops.toArray pre (lastK C ops.toArray o k) l F H) : J C (.code (.region id ops.toArray true) :: k) l F H := by
  unfold JM at h
  unfold J
  unfold JQ at h
  intro a w ha hmw hs
  have h1 := h hd a ha
  simp only [preB, Bool.and_eq_true] at hB
  have hsz : ops.toArray.size - 1 = pre.length := by rw [hops]; simp
  rw [hsz] at hB
  have hn : ops.toArray[pre.length]? = some o := by rw [hops]; simp
  refine wp_region_any hm ?_
  have h2 := toLast_lex (P := C.P) (Cl := fun w => Mild C.w0 w ∧ Sat F H w) (R := fun a' => ∀ w', (Mild C.w0 w' ∧ Sat F H w') → kpost C (lastK C ops.toArray o k) .normal a' w') (md := .any) (n := pre.length) hB.1 pre 0 (Array.replicate ops.toArray.size false) a
    (fun j hj => by rw [hops]; simp [List.getElem?_append_left hj]) hB.2 h1
  have h3 := wpAny_of_toLast (Q' := kpost C k) hn (fun a w hw hR => hR w hw) pre.length _ a { w with drawn := w.drawn + 1 } ⟨hmw.trans (Mild.drew w), hs⟩ h2
  have hsz' : ops.toArray.size = pre.length + 1 := by rw [hops]; simp
  rw [hsz'] at h3 ⊢
  exact h3
def lastO : List Oper → Option Oper
  | [] => none
  | [o] => some o
  | _ :: r => lastO r
theorem lastO_eq : ∀ {ops : List Oper} {o : Oper}, lastO ops = some o → ops = ops.dropLast ++ [o]
  | [], _, h => by cases h
  | [x], _, h => by cases h; rfl
  | x :: y :: r, o, h => by
    have h' : lastO (y :: r) = some o := h
    have := lastO_eq h'
    rw [List.dropLast_cons_cons, List.cons_append, ← this]
theorem jdl {id : Nat} {ops : List Oper} {o : Oper} (ho : lastO ops = some o) (hd : ops.dropLast.all (fun o => o.dst.all (· < C.N)) = true) (hm : C.P.follows .mixedOrders = true) (hB : preB .any ops.toArray = true)
    (h : JM C true ops.toArray ops.dropLast (lastK C ops.toArray o k) l F H) : J C (.code (.region id ops.toArray true) :: k) l F H := J_drawL (lastO_eq ho) hd hm hB h
/-- The last operation's turn. -/
theorem jL {ops : Array Oper} {o : Oper} (hd : o.dst.all (· < C.N) = true) (h : JM C false ops [o] k l F H) : J C (lastK C ops o k) l F H := by
  unfold JM at h
  unfold J
  unfold JO at h
  intro a w ha hmw hs
  exact h (by simpa using hd) a w ha hmw hs
end
end Go.Proofs.YtekdmpbkcjjllaaDoor
