/-
  How parts stand when sorted, and an amount shared out by the document. Conditions are typed with each.
-/
import Derived.Test.YtmicjjhkoicdnaaGc
namespace Go.Proofs.Ytmicjjhkoicdnaa
open Go.RowKit
set_option maxRecDepth 100000
def Bef (x y : Pt) : Prop := y.r < x.r ∨ (x.r = y.r ∧ x.at_ < y.at_)
theorem insR_bef {x : Pt} : ∀ {R : List Pt}, R.Pairwise (fun a b => Bef b a) → (∀ y ∈ R, y.at_ < x.at_) → (insR ptLt x R).Pairwise (fun a b => Bef b a)
  | [], _, _ => by simp [insR]
  | y :: r, h, ha => by
    obtain ⟨h1, h2⟩ := List.pairwise_cons.1 h
    unfold insR
    by_cases hl : ptLt x y = true
    · rw [if_pos hl]
      have hxy : y.r < x.r := of_decide_eq_true hl
      refine List.pairwise_cons.2 ⟨fun z hz => ?_, insR_bef h2 fun z hz => ha z (by simp [hz])⟩
      have hm : z ∈ insR ptLt x r → z = x ∨ z ∈ r := by
        clear h1 h2 h ha hl hxy hz
        induction r with
        | nil => intro hz; simpa [insR] using hz
        | cons u r ih =>
          unfold insR
          split
          · intro hz
            rcases List.mem_cons.1 hz with rfl | hz
            · right; simp
            · rcases ih hz with h | h
              · exact .inl h
              · right; simp [h]
          · intro hz
            rcases List.mem_cons.1 hz with rfl | hz
            · exact .inl rfl
            · exact .inr hz
      rcases hm hz with rfl | hz
      · exact .inl hxy
      · exact h1 z hz
    · rw [if_neg hl]
      have hxy : ¬ y.r < x.r := fun hh => hl (decide_eq_true hh)
      refine List.pairwise_cons.2 ⟨fun z hz => ?_, h⟩
      have hza := ha z hz
      rcases List.mem_cons.1 hz with rfl | hz
      · unfold Bef; omega
      · have := h1 z hz
        unfold Bef at this ⊢
        omega
theorem isort_bef {L : List Pt} (h : L.Pairwise (fun a b => a.at_ < b.at_)) : (isortL ptLt L).Pairwise Bef := by
  have key : ∀ (L S : List Pt), S.Pairwise Bef → (∀ y ∈ S, ∀ x ∈ L, y.at_ < x.at_) → L.Pairwise (fun a b => a.at_ < b.at_) → (L.foldl (fun S x => insL ptLt x S) S).Pairwise Bef := by
    intro L
    induction L with
    | nil => intro S h _ _; exact h
    | cons x L ih =>
      intro S hS hSL hL
      obtain ⟨h1, h2⟩ := List.pairwise_cons.1 hL
      rw [List.foldl_cons]
      refine ih _ ?_ ?_ h2
      · unfold insL
        rw [List.pairwise_reverse]
        refine insR_bef ?_ fun y hy => hSL y (by simpa using hy) x (by simp)
        rw [List.pairwise_reverse]
        exact hS
      · intro y hy z hz
        rcases List.mem_append.1 ((insL_perm ptLt x S).mem_iff.1 hy) with hy | hy
        · exact hSL y hy z (by simp [hz])
        · rw [List.mem_singleton] at hy; subst hy; exact h1 z hz
  exact key L [] List.Pairwise.nil (fun _ h => by cases h) h
/-- Parts as they stand when sorted. -/
structure Sorted (n : Nat) (P L : List Pt) : Prop where
  len : L.length = n
  bef : L.Pairwise Bef
  pos : ∀ p ∈ L, 0 ≤ p.r
  at_lt : ∀ p ∈ L, p.at_ < n
  of : ∀ p ∈ L, P[p.at_]? = some p
  surj : ∀ a, a < n → ∃ (k : Nat) (p : Pt), L[k]? = some p ∧ p.at_ = a
theorem sorted_of {total : Int} {ws : List Int} (ht : 0 ≤ total ∧ total ≤ 1099511627776) (hw : ∀ w ∈ ws, 0 ≤ w ∧ w ≤ 65536) {sum : Int} (hs : 1 ≤ sum) : Sorted ws.length (ptsOf total sum ws) (isortL ptLt (ptsOf total sum ws)) := by
  have hp := isortL_perm ptLt (ptsOf total sum ws)
  have hlen := ptsOf_len total sum ws
  have hget : ∀ p ∈ ptsOf total sum ws, 0 ≤ p.r ∧ p.at_ < ws.length ∧ (ptsOf total sum ws)[p.at_]? = some p := fun p hm => by
    obtain ⟨i, hi, rfl⟩ := List.getElem_of_mem hm
    have hiw : i < ws.length := by omega
    have hg : ws[i]? = some ws[i] := List.getElem?_eq_getElem hiw
    have h1 := ptsOf_at (total := total) (sum := sum) hg
    have h2 := h1
    rw [List.getElem?_eq_getElem hi] at h2
    have h3 := Option.some.inj h2
    rw [h3]
    exact ⟨(part_bounds ht (hw _ (List.getElem_mem hiw)) hs).2.2.1, hiw, h1⟩
  refine ⟨by rw [hp.length_eq, hlen], isort_bef ?_, fun p h => (hget p (hp.mem_iff.1 h)).1, fun p h => (hget p (hp.mem_iff.1 h)).2.1, fun p h => (hget p (hp.mem_iff.1 h)).2.2, fun a ha => ?_⟩
  · rw [List.pairwise_iff_getElem]
    intro i j hi hj hij
    have hgi : ws[i]? = some (ws[i]'(by omega)) := List.getElem?_eq_getElem _
    have hgj : ws[j]? = some (ws[j]'(by omega)) := List.getElem?_eq_getElem _
    have h1 := ptsOf_at (total := total) (sum := sum) hgi
    have h2 := ptsOf_at (total := total) (sum := sum) hgj
    rw [List.getElem?_eq_getElem hi] at h1
    rw [List.getElem?_eq_getElem hj] at h2
    rw [Option.some.inj h1, Option.some.inj h2]
    exact hij
  · have hg : ws[a]? = some ws[a] := List.getElem?_eq_getElem ha
    have h1 := ptsOf_at (total := total) (sum := sum) hg
    obtain ⟨k, hk, he⟩ := List.getElem_of_mem (hp.mem_iff.2 (List.mem_of_getElem? h1))
    exact ⟨k, _, by rw [List.getElem?_eq_getElem hk, he], rfl⟩
theorem Sorted.inj {n : Nat} {P L : List Pt} (h : Sorted n P L) {k k' : Nat} {p p' : Pt} (hk : L[k]? = some p) (hk' : L[k']? = some p') (he : p.at_ = p'.at_) : k = k' := by
  have h1 := h.of p (List.mem_of_getElem? hk)
  have h2 := h.of p' (List.mem_of_getElem? hk')
  rw [he, h2] at h1
  obtain rfl := Option.some.inj h1
  obtain ⟨hl, e1⟩ := List.getElem?_eq_some_iff.1 hk
  obtain ⟨hl', e2⟩ := List.getElem?_eq_some_iff.1 hk'
  have irr : ¬ Bef p' p' := by unfold Bef; omega
  have hpw := List.pairwise_iff_getElem.1 h.bef
  rcases Nat.lt_trichotomy k k' with hlt | rfl | hlt
  · have := hpw k k' hl hl' hlt; rw [e1, e2] at this; exact absurd this irr
  · rfl
  · have := hpw k' k hl' hl hlt; rw [e1, e2] at this; exact absurd this irr
theorem Sorted.outS_get {n : Nat} {P L : List Pt} (h : Sorted n P L) (left : Int) : ∀ (i : Nat), i ≤ n → ∀ k p, L[k]? = some p → (outS L left n i)[p.at_]? = some (if k < i then p.q + (if (k : Int) < left then 1 else 0) else 0)
  | 0, _, k, p, hk => by
    have := h.at_lt p (List.mem_of_getElem? hk)
    unfold outS
    rw [List.getElem?_replicate, if_pos this, if_neg (by omega)]
  | i + 1, hi, k, p, hk => by
    have hg : L[i]? = some (L[i]'(by rw [h.len]; omega)) := List.getElem?_eq_getElem _
    generalize L[i]'(by rw [h.len]; omega) = q at hg
    have hol := outS_len L left n i
    rw [outS_succ hg, List.getElem?_set]
    by_cases he : q.at_ = p.at_
    · have hki := h.inj hg hk he
      subst hki
      rw [hg] at hk
      obtain rfl := Option.some.inj hk
      rw [if_pos rfl, if_pos (by rw [hol]; exact h.at_lt _ (List.mem_of_getElem? hg)), if_pos (show i < i + 1 by omega)]
    · rw [if_neg he, h.outS_get left i (by omega) k p hk]
      have hki : k ≠ i := fun e => by subst e; rw [hg] at hk; exact he (by rw [Option.some.inj hk])
      by_cases hlt : k < i
      · rw [if_pos hlt, if_pos (show k < i + 1 by omega)]
      · rw [if_neg hlt, if_neg (show ¬ k < i + 1 by omega)]
/-- The document's rows, when so many have one more. -/
structure DocAt (L : List Pt) (n t : Nat) (O R : List Int) : Prop where
  ol : O.length = n
  rl : R.length = n
  og : ∀ k p, L[k]? = some p → O[p.at_]? = some (p.q + if k < t then 1 else 0)
  rg : ∀ k p, L[k]? = some p → R[p.at_]? = some (if k < t then -1 else p.r)
theorem doc_end {n : Nat} {P L : List Pt} (h : Sorted n P L) {t : Nat} {O R : List Int} (hd : DocAt L n t O R) : O = outS L t n n := by
  apply List.ext_getElem?
  intro a
  by_cases ha : a < n
  · obtain ⟨k, p, hk, rfl⟩ := h.surj a ha
    rw [hd.og k p hk, h.outS_get t n (Nat.le_refl _) k p hk]
    have : k < n := by have := (List.getElem?_eq_some_iff.1 hk).1; rw [h.len] at this; exact this
    rw [if_pos this]
    by_cases hkt : k < t
    · rw [if_pos hkt, if_pos (by omega)]
    · rw [if_neg hkt, if_neg (by omega)]
  · rw [List.getElem?_eq_none (by rw [hd.ol]; omega), List.getElem?_eq_none (by rw [outS_len]; omega)]
/-- The first one of the greatest. -/
def Best (R : List Int) (i b : Nat) : Prop := b < R.length ∧ ∃ x, R[b]? = some x ∧ (∀ j y, j < i → R[j]? = some y → y ≤ x) ∧ ∀ j y, j < b → R[j]? = some y → y < x
theorem Best.uniq {R : List Int} {i b b' : Nat} (h : Best R i b) (h' : Best R i b') (hi : R.length ≤ i) : b = b' := by
  obtain ⟨h1, x, h2, h3, h4⟩ := h
  obtain ⟨h1', x', h2', h3', h4'⟩ := h'
  have a1 := h3 b' x' (by omega) h2'
  have a2 := h3' b x (by omega) h2
  rcases Nat.lt_trichotomy b b' with hlt | rfl | hlt
  · have := h4' b x hlt h2; omega
  · rfl
  · have := h4 b' x' hlt h2'; omega
theorem Sorted.best {n : Nat} {P L : List Pt} (h : Sorted n P L) {t : Nat} {O R : List Int} (hd : DocAt L n t O R) {p : Pt} (hp : L[t]? = some p) : Best R n p.at_ := by
  have hlt := h.at_lt p (List.mem_of_getElem? hp)
  have hr := hd.rg t p hp
  rw [if_neg (Nat.lt_irrefl _)] at hr
  have hpos := h.pos p (List.mem_of_getElem? hp)
  have key : ∀ j y, R[j]? = some y → y < p.r ∨ (y ≤ p.r ∧ p.at_ ≤ j) := fun j y hj => by
    have hjn : j < n := by have := (List.getElem?_eq_some_iff.1 hj).1; rw [hd.rl] at this; exact this
    obtain ⟨k, q, hk, rfl⟩ := h.surj j hjn
    have hq := hd.rg k q hk
    rw [hj] at hq
    have hq' := Option.some.inj hq
    by_cases hkt : k < t
    · rw [if_pos hkt] at hq'; left; omega
    · rw [if_neg hkt] at hq'
      by_cases hkk : k = t
      · subst hkk
        rw [hp] at hk
        obtain rfl := Option.some.inj hk
        right; omega
      · obtain ⟨hl, e1⟩ := List.getElem?_eq_some_iff.1 hp
        obtain ⟨hl', e2⟩ := List.getElem?_eq_some_iff.1 hk
        have := List.pairwise_iff_getElem.1 h.bef t k hl hl' (by omega)
        rw [e1, e2] at this
        unfold Bef at this
        omega
  refine ⟨by rw [hd.rl]; exact hlt, p.r, hr, fun j y _ hj => ?_, fun j y hj hy => ?_⟩
  · have := key j y hj; omega
  · have := key j y hy; omega
theorem doc_step {n : Nat} {P L : List Pt} (h : Sorted n P L) {t : Nat} {O R : List Int} (hd : DocAt L n t O R) {p : Pt} (hp : L[t]? = some p) : O[p.at_]? = some p.q ∧ DocAt L n (t + 1) (O.set p.at_ (p.q + 1)) (R.set p.at_ (-1)) := by
  have hlt := h.at_lt p (List.mem_of_getElem? hp)
  have ho := hd.og t p hp
  rw [if_neg (Nat.lt_irrefl _), Int.add_zero] at ho
  refine ⟨ho, by rw [List.length_set]; exact hd.ol, by rw [List.length_set]; exact hd.rl, fun k q hk => ?_, fun k q hk => ?_⟩
  · rw [List.getElem?_set]
    by_cases he : p.at_ = q.at_
    · have hki := h.inj hp hk he
      subst hki
      rw [hp] at hk
      obtain rfl := Option.some.inj hk
      rw [if_pos rfl, if_pos (by rw [hd.ol]; exact hlt), if_pos (by omega)]
    · rw [if_neg he, hd.og k q hk]
      have hki : k ≠ t := fun e => by subst e; rw [hp] at hk; exact he (by rw [Option.some.inj hk])
      by_cases hkt : k < t
      · rw [if_pos hkt, if_pos (by omega)]
      · rw [if_neg hkt, if_neg (by omega)]
  · rw [List.getElem?_set]
    by_cases he : p.at_ = q.at_
    · have hki := h.inj hp hk he
      subst hki
      rw [hp] at hk
      obtain rfl := Option.some.inj hk
      rw [if_pos rfl, if_pos (by rw [hd.rl]; exact hlt), if_pos (by omega)]
    · rw [if_neg he, hd.rg k q hk]
      have hki : k ≠ t := fun e => by subst e; rw [hp] at hk; exact he (by rw [Option.some.inj hk])
      by_cases hkt : k < t
      · rw [if_pos hkt, if_pos (by omega)]
      · rw [if_neg hkt, if_neg (by omega)]
theorem doc_start {n : Nat} {P L : List Pt} (h : Sorted n P L) (hP : P.length = n) : DocAt L n 0 (P.map (·.q)) (P.map (·.r)) := by
  refine ⟨by simp [hP], by simp [hP], fun k p hk => ?_, fun k p hk => ?_⟩
  · rw [List.getElem?_map, h.of p (List.mem_of_getElem? hk)]; simp
  · rw [List.getElem?_map, h.of p (List.mem_of_getElem? hk)]; simp
/-! what is left -/
def rSum (L : List Pt) : Int := (L.map (·.r)).sum
theorem left_sum {total sum : Int} (hs : 1 ≤ sum) : ∀ ws : List Int, ∀ k : Nat, qSum ((ws.zipIdx k).map fun p => (⟨p.2, total * p.1 / sum, total * p.1 % sum⟩ : Pt)) * sum + rSum ((ws.zipIdx k).map fun p => (⟨p.2, total * p.1 / sum, total * p.1 % sum⟩ : Pt)) = total * ws.sum
  | [], _ => by simp [qSum, rSum]
  | w :: ws, k => by
    have ih := left_sum (total := total) hs ws (k + 1)
    have hd := Int.mul_ediv_add_emod (total * w) sum
    unfold qSum rSum at ih ⊢
    simp only [List.zipIdx_cons, List.map_cons, List.sum_cons]
    generalize (List.map (·.q) ((ws.zipIdx (k + 1)).map fun p => (⟨p.2, total * p.1 / sum, total * p.1 % sum⟩ : Pt))).sum = A at *
    generalize (List.map (·.r) ((ws.zipIdx (k + 1)).map fun p => (⟨p.2, total * p.1 / sum, total * p.1 % sum⟩ : Pt))).sum = B at *
    have e1 : (total * w / sum + A) * sum = sum * (total * w / sum) + A * sum := by rw [Int.add_mul, Int.mul_comm (total * w / sum)]
    have e2 : total * (w + ws.sum) = total * w + total * ws.sum := Int.mul_add _ _ _
    omega
theorem rSum_le {s : Int} : ∀ {L : List Pt}, (∀ p ∈ L, 0 ≤ p.r ∧ p.r ≤ s) → 0 ≤ rSum L ∧ rSum L ≤ L.length * s
  | [], _ => by simp [rSum]
  | p :: L, h => by
    have h1 := h p (by simp)
    have h2 := rSum_le (L := L) fun x hx => h x (by simp [hx])
    unfold rSum at h2 ⊢
    simp only [List.map_cons, List.sum_cons, List.length_cons]
    push_cast
    rw [Int.add_mul]
    omega
theorem left_bounds {total : Int} {ws : List Int} (ht : 0 ≤ total ∧ total ≤ 1099511627776) (hw : ∀ w ∈ ws, 0 ≤ w ∧ w ≤ 65536) (hs : 1 ≤ ws.sum) (h0 : 0 < ws.length) : (total - qSum (ptsOf total ws.sum ws)) * ws.sum = rSum (ptsOf total ws.sum ws) ∧ 0 ≤ total - qSum (ptsOf total ws.sum ws) ∧ total - qSum (ptsOf total ws.sum ws) < ws.length := by
  have h1 : qSum (ptsOf total ws.sum ws) * ws.sum + rSum (ptsOf total ws.sum ws) = total * ws.sum := left_sum (total := total) hs ws 0
  have h2 := rSum_le (s := ws.sum - 1) (L := ptsOf total ws.sum ws) fun p hp => by
    obtain ⟨i, hi, rfl⟩ := List.getElem_of_mem hp
    have hiw : i < ws.length := by rw [ptsOf_len] at hi; exact hi
    have hg : ws[i]? = some ws[i] := List.getElem?_eq_getElem hiw
    have h1 := ptsOf_at (total := total) (sum := ws.sum) hg
    rw [List.getElem?_eq_getElem hi] at h1
    rw [Option.some.inj h1]
    have hb := part_bounds ht (hw _ (List.getElem_mem hiw)) hs
    dsimp only
    omega
  rw [ptsOf_len] at h2
  have h3 : (total - qSum (ptsOf total ws.sum ws)) * ws.sum = rSum (ptsOf total ws.sum ws) := by rw [Int.sub_mul]; omega
  generalize total - qSum (ptsOf total ws.sum ws) = left at *
  generalize rSum (ptsOf total ws.sum ws) = R at *
  refine ⟨h3, ?_, ?_⟩
  · rcases Int.lt_or_le left 0 with hn | hn
    · have : left * ws.sum < 0 := Int.mul_neg_of_neg_of_pos hn (by omega)
      omega
    · exact hn
  · rcases Int.lt_or_le left ws.length with hn | hn
    · exact hn
    · exfalso
      have h5 : (ws.length : Int) * ws.sum ≤ left * ws.sum := Int.mul_le_mul_of_nonneg_right hn (by omega)
      have h6 : (ws.length : Int) * (ws.sum - 1) = ws.length * ws.sum - ws.length := by rw [Int.mul_sub, Int.mul_one]
      omega
end Go.Proofs.Ytmicjjhkoicdnaa
