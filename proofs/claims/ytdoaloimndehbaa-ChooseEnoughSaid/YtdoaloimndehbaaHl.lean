/-
  What was committed is chosen again: on plain data. Conditions are typed with each.
-/
import Derived.Test.YtdoaloimndehbaaHf
namespace Go.Proofs.Ytdoaloimndehbaa
open Go.RowKit
theorem pigeon {α : Type} (p q : α → Bool) : ∀ (l : List α), l.length < l.countP p + l.countP q → ∃ s ∈ l, p s = true ∧ q s = true
  | [], h => by simp at h
  | s :: r, h => by
    rw [List.countP_cons, List.countP_cons, List.length_cons] at h
    cases hp : p s with
    | true =>
      cases hq : q s with
      | true => exact ⟨s, by simp, hp, hq⟩
      | false =>
        rw [hp, hq] at h
        obtain ⟨t, ht, h1, h2⟩ := pigeon p q r (by simp at h; omega)
        exact ⟨t, by simp [ht], h1, h2⟩
    | false =>
      rw [hp] at h
      obtain ⟨t, ht, h1, h2⟩ := pigeon p q r (by simp at h; split at h <;> omega)
      exact ⟨t, by simp [ht], h1, h2⟩
/-- More hold one thing than don't hold the other: some hold both. -/
theorem pigeon2 {α : Type} (p q : α → Bool) (l : List α) (h : l.countP (fun s => !q s) < l.countP p) : ∃ s ∈ l, p s = true ∧ q s = true := by
  refine pigeon p q l ?_
  have := List.length_eq_countP_add_countP (l := l) (p := q)
  have e : l.countP (fun s => !q s) = l.countP (fun a => decide ¬q a = true) := List.countP_congr fun a _ => by cases q a <;> simp
  omega
theorem bestS_or {a b : Int} {l : List SgX} {seq : Int} (o : Option PrX) (x : PrX) : (bestS a b l seq o x = some x ∧ x.1 = seq ∧ standsB a b l x = true) ∨ bestS a b l seq o x = o := by
  unfold bestS
  generalize laterB o x = m
  by_cases hc : (decide (x.1 = seq) && (m && standsB a b l x)) = true
  · left
    rw [if_pos hc]
    rw [Bool.and_eq_true, Bool.and_eq_true, decide_eq_true_eq] at hc
    exact ⟨rfl, hc.1, hc.2.2⟩
  · right
    rw [if_neg hc]
theorem bestR_inv {a b : Int} {l : List SgX} {seq : Int} (o : Option PrX) (Q : PrX → Prop) (ho : ∀ q, o = some q → Q q) (hs : ∀ q : PrX, q.1 = seq → standsB a b l q = true → Q q) : ∀ (xs : List PrX) (o : Option PrX), (∀ q, o = some q → Q q) → ∀ q, xs.foldl (bestS a b l seq) o = some q → Q q
  | [], o, h, q, e => h q e
  | x :: r, o, h, q, e => by
    refine bestR_inv o Q h hs r _ ?_ q e
    intro q hq
    rcases bestS_or (a := a) (b := b) (l := l) (seq := seq) o x with ⟨e, h1, h2⟩ | e
    · rw [e] at hq
      cases hq
      exact hs _ h1 h2
    · rw [e] at hq
      exact h q hq
theorem bestP_inv {a b : Int} {l : List SgX} {seq : Int} {q : PrX} (h : bestP a b l seq = some q) : q.1 = seq ∧ standsB a b l q = true := by
  have key : ∀ (xs : List SgX) (o : Option PrX), (∀ q, o = some q → q.1 = seq ∧ standsB a b l q = true) → ∀ q, xs.foldl (bestR a b l seq) o = some q → q.1 = seq ∧ standsB a b l q = true := by
    intro xs
    induction xs with
    | nil => exact fun o h q e => h q e
    | cons x r ih =>
      intro o h q e
      refine ih _ ?_ q e
      exact fun q hq => bestR_inv o (fun q => q.1 = seq ∧ standsB a b l q = true) h (fun q h1 h2 => ⟨h1, h2⟩) _ o h q hq
  exact key l none (fun q h => by cases h) q h
theorem farS_ge {base n : Int} {x : PrX} : n ≤ farS base n x := by
  unfold farS
  split <;> omega
theorem farR_ge {base : Int} : ∀ (xs : List PrX) (n : Int), n ≤ xs.foldl (farS base) n
  | [], n => Int.le_refl _
  | x :: r, n => Int.le_trans farS_ge (farR_ge r _)
theorem farR_mem {base : Int} {x : PrX} (h1 : base < x.1) (h8 : x.1 - base ≤ 8) : ∀ (xs : List PrX) (n : Int), x ∈ xs → x.1 - base ≤ xs.foldl (farS base) n
  | [], n, h => by cases h
  | y :: r, n, h => by
    rcases List.mem_cons.1 h with rfl | h
    · refine Int.le_trans ?_ (farR_ge r _)
      unfold farS
      rw [if_pos ⟨h1, h8⟩]
      omega
    · exact farR_mem h1 h8 r _ h
theorem farP_mem {base : Int} {x : PrX} {l : List SgX} {s : SgX} (h1 : base < x.1) (h8 : x.1 - base ≤ 8) (hs : s ∈ l) (hx : x ∈ s.2.1.2.2.2.1) : x.1 - base ≤ farP base l := by
  have ge : ∀ (xs : List SgX) (n : Int), n ≤ xs.foldl (farR base) n := by
    intro xs
    induction xs with
    | nil => exact fun n => Int.le_refl _
    | cons s r ih => exact fun n => Int.le_trans (farR_ge _ n) (ih _)
  have key : ∀ (xs : List SgX) (n : Int), s ∈ xs → x.1 - base ≤ xs.foldl (farR base) n := by
    intro xs
    induction xs with
    | nil => exact fun n h => by cases h
    | cons t r ih =>
      intro n h
      rcases List.mem_cons.1 h with rfl | h
      · exact Int.le_trans (farR_mem h1 h8 _ n hx) (ge r _)
      · exact ih _ h
  exact key l 0 hs
/-- What f + 1 honest replicas prepared stands in whatever is chosen. -/
theorem keeps (S : List SgX) (v : Int) (b : List EntX) (isA : SgX → Bool) (hA : ∀ s ∈ S, isA s = true → ((1, v, b, ()) : PrX) ∈ s.2.1.2.2.2.1) (hB : S.length < S.countP isA + 3) (h1 : 1 ≤ S.countP isA)
    (isH : SgX → Bool) (hH : ∀ s ∈ S, isH s = true → ∀ y ∈ s.2.1.2.2.2.2.1, y.1 = 1 → y.2.1 < v ∨ y = (1, v, b, ())) (hL : S.countP (fun s => !isH s) ≤ 1)
    {p : PtX} {bs : List (List EntX)} (h : chooseP S = some (p, bs)) (hp : p.1 = 0) : ∃ es, bs[0]? = some es ∧ sameE es b = true := by
  obtain ⟨s0, hs0, ha0⟩ := List.countP_pos_iff.1 h1
  have hx0 := hA s0 hs0 ha0
  unfold chooseP at h
  cases hb : baseP 2 3 S with
  | none => rw [hb] at h; cases h
  | some p' =>
    rw [hb] at h
    dsimp only at h
    split at h
    · rename_i hall
      cases h
      rw [hp] at hall ⊢
      have hfar : 1 ≤ farP 0 S := farP_mem (base := 0) (x := (1, v, b, ())) (show (0 : Int) < 1 by decide) (show (1 : Int) - 0 ≤ 8 by decide) hs0 hx0
      obtain ⟨k, hk⟩ : ∃ k, (farP 0 S).toNat = k + 1 := ⟨(farP 0 S).toNat - 1, by omega⟩
      rw [hk] at hall ⊢
      have hz : (numsP S 0 (k + 1))[0]? = some (numberP 2 3 S 1) := by
        unfold numsP
        rw [List.getElem?_map, List.getElem?_range (by omega)]
        rfl
      have hok : (numberP 2 3 S 1).2 = true := List.all_eq_true.1 hall _ (List.mem_of_getElem? hz)
      refine ⟨(numberP 2 3 S 1).1, by rw [List.getElem?_map, hz]; rfl, ?_⟩
      unfold numberP at hok ⊢
      cases hbest : bestP 2 3 S 1 with
      | none =>
        rw [hbest] at hok
        simp only [decide_eq_true_eq] at hok
        obtain ⟨s, hs, he, hi⟩ := pigeon (fun s => emptyC 1 s.2.1) isA S (by omega)
        have hx := hA s hs hi
        unfold emptyC at he
        rw [Bool.and_eq_true] at he
        have : (s.2.1.2.2.2.1.any fun y => decide (y.1 = 1)) = true := List.any_eq_true.2 ⟨_, hx, by simp⟩
        rw [this] at he
        exact absurd he.2 (by decide)
      | some q =>
        rw [hbest] at hok
        dsimp only
        obtain ⟨hq1, hst⟩ := bestP_inv hbest
        unfold standsB at hst
        rw [Bool.and_eq_true, decide_eq_true_eq, decide_eq_true_eq] at hst
        obtain ⟨hq3, hk2⟩ := hst
        obtain ⟨s, hs, hqs, hi⟩ := pigeon (fun s => quietC q s.2.1) isA S (by omega)
        have hx := hA s hs hi
        unfold quietC at hqs
        rw [Bool.and_eq_true] at hqs
        have hna : againstP q (1, v, b, ()) = false := by
          cases hag : againstP q (1, v, b, ()) with
          | false => rfl
          | true =>
            rw [List.any_eq_true.2 ⟨_, hx, hag⟩] at hqs
            exact absurd hqs.2 (by decide)
        obtain ⟨t, ht, hkt, hht⟩ := pigeon2 (fun s => knownC q s.2.1) isH S (by omega)
        obtain ⟨y, hy, hky⟩ := List.any_eq_true.1 hkt
        unfold knownP at hky
        rw [Bool.and_eq_true, Bool.and_eq_true, decide_eq_true_eq, decide_eq_true_eq] at hky
        obtain ⟨⟨hy1, hyv⟩, hys⟩ := hky
        have hye := hH t ht hht y hy (by rw [hy1]; exact hq1)
        unfold sameE at *
        rw [decide_eq_true_eq] at hys ⊢
        unfold againstP sameE at hna
        simp only [hq1, decide_true, Bool.true_and, Bool.or_eq_false_iff, decide_eq_false_iff_not, Bool.and_eq_false_iff, Bool.not_eq_false', decide_eq_true_eq] at hna
        obtain ⟨hn1, hn2⟩ := hna
        rcases hye with hlt | rfl
        · omega
        · exact hys.symm
    · cases h
end Go.Proofs.Ytdoaloimndehbaa
