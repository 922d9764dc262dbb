/-
  Sorted rows, rows that differ only in the order of unlike elements, what merges them. Plain.
-/
import Derived.Test.YtmicjjhkoicdnaaGb
namespace Go.Proofs.Ytmicjjhkoicdnaa
open Go.RowKit
set_option maxRecDepth 100000
/-- An order with ties. -/
structure Swo {α : Type} (lt : α → α → Bool) : Prop where
  asy : ∀ x y, lt x y = true → lt y x = false
  inc : ∀ x y z, lt x y = false → lt y z = false → lt x z = false
section
variable {α : Type} {lt : α → α → Bool}
theorem Swo.ir (h : Swo lt) (x : α) : lt x x = false := by
  cases e : lt x x with
  | false => rfl
  | true => have := h.asy x x e; rw [e] at this; exact this
def Srtd (lt : α → α → Bool) (L : List α) : Prop := L.Pairwise fun x y => lt y x = false
def eqvB (lt : α → α → Bool) (z x : α) : Bool := !lt x z && !lt z x
/-- The same elements, alike ones in the same order. -/
def SP (lt : α → α → Bool) (L M : List α) : Prop := L.Perm M ∧ ∀ z, L.filter (eqvB lt z) = M.filter (eqvB lt z)
theorem SP.rfl' (L : List α) : SP lt L L := ⟨.refl _, fun _ => rfl⟩
theorem SP.trans {L M N : List α} (h : SP lt L M) (k : SP lt M N) : SP lt L N := ⟨h.1.trans k.1, fun z => (h.2 z).trans (k.2 z)⟩
theorem SP.symm {L M : List α} (h : SP lt L M) : SP lt M L := ⟨h.1.symm, fun z => (h.2 z).symm⟩
theorem SP.app {L M L' M' : List α} (h : SP lt L M) (k : SP lt L' M') : SP lt (L ++ L') (M ++ M') := ⟨h.1.append k.1, fun z => by rw [List.filter_append, List.filter_append, h.2 z, k.2 z]⟩
theorem SP.swap (ho : Swo lt) {A B : List α} (h : ∀ x ∈ A, ∀ y ∈ B, lt y x = true) : SP lt (A ++ B) (B ++ A) := by
  refine ⟨List.perm_append_comm, fun z => ?_⟩
  rw [List.filter_append, List.filter_append]
  by_cases hA : A.filter (eqvB lt z) = []
  · rw [hA]; simp
  by_cases hB : B.filter (eqvB lt z) = []
  · rw [hB]; simp
  exfalso
  obtain ⟨x, hx⟩ := List.exists_mem_of_ne_nil _ hA
  obtain ⟨y, hy⟩ := List.exists_mem_of_ne_nil _ hB
  obtain ⟨hx, hxz⟩ := List.mem_filter.1 hx
  obtain ⟨hy, hyz⟩ := List.mem_filter.1 hy
  unfold eqvB at hxz hyz
  rw [Bool.and_eq_true, Bool.not_eq_true', Bool.not_eq_true'] at hxz hyz
  have := ho.inc y z x hyz.1 hxz.2
  rw [h x hx y hy] at this
  cases this
theorem srtd_app {A B : List α} : Srtd lt (A ++ B) ↔ Srtd lt A ∧ Srtd lt B ∧ ∀ x ∈ A, ∀ y ∈ B, lt y x = false := List.pairwise_append
/-- Sorted rows with the same elements, alike ones in the same order, are the same. -/
theorem srtd_eq (ho : Swo lt) : ∀ {L M : List α}, Srtd lt L → Srtd lt M → SP lt L M → L = M
  | [], M, _, _, h => (List.nil_perm.1 h.1).symm
  | x :: L, [], _, _, h => absurd h.1.length_eq (by simp)
  | x :: L, y :: M, hL, hM, h => by
    obtain ⟨l1, l2⟩ := List.pairwise_cons.1 hL
    obtain ⟨m1, m2⟩ := List.pairwise_cons.1 hM
    have hxy : lt x y = false := by
      rcases List.mem_cons.1 (h.1.mem_iff.1 List.mem_cons_self) with rfl | hx
      · exact ho.ir x
      · exact m1 x hx
    have hyx : lt y x = false := by
      rcases List.mem_cons.1 (h.1.mem_iff.2 List.mem_cons_self) with rfl | hy
      · exact ho.ir y
      · exact l1 y hy
    have he := h.2 x
    rw [List.filter_cons, List.filter_cons, if_pos (by unfold eqvB; rw [ho.ir]; rfl), if_pos (by unfold eqvB; rw [hxy, hyx]; rfl)] at he
    obtain ⟨rfl, _⟩ := List.cons.inj he
    congr 1
    refine srtd_eq ho l2 m2 ⟨h.1.cons_inv, fun z => ?_⟩
    have h2 := h.2 z
    rw [List.filter_cons, List.filter_cons] at h2
    by_cases hz : eqvB lt z x = true
    · rw [if_pos hz, if_pos hz] at h2
      exact (List.cons.inj h2).2
    · rw [if_neg hz, if_neg hz] at h2
      exact h2
theorem insL_ok (ho : Swo lt) (x : α) : ∀ (n : Nat) (S : List α), S.length = n → Srtd lt S → Srtd lt (insL lt x S) ∧ SP lt (S ++ [x]) (insL lt x S)
  | 0, S, hn, _ => by
    obtain rfl := List.eq_nil_of_length_eq_zero hn
    exact ⟨List.pairwise_singleton _ _, SP.rfl' _⟩
  | n + 1, S, hn, hS => by
    rcases List.eq_nil_or_concat S with rfl | ⟨S', y, rfl⟩
    · cases hn
    rw [List.concat_eq_append] at *
    obtain ⟨s1, s2, s3⟩ := srtd_app.1 hS
    rw [insL_snoc]
    cases hxy : lt x y with
    | true =>
      obtain ⟨i1, i2⟩ := insL_ok ho x n S' (by simpa using hn) s1
      rw [if_pos rfl]
      refine ⟨srtd_app.2 ⟨i1, s2, fun z hz w hw => ?_⟩, ?_⟩
      · obtain rfl := List.mem_singleton.1 hw
        rcases List.mem_append.1 (i2.1.mem_iff.2 hz) with hz | hz
        · exact s3 z hz w (List.mem_singleton.2 rfl)
        · obtain rfl := List.mem_singleton.1 hz
          exact ho.asy _ _ hxy
      · have h1 : SP lt (S' ++ ([y] ++ [x])) (S' ++ ([x] ++ [y])) := (SP.rfl' S').app (SP.swap ho fun a ha b hb => by
          obtain rfl := List.mem_singleton.1 ha
          obtain rfl := List.mem_singleton.1 hb
          exact hxy)
        rw [List.append_assoc]
        refine h1.trans ?_
        rw [← List.append_assoc]
        exact i2.app (SP.rfl' _)
    | false =>
      rw [if_neg (by decide)]
      refine ⟨srtd_app.2 ⟨hS, List.pairwise_singleton _ _, fun z hz w hw => ?_⟩, SP.rfl' _⟩
      obtain rfl := List.mem_singleton.1 hw
      rcases List.mem_append.1 hz with hz | hz
      · exact ho.inc _ _ _ hxy (s3 z hz y (List.mem_singleton.2 rfl))
      · obtain rfl := List.mem_singleton.1 hz
        exact hxy
theorem isortL_ok (ho : Swo lt) (L : List α) : Srtd lt (isortL lt L) ∧ SP lt L (isortL lt L) := by
  have key : ∀ (L S : List α), Srtd lt S → Srtd lt (L.foldl (fun S x => insL lt x S) S) ∧ SP lt (S ++ L) (L.foldl (fun S x => insL lt x S) S) := by
    intro L
    induction L with
    | nil => intro S hS; exact ⟨hS, by rw [List.append_nil]; exact SP.rfl' _⟩
    | cons x L ih =>
      intro S hS
      obtain ⟨i1, i2⟩ := insL_ok ho x S.length S rfl hS
      obtain ⟨j1, j2⟩ := ih _ i1
      refine ⟨j1, ?_⟩
      rw [List.foldl_cons, show S ++ x :: L = (S ++ [x]) ++ L from by simp]
      exact (i2.app (SP.rfl' L)).trans j2
  exact key L [] .nil
/-- Merged: sorted, and the same elements, alike ones in the same order. -/
def Mgd (lt : α → α → Bool) (U W : List α) : Prop := Srtd lt W ∧ SP lt U W
theorem mgd_first (ho : Swo lt) {x : α} {V1 V2 : List α} (hV : Srtd lt (V1 ++ V2)) (h1 : ∀ v ∈ V1, lt v x = true) (h2 : ∀ v ∈ V2, lt v x = false) : Mgd lt ([x] ++ (V1 ++ V2)) (V1 ++ ([x] ++ V2)) := by
  obtain ⟨s1, s2, s3⟩ := srtd_app.1 hV
  refine ⟨srtd_app.2 ⟨s1, srtd_app.2 ⟨List.pairwise_singleton _ _, s2, fun a ha b hb => ?_⟩, fun a ha b hb => ?_⟩, ?_⟩
  · obtain rfl := List.mem_singleton.1 ha
    exact h2 b hb
  · rcases List.mem_append.1 hb with hb | hb
    · obtain rfl := List.mem_singleton.1 hb
      exact ho.asy _ _ (h1 a ha)
    · exact s3 a ha b hb
  · rw [← List.append_assoc, ← List.append_assoc]
    exact (SP.swap ho fun a ha b hb => by obtain rfl := List.mem_singleton.1 ha; exact h1 b hb).app (SP.rfl' _)
theorem mgd_last (ho : Swo lt) {y : α} {U1 U2 : List α} (hU : Srtd lt (U1 ++ U2)) (h1 : ∀ u ∈ U1, lt y u = false) (h2 : ∀ u ∈ U2, lt y u = true) : Mgd lt ((U1 ++ U2) ++ [y]) (U1 ++ ([y] ++ U2)) := by
  obtain ⟨s1, s2, s3⟩ := srtd_app.1 hU
  refine ⟨srtd_app.2 ⟨s1, srtd_app.2 ⟨List.pairwise_singleton _ _, s2, fun a ha b hb => ?_⟩, fun a ha b hb => ?_⟩, ?_⟩
  · obtain rfl := List.mem_singleton.1 ha
    exact ho.asy _ _ (h2 b hb)
  · rcases List.mem_append.1 hb with hb | hb
    · obtain rfl := List.mem_singleton.1 hb
      exact h1 a ha
    · exact s3 a ha b hb
  · rw [List.append_assoc]
    exact (SP.rfl' _).app (SP.swap ho fun a ha b hb => by obtain rfl := List.mem_singleton.1 hb; exact h2 a ha)
theorem mgd_two (ho : Swo lt) {U1 U2 V1 V2 W1 W2 : List α} (hU : Srtd lt (U1 ++ U2)) (hV : Srtd lt (V1 ++ V2)) (h1 : ∀ u ∈ U1, ∀ v ∈ V2, lt v u = false) (h2 : ∀ v ∈ V1, ∀ u ∈ U2, lt v u = true) (m1 : Mgd lt (U1 ++ V1) W1) (m2 : Mgd lt (U2 ++ V2) W2) :
    Mgd lt ((U1 ++ U2) ++ (V1 ++ V2)) (W1 ++ W2) := by
  obtain ⟨u1, u2, u3⟩ := srtd_app.1 hU
  obtain ⟨v1, v2, v3⟩ := srtd_app.1 hV
  refine ⟨srtd_app.2 ⟨m1.1, m2.1, fun a ha b hb => ?_⟩, ?_⟩
  · rcases List.mem_append.1 (m1.2.1.mem_iff.2 ha) with ha | ha <;> rcases List.mem_append.1 (m2.2.1.mem_iff.2 hb) with hb | hb
    · exact u3 a ha b hb
    · exact h1 a ha b hb
    · exact ho.asy _ _ (h2 a ha b hb)
    · exact v3 a ha b hb
  · have hs : SP lt ((U1 ++ U2) ++ (V1 ++ V2)) ((U1 ++ V1) ++ (U2 ++ V2)) := by
      have h := (SP.rfl' (lt := lt) U1).app ((SP.swap ho (A := U2) (B := V1) fun a ha b hb => h2 b hb a ha).app (SP.rfl' (lt := lt) V2))
      simpa [List.append_assoc] using h
    exact hs.trans (m1.2.app m2.2)
/-! where a search ends -/
theorem srtd_at {L : List α} (h : Srtd lt L) {i j : Nat} {x y : α} (hij : i < j) (hx : L[i]? = some x) (hy : L[j]? = some y) : lt y x = false := by
  obtain ⟨h1, rfl⟩ := List.getElem?_eq_some_iff.1 hx
  obtain ⟨h2, rfl⟩ := List.getElem?_eq_some_iff.1 hy
  exact List.pairwise_iff_getElem.1 h i j h1 h2 hij
theorem srtd_le (ho : Swo lt) {L : List α} (h : Srtd lt L) {i j : Nat} {x y : α} (hij : i ≤ j) (hx : L[i]? = some x) (hy : L[j]? = some y) : lt y x = false := by
  by_cases e : i = j
  · subst e; rw [hx] at hy; cases hy; exact ho.ir x
  · exact srtd_at h (by omega) hx hy
end
end Go.Proofs.Ytmicjjhkoicdnaa
