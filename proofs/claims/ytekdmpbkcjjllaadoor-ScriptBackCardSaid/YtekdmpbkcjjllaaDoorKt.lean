/-
  Rows by their elements; where the first wanted one is. Plain theorems over any program; no condition.
-/
import Derived.Test.YtekdmpbkcjjllaaDoorKw
namespace Go.Proofs.YtekdmpbkcjjllaaDoor
open Go.RowKit
theorem lay_pre : ∀ (p : List Value) {i : Nat} {vs r s : List Value}, Lay i vs r s → Lay (p.length + i) vs (p ++ r) (p ++ s)
  | [], i, vs, r, s, h => by simpa using h
  | x :: p, i, vs, r, s, h => by
    have := lay_pre p h
    rw [List.length_cons, show p.length + 1 + i = p.length + i + 1 from by omega]
    exact .skip this
theorem lay_mid : ∀ {vs zs : List Value} (r : List Value), vs.length = zs.length → Lay 0 vs (zs ++ r) (vs ++ r)
  | [], [], _, _ => .nil
  | v :: vs, z :: zs, r, h => .put (lay_mid r (by simpa using h))
section
variable {α : Type} {cs : α → List Value} {m : Nat}
/-- A row's cells. -/
def rowC (cs : α → List Value) (L : List α) : List Value := (L.map cs).flatten
theorem rowC_append (L M : List α) : rowC cs (L ++ M) = rowC cs L ++ rowC cs M := by simp [rowC]
theorem rowC_len (hm : ∀ x, (cs x).length = m) (L : List α) : (rowC cs L).length = L.length * m := by
  unfold rowC
  rw [flat_len (n := m) (fun c hc => by obtain ⟨x, _, rfl⟩ := List.mem_map.1 hc; exact hm x), List.length_map]
theorem lay_row (hm : ∀ x, (cs x).length = m) (z : α) : ∀ (L : List α) (j : Nat), j < L.length → Lay (j * m) (cs z) (rowC cs L) (rowC cs (L.set j z))
  | [], _, h => absurd h (by simp)
  | x :: L, 0, _ => by
    rw [Nat.zero_mul]
    exact lay_mid (rowC cs L) (by rw [hm, hm])
  | x :: L, j + 1, h => by
    have := lay_pre (cs x) (lay_row hm z L j (by simpa using h))
    rw [hm, show m + j * m = (j + 1) * m from by rw [Nat.succ_mul]; omega] at this
    exact this
theorem rowC_at (hm : ∀ x, (cs x).length = m) {L : List α} {j : Nat} {z : α} (h : L[j]? = some z) : ((rowC cs L).drop (j * m)).take m = cs z :=
  flat_at (fun c hc => by obtain ⟨x, _, rfl⟩ := List.mem_map.1 hc; exact hm x) (by rw [List.getElem?_map, h]; rfl)
/-- What stands at a place of a row of the call's own. -/
theorem rdb_row {F : PH} {H Hr : List Asrt} {b n c j : Nat} {E : TypeId} {L : List α} {z : α} (p : Pick (own (.slice (some ⟨b, 0, none⟩) n c) E m n (rowC cs L)) H Hr) (hm : ∀ x, (cs x).length = m) (h : L[j]? = some z) : Rdb F H b (0 + j * m) (cs z) := by
  have := Rdb.take (own_rdb (F := F) p) (j * m) m
  rwa [rowC_at hm h] at this
end
theorem drop_cons {α : Type} {xs : List α} {i : Nat} {x : α} (h : xs[i]? = some x) : xs.drop i = x :: xs.drop (i + 1) := by
  obtain ⟨hlt, rfl⟩ := List.getElem?_eq_some_iff.1 h
  exact List.drop_eq_getElem_cons hlt
/-- Where the first one is, from n on; -1: none. -/
def idxP {α : Type} (h : α → Bool) : List α → Int → Int
  | [], _ => -1
  | y :: r, n => if h y then n else idxP h r (n + 1)
theorem idxP_cons {α : Type} (h : α → Bool) (y : α) (r : List α) (n : Int) : idxP h (y :: r) n = if h y then n else idxP h r (n + 1) := rfl
theorem idxP_nil {α : Type} (h : α → Bool) (n : Int) : idxP h [] n = -1 := rfl
theorem idxP_nn {α : Type} (h : α → Bool) : ∀ (ys : List α) (n : Int), 0 ≤ n → decide (0 ≤ idxP h ys n) = ys.any h
  | [], n, hn => by simp [idxP]
  | y :: r, n, hn => by
    unfold idxP
    cases hy : h y with
    | true => simp [hy, hn]
    | false => simp [hy]; simpa using idxP_nn h r (n + 1) (by omega)
theorem idx_split {α : Type} (h : α → Bool) : ∀ (L : List α) (n : Int), (idxP h L n = -1 ∧ ∀ y ∈ L, h y = false) ∨ ∃ A y B, L = A ++ y :: B ∧ idxP h L n = n + A.length ∧ h y = true ∧ ∀ z ∈ A, h z = false
  | [], n => .inl ⟨rfl, fun _ h => nomatch h⟩
  | y :: r, n => by
    rw [idxP_cons]
    cases hy : h y with
    | true => exact .inr ⟨[], y, r, rfl, by simp, hy, fun _ h => nomatch h⟩
    | false =>
      rw [if_neg (by decide)]
      rcases idx_split h r (n + 1) with ⟨e, ha⟩ | ⟨A, z, B, rfl, e, hz, ha⟩
      · exact .inl ⟨e, fun w hw => by rcases List.mem_cons.1 hw with rfl | hw; exact hy; exact ha w hw⟩
      · exact .inr ⟨y :: A, z, B, rfl, by rw [e, List.length_cons]; omega, hz, fun w hw => by rcases List.mem_cons.1 hw with rfl | hw; exact hy; exact ha w hw⟩
end Go.Proofs.YtekdmpbkcjjllaaDoor
