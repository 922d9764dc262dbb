/-
  Who tells digests tells them again: plain laws of roots, paths and climbs. Conditions are typed with each.
  Each leaf is proved, and nothing else: plain laws. Conditions are typed with each.
-/
import Derived.Test.YtohlmhoacjodjaaAf
namespace Go.Proofs.Ytohlmhoacjodjaa
open Go.RowKit
set_option maxRecDepth 100000
/-- Digests once told stay. -/
structure Law (C : Cry) where
  ext : C.σ → C.σ → Prop
  refl : ∀ s, ext s s
  trans : ∀ {a b c}, ext a b → ext b c → ext a c
  anti : ∀ {a b}, ext a b → ext b a → a = b
  step : ∀ s k x, ext s (C.dg s k x).2
  again : ∀ s k x S, ext (C.dg s k x).2 S → C.dg S k x = ((C.dg s k x).1, S)
section
variable {C : Cry} (L : Law C)
theorem root_step : ∀ (n : Nat) (l : List (List UInt8)) (s : C.σ), l.length ≤ n → L.ext s (rootP C s l).2
  | 0, l, s, h => by
    obtain rfl := List.eq_nil_of_length_eq_zero (show l.length = 0 by omega)
    exact L.step s 107 []
  | n + 1, l, s, h => by
    match l with
    | [] => exact L.step s 107 []
    | [x] => exact L.step s 105 x
    | x :: y :: r =>
      rw [rootP_2 C s _ (by simp)]
      obtain ⟨hp, hl⟩ := halfP_lt (n := (x :: y :: r).length) (by simp)
      generalize x :: y :: r = l at *
      have a1 := root_step n (l.take (halfP l.length)) s (by rw [List.length_take]; omega)
      have a2 := root_step n (l.drop (halfP l.length)) (rootP C s (l.take (halfP l.length))).2 (by rw [List.length_drop]; omega)
      exact L.trans a1 (L.trans a2 (L.step _ _ _))
theorem root_again : ∀ (n : Nat) (l : List (List UInt8)) (s S : C.σ), l.length ≤ n → L.ext (rootP C s l).2 S → rootP C S l = ((rootP C s l).1, S)
  | 0, l, s, S, h, hS => by
    obtain rfl := List.eq_nil_of_length_eq_zero (show l.length = 0 by omega)
    exact L.again s 107 [] S hS
  | n + 1, l, s, S, h, hS => by
    match l with
    | [] => exact L.again s 107 [] S hS
    | [x] => exact L.again s 105 x S hS
    | x :: y :: r =>
      rw [rootP_2 C s _ (by simp)] at hS ⊢
      rw [rootP_2 C S _ (by simp)]
      obtain ⟨hp, hl⟩ := halfP_lt (n := (x :: y :: r).length) (by simp)
      generalize x :: y :: r = l at *
      have k1 : (l.take (halfP l.length)).length ≤ n := by rw [List.length_take]; omega
      have k2 : (l.drop (halfP l.length)).length ≤ n := by rw [List.length_drop]; omega
      have e2 := L.trans (L.step _ _ _) hS
      have e1 := L.trans (root_step L n (l.drop (halfP l.length)) (rootP C s (l.take (halfP l.length))).2 k2) e2
      rw [root_again n _ s S k1 e1]
      dsimp only
      rw [root_again n _ (rootP C s (l.take (halfP l.length))).2 S k2 e2]
      dsimp only
      exact L.again _ _ _ S hS
/-- All digests below the root were told. -/
def Knows (C : Cry) (S : C.σ) (l : List (List UInt8)) : Prop := (rootP C S l).2 = S
theorem knows_of {l : List (List UInt8)} {s S : C.σ} (h : L.ext (rootP C s l).2 S) : Knows C S l ∧ (rootP C S l).1 = (rootP C s l).1 := by
  have := root_again L _ l s S (Nat.le_refl _) h
  unfold Knows
  rw [this]
  exact ⟨rfl, rfl⟩
include L in
theorem knows_split {l : List (List UInt8)} {S : C.σ} (h2 : 2 ≤ l.length) (h : Knows C S l) : Knows C S (l.take (halfP l.length)) ∧ Knows C S (l.drop (halfP l.length)) ∧ C.dg S 106 ((rootP C S (l.take (halfP l.length))).1 ++ (rootP C S (l.drop (halfP l.length))).1) = ((rootP C S l).1, S) := by
  unfold Knows at *
  have e := rootP_2 C S l h2
  have a1 := root_step L _ (l.take (halfP l.length)) S (Nat.le_refl _)
  have a2 := root_step L _ (l.drop (halfP l.length)) (rootP C S (l.take (halfP l.length))).2 (Nat.le_refl _)
  have a3 := L.step (rootP C (rootP C S (l.take (halfP l.length))).2 (l.drop (halfP l.length))).2 106 ((rootP C S (l.take (halfP l.length))).1 ++ (rootP C (rootP C S (l.take (halfP l.length))).2 (l.drop (halfP l.length))).1)
  rw [e] at h
  have b3 : L.ext (pairD C (rootP C (rootP C S (l.take (halfP l.length))).2 (l.drop (halfP l.length))).2 (rootP C S (l.take (halfP l.length))).1 (rootP C (rootP C S (l.take (halfP l.length))).2 (l.drop (halfP l.length))).1).2 S := by rw [h]; exact L.refl S
  have c1 : (rootP C S (l.take (halfP l.length))).2 = S := L.anti (L.trans a2 (L.trans a3 b3)) a1
  rw [c1] at a2 a3 b3 e h
  have c2 : (rootP C S (l.drop (halfP l.length))).2 = S := L.anti (L.trans a3 b3) a2
  rw [c2] at e h
  refine ⟨c1, c2, ?_⟩
  rw [e]
  exact Prod.ext rfl h
include L in
theorem down_knows : ∀ (n : Nat) (l : List (List UInt8)) (S : C.σ) (i : Nat), l.length ≤ n → Knows C S l → (downP C S l i).2 = S
  | 0, l, S, i, h, _ => by rw [downP_1 C S l i (by omega)]
  | n + 1, l, S, i, h, hk => by
    by_cases h1 : l.length ≤ 1
    · rw [downP_1 C S l i h1]
    · obtain ⟨hp, hl⟩ := halfP_lt (n := l.length) (by omega)
      obtain ⟨k1, k2, _⟩ := knows_split L (by omega) hk
      by_cases hi : i < halfP l.length
      · rw [downP_l C S l i (by omega) hi]
        dsimp only
        rw [k2]
        exact down_knows n _ S i (by rw [List.length_take]; omega) k1
      · rw [downP_r C S l i (by omega) hi]
        dsimp only
        rw [k1]
        exact down_knows n _ S _ (by rw [List.length_drop]; omega) k2
include L in
theorem down_kl {l : List (List UInt8)} {S : C.σ} {i : Nat} (h2 : 2 ≤ l.length) (hk : Knows C S l) (hi : i < halfP l.length) : (downP C S l i).1 = (rootP C S (l.drop (halfP l.length))).1 :: (downP C S (l.take (halfP l.length)) i).1 := by
  obtain ⟨k1, k2, _⟩ := knows_split L h2 hk
  rw [downP_l C S l i h2 hi]
  dsimp only
  rw [k2]
include L in
theorem down_kr {l : List (List UInt8)} {S : C.σ} {i : Nat} (h2 : 2 ≤ l.length) (hk : Knows C S l) (hi : ¬ i < halfP l.length) : (downP C S l i).1 = (rootP C S (l.take (halfP l.length))).1 :: (downP C S (l.drop (halfP l.length)) (i - halfP l.length)).1 := by
  obtain ⟨k1, k2, _⟩ := knows_split L h2 hk
  rw [downP_r C S l i h2 hi]
  dsimp only
  rw [k1]
theorem down_len (C : Cry) : ∀ (n : Nat) (l : List (List UInt8)) (s : C.σ) (i : Nat), l.length ≤ n → (downP C s l i).1.length = (turnsP l.length i).length
  | 0, l, s, i, h => by rw [downP_1 C s l i (by omega), turnsP_1 i (by omega)]; rfl
  | n + 1, l, s, i, h => by
    by_cases h1 : l.length ≤ 1
    · rw [downP_1 C s l i h1, turnsP_1 i h1]; rfl
    · obtain ⟨hp, hl⟩ := halfP_lt (n := l.length) (by omega)
      have l1 : (l.take (halfP l.length)).length = halfP l.length := by rw [List.length_take]; omega
      have l2 : (l.drop (halfP l.length)).length = l.length - halfP l.length := by rw [List.length_drop]
      by_cases hi : i < halfP l.length
      · rw [downP_l C s l i (by omega) hi, turnsP_l (by omega) hi]
        dsimp only
        rw [List.length_cons, List.length_cons, down_len C n _ _ i (by rw [l1]; omega), l1]
      · rw [downP_r C s l i (by omega) hi, turnsP_r (by omega) hi]
        dsimp only
        rw [List.length_cons, List.length_cons, down_len C n _ _ _ (by rw [l2]; omega), l2]
/-! climbs -/
theorem up_step (r : List (List UInt8 × Bool)) : ∀ (s : C.σ) (d : List UInt8), L.ext s (upF C s d r).2 := by
  induction r with
  | nil => intro s d; exact L.refl s
  | cons p r ih =>
    intro s d
    obtain ⟨b, w⟩ := p
    unfold upF
    refine L.trans ?_ (ih _ _)
    cases w <;> exact L.step _ _ _
theorem up_again (r : List (List UInt8 × Bool)) : ∀ (s S : C.σ) (d : List UInt8), L.ext (upF C s d r).2 S → upF C S d r = ((upF C s d r).1, S) := by
  induction r with
  | nil => intro s S d _; rfl
  | cons p r ih =>
    intro s S d h
    obtain ⟨b, w⟩ := p
    unfold upF at h ⊢
    dsimp only at h ⊢
    have h1 := L.trans (up_step L r _ _) h
    cases w with
    | true =>
      rw [if_pos rfl] at h h1 ⊢
      have e : pairD C S b d = ((pairD C s b d).1, S) := L.again s 106 (b ++ d) S h1
      rw [if_pos rfl, e]
      exact ih _ S _ h
    | false =>
      rw [if_neg (by decide)] at h h1 ⊢
      have e : pairD C S d b = ((pairD C s d b).1, S) := L.again s 106 (d ++ b) S h1
      rw [if_neg (by decide), e]
      exact ih _ S _ h
theorem climb_step (s : C.σ) (n i : Nat) (leaf : List UInt8) (path : List (List UInt8)) : L.ext s (climbP C s n i leaf path).2 := by
  unfold climbP
  split
  · exact L.trans (L.step _ _ _) (up_step L _ _ _)
  · exact L.refl s
theorem climb_again (s S : C.σ) (n i : Nat) (leaf : List UInt8) (path : List (List UInt8)) (h : L.ext (climbP C s n i leaf path).2 S) : climbP C S n i leaf path = ((climbP C s n i leaf path).1, S) := by
  unfold climbP at h ⊢
  split
  · rename_i hl
    rw [if_pos hl] at h
    dsimp only at h ⊢
    have h1 := L.trans (up_step L _ _ _) h
    rw [L.again s 105 leaf S h1]
    dsimp only
    rw [up_again L _ _ S _ h]
  · rfl
/-- A climb of a path whose topmost stands last. -/
theorem climb_top (s : C.σ) {n i : Nat} (leaf : List UInt8) (rest : List (List UInt8)) (last : List UInt8) (h2 : 2 ≤ n) (hl : (turnsP n i).length = (rest ++ [last]).length) :
    climbP C s n i leaf (rest ++ [last]) = if i < halfP n then (some (pairD C (climbP C s (halfP n) i leaf rest).2 (climbV (climbP C s (halfP n) i leaf rest).1) last).1, (pairD C (climbP C s (halfP n) i leaf rest).2 (climbV (climbP C s (halfP n) i leaf rest).1) last).2)
      else (some (pairD C (climbP C s (n - halfP n) (i - halfP n) leaf rest).2 last (climbV (climbP C s (n - halfP n) (i - halfP n) leaf rest).1)).1, (pairD C (climbP C s (n - halfP n) (i - halfP n) leaf rest).2 last (climbV (climbP C s (n - halfP n) (i - halfP n) leaf rest).1)).2) := by
  by_cases hi : i < halfP n
  · rw [if_pos hi]
    have ht := turnsP_l h2 hi
    rw [ht, List.length_cons, List.length_append, List.length_singleton] at hl
    have hl2 : (turnsP (halfP n) i).length = rest.length := by omega
    unfold climbP
    rw [if_pos hl2, if_pos (by rw [ht, List.length_cons, List.length_append, List.length_singleton]; omega), ht, List.reverse_cons, List.zip_append (by rw [List.length_reverse]; omega)]
    dsimp only [climbV]
    rw [show List.zip [last] [false] = [(last, false)] from rfl, upF_snoc]
    rfl
  · rw [if_neg hi]
    have ht := turnsP_r h2 hi
    rw [ht, List.length_cons, List.length_append, List.length_singleton] at hl
    have hl2 : (turnsP (n - halfP n) (i - halfP n)).length = rest.length := by omega
    unfold climbP
    rw [if_pos hl2, if_pos (by rw [ht, List.length_cons, List.length_append, List.length_singleton]; omega), ht, List.reverse_cons, List.zip_append (by rw [List.length_reverse]; omega)]
    dsimp only [climbV]
    rw [show List.zip [last] [true] = [(last, true)] from rfl, upF_snoc]
    rfl
end
end Go.Proofs.Ytohlmhoacjodjaa
namespace Go.Proofs.Ytohlmhoacjodjaa
open Go.RowKit
set_option maxRecDepth 100000
section
variable {C : Cry} (L : Law C)
theorem getD_take {α : Type} {l : List α} {i h : Nat} {d : α} (hi : i < h) : (l.take h).getD i d = l.getD i d := by
  rw [List.getD_eq_getElem?_getD, List.getD_eq_getElem?_getD, List.getElem?_take_of_lt hi]
theorem getD_drop {α : Type} {l : List α} {i h : Nat} {d : α} (hi : ¬ i < h) : (l.drop h).getD (i - h) d = l.getD i d := by
  rw [List.getD_eq_getElem?_getD, List.getD_eq_getElem?_getD, List.getElem?_drop, show h + (i - h) = i from by omega]
include L in
theorem proves : ∀ (n : Nat) (l : List (List UInt8)) (T : C.σ) (i : Nat), l.length ≤ n → i < l.length → Knows C T l → climbP C T l.length i (l.getD i []) (downP C T l i).1.reverse = (some (rootP C T l).1, T)
  | 0, l, T, i, h, hi, _ => absurd hi (by omega)
  | n + 1, l, T, i, h, hi, hk => by
    by_cases h1 : l.length ≤ 1
    · obtain ⟨x, rfl⟩ := List.length_eq_one_iff.1 (show l.length = 1 by omega)
      obtain rfl : i = 0 := by simpa using hi
      rw [downP_1 C T [x] 0 h1]
      unfold Knows at hk
      have e : climbP C T 1 0 x [] = (some (C.dg T 105 x).1, (C.dg T 105 x).2) := by
        unfold climbP
        rw [if_pos (by rw [turnsP_1 0 (by omega)]; rfl), turnsP_1 0 (by omega)]
        rfl
      show climbP C T 1 0 x [] = _
      rw [e]
      exact Prod.ext rfl hk
    · obtain ⟨hp, hl⟩ := halfP_lt (n := l.length) (by omega)
      have l1 : (l.take (halfP l.length)).length = halfP l.length := by rw [List.length_take]; omega
      have l2 : (l.drop (halfP l.length)).length = l.length - halfP l.length := by rw [List.length_drop]
      obtain ⟨k1, k2, k3⟩ := knows_split L (by omega) hk
      have hlen := down_len C _ l T i (Nat.le_refl _)
      by_cases hh : i < halfP l.length
      · have ih := proves n _ T i (by rw [l1]; omega) (by rw [l1]; exact hh) k1
        rw [l1, getD_take hh] at ih
        rw [down_kl L (by omega) hk hh, List.reverse_cons]
        rw [down_kl L (by omega) hk hh, List.length_cons] at hlen
        rw [climb_top T _ _ _ (by omega) (by rw [List.length_append, List.length_reverse, List.length_singleton]; omega), if_pos hh, ih]
        dsimp only [climbV]
        unfold pairD
        rw [k3]
      · have ih := proves n _ T (i - halfP l.length) (by rw [l2]; omega) (by rw [l2]; omega) k2
        rw [l2, getD_drop hh] at ih
        rw [down_kr L (by omega) hk hh, List.reverse_cons]
        rw [down_kr L (by omega) hk hh, List.length_cons] at hlen
        rw [climb_top T _ _ _ (by omega) (by rw [List.length_append, List.length_reverse, List.length_singleton]; omega), if_neg hh, ih]
        dsimp only [climbV]
        unfold pairD
        rw [k3]
/-- Different texts have different digests. -/
def Inj (C : Cry) (T : C.σ) : Prop := ∀ (k : Int) (x y : List UInt8) (d : List UInt8), C.dg T k x = (d, T) → C.dg T k y = (d, T) → x = y
theorem climb_some {s : C.σ} {n i : Nat} {leaf : List UInt8} {path : List (List UInt8)} (h : (turnsP n i).length = path.length) : (climbP C s n i leaf path).1 = some (climbV (climbP C s n i leaf path).1) := by
  unfold climbP
  rw [if_pos h]
  rfl
include L in
theorem sure : ∀ (n : Nat) (l : List (List UInt8)) (T : C.σ) (i : Nat) (leaf : List UInt8) (path : List (List UInt8)), l.length ≤ n → i < l.length → Knows C T l → Inj C T → D32 path → (turnsP l.length i).length = path.length → climbP C T l.length i leaf path = (some (rootP C T l).1, T) → leaf = l.getD i [] ∧ path = (downP C T l i).1.reverse
  | 0, l, T, i, _, _, h, hi, _, _, _, _, _ => absurd hi (by omega)
  | n + 1, l, T, i, leaf, path, h, hi, hk, hj, h32, hpl, hc => by
    by_cases h1 : l.length ≤ 1
    · obtain ⟨x, rfl⟩ := List.length_eq_one_iff.1 (show l.length = 1 by omega)
      obtain rfl : i = 0 := by simpa using hi
      rw [turnsP_1 0 h1] at hpl
      obtain rfl := List.eq_nil_of_length_eq_zero hpl.symm
      rw [downP_1 C T [x] 0 h1]
      unfold Knows at hk
      have e : climbP C T 1 0 leaf [] = (some (C.dg T 105 leaf).1, (C.dg T 105 leaf).2) := by
        unfold climbP
        rw [if_pos (by rw [turnsP_1 0 (by omega)]; rfl), turnsP_1 0 (by omega)]
        rfl
      replace hc : climbP C T 1 0 leaf [] = _ := hc
      rw [e] at hc
      have c1 := (Prod.ext_iff.1 hc).1
      have c2 := (Prod.ext_iff.1 hc).2
      dsimp only at c1 c2
      refine ⟨?_, rfl⟩
      exact hj 105 leaf x _ (Prod.ext (Option.some.inj c1) c2) (Prod.ext rfl hk)
    · obtain ⟨hp, hl⟩ := halfP_lt (n := l.length) (by omega)
      have l1 : (l.take (halfP l.length)).length = halfP l.length := by rw [List.length_take]; omega
      have l2 : (l.drop (halfP l.length)).length = l.length - halfP l.length := by rw [List.length_drop]
      obtain ⟨k1, k2, k3⟩ := knows_split L (by omega) hk
      have hne : path ≠ [] := by
        rintro rfl
        by_cases hh : i < halfP l.length
        · rw [turnsP_l (by omega) hh] at hpl; cases hpl
        · rw [turnsP_r (by omega) hh] at hpl; cases hpl
      obtain ⟨rest, last, rfl⟩ : ∃ rest last, path = rest ++ [last] := ⟨path.dropLast, path.getLast hne, (List.dropLast_concat_getLast hne).symm⟩
      have h32r : D32 rest := fun d hd => h32 d (List.mem_append_left _ hd)
      have hlast : last.length = 32 := h32 last (by simp)
      rw [climb_top T leaf rest last (by omega) hpl] at hc
      by_cases hh : i < halfP l.length
      · have hpr : (turnsP (halfP l.length) i).length = rest.length := by
          rw [turnsP_l (by omega) hh, List.length_cons, List.length_append, List.length_singleton] at hpl
          omega
        rw [if_pos hh] at hc
        have c1 := Option.some.inj (Prod.ext_iff.1 hc).1
        have c2 := (Prod.ext_iff.1 hc).2
        dsimp only at c1 c2
        have q1 := climb_step L T (halfP l.length) i leaf rest
        have q2 := L.step (climbP C T (halfP l.length) i leaf rest).2 106 (climbV (climbP C T (halfP l.length) i leaf rest).1 ++ last)
        have q3 : (climbP C T (halfP l.length) i leaf rest).2 = T := L.anti (by unfold pairD at c2; rw [c2] at q2; exact q2) q1
        have hd := climb_len C T (halfP l.length) i leaf rest
        rw [u8s_len] at hd
        unfold pairD at c1 c2
        rw [q3] at c1 c2
        have hx := hj 106 _ _ _ (Prod.ext c1 c2) k3
        obtain ⟨e1, e2⟩ := List.append_inj hx (by rw [hd, rootP_len])
        have ih := sure n _ T i leaf rest (by rw [l1]; omega) (by rw [l1]; exact hh) k1 hj h32r (by rw [l1]; exact hpr) (by rw [l1]; exact Prod.ext (by rw [climb_some hpr, e1]) q3)
        rw [getD_take hh] at ih
        refine ⟨ih.1, ?_⟩
        rw [down_kl L (by omega) hk hh, List.reverse_cons, ← ih.2, e2]
      · have hpr : (turnsP (l.length - halfP l.length) (i - halfP l.length)).length = rest.length := by
          rw [turnsP_r (by omega) hh, List.length_cons, List.length_append, List.length_singleton] at hpl
          omega
        rw [if_neg hh] at hc
        have c1 := Option.some.inj (Prod.ext_iff.1 hc).1
        have c2 := (Prod.ext_iff.1 hc).2
        dsimp only at c1 c2
        have q1 := climb_step L T (l.length - halfP l.length) (i - halfP l.length) leaf rest
        have q2 := L.step (climbP C T (l.length - halfP l.length) (i - halfP l.length) leaf rest).2 106 (last ++ climbV (climbP C T (l.length - halfP l.length) (i - halfP l.length) leaf rest).1)
        have q3 : (climbP C T (l.length - halfP l.length) (i - halfP l.length) leaf rest).2 = T := L.anti (by unfold pairD at c2; rw [c2] at q2; exact q2) q1
        unfold pairD at c1 c2
        rw [q3] at c1 c2
        have hx := hj 106 _ _ _ (Prod.ext c1 c2) k3
        obtain ⟨e1, e2⟩ := List.append_inj hx (by rw [hlast, rootP_len])
        have ih := sure n _ T (i - halfP l.length) leaf rest (by rw [l2]; omega) (by rw [l2]; omega) k2 hj h32r (by rw [l2]; exact hpr) (by rw [l2]; exact Prod.ext (by rw [climb_some hpr, e2]) q3)
        rw [getD_drop hh] at ih
        refine ⟨ih.1, ?_⟩
        rw [down_kr L (by omega) hk hh, List.reverse_cons, ← ih.2, e1]
include L in
theorem chk_true {l : List (List UInt8)} {T : C.σ} {i : Nat} (hi : i < l.length) (hk : Knows C T l) : chkP C T (rootP C T l).1 l.length i (l.getD i []) (downP C T l i).1.reverse = true ∧ (climbP C T l.length i (l.getD i []) (downP C T l i).1.reverse).2 = T := by
  have h := proves L _ l T i (Nat.le_refl _) hi hk
  unfold chkP
  rw [h]
  exact ⟨decide_eq_true rfl, rfl⟩
include L in
theorem chk_sure {l : List (List UInt8)} {S : C.σ} {i : Nat} {leaf : List UInt8} {path : List (List UInt8)} (hi : i < l.length) (hk : Knows C S l) (hj : ∀ T, L.ext S T → C.room T ≤ 90000 → Inj C T) (hr : C.room (climbP C S l.length i leaf path).2 ≤ 90000) (h32 : D32 path) :
    chkP C S (rootP C S l).1 l.length i leaf path = decide (leaf = l.getD i [] ∧ path = (downP C S l i).1.reverse) := by
  unfold chkP
  congr 1
  refine propext ⟨fun h => ?_, fun ⟨h1, h2⟩ => ?_⟩
  · have hpl : (turnsP l.length i).length = path.length := by
      by_cases hh : (turnsP l.length i).length = path.length
      · exact hh
      · unfold climbP at h
        rw [if_neg hh] at h
        cases h
    have hx := climb_step L S l.length i leaf path
    obtain ⟨kT, eT⟩ := knows_of L (l := l) (s := S) (S := (climbP C S l.length i leaf path).2) (by rw [show (rootP C S l).2 = S from hk]; exact hx)
    have hc := climb_again L S _ l.length i leaf path (L.refl (climbP C S l.length i leaf path).2)
    have hp0 := proves L _ l S i (Nat.le_refl _) hi hk
    have hp := climb_again L S (climbP C S l.length i leaf path).2 l.length i (l.getD i []) (downP C S l i).1.reverse (by rw [hp0]; exact hx)
    rw [hp0] at hp
    rw [h] at hc
    have hjT := hj _ hx hr
    generalize (climbP C S l.length i leaf path).2 = T at *
    rw [← eT] at hc hp
    obtain ⟨a1, a2⟩ := sure L _ l T i leaf path (Nat.le_refl _) hi kT hjT h32 hpl hc
    have hd32 : D32 (downP C S l i).1.reverse := fun d hd => downP_32 C _ S l i (Nat.le_refl _) d (List.mem_reverse.1 hd)
    obtain ⟨_, b2⟩ := sure L _ l T i _ _ (Nat.le_refl _) hi kT hjT hd32 (by rw [List.length_reverse, down_len C _ l S i (Nat.le_refl _)]) hp
    exact ⟨a1, by rw [a2, b2]⟩
  · rw [h1, h2, proves L _ l S i (Nat.le_refl _) hi hk]
end
theorem place_again {α : Type} [DecidableEq α] {s S : List α} {k : α} (h : ∃ t, S = (placeP s k).2 ++ t) : placeP S k = ((placeP s k).1, S) := by
  obtain ⟨t, rfl⟩ := h
  have := posN_app _ t _ (placeP_pos s k)
  unfold placeP at this ⊢
  rw [this]
theorem pre_refl {α : Type} (s : List α) : ∃ t, s = s ++ t := ⟨[], by simp⟩
theorem pre_trans {α : Type} {a b c : List α} (h : ∃ t, b = a ++ t) (h' : ∃ t, c = b ++ t) : ∃ t, c = a ++ t := by
  obtain ⟨t, rfl⟩ := h
  obtain ⟨u, rfl⟩ := h'
  exact ⟨t ++ u, by rw [List.append_assoc]⟩
theorem pre_anti {α : Type} {a b : List α} (h : ∃ t, b = a ++ t) (h' : ∃ t, a = b ++ t) : a = b := by
  obtain ⟨t, rfl⟩ := h
  obtain ⟨u, e⟩ := h'
  rw [List.append_assoc] at e
  have : t ++ u = [] := by
    have := congrArg List.length e
    rw [List.length_append] at this
    exact List.eq_nil_of_length_eq_zero (by omega)
  rw [(List.append_eq_nil_iff.1 this).1, List.append_nil]
def bookL (b m : Nat) (tg : Value) : Law (bookC b m tg) where
  ext := fun (s S : List Hk) => ∃ t, S = s ++ t
  refl := pre_refl
  trans := pre_trans
  anti := pre_anti
  step := fun s k x => by
    obtain ⟨t, h, _⟩ := placeP_ext s (k, x)
    exact ⟨t, h⟩
  again := fun s k x S h => by
    have e := place_again (k := ((k, x) : Hk)) h
    show (bkD S (k, x), (placeP S (k, x)).2) = _
    unfold bkD
    rw [e]
    rfl
theorem climb_room (C : Cry) (s : C.σ) (n i : Nat) (leaf : List UInt8) (path : List (List UInt8)) : C.room (climbP C s n i leaf path).2 ≤ C.room s + path.length + 1 := by
  unfold climbP
  split
  · have h1 := upF_room C (path.zip (turnsP n i).reverse) (C.dg s 105 leaf).2 (C.dg s 105 leaf).1
    have h2 := C.grow s 105 leaf
    have h3 : (path.zip (turnsP n i).reverse).length ≤ path.length := by rw [List.length_zip]; omega
    dsimp only
    omega
  · dsimp only; omega
end Go.Proofs.Ytohlmhoacjodjaa
