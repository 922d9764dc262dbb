/-
  Go's stable sort of rows of at most 20, element by element. Conditions are typed with each. (Printed by wip/gen/gb.py.)
-/
import Derived.Test.YtmicjjhkoicdnaaLb
import Derived.Test.YtmicjjhkoicdnaaKw
import Derived.Test.YtmicjjhkoicdnaaProg
namespace Go.Proofs.Ytmicjjhkoicdnaa
open Go.RowKit
set_option maxRecDepth 100000
theorem J_end {P : Program} {fn : Func} {N : Nat} {w0 : World} {l : Env} {F F0 : PH} {H X : List Asrt} {Q : Value → PH → List Asrt → Prop} (hres : fn.results = #[]) (H' : List Asrt) (hH : ∀ w, Sat F H w → Sat F (H' ++ X) w) (hF : F0.le F) (hQ : Q (.tuple #[]) F H') :
    J ⟨P, fn, Post w0 F0 X Q, N, w0⟩ [] l F H := by
  unfold J
  intro a w ha hm hs
  exact ⟨ha.defers, _, results_run ha hs (rs := []) (vs := []) (by simp [hres]) .nil, ⟨_, F, H', rfl, hF, hQ, hm, hH w hs⟩⟩
theorem jz {C : Ctx} {k : List KItem} {l : Env} {F : PH} {H : List Asrt} (e : kgo 60 l k = []) (h : J C [] l F H) : J C k l F H := J_kgo 60 k (by rw [e]; exact h)
theorem lay_pre : ∀ (p : List Value) {i : Nat} {vs r s : List Value}, Lay i vs r s → Lay (p.length + i) vs (p ++ r) (p ++ s)
  | [], i, vs, r, s, h => by simpa using h
  | x :: p, i, vs, r, s, h => by
    have := lay_pre p h
    rw [List.length_cons, show p.length + 1 + i = p.length + i + 1 from by omega]
    exact .skip this
theorem lay_mid : ∀ {vs zs : List Value} (r : List Value), vs.length = zs.length → Lay 0 vs (zs ++ r) (vs ++ r)
  | [], [], _, _ => .nil
  | v :: vs, z :: zs, r, h => .put (lay_mid r (by simpa using h))
section
variable {α : Type} {cs : α → List Value} {m : Nat}
/-- A row's cells. -/
def rowC (cs : α → List Value) (L : List α) : List Value := (L.map cs).flatten
theorem rowC_append (L M : List α) : rowC cs (L ++ M) = rowC cs L ++ rowC cs M := by simp [rowC]
theorem rowC_len (hm : ∀ x, (cs x).length = m) (L : List α) : (rowC cs L).length = L.length * m := by
  unfold rowC
  rw [flat_len (n := m) (fun c hc => by obtain ⟨x, _, rfl⟩ := List.mem_map.1 hc; exact hm x), List.length_map]
theorem lay_row (hm : ∀ x, (cs x).length = m) (z : α) : ∀ (L : List α) (j : Nat), j < L.length → Lay (j * m) (cs z) (rowC cs L) (rowC cs (L.set j z))
  | [], _, h => absurd h (by simp)
  | x :: L, 0, _ => by
    rw [Nat.zero_mul]
    exact lay_mid (rowC cs L) (by rw [hm, hm])
  | x :: L, j + 1, h => by
    have := lay_pre (cs x) (lay_row hm z L j (by simpa using h))
    rw [hm, show m + j * m = (j + 1) * m from by rw [Nat.succ_mul]; omega] at this
    exact this
theorem rowC_at (hm : ∀ x, (cs x).length = m) {L : List α} {j : Nat} {z : α} (h : L[j]? = some z) : ((rowC cs L).drop (j * m)).take m = cs z :=
  flat_at (fun c hc => by obtain ⟨x, _, rfl⟩ := List.mem_map.1 hc; exact hm x) (by rw [List.getElem?_map, h]; rfl)
/-- What stands at a place of a row of the call's own. -/
theorem rdb_row {F : PH} {H Hr : List Asrt} {b n c j : Nat} {E : TypeId} {L : List α} {z : α} (p : Pick (own (.slice (some ⟨b, 0, none⟩) n c) E m n (rowC cs L)) H Hr) (hm : ∀ x, (cs x).length = m) (h : L[j]? = some z) : Rdb F H b (0 + j * m) (cs z) := by
  have := Rdb.take (own_rdb (F := F) p) (j * m) m
  rwa [rowC_at hm h] at this
/-! insertion -/
def insR (lt : α → α → Bool) (x : α) : List α → List α
  | [] => [x]
  | y :: r => if lt x y = true then y :: insR lt x r else x :: y :: r
/-- x put in from the right. -/
def insL (lt : α → α → Bool) (x : α) (S : List α) : List α := (insR lt x S.reverse).reverse
theorem insL_nil (lt : α → α → Bool) (x : α) : insL lt x [] = [x] := rfl
theorem insL_snoc (lt : α → α → Bool) (x y : α) (S : List α) : insL lt x (S ++ [y]) = if lt x y = true then insL lt x S ++ [y] else S ++ [y] ++ [x] := by
  unfold insL
  rw [List.reverse_append, List.reverse_singleton, List.singleton_append, insR]
  split
  · rw [List.reverse_cons]
  · rw [List.reverse_cons, List.reverse_cons, List.reverse_reverse]
def isortL (lt : α → α → Bool) (L : List α) : List α := L.foldl (fun S x => insL lt x S) []
theorem isortL_snoc (lt : α → α → Bool) (L : List α) (x : α) : isortL lt (L ++ [x]) = insL lt x (isortL lt L) := by unfold isortL; rw [List.foldl_append]; rfl
theorem insL_perm (lt : α → α → Bool) (x : α) (S : List α) : (insL lt x S).Perm (S ++ [x]) := by
  have h : ∀ R : List α, (insR lt x R).Perm (x :: R) := by
    intro R
    induction R with
    | nil => exact List.Perm.refl _
    | cons y R ih =>
      unfold insR
      split
      · exact (List.Perm.cons y ih).trans (List.Perm.swap x y R)
      · exact List.Perm.refl _
  unfold insL
  refine (List.reverse_perm _).trans ((h _).trans ?_)
  refine (List.Perm.cons x (List.reverse_perm S)).trans ?_
  exact (List.perm_append_singleton x S).symm
theorem isortL_perm (lt : α → α → Bool) (L : List α) : (isortL lt L).Perm L := by
  have h : ∀ (L S : List α), (L.foldl (fun S x => insL lt x S) S).Perm (S ++ L) := by
    intro L
    induction L with
    | nil => intro S; simp
    | cons x L ih =>
      intro S
      rw [List.foldl_cons]
      refine (ih _).trans ?_
      rw [show S ++ x :: L = (S ++ [x]) ++ L from by simp]
      exact (insL_perm lt x S).append_right L
  simpa [isortL] using h L []
end
set_option maxHeartbeats 16000000 in
theorem pt_ins {α : Type} (cs : α → List Value) (hm : ∀ x, (cs x).length = 3) (ho : ∀ x, Ones (cs x)) (lt : α → α → Bool) (f : FuncId) (hf : ∀ args w, (callFunc f args).run Try.prog w = .ok (.enter f args) w)
    (hc : ∀ x y F, ∃ r : Int, Pure Try.prog f [.agg (cs x).toArray, .agg (cs y).toArray] F (.int .i64 r) ∧ (r < 0 ↔ lt x y = true)) (a : Option Addr) (n c : Nat) (L : List α) (F : PH) (hn : L.length = n) (hn20 : n ≤ 20) (ha : 0 < n → ∃ b, a = some ⟨b, 0, none⟩) :
    Spec Try.prog 53 [.slice a n c, .int .i64 0, .int .i64 n, fnV f []] F [own (.slice a n c) 60 3 n (rowC cs L)] fun _ F' H' => F = F' ∧ H' = [own (.slice a n c) 60 3 n (rowC cs (isortL lt L))] := by
  subst hn
  refine Spec.of4 Try.func53 rfl rfl fun X w0 => ?_
  show J _ _ _ _ (own (.slice a L.length c) _ 3 L.length _ :: X)
  repeat (first|refine zJ rfl rfl ?_|refine jr rfl ?_|refine jn ?_|refine zM rfl rfl ?_|(refine zC rfl rfl ?_ rfl ?_;omega)|(refine zD rfl rfl ?_ rfl ?_;omega)|(refine zP rfl ?_ rfl ?_;omega)|refine zG rfl rfl rfl rfl ?_|(refine jdq rfl rfl ?_ ?_ ?_;kernel_rfl;kernel_rfl)|refine zB rfl rfl rfl (by repeat constructor) rfl ?_)
  refine J_loop (ι := Nat) (fun i => 1 ≤ i ∧ i ≤ L.length + 1) (fun i => L.length + 1 - i) (fun i => [(0, .slice a L.length c), (1, .int .i64 0), (2, .int .i64 L.length), (3, fnV f []), (8, .int .i64 i)]) (fun _ => F) (fun i => own (.slice a L.length c) 60 3 L.length (rowC cs (isortL lt (L.take i) ++ L.drop i)) :: X) 1 ⟨Nat.le_refl _, by omega⟩ ⟨⟨rfl, rfl, rfl, rfl, rfl, trivial⟩, fun w s => ?_⟩ ?_
  · cases L with
    | nil => exact s
    | cons x L => exact s
  rintro i ⟨hi1, hi2⟩
  by_cases hlt : i < L.length
  · obtain ⟨b, rfl⟩ := ha (by omega)
    have hg : L[i]? = some L[i] := List.getElem?_eq_getElem hlt
    have htk : L.take (i + 1) = L.take i ++ [L[i]] := List.take_succ_eq_append_getElem hlt
    have hdr : L.drop i = L[i] :: L.drop (i + 1) := List.drop_eq_getElem_cons hlt
    have hlen : (isortL lt (L.take i)).length = i := by rw [(isortL_perm lt _).length_eq, List.length_take]; omega
    have hso := isortL_snoc lt (L.take i) L[i]
    rw [← htk] at hso
    generalize L[i] = x at *
    generalize hR : L.drop (i + 1) = R at *
    generalize hS : isortL lt (L.take i) = S at *
    have hRl : S.length + 1 + R.length = L.length := by rw [← hR, hlen, List.length_drop]; omega
    repeat (first|refine zJ rfl rfl ?_|refine jr rfl ?_|refine jn ?_|refine zM rfl rfl ?_|(refine zC rfl rfl ?_ rfl ?_;omega)|(refine zD rfl rfl ?_ rfl ?_;omega)|(refine zP rfl ?_ rfl ?_;omega)|refine zG rfl rfl rfl rfl ?_|(refine jdq rfl rfl ?_ ?_ ?_;kernel_rfl;kernel_rfl)|refine zB rfl rfl rfl (by repeat constructor) rfl ?_)
    refine J_loop (ι := List α × List α) (fun p => p.1 ++ p.2 = S ∧ insL lt x S = insL lt x p.1 ++ p.2) (fun p => p.1.length) (fun p => [(0, .slice (some ⟨b, 0, none⟩) L.length c), (1, .int .i64 0), (2, .int .i64 L.length), (3, fnV f []), (8, .int .i64 i), (9, .int .i64 p.1.length)]) (fun _ => F) (fun p => own (.slice (some ⟨b, 0, none⟩) L.length c) 60 3 L.length (rowC cs (p.1 ++ x :: (p.2 ++ R))) :: X) (S, []) ⟨by simp, by simp⟩ ⟨⟨rfl, rfl, rfl, rfl, rfl, by rw [hlen]; rfl, trivial⟩, fun w s => ?_⟩ ?_
    · rw [hdr] at s; exact s
    rintro ⟨P, Q⟩ ⟨hPQ, hins⟩
    dsimp only at hPQ hins ⊢
    have hPl : P.length + Q.length = S.length := by rw [← hPQ, List.length_append]
    rcases List.eq_nil_or_concat P with rfl | ⟨P', y, rfl⟩
    · dsimp only [List.length_nil]
      refine jc rfl rfl ?_
      refine jd rfl ?_ ?_ ?_; kernel_rfl; kernel_rfl
      repeat (first|refine zJ rfl rfl ?_|refine jr rfl ?_|refine jn ?_|refine zM rfl rfl ?_|(refine zC rfl rfl ?_ rfl ?_;omega)|(refine zD rfl rfl ?_ rfl ?_;omega)|(refine zP rfl ?_ rfl ?_;omega)|refine zG rfl rfl rfl rfl ?_|(refine jdq rfl rfl ?_ ?_ ?_;kernel_rfl;kernel_rfl)|refine zB rfl rfl rfl (by repeat constructor) rfl ?_)
      refine J_again (i + 1) ⟨by omega, by omega⟩ (by omega) ⟨⟨rfl, rfl, rfl, rfl, rfl, trivial⟩, fun w s => ?_⟩
      rw [hso, hins, insL_nil, hR]
      simpa using s
    · have hPl' : (P' ++ [y]).length = P'.length + 1 := by simp
      rw [List.concat_eq_append] at *
      rw [hPl'] at hPl ⊢
      obtain ⟨r, hpure, hr⟩ := hc x y F
      have gx : (P' ++ [y] ++ x :: (Q ++ R))[P'.length + 1]? = some x := by rw [List.append_assoc, List.getElem?_append_right (by omega)]; simp
      have gy : (P' ++ [y] ++ x :: (Q ++ R))[P'.length]? = some y := by rw [List.append_assoc, List.getElem?_append_right (Nat.le_refl _)]; simp
      refine jc rfl rfl ?_
      refine jd rfl ?_ ?_ ?_; kernel_rfl; kernel_rfl
      repeat (first|refine zJ rfl rfl ?_|refine jr rfl ?_|refine jn ?_|refine zM rfl rfl ?_|(refine zC rfl rfl ?_ rfl ?_;omega)|(refine zD rfl rfl ?_ rfl ?_;omega)|(refine zP rfl ?_ rfl ?_;omega)|refine zG rfl rfl rfl rfl ?_|(refine jdq rfl rfl ?_ ?_ ?_;kernel_rfl;kernel_rfl)|refine zB rfl rfl rfl (by repeat constructor) rfl ?_)
      refine oS (ev_indexAddr (i := P'.length + 1) rfl rfl rfl (by omega)) rfl ?_
      refine oS (ev_load_agg (cs := cs x) rfl rfl (rdb_row .here hm gx) (hm x)) rfl ?_
      repeat (first|refine zJ rfl rfl ?_|refine jr rfl ?_|refine jn ?_|refine zM rfl rfl ?_|(refine zC rfl rfl ?_ rfl ?_;omega)|(refine zD rfl rfl ?_ rfl ?_;omega)|(refine zP rfl ?_ rfl ?_;omega)|refine zG rfl rfl rfl rfl ?_|(refine jdq rfl rfl ?_ ?_ ?_;kernel_rfl;kernel_rfl)|refine zB rfl rfl rfl (by repeat constructor) rfl ?_)
      refine oS (ev_indexAddr (i := P'.length) rfl (congrArg (fun z => some (Value.int .i64 z)) (show ((P'.length + 1 : Nat) : Int) - 1 = (P'.length : Int) by omega)) rfl (by omega)) rfl ?_
      refine oS (ev_load_agg (cs := cs y) rfl rfl (rdb_row .here hm gy) (hm y)) rfl ?_
      refine oPF (f := f) (caps := []) (vs := [.agg (cs x).toArray, .agg (cs y).toArray]) rfl hpure hf rfl rfl ?_
      by_cases hneg : r < 0
      · have hlty := hr.1 hneg
        rw [insL_snoc, if_pos hlty] at hins
        have hset : ((P' ++ [y] ++ x :: (Q ++ R)).set (P'.length + 1) y).set P'.length x = P' ++ x :: (([y] ++ Q) ++ R) := by
          rw [List.append_assoc, List.set_append_right _ _ (by omega), List.set_append_right _ _ (by omega)]
          simp
        repeat (first|refine zJ rfl rfl ?_|refine jr rfl ?_|refine jn ?_|refine zM rfl rfl ?_|(refine zC rfl rfl ?_ rfl ?_;omega)|(refine zD rfl rfl ?_ rfl ?_;omega)|(refine zP rfl ?_ rfl ?_;omega)|refine zG rfl rfl rfl rfl ?_|(refine jdq rfl rfl ?_ ?_ ?_;kernel_rfl;kernel_rfl)|refine zB rfl rfl rfl (by repeat constructor) rfl ?_)
        refine ja PH.emp [] ?_ (fun w s => s.any) ?_; kernel_rfl
        refine aT 2 rfl (ev_pv rfl) rfl rfl ?_ ?_ ?_ ?_; kernel_rfl; kernel_rfl; kernel_rfl
        refine aT 3 rfl (ev_pv rfl) rfl rfl ?_ ?_ ?_ ?_; kernel_rfl; kernel_rfl; kernel_rfl
        refine aT 4 rfl (ea rfl rfl rfl (by dsimp only [InK]; omega)) rfl rfl ?_ ?_ ?_ ?_; kernel_rfl; kernel_rfl; kernel_rfl
        refine aL (fun o => o.take 2 ++ (o.drop 5).take 10) [15, 16, 17] ([0, 1] ++ List.range' 5 10) 3 rfl ?_ ?_ ?_ ?_ ?_ ?_; kernel_rfl; kernel_rfl; kernel_rfl; kernel_rfl; kernel_rfl; dsimp only [List.take, List.drop, List.cons_append, List.nil_append]
        repeat (first|refine zJ rfl rfl ?_|refine jr rfl ?_|refine jn ?_|refine zM rfl rfl ?_|(refine zC rfl rfl ?_ rfl ?_;omega)|(refine zD rfl rfl ?_ rfl ?_;omega)|(refine zP rfl ?_ rfl ?_;omega)|refine zG rfl rfl rfl rfl ?_|(refine jdq rfl rfl ?_ ?_ ?_;kernel_rfl;kernel_rfl)|refine zB rfl rfl rfl (by repeat constructor) rfl ?_)
        refine oS (ev_indexAddr (i := P'.length) rfl (congrArg (fun z => some (Value.int .i64 z)) (show ((P'.length + 1 : Nat) : Int) - 1 = (P'.length : Int) by omega)) rfl (by omega)) rfl ?_
        refine oS (ev_load_agg (cs := cs y) rfl rfl (rdb_row .here hm gy) (hm y)) rfl ?_
        repeat (first|refine zJ rfl rfl ?_|refine jr rfl ?_|refine jn ?_|refine zM rfl rfl ?_|(refine zC rfl rfl ?_ rfl ?_;omega)|(refine zD rfl rfl ?_ rfl ?_;omega)|(refine zP rfl ?_ rfl ?_;omega)|refine zG rfl rfl rfl rfl ?_|(refine jdq rfl rfl ?_ ?_ ?_;kernel_rfl;kernel_rfl)|refine zB rfl rfl rfl (by repeat constructor) rfl ?_)
        refine oS (ev_indexAddr (i := P'.length + 1) rfl rfl rfl (by omega)) rfl ?_
        refine oS (ev_load_agg (cs := cs x) rfl rfl (rdb_row .here hm gx) (hm x)) rfl ?_
        refine oS (ev_indexAddr (i := P'.length + 1) rfl rfl rfl (by omega)) rfl ?_
        refine jn ?_
        refine aR ?_
        refine aB (i := 15) (by kernel_rfl) (aN rfl (ev_store_own rfl rfl .agg rfl (hm y) (by rw [Nat.zero_add]; exact lay_row hm y _ (P'.length + 1) (List.getElem?_eq_some_iff.1 gx).1) (ho y) .here) rfl (fun _ _ _ _ _ w s => s.any) ?_)
        rintro _ _ _ _ ⟨rfl, _, rfl⟩
        refine aT 16 rfl (ev_indexAddr (i := P'.length) rfl (congrArg (fun z => some (Value.int .i64 z)) (show ((P'.length + 1 : Nat) : Int) - 1 = (P'.length : Int) by omega)) rfl (by omega)) rfl rfl ?_ ?_ ?_ ?_; kernel_rfl; kernel_rfl; kernel_rfl
        refine aB (i := 17) (by kernel_rfl) (aN rfl (ev_store_own rfl rfl .agg rfl (hm x) (by rw [Nat.zero_add]; exact lay_row hm x _ P'.length (by rw [List.length_set]; exact (List.getElem?_eq_some_iff.1 gy).1)) (ho x) .here) rfl (fun _ _ _ _ _ w s => s.any) ?_)
        rintro _ _ _ _ ⟨rfl, _, rfl⟩
        rw [hset]
        refine aD (by kernel_rfl) ?_
        repeat (first|refine zJ rfl rfl ?_|refine jr rfl ?_|refine jn ?_|refine zM rfl rfl ?_|(refine zC rfl rfl ?_ rfl ?_;omega)|(refine zD rfl rfl ?_ rfl ?_;omega)|(refine zP rfl ?_ rfl ?_;omega)|refine zG rfl rfl rfl rfl ?_|(refine jdq rfl rfl ?_ ?_ ?_;kernel_rfl;kernel_rfl)|refine zB rfl rfl rfl (by repeat constructor) rfl ?_)
        refine J_again (P', [y] ++ Q) ⟨by rw [← hPQ]; simp, by rw [hins]; simp⟩ (by dsimp only; omega) ⟨⟨rfl, rfl, rfl, rfl, rfl, ?_, trivial⟩, fun w s => s⟩
        rw [show (P'.length : Int) = ((P'.length + 1 : Nat) : Int) - 1 from by omega]
        rfl
      · have hlty : ¬ lt x y = true := fun h => hneg (hr.2 h)
        rw [insL_snoc, if_neg hlty] at hins
        repeat (first|refine zJ rfl rfl ?_|refine jr rfl ?_|refine jn ?_|refine zM rfl rfl ?_|(refine zC rfl rfl ?_ rfl ?_;omega)|(refine zD rfl rfl ?_ rfl ?_;omega)|(refine zP rfl ?_ rfl ?_;omega)|refine zG rfl rfl rfl rfl ?_|(refine jdq rfl rfl ?_ ?_ ?_;kernel_rfl;kernel_rfl)|refine zB rfl rfl rfl (by repeat constructor) rfl ?_)
        refine J_again (i + 1) ⟨by omega, by omega⟩ (by omega) ⟨⟨rfl, rfl, rfl, rfl, rfl, trivial⟩, fun w s => ?_⟩
        rw [hso, hins, hR]
        simpa using s
  · have hfull : L.take i = L := List.take_of_length_le (by omega)
    have hno : L.drop i = [] := List.drop_eq_nil_of_le (by omega)
    rw [hfull, hno, List.append_nil]
    repeat (first|refine zJ rfl rfl ?_|refine jr rfl ?_|refine jn ?_|refine zM rfl rfl ?_|(refine zC rfl rfl ?_ rfl ?_;omega)|(refine zD rfl rfl ?_ rfl ?_;omega)|(refine zP rfl ?_ rfl ?_;omega)|refine zG rfl rfl rfl rfl ?_|(refine jdq rfl rfl ?_ ?_ ?_;kernel_rfl;kernel_rfl)|refine zB rfl rfl rfl (by repeat constructor) rfl ?_)
    refine zE rfl ?_
    refine J_end (F0 := F) (X := X) ?_ [_] (fun w s => s) (PH.ler _) ?_
    · rfl
    · exact ⟨rfl, rfl⟩
set_option maxHeartbeats 4000000 in
theorem pt_stable {α : Type} (cs : α → List Value) (hm : ∀ x, (cs x).length = 3) (ho : ∀ x, Ones (cs x)) (lt : α → α → Bool) (f : FuncId) (hf : ∀ args w, (callFunc f args).run Try.prog w = .ok (.enter f args) w)
    (hc : ∀ x y F, ∃ r : Int, Pure Try.prog f [.agg (cs x).toArray, .agg (cs y).toArray] F (.int .i64 r) ∧ (r < 0 ↔ lt x y = true)) (a : Option Addr) (n c : Nat) (L : List α) (F : PH) (hn : L.length = n) (hn20 : n < 20) (ha : 0 < n → ∃ b, a = some ⟨b, 0, none⟩) :
    Spec Try.prog 45 [.slice a n c, .int .i64 n, fnV f []] F [own (.slice a n c) 60 3 n (rowC cs L)] fun _ F' H' => F = F' ∧ H' = [own (.slice a n c) 60 3 n (rowC cs (isortL lt L))] := by
  refine Spec.of3 Try.func45 rfl rfl fun X w0 => ?_
  show J _ _ _ _ (own (.slice a n c) _ 3 n _ :: X)
  repeat (first|refine zJ rfl rfl ?_|refine jr rfl ?_|refine jn ?_|refine zM rfl rfl ?_|(refine zC rfl rfl ?_ rfl ?_;omega)|(refine zD rfl rfl ?_ rfl ?_;omega)|(refine zP rfl ?_ rfl ?_;omega)|refine zG rfl rfl rfl rfl ?_|(refine jdq rfl rfl ?_ ?_ ?_;kernel_rfl;kernel_rfl)|refine zB rfl rfl rfl (by repeat constructor) rfl ?_)
  refine J_loop (ι := Unit) (fun _ => True) (fun _ => 0) (fun _ => [(0, .slice a n c), (1, .int .i64 n), (2, fnV f []), (6, .int .i64 20), (7, .int .i64 0), (8, .int .i64 20)]) (fun _ => F) (fun _ => own (.slice a n c) 60 3 n (rowC cs L) :: X) () trivial ⟨⟨rfl, rfl, rfl, rfl, rfl, rfl, trivial⟩, fun w s => s⟩ ?_
  rintro ⟨⟩ _
  repeat (first|refine zJ rfl rfl ?_|refine jr rfl ?_|refine jn ?_|refine zM rfl rfl ?_|(refine zC rfl rfl ?_ rfl ?_;omega)|(refine zD rfl rfl ?_ rfl ?_;omega)|(refine zP rfl ?_ rfl ?_;omega)|refine zG rfl rfl rfl rfl ?_|(refine jdq rfl rfl ?_ ?_ ?_;kernel_rfl;kernel_rfl)|refine zB rfl rfl rfl (by repeat constructor) rfl ?_)
  refine oC (Hc := [own (.slice a n c) 60 3 n (rowC cs L)]) (Hr := X) (pt_ins cs hm ho lt f hf hc a n c L F hn (by omega) ha) Try.call53 rfl rfl (fun _ s => s) ?_
  rintro _ _ _ _ ⟨rfl, rfl⟩
  repeat (first|refine zJ rfl rfl ?_|refine jr rfl ?_|refine jn ?_|refine zM rfl rfl ?_|(refine zC rfl rfl ?_ rfl ?_;omega)|(refine zD rfl rfl ?_ rfl ?_;omega)|(refine zP rfl ?_ rfl ?_;omega)|refine zG rfl rfl rfl rfl ?_|(refine jdq rfl rfl ?_ ?_ ?_;kernel_rfl;kernel_rfl)|refine zB rfl rfl rfl (by repeat constructor) rfl ?_)
  refine J_loop (ι := Unit) (fun _ => True) (fun _ => 0) (fun _ => [(0, .slice a n c), (1, .int .i64 n), (2, fnV f []), (6, .int .i64 20)]) (fun _ => F) (fun _ => own (.slice a n c) 60 3 n (rowC cs (isortL lt L)) :: X) () trivial ⟨⟨rfl, rfl, rfl, rfl, trivial⟩, fun w s => s⟩ ?_
  rintro ⟨⟩ _
  repeat (first|refine zJ rfl rfl ?_|refine jr rfl ?_|refine jn ?_|refine zM rfl rfl ?_|(refine zC rfl rfl ?_ rfl ?_;omega)|(refine zD rfl rfl ?_ rfl ?_;omega)|(refine zP rfl ?_ rfl ?_;omega)|refine zG rfl rfl rfl rfl ?_|(refine jdq rfl rfl ?_ ?_ ?_;kernel_rfl;kernel_rfl)|refine zB rfl rfl rfl (by repeat constructor) rfl ?_)
  refine zE rfl ?_
  refine J_end (F0 := F) (X := X) ?_ [_] (fun w s => s) (PH.ler _) ?_
  · rfl
  · exact ⟨rfl, rfl⟩
theorem pt_sort {α : Type} (cs : α → List Value) (hm : ∀ x, (cs x).length = 3) (ho : ∀ x, Ones (cs x)) (lt : α → α → Bool) (f : FuncId) (hf : ∀ args w, (callFunc f args).run Try.prog w = .ok (.enter f args) w)
    (hc : ∀ x y F, ∃ r : Int, Pure Try.prog f [.agg (cs x).toArray, .agg (cs y).toArray] F (.int .i64 r) ∧ (r < 0 ↔ lt x y = true)) (a : Option Addr) (n c : Nat) (L : List α) (F : PH) (hn : L.length = n) (hn20 : n < 20) (ha : 0 < n → ∃ b, a = some ⟨b, 0, none⟩) :
    Spec Try.prog 27 [.slice a n c, fnV f []] F [own (.slice a n c) 60 3 n (rowC cs L)] fun _ F' H' => F = F' ∧ H' = [own (.slice a n c) 60 3 n (rowC cs (isortL lt L))] := by
  refine Spec.of2 Try.func27 rfl rfl fun X w0 => ?_
  show J _ _ _ _ (own (.slice a n c) _ 3 n _ :: X)
  repeat (first|refine zJ rfl rfl ?_|refine jr rfl ?_|refine jn ?_|refine zM rfl rfl ?_|(refine zC rfl rfl ?_ rfl ?_;omega)|(refine zD rfl rfl ?_ rfl ?_;omega)|(refine zP rfl ?_ rfl ?_;omega)|refine zG rfl rfl rfl rfl ?_|(refine jdq rfl rfl ?_ ?_ ?_;kernel_rfl;kernel_rfl)|refine zB rfl rfl rfl (by repeat constructor) rfl ?_)
  refine oC (Hc := [own (.slice a n c) 60 3 n (rowC cs L)]) (Hr := X) (pt_stable cs hm ho lt f hf hc a n c L F hn hn20 ha) Try.call45 rfl rfl (fun _ s => s) ?_
  rintro _ _ _ _ ⟨rfl, rfl⟩
  repeat (first|refine zJ rfl rfl ?_|refine jr rfl ?_|refine jn ?_|refine zM rfl rfl ?_|(refine zC rfl rfl ?_ rfl ?_;omega)|(refine zD rfl rfl ?_ rfl ?_;omega)|(refine zP rfl ?_ rfl ?_;omega)|refine zG rfl rfl rfl rfl ?_|(refine jdq rfl rfl ?_ ?_ ?_;kernel_rfl;kernel_rfl)|refine zB rfl rfl rfl (by repeat constructor) rfl ?_)
  refine zE rfl ?_
  refine J_end (F0 := F) (X := X) ?_ [_] (fun w s => s) (PH.ler _) ?_
  · rfl
  · exact ⟨rfl, rfl⟩
set_option maxHeartbeats 16000000 in
theorem pf_ins {α : Type} (cs : α → List Value) (hm : ∀ x, (cs x).length = 3) (ho : ∀ x, Ones (cs x)) (lt : α → α → Bool) (f : FuncId) (hf : ∀ args w, (callFunc f args).run Try.prog w = .ok (.enter f args) w)
    (hc : ∀ x y F, ∃ r : Int, Pure Try.prog f [.agg (cs x).toArray, .agg (cs y).toArray] F (.int .i64 r) ∧ (r < 0 ↔ lt x y = true)) (a : Option Addr) (n c : Nat) (L : List α) (F : PH) (hn : L.length = n) (hn20 : n ≤ 20) (ha : 0 < n → ∃ b, a = some ⟨b, 0, none⟩) :
    Spec Try.prog 58 [.slice a n c, .int .i64 0, .int .i64 n, fnV f []] F [own (.slice a n c) 43 3 n (rowC cs L)] fun _ F' H' => F = F' ∧ H' = [own (.slice a n c) 43 3 n (rowC cs (isortL lt L))] := by
  subst hn
  refine Spec.of4 Try.func58 rfl rfl fun X w0 => ?_
  show J _ _ _ _ (own (.slice a L.length c) _ 3 L.length _ :: X)
  repeat (first|refine zJ rfl rfl ?_|refine jr rfl ?_|refine jn ?_|refine zM rfl rfl ?_|(refine zC rfl rfl ?_ rfl ?_;omega)|(refine zD rfl rfl ?_ rfl ?_;omega)|(refine zP rfl ?_ rfl ?_;omega)|refine zG rfl rfl rfl rfl ?_|(refine jdq rfl rfl ?_ ?_ ?_;kernel_rfl;kernel_rfl)|refine zB rfl rfl rfl (by repeat constructor) rfl ?_)
  refine J_loop (ι := Nat) (fun i => 1 ≤ i ∧ i ≤ L.length + 1) (fun i => L.length + 1 - i) (fun i => [(0, .slice a L.length c), (1, .int .i64 0), (2, .int .i64 L.length), (3, fnV f []), (8, .int .i64 i)]) (fun _ => F) (fun i => own (.slice a L.length c) 43 3 L.length (rowC cs (isortL lt (L.take i) ++ L.drop i)) :: X) 1 ⟨Nat.le_refl _, by omega⟩ ⟨⟨rfl, rfl, rfl, rfl, rfl, trivial⟩, fun w s => ?_⟩ ?_
  · cases L with
    | nil => exact s
    | cons x L => exact s
  rintro i ⟨hi1, hi2⟩
  by_cases hlt : i < L.length
  · obtain ⟨b, rfl⟩ := ha (by omega)
    have hg : L[i]? = some L[i] := List.getElem?_eq_getElem hlt
    have htk : L.take (i + 1) = L.take i ++ [L[i]] := List.take_succ_eq_append_getElem hlt
    have hdr : L.drop i = L[i] :: L.drop (i + 1) := List.drop_eq_getElem_cons hlt
    have hlen : (isortL lt (L.take i)).length = i := by rw [(isortL_perm lt _).length_eq, List.length_take]; omega
    have hso := isortL_snoc lt (L.take i) L[i]
    rw [← htk] at hso
    generalize L[i] = x at *
    generalize hR : L.drop (i + 1) = R at *
    generalize hS : isortL lt (L.take i) = S at *
    have hRl : S.length + 1 + R.length = L.length := by rw [← hR, hlen, List.length_drop]; omega
    repeat (first|refine zJ rfl rfl ?_|refine jr rfl ?_|refine jn ?_|refine zM rfl rfl ?_|(refine zC rfl rfl ?_ rfl ?_;omega)|(refine zD rfl rfl ?_ rfl ?_;omega)|(refine zP rfl ?_ rfl ?_;omega)|refine zG rfl rfl rfl rfl ?_|(refine jdq rfl rfl ?_ ?_ ?_;kernel_rfl;kernel_rfl)|refine zB rfl rfl rfl (by repeat constructor) rfl ?_)
    refine J_loop (ι := List α × List α) (fun p => p.1 ++ p.2 = S ∧ insL lt x S = insL lt x p.1 ++ p.2) (fun p => p.1.length) (fun p => [(0, .slice (some ⟨b, 0, none⟩) L.length c), (1, .int .i64 0), (2, .int .i64 L.length), (3, fnV f []), (8, .int .i64 i), (9, .int .i64 p.1.length)]) (fun _ => F) (fun p => own (.slice (some ⟨b, 0, none⟩) L.length c) 43 3 L.length (rowC cs (p.1 ++ x :: (p.2 ++ R))) :: X) (S, []) ⟨by simp, by simp⟩ ⟨⟨rfl, rfl, rfl, rfl, rfl, by rw [hlen]; rfl, trivial⟩, fun w s => ?_⟩ ?_
    · rw [hdr] at s; exact s
    rintro ⟨P, Q⟩ ⟨hPQ, hins⟩
    dsimp only at hPQ hins ⊢
    have hPl : P.length + Q.length = S.length := by rw [← hPQ, List.length_append]
    rcases List.eq_nil_or_concat P with rfl | ⟨P', y, rfl⟩
    · dsimp only [List.length_nil]
      refine jc rfl rfl ?_
      refine jd rfl ?_ ?_ ?_; kernel_rfl; kernel_rfl
      repeat (first|refine zJ rfl rfl ?_|refine jr rfl ?_|refine jn ?_|refine zM rfl rfl ?_|(refine zC rfl rfl ?_ rfl ?_;omega)|(refine zD rfl rfl ?_ rfl ?_;omega)|(refine zP rfl ?_ rfl ?_;omega)|refine zG rfl rfl rfl rfl ?_|(refine jdq rfl rfl ?_ ?_ ?_;kernel_rfl;kernel_rfl)|refine zB rfl rfl rfl (by repeat constructor) rfl ?_)
      refine J_again (i + 1) ⟨by omega, by omega⟩ (by omega) ⟨⟨rfl, rfl, rfl, rfl, rfl, trivial⟩, fun w s => ?_⟩
      rw [hso, hins, insL_nil, hR]
      simpa using s
    · have hPl' : (P' ++ [y]).length = P'.length + 1 := by simp
      rw [List.concat_eq_append] at *
      rw [hPl'] at hPl ⊢
      obtain ⟨r, hpure, hr⟩ := hc x y F
      have gx : (P' ++ [y] ++ x :: (Q ++ R))[P'.length + 1]? = some x := by rw [List.append_assoc, List.getElem?_append_right (by omega)]; simp
      have gy : (P' ++ [y] ++ x :: (Q ++ R))[P'.length]? = some y := by rw [List.append_assoc, List.getElem?_append_right (Nat.le_refl _)]; simp
      refine jc rfl rfl ?_
      refine jd rfl ?_ ?_ ?_; kernel_rfl; kernel_rfl
      repeat (first|refine zJ rfl rfl ?_|refine jr rfl ?_|refine jn ?_|refine zM rfl rfl ?_|(refine zC rfl rfl ?_ rfl ?_;omega)|(refine zD rfl rfl ?_ rfl ?_;omega)|(refine zP rfl ?_ rfl ?_;omega)|refine zG rfl rfl rfl rfl ?_|(refine jdq rfl rfl ?_ ?_ ?_;kernel_rfl;kernel_rfl)|refine zB rfl rfl rfl (by repeat constructor) rfl ?_)
      refine oS (ev_indexAddr (i := P'.length + 1) rfl rfl rfl (by omega)) rfl ?_
      refine oS (ev_load_agg (cs := cs x) rfl rfl (rdb_row .here hm gx) (hm x)) rfl ?_
      repeat (first|refine zJ rfl rfl ?_|refine jr rfl ?_|refine jn ?_|refine zM rfl rfl ?_|(refine zC rfl rfl ?_ rfl ?_;omega)|(refine zD rfl rfl ?_ rfl ?_;omega)|(refine zP rfl ?_ rfl ?_;omega)|refine zG rfl rfl rfl rfl ?_|(refine jdq rfl rfl ?_ ?_ ?_;kernel_rfl;kernel_rfl)|refine zB rfl rfl rfl (by repeat constructor) rfl ?_)
      refine oS (ev_indexAddr (i := P'.length) rfl (congrArg (fun z => some (Value.int .i64 z)) (show ((P'.length + 1 : Nat) : Int) - 1 = (P'.length : Int) by omega)) rfl (by omega)) rfl ?_
      refine oS (ev_load_agg (cs := cs y) rfl rfl (rdb_row .here hm gy) (hm y)) rfl ?_
      refine oPF (f := f) (caps := []) (vs := [.agg (cs x).toArray, .agg (cs y).toArray]) rfl hpure hf rfl rfl ?_
      by_cases hneg : r < 0
      · have hlty := hr.1 hneg
        rw [insL_snoc, if_pos hlty] at hins
        have hset : ((P' ++ [y] ++ x :: (Q ++ R)).set (P'.length + 1) y).set P'.length x = P' ++ x :: (([y] ++ Q) ++ R) := by
          rw [List.append_assoc, List.set_append_right _ _ (by omega), List.set_append_right _ _ (by omega)]
          simp
        repeat (first|refine zJ rfl rfl ?_|refine jr rfl ?_|refine jn ?_|refine zM rfl rfl ?_|(refine zC rfl rfl ?_ rfl ?_;omega)|(refine zD rfl rfl ?_ rfl ?_;omega)|(refine zP rfl ?_ rfl ?_;omega)|refine zG rfl rfl rfl rfl ?_|(refine jdq rfl rfl ?_ ?_ ?_;kernel_rfl;kernel_rfl)|refine zB rfl rfl rfl (by repeat constructor) rfl ?_)
        refine ja PH.emp [] ?_ (fun w s => s.any) ?_; kernel_rfl
        refine aT 2 rfl (ev_pv rfl) rfl rfl ?_ ?_ ?_ ?_; kernel_rfl; kernel_rfl; kernel_rfl
        refine aT 3 rfl (ev_pv rfl) rfl rfl ?_ ?_ ?_ ?_; kernel_rfl; kernel_rfl; kernel_rfl
        refine aT 4 rfl (ea rfl rfl rfl (by dsimp only [InK]; omega)) rfl rfl ?_ ?_ ?_ ?_; kernel_rfl; kernel_rfl; kernel_rfl
        refine aL (fun o => o.take 2 ++ (o.drop 5).take 10) [15, 16, 17] ([0, 1] ++ List.range' 5 10) 3 rfl ?_ ?_ ?_ ?_ ?_ ?_; kernel_rfl; kernel_rfl; kernel_rfl; kernel_rfl; kernel_rfl; dsimp only [List.take, List.drop, List.cons_append, List.nil_append]
        repeat (first|refine zJ rfl rfl ?_|refine jr rfl ?_|refine jn ?_|refine zM rfl rfl ?_|(refine zC rfl rfl ?_ rfl ?_;omega)|(refine zD rfl rfl ?_ rfl ?_;omega)|(refine zP rfl ?_ rfl ?_;omega)|refine zG rfl rfl rfl rfl ?_|(refine jdq rfl rfl ?_ ?_ ?_;kernel_rfl;kernel_rfl)|refine zB rfl rfl rfl (by repeat constructor) rfl ?_)
        refine oS (ev_indexAddr (i := P'.length) rfl (congrArg (fun z => some (Value.int .i64 z)) (show ((P'.length + 1 : Nat) : Int) - 1 = (P'.length : Int) by omega)) rfl (by omega)) rfl ?_
        refine oS (ev_load_agg (cs := cs y) rfl rfl (rdb_row .here hm gy) (hm y)) rfl ?_
        repeat (first|refine zJ rfl rfl ?_|refine jr rfl ?_|refine jn ?_|refine zM rfl rfl ?_|(refine zC rfl rfl ?_ rfl ?_;omega)|(refine zD rfl rfl ?_ rfl ?_;omega)|(refine zP rfl ?_ rfl ?_;omega)|refine zG rfl rfl rfl rfl ?_|(refine jdq rfl rfl ?_ ?_ ?_;kernel_rfl;kernel_rfl)|refine zB rfl rfl rfl (by repeat constructor) rfl ?_)
        refine oS (ev_indexAddr (i := P'.length + 1) rfl rfl rfl (by omega)) rfl ?_
        refine oS (ev_load_agg (cs := cs x) rfl rfl (rdb_row .here hm gx) (hm x)) rfl ?_
        refine oS (ev_indexAddr (i := P'.length + 1) rfl rfl rfl (by omega)) rfl ?_
        refine jn ?_
        refine aR ?_
        refine aB (i := 15) (by kernel_rfl) (aN rfl (ev_store_own rfl rfl .agg rfl (hm y) (by rw [Nat.zero_add]; exact lay_row hm y _ (P'.length + 1) (List.getElem?_eq_some_iff.1 gx).1) (ho y) .here) rfl (fun _ _ _ _ _ w s => s.any) ?_)
        rintro _ _ _ _ ⟨rfl, _, rfl⟩
        refine aT 16 rfl (ev_indexAddr (i := P'.length) rfl (congrArg (fun z => some (Value.int .i64 z)) (show ((P'.length + 1 : Nat) : Int) - 1 = (P'.length : Int) by omega)) rfl (by omega)) rfl rfl ?_ ?_ ?_ ?_; kernel_rfl; kernel_rfl; kernel_rfl
        refine aB (i := 17) (by kernel_rfl) (aN rfl (ev_store_own rfl rfl .agg rfl (hm x) (by rw [Nat.zero_add]; exact lay_row hm x _ P'.length (by rw [List.length_set]; exact (List.getElem?_eq_some_iff.1 gy).1)) (ho x) .here) rfl (fun _ _ _ _ _ w s => s.any) ?_)
        rintro _ _ _ _ ⟨rfl, _, rfl⟩
        rw [hset]
        refine aD (by kernel_rfl) ?_
        repeat (first|refine zJ rfl rfl ?_|refine jr rfl ?_|refine jn ?_|refine zM rfl rfl ?_|(refine zC rfl rfl ?_ rfl ?_;omega)|(refine zD rfl rfl ?_ rfl ?_;omega)|(refine zP rfl ?_ rfl ?_;omega)|refine zG rfl rfl rfl rfl ?_|(refine jdq rfl rfl ?_ ?_ ?_;kernel_rfl;kernel_rfl)|refine zB rfl rfl rfl (by repeat constructor) rfl ?_)
        refine J_again (P', [y] ++ Q) ⟨by rw [← hPQ]; simp, by rw [hins]; simp⟩ (by dsimp only; omega) ⟨⟨rfl, rfl, rfl, rfl, rfl, ?_, trivial⟩, fun w s => s⟩
        rw [show (P'.length : Int) = ((P'.length + 1 : Nat) : Int) - 1 from by omega]
        rfl
      · have hlty : ¬ lt x y = true := fun h => hneg (hr.2 h)
        rw [insL_snoc, if_neg hlty] at hins
        repeat (first|refine zJ rfl rfl ?_|refine jr rfl ?_|refine jn ?_|refine zM rfl rfl ?_|(refine zC rfl rfl ?_ rfl ?_;omega)|(refine zD rfl rfl ?_ rfl ?_;omega)|(refine zP rfl ?_ rfl ?_;omega)|refine zG rfl rfl rfl rfl ?_|(refine jdq rfl rfl ?_ ?_ ?_;kernel_rfl;kernel_rfl)|refine zB rfl rfl rfl (by repeat constructor) rfl ?_)
        refine J_again (i + 1) ⟨by omega, by omega⟩ (by omega) ⟨⟨rfl, rfl, rfl, rfl, rfl, trivial⟩, fun w s => ?_⟩
        rw [hso, hins, hR]
        simpa using s
  · have hfull : L.take i = L := List.take_of_length_le (by omega)
    have hno : L.drop i = [] := List.drop_eq_nil_of_le (by omega)
    rw [hfull, hno, List.append_nil]
    repeat (first|refine zJ rfl rfl ?_|refine jr rfl ?_|refine jn ?_|refine zM rfl rfl ?_|(refine zC rfl rfl ?_ rfl ?_;omega)|(refine zD rfl rfl ?_ rfl ?_;omega)|(refine zP rfl ?_ rfl ?_;omega)|refine zG rfl rfl rfl rfl ?_|(refine jdq rfl rfl ?_ ?_ ?_;kernel_rfl;kernel_rfl)|refine zB rfl rfl rfl (by repeat constructor) rfl ?_)
    refine zE rfl ?_
    refine J_end (F0 := F) (X := X) ?_ [_] (fun w s => s) (PH.ler _) ?_
    · rfl
    · exact ⟨rfl, rfl⟩
set_option maxHeartbeats 4000000 in
theorem pf_stable {α : Type} (cs : α → List Value) (hm : ∀ x, (cs x).length = 3) (ho : ∀ x, Ones (cs x)) (lt : α → α → Bool) (f : FuncId) (hf : ∀ args w, (callFunc f args).run Try.prog w = .ok (.enter f args) w)
    (hc : ∀ x y F, ∃ r : Int, Pure Try.prog f [.agg (cs x).toArray, .agg (cs y).toArray] F (.int .i64 r) ∧ (r < 0 ↔ lt x y = true)) (a : Option Addr) (n c : Nat) (L : List α) (F : PH) (hn : L.length = n) (hn20 : n < 20) (ha : 0 < n → ∃ b, a = some ⟨b, 0, none⟩) :
    Spec Try.prog 56 [.slice a n c, .int .i64 n, fnV f []] F [own (.slice a n c) 43 3 n (rowC cs L)] fun _ F' H' => F = F' ∧ H' = [own (.slice a n c) 43 3 n (rowC cs (isortL lt L))] := by
  refine Spec.of3 Try.func56 rfl rfl fun X w0 => ?_
  show J _ _ _ _ (own (.slice a n c) _ 3 n _ :: X)
  repeat (first|refine zJ rfl rfl ?_|refine jr rfl ?_|refine jn ?_|refine zM rfl rfl ?_|(refine zC rfl rfl ?_ rfl ?_;omega)|(refine zD rfl rfl ?_ rfl ?_;omega)|(refine zP rfl ?_ rfl ?_;omega)|refine zG rfl rfl rfl rfl ?_|(refine jdq rfl rfl ?_ ?_ ?_;kernel_rfl;kernel_rfl)|refine zB rfl rfl rfl (by repeat constructor) rfl ?_)
  refine J_loop (ι := Unit) (fun _ => True) (fun _ => 0) (fun _ => [(0, .slice a n c), (1, .int .i64 n), (2, fnV f []), (6, .int .i64 20), (7, .int .i64 0), (8, .int .i64 20)]) (fun _ => F) (fun _ => own (.slice a n c) 43 3 n (rowC cs L) :: X) () trivial ⟨⟨rfl, rfl, rfl, rfl, rfl, rfl, trivial⟩, fun w s => s⟩ ?_
  rintro ⟨⟩ _
  repeat (first|refine zJ rfl rfl ?_|refine jr rfl ?_|refine jn ?_|refine zM rfl rfl ?_|(refine zC rfl rfl ?_ rfl ?_;omega)|(refine zD rfl rfl ?_ rfl ?_;omega)|(refine zP rfl ?_ rfl ?_;omega)|refine zG rfl rfl rfl rfl ?_|(refine jdq rfl rfl ?_ ?_ ?_;kernel_rfl;kernel_rfl)|refine zB rfl rfl rfl (by repeat constructor) rfl ?_)
  refine oC (Hc := [own (.slice a n c) 43 3 n (rowC cs L)]) (Hr := X) (pf_ins cs hm ho lt f hf hc a n c L F hn (by omega) ha) Try.call58 rfl rfl (fun _ s => s) ?_
  rintro _ _ _ _ ⟨rfl, rfl⟩
  repeat (first|refine zJ rfl rfl ?_|refine jr rfl ?_|refine jn ?_|refine zM rfl rfl ?_|(refine zC rfl rfl ?_ rfl ?_;omega)|(refine zD rfl rfl ?_ rfl ?_;omega)|(refine zP rfl ?_ rfl ?_;omega)|refine zG rfl rfl rfl rfl ?_|(refine jdq rfl rfl ?_ ?_ ?_;kernel_rfl;kernel_rfl)|refine zB rfl rfl rfl (by repeat constructor) rfl ?_)
  refine J_loop (ι := Unit) (fun _ => True) (fun _ => 0) (fun _ => [(0, .slice a n c), (1, .int .i64 n), (2, fnV f []), (6, .int .i64 20)]) (fun _ => F) (fun _ => own (.slice a n c) 43 3 n (rowC cs (isortL lt L)) :: X) () trivial ⟨⟨rfl, rfl, rfl, rfl, trivial⟩, fun w s => s⟩ ?_
  rintro ⟨⟩ _
  repeat (first|refine zJ rfl rfl ?_|refine jr rfl ?_|refine jn ?_|refine zM rfl rfl ?_|(refine zC rfl rfl ?_ rfl ?_;omega)|(refine zD rfl rfl ?_ rfl ?_;omega)|(refine zP rfl ?_ rfl ?_;omega)|refine zG rfl rfl rfl rfl ?_|(refine jdq rfl rfl ?_ ?_ ?_;kernel_rfl;kernel_rfl)|refine zB rfl rfl rfl (by repeat constructor) rfl ?_)
  refine zE rfl ?_
  refine J_end (F0 := F) (X := X) ?_ [_] (fun w s => s) (PH.ler _) ?_
  · rfl
  · exact ⟨rfl, rfl⟩
theorem pf_sort {α : Type} (cs : α → List Value) (hm : ∀ x, (cs x).length = 3) (ho : ∀ x, Ones (cs x)) (lt : α → α → Bool) (f : FuncId) (hf : ∀ args w, (callFunc f args).run Try.prog w = .ok (.enter f args) w)
    (hc : ∀ x y F, ∃ r : Int, Pure Try.prog f [.agg (cs x).toArray, .agg (cs y).toArray] F (.int .i64 r) ∧ (r < 0 ↔ lt x y = true)) (a : Option Addr) (n c : Nat) (L : List α) (F : PH) (hn : L.length = n) (hn20 : n < 20) (ha : 0 < n → ∃ b, a = some ⟨b, 0, none⟩) :
    Spec Try.prog 50 [.slice a n c, fnV f []] F [own (.slice a n c) 43 3 n (rowC cs L)] fun _ F' H' => F = F' ∧ H' = [own (.slice a n c) 43 3 n (rowC cs (isortL lt L))] := by
  refine Spec.of2 Try.func50 rfl rfl fun X w0 => ?_
  show J _ _ _ _ (own (.slice a n c) _ 3 n _ :: X)
  repeat (first|refine zJ rfl rfl ?_|refine jr rfl ?_|refine jn ?_|refine zM rfl rfl ?_|(refine zC rfl rfl ?_ rfl ?_;omega)|(refine zD rfl rfl ?_ rfl ?_;omega)|(refine zP rfl ?_ rfl ?_;omega)|refine zG rfl rfl rfl rfl ?_|(refine jdq rfl rfl ?_ ?_ ?_;kernel_rfl;kernel_rfl)|refine zB rfl rfl rfl (by repeat constructor) rfl ?_)
  refine oC (Hc := [own (.slice a n c) 43 3 n (rowC cs L)]) (Hr := X) (pf_stable cs hm ho lt f hf hc a n c L F hn hn20 ha) Try.call56 rfl rfl (fun _ s => s) ?_
  rintro _ _ _ _ ⟨rfl, rfl⟩
  repeat (first|refine zJ rfl rfl ?_|refine jr rfl ?_|refine jn ?_|refine zM rfl rfl ?_|(refine zC rfl rfl ?_ rfl ?_;omega)|(refine zD rfl rfl ?_ rfl ?_;omega)|(refine zP rfl ?_ rfl ?_;omega)|refine zG rfl rfl rfl rfl ?_|(refine jdq rfl rfl ?_ ?_ ?_;kernel_rfl;kernel_rfl)|refine zB rfl rfl rfl (by repeat constructor) rfl ?_)
  refine zE rfl ?_
  refine J_end (F0 := F) (X := X) ?_ [_] (fun w s => s) (PH.ler _) ?_
  · rfl
  · exact ⟨rfl, rfl⟩
end Go.Proofs.Ytmicjjhkoicdnaa
