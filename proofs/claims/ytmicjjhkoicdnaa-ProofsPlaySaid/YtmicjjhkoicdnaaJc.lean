/-
  Proofs in a row of the call's own: one more sorted in. Conditions are typed with each.
-/
import Derived.Test.YtmicjjhkoicdnaaJb
namespace Go.Proofs.Ytmicjjhkoicdnaa
open Go.RowKit
set_option maxRecDepth 100000
/-- What a comparison tells. -/
def Cmp {α : Type} (cs : α → List Value) (lt : α → α → Bool) (f : FuncId) : Prop := ∀ x y F, ∃ r : Int, Pure Try.prog f [.agg (cs x).toArray, .agg (cs y).toArray] F (.int .i64 r) ∧ (r < 0 ↔ lt x y = true)
set_option maxHeartbeats 16000000 in
theorem pf_ins2 {α : Type} (cs : α → List Value) (hm : ∀ x, (cs x).length = 3) (ho : ∀ x, Ones (cs x)) (lt : α → α → Bool) (f : FuncId) (hf : ∀ args w, (callFunc f args).run Try.prog w = .ok (.enter f args) w)
    (hc : Cmp cs lt f) (b n c : Nat) (A U B : List α) (F : PH) (hn : (A ++ (U ++ B)).length = n) (hn1 : n ≤ 1000) :
    Spec Try.prog 58 [.slice (some ⟨b, 0, none⟩) n c, .int .i64 A.length, .int .i64 (A.length + U.length : Nat), fnV f []] F [pfO cs b n c (A ++ (U ++ B))] fun u F' H' => u = .tuple #[] ∧ F = F' ∧ H' = [pfO cs b n c (A ++ (isortL lt U ++ B))] := by
  simp only [List.length_append] at hn
  refine Spec.of4 Try.func58 rfl rfl fun X w0 => ?_
  dsimp only [List.cons_append, List.nil_append]
  repeat (first|refine zJ rfl rfl ?_|refine jr rfl ?_|refine jn ?_|refine zM rfl rfl ?_|(refine zC rfl rfl ?_ rfl ?_;omega)|(refine zD rfl rfl ?_ rfl ?_;omega)|(refine zP rfl ?_ rfl ?_;omega)|refine zG rfl rfl rfl rfl ?_|(refine jdq rfl rfl ?_ ?_ ?_;kernel_rfl;kernel_rfl)|refine zB rfl rfl rfl (by repeat constructor) rfl ?_)
  refine J_loop (ι := Nat) (fun i => 1 ≤ i ∧ i ≤ U.length + 1) (fun i => U.length + 1 - i) (fun i => [(0, .slice (some ⟨b, 0, none⟩) n c), (1, .int .i64 A.length), (2, .int .i64 (A.length + U.length : Nat)), (3, fnV f []), (8, .int .i64 (A.length + i : Nat))]) (fun _ => F) (fun i => pfO cs b n c (A ++ ((isortL lt (U.take i) ++ U.drop i) ++ B)) :: X) 1 ⟨Nat.le_refl _, by omega⟩ ⟨⟨rfl, rfl, rfl, rfl, rfl, trivial⟩, fun w s => ?_⟩ ?_
  · cases U with
    | nil => exact s
    | cons x U => exact s
  rintro i ⟨hi1, hi2⟩
  by_cases hlt : i < U.length
  rotate_left
  · have hfull : U.take i = U := List.take_of_length_le (by omega)
    have hno : U.drop i = [] := List.drop_eq_nil_of_le (by omega)
    rw [hfull, hno, List.append_nil]
    repeat (first|refine zJ rfl rfl ?_|refine jr rfl ?_|refine jn ?_|refine zM rfl rfl ?_|(refine zC rfl rfl ?_ rfl ?_;omega)|(refine zD rfl rfl ?_ rfl ?_;omega)|(refine zP rfl ?_ rfl ?_;omega)|refine zG rfl rfl rfl rfl ?_|(refine jdq rfl rfl ?_ ?_ ?_;kernel_rfl;kernel_rfl)|refine zB rfl rfl rfl (by repeat constructor) rfl ?_)
    refine zE rfl ?_
    exact J_end (F0 := F) (X := X) rfl [_] (fun w s => s) (PH.ler _) ⟨rfl, rfl, rfl⟩
  have htk : U.take (i + 1) = U.take i ++ [U[i]] := List.take_succ_eq_append_getElem hlt
  have hdr : U.drop i = U[i] :: U.drop (i + 1) := List.drop_eq_getElem_cons hlt
  have hlen : (isortL lt (U.take i)).length = i := by rw [(isortL_perm lt _).length_eq, List.length_take]; omega
  have hso := isortL_snoc lt (U.take i) U[i]
  rw [← htk] at hso
  have hRl : (U.drop (i + 1)).length = U.length - (i + 1) := List.length_drop
  generalize U[i] = x at *
  generalize hS : isortL lt (U.take i) = S at *
  obtain ⟨R, hR⟩ : ∃ R, R = U.drop (i + 1) ++ B := ⟨_, rfl⟩
  have hRn : A.length + (S.length + 1 + R.length) = n := by rw [hR, List.length_append, hRl, hlen]; omega
  repeat (first|refine zJ rfl rfl ?_|refine jr rfl ?_|refine jn ?_|refine zM rfl rfl ?_|(refine zC rfl rfl ?_ rfl ?_;omega)|(refine zD rfl rfl ?_ rfl ?_;omega)|(refine zP rfl ?_ rfl ?_;omega)|refine zG rfl rfl rfl rfl ?_|(refine jdq rfl rfl ?_ ?_ ?_;kernel_rfl;kernel_rfl)|refine zB rfl rfl rfl (by repeat constructor) rfl ?_)
  refine J_loop (ι := List α × List α) (fun p => p.1 ++ p.2 = S ∧ insL lt x S = insL lt x p.1 ++ p.2) (fun p => p.1.length) (fun p => [(0, .slice (some ⟨b, 0, none⟩) n c), (1, .int .i64 A.length), (2, .int .i64 (A.length + U.length : Nat)), (3, fnV f []), (8, .int .i64 (A.length + i : Nat)), (9, .int .i64 (A.length + p.1.length : Nat))]) (fun _ => F) (fun p => pfO cs b n c (A ++ (p.1 ++ x :: (p.2 ++ R))) :: X) (S, []) ⟨by simp, by simp⟩ ⟨⟨rfl, rfl, rfl, rfl, rfl, by rw [hlen]; rfl, trivial⟩, fun w s => ?_⟩ ?_
  · rw [hdr] at s
    rw [hR]
    simpa [List.append_assoc] using s
  rintro ⟨P, Q⟩ ⟨hPQ, hins⟩
  dsimp only at hPQ hins ⊢
  have hPl : P.length + Q.length = S.length := by rw [← hPQ, List.length_append]
  rcases List.eq_nil_or_concat P with rfl | ⟨P', y, rfl⟩
  · dsimp only [List.length_nil]
    refine jc rfl rfl ?_
    refine jd rfl ?_ ?_ ?_; kernel_rfl; kernel_rfl
    repeat (first|refine zJ rfl rfl ?_|refine jr rfl ?_|refine jn ?_|refine zM rfl rfl ?_|(refine zC rfl rfl ?_ rfl ?_;omega)|(refine zD rfl rfl ?_ rfl ?_;omega)|(refine zP rfl ?_ rfl ?_;omega)|refine zG rfl rfl rfl rfl ?_|(refine jdq rfl rfl ?_ ?_ ?_;kernel_rfl;kernel_rfl)|refine zB rfl rfl rfl (by repeat constructor) rfl ?_)
    refine J_again (i + 1) ⟨by omega, by omega⟩ (by omega) ⟨⟨rfl, rfl, rfl, rfl, rfl, trivial⟩, fun w s => ?_⟩
    rw [hso, hins, insL_nil]
    rw [hR] at s
    simpa [List.append_assoc] using s
  rw [List.concat_eq_append] at *
  have hPl' : (P' ++ [y]).length = P'.length + 1 := by simp
  rw [hPl'] at hPl ⊢
  obtain ⟨r, hpure, hr⟩ := hc x y F
  obtain ⟨L, hL⟩ : ∃ L, L = A ++ (P' ++ [y] ++ x :: (Q ++ R)) := ⟨_, rfl⟩
  rw [← hL]
  have hLn : L.length = n := by rw [hL]; simp only [List.length_append, List.length_cons, List.length_nil]; omega
  have g1 := get_at (L := L) (P := A ++ (P' ++ [y])) (x := x) (Q := Q ++ R) (i := A.length + (P'.length + 1)) (by rw [hL]; simp [List.append_assoc]) (by simp)
  have g2 := get_at (L := L) (P := A ++ P') (x := y) (Q := x :: (Q ++ R)) (i := A.length + P'.length) (by rw [hL]; simp [List.append_assoc]) (by simp)
  have s1 := set_at (L := L) (P := A ++ (P' ++ [y])) (x := x) (z := y) (Q := Q ++ R) (i := A.length + (P'.length + 1)) (by rw [hL]; simp [List.append_assoc]) (by simp)
  have s2 := set_at (L := L.set (A.length + (P'.length + 1)) y) (P := A ++ P') (x := y) (z := x) (Q := y :: (Q ++ R)) (i := A.length + P'.length) (by rw [s1]; simp [List.append_assoc]) (by simp)
  have hnext : (L.set (A.length + (P'.length + 1)) y).set (A.length + P'.length) x = A ++ (P' ++ x :: (([y] ++ Q) ++ R)) := by rw [s2]; simp [List.append_assoc]
  have ix : some (Value.int .i64 (((A.length + (P'.length + 1) : Nat) : Int) - 1)) = some (Value.int .i64 ((A.length + P'.length : Nat) : Int)) := by congr 2; omega
  unfold pfO
  refine jc rfl rfl ?_
  refine jd rfl ?_ ?_ ?_; kernel_rfl; kernel_rfl
  repeat (first|refine zJ rfl rfl ?_|refine jr rfl ?_|refine jn ?_|refine zM rfl rfl ?_|(refine zC rfl rfl ?_ rfl ?_;omega)|(refine zD rfl rfl ?_ rfl ?_;omega)|(refine zP rfl ?_ rfl ?_;omega)|refine zG rfl rfl rfl rfl ?_|(refine jdq rfl rfl ?_ ?_ ?_;kernel_rfl;kernel_rfl)|refine zB rfl rfl rfl (by repeat constructor) rfl ?_)
  refine oS (ev_indexAddr (i := A.length + (P'.length + 1)) rfl rfl rfl (by omega)) rfl ?_
  refine oS (ev_load_agg (cs := cs x) rfl rfl (rdb_row .here hm g1) (hm x)) rfl ?_
  repeat (first|refine zJ rfl rfl ?_|refine jr rfl ?_|refine jn ?_|refine zM rfl rfl ?_|(refine zC rfl rfl ?_ rfl ?_;omega)|(refine zD rfl rfl ?_ rfl ?_;omega)|(refine zP rfl ?_ rfl ?_;omega)|refine zG rfl rfl rfl rfl ?_|(refine jdq rfl rfl ?_ ?_ ?_;kernel_rfl;kernel_rfl)|refine zB rfl rfl rfl (by repeat constructor) rfl ?_)
  refine oS (ev_indexAddr (i := A.length + P'.length) rfl ix rfl (by omega)) rfl ?_
  refine oS (ev_load_agg (cs := cs y) rfl rfl (rdb_row .here hm g2) (hm y)) rfl ?_
  refine oPF (f := f) (caps := []) (vs := [.agg (cs x).toArray, .agg (cs y).toArray]) rfl hpure hf rfl rfl ?_
  by_cases hneg : r < 0
  · have hlty := hr.1 hneg
    rw [insL_snoc, if_pos hlty] at hins
    (repeat (first|refine zJ rfl rfl ?_|refine jr rfl ?_|refine jn ?_|refine zM rfl rfl ?_|(refine zC rfl rfl ?_ rfl ?_;omega)|(refine zD rfl rfl ?_ rfl ?_;omega)|(refine zP rfl ?_ rfl ?_;omega)|refine zG rfl rfl rfl rfl ?_|(refine jdq rfl rfl ?_ ?_ ?_;kernel_rfl;kernel_rfl)|refine zB rfl rfl rfl (by repeat constructor) rfl ?_)) 
    refine ja PH.emp [] ?_ (fun w s => s.any) ?_; kernel_rfl 
    refine aT 2 rfl (ev_pv rfl) rfl rfl ?_ ?_ ?_ ?_; kernel_rfl; kernel_rfl; kernel_rfl
    refine aT 3 rfl (ev_pv rfl) rfl rfl ?_ ?_ ?_ ?_; kernel_rfl; kernel_rfl; kernel_rfl 
    refine aT 4 rfl (ea rfl rfl rfl (by dsimp only [InK]; omega)) rfl rfl ?_ ?_ ?_ ?_; kernel_rfl; kernel_rfl; kernel_rfl 
    refine aL (fun o => o.take 2 ++ (o.drop 5).take 10) [15, 16, 17] ([0, 1] ++ List.range' 5 10) 3 rfl ?_ ?_ ?_ ?_ ?_ ?_; kernel_rfl; kernel_rfl; kernel_rfl; kernel_rfl; kernel_rfl; dsimp only [List.take, List.drop, List.cons_append, List.nil_append] 
    (repeat (first|refine zJ rfl rfl ?_|refine jr rfl ?_|refine jn ?_|refine zM rfl rfl ?_|(refine zC rfl rfl ?_ rfl ?_;omega)|(refine zD rfl rfl ?_ rfl ?_;omega)|(refine zP rfl ?_ rfl ?_;omega)|refine zG rfl rfl rfl rfl ?_|(refine jdq rfl rfl ?_ ?_ ?_;kernel_rfl;kernel_rfl)|refine zB rfl rfl rfl (by repeat constructor) rfl ?_)) 
    refine oS (ev_indexAddr (i := A.length + P'.length) rfl ix rfl (by omega)) rfl ?_ 
    refine oS (ev_load_agg (cs := cs y) rfl rfl (rdb_row .here hm g2) (hm y)) rfl ?_ 
    (repeat (first|refine zJ rfl rfl ?_|refine jr rfl ?_|refine jn ?_|refine zM rfl rfl ?_|(refine zC rfl rfl ?_ rfl ?_;omega)|(refine zD rfl rfl ?_ rfl ?_;omega)|(refine zP rfl ?_ rfl ?_;omega)|refine zG rfl rfl rfl rfl ?_|(refine jdq rfl rfl ?_ ?_ ?_;kernel_rfl;kernel_rfl)|refine zB rfl rfl rfl (by repeat constructor) rfl ?_)) 
    refine oS (ev_indexAddr (i := A.length + (P'.length + 1)) rfl rfl rfl (by omega)) rfl ?_ 
    refine oS (ev_load_agg (cs := cs x) rfl rfl (rdb_row .here hm g1) (hm x)) rfl ?_ 
    refine oS (ev_indexAddr (i := A.length + (P'.length + 1)) rfl rfl rfl (by omega)) rfl ?_ 
    refine jn ?_ 
    refine aR ?_ 
    refine aB (i := 15) (by kernel_rfl) (aN rfl (ev_store_own rfl rfl .agg rfl (hm y) (by rw [Nat.zero_add]; exact lay_row hm y _ (A.length + (P'.length + 1)) (by omega)) (ho y) .here) rfl (fun _ _ _ _ _ w s => s.any) ?_) 
    rintro _ _ _ _ ⟨rfl, _, rfl⟩ 
    refine aT 16 rfl (ev_indexAddr (i := A.length + P'.length) rfl ix rfl (by omega)) rfl rfl ?_ ?_ ?_ ?_; kernel_rfl; kernel_rfl; kernel_rfl 
    refine aB (i := 17) (by kernel_rfl) (aN rfl (ev_store_own rfl rfl .agg rfl (hm x) (by rw [Nat.zero_add]; exact lay_row hm x _ (A.length + P'.length) (by rw [List.length_set]; omega)) (ho x) .here) rfl (fun _ _ _ _ _ w s => s.any) ?_) 
    rintro _ _ _ _ ⟨rfl, _, rfl⟩ 
    rw [hnext] 
    refine aD (by kernel_rfl) ?_ 
    (repeat (first|refine zJ rfl rfl ?_|refine jr rfl ?_|refine jn ?_|refine zM rfl rfl ?_|(refine zC rfl rfl ?_ rfl ?_;omega)|(refine zD rfl rfl ?_ rfl ?_;omega)|(refine zP rfl ?_ rfl ?_;omega)|refine zG rfl rfl rfl rfl ?_|(refine jdq rfl rfl ?_ ?_ ?_;kernel_rfl;kernel_rfl)|refine zB rfl rfl rfl (by repeat constructor) rfl ?_))
    refine J_again (P', [y] ++ Q) ⟨by rw [← hPQ]; simp, by rw [hins]; simp⟩ (by dsimp only; omega) ⟨⟨rfl, rfl, rfl, rfl, rfl, ?_, trivial⟩, fun w s => s⟩
    dsimp only
    rw [show ((A.length + P'.length : Nat) : Int) = ((A.length + (P'.length + 1) : Nat) : Int) - 1 from by omega]
    rfl
  · have hlty : ¬ lt x y = true := fun h => hneg (hr.2 h)
    rw [insL_snoc, if_neg hlty] at hins
    repeat (first|refine zJ rfl rfl ?_|refine jr rfl ?_|refine jn ?_|refine zM rfl rfl ?_|(refine zC rfl rfl ?_ rfl ?_;omega)|(refine zD rfl rfl ?_ rfl ?_;omega)|(refine zP rfl ?_ rfl ?_;omega)|refine zG rfl rfl rfl rfl ?_|(refine jdq rfl rfl ?_ ?_ ?_;kernel_rfl;kernel_rfl)|refine zB rfl rfl rfl (by repeat constructor) rfl ?_)
    refine J_again (i + 1) ⟨by omega, by omega⟩ (by omega) ⟨⟨rfl, rfl, rfl, rfl, rfl, trivial⟩, fun w s => ?_⟩
    rw [hso, hins]
    rw [hL, hR] at s
    simpa [List.append_assoc] using s
end Go.Proofs.Ytmicjjhkoicdnaa
