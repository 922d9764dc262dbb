/-
  Proofs in a row of the call's own: two ranges swapped, rotated. Conditions are typed with each.
-/
import Derived.Test.YtmicjjhkoicdnaaJa
namespace Go.Proofs.Ytmicjjhkoicdnaa
open Go.RowKit
set_option maxRecDepth 100000
section
variable {α : Type}
theorem get_mid (P : List α) (x : α) (Q : List α) : (P ++ x :: Q)[P.length]? = some x := by rw [List.getElem?_append_right (Nat.le_refl _), Nat.sub_self]; rfl
theorem set_mid (P : List α) (x z : α) (Q : List α) : (P ++ x :: Q).set P.length z = P ++ z :: Q := by rw [List.set_append_right _ _ (Nat.le_refl _), Nat.sub_self]; rfl
theorem get_at {L P : List α} {x : α} {Q : List α} {i : Nat} (h : L = P ++ x :: Q) (hi : P.length = i) : L[i]? = some x := by subst h; subst hi; exact get_mid P x Q
theorem set_at {L P : List α} {x z : α} {Q : List α} {i : Nat} (h : L = P ++ x :: Q) (hi : P.length = i) : L.set i z = P ++ z :: Q := by subst h; subst hi; exact set_mid P x z Q
end
def pfO {α : Type} (cs : α → List Value) (b n c : Nat) (L : List α) : Asrt := own (.slice (some ⟨b, 0, none⟩) n c) 43 3 n (rowC cs L)
set_option maxHeartbeats 16000000 in
theorem pf_swap {α : Type} (cs : α → List Value) (hm : ∀ x, (cs x).length = 3) (ho : ∀ x, Ones (cs x)) (f : FuncId) (b n c : Nat) (A U M V B : List α) (F : PH) (hn : (A ++ (U ++ (M ++ (V ++ B)))).length = n) (hn1 : n ≤ 1000) (hUV : U.length = V.length) :
    Spec Try.prog 62 [.slice (some ⟨b, 0, none⟩) n c, .int .i64 A.length, .int .i64 (A.length + U.length + M.length : Nat), .int .i64 U.length, fnV f []] F [pfO cs b n c (A ++ (U ++ (M ++ (V ++ B))))] fun u F' H' => u = .tuple #[] ∧ F = F' ∧ H' = [pfO cs b n c (A ++ (V ++ (M ++ (U ++ B))))] := by
  simp only [List.length_append] at hn
  refine Spec.of5 Try.func62 rfl rfl fun X w0 => ?_
  dsimp only [List.cons_append, List.nil_append]
  repeat (first|refine zJ rfl rfl ?_|refine jr rfl ?_|refine jn ?_|refine zM rfl rfl ?_|(refine zC rfl rfl ?_ rfl ?_;omega)|(refine zD rfl rfl ?_ rfl ?_;omega)|(refine zP rfl ?_ rfl ?_;omega)|refine zG rfl rfl rfl rfl ?_|(refine jdq rfl rfl ?_ ?_ ?_;kernel_rfl;kernel_rfl)|refine zB rfl rfl rfl (by repeat constructor) rfl ?_)
  refine J_loop (ι := Nat) (fun i => i ≤ U.length) (fun i => U.length - i) (fun i => [(0, .slice (some ⟨b, 0, none⟩) n c), (1, .int .i64 A.length), (2, .int .i64 (A.length + U.length + M.length : Nat)), (3, .int .i64 U.length), (10, .int .i64 i)]) (fun _ => F) (fun i => pfO cs b n c (A ++ ((V.take i ++ U.drop i) ++ (M ++ ((U.take i ++ V.drop i) ++ B)))) :: X) 0 (Nat.zero_le _) ⟨⟨rfl, rfl, rfl, rfl, rfl, trivial⟩, fun _ s => s⟩ ?_
  intro i hi
  by_cases hlt : i < U.length
  · have hu : U.drop i = U[i] :: U.drop (i + 1) := List.drop_eq_getElem_cons hlt
    have hv : V.drop i = V[i]'(by omega) :: V.drop (i + 1) := List.drop_eq_getElem_cons (by omega)
    have tu : U.take (i + 1) = U.take i ++ [U[i]] := List.take_succ_eq_append_getElem hlt
    have tv : V.take (i + 1) = V.take i ++ [V[i]'(by omega)] := List.take_succ_eq_append_getElem (by omega)
    have lu : (U.take i).length = i := by rw [List.length_take]; omega
    have lv : (V.take i).length = i := by rw [List.length_take]; omega
    have ld : (U.drop (i + 1)).length = U.length - (i + 1) := by rw [List.length_drop]
    generalize U[i] = x at *
    generalize V[i]'(by omega) = y at *
    obtain ⟨L, hL⟩ : ∃ L, L = A ++ ((V.take i ++ U.drop i) ++ (M ++ ((U.take i ++ V.drop i) ++ B))) := ⟨_, rfl⟩
    rw [← hL]
    have g1 := get_at (L := L) (P := A ++ V.take i) (x := x) (Q := U.drop (i + 1) ++ (M ++ (U.take i ++ (y :: V.drop (i + 1) ++ B)))) (i := A.length + i) (by rw [hL, hu, hv]; simp [List.append_assoc]) (by rw [List.length_append, lv])
    have s1 := set_at (L := L) (P := A ++ V.take i) (x := x) (z := y) (Q := U.drop (i + 1) ++ (M ++ (U.take i ++ (y :: V.drop (i + 1) ++ B)))) (i := A.length + i) (by rw [hL, hu, hv]; simp [List.append_assoc]) (by rw [List.length_append, lv])
    have g2 := get_at (L := L) (P := A ++ (V.take i ++ (x :: U.drop (i + 1) ++ (M ++ U.take i)))) (x := y) (Q := V.drop (i + 1) ++ B) (i := A.length + U.length + M.length + i) (by rw [hL, hu, hv]; simp [List.append_assoc]) (by simp only [List.length_append, List.length_cons, lv, lu, ld]; omega)
    have s2 := set_at (L := L.set (A.length + i) y) (P := A ++ (V.take i ++ (y :: U.drop (i + 1) ++ (M ++ U.take i)))) (x := y) (z := x) (Q := V.drop (i + 1) ++ B) (i := A.length + U.length + M.length + i) (by rw [s1]; simp [List.append_assoc]) (by simp only [List.length_append, List.length_cons, lv, lu, ld]; omega)
    have hnext : (L.set (A.length + i) y).set (A.length + U.length + M.length + i) x = A ++ ((V.take (i + 1) ++ U.drop (i + 1)) ++ (M ++ ((U.take (i + 1) ++ V.drop (i + 1)) ++ B))) := by
      rw [s2, tu, tv]; simp [List.append_assoc]
    have hLn : L.length = n := by rw [hL]; simp only [List.length_append, lu, lv, List.length_drop]; omega
    unfold pfO
    repeat (first|refine zJ rfl rfl ?_|refine jr rfl ?_|refine jn ?_|refine zM rfl rfl ?_|(refine zC rfl rfl ?_ rfl ?_;omega)|(refine zD rfl rfl ?_ rfl ?_;omega)|(refine zP rfl ?_ rfl ?_;omega)|refine zG rfl rfl rfl rfl ?_|(refine jdq rfl rfl ?_ ?_ ?_;kernel_rfl;kernel_rfl)|refine zB rfl rfl rfl (by repeat constructor) rfl ?_)
    refine ja PH.emp [] ?_ (fun w s => s.any) ?_; kernel_rfl
    refine aT 4 rfl (ev_qe rfl) rfl rfl ?_ ?_ ?_ ?_; kernel_rfl; kernel_rfl; kernel_rfl
    refine aT 5 rfl (ev_qe rfl) rfl rfl ?_ ?_ ?_ ?_; kernel_rfl; kernel_rfl; kernel_rfl
    refine aT 6 rfl (ev_qe rfl) rfl rfl ?_ ?_ ?_ ?_; kernel_rfl; kernel_rfl; kernel_rfl
    refine aT 7 rfl (ea rfl rfl rfl (by dsimp only [InK]; omega)) rfl rfl ?_ ?_ ?_ ?_; kernel_rfl; kernel_rfl; kernel_rfl
    refine aL (fun o => o.take 4 ++ (o.drop 8).take 13) [21, 22, 23] ([0, 1, 2, 3] ++ List.range' 8 13) 3 rfl ?_ ?_ ?_ ?_ ?_ ?_; kernel_rfl; kernel_rfl; kernel_rfl; kernel_rfl; kernel_rfl; dsimp only [List.take, List.drop, List.cons_append, List.nil_append]
    repeat (first|refine zJ rfl rfl ?_|refine jr rfl ?_|refine jn ?_|refine zM rfl rfl ?_|(refine zC rfl rfl ?_ rfl ?_;omega)|(refine zD rfl rfl ?_ rfl ?_;omega)|(refine zP rfl ?_ rfl ?_;omega)|refine zG rfl rfl rfl rfl ?_|(refine jdq rfl rfl ?_ ?_ ?_;kernel_rfl;kernel_rfl)|refine zB rfl rfl rfl (by repeat constructor) rfl ?_)
    refine oS (ev_indexAddr (i := A.length + U.length + M.length + i) rfl rfl rfl (by omega)) rfl ?_
    refine oS (ev_load_agg (cs := cs y) rfl rfl (rdb_row .here hm g2) (hm y)) rfl ?_
    repeat (first|refine zJ rfl rfl ?_|refine jr rfl ?_|refine jn ?_|refine zM rfl rfl ?_|(refine zC rfl rfl ?_ rfl ?_;omega)|(refine zD rfl rfl ?_ rfl ?_;omega)|(refine zP rfl ?_ rfl ?_;omega)|refine zG rfl rfl rfl rfl ?_|(refine jdq rfl rfl ?_ ?_ ?_;kernel_rfl;kernel_rfl)|refine zB rfl rfl rfl (by repeat constructor) rfl ?_)
    refine oS (ev_indexAddr (i := A.length + i) rfl rfl rfl (by omega)) rfl ?_
    refine oS (ev_load_agg (cs := cs x) rfl rfl (rdb_row .here hm g1) (hm x)) rfl ?_
    refine oS (ev_indexAddr (i := A.length + i) rfl rfl rfl (by omega)) rfl ?_
    refine jn ?_
    refine aR ?_
    refine aB (i := 21) (by kernel_rfl) (aN rfl (ev_store_own rfl rfl .agg rfl (hm y) (by rw [Nat.zero_add]; exact lay_row hm y _ (A.length + i) (by omega)) (ho y) .here) rfl (fun _ _ _ _ _ w s => s.any) ?_)
    rintro _ _ _ _ ⟨rfl, _, rfl⟩
    refine aT 22 rfl (ev_indexAddr (i := A.length + U.length + M.length + i) rfl rfl rfl (by omega)) rfl rfl ?_ ?_ ?_ ?_; kernel_rfl; kernel_rfl; kernel_rfl
    refine aB (i := 23) (by kernel_rfl) (aN rfl (ev_store_own rfl rfl .agg rfl (hm x) (by rw [Nat.zero_add]; exact lay_row hm x _ (A.length + U.length + M.length + i) (by rw [List.length_set]; omega)) (ho x) .here) rfl (fun _ _ _ _ _ w s => s.any) ?_)
    rintro _ _ _ _ ⟨rfl, _, rfl⟩
    rw [hnext]
    refine aD (by kernel_rfl) ?_
    repeat (first|refine zJ rfl rfl ?_|refine jr rfl ?_|refine jn ?_|refine zM rfl rfl ?_|(refine zC rfl rfl ?_ rfl ?_;omega)|(refine zD rfl rfl ?_ rfl ?_;omega)|(refine zP rfl ?_ rfl ?_;omega)|refine zG rfl rfl rfl rfl ?_|(refine jdq rfl rfl ?_ ?_ ?_;kernel_rfl;kernel_rfl)|refine zB rfl rfl rfl (by repeat constructor) rfl ?_)
    exact J_again (i + 1) hlt (by omega) ⟨⟨rfl, rfl, rfl, rfl, rfl, trivial⟩, fun w s => s⟩
  · obtain rfl : i = U.length := by omega
    rw [List.take_length, List.drop_length, hUV, List.take_length, List.drop_length, List.append_nil, List.append_nil]
    repeat (first|refine zJ rfl rfl ?_|refine jr rfl ?_|refine jn ?_|refine zM rfl rfl ?_|(refine zC rfl rfl ?_ rfl ?_;omega)|(refine zD rfl rfl ?_ rfl ?_;omega)|(refine zP rfl ?_ rfl ?_;omega)|refine zG rfl rfl rfl rfl ?_|(refine jdq rfl rfl ?_ ?_ ?_;kernel_rfl;kernel_rfl)|refine zB rfl rfl rfl (by repeat constructor) rfl ?_)
    refine zE rfl ?_
    exact J_end (F0 := F) (X := X) rfl [_] (fun w s => s) (PH.ler _) ⟨rfl, rfl, rfl⟩
theorem spec_args {P : Program} {f : FuncId} {a a' : List Value} {F : PH} {H : List Asrt} {Q : Value → PH → List Asrt → Prop} (h : Spec P f a F H Q) (e : a = a') : Spec P f a' F H Q := e ▸ h
set_option maxHeartbeats 16000000 in
theorem pf_rot {α : Type} (cs : α → List Value) (hm : ∀ x, (cs x).length = 3) (ho : ∀ x, Ones (cs x)) (f : FuncId) (b n c : Nat) (A U V B : List α) (F : PH) (hn : (A ++ (U ++ (V ++ B))).length = n) (hn1 : n ≤ 1000) (hU : 0 < U.length) (hV : 0 < V.length) :
    Spec Try.prog 61 [.slice (some ⟨b, 0, none⟩) n c, .int .i64 A.length, .int .i64 (A.length + U.length : Nat), .int .i64 (A.length + U.length + V.length : Nat), fnV f []] F [pfO cs b n c (A ++ (U ++ (V ++ B)))] fun u F' H' => u = .tuple #[] ∧ F = F' ∧ H' = [pfO cs b n c (A ++ (V ++ (U ++ B)))] := by
  simp only [List.length_append] at hn
  refine Spec.of5 Try.func61 rfl rfl fun X w0 => ?_
  dsimp only [List.cons_append, List.nil_append]
  obtain ⟨m, hmm⟩ : ∃ m, m = A.length + U.length := ⟨_, rfl⟩
  rw [← hmm]
  repeat (first|refine zJ rfl rfl ?_|refine jr rfl ?_|refine jn ?_|refine zM rfl rfl ?_|(refine zC rfl rfl ?_ rfl ?_;omega)|(refine zD rfl rfl ?_ rfl ?_;omega)|(refine zP rfl ?_ rfl ?_;omega)|refine zG rfl rfl rfl rfl ?_|(refine jdq rfl rfl ?_ ?_ ?_;kernel_rfl;kernel_rfl)|refine zB rfl rfl rfl (by repeat constructor) rfl ?_)
  rw [show (m : Int) - (A.length : Int) = (U.length : Int) from by omega, show ((m + V.length : Nat) : Int) - (m : Int) = (V.length : Int) from by omega]
  refine J_loop (ι := List α × List α × List α × List α) (fun p => p.1 ++ (p.2.2.1 ++ (p.2.1 ++ p.2.2.2)) = A ++ (V ++ (U ++ B)) ∧ p.1.length + p.2.1.length = m ∧ 0 < p.2.1.length ∧ 0 < p.2.2.1.length ∧ p.1.length + p.2.1.length + p.2.2.1.length + p.2.2.2.length = n) (fun p => p.2.1.length + p.2.2.1.length) (fun p => [(0, .slice (some ⟨b, 0, none⟩) n c), (2, .int .i64 m), (4, fnV f []), (10, .int .i64 p.2.1.length), (11, .int .i64 p.2.2.1.length)]) (fun _ => F) (fun p => pfO cs b n c (p.1 ++ (p.2.1 ++ (p.2.2.1 ++ p.2.2.2))) :: X) (A, U, V, B) ⟨rfl, hmm.symm, hU, hV, by dsimp only; omega⟩ ⟨⟨rfl, rfl, rfl, rfl, rfl, trivial⟩, fun _ s => s⟩ ?_
  rintro ⟨P, U1, V1, S⟩ ⟨hfin, hP, hu, hv, hlen⟩
  dsimp only at hfin hP hu hv hlen ⊢
  by_cases heq : U1.length = V1.length
  · repeat (first|refine zJ rfl rfl ?_|refine jr rfl ?_|refine jn ?_|refine zM rfl rfl ?_|(refine zC rfl rfl ?_ rfl ?_;omega)|(refine zD rfl rfl ?_ rfl ?_;omega)|(refine zP rfl ?_ rfl ?_;omega)|refine zG rfl rfl rfl rfl ?_|(refine jdq rfl rfl ?_ ?_ ?_;kernel_rfl;kernel_rfl)|refine zB rfl rfl rfl (by repeat constructor) rfl ?_)
    have sp := pf_swap cs hm ho f b n c P U1 [] V1 S F (by simp only [List.length_append, List.length_nil]; omega) hn1 heq
    simp only [List.nil_append] at sp
    rw [hfin] at sp
    rw [show (m : Int) - (U1.length : Int) = (P.length : Int) from by omega]
    refine oC (Hc := [_]) (Hr := X) (spec_args sp (by rw [show P.length + U1.length + ([] : List α).length = m from by simp; omega])) Try.call62 rfl rfl (fun _ s => s) ?_
    rintro _ _ _ _ ⟨rfl, rfl, rfl⟩
    repeat (first|refine zJ rfl rfl ?_|refine jr rfl ?_|refine jn ?_|refine zM rfl rfl ?_|(refine zC rfl rfl ?_ rfl ?_;omega)|(refine zD rfl rfl ?_ rfl ?_;omega)|(refine zP rfl ?_ rfl ?_;omega)|refine zG rfl rfl rfl rfl ?_|(refine jdq rfl rfl ?_ ?_ ?_;kernel_rfl;kernel_rfl)|refine zB rfl rfl rfl (by repeat constructor) rfl ?_)
    refine zE rfl ?_
    exact J_end (F0 := F) (X := X) rfl [_] (fun w s => s) (PH.ler _) ⟨rfl, rfl, rfl⟩
  by_cases hgt : V1.length < U1.length
  · repeat (first|refine zJ rfl rfl ?_|refine jr rfl ?_|refine jn ?_|refine zM rfl rfl ?_|(refine zC rfl rfl ?_ rfl ?_;omega)|(refine zD rfl rfl ?_ rfl ?_;omega)|(refine zP rfl ?_ rfl ?_;omega)|refine zG rfl rfl rfl rfl ?_|(refine jdq rfl rfl ?_ ?_ ?_;kernel_rfl;kernel_rfl)|refine zB rfl rfl rfl (by repeat constructor) rfl ?_)
    obtain ⟨Ua, Ub, rfl, hua⟩ : ∃ Ua Ub, U1 = Ua ++ Ub ∧ Ua.length = V1.length := ⟨U1.take V1.length, U1.drop V1.length, (List.take_append_drop _ _).symm, by rw [List.length_take]; omega⟩
    rw [List.length_append] at *
    have sp := pf_swap cs hm ho f b n c P Ua Ub V1 S F (by simp only [List.length_append]; omega) hn1 hua
    rw [show (m : Int) - ((Ua.length + Ub.length : Nat) : Int) = (P.length : Int) from by omega]
    refine oC (Hc := [pfO cs b n c (P ++ (Ua ++ (Ub ++ (V1 ++ S))))]) (Hr := X) (spec_args sp (by rw [show P.length + Ua.length + Ub.length = m from by omega, hua])) Try.call62 rfl rfl (fun _ s => by rw [List.append_assoc] at s; exact s) ?_
    rintro _ _ _ _ ⟨rfl, rfl, rfl⟩
    repeat (first|refine zJ rfl rfl ?_|refine jr rfl ?_|refine jn ?_|refine zM rfl rfl ?_|(refine zC rfl rfl ?_ rfl ?_;omega)|(refine zD rfl rfl ?_ rfl ?_;omega)|(refine zP rfl ?_ rfl ?_;omega)|refine zG rfl rfl rfl rfl ?_|(refine jdq rfl rfl ?_ ?_ ?_;kernel_rfl;kernel_rfl)|refine zB rfl rfl rfl (by repeat constructor) rfl ?_)
    refine J_again (P ++ V1, Ub, Ua, S) ⟨by dsimp only; rw [← hfin]; simp [List.append_assoc], by dsimp only; rw [List.length_append]; omega, by dsimp only; omega, by dsimp only; omega, by dsimp only; rw [List.length_append]; omega⟩ (by dsimp only; omega) ⟨⟨rfl, rfl, rfl, ?_, ?_, trivial⟩, fun w s => by dsimp only; rw [List.append_assoc]; exact s⟩
    · dsimp only
      rw [show (Ub.length : Int) = ((Ua.length + Ub.length : Nat) : Int) - (V1.length : Int) from by omega]
      rfl
    · dsimp only
      rw [hua]
      rfl
  · repeat (first|refine zJ rfl rfl ?_|refine jr rfl ?_|refine jn ?_|refine zM rfl rfl ?_|(refine zC rfl rfl ?_ rfl ?_;omega)|(refine zD rfl rfl ?_ rfl ?_;omega)|(refine zP rfl ?_ rfl ?_;omega)|refine zG rfl rfl rfl rfl ?_|(refine jdq rfl rfl ?_ ?_ ?_;kernel_rfl;kernel_rfl)|refine zB rfl rfl rfl (by repeat constructor) rfl ?_)
    obtain ⟨Va, Vb, rfl, hvb⟩ : ∃ Va Vb, V1 = Va ++ Vb ∧ Vb.length = U1.length := ⟨V1.take (V1.length - U1.length), V1.drop (V1.length - U1.length), (List.take_append_drop _ _).symm, by rw [List.length_drop]; omega⟩
    rw [List.length_append] at *
    have sp := pf_swap cs hm ho f b n c P U1 Va Vb S F (by simp only [List.length_append]; omega) hn1 hvb.symm
    rw [show (m : Int) - (U1.length : Int) = (P.length : Int) from by omega, show (m : Int) + ((Va.length + Vb.length : Nat) : Int) - (U1.length : Int) = ((P.length + U1.length + Va.length : Nat) : Int) from by omega]
    refine oC (Hc := [pfO cs b n c (P ++ (U1 ++ (Va ++ (Vb ++ S))))]) (Hr := X) sp Try.call62 rfl rfl (fun _ s => by rw [List.append_assoc] at s; exact s) ?_
    rintro _ _ _ _ ⟨rfl, rfl, rfl⟩
    repeat (first|refine zJ rfl rfl ?_|refine jr rfl ?_|refine jn ?_|refine zM rfl rfl ?_|(refine zC rfl rfl ?_ rfl ?_;omega)|(refine zD rfl rfl ?_ rfl ?_;omega)|(refine zP rfl ?_ rfl ?_;omega)|refine zG rfl rfl rfl rfl ?_|(refine jdq rfl rfl ?_ ?_ ?_;kernel_rfl;kernel_rfl)|refine zB rfl rfl rfl (by repeat constructor) rfl ?_)
    refine J_again (P, Vb, Va, U1 ++ S) ⟨by dsimp only; rw [← hfin]; simp [List.append_assoc], by dsimp only; omega, by dsimp only; omega, by dsimp only; omega, by dsimp only; rw [List.length_append]; omega⟩ (by dsimp only; omega) ⟨⟨rfl, rfl, rfl, ?_, ?_, trivial⟩, fun w s => s⟩
    · dsimp only
      rw [hvb]
      rfl
    · dsimp only
      rw [show (Va.length : Int) = ((Va.length + Vb.length : Nat) : Int) - (U1.length : Int) from by omega]
      rfl
end Go.Proofs.Ytmicjjhkoicdnaa
