/-
  Proofs in a row of the call's own: two sorted parts merged. Conditions are typed with each.
-/
import Derived.Test.YtmicjjhkoicdnaaJd
import Derived.Test.YtmicjjhkoicdnaaKn
namespace Go.Proofs.Ytmicjjhkoicdnaa
open Go.RowKit
set_option maxRecDepth 100000
section
variable {α : Type} {lt : α → α → Bool}
theorem mgd_self {W : List α} (h : Srtd lt W) : Mgd lt W W := ⟨h, SP.rfl' _⟩
theorem Mgd.len {U W : List α} (h : Mgd lt U W) : W.length = U.length := h.2.1.length_eq.symm
end
section
variable {C : Ctx} {k : List KItem} {l : Env} {F : PH} {H : List Asrt}
theorem kpost_open {y z : Code} : ∀ (pre : List KItem) (e : Exit) (a : Act) (w : World), kpost C (pre ++ .code y :: .code z :: k) e a w → kpost C (pre ++ .code (.seq y z) :: k) e a w
  | [], e, a, w, h => by
    cases e with
    | normal => exact wp_seq (wp_mono h fun e a w he => by cases e <;> exact he)
    | _ => exact h
  | .code c :: pre, e, a, w, h => by
    cases e with
    | normal => exact wp_mono h fun e a w he => kpost_open pre e a w he
    | _ => exact kpost_open pre _ a w h
  | .blk id :: pre, e, a, w, h => by
    cases e with
    | normal => exact kpost_open pre _ a w h
    | exit id' =>
      show (if id' = id then kpost C (pre ++ .code (.seq y z) :: k) .normal a w else kpost C (pre ++ .code (.seq y z) :: k) (.exit id') a w)
      have h' : (if id' = id then kpost C (pre ++ .code y :: .code z :: k) .normal a w else kpost C (pre ++ .code y :: .code z :: k) (.exit id') a w) := h
      split
      · rename_i e; rw [if_pos e] at h'; exact kpost_open pre _ a w h'
      · rename_i e; rw [if_neg e] at h'; exact kpost_open pre _ a w h'
    | _ => exact kpost_open pre _ a w h
  | .again G' :: pre, e, a, w, h => by
    cases e with
    | normal => exact h
    | _ => exact kpost_open pre _ a w h
/-- A row somewhere behind, laid open. -/
theorem J_openAt (pre : List KItem) {y z : Code} (h : J C (pre ++ .code y :: .code z :: k) l F H) : J C (pre ++ .code (.seq y z) :: k) l F H := by
  unfold J at h ⊢
  exact fun a w ha hm hs => kpost_open pre _ a w (h a w ha hm hs)
end
set_option maxHeartbeats 16000000 in
theorem pf_sym {α : Type} (cs : α → List Value) (hm : ∀ x, (cs x).length = 3) (ho : ∀ x, Ones (cs x)) (lt : α → α → Bool) (hs : Swo lt) (f : FuncId) (hf : ∀ args w, (callFunc f args).run Try.prog w = .ok (.enter f args) w)
    (hc : Cmp cs lt f) (b n c : Nat) : ∀ (k : Nat) (A U V B : List α) (F : PH), U.length + V.length ≤ k → (A ++ (U ++ (V ++ B))).length = n → n ≤ 1000 → 0 < U.length → 0 < V.length → Srtd lt U → Srtd lt V →
    Spec Try.prog 59 [.slice (some ⟨b, 0, none⟩) n c, .int .i64 A.length, .int .i64 (A.length + U.length : Nat), .int .i64 (A.length + U.length + V.length : Nat), fnV f []] F [pfO cs b n c (A ++ (U ++ (V ++ B)))] fun u F' H' => u = .tuple #[] ∧ F = F' ∧ ∃ W, H' = [pfO cs b n c (A ++ (W ++ B))] ∧ Mgd lt (U ++ V) W
  | 0, A, U, V, B, F, hk, _, _, hU0, _, _, _ => absurd hU0 (by omega)
  | k + 1, A, U, V, B, F, hk, hn, hn1, hU0, hV0, hU, hV => by
    by_cases hu1 : U.length = 1
    · obtain ⟨x, rfl⟩ := List.length_eq_one_iff.1 hu1
      exact pf_sym1 cs hm ho lt hs f hf hc b n c A x V B F hn hn1 hV
    by_cases hv1 : V.length = 1
    · obtain ⟨y, rfl⟩ := List.length_eq_one_iff.1 hv1
      exact pf_sym2 cs hm ho lt hs f hf hc b n c A U y B F hn hn1 (by omega) hU
    have hU2 : 2 ≤ U.length := by omega
    have hV2 : 2 ≤ V.length := by omega
    clear hu1 hv1 hU0 hV0
    simp only [List.length_append] at hn
    refine Spec.of5 Try.func59 rfl rfl fun X w0 => ?_
    dsimp only [List.cons_append, List.nil_append]
    obtain ⟨L, hL⟩ : ∃ L, L = A ++ (U ++ (V ++ B)) := ⟨_, rfl⟩
    rw [← hL]
    have hLn : L.length = n := by rw [hL]; simp only [List.length_append]; omega
    obtain ⟨h0, hh0, hh1⟩ : ∃ h0, (A.length + (A.length + U.length + V.length)) >>> 1 = A.length + h0 ∧ h0 = (U.length + V.length) / 2 := ⟨(U.length + V.length) / 2, by rw [Nat.shiftRight_eq_div_pow]; omega, rfl⟩
    repeat (first|refine zJ rfl rfl ?_|refine jr rfl ?_|refine jn ?_|refine zM rfl rfl ?_|(refine zC rfl rfl ?_ rfl ?_;omega)|(refine zD rfl rfl ?_ rfl ?_;omega)|(refine zP rfl ?_ rfl ?_;omega)|refine zG rfl rfl rfl rfl ?_|(refine jdq rfl rfl ?_ ?_ ?_;kernel_rfl;kernel_rfl)|refine zB rfl rfl rfl (by repeat constructor) rfl ?_)
    refine oS (ev_shr (m := A.length + (A.length + U.length + V.length)) (n := 1) rfl rfl (by show A.length + (A.length + U.length + V.length) < 2 ^ 64; omega)) rfl ?_
    rw [hh0]
    clear hh0
    repeat (first|refine zJ rfl rfl ?_|refine jr rfl ?_|refine jn ?_|refine zM rfl rfl ?_|(refine zC rfl rfl ?_ rfl ?_;omega)|(refine zD rfl rfl ?_ rfl ?_;omega)|(refine zP rfl ?_ rfl ?_;omega)|refine zG rfl rfl rfl rfl ?_|(refine jdq rfl rfl ?_ ?_ ?_;kernel_rfl;kernel_rfl)|refine zB rfl rfl rfl (by repeat constructor) rfl ?_)
    refine J_join (ι := Nat × Nat) [_] (fun p => (p.1 + V.length = h0 ∨ p.1 = 0) ∧ (p.2 = h0 ∨ p.2 = U.length) ∧ p.1 ≤ p.2 ∧ p.2 ≤ U.length ∧ p.2 ≤ h0 ∧ h0 ≤ p.1 + V.length) (fun p => [(0, .slice (some ⟨b, 0, none⟩) n c), (1, .int .i64 A.length), (2, .int .i64 (A.length + U.length : Nat)), (3, .int .i64 (A.length + U.length + V.length : Nat)), (4, fnV f []), (18, .int .i64 (A.length + h0 : Nat)), (19, .int .i64 (A.length + h0 + (A.length + U.length) : Nat)), (20, .int .i64 (A.length + p.1 : Nat)), (21, .int .i64 (A.length + p.2 : Nat))]) (fun _ => F) (fun _ => pfO cs b n c L :: X) ?_ ?_
    · dsimp only [List.cons_append, List.nil_append]
      by_cases hgt : h0 < U.length
      · rw [decide_eq_true (show ((A.length + h0 : Nat) : Int) < ((A.length + U.length : Nat) : Int) by omega)]
        repeat (first|refine zJ rfl rfl ?_|refine jr rfl ?_|refine jn ?_|refine zM rfl rfl ?_|(refine zC rfl rfl ?_ rfl ?_;omega)|(refine zD rfl rfl ?_ rfl ?_;omega)|(refine zP rfl ?_ rfl ?_;omega)|refine zG rfl rfl rfl rfl ?_|(refine jdq rfl rfl ?_ ?_ ?_;kernel_rfl;kernel_rfl)|refine zB rfl rfl rfl (by repeat constructor) rfl ?_)
        refine J_joined (h0 - V.length, h0) ⟨by dsimp only; omega, .inl rfl, by dsimp only; omega, by dsimp only; omega, Nat.le_refl _, by dsimp only; omega⟩ ⟨⟨rfl, rfl, rfl, rfl, rfl, rfl, rfl, ?_, rfl, trivial⟩, fun w s => s⟩
        dsimp only
        rw [show ((A.length + (h0 - V.length) : Nat) : Int) = ((A.length + h0 + (A.length + U.length) : Nat) : Int) - ((A.length + U.length + V.length : Nat) : Int) from by omega]
        rfl
      · rw [decide_eq_false (show ¬ ((A.length + h0 : Nat) : Int) < ((A.length + U.length : Nat) : Int) by omega)]
        repeat (first|refine zJ rfl rfl ?_|refine jr rfl ?_|refine jn ?_|refine zM rfl rfl ?_|(refine zC rfl rfl ?_ rfl ?_;omega)|(refine zD rfl rfl ?_ rfl ?_;omega)|(refine zP rfl ?_ rfl ?_;omega)|refine zG rfl rfl rfl rfl ?_|(refine jdq rfl rfl ?_ ?_ ?_;kernel_rfl;kernel_rfl)|refine zB rfl rfl rfl (by repeat constructor) rfl ?_)
        exact J_joined (0, U.length) ⟨.inr rfl, .inr rfl, by dsimp only; omega, Nat.le_refl _, by dsimp only; omega, by dsimp only; omega⟩ ⟨⟨rfl, rfl, rfl, rfl, rfl, rfl, rfl, rfl, rfl, trivial⟩, fun w s => s⟩
    rintro ⟨s0, r0⟩ ⟨hs0, hr0, hsr, hru, hrh, hsv⟩
    dsimp only at hs0 hr0 hsr hru hrh hsv ⊢
    refine J_seq ?_
    refine J_open ?_
    refine J_openAt [_, _] ?_
    refine J_join (ι := List α × List α × List α × List α) [_, _, _] (fun p => U = p.1 ++ p.2.1 ∧ V = p.2.2.1 ++ p.2.2.2 ∧ p.1.length + p.2.2.1.length = h0 ∧ (∀ {W1 W2}, Mgd lt (p.1 ++ p.2.2.1) W1 → Mgd lt (p.2.1 ++ p.2.2.2) W2 → Mgd lt (U ++ V) (W1 ++ W2)))
      (fun p => [(0, .slice (some ⟨b, 0, none⟩) n c), (1, .int .i64 A.length), (2, .int .i64 (A.length + U.length : Nat)), (3, .int .i64 (A.length + U.length + V.length : Nat)), (4, fnV f []), (18, .int .i64 (A.length + h0 : Nat)), (20, .int .i64 (A.length + p.1.length : Nat)), (24, .int .i64 (A.length + U.length + p.2.2.1.length : Nat))]) (fun _ => F) (fun _ => pfO cs b n c L :: X) ?_ ?_
    rotate_left
    · rintro ⟨U1, U2, V1, V2⟩ ⟨rfl, rfl, hl0, mg⟩
      dsimp only at hl0 mg ⊢
      clear hs0 hr0 hsr hru hrh hsv
      have hUs := srtd_app.1 hU
      have hVs := srtd_app.1 hV
      simp only [List.length_append] at *
      subst hl0
      refine J_seq ?_
      refine J_join (ι := Unit) [_] (fun _ => True) (fun _ => [(0, .slice (some ⟨b, 0, none⟩) n c), (1, .int .i64 A.length), (3, .int .i64 (A.length + (U1.length + U2.length) + (V1.length + V2.length) : Nat)), (4, fnV f []), (18, .int .i64 (A.length + (U1.length + V1.length) : Nat)), (20, .int .i64 (A.length + U1.length : Nat)), (24, .int .i64 (A.length + (U1.length + U2.length) + V1.length : Nat))]) (fun _ => F) (fun _ => pfO cs b n c (A ++ (U1 ++ (V1 ++ (U2 ++ (V2 ++ B))))) :: X) ?_ ?_
      · dsimp only [List.cons_append, List.nil_append]
        by_cases hu0 : U2.length = 0
        · obtain rfl := List.eq_nil_of_length_eq_zero hu0
          rw [List.length_nil] at *
          repeat (first|refine zJ rfl rfl ?_|refine jr rfl ?_|refine jn ?_|refine zM rfl rfl ?_|(refine zC rfl rfl ?_ rfl ?_;omega)|(refine zD rfl rfl ?_ rfl ?_;omega)|(refine zP rfl ?_ rfl ?_;omega)|refine zG rfl rfl rfl rfl ?_|(refine jdq rfl rfl ?_ ?_ ?_;kernel_rfl;kernel_rfl)|refine zB rfl rfl rfl (by repeat constructor) rfl ?_)
          exact J_joined () trivial ⟨⟨rfl, rfl, rfl, rfl, rfl, rfl, rfl, trivial⟩, fun w s => by rw [hL] at s; simpa [List.append_assoc] using s⟩
        by_cases hv0 : V1.length = 0
        · obtain rfl := List.eq_nil_of_length_eq_zero hv0
          rw [List.length_nil] at *
          repeat (first|refine zJ rfl rfl ?_|refine jr rfl ?_|refine jn ?_|refine zM rfl rfl ?_|(refine zC rfl rfl ?_ rfl ?_;omega)|(refine zD rfl rfl ?_ rfl ?_;omega)|(refine zP rfl ?_ rfl ?_;omega)|refine zG rfl rfl rfl rfl ?_|(refine jdq rfl rfl ?_ ?_ ?_;kernel_rfl;kernel_rfl)|refine zB rfl rfl rfl (by repeat constructor) rfl ?_)
          exact J_joined () trivial ⟨⟨rfl, rfl, rfl, rfl, rfl, rfl, rfl, trivial⟩, fun w s => by rw [hL] at s; simpa [List.append_assoc] using s⟩
        · repeat (first|refine zJ rfl rfl ?_|refine jr rfl ?_|refine jn ?_|refine zM rfl rfl ?_|(refine zC rfl rfl ?_ rfl ?_;omega)|(refine zD rfl rfl ?_ rfl ?_;omega)|(refine zP rfl ?_ rfl ?_;omega)|refine zG rfl rfl rfl rfl ?_|(refine jdq rfl rfl ?_ ?_ ?_;kernel_rfl;kernel_rfl)|refine zB rfl rfl rfl (by repeat constructor) rfl ?_)
          have sp := pf_rot cs hm ho f b n c (A ++ U1) U2 V1 (V2 ++ B) F (by simp only [List.length_append]; omega) hn1 (by omega) (by omega)
          rw [List.length_append] at sp
          refine oC (Hc := [_]) (Hr := X) (spec_args sp (by rw [show A.length + U1.length + U2.length = A.length + (U1.length + U2.length) from by omega])) Try.call61 rfl rfl (fun _ s => by rw [hL] at s; simpa [List.append_assoc] using s) ?_
          rintro _ _ _ _ ⟨rfl, rfl, rfl⟩
          repeat (first|refine zJ rfl rfl ?_|refine jr rfl ?_|refine jn ?_|refine zM rfl rfl ?_|(refine zC rfl rfl ?_ rfl ?_;omega)|(refine zD rfl rfl ?_ rfl ?_;omega)|(refine zP rfl ?_ rfl ?_;omega)|refine zG rfl rfl rfl rfl ?_|(refine jdq rfl rfl ?_ ?_ ?_;kernel_rfl;kernel_rfl)|refine zB rfl rfl rfl (by repeat constructor) rfl ?_)
          exact J_joined () trivial ⟨⟨rfl, rfl, rfl, rfl, rfl, rfl, rfl, trivial⟩, fun w s => by simpa [List.append_assoc] using s⟩
      rintro ⟨⟩ _
      refine J_seq ?_
      refine J_join (ι := List α) [_] (fun W1 => Mgd lt (U1 ++ V1) W1) (fun _ => [(0, .slice (some ⟨b, 0, none⟩) n c), (3, .int .i64 (A.length + (U1.length + U2.length) + (V1.length + V2.length) : Nat)), (4, fnV f []), (18, .int .i64 (A.length + (U1.length + V1.length) : Nat)), (24, .int .i64 (A.length + (U1.length + U2.length) + V1.length : Nat))]) (fun _ => F) (fun W1 => pfO cs b n c (A ++ (W1 ++ (U2 ++ (V2 ++ B)))) :: X) ?_ ?_
      · dsimp only [List.cons_append, List.nil_append]
        by_cases hu0 : U1.length = 0
        · obtain rfl := List.eq_nil_of_length_eq_zero hu0
          rw [List.length_nil] at *
          repeat (first|refine zJ rfl rfl ?_|refine jr rfl ?_|refine jn ?_|refine zM rfl rfl ?_|(refine zC rfl rfl ?_ rfl ?_;omega)|(refine zD rfl rfl ?_ rfl ?_;omega)|(refine zP rfl ?_ rfl ?_;omega)|refine zG rfl rfl rfl rfl ?_|(refine jdq rfl rfl ?_ ?_ ?_;kernel_rfl;kernel_rfl)|refine zB rfl rfl rfl (by repeat constructor) rfl ?_)
          exact J_joined V1 (by rw [List.nil_append]; exact mgd_self hVs.1) ⟨⟨rfl, rfl, rfl, rfl, rfl, trivial⟩, fun w s => s⟩
        by_cases hv0 : V1.length = 0
        · obtain rfl := List.eq_nil_of_length_eq_zero hv0
          rw [List.length_nil] at *
          repeat (first|refine zJ rfl rfl ?_|refine jr rfl ?_|refine jn ?_|refine zM rfl rfl ?_|(refine zC rfl rfl ?_ rfl ?_;omega)|(refine zD rfl rfl ?_ rfl ?_;omega)|(refine zP rfl ?_ rfl ?_;omega)|refine zG rfl rfl rfl rfl ?_|(refine jdq rfl rfl ?_ ?_ ?_;kernel_rfl;kernel_rfl)|refine zB rfl rfl rfl (by repeat constructor) rfl ?_)
          exact J_joined U1 (by rw [List.append_nil]; exact mgd_self hUs.1) ⟨⟨rfl, rfl, rfl, rfl, rfl, trivial⟩, fun w s => s⟩
        · repeat (first|refine zJ rfl rfl ?_|refine jr rfl ?_|refine jn ?_|refine zM rfl rfl ?_|(refine zC rfl rfl ?_ rfl ?_;omega)|(refine zD rfl rfl ?_ rfl ?_;omega)|(refine zP rfl ?_ rfl ?_;omega)|refine zG rfl rfl rfl rfl ?_|(refine jdq rfl rfl ?_ ?_ ?_;kernel_rfl;kernel_rfl)|refine zB rfl rfl rfl (by repeat constructor) rfl ?_)
          have sp := pf_sym cs hm ho lt hs f hf hc b n c k A U1 V1 (U2 ++ (V2 ++ B)) F (by omega) (by simp only [List.length_append]; omega) hn1 (by omega) (by omega) hUs.1 hVs.1
          refine oC (Hc := [_]) (Hr := X) (spec_args sp (by rw [show A.length + U1.length + V1.length = A.length + (U1.length + V1.length) from by omega])) Try.call59 rfl rfl (fun _ s => s) ?_
          rintro _ _ _ _ ⟨rfl, rfl, W1, rfl, hW1⟩
          repeat (first|refine zJ rfl rfl ?_|refine jr rfl ?_|refine jn ?_|refine zM rfl rfl ?_|(refine zC rfl rfl ?_ rfl ?_;omega)|(refine zD rfl rfl ?_ rfl ?_;omega)|(refine zP rfl ?_ rfl ?_;omega)|refine zG rfl rfl rfl rfl ?_|(refine jdq rfl rfl ?_ ?_ ?_;kernel_rfl;kernel_rfl)|refine zB rfl rfl rfl (by repeat constructor) rfl ?_)
          exact J_joined W1 hW1 ⟨⟨rfl, rfl, rfl, rfl, rfl, trivial⟩, fun w s => s⟩
      intro W1 hW1
      have hWl := hW1.len
      rw [List.length_append] at hWl
      try dsimp only
      have fin : ∀ W2, Mgd lt (U2 ++ V2) W2 → Mgd lt ((U1 ++ U2) ++ (V1 ++ V2)) (W1 ++ W2) := fun W2 h2 => mg hW1 h2
      by_cases hu0 : U2.length = 0
      · obtain rfl := List.eq_nil_of_length_eq_zero hu0
        rw [List.length_nil] at *
        repeat (first|refine zJ rfl rfl ?_|refine jr rfl ?_|refine jn ?_|refine zM rfl rfl ?_|(refine zC rfl rfl ?_ rfl ?_;omega)|(refine zD rfl rfl ?_ rfl ?_;omega)|(refine zP rfl ?_ rfl ?_;omega)|refine zG rfl rfl rfl rfl ?_|(refine jdq rfl rfl ?_ ?_ ?_;kernel_rfl;kernel_rfl)|refine zB rfl rfl rfl (by repeat constructor) rfl ?_)
        refine zE rfl ?_
        exact J_end (F0 := F) (X := X) rfl [pfO cs b n c (A ++ ((W1 ++ V2) ++ B))] (fun w s => by simpa [List.append_assoc] using s) (PH.ler _) ⟨rfl, rfl, _, rfl, fin V2 (by rw [List.nil_append]; exact mgd_self hVs.2.1)⟩
      by_cases hv0 : V2.length = 0
      · obtain rfl := List.eq_nil_of_length_eq_zero hv0
        rw [List.length_nil] at *
        repeat (first|refine zJ rfl rfl ?_|refine jr rfl ?_|refine jn ?_|refine zM rfl rfl ?_|(refine zC rfl rfl ?_ rfl ?_;omega)|(refine zD rfl rfl ?_ rfl ?_;omega)|(refine zP rfl ?_ rfl ?_;omega)|refine zG rfl rfl rfl rfl ?_|(refine jdq rfl rfl ?_ ?_ ?_;kernel_rfl;kernel_rfl)|refine zB rfl rfl rfl (by repeat constructor) rfl ?_)
        refine zE rfl ?_
        exact J_end (F0 := F) (X := X) rfl [pfO cs b n c (A ++ ((W1 ++ U2) ++ B))] (fun w s => by simpa [List.append_assoc] using s) (PH.ler _) ⟨rfl, rfl, _, rfl, fin U2 (by rw [List.append_nil]; exact mgd_self hUs.2.1)⟩
      · repeat (first|refine zJ rfl rfl ?_|refine jr rfl ?_|refine jn ?_|refine zM rfl rfl ?_|(refine zC rfl rfl ?_ rfl ?_;omega)|(refine zD rfl rfl ?_ rfl ?_;omega)|(refine zP rfl ?_ rfl ?_;omega)|refine zG rfl rfl rfl rfl ?_|(refine jdq rfl rfl ?_ ?_ ?_;kernel_rfl;kernel_rfl)|refine zB rfl rfl rfl (by repeat constructor) rfl ?_)
        have sp := pf_sym cs hm ho lt hs f hf hc b n c k (A ++ W1) U2 V2 B F (by omega) (by simp only [List.length_append]; omega) hn1 (by omega) (by omega) hUs.2.1 hVs.2.1
        rw [List.length_append, hWl] at sp
        refine oC (Hc := [_]) (Hr := X) (spec_args sp (by rw [show A.length + (U1.length + V1.length) + U2.length + V2.length = A.length + (U1.length + U2.length) + (V1.length + V2.length) from by omega, show A.length + (U1.length + V1.length) + U2.length = A.length + (U1.length + U2.length) + V1.length from by omega])) Try.call59 rfl rfl (fun _ s => by simpa [List.append_assoc] using s) ?_
        rintro _ _ _ _ ⟨rfl, rfl, W2, rfl, hW2⟩
        repeat (first|refine zJ rfl rfl ?_|refine jr rfl ?_|refine jn ?_|refine zM rfl rfl ?_|(refine zC rfl rfl ?_ rfl ?_;omega)|(refine zD rfl rfl ?_ rfl ?_;omega)|(refine zP rfl ?_ rfl ?_;omega)|refine zG rfl rfl rfl rfl ?_|(refine jdq rfl rfl ?_ ?_ ?_;kernel_rfl;kernel_rfl)|refine zB rfl rfl rfl (by repeat constructor) rfl ?_)
        refine zE rfl ?_
        exact J_end (F0 := F) (X := X) rfl [pfO cs b n c (A ++ ((W1 ++ W2) ++ B))] (fun w s => by simpa [List.append_assoc] using s) (PH.ler _) ⟨rfl, rfl, _, rfl, fin W2 hW2⟩
    dsimp only [List.cons_append, List.nil_append]
    repeat (first|refine zJ rfl rfl ?_|refine jr rfl ?_|refine jn ?_|refine zM rfl rfl ?_|(refine zC rfl rfl ?_ rfl ?_;omega)|(refine zD rfl rfl ?_ rfl ?_;omega)|(refine zP rfl ?_ rfl ?_;omega)|refine zG rfl rfl rfl rfl ?_|(refine jdq rfl rfl ?_ ?_ ?_;kernel_rfl;kernel_rfl)|refine zB rfl rfl rfl (by repeat constructor) rfl ?_)
    refine J_loop2 (fun (i j : Nat) => s0 ≤ i ∧ i ≤ j ∧ j ≤ r0 ∧ (∀ z y, s0 < i → U[i - 1]? = some z → V[h0 - i]? = some y → lt y z = false) ∧ (∀ z y, j < r0 → U[j]? = some z → V[h0 - (j + 1)]? = some y → lt y z = true)) (fun i j => j - i) (fun i j => [(0, .slice (some ⟨b, 0, none⟩) n c), (1, .int .i64 A.length), (2, .int .i64 (A.length + U.length : Nat)), (3, .int .i64 (A.length + U.length + V.length : Nat)), (4, fnV f []), (18, .int .i64 (A.length + h0 : Nat)), (19, .int .i64 (A.length + h0 + (A.length + U.length) : Nat)), (22, .int .i64 (((A.length + h0 + (A.length + U.length) : Nat) : Int) - 1)), (20, .int .i64 (A.length + i : Nat)), (21, .int .i64 (A.length + j : Nat))]) (fun _ _ => F) (fun _ _ => pfO cs b n c L :: X) s0 r0
      ⟨Nat.le_refl _, hsr, Nat.le_refl _, fun z y hq => absurd hq (by omega), fun z y hq => absurd hq (by omega)⟩ ⟨⟨rfl, rfl, rfl, rfl, rfl, rfl, rfl, rfl, rfl, rfl, trivial⟩, fun _ s => s⟩ ?_
    rintro i j ⟨hi0, hij, hj, h1, h2⟩
    by_cases hlt : i < j
    · obtain ⟨h, hh, hhi, hhj⟩ : ∃ h, (A.length + i + (A.length + j)) >>> 1 = A.length + h ∧ i ≤ h ∧ h < j := ⟨(i + j) / 2, by rw [Nat.shiftRight_eq_div_pow]; omega, by omega, by omega⟩
      have hgu : U[h]? = some U[h] := List.getElem?_eq_getElem (by omega)
      have hgv : V[h0 - (h + 1)]? = some V[h0 - (h + 1)] := List.getElem?_eq_getElem (by omega)
      have g2 : L[A.length + h]? = some U[h] := in_at (P := A) (V := U) (B := V ++ B) hL rfl hgu
      have g1 : L[A.length + U.length + (h0 - (h + 1))]? = some V[h0 - (h + 1)] := in_at (P := A ++ U) (V := V) (B := B) (by rw [hL]; simp) (by simp) hgv
      generalize U[h] = z at *
      generalize V[h0 - (h + 1)] = y at *
      obtain ⟨r, hpure, hr⟩ := hc y z F
      have ix : some (Value.int .i64 (((A.length + h0 + (A.length + U.length) : Nat) : Int) - 1 - ((A.length + h : Nat) : Int))) = some (Value.int .i64 ((A.length + U.length + (h0 - (h + 1)) : Nat) : Int)) := by congr 2; omega
      unfold pfO
      repeat (first|refine zJ rfl rfl ?_|refine jr rfl ?_|refine jn ?_|refine zM rfl rfl ?_|(refine zC rfl rfl ?_ rfl ?_;omega)|(refine zD rfl rfl ?_ rfl ?_;omega)|(refine zP rfl ?_ rfl ?_;omega)|refine zG rfl rfl rfl rfl ?_|(refine jdq rfl rfl ?_ ?_ ?_;kernel_rfl;kernel_rfl)|refine zB rfl rfl rfl (by repeat constructor) rfl ?_)
      refine oS (ev_shr (m := A.length + i + (A.length + j)) (n := 1) rfl rfl (by show A.length + i + (A.length + j) < 2 ^ 64; omega)) rfl ?_
      rw [hh]
      repeat (first|refine zJ rfl rfl ?_|refine jr rfl ?_|refine jn ?_|refine zM rfl rfl ?_|(refine zC rfl rfl ?_ rfl ?_;omega)|(refine zD rfl rfl ?_ rfl ?_;omega)|(refine zP rfl ?_ rfl ?_;omega)|refine zG rfl rfl rfl rfl ?_|(refine jdq rfl rfl ?_ ?_ ?_;kernel_rfl;kernel_rfl)|refine zB rfl rfl rfl (by repeat constructor) rfl ?_)
      refine jd rfl ?_ ?_ ?_; kernel_rfl; kernel_rfl
      repeat (first|refine zJ rfl rfl ?_|refine jr rfl ?_|refine jn ?_|refine zM rfl rfl ?_|(refine zC rfl rfl ?_ rfl ?_;omega)|(refine zD rfl rfl ?_ rfl ?_;omega)|(refine zP rfl ?_ rfl ?_;omega)|refine zG rfl rfl rfl rfl ?_|(refine jdq rfl rfl ?_ ?_ ?_;kernel_rfl;kernel_rfl)|refine zB rfl rfl rfl (by repeat constructor) rfl ?_)
      refine oS (ev_indexAddr (i := A.length + U.length + (h0 - (h + 1))) rfl ix rfl (by omega)) rfl ?_
      refine oS (ev_load_agg (cs := cs y) rfl rfl (rdb_row .here hm g1) (hm y)) rfl ?_
      repeat (first|refine zJ rfl rfl ?_|refine jr rfl ?_|refine jn ?_|refine zM rfl rfl ?_|(refine zC rfl rfl ?_ rfl ?_;omega)|(refine zD rfl rfl ?_ rfl ?_;omega)|(refine zP rfl ?_ rfl ?_;omega)|refine zG rfl rfl rfl rfl ?_|(refine jdq rfl rfl ?_ ?_ ?_;kernel_rfl;kernel_rfl)|refine zB rfl rfl rfl (by repeat constructor) rfl ?_)
      refine oS (ev_indexAddr (i := A.length + h) rfl rfl rfl (by omega)) rfl ?_
      refine oS (ev_load_agg (cs := cs z) rfl rfl (rdb_row .here hm g2) (hm z)) rfl ?_
      refine oPF (f := f) (caps := []) (vs := [.agg (cs y).toArray, .agg (cs z).toArray]) rfl hpure hf rfl rfl ?_
      by_cases hneg : r < 0
      · have hlty := hr.1 hneg
        repeat (first|refine zJ rfl rfl ?_|refine jr rfl ?_|refine jn ?_|refine zM rfl rfl ?_|(refine zC rfl rfl ?_ rfl ?_;omega)|(refine zD rfl rfl ?_ rfl ?_;omega)|(refine zP rfl ?_ rfl ?_;omega)|refine zG rfl rfl rfl rfl ?_|(refine jdq rfl rfl ?_ ?_ ?_;kernel_rfl;kernel_rfl)|refine zB rfl rfl rfl (by repeat constructor) rfl ?_)
        exact J_again2 i h ⟨hi0, hhi, by omega, h1, fun z' y' _ e e' => by rw [hgu] at e; rw [hgv] at e'; cases e; cases e'; exact hlty⟩ (by omega) ⟨⟨rfl, rfl, rfl, rfl, rfl, rfl, rfl, rfl, rfl, rfl, trivial⟩, fun w s => s⟩
      · have hlty : lt y z = false := by cases e : lt y z with | false => rfl | true => exact absurd (hr.2 e) hneg
        repeat (first|refine zJ rfl rfl ?_|refine jr rfl ?_|refine jn ?_|refine zM rfl rfl ?_|(refine zC rfl rfl ?_ rfl ?_;omega)|(refine zD rfl rfl ?_ rfl ?_;omega)|(refine zP rfl ?_ rfl ?_;omega)|refine zG rfl rfl rfl rfl ?_|(refine jdq rfl rfl ?_ ?_ ?_;kernel_rfl;kernel_rfl)|refine zB rfl rfl rfl (by repeat constructor) rfl ?_)
        exact J_again2 (h + 1) j ⟨by omega, by omega, hj, fun z' y' _ e e' => by rw [Nat.add_sub_cancel, hgu] at e; rw [hgv] at e'; cases e; cases e'; exact hlty, h2⟩ (by omega) ⟨⟨rfl, rfl, rfl, rfl, rfl, rfl, rfl, rfl, rfl, rfl, trivial⟩, fun w s => s⟩
    obtain rfl : i = j := by omega
    obtain ⟨e, he⟩ : ∃ e, h0 = i + e := ⟨h0 - i, by omega⟩
    obtain ⟨U1, U2, rfl, hU1l, hU1, hU2'⟩ := cut_at (show i ≤ U.length by omega)
    obtain ⟨V1, V2, rfl, hV1l, hV1, hV2'⟩ := cut_at (show e ≤ V.length by omega)
    have c1 : ∀ u ∈ U1, ∀ v ∈ V2, lt v u = false := by
      intro u hu v hv
      rcases hU1 with rfl | ⟨U', z, rfl, hi1, hz⟩
      · cases hu
      rcases hV2' with rfl | ⟨V', y, rfl, hy⟩
      · cases hv
      have hz1 := srtd_last hs (srtd_app.1 hU).1 hu
      have hy1 := srtd_first hs (srtd_app.1 hV).2.1 hv
      by_cases hb : s0 < i
      · have := h1 z y hb hz (by rw [show h0 - i = e from by omega]; exact hy)
        exact hs.inc v y u hy1 (hs.inc y z u this hz1)
      · have hyl := (List.getElem?_eq_some_iff.1 hy).1
        omega
    have c2 : ∀ v ∈ V1, ∀ u ∈ U2, lt v u = true := by
      intro v hv u hu
      rcases hU2' with rfl | ⟨U', z, rfl, hz⟩
      · cases hu
      rcases hV1 with rfl | ⟨V', y, rfl, he1, hy⟩
      · cases hv
      have hz1 := srtd_first hs (srtd_app.1 hU).2.1 hu
      have hy1 := srtd_last hs (srtd_app.1 hV).1 hv
      by_cases hb : i < r0
      · have := h2 z y hb hz (by rw [show h0 - (i + 1) = e - 1 from by omega]; exact hy)
        exact hs.not3' (hs.not3 this hy1) hz1
      · have hyl := (List.getElem?_eq_some_iff.1 hz).1
        omega
    repeat (first|refine zJ rfl rfl ?_|refine jr rfl ?_|refine jn ?_|refine zM rfl rfl ?_|(refine zC rfl rfl ?_ rfl ?_;omega)|(refine zD rfl rfl ?_ rfl ?_;omega)|(refine zP rfl ?_ rfl ?_;omega)|refine zG rfl rfl rfl rfl ?_|(refine jdq rfl rfl ?_ ?_ ?_;kernel_rfl;kernel_rfl)|refine zB rfl rfl rfl (by repeat constructor) rfl ?_)
    refine J_joined (U1, U2, V1, V2) ⟨rfl, rfl, by dsimp only; omega, fun m1 m2 => mgd_two hs hU hV c1 c2 m1 m2⟩ ⟨⟨rfl, rfl, rfl, rfl, rfl, rfl, ?_, ?_, trivial⟩, fun w s => s⟩
    · dsimp only
      rw [hU1l]
      rfl
    · dsimp only
      rw [show ((A.length + (U1 ++ U2).length + V1.length : Nat) : Int) = ((A.length + h0 + (A.length + (U1 ++ U2).length) : Nat) : Int) - ((A.length + i : Nat) : Int) from by omega]
      rfl
end Go.Proofs.Ytmicjjhkoicdnaa
