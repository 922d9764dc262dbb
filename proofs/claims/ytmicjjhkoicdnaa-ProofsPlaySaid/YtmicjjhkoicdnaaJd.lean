/-
  Proofs in a row of the call's own: two sorted parts merged, where one of them is a single one. Conditions are typed with each.
-/
import Derived.Test.YtmicjjhkoicdnaaJc
namespace Go.Proofs.Ytmicjjhkoicdnaa
open Go.RowKit
set_option maxRecDepth 100000
section
variable {α : Type} {lt : α → α → Bool}
theorem srtd_last (ho : Swo lt) {V : List α} {z v : α} (h : Srtd lt (V ++ [z])) (hv : v ∈ V ++ [z]) : lt z v = false := by
  rcases List.mem_append.1 hv with hv | hv
  · exact (srtd_app.1 h).2.2 v hv z (List.mem_singleton.2 rfl)
  · obtain rfl := List.mem_singleton.1 hv
    exact ho.ir v
theorem srtd_first (ho : Swo lt) {V : List α} {z v : α} (h : Srtd lt (z :: V)) (hv : v ∈ z :: V) : lt v z = false := by
  rcases List.mem_cons.1 hv with rfl | hv
  · exact ho.ir _
  · exact (List.pairwise_cons.1 h).1 v hv
theorem Swo.not3 (ho : Swo lt) {x y z : α} (h : lt x z = true) (h1 : lt x y = false) : lt y z = true := by
  cases e : lt y z with
  | true => rfl
  | false => rw [ho.inc x y z h1 e] at h; cases h
theorem Swo.not3' (ho : Swo lt) {x y z : α} (h : lt x z = true) (h1 : lt y z = false) : lt x y = true := by
  cases e : lt x y with
  | true => rfl
  | false => rw [ho.inc x y z e h1] at h; cases h
/-- A row cut in two behind k. -/
theorem cut_at {V : List α} {k : Nat} (hk : k ≤ V.length) : ∃ V1 V2, V = V1 ++ V2 ∧ V1.length = k ∧ (V1 = [] ∨ ∃ V' z, V1 = V' ++ [z] ∧ 0 < k ∧ V[k - 1]? = some z) ∧ (V2 = [] ∨ ∃ V' z, V2 = z :: V' ∧ V[k]? = some z) := by
  refine ⟨V.take k, V.drop k, (List.take_append_drop _ _).symm, by rw [List.length_take]; omega, ?_, ?_⟩
  · cases k with
    | zero => exact .inl rfl
    | succ k => exact .inr ⟨V.take k, V[k], List.take_succ_eq_append_getElem (by omega), by omega, List.getElem?_eq_getElem (by omega)⟩
  · by_cases h : k < V.length
    · exact .inr ⟨V.drop (k + 1), V[k], List.drop_eq_getElem_cons h, List.getElem?_eq_getElem h⟩
    · exact .inl (List.drop_eq_nil_of_le (by omega))
theorem in_at {L P V B : List α} {p q : Nat} {x : α} (h : L = P ++ (V ++ B)) (hp : P.length = p) (hq : V[q]? = some x) : L[p + q]? = some x := by
  subst h; subst hp
  rw [List.getElem?_append_right (by omega), show P.length + q - P.length = q from by omega, List.getElem?_append_left (List.getElem?_eq_some_iff.1 hq).1]
  exact hq
theorem no_at {V : List α} {j : Nat} {y : α} {p : Prop} (hj : V.length ≤ j) (e : V[j]? = some y) : p := absurd (List.getElem?_eq_some_iff.1 e).1 (by omega)
end
set_option maxHeartbeats 16000000 in
theorem pf_sym1 {α : Type} (cs : α → List Value) (hm : ∀ x, (cs x).length = 3) (ho : ∀ x, Ones (cs x)) (lt : α → α → Bool) (hs : Swo lt) (f : FuncId) (hf : ∀ args w, (callFunc f args).run Try.prog w = .ok (.enter f args) w)
    (hc : Cmp cs lt f) (b n c : Nat) (A : List α) (x : α) (V B : List α) (F : PH) (hn : (A ++ ([x] ++ (V ++ B))).length = n) (hn1 : n ≤ 1000) (hV : Srtd lt V) :
    Spec Try.prog 59 [.slice (some ⟨b, 0, none⟩) n c, .int .i64 A.length, .int .i64 (A.length + 1 : Nat), .int .i64 (A.length + 1 + V.length : Nat), fnV f []] F [pfO cs b n c (A ++ ([x] ++ (V ++ B)))] fun u F' H' => u = .tuple #[] ∧ F = F' ∧ ∃ W, H' = [pfO cs b n c (A ++ (W ++ B))] ∧ Mgd lt ([x] ++ V) W := by
  simp only [List.length_append, List.length_singleton] at hn
  refine Spec.of5 Try.func59 rfl rfl fun X w0 => ?_
  dsimp only [List.cons_append, List.nil_append]
  obtain ⟨L, hL⟩ : ∃ L, L = A ++ (x :: (V ++ B)) := ⟨_, rfl⟩
  rw [← hL]
  have hLn : L.length = n := by rw [hL]; simp only [List.length_append, List.length_cons]; omega
  have g1 : L[A.length]? = some x := get_at hL rfl
  repeat (first|refine zJ rfl rfl ?_|refine jr rfl ?_|refine jn ?_|refine zM rfl rfl ?_|(refine zC rfl rfl ?_ rfl ?_;omega)|(refine zD rfl rfl ?_ rfl ?_;omega)|(refine zP rfl ?_ rfl ?_;omega)|refine zG rfl rfl rfl rfl ?_|(refine jdq rfl rfl ?_ ?_ ?_;kernel_rfl;kernel_rfl)|refine zB rfl rfl rfl (by repeat constructor) rfl ?_)
  refine J_loop2 (fun (i j : Nat) => i ≤ j ∧ j ≤ V.length ∧ (∀ y, 0 < i → V[i - 1]? = some y → lt y x = true) ∧ (∀ y, V[j]? = some y → lt y x = false)) (fun i j => j - i) (fun i j => [(0, .slice (some ⟨b, 0, none⟩) n c), (1, .int .i64 A.length), (4, fnV f []), (10, .int .i64 (A.length + 1 + i : Nat)), (11, .int .i64 (A.length + 1 + j : Nat))]) (fun _ _ => F) (fun _ _ => pfO cs b n c L :: X) 0 V.length
    ⟨Nat.zero_le _, Nat.le_refl _, fun y hq => absurd hq (by omega), fun y e => no_at (Nat.le_refl _) e⟩ ⟨⟨rfl, rfl, rfl, rfl, rfl, trivial⟩, fun _ s => s⟩ ?_
  rintro i j ⟨hij, hj, h1, h2⟩
  by_cases hlt : i < j
  · obtain ⟨h, hh, hhi, hhj⟩ : ∃ h, (A.length + 1 + i + (A.length + 1 + j)) >>> 1 = A.length + 1 + h ∧ i ≤ h ∧ h < j := ⟨(i + j) / 2, by rw [Nat.shiftRight_eq_div_pow]; omega, by omega, by omega⟩
    have hg : V[h]? = some V[h] := List.getElem?_eq_getElem (by omega)
    have g2 : L[A.length + 1 + h]? = some V[h] := in_at (P := A ++ [x]) (V := V) (B := B) (by rw [hL]; simp) (by simp) hg
    generalize V[h] = y at *
    obtain ⟨r, hpure, hr⟩ := hc y x F
    unfold pfO
    repeat (first|refine zJ rfl rfl ?_|refine jr rfl ?_|refine jn ?_|refine zM rfl rfl ?_|(refine zC rfl rfl ?_ rfl ?_;omega)|(refine zD rfl rfl ?_ rfl ?_;omega)|(refine zP rfl ?_ rfl ?_;omega)|refine zG rfl rfl rfl rfl ?_|(refine jdq rfl rfl ?_ ?_ ?_;kernel_rfl;kernel_rfl)|refine zB rfl rfl rfl (by repeat constructor) rfl ?_)
    refine oS (ev_shr (m := A.length + 1 + i + (A.length + 1 + j)) (n := 1) rfl rfl (by show A.length + 1 + i + (A.length + 1 + j) < 2 ^ 64; omega)) rfl ?_
    rw [hh]
    repeat (first|refine zJ rfl rfl ?_|refine jr rfl ?_|refine jn ?_|refine zM rfl rfl ?_|(refine zC rfl rfl ?_ rfl ?_;omega)|(refine zD rfl rfl ?_ rfl ?_;omega)|(refine zP rfl ?_ rfl ?_;omega)|refine zG rfl rfl rfl rfl ?_|(refine jdq rfl rfl ?_ ?_ ?_;kernel_rfl;kernel_rfl)|refine zB rfl rfl rfl (by repeat constructor) rfl ?_)
    refine jd rfl ?_ ?_ ?_; kernel_rfl; kernel_rfl
    repeat (first|refine zJ rfl rfl ?_|refine jr rfl ?_|refine jn ?_|refine zM rfl rfl ?_|(refine zC rfl rfl ?_ rfl ?_;omega)|(refine zD rfl rfl ?_ rfl ?_;omega)|(refine zP rfl ?_ rfl ?_;omega)|refine zG rfl rfl rfl rfl ?_|(refine jdq rfl rfl ?_ ?_ ?_;kernel_rfl;kernel_rfl)|refine zB rfl rfl rfl (by repeat constructor) rfl ?_)
    refine oS (ev_indexAddr (i := A.length + 1 + h) rfl rfl rfl (by omega)) rfl ?_
    refine oS (ev_load_agg (cs := cs y) rfl rfl (rdb_row .here hm g2) (hm y)) rfl ?_
    repeat (first|refine zJ rfl rfl ?_|refine jr rfl ?_|refine jn ?_|refine zM rfl rfl ?_|(refine zC rfl rfl ?_ rfl ?_;omega)|(refine zD rfl rfl ?_ rfl ?_;omega)|(refine zP rfl ?_ rfl ?_;omega)|refine zG rfl rfl rfl rfl ?_|(refine jdq rfl rfl ?_ ?_ ?_;kernel_rfl;kernel_rfl)|refine zB rfl rfl rfl (by repeat constructor) rfl ?_)
    refine oS (ev_indexAddr (i := A.length) rfl rfl rfl (by omega)) rfl ?_
    refine oS (ev_load_agg (cs := cs x) rfl rfl (rdb_row .here hm g1) (hm x)) rfl ?_
    refine oPF (f := f) (caps := []) (vs := [.agg (cs y).toArray, .agg (cs x).toArray]) rfl hpure hf rfl rfl ?_
    by_cases hneg : r < 0
    · have hlty := hr.1 hneg
      repeat (first|refine zJ rfl rfl ?_|refine jr rfl ?_|refine jn ?_|refine zM rfl rfl ?_|(refine zC rfl rfl ?_ rfl ?_;omega)|(refine zD rfl rfl ?_ rfl ?_;omega)|(refine zP rfl ?_ rfl ?_;omega)|refine zG rfl rfl rfl rfl ?_|(refine jdq rfl rfl ?_ ?_ ?_;kernel_rfl;kernel_rfl)|refine zB rfl rfl rfl (by repeat constructor) rfl ?_)
      exact J_again2 (h + 1) j ⟨by omega, hj, fun y' _ e => by rw [Nat.add_sub_cancel, hg] at e; cases e; exact hlty, h2⟩ (by omega) ⟨⟨rfl, rfl, rfl, rfl, rfl, trivial⟩, fun w s => s⟩
    · have hlty : lt y x = false := by cases e : lt y x with | false => rfl | true => exact absurd (hr.2 e) hneg
      repeat (first|refine zJ rfl rfl ?_|refine jr rfl ?_|refine jn ?_|refine zM rfl rfl ?_|(refine zC rfl rfl ?_ rfl ?_;omega)|(refine zD rfl rfl ?_ rfl ?_;omega)|(refine zP rfl ?_ rfl ?_;omega)|refine zG rfl rfl rfl rfl ?_|(refine jdq rfl rfl ?_ ?_ ?_;kernel_rfl;kernel_rfl)|refine zB rfl rfl rfl (by repeat constructor) rfl ?_)
      exact J_again2 i h ⟨hhi, by omega, h1, fun y' e => by rw [hg] at e; cases e; exact hlty⟩ (by omega) ⟨⟨rfl, rfl, rfl, rfl, rfl, trivial⟩, fun w s => s⟩
  obtain rfl : i = j := by omega
  obtain ⟨V1, V2, rfl, hk, hV1, hV2⟩ := cut_at hj
  have m1 : ∀ v ∈ V1, lt v x = true := fun v hv => by
    rcases hV1 with rfl | ⟨V', z, rfl, h0, hz⟩
    · cases hv
    · exact hs.not3 (h1 z h0 hz) (srtd_last hs (srtd_app.1 hV).1 hv)
  have m2 : ∀ v ∈ V2, lt v x = false := fun v hv => by
    rcases hV2 with rfl | ⟨V', z, rfl, hz⟩
    · cases hv
    · exact hs.inc v z x (srtd_first hs (srtd_app.1 hV).2.1 hv) (h2 z hz)
  have mg := mgd_first hs hV m1 m2
  clear h1 h2 hV1 hV2 m1 m2 g1
  rw [List.length_append] at hn hj
  repeat (first|refine zJ rfl rfl ?_|refine jr rfl ?_|refine jn ?_|refine zM rfl rfl ?_|(refine zC rfl rfl ?_ rfl ?_;omega)|(refine zD rfl rfl ?_ rfl ?_;omega)|(refine zP rfl ?_ rfl ?_;omega)|refine zG rfl rfl rfl rfl ?_|(refine jdq rfl rfl ?_ ?_ ?_;kernel_rfl;kernel_rfl)|refine zB rfl rfl rfl (by repeat constructor) rfl ?_)
  refine J_loop (ι := List α × List α) (fun p => p.1 ++ p.2 = V1) (fun p => p.2.length) (fun p => [(0, .slice (some ⟨b, 0, none⟩) n c), (10, .int .i64 (A.length + 1 + i : Nat)), (13, .int .i64 (A.length + p.1.length : Nat))]) (fun _ => F) (fun p => pfO cs b n c (A ++ (p.1 ++ x :: (p.2 ++ (V2 ++ B)))) :: X) ([], V1) (List.nil_append _) ⟨⟨rfl, rfl, rfl, trivial⟩, fun w s => by rw [hL] at s; simpa [List.append_assoc] using s⟩ ?_
  clear hLn hL L
  rintro ⟨P, Q⟩ hPQ
  dsimp only at hPQ ⊢
  have hPl : P.length + Q.length = i := by rw [← hk, ← hPQ, List.length_append]
  cases Q with
  | nil =>
    rw [List.append_nil] at hPQ
    subst hPQ
    rw [List.length_nil] at hPl
    repeat (first|refine zJ rfl rfl ?_|refine jr rfl ?_|refine jn ?_|refine zM rfl rfl ?_|(refine zC rfl rfl ?_ rfl ?_;omega)|(refine zD rfl rfl ?_ rfl ?_;omega)|(refine zP rfl ?_ rfl ?_;omega)|refine zG rfl rfl rfl rfl ?_|(refine jdq rfl rfl ?_ ?_ ?_;kernel_rfl;kernel_rfl)|refine zB rfl rfl rfl (by repeat constructor) rfl ?_)
    exact J_retv (rs := []) (vs := []) rfl .nil [pfO cs b n c (A ++ ((P ++ ([x] ++ V2)) ++ B))] (fun w s => by simpa [List.append_assoc] using s) (PH.ler _) ⟨rfl, rfl, _, rfl, mg⟩
  | cons y Q =>
    rw [List.length_cons] at hPl
    obtain ⟨L, hL⟩ : ∃ L, L = A ++ (P ++ x :: (y :: Q ++ (V2 ++ B))) := ⟨_, rfl⟩
    rw [← hL]
    have hLn : L.length = n := by rw [hL]; simp only [List.length_append, List.length_cons]; omega
    have g1 := get_at (L := L) (P := A ++ P) (x := x) (Q := y :: Q ++ (V2 ++ B)) (i := A.length + P.length) (by rw [hL]; simp [List.append_assoc]) (by simp)
    have g2 := get_at (L := L) (P := A ++ (P ++ [x])) (x := y) (Q := Q ++ (V2 ++ B)) (i := A.length + (P.length + 1)) (by rw [hL]; simp [List.append_assoc]) (by simp)
    have s1 := set_at (L := L) (P := A ++ P) (x := x) (z := y) (Q := y :: Q ++ (V2 ++ B)) (i := A.length + P.length) (by rw [hL]; simp [List.append_assoc]) (by simp)
    have s2 := set_at (L := L.set (A.length + P.length) y) (P := A ++ (P ++ [y])) (x := y) (z := x) (Q := Q ++ (V2 ++ B)) (i := A.length + (P.length + 1)) (by rw [s1]; simp [List.append_assoc]) (by simp)
    have hnext : (L.set (A.length + P.length) y).set (A.length + (P.length + 1)) x = A ++ ((P ++ [y]) ++ x :: (Q ++ (V2 ++ B))) := by rw [s2]; simp [List.append_assoc]
    have ix : some (Value.int .i64 (((A.length + P.length : Nat) : Int) + 1)) = some (Value.int .i64 ((A.length + (P.length + 1) : Nat) : Int)) := rfl
    unfold pfO
    (repeat (first|refine zJ rfl rfl ?_|refine jr rfl ?_|refine jn ?_|refine zM rfl rfl ?_|(refine zC rfl rfl ?_ rfl ?_;omega)|(refine zD rfl rfl ?_ rfl ?_;omega)|(refine zP rfl ?_ rfl ?_;omega)|refine zG rfl rfl rfl rfl ?_|(refine jdq rfl rfl ?_ ?_ ?_;kernel_rfl;kernel_rfl)|refine zB rfl rfl rfl (by repeat constructor) rfl ?_)) 
    refine ja PH.emp [] ?_ (fun w s => s.any) ?_; kernel_rfl 
    refine aT 2 rfl (ev_pv rfl) rfl rfl ?_ ?_ ?_ ?_; kernel_rfl; kernel_rfl; kernel_rfl
    refine aT 3 rfl (ev_pv rfl) rfl rfl ?_ ?_ ?_ ?_; kernel_rfl; kernel_rfl; kernel_rfl 
    refine aT 4 rfl (ea rfl rfl rfl (by dsimp only [InK]; omega)) rfl rfl ?_ ?_ ?_ ?_; kernel_rfl; kernel_rfl; kernel_rfl 
    refine aL (fun o => o.take 2 ++ (o.drop 5).take 10) [15, 16, 17] ([0, 1] ++ List.range' 5 10) 3 rfl ?_ ?_ ?_ ?_ ?_ ?_; kernel_rfl; kernel_rfl; kernel_rfl; kernel_rfl; kernel_rfl; dsimp only [List.take, List.drop, List.cons_append, List.nil_append] 
    (repeat (first|refine zJ rfl rfl ?_|refine jr rfl ?_|refine jn ?_|refine zM rfl rfl ?_|(refine zC rfl rfl ?_ rfl ?_;omega)|(refine zD rfl rfl ?_ rfl ?_;omega)|(refine zP rfl ?_ rfl ?_;omega)|refine zG rfl rfl rfl rfl ?_|(refine jdq rfl rfl ?_ ?_ ?_;kernel_rfl;kernel_rfl)|refine zB rfl rfl rfl (by repeat constructor) rfl ?_)) 
    refine oS (ev_indexAddr (i := A.length + (P.length + 1)) rfl ix rfl (by omega)) rfl ?_ 
    refine oS (ev_load_agg (cs := cs y) rfl rfl (rdb_row .here hm g2) (hm y)) rfl ?_ 
    (repeat (first|refine zJ rfl rfl ?_|refine jr rfl ?_|refine jn ?_|refine zM rfl rfl ?_|(refine zC rfl rfl ?_ rfl ?_;omega)|(refine zD rfl rfl ?_ rfl ?_;omega)|(refine zP rfl ?_ rfl ?_;omega)|refine zG rfl rfl rfl rfl ?_|(refine jdq rfl rfl ?_ ?_ ?_;kernel_rfl;kernel_rfl)|refine zB rfl rfl rfl (by repeat constructor) rfl ?_)) 
    refine oS (ev_indexAddr (i := A.length + P.length) rfl rfl rfl (by omega)) rfl ?_ 
    refine oS (ev_load_agg (cs := cs x) rfl rfl (rdb_row .here hm g1) (hm x)) rfl ?_ 
    refine oS (ev_indexAddr (i := A.length + P.length) rfl rfl rfl (by omega)) rfl ?_ 
    refine jn ?_ 
    refine aR ?_ 
    refine aB (i := 15) (by kernel_rfl) (aN rfl (ev_store_own rfl rfl .agg rfl (hm y) (by rw [Nat.zero_add]; exact lay_row hm y _ (A.length + P.length) (by omega)) (ho y) .here) rfl (fun _ _ _ _ _ w s => s.any) ?_) 
    rintro _ _ _ _ ⟨rfl, _, rfl⟩ 
    refine aT 16 rfl (ev_indexAddr (i := A.length + (P.length + 1)) rfl ix rfl (by omega)) rfl rfl ?_ ?_ ?_ ?_; kernel_rfl; kernel_rfl; kernel_rfl 
    refine aB (i := 17) (by kernel_rfl) (aN rfl (ev_store_own rfl rfl .agg rfl (hm x) (by rw [Nat.zero_add]; exact lay_row hm x _ (A.length + (P.length + 1)) (by rw [List.length_set]; omega)) (ho x) .here) rfl (fun _ _ _ _ _ w s => s.any) ?_) 
    rintro _ _ _ _ ⟨rfl, _, rfl⟩ 
    rw [hnext] 
    refine aD (by kernel_rfl) ?_ 
    (repeat (first|refine zJ rfl rfl ?_|refine jr rfl ?_|refine jn ?_|refine zM rfl rfl ?_|(refine zC rfl rfl ?_ rfl ?_;omega)|(refine zD rfl rfl ?_ rfl ?_;omega)|(refine zP rfl ?_ rfl ?_;omega)|refine zG rfl rfl rfl rfl ?_|(refine jdq rfl rfl ?_ ?_ ?_;kernel_rfl;kernel_rfl)|refine zB rfl rfl rfl (by repeat constructor) rfl ?_))
    refine J_again (P ++ [y], Q) (by rw [← hPQ]; simp) (by dsimp only; rw [List.length_cons]; omega) ⟨⟨rfl, rfl, ?_, trivial⟩, fun w s => s⟩
    dsimp only
    rw [List.length_append]
    rfl
set_option maxHeartbeats 16000000 in
theorem pf_sym2 {α : Type} (cs : α → List Value) (hm : ∀ x, (cs x).length = 3) (ho : ∀ x, Ones (cs x)) (lt : α → α → Bool) (hs : Swo lt) (f : FuncId) (hf : ∀ args w, (callFunc f args).run Try.prog w = .ok (.enter f args) w)
    (hc : Cmp cs lt f) (b n c : Nat) (A U : List α) (y : α) (B : List α) (F : PH) (hn : (A ++ (U ++ ([y] ++ B))).length = n) (hn1 : n ≤ 1000) (hU2 : 2 ≤ U.length) (hU : Srtd lt U) :
    Spec Try.prog 59 [.slice (some ⟨b, 0, none⟩) n c, .int .i64 A.length, .int .i64 (A.length + U.length : Nat), .int .i64 (A.length + U.length + 1 : Nat), fnV f []] F [pfO cs b n c (A ++ (U ++ ([y] ++ B)))] fun u F' H' => u = .tuple #[] ∧ F = F' ∧ ∃ W, H' = [pfO cs b n c (A ++ (W ++ B))] ∧ Mgd lt (U ++ [y]) W := by
  simp only [List.length_append, List.length_singleton] at hn
  refine Spec.of5 Try.func59 rfl rfl fun X w0 => ?_
  dsimp only [List.cons_append, List.nil_append]
  obtain ⟨L, hL⟩ : ∃ L, L = A ++ (U ++ (y :: B)) := ⟨_, rfl⟩
  rw [← hL]
  have hLn : L.length = n := by rw [hL]; simp only [List.length_append, List.length_cons]; omega
  have g1 : L[A.length + U.length]? = some y := get_at (P := A ++ U) (Q := B) (by rw [hL]; simp) (by simp)
  repeat (first|refine zJ rfl rfl ?_|refine jr rfl ?_|refine jn ?_|refine zM rfl rfl ?_|(refine zC rfl rfl ?_ rfl ?_;omega)|(refine zD rfl rfl ?_ rfl ?_;omega)|(refine zP rfl ?_ rfl ?_;omega)|refine zG rfl rfl rfl rfl ?_|(refine jdq rfl rfl ?_ ?_ ?_;kernel_rfl;kernel_rfl)|refine zB rfl rfl rfl (by repeat constructor) rfl ?_)
  refine J_loop2 (fun (i j : Nat) => i ≤ j ∧ j ≤ U.length ∧ (∀ z, 0 < i → U[i - 1]? = some z → lt y z = false) ∧ (∀ z, U[j]? = some z → lt y z = true)) (fun i j => j - i) (fun i j => [(0, .slice (some ⟨b, 0, none⟩) n c), (2, .int .i64 (A.length + U.length : Nat)), (4, fnV f []), (14, .int .i64 (A.length + i : Nat)), (15, .int .i64 (A.length + j : Nat))]) (fun _ _ => F) (fun _ _ => pfO cs b n c L :: X) 0 U.length
    ⟨Nat.zero_le _, Nat.le_refl _, fun y hq => absurd hq (by omega), fun y e => no_at (Nat.le_refl _) e⟩ ⟨⟨rfl, rfl, rfl, rfl, rfl, trivial⟩, fun _ s => s⟩ ?_
  rintro i j ⟨hij, hj, h1, h2⟩
  by_cases hlt : i < j
  · obtain ⟨h, hh, hhi, hhj⟩ : ∃ h, (A.length + i + (A.length + j)) >>> 1 = A.length + h ∧ i ≤ h ∧ h < j := ⟨(i + j) / 2, by rw [Nat.shiftRight_eq_div_pow]; omega, by omega, by omega⟩
    have hg : U[h]? = some U[h] := List.getElem?_eq_getElem (by omega)
    have g2 : L[A.length + h]? = some U[h] := in_at (P := A) (V := U) (B := y :: B) hL rfl hg
    generalize U[h] = z at *
    obtain ⟨r, hpure, hr⟩ := hc y z F
    unfold pfO
    repeat (first|refine zJ rfl rfl ?_|refine jr rfl ?_|refine jn ?_|refine zM rfl rfl ?_|(refine zC rfl rfl ?_ rfl ?_;omega)|(refine zD rfl rfl ?_ rfl ?_;omega)|(refine zP rfl ?_ rfl ?_;omega)|refine zG rfl rfl rfl rfl ?_|(refine jdq rfl rfl ?_ ?_ ?_;kernel_rfl;kernel_rfl)|refine zB rfl rfl rfl (by repeat constructor) rfl ?_)
    refine oS (ev_shr (m := A.length + i + (A.length + j)) (n := 1) rfl rfl (by show A.length + i + (A.length + j) < 2 ^ 64; omega)) rfl ?_
    rw [hh]
    repeat (first|refine zJ rfl rfl ?_|refine jr rfl ?_|refine jn ?_|refine zM rfl rfl ?_|(refine zC rfl rfl ?_ rfl ?_;omega)|(refine zD rfl rfl ?_ rfl ?_;omega)|(refine zP rfl ?_ rfl ?_;omega)|refine zG rfl rfl rfl rfl ?_|(refine jdq rfl rfl ?_ ?_ ?_;kernel_rfl;kernel_rfl)|refine zB rfl rfl rfl (by repeat constructor) rfl ?_)
    refine jd rfl ?_ ?_ ?_; kernel_rfl; kernel_rfl
    repeat (first|refine zJ rfl rfl ?_|refine jr rfl ?_|refine jn ?_|refine zM rfl rfl ?_|(refine zC rfl rfl ?_ rfl ?_;omega)|(refine zD rfl rfl ?_ rfl ?_;omega)|(refine zP rfl ?_ rfl ?_;omega)|refine zG rfl rfl rfl rfl ?_|(refine jdq rfl rfl ?_ ?_ ?_;kernel_rfl;kernel_rfl)|refine zB rfl rfl rfl (by repeat constructor) rfl ?_)
    refine oS (ev_indexAddr (i := A.length + U.length) rfl rfl rfl (by omega)) rfl ?_
    refine oS (ev_load_agg (cs := cs y) rfl rfl (rdb_row .here hm g1) (hm y)) rfl ?_
    repeat (first|refine zJ rfl rfl ?_|refine jr rfl ?_|refine jn ?_|refine zM rfl rfl ?_|(refine zC rfl rfl ?_ rfl ?_;omega)|(refine zD rfl rfl ?_ rfl ?_;omega)|(refine zP rfl ?_ rfl ?_;omega)|refine zG rfl rfl rfl rfl ?_|(refine jdq rfl rfl ?_ ?_ ?_;kernel_rfl;kernel_rfl)|refine zB rfl rfl rfl (by repeat constructor) rfl ?_)
    refine oS (ev_indexAddr (i := A.length + h) rfl rfl rfl (by omega)) rfl ?_
    refine oS (ev_load_agg (cs := cs z) rfl rfl (rdb_row .here hm g2) (hm z)) rfl ?_
    refine oPF (f := f) (caps := []) (vs := [.agg (cs y).toArray, .agg (cs z).toArray]) rfl hpure hf rfl rfl ?_
    by_cases hneg : r < 0
    · have hlty := hr.1 hneg
      repeat (first|refine zJ rfl rfl ?_|refine jr rfl ?_|refine jn ?_|refine zM rfl rfl ?_|(refine zC rfl rfl ?_ rfl ?_;omega)|(refine zD rfl rfl ?_ rfl ?_;omega)|(refine zP rfl ?_ rfl ?_;omega)|refine zG rfl rfl rfl rfl ?_|(refine jdq rfl rfl ?_ ?_ ?_;kernel_rfl;kernel_rfl)|refine zB rfl rfl rfl (by repeat constructor) rfl ?_)
      exact J_again2 i h ⟨hhi, by omega, h1, fun y' e => by rw [hg] at e; cases e; exact hlty⟩ (by omega) ⟨⟨rfl, rfl, rfl, rfl, rfl, trivial⟩, fun w s => s⟩
    · have hlty : lt y z = false := by cases e : lt y z with | false => rfl | true => exact absurd (hr.2 e) hneg
      repeat (first|refine zJ rfl rfl ?_|refine jr rfl ?_|refine jn ?_|refine zM rfl rfl ?_|(refine zC rfl rfl ?_ rfl ?_;omega)|(refine zD rfl rfl ?_ rfl ?_;omega)|(refine zP rfl ?_ rfl ?_;omega)|refine zG rfl rfl rfl rfl ?_|(refine jdq rfl rfl ?_ ?_ ?_;kernel_rfl;kernel_rfl)|refine zB rfl rfl rfl (by repeat constructor) rfl ?_)
      exact J_again2 (h + 1) j ⟨by omega, hj, fun y' _ e => by rw [Nat.add_sub_cancel, hg] at e; cases e; exact hlty, h2⟩ (by omega) ⟨⟨rfl, rfl, rfl, rfl, rfl, trivial⟩, fun w s => s⟩
  obtain rfl : i = j := by omega
  obtain ⟨U1, U2, rfl, hk, hV1, hV2⟩ := cut_at hj
  have m1 : ∀ v ∈ U1, lt y v = false := fun v hv => by
    rcases hV1 with rfl | ⟨V', z, rfl, h0, hz⟩
    · cases hv
    · exact hs.inc y z v (h1 z h0 hz) (srtd_last hs (srtd_app.1 hU).1 hv)
  have m2 : ∀ v ∈ U2, lt y v = true := fun v hv => by
    rcases hV2 with rfl | ⟨V', z, rfl, hz⟩
    · cases hv
    · exact hs.not3' (h2 z hz) (srtd_first hs (srtd_app.1 hU).2.1 hv)
  have mg := mgd_last hs hU m1 m2
  clear h1 h2 hV1 hV2 m1 m2 g1
  rw [List.length_append] at hn hj hU2 ⊢
  repeat (first|refine zJ rfl rfl ?_|refine jr rfl ?_|refine jn ?_|refine zM rfl rfl ?_|(refine zC rfl rfl ?_ rfl ?_;omega)|(refine zD rfl rfl ?_ rfl ?_;omega)|(refine zP rfl ?_ rfl ?_;omega)|refine zG rfl rfl rfl rfl ?_|(refine jdq rfl rfl ?_ ?_ ?_;kernel_rfl;kernel_rfl)|refine zB rfl rfl rfl (by repeat constructor) rfl ?_)
  refine J_loop (ι := List α × List α) (fun p => p.1 ++ p.2 = U2) (fun p => p.1.length) (fun p => [(0, .slice (some ⟨b, 0, none⟩) n c), (14, .int .i64 (A.length + i : Nat)), (17, .int .i64 (A.length + (U1.length + p.1.length) : Nat))]) (fun _ => F) (fun p => pfO cs b n c (A ++ (U1 ++ (p.1 ++ y :: (p.2 ++ B)))) :: X) (U2, []) (List.append_nil _) ⟨⟨rfl, rfl, rfl, trivial⟩, fun w s => by rw [hL] at s; simpa [List.append_assoc] using s⟩ ?_
  clear hLn hL L
  rintro ⟨P, Q⟩ hPQ
  dsimp only at hPQ ⊢
  have hPl : P.length + Q.length = U2.length := by rw [← hPQ, List.length_append]
  rcases List.eq_nil_or_concat P with rfl | ⟨P', z, rfl⟩
  · rw [List.nil_append] at hPQ
    subst hPQ
    repeat (first|refine zJ rfl rfl ?_|refine jr rfl ?_|refine jn ?_|refine zM rfl rfl ?_|(refine zC rfl rfl ?_ rfl ?_;omega)|(refine zD rfl rfl ?_ rfl ?_;omega)|(refine zP rfl ?_ rfl ?_;omega)|refine zG rfl rfl rfl rfl ?_|(refine jdq rfl rfl ?_ ?_ ?_;kernel_rfl;kernel_rfl)|refine zB rfl rfl rfl (by repeat constructor) rfl ?_)
    exact J_retv (rs := []) (vs := []) rfl .nil [pfO cs b n c (A ++ ((U1 ++ ([y] ++ Q)) ++ B))] (fun w s => by simpa [List.append_assoc] using s) (PH.ler _) ⟨rfl, rfl, _, rfl, mg⟩
  · rw [List.concat_eq_append] at *
    have hPl' : (P' ++ [z]).length = P'.length + 1 := by simp
    rw [hPl'] at hPl ⊢
    obtain ⟨L, hL⟩ : ∃ L, L = A ++ (U1 ++ (P' ++ [z] ++ y :: (Q ++ B))) := ⟨_, rfl⟩
    rw [← hL]
    have hLn : L.length = n := by rw [hL]; simp only [List.length_append, List.length_cons, List.length_nil]; omega
    have g1 := get_at (L := L) (P := A ++ (U1 ++ (P' ++ [z]))) (x := y) (Q := Q ++ B) (i := A.length + (U1.length + (P'.length + 1))) (by rw [hL]; simp [List.append_assoc]) (by simp)
    have g2 := get_at (L := L) (P := A ++ (U1 ++ P')) (x := z) (Q := y :: (Q ++ B)) (i := A.length + (U1.length + P'.length)) (by rw [hL]; simp [List.append_assoc]) (by simp)
    have s1 := set_at (L := L) (P := A ++ (U1 ++ (P' ++ [z]))) (x := y) (z := z) (Q := Q ++ B) (i := A.length + (U1.length + (P'.length + 1))) (by rw [hL]; simp [List.append_assoc]) (by simp)
    have s2 := set_at (L := L.set (A.length + (U1.length + (P'.length + 1))) z) (P := A ++ (U1 ++ P')) (x := z) (z := y) (Q := z :: (Q ++ B)) (i := A.length + (U1.length + P'.length)) (by rw [s1]; simp [List.append_assoc]) (by simp)
    have hnext : (L.set (A.length + (U1.length + (P'.length + 1))) z).set (A.length + (U1.length + P'.length)) y = A ++ (U1 ++ (P' ++ y :: (([z] ++ Q) ++ B))) := by rw [s2]; simp [List.append_assoc]
    have ix : some (Value.int .i64 (((A.length + (U1.length + (P'.length + 1)) : Nat) : Int) - 1)) = some (Value.int .i64 ((A.length + (U1.length + P'.length) : Nat) : Int)) := by congr 2; omega
    unfold pfO
    (repeat (first|refine zJ rfl rfl ?_|refine jr rfl ?_|refine jn ?_|refine zM rfl rfl ?_|(refine zC rfl rfl ?_ rfl ?_;omega)|(refine zD rfl rfl ?_ rfl ?_;omega)|(refine zP rfl ?_ rfl ?_;omega)|refine zG rfl rfl rfl rfl ?_|(refine jdq rfl rfl ?_ ?_ ?_;kernel_rfl;kernel_rfl)|refine zB rfl rfl rfl (by repeat constructor) rfl ?_)) 
    refine ja PH.emp [] ?_ (fun w s => s.any) ?_; kernel_rfl 
    refine aT 2 rfl (ev_pv rfl) rfl rfl ?_ ?_ ?_ ?_; kernel_rfl; kernel_rfl; kernel_rfl
    refine aT 3 rfl (ev_pv rfl) rfl rfl ?_ ?_ ?_ ?_; kernel_rfl; kernel_rfl; kernel_rfl 
    refine aT 4 rfl (ea rfl rfl rfl (by dsimp only [InK]; omega)) rfl rfl ?_ ?_ ?_ ?_; kernel_rfl; kernel_rfl; kernel_rfl 
    refine aL (fun o => o.take 2 ++ (o.drop 5).take 10) [15, 16, 17] ([0, 1] ++ List.range' 5 10) 3 rfl ?_ ?_ ?_ ?_ ?_ ?_; kernel_rfl; kernel_rfl; kernel_rfl; kernel_rfl; kernel_rfl; dsimp only [List.take, List.drop, List.cons_append, List.nil_append] 
    (repeat (first|refine zJ rfl rfl ?_|refine jr rfl ?_|refine jn ?_|refine zM rfl rfl ?_|(refine zC rfl rfl ?_ rfl ?_;omega)|(refine zD rfl rfl ?_ rfl ?_;omega)|(refine zP rfl ?_ rfl ?_;omega)|refine zG rfl rfl rfl rfl ?_|(refine jdq rfl rfl ?_ ?_ ?_;kernel_rfl;kernel_rfl)|refine zB rfl rfl rfl (by repeat constructor) rfl ?_)) 
    refine oS (ev_indexAddr (i := A.length + (U1.length + P'.length)) rfl ix rfl (by omega)) rfl ?_ 
    refine oS (ev_load_agg (cs := cs z) rfl rfl (rdb_row .here hm g2) (hm z)) rfl ?_ 
    (repeat (first|refine zJ rfl rfl ?_|refine jr rfl ?_|refine jn ?_|refine zM rfl rfl ?_|(refine zC rfl rfl ?_ rfl ?_;omega)|(refine zD rfl rfl ?_ rfl ?_;omega)|(refine zP rfl ?_ rfl ?_;omega)|refine zG rfl rfl rfl rfl ?_|(refine jdq rfl rfl ?_ ?_ ?_;kernel_rfl;kernel_rfl)|refine zB rfl rfl rfl (by repeat constructor) rfl ?_)) 
    refine oS (ev_indexAddr (i := A.length + (U1.length + (P'.length + 1))) rfl rfl rfl (by omega)) rfl ?_ 
    refine oS (ev_load_agg (cs := cs y) rfl rfl (rdb_row .here hm g1) (hm y)) rfl ?_ 
    refine oS (ev_indexAddr (i := A.length + (U1.length + (P'.length + 1))) rfl rfl rfl (by omega)) rfl ?_ 
    refine jn ?_ 
    refine aR ?_ 
    refine aB (i := 15) (by kernel_rfl) (aN rfl (ev_store_own rfl rfl .agg rfl (hm z) (by rw [Nat.zero_add]; exact lay_row hm z _ (A.length + (U1.length + (P'.length + 1))) (by omega)) (ho z) .here) rfl (fun _ _ _ _ _ w s => s.any) ?_) 
    rintro _ _ _ _ ⟨rfl, _, rfl⟩ 
    refine aT 16 rfl (ev_indexAddr (i := A.length + (U1.length + P'.length)) rfl ix rfl (by omega)) rfl rfl ?_ ?_ ?_ ?_; kernel_rfl; kernel_rfl; kernel_rfl 
    refine aB (i := 17) (by kernel_rfl) (aN rfl (ev_store_own rfl rfl .agg rfl (hm y) (by rw [Nat.zero_add]; exact lay_row hm y _ (A.length + (U1.length + P'.length)) (by rw [List.length_set]; omega)) (ho y) .here) rfl (fun _ _ _ _ _ w s => s.any) ?_) 
    rintro _ _ _ _ ⟨rfl, _, rfl⟩ 
    rw [hnext] 
    refine aD (by kernel_rfl) ?_ 
    (repeat (first|refine zJ rfl rfl ?_|refine jr rfl ?_|refine jn ?_|refine zM rfl rfl ?_|(refine zC rfl rfl ?_ rfl ?_;omega)|(refine zD rfl rfl ?_ rfl ?_;omega)|(refine zP rfl ?_ rfl ?_;omega)|refine zG rfl rfl rfl rfl ?_|(refine jdq rfl rfl ?_ ?_ ?_;kernel_rfl;kernel_rfl)|refine zB rfl rfl rfl (by repeat constructor) rfl ?_))
    refine J_again (P', [z] ++ Q) (by rw [← hPQ]; simp) (by dsimp only; omega) ⟨⟨rfl, rfl, ?_, trivial⟩, fun w s => s⟩
    dsimp only
    rw [show ((A.length + (U1.length + P'.length) : Nat) : Int) = ((A.length + (U1.length + (P'.length + 1)) : Nat) : Int) - 1 from by omega]
    rfl
end Go.Proofs.Ytmicjjhkoicdnaa
