/-
  Proofs in a row of the call's own, sorted: rows of any length. Conditions are typed with each.
-/
import Derived.Test.YtmicjjhkoicdnaaJe
namespace Go.Proofs.Ytmicjjhkoicdnaa
open Go.RowKit
set_option maxRecDepth 100000
section
variable {α : Type} {lt : α → α → Bool}
/-- Parts of so many elements, each sorted, the last one shorter. -/
inductive BlkE (lt : α → α → Bool) (bs : Nat) : List α → Prop
  | last {R : List α} : Srtd lt R → R.length < bs → BlkE lt bs R
  | more {C R : List α} : C.length = bs → Srtd lt C → BlkE lt bs R → BlkE lt bs (C ++ R)
theorem BlkE.none {bs : Nat} {R : List α} (h : BlkE lt bs R) (hl : R.length ≤ bs) : Srtd lt R := by
  cases h with
  | last h _ => exact h
  | @more C R hC hs hR =>
    rw [List.length_append] at hl
    obtain rfl := List.eq_nil_of_length_eq_zero (show R.length = 0 by omega)
    rw [List.append_nil]
    exact hs
theorem BlkE.one {bs : Nat} {R : List α} (h : BlkE lt bs R) (hl : bs < R.length) (hl2 : R.length ≤ 2 * bs) : ∃ C E, R = C ++ E ∧ C.length = bs ∧ Srtd lt C ∧ Srtd lt E := by
  cases h with
  | last _ h => omega
  | @more C R hC hs hR =>
    rw [List.length_append] at hl2
    exact ⟨C, R, rfl, hC, hs, hR.none (by omega)⟩
theorem BlkE.two {bs : Nat} {R : List α} (h : BlkE lt bs R) (hb : 0 < bs) (hl : 2 * bs ≤ R.length) : ∃ C1 C2 R', R = C1 ++ (C2 ++ R') ∧ C1.length = bs ∧ C2.length = bs ∧ Srtd lt C1 ∧ Srtd lt C2 ∧ BlkE lt bs R' := by
  cases h with
  | last _ h => omega
  | @more C R hC hs hR =>
    rw [List.length_append] at hl
    cases hR with
    | last _ h => omega
    | @more C2 R hC2 hs2 hR2 => exact ⟨C, C2, R, rfl, hC, hC2, hs, hs2, hR2⟩
end
set_option maxHeartbeats 16000000 in
theorem pf_stab {α : Type} (cs : α → List Value) (hm : ∀ x, (cs x).length = 3) (ho : ∀ x, Ones (cs x)) (lt : α → α → Bool) (hs : Swo lt) (f : FuncId) (hf : ∀ args w, (callFunc f args).run Try.prog w = .ok (.enter f args) w)
    (hc : Cmp cs lt f) (b n c : Nat) (L : List α) (F : PH) (hn : L.length = n) (hn1 : n ≤ 1000) :
    Spec Try.prog 56 [.slice (some ⟨b, 0, none⟩) n c, .int .i64 n, fnV f []] F [pfO cs b n c L] fun u F' H' => u = .tuple #[] ∧ F = F' ∧ H' = [pfO cs b n c (isortL lt L)] := by
  refine Spec.of3 Try.func56 rfl rfl fun X w0 => ?_
  dsimp only [List.cons_append, List.nil_append]
  repeat (first|refine zJ rfl rfl ?_|refine jr rfl ?_|refine jn ?_|refine zM rfl rfl ?_|(refine zC rfl rfl ?_ rfl ?_;omega)|(refine zD rfl rfl ?_ rfl ?_;omega)|(refine zP rfl ?_ rfl ?_;omega)|refine zG rfl rfl rfl rfl ?_|(refine jdq rfl rfl ?_ ?_ ?_;kernel_rfl;kernel_rfl)|refine zB rfl rfl rfl (by repeat constructor) rfl ?_)
  refine J_loop (ι := List α × List α) (fun p => p.1.length + p.2.length = n ∧ SP lt L (p.1 ++ p.2) ∧ ∀ R, BlkE lt 20 R → BlkE lt 20 (p.1 ++ R)) (fun p => p.2.length) (fun p => [(0, .slice (some ⟨b, 0, none⟩) n c), (1, .int .i64 n), (2, fnV f []), (6, .int .i64 20), (7, .int .i64 p.1.length), (8, .int .i64 (p.1.length + 20 : Nat))]) (fun _ => F) (fun p => pfO cs b n c (p.1 ++ p.2) :: X) ([], L) ⟨by simpa using hn, SP.rfl' _, fun R h => h⟩ ⟨⟨rfl, rfl, rfl, rfl, rfl, rfl, trivial⟩, fun w s => s⟩ ?_
  rintro ⟨D, R⟩ ⟨hl, hsp, hD⟩
  dsimp only at hl hsp hD ⊢
  by_cases hlt : D.length + 20 ≤ n
  · obtain ⟨C, R', rfl, hC⟩ : ∃ C R', R = C ++ R' ∧ C.length = 20 := ⟨R.take 20, R.drop 20, (List.take_append_drop _ _).symm, by rw [List.length_take]; omega⟩
    rw [List.length_append] at hl
    have hi := isortL_ok hs C
    have hil : (isortL lt C).length = 20 := by rw [← hC]; exact hi.2.1.length_eq.symm
    repeat (first|refine zJ rfl rfl ?_|refine jr rfl ?_|refine jn ?_|refine zM rfl rfl ?_|(refine zC rfl rfl ?_ rfl ?_;omega)|(refine zD rfl rfl ?_ rfl ?_;omega)|(refine zP rfl ?_ rfl ?_;omega)|refine zG rfl rfl rfl rfl ?_|(refine jdq rfl rfl ?_ ?_ ?_;kernel_rfl;kernel_rfl)|refine zB rfl rfl rfl (by repeat constructor) rfl ?_)
    have sp := pf_ins2 cs hm ho lt f hf hc b n c D C R' F (by simp only [List.length_append]; omega) hn1
    rw [hC] at sp
    refine oC (Hc := [_]) (Hr := X) sp Try.call58 rfl rfl (fun _ s => s) ?_
    rintro _ _ _ _ ⟨rfl, rfl, rfl⟩
    repeat (first|refine zJ rfl rfl ?_|refine jr rfl ?_|refine jn ?_|refine zM rfl rfl ?_|(refine zC rfl rfl ?_ rfl ?_;omega)|(refine zD rfl rfl ?_ rfl ?_;omega)|(refine zP rfl ?_ rfl ?_;omega)|refine zG rfl rfl rfl rfl ?_|(refine jdq rfl rfl ?_ ?_ ?_;kernel_rfl;kernel_rfl)|refine zB rfl rfl rfl (by repeat constructor) rfl ?_)
    refine J_again (D ++ isortL lt C, R') ⟨by dsimp only; rw [List.length_append]; omega, hsp.trans (by dsimp only; rw [List.append_assoc]; exact (SP.rfl' _).app (hi.2.app (SP.rfl' _))), fun R h => by dsimp only; rw [List.append_assoc]; exact hD _ (.more hil hi.1 h)⟩ (by dsimp only; rw [List.length_append]; omega) ⟨⟨rfl, rfl, rfl, rfl, ?_, ?_, trivial⟩, fun w s => by dsimp only; rw [List.append_assoc]; exact s⟩
    · dsimp only
      rw [List.length_append, hil]
      rfl
    · dsimp only
      rw [List.length_append, hil]
      rfl
  have hi := isortL_ok hs R
  have hil : (isortL lt R).length = R.length := hi.2.1.length_eq.symm
  have hB : BlkE lt 20 (D ++ isortL lt R) := hD _ (.last hi.1 (by omega))
  replace hsp : SP lt L (D ++ isortL lt R) := hsp.trans ((SP.rfl' _).app hi.2)
  repeat (first|refine zJ rfl rfl ?_|refine jr rfl ?_|refine jn ?_|refine zM rfl rfl ?_|(refine zC rfl rfl ?_ rfl ?_;omega)|(refine zD rfl rfl ?_ rfl ?_;omega)|(refine zP rfl ?_ rfl ?_;omega)|refine zG rfl rfl rfl rfl ?_|(refine jdq rfl rfl ?_ ?_ ?_;kernel_rfl;kernel_rfl)|refine zB rfl rfl rfl (by repeat constructor) rfl ?_)
  have sp := pf_ins2 cs hm ho lt f hf hc b n c D R [] F (by simp only [List.length_append, List.length_nil]; omega) hn1
  rw [List.append_nil, List.append_nil, hl] at sp
  refine oC (Hc := [_]) (Hr := X) sp Try.call58 rfl rfl (fun _ s => s) ?_
  rintro _ _ _ _ ⟨rfl, rfl, rfl⟩
  have hMl : (D ++ isortL lt R).length = n := by rw [List.length_append]; omega
  generalize D ++ isortL lt R = M at *
  clear hi hil hD hl hlt sp
  repeat (first|refine zJ rfl rfl ?_|refine jr rfl ?_|refine jn ?_|refine zM rfl rfl ?_|(refine zC rfl rfl ?_ rfl ?_;omega)|(refine zD rfl rfl ?_ rfl ?_;omega)|(refine zP rfl ?_ rfl ?_;omega)|refine zG rfl rfl rfl rfl ?_|(refine jdq rfl rfl ?_ ?_ ?_;kernel_rfl;kernel_rfl)|refine zB rfl rfl rfl (by repeat constructor) rfl ?_)
  refine J_loop (ι := Nat × List α) (fun p => 0 < p.1 ∧ p.1 ≤ 2000 ∧ p.2.length = n ∧ SP lt L p.2 ∧ BlkE lt p.1 p.2) (fun p => n - p.1) (fun p => [(0, .slice (some ⟨b, 0, none⟩) n c), (1, .int .i64 n), (2, fnV f []), (6, .int .i64 p.1)]) (fun _ => F) (fun p => pfO cs b n c p.2 :: X) (20, M) ⟨by dsimp only; omega, by dsimp only; omega, hMl, hsp, hB⟩ ⟨⟨rfl, rfl, rfl, rfl, trivial⟩, fun w s => s⟩ ?_
  clear hMl hsp hB
  rintro ⟨bs, M⟩ ⟨hb0, hb1, hMl, hsp, hB⟩
  dsimp only at hb0 hb1 hMl hsp hB ⊢
  by_cases hbn : bs < n
  rotate_left
  · have he : M = isortL lt L := srtd_eq hs (hB.none (by omega)) (isortL_ok hs L).1 (hsp.symm.trans (isortL_ok hs L).2)
    subst he
    repeat (first|refine zJ rfl rfl ?_|refine jr rfl ?_|refine jn ?_|refine zM rfl rfl ?_|(refine zC rfl rfl ?_ rfl ?_;omega)|(refine zD rfl rfl ?_ rfl ?_;omega)|(refine zP rfl ?_ rfl ?_;omega)|refine zG rfl rfl rfl rfl ?_|(refine jdq rfl rfl ?_ ?_ ?_;kernel_rfl;kernel_rfl)|refine zB rfl rfl rfl (by repeat constructor) rfl ?_)
    refine zE rfl ?_
    exact J_end (F0 := F) (X := X) rfl [_] (fun w s => s) (PH.ler _) ⟨rfl, rfl, rfl⟩
  repeat (first|refine zJ rfl rfl ?_|refine jr rfl ?_|refine jn ?_|refine zM rfl rfl ?_|(refine zC rfl rfl ?_ rfl ?_;omega)|(refine zD rfl rfl ?_ rfl ?_;omega)|(refine zP rfl ?_ rfl ?_;omega)|refine zG rfl rfl rfl rfl ?_|(refine jdq rfl rfl ?_ ?_ ?_;kernel_rfl;kernel_rfl)|refine zB rfl rfl rfl (by repeat constructor) rfl ?_)
  refine J_loop (ι := List α × List α) (fun p => p.1.length + p.2.length = n ∧ SP lt L (p.1 ++ p.2) ∧ BlkE lt bs p.2 ∧ ∀ R, BlkE lt (2 * bs) R → BlkE lt (2 * bs) (p.1 ++ R)) (fun p => p.2.length) (fun p => [(0, .slice (some ⟨b, 0, none⟩) n c), (1, .int .i64 n), (2, fnV f []), (6, .int .i64 bs), (7, .int .i64 p.1.length), (8, .int .i64 (p.1.length + 2 * bs : Nat))]) (fun _ => F) (fun p => pfO cs b n c (p.1 ++ p.2) :: X) ([], M) ⟨by simpa using hMl, hsp, hB, fun R h => h⟩ ⟨⟨rfl, rfl, rfl, rfl, rfl, ?_, trivial⟩, fun w s => s⟩ ?_
  · dsimp only [List.length_nil]
    rw [show ((0 + 2 * bs : Nat) : Int) = 2 * (bs : Int) from by omega]
    rfl
  clear hMl hsp hB
  rintro ⟨D, R⟩ ⟨hl, hsp, hB, hD⟩
  dsimp only at hl hsp hB hD ⊢
  by_cases hlt : D.length + 2 * bs ≤ n
  · obtain ⟨C1, C2, R', rfl, hC1, hC2, hs1, hs2, hB'⟩ := hB.two hb0 (by omega)
    simp only [List.length_append] at hl
    repeat (first|refine zJ rfl rfl ?_|refine jr rfl ?_|refine jn ?_|refine zM rfl rfl ?_|(refine zC rfl rfl ?_ rfl ?_;omega)|(refine zD rfl rfl ?_ rfl ?_;omega)|(refine zP rfl ?_ rfl ?_;omega)|refine zG rfl rfl rfl rfl ?_|(refine jdq rfl rfl ?_ ?_ ?_;kernel_rfl;kernel_rfl)|refine zB rfl rfl rfl (by repeat constructor) rfl ?_)
    have sp := pf_sym cs hm ho lt hs f hf hc b n c (C1.length + C2.length) D C1 C2 R' F (Nat.le_refl _) (by simp only [List.length_append]; omega) hn1 (by omega) (by omega) hs1 hs2
    rw [hC1, hC2] at sp
    refine oC (Hc := [_]) (Hr := X) (spec_args sp (by rw [show D.length + bs + bs = D.length + 2 * bs from by omega]; rfl)) Try.call59 rfl rfl (fun _ s => s) ?_
    rintro _ _ _ _ ⟨rfl, rfl, W, rfl, hW⟩
    have hWl : W.length = 2 * bs := by rw [hW.len, List.length_append]; omega
    repeat (first|refine zJ rfl rfl ?_|refine jr rfl ?_|refine jn ?_|refine zM rfl rfl ?_|(refine zC rfl rfl ?_ rfl ?_;omega)|(refine zD rfl rfl ?_ rfl ?_;omega)|(refine zP rfl ?_ rfl ?_;omega)|refine zG rfl rfl rfl rfl ?_|(refine jdq rfl rfl ?_ ?_ ?_;kernel_rfl;kernel_rfl)|refine zB rfl rfl rfl (by repeat constructor) rfl ?_)
    refine J_again (D ++ W, R') ⟨by dsimp only; rw [List.length_append]; omega, hsp.trans (by dsimp only; rw [List.append_assoc, ← List.append_assoc C1]; exact (SP.rfl' _).app (hW.2.app (SP.rfl' _))), hB', fun R h => by dsimp only; rw [List.append_assoc]; exact hD _ (.more hWl hW.1 h)⟩ (by dsimp only; simp only [List.length_append]; omega) ⟨⟨rfl, rfl, rfl, rfl, ?_, ?_, trivial⟩, fun w s => by dsimp only; rw [List.append_assoc]; exact s⟩
    · dsimp only
      rw [List.length_append, hWl]
      rfl
    · dsimp only
      rw [List.length_append, hWl, show ((D.length + 2 * bs + 2 * bs : Nat) : Int) = ((D.length + 2 * bs : Nat) : Int) + 2 * (bs : Int) from by omega]
      rfl
  by_cases hm2 : D.length + bs < n
  · obtain ⟨C, E, rfl, hC, hsC, hsE⟩ := hB.one (by omega) (by omega)
    simp only [List.length_append] at hl
    repeat (first|refine zJ rfl rfl ?_|refine jr rfl ?_|refine jn ?_|refine zM rfl rfl ?_|(refine zC rfl rfl ?_ rfl ?_;omega)|(refine zD rfl rfl ?_ rfl ?_;omega)|(refine zP rfl ?_ rfl ?_;omega)|refine zG rfl rfl rfl rfl ?_|(refine jdq rfl rfl ?_ ?_ ?_;kernel_rfl;kernel_rfl)|refine zB rfl rfl rfl (by repeat constructor) rfl ?_)
    have sp := pf_sym cs hm ho lt hs f hf hc b n c (C.length + E.length) D C E [] F (Nat.le_refl _) (by simp only [List.length_append, List.length_nil]; omega) hn1 (by omega) (by omega) hsC hsE
    rw [List.append_nil, hC, show D.length + bs + E.length = n from by omega] at sp
    refine oC (Hc := [_]) (Hr := X) sp Try.call59 rfl rfl (fun _ s => s) ?_
    rintro _ _ _ _ ⟨rfl, rfl, W, rfl, hW⟩
    have hWl : W.length = bs + E.length := by rw [hW.len, List.length_append]; omega
    repeat (first|refine zJ rfl rfl ?_|refine jr rfl ?_|refine jn ?_|refine zM rfl rfl ?_|(refine zC rfl rfl ?_ rfl ?_;omega)|(refine zD rfl rfl ?_ rfl ?_;omega)|(refine zP rfl ?_ rfl ?_;omega)|refine zG rfl rfl rfl rfl ?_|(refine jdq rfl rfl ?_ ?_ ?_;kernel_rfl;kernel_rfl)|refine zB rfl rfl rfl (by repeat constructor) rfl ?_)
    refine J_again (2 * bs, D ++ W) ⟨by dsimp only; omega, by dsimp only; omega, by dsimp only; rw [List.length_append]; omega, hsp.trans ((SP.rfl' _).app hW.2), hD _ (.last hW.1 (by omega))⟩ (by dsimp only; omega) ⟨⟨rfl, rfl, rfl, ?_, trivial⟩, fun w s => by rw [List.append_nil] at s; exact s⟩
    dsimp only
    rw [show ((2 * bs : Nat) : Int) = (bs : Int) * 2 from by omega]
    rfl
  · repeat (first|refine zJ rfl rfl ?_|refine jr rfl ?_|refine jn ?_|refine zM rfl rfl ?_|(refine zC rfl rfl ?_ rfl ?_;omega)|(refine zD rfl rfl ?_ rfl ?_;omega)|(refine zP rfl ?_ rfl ?_;omega)|refine zG rfl rfl rfl rfl ?_|(refine jdq rfl rfl ?_ ?_ ?_;kernel_rfl;kernel_rfl)|refine zB rfl rfl rfl (by repeat constructor) rfl ?_)
    refine J_again (2 * bs, D ++ R) ⟨by dsimp only; omega, by dsimp only; omega, by dsimp only; rw [List.length_append]; omega, hsp, hD _ (.last (hB.none (by omega)) (by omega))⟩ (by dsimp only; omega) ⟨⟨rfl, rfl, rfl, ?_, trivial⟩, fun w s => s⟩
    dsimp only
    rw [show ((2 * bs : Nat) : Int) = (bs : Int) * 2 from by omega]
    rfl
/-- 'slices.SortStableFunc' over proofs. -/
theorem pf_sorts {α : Type} (cs : α → List Value) (hm : ∀ x, (cs x).length = 3) (ho : ∀ x, Ones (cs x)) (lt : α → α → Bool) (hs : Swo lt) (f : FuncId) (hf : ∀ args w, (callFunc f args).run Try.prog w = .ok (.enter f args) w)
    (hc : Cmp cs lt f) (a : Option Addr) (n c : Nat) (L : List α) (F : PH) (hn : L.length = n) (hn1 : n ≤ 1000) (ha : 0 < n → ∃ b, a = some ⟨b, 0, none⟩) :
    Spec Try.prog 50 [.slice a n c, fnV f []] F [own (.slice a n c) 43 3 n (rowC cs L)] fun _ F' H' => F = F' ∧ H' = [own (.slice a n c) 43 3 n (rowC cs (isortL lt L))] := by
  by_cases h20 : n < 20
  · exact pf_sort cs hm ho lt f hf hc a n c L F hn h20 ha
  obtain ⟨b, rfl⟩ := ha (by omega)
  refine Spec.of2 Try.func50 rfl rfl fun X w0 => ?_
  dsimp only [List.cons_append, List.nil_append]
  repeat (first|refine zJ rfl rfl ?_|refine jr rfl ?_|refine jn ?_|refine zM rfl rfl ?_|(refine zC rfl rfl ?_ rfl ?_;omega)|(refine zD rfl rfl ?_ rfl ?_;omega)|(refine zP rfl ?_ rfl ?_;omega)|refine zG rfl rfl rfl rfl ?_|(refine jdq rfl rfl ?_ ?_ ?_;kernel_rfl;kernel_rfl)|refine zB rfl rfl rfl (by repeat constructor) rfl ?_)
  refine oC (Hc := [_]) (Hr := X) (pf_stab cs hm ho lt hs f hf hc b n c L F hn hn1) Try.call56 rfl rfl (fun _ s => s) ?_
  rintro _ _ _ _ ⟨rfl, rfl, rfl⟩
  repeat (first|refine zJ rfl rfl ?_|refine jr rfl ?_|refine jn ?_|refine zM rfl rfl ?_|(refine zC rfl rfl ?_ rfl ?_;omega)|(refine zD rfl rfl ?_ rfl ?_;omega)|(refine zP rfl ?_ rfl ?_;omega)|refine zG rfl rfl rfl rfl ?_|(refine jdq rfl rfl ?_ ?_ ?_;kernel_rfl;kernel_rfl)|refine zB rfl rfl rfl (by repeat constructor) rfl ?_)
  refine zE rfl ?_
  exact J_end (F0 := F) (X := X) rfl [_] (fun w s => s) (PH.ler _) ⟨rfl, rfl⟩
end Go.Proofs.Ytmicjjhkoicdnaa
