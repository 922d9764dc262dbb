/-
  What was prepared, and what was proposed: kept. Conditions are typed with each.
  What was prepared, and what was proposed: sorted. Conditions are typed with each.
  What was prepared, and what was proposed: given back; what is proposed. Conditions are typed with each.
-/
import Derived.Test.YtmicjjhkoicdnaaJh
import Derived.Test.YtmicjjhkoicdnaaLh
namespace Go.Proofs.Ytmicjjhkoicdnaa
open Go.RowKit
set_option maxRecDepth 100000
/-- Of one number. -/
def seqP (x y : PrX) : Bool := decide (y.1 = x.1)
set_option maxHeartbeats 4000000 in
theorem prep_spec (b : Nat) (v1 v2 : Value) (L : List PV) (x : PV) (F : PH) (hn : L.length ≤ 900) (hL : ∀ y ∈ L, y.Ok F) (hx : x.Ok F) :
    Spec Try.prog 18 [.pointer (some ⟨b, 0, none⟩), .agg x.cs.toArray] F [blk b 66 [v1, v2], prO v1 L] fun _ F' H' => ∃ v' L', H' = [blk b 66 [v', v2], prO v' L'] ∧ (∀ y ∈ L', y.Ok F') ∧ L'.map PV.key = newerP (seqP x.key) (L.map PV.key) x.key := by
  refine Spec.of2 Try.func18 rfl rfl fun X w0 => ?_
  show J _ _ _ _ (blk b 66 [v1, v2] :: prO v1 L :: X)
  refine jc rfl rfl ?_
  refine jr rfl ?_
  refine oE (ev_box rfl .agg) rfl ?_; rintro _ _ _ _ ⟨rfl, b3, rfl, rfl⟩
  refine oPersist fun hh hA hd => ?_
  have h3 := blk_cells hA hd
  have hF1 := PH.le_l F hh
  generalize F.un hh = F1 at *
  replace hL : ∀ y ∈ L, y.Ok F1 := fun y hy => (hL y hy).mono hF1
  replace hx := hx.mono hF1
  repeat (first|refine zJ rfl rfl ?_|refine jr rfl ?_|refine jn ?_|refine zM rfl rfl ?_|(refine zC rfl rfl ?_ rfl ?_;omega)|(refine zD rfl rfl ?_ rfl ?_;omega)|(refine zP rfl ?_ rfl ?_;omega)|refine zG rfl rfl rfl rfl ?_|(refine jdq rfl rfl ?_ ?_ ?_;kernel_rfl;kernel_rfl)|refine zB rfl rfl rfl (by repeat constructor) rfl ?_|refine zH .here rfl rfl rfl rfl ?_|refine zH (.there .here) rfl rfl rfl rfl ?_|refine zH (.there (.there .here)) rfl rfl rfl rfl ?_)
  refine jaL F1 [blk b 66 [v1, v2]] rfl ?_ ?_ (fun w t => t.head) ?_; kernel_rfl; kernel_rfl; dsimp only [List.dropLast]
  refine aT 0 rfl (ev_pv rfl) rfl rfl ?_ ?_ ?_ ?_; kernel_rfl; kernel_rfl; kernel_rfl
  refine aT 1 rfl (ev_pv rfl) rfl rfl ?_ ?_ ?_ ?_; kernel_rfl; kernel_rfl; kernel_rfl
  refine aT 2 rfl (ev_qe rfl) rfl rfl ?_ ?_ ?_ ?_; kernel_rfl; kernel_rfl; kernel_rfl
  refine aT 3 rfl (ev_qe rfl) rfl rfl ?_ ?_ ?_ ?_; kernel_rfl; kernel_rfl; kernel_rfl
  refine aT 4 rfl (ev_load (v := v1) rfl rfl (Rdb.ofB (n := 0) .here rfl)) rfl rfl ?_ ?_ ?_ ?_; kernel_rfl; kernel_rfl; kernel_rfl
  refine aT 5 rfl (ev_load_agg (cs := x.cs) rfl rfl (Rdb.ofF h3) rfl) rfl rfl ?_ ?_ ?_ ?_; kernel_rfl; kernel_rfl; kernel_rfl
  refine aB (i := 6) (by kernel_rfl) (aV rfl (ev_makeFunc (vs := [.pointer (some ⟨b3, 0, none⟩)]) rfl) rfl rfl ?_)
  refine aB (i := 7) (by kernel_rfl) (aC (Hc := [prO v1 L]) (Hr := blk b 66 [v1, v2] :: X) rfl (newer_spec 38 [.pointer (some ⟨b3, 0, none⟩)] (seqP x.key) v1 L x F1 hn hL hx Try.call38 (fun y hy => seqIs_spec y x b3 F1 h3)) Try.call32 rfl rfl rfl (fun _ s => s.pm 2 [1, 0] rfl rfl) (fun _ _ _ hF hq w s => by obtain ⟨L', rfl, _⟩ := hq; exact ((s.pick (.there .here)).head).mono hF) ?_)
  rintro u F2 _ hF2 ⟨L', rfl, hok, hkey⟩
  refine aT 8 rfl (ev_qe rfl) rfl rfl ?_ ?_ ?_ ?_; kernel_rfl; kernel_rfl; kernel_rfl
  refine aT 9 rfl (ev_qe rfl) rfl rfl ?_ ?_ ?_ ?_; kernel_rfl; kernel_rfl; kernel_rfl
  refine aD (by kernel_rfl) ?_
  refine jL rfl ?_
  refine oOwnA .here fun a' c' hu' _ _ _ _ => ?_
  subst hu'
  refine oN (ev_store (b := b) (off := 0 + 0) (vs := [.slice a' L'.length c']) rfl rfl (by constructor) rfl rfl (s := [.slice a' L'.length c', v2]) (.put .nil) (ones_cons rfl ones_nil) (.there .here)) rfl ?_
  rintro _ _ _ _ ⟨rfl, rfl, rfl⟩
  repeat (first|refine zJ rfl rfl ?_|refine jr rfl ?_|refine jn ?_|refine zM rfl rfl ?_|(refine zC rfl rfl ?_ rfl ?_;omega)|(refine zD rfl rfl ?_ rfl ?_;omega)|(refine zP rfl ?_ rfl ?_;omega)|refine zG rfl rfl rfl rfl ?_|(refine jdq rfl rfl ?_ ?_ ?_;kernel_rfl;kernel_rfl)|refine zB rfl rfl rfl (by repeat constructor) rfl ?_|refine zH .here rfl rfl rfl rfl ?_|refine zH (.there .here) rfl rfl rfl rfl ?_|refine zH (.there (.there .here)) rfl rfl rfl rfl ?_)
  refine zE rfl ?_
  exact J_end (X := X) rfl [blk b 66 [.slice a' L'.length c', v2], prO _ L'] (fun w s => s.pm 2 [1, 0] rfl rfl) (hF1.trans hF2) ⟨_, L', rfl, hok, hkey⟩
/-- The first one that isn't 0. -/
def orI (x y : Int) : Int := if x ≠ 0 then x else y
set_option maxHeartbeats 4000000 in
theorem or_spec (x y : Int) (b : Nat) (F : PH) : Spec Try.prog 35 [.slice (some ⟨b, 0, none⟩) 2 2] F [blk b 3 [.int .i64 x, .int .i64 y]] fun u F' H' => F = F' ∧ u = .int .i64 (orI x y) ∧ H' = [blk b 3 [.int .i64 x, .int .i64 y]] := by
  refine Spec.of1 Try.func35 rfl rfl fun X w0 => ?_
  show J _ _ _ _ (blk b 3 [.int .i64 x, .int .i64 y] :: X)
  repeat (first|refine zJ rfl rfl ?_|refine jr rfl ?_|refine jn ?_|refine zM rfl rfl ?_|(refine zC rfl rfl ?_ rfl ?_;omega)|(refine zD rfl rfl ?_ rfl ?_;omega)|(refine zP rfl ?_ rfl ?_;omega)|refine zG rfl rfl rfl rfl ?_|(refine jdq rfl rfl ?_ ?_ ?_;kernel_rfl;kernel_rfl)|refine zB rfl rfl rfl (by repeat constructor) rfl ?_|refine zH .here rfl rfl rfl rfl ?_|refine zH (.there .here) rfl rfl rfl rfl ?_|refine zH (.there (.there .here)) rfl rfl rfl rfl ?_)
  refine J_loop (ι := Nat) (fun i => i ≤ 2 ∧ (0 < i → x = 0) ∧ (1 < i → y = 0)) (fun i => 2 - i) (fun i => [(3, .int .i64 0), (6, .slice (some ⟨b, 0, none⟩) 2 2), (7, .int .i64 2), (8, .int .i64 i)]) (fun _ => F) (fun _ => blk b 3 [.int .i64 x, .int .i64 y] :: X) 0 ⟨by omega, fun h => absurd h (by omega), fun h => absurd h (by omega)⟩
    ⟨⟨rfl, rfl, rfl, rfl, trivial⟩, fun _ h => h⟩ ?_
  rintro i ⟨hi, h0, h1⟩
  rcases (show i = 0 ∨ i = 1 ∨ i = 2 by omega) with rfl | rfl | rfl
  · repeat (first|refine zJ rfl rfl ?_|refine jr rfl ?_|refine jn ?_|refine zM rfl rfl ?_|(refine zC rfl rfl ?_ rfl ?_;omega)|(refine zD rfl rfl ?_ rfl ?_;omega)|(refine zP rfl ?_ rfl ?_;omega)|refine zG rfl rfl rfl rfl ?_|(refine jdq rfl rfl ?_ ?_ ?_;kernel_rfl;kernel_rfl)|refine zB rfl rfl rfl (by repeat constructor) rfl ?_|refine zH .here rfl rfl rfl rfl ?_|refine zH (.there .here) rfl rfl rfl rfl ?_|refine zH (.there (.there .here)) rfl rfl rfl rfl ?_)
    refine oS (ev_indexAddr (i := 0) rfl rfl rfl (by omega)) rfl ?_
    refine oS (ev_load (v := .int .i64 x) rfl rfl (Rdb.ofB (n := 0) .here rfl)) rfl ?_
    by_cases hx : x = 0
    · repeat (first|refine zJ rfl rfl ?_|refine jr rfl ?_|refine jn ?_|refine zM rfl rfl ?_|(refine zC rfl rfl ?_ rfl ?_;omega)|(refine zD rfl rfl ?_ rfl ?_;omega)|(refine zP rfl ?_ rfl ?_;omega)|refine zG rfl rfl rfl rfl ?_|(refine jdq rfl rfl ?_ ?_ ?_;kernel_rfl;kernel_rfl)|refine zB rfl rfl rfl (by repeat constructor) rfl ?_|refine zH .here rfl rfl rfl rfl ?_|refine zH (.there .here) rfl rfl rfl rfl ?_|refine zH (.there (.there .here)) rfl rfl rfl rfl ?_)
      exact J_again 1 ⟨by omega, fun _ => hx, fun h => absurd h (by omega)⟩ (by omega) ⟨⟨rfl, rfl, rfl, rfl, trivial⟩, fun w s => s⟩
    · repeat (first|refine zJ rfl rfl ?_|refine jr rfl ?_|refine jn ?_|refine zM rfl rfl ?_|(refine zC rfl rfl ?_ rfl ?_;omega)|(refine zD rfl rfl ?_ rfl ?_;omega)|(refine zP rfl ?_ rfl ?_;omega)|refine zG rfl rfl rfl rfl ?_|(refine jdq rfl rfl ?_ ?_ ?_;kernel_rfl;kernel_rfl)|refine zB rfl rfl rfl (by repeat constructor) rfl ?_|refine zH .here rfl rfl rfl rfl ?_|refine zH (.there .here) rfl rfl rfl rfl ?_|refine zH (.there (.there .here)) rfl rfl rfl rfl ?_)
      exact J_retv rfl (.tmp rfl .nil) [_] (fun w s => s) (PH.ler _) ⟨rfl, by show _ = Value.int .i64 (orI x y); unfold orI; rw [if_pos hx]; rfl, rfl⟩
  · have hx := h0 (by omega)
    repeat (first|refine zJ rfl rfl ?_|refine jr rfl ?_|refine jn ?_|refine zM rfl rfl ?_|(refine zC rfl rfl ?_ rfl ?_;omega)|(refine zD rfl rfl ?_ rfl ?_;omega)|(refine zP rfl ?_ rfl ?_;omega)|refine zG rfl rfl rfl rfl ?_|(refine jdq rfl rfl ?_ ?_ ?_;kernel_rfl;kernel_rfl)|refine zB rfl rfl rfl (by repeat constructor) rfl ?_|refine zH .here rfl rfl rfl rfl ?_|refine zH (.there .here) rfl rfl rfl rfl ?_|refine zH (.there (.there .here)) rfl rfl rfl rfl ?_)
    refine oS (ev_indexAddr (i := 1) rfl rfl rfl (by omega)) rfl ?_
    refine oS (ev_load (v := .int .i64 y) rfl rfl (Rdb.ofB (n := 1) .here rfl)) rfl ?_
    by_cases hy : y = 0
    · repeat (first|refine zJ rfl rfl ?_|refine jr rfl ?_|refine jn ?_|refine zM rfl rfl ?_|(refine zC rfl rfl ?_ rfl ?_;omega)|(refine zD rfl rfl ?_ rfl ?_;omega)|(refine zP rfl ?_ rfl ?_;omega)|refine zG rfl rfl rfl rfl ?_|(refine jdq rfl rfl ?_ ?_ ?_;kernel_rfl;kernel_rfl)|refine zB rfl rfl rfl (by repeat constructor) rfl ?_|refine zH .here rfl rfl rfl rfl ?_|refine zH (.there .here) rfl rfl rfl rfl ?_|refine zH (.there (.there .here)) rfl rfl rfl rfl ?_)
      exact J_again 2 ⟨by omega, fun _ => hx, fun _ => hy⟩ (by omega) ⟨⟨rfl, rfl, rfl, rfl, trivial⟩, fun w s => s⟩
    · repeat (first|refine zJ rfl rfl ?_|refine jr rfl ?_|refine jn ?_|refine zM rfl rfl ?_|(refine zC rfl rfl ?_ rfl ?_;omega)|(refine zD rfl rfl ?_ rfl ?_;omega)|(refine zP rfl ?_ rfl ?_;omega)|refine zG rfl rfl rfl rfl ?_|(refine jdq rfl rfl ?_ ?_ ?_;kernel_rfl;kernel_rfl)|refine zB rfl rfl rfl (by repeat constructor) rfl ?_|refine zH .here rfl rfl rfl rfl ?_|refine zH (.there .here) rfl rfl rfl rfl ?_|refine zH (.there (.there .here)) rfl rfl rfl rfl ?_)
      exact J_retv rfl (.tmp rfl .nil) [_] (fun w s => s) (PH.ler _) ⟨rfl, by show _ = Value.int .i64 (orI x y); unfold orI; rw [if_neg (by omega)]; rfl, rfl⟩
  · have hx := h0 (by omega)
    have hy := h1 (by omega)
    repeat (first|refine zJ rfl rfl ?_|refine jr rfl ?_|refine jn ?_|refine zM rfl rfl ?_|(refine zC rfl rfl ?_ rfl ?_;omega)|(refine zD rfl rfl ?_ rfl ?_;omega)|(refine zP rfl ?_ rfl ?_;omega)|refine zG rfl rfl rfl rfl ?_|(refine jdq rfl rfl ?_ ?_ ?_;kernel_rfl;kernel_rfl)|refine zB rfl rfl rfl (by repeat constructor) rfl ?_|refine zH .here rfl rfl rfl rfl ?_|refine zH (.there .here) rfl rfl rfl rfl ?_|refine zH (.there (.there .here)) rfl rfl rfl rfl ?_)
    exact J_retv rfl (.tmp rfl .nil) [_] (fun w s => s) (PH.ler _) ⟨rfl, by show _ = Value.int .i64 (orI x y); unfold orI; rw [if_neg (by omega), hy]; rfl, rfl⟩
end Go.Proofs.Ytmicjjhkoicdnaa
namespace Go.Proofs.Ytmicjjhkoicdnaa
open Go.RowKit
set_option maxRecDepth 100000
/-- By numbers, then by views. -/
def ltS (x y : PV) : Bool := decide (x.s < y.s) || (decide (x.s = y.s) && decide (x.w < y.w))
theorem ltS_swo : Swo ltS where
  asy x y h := by unfold ltS at *; simp at *; omega
  inc x y z h k := by unfold ltS at *; simp at *; omega
theorem orI_lt (x y : PV) : orI (cmpI x.s y.s) (cmpI x.w y.w) < 0 ↔ ltS x y = true := by
  unfold orI cmpI ltS
  simp only [Bool.or_eq_true, Bool.and_eq_true, decide_eq_true_eq]
  by_cases h1 : x.s < y.s <;> by_cases h2 : y.s < x.s <;> by_cases h3 : x.w < y.w <;> by_cases h4 : y.w < x.w <;> simp [h1, h2, h3, h4] <;> omega
set_option maxHeartbeats 4000000 in
theorem by_spec : Cmp PV.cs ltS 51 := by
  intro x y F
  refine ⟨orI (cmpI x.s y.s) (cmpI x.w y.w), ?_, orI_lt x y⟩
  refine Spec.of2 Try.func51 rfl rfl fun X w0 => ?_
  refine jc rfl rfl ?_
  refine jr rfl ?_
  refine oE (ev_box rfl .agg) rfl ?_; rintro _ _ _ _ ⟨rfl, b2, rfl, rfl⟩
  refine oE (ev_box rfl .agg) rfl ?_; rintro _ _ _ _ ⟨rfl, b3, rfl, rfl⟩
  repeat (first|refine zJ rfl rfl ?_|refine jr rfl ?_|refine jn ?_|refine zM rfl rfl ?_|(refine zC rfl rfl ?_ rfl ?_;omega)|(refine zD rfl rfl ?_ rfl ?_;omega)|(refine zP rfl ?_ rfl ?_;omega)|refine zG rfl rfl rfl rfl ?_|(refine jdq rfl rfl ?_ ?_ ?_;kernel_rfl;kernel_rfl)|refine zB rfl rfl rfl (by repeat constructor) rfl ?_|refine zH .here rfl rfl rfl rfl ?_|refine zH (.there .here) rfl rfl rfl rfl ?_|refine zH (.there (.there .here)) rfl rfl rfl rfl ?_)
  refine ja F [blk b3 43 y.cs, blk b2 43 x.cs] ?_ (fun w t => Sat.left (A := [_, _]) t) ?_; kernel_rfl
  refine aT 0 rfl (ev_qe rfl) rfl rfl ?_ ?_ ?_ ?_; kernel_rfl; kernel_rfl; kernel_rfl
  refine aT 1 rfl (ev_load (v := .int .i64 x.s) rfl rfl (Rdb.ofB (n := 0) (.there .here) rfl)) rfl rfl ?_ ?_ ?_ ?_; kernel_rfl; kernel_rfl; kernel_rfl
  refine aT 2 rfl (ev_qe rfl) rfl rfl ?_ ?_ ?_ ?_; kernel_rfl; kernel_rfl; kernel_rfl
  refine aT 3 rfl (ev_load (v := .int .i64 y.s) rfl rfl (Rdb.ofB (n := 0) .here rfl)) rfl rfl ?_ ?_ ?_ ?_; kernel_rfl; kernel_rfl; kernel_rfl
  refine aT 5 rfl (ev_qe rfl) rfl rfl ?_ ?_ ?_ ?_; kernel_rfl; kernel_rfl; kernel_rfl
  refine aT 6 rfl (ev_load (v := .int .i64 x.w) rfl rfl (Rdb.ofB (n := 1) (.there .here) rfl)) rfl rfl ?_ ?_ ?_ ?_; kernel_rfl; kernel_rfl; kernel_rfl
  refine aT 7 rfl (ev_qe rfl) rfl rfl ?_ ?_ ?_ ?_; kernel_rfl; kernel_rfl; kernel_rfl
  refine aT 8 rfl (ev_load (v := .int .i64 y.w) rfl rfl (Rdb.ofB (n := 1) .here rfl)) rfl rfl ?_ ?_ ?_ ?_; kernel_rfl; kernel_rfl; kernel_rfl
  refine aB (i := 4) (by kernel_rfl) (aP rfl (cmp64_spec x.s y.s F) Try.call29 rfl rfl rfl (fun _ s => Sat.left (A := [_, _]) s) ?_)
  refine aB (i := 9) (by kernel_rfl) (aP rfl (cmp64_spec x.w y.w F) Try.call29 rfl rfl rfl (fun _ s => Sat.left (A := [_, _]) s) ?_)
  refine aB (i := 10) (by kernel_rfl) (aE rfl (ev_buildSlice (E := 3) (zs := [.int .i64 0]) (t := [.int .i64 (cmpI x.s y.s), .int .i64 (cmpI x.w y.w)]) rfl rfl rfl rfl rfl rfl (.cons .int rfl (lay_set (i := 0) (r := [.int .i64 0, .int .i64 0]) _ (by decide)) (.cons .int rfl (lay_set (i := 1) (r := [.int .i64 (cmpI x.s y.s), .int .i64 0]) _ (by simp)) .nil))) rfl rfl ?_ ?_)
  · rintro _ _ _ _ ⟨rfl, bt, rfl, rfl⟩ w s
    exact Sat.left (A := [_, _]) s.drop
  rintro _ _ _ _ ⟨rfl, bt, rfl, rfl⟩
  refine aB (i := 11) (by kernel_rfl) (aC (Hc := [blk bt 3 [.int .i64 (cmpI x.s y.s), .int .i64 (cmpI x.w y.w)]]) (Hr := blk b3 43 y.cs :: blk b2 43 x.cs :: X) rfl (or_spec (cmpI x.s y.s) (cmpI x.w y.w) bt F) Try.call35 rfl rfl rfl (fun _ s => s) (fun _ _ _ _ hq w s => by obtain ⟨rfl, _, rfl⟩ := hq; exact Sat.left (A := [_, _]) s.drop) ?_)
  rintro _ _ _ _ ⟨rfl, rfl, rfl⟩
  refine aT 12 rfl (ev_pv rfl) rfl rfl ?_ ?_ ?_ ?_; kernel_rfl; kernel_rfl; kernel_rfl
  refine aD (by kernel_rfl) ?_
  repeat (first|refine zJ rfl rfl ?_|refine jr rfl ?_|refine jn ?_|refine zM rfl rfl ?_|(refine zC rfl rfl ?_ rfl ?_;omega)|(refine zD rfl rfl ?_ rfl ?_;omega)|(refine zP rfl ?_ rfl ?_;omega)|refine zG rfl rfl rfl rfl ?_|(refine jdq rfl rfl ?_ ?_ ?_;kernel_rfl;kernel_rfl)|refine zB rfl rfl rfl (by repeat constructor) rfl ?_|refine zH .here rfl rfl rfl rfl ?_|refine zH (.there .here) rfl rfl rfl rfl ?_|refine zH (.there (.there .here)) rfl rfl rfl rfl ?_)
  exact J_retv rfl (.tmp rfl .nil) [] (fun w s => s.drop.drop.drop) (PH.ler _) ⟨rfl, rfl⟩
set_option maxHeartbeats 4000000 in
theorem sorted_spec (v : Value) (L : List PV) (F : PH) (hn : L.length ≤ 900) (hL : ∀ y ∈ L, y.Ok F) : Spec Try.prog 37 [v] F [prO v L] fun u F' H' => ∃ L', H' = [prO v L, prO u (isortL ltS L')] ∧ (∀ y ∈ L', y.Ok F') ∧ L'.map PV.key = L.map PV.key := by
  refine Spec.of1 Try.func37 rfl rfl fun X w0 => ?_
  show J _ _ _ _ (own v 43 3 L.length (rowC PV.cs L) :: X)
  refine jOwnA .here fun a c hv hnc hcm hlen ha => ?_
  subst hv
  refine J_own_nil 43 3 ?_
  repeat (first|refine zJ rfl rfl ?_|refine jr rfl ?_|refine jn ?_|refine zM rfl rfl ?_|(refine zC rfl rfl ?_ rfl ?_;omega)|(refine zD rfl rfl ?_ rfl ?_;omega)|(refine zP rfl ?_ rfl ?_;omega)|refine zG rfl rfl rfl rfl ?_|(refine jdq rfl rfl ?_ ?_ ?_;kernel_rfl;kernel_rfl)|refine zB rfl rfl rfl (by repeat constructor) rfl ?_|refine zH .here rfl rfl rfl rfl ?_|refine zH (.there .here) rfl rfl rfl rfl ?_|refine zH (.there (.there .here)) rfl rfl rfl rfl ?_)
  refine J_loop (ι := Nat × List PV × Value × PH) (fun p => p.1 ≤ L.length ∧ F.le p.2.2.2 ∧ (∀ y ∈ p.2.1, y.Ok p.2.2.2) ∧ p.2.1.map PV.key = (L.take p.1).map PV.key) (fun p => L.length - p.1) (fun p => [(6, .slice a L.length c), (7, .int .i64 L.length), (8, .int .i64 p.1), (3, p.2.2.1)]) (fun p => p.2.2.2) (fun p => own (.slice a L.length c) 43 3 L.length (rowC PV.cs L) :: prO p.2.2.1 p.2.1 :: X) (0, [], .slice none 0 0, F) ⟨Nat.zero_le _, PH.ler _, (fun y h => absurd h (List.not_mem_nil)), rfl⟩
    ⟨⟨rfl, rfl, rfl, rfl, trivial⟩, fun w s => s.pm 2 [1, 0] rfl rfl⟩ ?_
  rintro ⟨i, M, vm, G⟩ ⟨hi, hG, hM, hkey⟩
  dsimp only at hi hG hM hkey ⊢
  have hMl : M.length = i := by have := congrArg List.length hkey; simpa [hi] using this
  by_cases hlt : i < L.length
  · have g1 : L[i]? = some L[i] := List.getElem?_eq_getElem hlt
    have hok := (hL _ (List.getElem_mem hlt)).mono hG
    have htk : L.take (i + 1) = L.take i ++ [L[i]] := List.take_succ_eq_append_getElem hlt
    generalize L[i] = y at *
    obtain ⟨b, rfl⟩ := ha (by omega)
    repeat (first|refine zJ rfl rfl ?_|refine jr rfl ?_|refine jn ?_|refine zM rfl rfl ?_|(refine zC rfl rfl ?_ rfl ?_;omega)|(refine zD rfl rfl ?_ rfl ?_;omega)|(refine zP rfl ?_ rfl ?_;omega)|refine zG rfl rfl rfl rfl ?_|(refine jdq rfl rfl ?_ ?_ ?_;kernel_rfl;kernel_rfl)|refine zB rfl rfl rfl (by repeat constructor) rfl ?_|refine zH .here rfl rfl rfl rfl ?_|refine zH (.there .here) rfl rfl rfl rfl ?_|refine zH (.there (.there .here)) rfl rfl rfl rfl ?_)
    refine oS (ev_indexAddr rfl rfl rfl hlt) rfl ?_
    refine oS (ev_load_agg (cs := y.cs) rfl rfl (rdb_row .here PV.len g1) y.len) rfl ?_
    refine oE (ev_alloc (cs := zPf) rfl) rfl ?_
    rintro _ _ _ _ ⟨rfl, b5, rfl, rfl⟩
    refine oN (ev_store (b := b5) (off := 0) rfl rfl .agg rfl y.len (lay_all (zs := zPf) rfl) y.ones .here) rfl ?_
    rintro _ _ _ _ ⟨rfl, rfl, rfl⟩
    repeat (first|refine zJ rfl rfl ?_|refine jr rfl ?_|refine jn ?_|refine zM rfl rfl ?_|(refine zC rfl rfl ?_ rfl ?_;omega)|(refine zD rfl rfl ?_ rfl ?_;omega)|(refine zP rfl ?_ rfl ?_;omega)|refine zG rfl rfl rfl rfl ?_|(refine jdq rfl rfl ?_ ?_ ?_;kernel_rfl;kernel_rfl)|refine zB rfl rfl rfl (by repeat constructor) rfl ?_|refine zH .here rfl rfl rfl rfl ?_|refine zH (.there .here) rfl rfl rfl rfl ?_|refine zH (.there (.there .here)) rfl rfl rfl rfl ?_)
    refine oS (ev_load_agg (cs := y.cs) rfl rfl (Rdb.ofB (n := 0) .here rfl) y.len) rfl ?_
    refine oC (Hc := []) (Hr := blk b5 43 y.cs :: own (.slice (some ⟨b, 0, none⟩) L.length c) 43 3 L.length (rowC PV.cs L) :: prO vm M :: X) (twin_spec y G hok) Try.call48 rfl rfl (fun _ s => s) ?_
    rintro u F2 _ hF ⟨rfl, z, rfl, hz, hzk⟩
    refine oE (ev_one rfl .agg z.len elPf) rfl ?_
    rintro _ _ _ _ ⟨rfl, bt, rfl, rfl⟩
    refine oE (ev_append (m := 1) (c := 1) (b := bt) (off := 0) (n := M.length) (xs := rowC PV.cs M) (news := z.cs) (K := fun v' => blk bt 43 z.cs :: blk b5 43 y.cs :: own (.slice (some ⟨b, 0, none⟩) L.length c) 43 3 L.length (rowC PV.cs L) :: own v' 43 3 (M.length + 1) (rowC PV.cs M ++ z.cs) :: X) rfl rfl elPf (Rdb.ofB (n := 0) .here rfl) rfl z.ones (by omega) (by unfold maxLen; omega) (fun v' => .there (.there (.there .here)))) rfl ?_
    rintro u' _ _ _ ⟨rfl, _, rfl⟩
    repeat (first|refine zJ rfl rfl ?_|refine jr rfl ?_|refine jn ?_|refine zM rfl rfl ?_|(refine zC rfl rfl ?_ rfl ?_;omega)|(refine zD rfl rfl ?_ rfl ?_;omega)|(refine zP rfl ?_ rfl ?_;omega)|refine zG rfl rfl rfl rfl ?_|(refine jdq rfl rfl ?_ ?_ ?_;kernel_rfl;kernel_rfl)|refine zB rfl rfl rfl (by repeat constructor) rfl ?_|refine zH .here rfl rfl rfl rfl ?_|refine zH (.there .here) rfl rfl rfl rfl ?_|refine zH (.there (.there .here)) rfl rfl rfl rfl ?_)
    refine J_again (i + 1, M ++ [z], u', F2) ⟨hlt, hG.trans hF, fun q hq => ?_, ?_⟩ (by dsimp only; omega) ⟨⟨rfl, rfl, rfl, rfl, trivial⟩, fun w s => ?_⟩
    · rcases List.mem_append.1 hq with hq | hq
      · exact (hM q hq).mono hF
      · obtain rfl := List.mem_singleton.1 hq
        exact hz
    · dsimp only
      rw [htk, List.map_append, List.map_append, hkey, List.map_singleton, List.map_singleton, hzk]
    · dsimp only
      unfold prO
      rw [rowC_snoc, List.length_append, List.length_singleton]
      exact s.drop.drop
  · obtain rfl : i = L.length := by omega
    rw [List.take_length] at hkey
    repeat (first|refine zJ rfl rfl ?_|refine jr rfl ?_|refine jn ?_|refine zM rfl rfl ?_|(refine zC rfl rfl ?_ rfl ?_;omega)|(refine zD rfl rfl ?_ rfl ?_;omega)|(refine zP rfl ?_ rfl ?_;omega)|refine zG rfl rfl rfl rfl ?_|(refine jdq rfl rfl ?_ ?_ ?_;kernel_rfl;kernel_rfl)|refine zB rfl rfl rfl (by repeat constructor) rfl ?_|refine zH .here rfl rfl rfl rfl ?_|refine zH (.there .here) rfl rfl rfl rfl ?_|refine zH (.there (.there .here)) rfl rfl rfl rfl ?_)
    refine oOwnA (.there .here) fun a' c' hv' _ _ _ ha' => ?_
    subst hv'
    refine oC (Hc := [own (.slice a' M.length c') 43 3 M.length (rowC PV.cs M)]) (Hr := own (.slice a L.length c) 43 3 L.length (rowC PV.cs L) :: X) (pf_sorts PV.cs PV.len PV.ones ltS ltS_swo 51 Try.call51 by_spec a' M.length c' M G rfl (by omega) ha') Try.call50 rfl rfl (fun _ s => s.pm 2 [1, 0] rfl rfl) ?_
    rintro _ _ _ _ ⟨rfl, rfl⟩
    repeat (first|refine zJ rfl rfl ?_|refine jr rfl ?_|refine jn ?_|refine zM rfl rfl ?_|(refine zC rfl rfl ?_ rfl ?_;omega)|(refine zD rfl rfl ?_ rfl ?_;omega)|(refine zP rfl ?_ rfl ?_;omega)|refine zG rfl rfl rfl rfl ?_|(refine jdq rfl rfl ?_ ?_ ?_;kernel_rfl;kernel_rfl)|refine zB rfl rfl rfl (by repeat constructor) rfl ?_|refine zH .here rfl rfl rfl rfl ?_|refine zH (.there .here) rfl rfl rfl rfl ?_|refine zH (.there (.there .here)) rfl rfl rfl rfl ?_)
    refine J_retv rfl (.tmp rfl .nil) [prO _ L, prO _ (isortL ltS M)] (fun w s => ?_) hG ⟨M, rfl, hM, hkey⟩
    unfold prO
    rw [(isortL_perm ltS M).length_eq]
    exact s.pm 2 [1, 0] rfl rfl
end Go.Proofs.Ytmicjjhkoicdnaa
namespace Go.Proofs.Ytmicjjhkoicdnaa
open Go.RowKit
set_option maxRecDepth 100000
theorem new_spec (F : PH) : Spec Try.prog 15 [] F [] fun u F' H' => F = F' ∧ ∃ b, u = .pointer (some ⟨b, 0, none⟩) ∧ H' = [blk b 66 [.slice none 0 0, .slice none 0 0], prO (.slice none 0 0) [], prO (.slice none 0 0) []] := by
  refine Spec.of0 Try.func15 rfl fun X w0 => ?_
  refine J_own_nil 43 3 ?_
  refine J_own_nil 43 3 ?_
  repeat (first|refine zJ rfl rfl ?_|refine jr rfl ?_|refine jn ?_|refine zM rfl rfl ?_|(refine zC rfl rfl ?_ rfl ?_;omega)|(refine zD rfl rfl ?_ rfl ?_;omega)|(refine zP rfl ?_ rfl ?_;omega)|refine zG rfl rfl rfl rfl ?_|(refine jdq rfl rfl ?_ ?_ ?_;kernel_rfl;kernel_rfl)|refine zB rfl rfl rfl (by repeat constructor) rfl ?_|refine zH .here rfl rfl rfl rfl ?_|refine zH (.there .here) rfl rfl rfl rfl ?_|refine zH (.there (.there .here)) rfl rfl rfl rfl ?_)
  refine oE (ev_box rfl .agg) rfl ?_
  rintro _ _ _ _ ⟨rfl, b, rfl, rfl⟩
  repeat (first|refine zJ rfl rfl ?_|refine jr rfl ?_|refine jn ?_|refine zM rfl rfl ?_|(refine zC rfl rfl ?_ rfl ?_;omega)|(refine zD rfl rfl ?_ rfl ?_;omega)|(refine zP rfl ?_ rfl ?_;omega)|refine zG rfl rfl rfl rfl ?_|(refine jdq rfl rfl ?_ ?_ ?_;kernel_rfl;kernel_rfl)|refine zB rfl rfl rfl (by repeat constructor) rfl ?_|refine zH .here rfl rfl rfl rfl ?_|refine zH (.there .here) rfl rfl rfl rfl ?_|refine zH (.there (.there .here)) rfl rfl rfl rfl ?_)
  exact J_retv rfl (.tmp rfl .nil) [_, _, _] (fun w s => s) (PH.ler _) ⟨rfl, b, rfl, rfl⟩
theorem prepd_spec (b : Nat) (v1 v2 : Value) (L : List PV) (F : PH) (hn : L.length ≤ 900) (hL : ∀ y ∈ L, y.Ok F) : Spec Try.prog 24 [.pointer (some ⟨b, 0, none⟩)] F [blk b 66 [v1, v2], prO v1 L] fun u F' H' => ∃ L', H' = [blk b 66 [v1, v2], prO v1 L, prO u (isortL ltS L')] ∧ (∀ y ∈ L', y.Ok F') ∧ L'.map PV.key = L.map PV.key := by
  refine Spec.of1 Try.func24 rfl rfl fun X w0 => ?_
  dsimp only [List.cons_append, List.nil_append]
  repeat (first|refine zJ rfl rfl ?_|refine jr rfl ?_|refine jn ?_|refine zM rfl rfl ?_|(refine zC rfl rfl ?_ rfl ?_;omega)|(refine zD rfl rfl ?_ rfl ?_;omega)|(refine zP rfl ?_ rfl ?_;omega)|refine zG rfl rfl rfl rfl ?_|(refine jdq rfl rfl ?_ ?_ ?_;kernel_rfl;kernel_rfl)|refine zB rfl rfl rfl (by repeat constructor) rfl ?_|refine zH .here rfl rfl rfl rfl ?_|refine zH (.there .here) rfl rfl rfl rfl ?_|refine zH (.there (.there .here)) rfl rfl rfl rfl ?_)
  refine oC (Hc := [prO v1 L]) (Hr := blk b 66 [v1, v2] :: X) (sorted_spec v1 L F hn hL) Try.call37 rfl rfl (fun _ s => s.pm 2 [1, 0] rfl rfl) ?_
  rintro u F2 _ hF ⟨L', rfl, hok, hkey⟩
  repeat (first|refine zJ rfl rfl ?_|refine jr rfl ?_|refine jn ?_|refine zM rfl rfl ?_|(refine zC rfl rfl ?_ rfl ?_;omega)|(refine zD rfl rfl ?_ rfl ?_;omega)|(refine zP rfl ?_ rfl ?_;omega)|refine zG rfl rfl rfl rfl ?_|(refine jdq rfl rfl ?_ ?_ ?_;kernel_rfl;kernel_rfl)|refine zB rfl rfl rfl (by repeat constructor) rfl ?_|refine zH .here rfl rfl rfl rfl ?_|refine zH (.there .here) rfl rfl rfl rfl ?_|refine zH (.there (.there .here)) rfl rfl rfl rfl ?_)
  exact J_retv (vs := [u]) rfl (.tmp rfl .nil) [blk b 66 [v1, v2], prO v1 L, prO u (isortL ltS L')] (fun w s => s.pm 3 [2, 0, 1] rfl rfl) hF ⟨L', rfl, hok, hkey⟩
theorem propd_spec (b : Nat) (v1 v2 : Value) (L : List PV) (F : PH) (hn : L.length ≤ 900) (hL : ∀ y ∈ L, y.Ok F) : Spec Try.prog 17 [.pointer (some ⟨b, 0, none⟩)] F [blk b 66 [v1, v2], prO v2 L] fun u F' H' => ∃ L', H' = [blk b 66 [v1, v2], prO v2 L, prO u (isortL ltS L')] ∧ (∀ y ∈ L', y.Ok F') ∧ L'.map PV.key = L.map PV.key := by
  refine Spec.of1 Try.func17 rfl rfl fun X w0 => ?_
  dsimp only [List.cons_append, List.nil_append]
  repeat (first|refine zJ rfl rfl ?_|refine jr rfl ?_|refine jn ?_|refine zM rfl rfl ?_|(refine zC rfl rfl ?_ rfl ?_;omega)|(refine zD rfl rfl ?_ rfl ?_;omega)|(refine zP rfl ?_ rfl ?_;omega)|refine zG rfl rfl rfl rfl ?_|(refine jdq rfl rfl ?_ ?_ ?_;kernel_rfl;kernel_rfl)|refine zB rfl rfl rfl (by repeat constructor) rfl ?_|refine zH .here rfl rfl rfl rfl ?_|refine zH (.there .here) rfl rfl rfl rfl ?_|refine zH (.there (.there .here)) rfl rfl rfl rfl ?_)
  refine oC (Hc := [prO v2 L]) (Hr := blk b 66 [v1, v2] :: X) (sorted_spec v2 L F hn hL) Try.call37 rfl rfl (fun _ s => s.pm 2 [1, 0] rfl rfl) ?_
  rintro u F2 _ hF ⟨L', rfl, hok, hkey⟩
  repeat (first|refine zJ rfl rfl ?_|refine jr rfl ?_|refine jn ?_|refine zM rfl rfl ?_|(refine zC rfl rfl ?_ rfl ?_;omega)|(refine zD rfl rfl ?_ rfl ?_;omega)|(refine zP rfl ?_ rfl ?_;omega)|refine zG rfl rfl rfl rfl ?_|(refine jdq rfl rfl ?_ ?_ ?_;kernel_rfl;kernel_rfl)|refine zB rfl rfl rfl (by repeat constructor) rfl ?_|refine zH .here rfl rfl rfl rfl ?_|refine zH (.there .here) rfl rfl rfl rfl ?_|refine zH (.there (.there .here)) rfl rfl rfl rfl ?_)
  exact J_retv (vs := [u]) rfl (.tmp rfl .nil) [blk b 66 [v1, v2], prO v2 L, prO u (isortL ltS L')] (fun w s => s.pm 3 [2, 0, 1] rfl rfl) hF ⟨L', rfl, hok, hkey⟩
end Go.Proofs.Ytmicjjhkoicdnaa
