/-
  What was prepared, and what was proposed: kept. Conditions are typed with each.
-/
import Derived.Test.YtmicjjhkoicdnaaJi
import Derived.Test.YtmicjjhkoicdnaaLh
namespace Go.Proofs.Ytmicjjhkoicdnaa
open Go.RowKit
set_option maxRecDepth 100000
/-- Of one number. -/
def seqP (x y : PrX) : Bool := decide (y.1 = x.1)
set_option maxHeartbeats 4000000 in
theorem prep_spec (b : Nat) (v1 v2 : Value) (L : List PV) (x : PV) (F : PH) (hn : L.length ≤ 900) (hL : ∀ y ∈ L, y.Ok F) (hx : x.Ok F) :
    Spec Try.prog 18 [.pointer (some ⟨b, 0, none⟩), .agg x.cs.toArray] F [blk b 66 [v1, v2], prO v1 L] fun _ F' H' => ∃ v' L', H' = [blk b 66 [v', v2], prO v' L'] ∧ (∀ y ∈ L', y.Ok F') ∧ L'.map PV.key = newerP (seqP x.key) (L.map PV.key) x.key := by
  refine Spec.of2 Try.func18 rfl rfl fun X w0 => ?_
  show J _ _ _ _ (blk b 66 [v1, v2] :: prO v1 L :: X)
  refine jc rfl rfl ?_
  refine jr rfl ?_
  refine oE (ev_box rfl .agg) rfl ?_; rintro _ _ _ _ ⟨rfl, b3, rfl, rfl⟩
  refine oPersist fun hh hA hd => ?_
  have h3 := blk_cells hA hd
  have hF1 := PH.le_l F hh
  generalize F.un hh = F1 at *
  replace hL : ∀ y ∈ L, y.Ok F1 := fun y hy => (hL y hy).mono hF1
  replace hx := hx.mono hF1
  repeat (first|refine zJ rfl rfl ?_|refine jr rfl ?_|refine jn ?_|refine zM rfl rfl ?_|(refine zC rfl rfl ?_ rfl ?_;omega)|(refine zD rfl rfl ?_ rfl ?_;omega)|(refine zP rfl ?_ rfl ?_;omega)|refine zG rfl rfl rfl rfl ?_|(refine jdq rfl rfl ?_ ?_ ?_;kernel_rfl;kernel_rfl)|refine zB rfl rfl rfl (by repeat constructor) rfl ?_|refine zH .here rfl rfl rfl rfl ?_|refine zH (.there .here) rfl rfl rfl rfl ?_|refine zH (.there (.there .here)) rfl rfl rfl rfl ?_)
  refine jaL F1 [blk b 66 [v1, v2]] rfl ?_ ?_ (fun w t => t.head) ?_; kernel_rfl; kernel_rfl; dsimp only [List.dropLast]
  refine aT 0 rfl (ev_pv rfl) rfl rfl ?_ ?_ ?_ ?_; kernel_rfl; kernel_rfl; kernel_rfl
  refine aT 1 rfl (ev_pv rfl) rfl rfl ?_ ?_ ?_ ?_; kernel_rfl; kernel_rfl; kernel_rfl
  refine aT 2 rfl (ev_qe rfl) rfl rfl ?_ ?_ ?_ ?_; kernel_rfl; kernel_rfl; kernel_rfl
  refine aT 3 rfl (ev_qe rfl) rfl rfl ?_ ?_ ?_ ?_; kernel_rfl; kernel_rfl; kernel_rfl
  refine aT 4 rfl (ev_load (v := v1) rfl rfl (Rdb.ofB (n := 0) .here rfl)) rfl rfl ?_ ?_ ?_ ?_; kernel_rfl; kernel_rfl; kernel_rfl
  refine aT 5 rfl (ev_load_agg (cs := x.cs) rfl rfl (Rdb.ofF h3) rfl) rfl rfl ?_ ?_ ?_ ?_; kernel_rfl; kernel_rfl; kernel_rfl
  refine aB (i := 6) (by kernel_rfl) (aV rfl (ev_makeFunc (vs := [.pointer (some ⟨b3, 0, none⟩)]) rfl) rfl rfl ?_)
  refine aB (i := 7) (by kernel_rfl) (aC (Hc := [prO v1 L]) (Hr := blk b 66 [v1, v2] :: X) rfl (newer_spec 38 [.pointer (some ⟨b3, 0, none⟩)] (seqP x.key) v1 L x F1 hn hL hx Try.call38 (fun y hy => seqIs_spec y x b3 F1 h3)) Try.call32 rfl rfl rfl (fun _ s => s.pm 2 [1, 0] rfl rfl) (fun _ _ _ hF hq w s => by obtain ⟨L', rfl, _⟩ := hq; exact ((s.pick (.there .here)).head).mono hF) ?_)
  rintro u F2 _ hF2 ⟨L', rfl, hok, hkey⟩
  refine aT 8 rfl (ev_qe rfl) rfl rfl ?_ ?_ ?_ ?_; kernel_rfl; kernel_rfl; kernel_rfl
  refine aT 9 rfl (ev_qe rfl) rfl rfl ?_ ?_ ?_ ?_; kernel_rfl; kernel_rfl; kernel_rfl
  refine aD (by kernel_rfl) ?_
  refine jL rfl ?_
  refine oOwnA .here fun a' c' hu' _ _ _ _ => ?_
  subst hu'
  refine oN (ev_store (b := b) (off := 0 + 0) (vs := [.slice a' L'.length c']) rfl rfl (by constructor) rfl rfl (s := [.slice a' L'.length c', v2]) (.put .nil) (ones_cons rfl ones_nil) (.there .here)) rfl ?_
  rintro _ _ _ _ ⟨rfl, rfl, rfl⟩
  repeat (first|refine zJ rfl rfl ?_|refine jr rfl ?_|refine jn ?_|refine zM rfl rfl ?_|(refine zC rfl rfl ?_ rfl ?_;omega)|(refine zD rfl rfl ?_ rfl ?_;omega)|(refine zP rfl ?_ rfl ?_;omega)|refine zG rfl rfl rfl rfl ?_|(refine jdq rfl rfl ?_ ?_ ?_;kernel_rfl;kernel_rfl)|refine zB rfl rfl rfl (by repeat constructor) rfl ?_|refine zH .here rfl rfl rfl rfl ?_|refine zH (.there .here) rfl rfl rfl rfl ?_|refine zH (.there (.there .here)) rfl rfl rfl rfl ?_)
  refine zE rfl ?_
  exact J_end (X := X) rfl [blk b 66 [.slice a' L'.length c', v2], prO _ L'] (fun w s => s.pm 2 [1, 0] rfl rfl) (hF1.trans hF2) ⟨_, L', rfl, hok, hkey⟩
/-- The first one that isn't 0. -/
def orI (x y : Int) : Int := if x ≠ 0 then x else y
set_option maxHeartbeats 4000000 in
theorem or_spec (x y : Int) (b : Nat) (F : PH) : Spec Try.prog 35 [.slice (some ⟨b, 0, none⟩) 2 2] F [blk b 3 [.int .i64 x, .int .i64 y]] fun u F' H' => F = F' ∧ u = .int .i64 (orI x y) ∧ H' = [blk b 3 [.int .i64 x, .int .i64 y]] := by
  refine Spec.of1 Try.func35 rfl rfl fun X w0 => ?_
  show J _ _ _ _ (blk b 3 [.int .i64 x, .int .i64 y] :: X)
  repeat (first|refine zJ rfl rfl ?_|refine jr rfl ?_|refine jn ?_|refine zM rfl rfl ?_|(refine zC rfl rfl ?_ rfl ?_;omega)|(refine zD rfl rfl ?_ rfl ?_;omega)|(refine zP rfl ?_ rfl ?_;omega)|refine zG rfl rfl rfl rfl ?_|(refine jdq rfl rfl ?_ ?_ ?_;kernel_rfl;kernel_rfl)|refine zB rfl rfl rfl (by repeat constructor) rfl ?_|refine zH .here rfl rfl rfl rfl ?_|refine zH (.there .here) rfl rfl rfl rfl ?_|refine zH (.there (.there .here)) rfl rfl rfl rfl ?_)
  refine J_loop (ι := Nat) (fun i => i ≤ 2 ∧ (0 < i → x = 0) ∧ (1 < i → y = 0)) (fun i => 2 - i) (fun i => [(3, .int .i64 0), (6, .slice (some ⟨b, 0, none⟩) 2 2), (7, .int .i64 2), (8, .int .i64 i)]) (fun _ => F) (fun _ => blk b 3 [.int .i64 x, .int .i64 y] :: X) 0 ⟨by omega, fun h => absurd h (by omega), fun h => absurd h (by omega)⟩
    ⟨⟨rfl, rfl, rfl, rfl, trivial⟩, fun _ h => h⟩ ?_
  rintro i ⟨hi, h0, h1⟩
  rcases (show i = 0 ∨ i = 1 ∨ i = 2 by omega) with rfl | rfl | rfl
  · repeat (first|refine zJ rfl rfl ?_|refine jr rfl ?_|refine jn ?_|refine zM rfl rfl ?_|(refine zC rfl rfl ?_ rfl ?_;omega)|(refine zD rfl rfl ?_ rfl ?_;omega)|(refine zP rfl ?_ rfl ?_;omega)|refine zG rfl rfl rfl rfl ?_|(refine jdq rfl rfl ?_ ?_ ?_;kernel_rfl;kernel_rfl)|refine zB rfl rfl rfl (by repeat constructor) rfl ?_|refine zH .here rfl rfl rfl rfl ?_|refine zH (.there .here) rfl rfl rfl rfl ?_|refine zH (.there (.there .here)) rfl rfl rfl rfl ?_)
    refine oS (ev_indexAddr (i := 0) rfl rfl rfl (by omega)) rfl ?_
    refine oS (ev_load (v := .int .i64 x) rfl rfl (Rdb.ofB (n := 0) .here rfl)) rfl ?_
    by_cases hx : x = 0
    · repeat (first|refine zJ rfl rfl ?_|refine jr rfl ?_|refine jn ?_|refine zM rfl rfl ?_|(refine zC rfl rfl ?_ rfl ?_;omega)|(refine zD rfl rfl ?_ rfl ?_;omega)|(refine zP rfl ?_ rfl ?_;omega)|refine zG rfl rfl rfl rfl ?_|(refine jdq rfl rfl ?_ ?_ ?_;kernel_rfl;kernel_rfl)|refine zB rfl rfl rfl (by repeat constructor) rfl ?_|refine zH .here rfl rfl rfl rfl ?_|refine zH (.there .here) rfl rfl rfl rfl ?_|refine zH (.there (.there .here)) rfl rfl rfl rfl ?_)
      exact J_again 1 ⟨by omega, fun _ => hx, fun h => absurd h (by omega)⟩ (by omega) ⟨⟨rfl, rfl, rfl, rfl, trivial⟩, fun w s => s⟩
    · repeat (first|refine zJ rfl rfl ?_|refine jr rfl ?_|refine jn ?_|refine zM rfl rfl ?_|(refine zC rfl rfl ?_ rfl ?_;omega)|(refine zD rfl rfl ?_ rfl ?_;omega)|(refine zP rfl ?_ rfl ?_;omega)|refine zG rfl rfl rfl rfl ?_|(refine jdq rfl rfl ?_ ?_ ?_;kernel_rfl;kernel_rfl)|refine zB rfl rfl rfl (by repeat constructor) rfl ?_|refine zH .here rfl rfl rfl rfl ?_|refine zH (.there .here) rfl rfl rfl rfl ?_|refine zH (.there (.there .here)) rfl rfl rfl rfl ?_)
      exact J_retv rfl (.tmp rfl .nil) [_] (fun w s => s) (PH.ler _) ⟨rfl, by show _ = Value.int .i64 (orI x y); unfold orI; rw [if_pos hx]; rfl, rfl⟩
  · have hx := h0 (by omega)
    repeat (first|refine zJ rfl rfl ?_|refine jr rfl ?_|refine jn ?_|refine zM rfl rfl ?_|(refine zC rfl rfl ?_ rfl ?_;omega)|(refine zD rfl rfl ?_ rfl ?_;omega)|(refine zP rfl ?_ rfl ?_;omega)|refine zG rfl rfl rfl rfl ?_|(refine jdq rfl rfl ?_ ?_ ?_;kernel_rfl;kernel_rfl)|refine zB rfl rfl rfl (by repeat constructor) rfl ?_|refine zH .here rfl rfl rfl rfl ?_|refine zH (.there .here) rfl rfl rfl rfl ?_|refine zH (.there (.there .here)) rfl rfl rfl rfl ?_)
    refine oS (ev_indexAddr (i := 1) rfl rfl rfl (by omega)) rfl ?_
    refine oS (ev_load (v := .int .i64 y) rfl rfl (Rdb.ofB (n := 1) .here rfl)) rfl ?_
    by_cases hy : y = 0
    · repeat (first|refine zJ rfl rfl ?_|refine jr rfl ?_|refine jn ?_|refine zM rfl rfl ?_|(refine zC rfl rfl ?_ rfl ?_;omega)|(refine zD rfl rfl ?_ rfl ?_;omega)|(refine zP rfl ?_ rfl ?_;omega)|refine zG rfl rfl rfl rfl ?_|(refine jdq rfl rfl ?_ ?_ ?_;kernel_rfl;kernel_rfl)|refine zB rfl rfl rfl (by repeat constructor) rfl ?_|refine zH .here rfl rfl rfl rfl ?_|refine zH (.there .here) rfl rfl rfl rfl ?_|refine zH (.there (.there .here)) rfl rfl rfl rfl ?_)
      exact J_again 2 ⟨by omega, fun _ => hx, fun _ => hy⟩ (by omega) ⟨⟨rfl, rfl, rfl, rfl, trivial⟩, fun w s => s⟩
    · repeat (first|refine zJ rfl rfl ?_|refine jr rfl ?_|refine jn ?_|refine zM rfl rfl ?_|(refine zC rfl rfl ?_ rfl ?_;omega)|(refine zD rfl rfl ?_ rfl ?_;omega)|(refine zP rfl ?_ rfl ?_;omega)|refine zG rfl rfl rfl rfl ?_|(refine jdq rfl rfl ?_ ?_ ?_;kernel_rfl;kernel_rfl)|refine zB rfl rfl rfl (by repeat constructor) rfl ?_|refine zH .here rfl rfl rfl rfl ?_|refine zH (.there .here) rfl rfl rfl rfl ?_|refine zH (.there (.there .here)) rfl rfl rfl rfl ?_)
      exact J_retv rfl (.tmp rfl .nil) [_] (fun w s => s) (PH.ler _) ⟨rfl, by show _ = Value.int .i64 (orI x y); unfold orI; rw [if_neg (by omega)]; rfl, rfl⟩
  · have hx := h0 (by omega)
    have hy := h1 (by omega)
    repeat (first|refine zJ rfl rfl ?_|refine jr rfl ?_|refine jn ?_|refine zM rfl rfl ?_|(refine zC rfl rfl ?_ rfl ?_;omega)|(refine zD rfl rfl ?_ rfl ?_;omega)|(refine zP rfl ?_ rfl ?_;omega)|refine zG rfl rfl rfl rfl ?_|(refine jdq rfl rfl ?_ ?_ ?_;kernel_rfl;kernel_rfl)|refine zB rfl rfl rfl (by repeat constructor) rfl ?_|refine zH .here rfl rfl rfl rfl ?_|refine zH (.there .here) rfl rfl rfl rfl ?_|refine zH (.there (.there .here)) rfl rfl rfl rfl ?_)
    exact J_retv rfl (.tmp rfl .nil) [_] (fun w s => s) (PH.ler _) ⟨rfl, by show _ = Value.int .i64 (orI x y); unfold orI; rw [if_neg (by omega), hy]; rfl, rfl⟩
end Go.Proofs.Ytmicjjhkoicdnaa
