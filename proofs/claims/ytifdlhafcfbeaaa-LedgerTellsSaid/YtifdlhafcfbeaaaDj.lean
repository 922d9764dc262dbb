/-
  Which ledger bytes tell, by the program. Conditions are typed with each. (Printed by wip/gen/dj.py.)
  Which ledger bytes tell, by the document. Conditions are typed with each. (Printed by wip/gen/dj.py.)
-/
import Derived.Test.YtifdlhafcfbeaaaDg
namespace Go.Proofs.Ytifdlhafcfbeaaa
open Go.RowKit
set_option maxRecDepth 100000

set_option maxHeartbeats 32000000 in
theorem lparse_spec (v : Value) (bs : List UInt8) (F : PH) (h : Byt F v bs) (hl : bs.length ≤ 1048576) :
    Spec Try.prog 8 [v] F [] fun u F' H' => H' = [] ∧ ∃ cs', u = .tuple #[.agg cs'.toArray, .int .i64 (parseL bs).2] ∧ LgV F' cs' (parseL bs).1 := by
  obtain ⟨pl, hpl, hfl⟩ := fill_lg2
  refine Spec.of1 Try.func8 rfl rfl fun X w0 => ?_
  refine jc rfl rfl ?_
  refine jr rfl ?_
  refine oE (ev_alloc (cs := zLg) rfl) rfl ?_
  rintro _ _ _ _ ⟨rfl, b2, rfl, rfl⟩
  repeat (first|refine zJ rfl rfl ?_|refine jr rfl ?_|refine jn ?_|refine zM rfl rfl ?_|(refine zC rfl rfl ?_ rfl ?_;omega)|(refine zD rfl rfl ?_ rfl ?_;omega)|(refine zP rfl ?_ rfl ?_;omega)|refine zG rfl rfl rfl rfl ?_|(refine jdq rfl rfl ?_ ?_ ?_;kernel_rfl;kernel_rfl)|refine zB rfl rfl rfl (by repeat constructor) rfl ?_|refine zH .here rfl rfl rfl rfl ?_|refine zH (.there .here) rfl rfl rfl rfl ?_|refine zH (.there (.there .here)) rfl rfl rfl rfl ?_)
  refine oC (Hc := []) (Hr := blk b2 27 zLg :: X) (read_spec _ bs F h (by omega)) Try.call27 rfl rfl (fun _ s => s) ?_
  rintro _ F0 _ hF0 ⟨br, v0, rfl, hv0, rfl⟩
  repeat (first|refine zJ rfl rfl ?_|refine jr rfl ?_|refine jn ?_|refine zM rfl rfl ?_|(refine zC rfl rfl ?_ rfl ?_;omega)|(refine zD rfl rfl ?_ rfl ?_;omega)|(refine zP rfl ?_ rfl ?_;omega)|refine zG rfl rfl rfl rfl ?_|(refine jdq rfl rfl ?_ ?_ ?_;kernel_rfl;kernel_rfl)|refine zB rfl rfl rfl (by repeat constructor) rfl ?_|refine zH .here rfl rfl rfl rfl ?_|refine zH (.there .here) rfl rfl rfl rfl ?_|refine zH (.there (.there .here)) rfl rfl rfl rfl ?_)
  refine oC (Hc := [rdr br v0 0]) (Hr := blk b2 27 zLg :: X) (number_spec br v0 0 8 bs F0 hv0 (by omega)) Try.call28 rfl rfl (fun _ s => s) ?_
  rintro _ F1 _ hF1 ⟨v1, rfl, hv1, rfl⟩
  have n1 := numR_rest 0 bs 8
  generalize hr1 : numR 0 bs 8 = r1 at *
  repeat (first|refine zJ rfl rfl ?_|refine jr rfl ?_|refine jn ?_|refine zM rfl rfl ?_|(refine zC rfl rfl ?_ rfl ?_;omega)|(refine zD rfl rfl ?_ rfl ?_;omega)|(refine zP rfl ?_ rfl ?_;omega)|refine zG rfl rfl rfl rfl ?_|(refine jdq rfl rfl ?_ ?_ ?_;kernel_rfl;kernel_rfl)|refine zB rfl rfl rfl (by repeat constructor) rfl ?_|refine zH .here rfl rfl rfl rfl ?_|refine zH (.there .here) rfl rfl rfl rfl ?_|refine zH (.there (.there .here)) rfl rfl rfl rfl ?_)
  refine oS (ev_conv rfl rfl rfl (iN_wrap _)) rfl ?_
  repeat (first|refine zJ rfl rfl ?_|refine jr rfl ?_|refine jn ?_|refine zM rfl rfl ?_|(refine zC rfl rfl ?_ rfl ?_;omega)|(refine zD rfl rfl ?_ rfl ?_;omega)|(refine zP rfl ?_ rfl ?_;omega)|refine zG rfl rfl rfl rfl ?_|(refine jdq rfl rfl ?_ ?_ ?_;kernel_rfl;kernel_rfl)|refine zB rfl rfl rfl (by repeat constructor) rfl ?_|refine zH .here rfl rfl rfl rfl ?_|refine zH (.there .here) rfl rfl rfl rfl ?_|refine zH (.there (.there .here)) rfl rfl rfl rfl ?_)
  refine oC (Hc := [rdr br v1 r1.2.1]) (Hr := blk b2 27 zLg :: X) (number_spec br v1 r1.2.1 8 r1.2.2 F1 hv1 (by omega)) Try.call28 rfl rfl (fun _ s => s) ?_
  rintro _ F2 _ hF2 ⟨v2, rfl, hv2, rfl⟩
  have n2 := numR_rest r1.2.1 r1.2.2 8
  generalize hr2 : numR r1.2.1 r1.2.2 8 = r2 at *
  repeat (first|refine zJ rfl rfl ?_|refine jr rfl ?_|refine jn ?_|refine zM rfl rfl ?_|(refine zC rfl rfl ?_ rfl ?_;omega)|(refine zD rfl rfl ?_ rfl ?_;omega)|(refine zP rfl ?_ rfl ?_;omega)|refine zG rfl rfl rfl rfl ?_|(refine jdq rfl rfl ?_ ?_ ?_;kernel_rfl;kernel_rfl)|refine zB rfl rfl rfl (by repeat constructor) rfl ?_|refine zH .here rfl rfl rfl rfl ?_|refine zH (.there .here) rfl rfl rfl rfl ?_|refine zH (.there (.there .here)) rfl rfl rfl rfl ?_)
  refine oS (ev_conv rfl rfl rfl (iN_wrap _)) rfl ?_
  refine oS (ev_build (t := lgC (iN r1.1) (iN r2.1) (.slice none 0 0) (.slice none 0 0)) rfl rfl hpl (hfl (iN r1.1) (iN r2.1))) rfl ?_
  refine oE (ev_alloc (cs := zLg) rfl) rfl ?_
  rintro _ _ _ _ ⟨rfl, b5, rfl, rfl⟩
  refine oN (ev_store (b := b5) (off := 0) rfl rfl .agg rfl rfl (lay_all (zs := zLg) rfl) lgC_ones .here) rfl ?_
  rintro _ _ _ _ ⟨rfl, _, rfl⟩
  repeat (first|refine zJ rfl rfl ?_|refine jr rfl ?_|refine jn ?_|refine zM rfl rfl ?_|(refine zC rfl rfl ?_ rfl ?_;omega)|(refine zD rfl rfl ?_ rfl ?_;omega)|(refine zP rfl ?_ rfl ?_;omega)|refine zG rfl rfl rfl rfl ?_|(refine jdq rfl rfl ?_ ?_ ?_;kernel_rfl;kernel_rfl)|refine zB rfl rfl rfl (by repeat constructor) rfl ?_|refine zH .here rfl rfl rfl rfl ?_|refine zH (.there .here) rfl rfl rfl rfl ?_|refine zH (.there (.there .here)) rfl rfl rfl rfl ?_)
  refine oC (Hc := [rdr br v2 r2.2.1]) (Hr := blk b5 27 (lgC (iN r1.1) (iN r2.1) (.slice none 0 0) (.slice none 0 0)) :: blk b2 27 zLg :: X) (count_spec br v2 r2.2.1 16 r2.2.2 F2 hv2 (by omega)) Try.call29 rfl rfl (fun _ s => s.pm 2 [1, 0] rfl rfl) ?_
  rintro _ F3 _ hF3 ⟨v3, rfl, hv3, rfl⟩
  have hcn := cntR_le r2.2.1 r2.2.2 (m := 16) (by decide)
  generalize hr3 : cntR r2.2.1 r2.2.2 16 = c at *
  have hh := headR_eq hr1 hr2 hr3
  have q1 : iN r1.1 = (headR bs).1.1 := by rw [hh]
  have q2 : iN r2.1 = (headR bs).1.2.1 := by rw [hh]
  have q3 : c.1 = ((headR bs).1.2.2 : Int) := by rw [hh]; dsimp only; omega
  have q4 : c.2.1 = (headR bs).2.1 := by rw [hh]
  have q5 : c.2.2 = (headR bs).2.2 := by rw [hh]
  have hk2 : InK .i64 (headR bs).1.2.1 := by rw [← q2]; exact iN_inK _
  have hn16 := headR_cnt bs
  rw [q5] at hv3
  rw [q1, q2, q3, q4]
  clear hh q1 q2 q3 q4 q5 hr1 hr2 hr3 hv0 hv1 hv2 n1 n2 hcn
  have hle3 : F.le F3 := hF0.trans (hF1.trans (hF2.trans hF3))
  clear hF0 hF1 hF2 hF3
  repeat (first|refine zJ rfl rfl ?_|refine jr rfl ?_|refine jn ?_|refine zM rfl rfl ?_|(refine zC rfl rfl ?_ rfl ?_;omega)|(refine zD rfl rfl ?_ rfl ?_;omega)|(refine zP rfl ?_ rfl ?_;omega)|refine zG rfl rfl rfl rfl ?_|(refine jdq rfl rfl ?_ ?_ ?_;kernel_rfl;kernel_rfl)|refine zB rfl rfl rfl (by repeat constructor) rfl ?_|refine zH .here rfl rfl rfl rfl ?_|refine zH (.there .here) rfl rfl rfl rfl ?_|refine zH (.there (.there .here)) rfl rfl rfl rfl ?_)
  refine J_own_nil 37 6 ?_
  generalize hS : (headR bs).1.1 = S at *
  generalize hT : (headR bs).1.2.1 = T at *
  generalize hN : (headR bs).1.2.2 = n at *
  refine J_loop (ι := Nat × Value × Value × PH) (fun p => p.1 ≤ n ∧ F3.le p.2.2.2 ∧ Byt p.2.2.2 p.2.1 (lettersR bs p.1).2.2) (fun p => n - p.1) (fun p => [(2, .pointer (some ⟨b2, 0, none⟩)), (4, .pointer (some ⟨br, 0, none⟩)), (5, .pointer (some ⟨b5, 0, none⟩)), (18, .int .i64 n), (19, .int .i64 p.1)]) (fun p => p.2.2.2) (fun p => rdr br p.2.1 (lettersR bs p.1).2.1 :: blk b5 27 (lgC S T p.2.2.1 (.slice none 0 0)) :: ltO p.2.2.1 (lettersR bs p.1).1 :: blk b2 27 zLg :: X) (0, v3, .slice none 0 0, F3) ⟨Nat.zero_le _, PH.ler _, hv3⟩ ⟨⟨rfl, rfl, rfl, rfl, rfl, trivial⟩, fun w s => s.pm 4 [1, 2, 0, 3] rfl rfl⟩ ?_
  rintro ⟨j, v, vL, G⟩ ⟨hj, hG, hv⟩
  dsimp only at hj hG hv ⊢
  have hrest := lettersR_rest bs j
  have hlen : (lettersR bs j).1.length = j := manyR_len _ _ _ j
  by_cases hlt : j < n
  · have hsucc : lettersR bs (j + 1) = ((lettersR bs j).1 ++ [(oneL (lettersR bs j).2.1 (lettersR bs j).2.2).1], (oneL (lettersR bs j).2.1 (lettersR bs j).2.2).2) := rfl
    repeat (first|refine zJ rfl rfl ?_|refine jr rfl ?_|refine jn ?_|refine zM rfl rfl ?_|(refine zC rfl rfl ?_ rfl ?_;omega)|(refine zD rfl rfl ?_ rfl ?_;omega)|(refine zP rfl ?_ rfl ?_;omega)|refine zG rfl rfl rfl rfl ?_|(refine jdq rfl rfl ?_ ?_ ?_;kernel_rfl;kernel_rfl)|refine zB rfl rfl rfl (by repeat constructor) rfl ?_|refine zH .here rfl rfl rfl rfl ?_|refine zH (.there .here) rfl rfl rfl rfl ?_|refine zH (.there (.there .here)) rfl rfl rfl rfl ?_)
    refine jaL G [blk b5 27 (lgC S T vL (.slice none 0 0))] rfl ?_ ?_ (fun w t => (t.pick (.there .here)).head) ?_; kernel_rfl; kernel_rfl; dsimp only [List.dropLast]
    refine aT 0 rfl (ev_qe rfl) rfl rfl ?_ ?_ ?_ ?_; kernel_rfl; kernel_rfl; kernel_rfl
    refine aT 1 rfl (ev_load (v := vL) rfl rfl (Rdb.ofB (n := 2) .here rfl)) rfl rfl ?_ ?_ ?_ ?_; kernel_rfl; kernel_rfl; kernel_rfl
    refine aT 2 rfl (ev_qe rfl) rfl rfl ?_ ?_ ?_ ?_; kernel_rfl; kernel_rfl; kernel_rfl
    refine aB (i := 3) (by kernel_rfl) (aC (Hc := [rdr br v (lettersR bs j).2.1]) (Hr := blk b5 27 (lgC S T vL (.slice none 0 0)) :: ltO vL (lettersR bs j).1 :: blk b2 27 zLg :: X) rfl (readLetter_spec br v (lettersR bs j).2.1 (lettersR bs j).2.2 G hv (by omega)) Try.call30 rfl rfl rfl (fun _ s => s) (fun _ _ _ hF hq w s => by obtain ⟨_, _, _, rfl⟩ := hq; exact (s.pick (.there .here)).head.mono hF) ?_)
    rintro _ G1 _ hG1 ⟨v', rfl, hv', rfl⟩
    rw [show (oneL (lettersR bs j).2.1 (lettersR bs j).2.2).2 = (lettersR bs (j + 1)).2 from rfl] at hv' ⊢
    generalize hq : (oneL (lettersR bs j).2.1 (lettersR bs j).2.2).1 = q at *
    refine aB (i := 4) (by kernel_rfl) (aE rfl (ev_one rfl .agg (lt_len q) lt_el) rfl rfl ?_ ?_)
    · rintro _ _ _ _ ⟨rfl, bt, rfl, rfl⟩ w s
      exact (s.pick (.there (.there .here))).head.mono hG1
    rintro _ _ _ _ ⟨rfl, bt, rfl, rfl⟩
    refine aB (i := 5) (by kernel_rfl) (aE rfl (ev_append (m := 1) (c := 1) (b := bt) (off := 0) (n := (lettersR bs j).1.length) (xs := rowC ltC (lettersR bs j).1) (news := ltC q) (K := fun v'' => blk bt 37 (ltC q) :: rdr br v' (lettersR bs (j + 1)).2.1 :: blk b5 27 (lgC S T vL (.slice none 0 0)) :: own v'' 37 6 ((lettersR bs j).1.length + 1) (rowC ltC (lettersR bs j).1 ++ ltC q) :: blk b2 27 zLg :: X) rfl rfl lt_el (Rdb.ofB (n := 0) .here rfl) rfl (lt_ones q) (by omega) (by unfold maxLen; omega) (fun v'' => .there (.there (.there .here)))) rfl rfl ?_ ?_)
    · rintro _ _ _ _ ⟨rfl, _, rfl⟩ w s
      exact (s.pick (.there (.there .here))).head.mono hG1
    rintro u' _ _ _ ⟨rfl, _, rfl⟩
    refine aT 6 rfl (ev_qe rfl) rfl rfl ?_ ?_ ?_ ?_; kernel_rfl; kernel_rfl; kernel_rfl
    refine aD (by kernel_rfl) ?_
    refine jL rfl ?_
    refine oDrop ?_
    refine oOwnA (.there (.there .here)) fun a' c' hu' _ _ _ _ => ?_
    subst hu'
    refine oN (ev_store (b := b5) (off := 0 + 2) (vs := [.slice a' ((lettersR bs j).1.length + 1) c']) rfl rfl .slice rfl rfl (s := lgC S T (.slice a' ((lettersR bs j).1.length + 1) c') (.slice none 0 0)) (.skip (.skip (.put .nil))) (ones_cons rfl ones_nil) (.there .here)) rfl ?_
    rintro _ _ _ _ ⟨rfl, _, rfl⟩
    rw [← rowC_one ltC, show (lettersR bs j).1 ++ [q] = (lettersR bs (j + 1)).1 from by rw [hsucc], hlen]
    have hlen1 : (lettersR bs (j + 1)).1.length = j + 1 := manyR_len _ _ _ (j + 1)
    repeat (first|refine zJ rfl rfl ?_|refine jr rfl ?_|refine jn ?_|refine zM rfl rfl ?_|(refine zC rfl rfl ?_ rfl ?_;omega)|(refine zD rfl rfl ?_ rfl ?_;omega)|(refine zP rfl ?_ rfl ?_;omega)|refine zG rfl rfl rfl rfl ?_|(refine jdq rfl rfl ?_ ?_ ?_;kernel_rfl;kernel_rfl)|refine zB rfl rfl rfl (by repeat constructor) rfl ?_|refine zH .here rfl rfl rfl rfl ?_|refine zH (.there .here) rfl rfl rfl rfl ?_|refine zH (.there (.there .here)) rfl rfl rfl rfl ?_)
    refine J_again (j + 1, v', .slice a' (j + 1) c', G1) ⟨hlt, hG.trans hG1, hv'⟩ (by dsimp only; omega) ⟨⟨rfl, rfl, rfl, rfl, rfl, trivial⟩, fun w s => ?_⟩
    dsimp only
    unfold ltO
    rw [hlen1]
    exact s
  · obtain rfl : j = n := by omega
    refine J_weak (H' := ltO vL (lettersR bs j).1 :: rdr br v (lettersR bs j).2.1 :: blk b5 27 (lgC S T vL (.slice none 0 0)) :: blk b2 27 zLg :: X) ?_ (fun w s => s.pm 4 [2, 0, 1, 3] rfl rfl)
    refine J_persist fun hh hA hd => ?_
    have rowL : ltRow (G.un hh) vL (lettersR bs j).1 := ltRow.of hA hd
    have hG1 := PH.le_l G hh
    replace hv := hv.mono' hG1
    have hle4 := hle3.trans (hG.trans hG1)
    generalize G.un hh = G1 at *
    obtain ⟨aL, cL, rfl, _⟩ := rowL.form
    clear hA hd hG hG1
    repeat (first|refine zJ rfl rfl ?_|refine jr rfl ?_|refine jn ?_|refine zM rfl rfl ?_|(refine zC rfl rfl ?_ rfl ?_;omega)|(refine zD rfl rfl ?_ rfl ?_;omega)|(refine zP rfl ?_ rfl ?_;omega)|refine zG rfl rfl rfl rfl ?_|(refine jdq rfl rfl ?_ ?_ ?_;kernel_rfl;kernel_rfl)|refine zB rfl rfl rfl (by repeat constructor) rfl ?_|refine zH .here rfl rfl rfl rfl ?_|refine zH (.there .here) rfl rfl rfl rfl ?_|refine zH (.there (.there .here)) rfl rfl rfl rfl ?_)
    refine oC (Hc := [rdr br v (lettersR bs j).2.1]) (Hr := blk b5 27 (lgC S T (.slice aL (lettersR bs j).1.length cL) (.slice none 0 0)) :: blk b2 27 zLg :: X) (count_spec br v (lettersR bs j).2.1 4 (lettersR bs j).2.2 G1 hv (by omega)) Try.call29 rfl rfl (fun _ s => s) ?_
    rintro _ G2 _ hG2 ⟨v4, rfl, hv4, rfl⟩
    have hco : cntR (lettersR bs j).2.1 (lettersR bs j).2.2 4 = cntO bs := by unfold cntO; rw [hN]
    rw [hco] at hv4 ⊢
    have hm4 := cntO_cnt bs
    have hmi : (cntO bs).1 = ((cntO bs).1.toNat : Int) := by omega
    rw [hmi]
    generalize hM : (cntO bs).1.toNat = m at *
    have hle5 := hle4.trans hG2
    have rowL2 := rowL.mono hG2
    clear hle4 rowL hv
    repeat (first|refine zJ rfl rfl ?_|refine jr rfl ?_|refine jn ?_|refine zM rfl rfl ?_|(refine zC rfl rfl ?_ rfl ?_;omega)|(refine zD rfl rfl ?_ rfl ?_;omega)|(refine zP rfl ?_ rfl ?_;omega)|refine zG rfl rfl rfl rfl ?_|(refine jdq rfl rfl ?_ ?_ ?_;kernel_rfl;kernel_rfl)|refine zB rfl rfl rfl (by repeat constructor) rfl ?_|refine zH .here rfl rfl rfl rfl ?_|refine zH (.there .here) rfl rfl rfl rfl ?_|refine zH (.there (.there .here)) rfl rfl rfl rfl ?_)
    refine J_own_nil 39 3 ?_
    refine J_loop (ι := Nat × Value × Value × PH) (fun p => p.1 ≤ m ∧ G2.le p.2.2.2 ∧ Byt p.2.2.2 p.2.1 (outsR bs p.1).2.2) (fun p => m - p.1) (fun p => [(2, .pointer (some ⟨b2, 0, none⟩)), (4, .pointer (some ⟨br, 0, none⟩)), (5, .pointer (some ⟨b5, 0, none⟩)), (30, .int .i64 m), (31, .int .i64 p.1)]) (fun p => p.2.2.2) (fun p => rdr br p.2.1 (outsR bs p.1).2.1 :: blk b5 27 (lgC S T (.slice aL (lettersR bs j).1.length cL) p.2.2.1) :: ouO p.2.2.1 (outsR bs p.1).1 :: blk b2 27 zLg :: X) (0, v4, .slice none 0 0, G2) ⟨Nat.zero_le _, PH.ler _, hv4⟩ ⟨⟨rfl, rfl, rfl, rfl, rfl, trivial⟩, fun w s => s.pm 4 [1, 2, 0, 3] rfl rfl⟩ ?_
    rintro ⟨i, v, vO, G⟩ ⟨hi, hG, hv⟩
    dsimp only at hi hG hv ⊢
    have hrest2 := outsR_rest bs i
    have hlen2 : (outsR bs i).1.length = i := manyR_len _ _ _ i
    by_cases hlt2 : i < m
    · have hsucc : outsR bs (i + 1) = ((outsR bs i).1 ++ [(oneO (outsR bs i).2.1 (outsR bs i).2.2).1], (oneO (outsR bs i).2.1 (outsR bs i).2.2).2) := rfl
      obtain ⟨pl3, hpl3, hfl3⟩ := fill_ou
      repeat (first|refine zJ rfl rfl ?_|refine jr rfl ?_|refine jn ?_|refine zM rfl rfl ?_|(refine zC rfl rfl ?_ rfl ?_;omega)|(refine zD rfl rfl ?_ rfl ?_;omega)|(refine zP rfl ?_ rfl ?_;omega)|refine zG rfl rfl rfl rfl ?_|(refine jdq rfl rfl ?_ ?_ ?_;kernel_rfl;kernel_rfl)|refine zB rfl rfl rfl (by repeat constructor) rfl ?_|refine zH .here rfl rfl rfl rfl ?_|refine zH (.there .here) rfl rfl rfl rfl ?_|refine zH (.there (.there .here)) rfl rfl rfl rfl ?_)
      refine oC (Hc := [rdr br v (outsR bs i).2.1]) (Hr := blk b5 27 (lgC S T (.slice aL (lettersR bs j).1.length cL) vO) :: ouO vO (outsR bs i).1 :: blk b2 27 zLg :: X) (number_spec br v (outsR bs i).2.1 1 (outsR bs i).2.2 G hv (by omega)) Try.call28 rfl rfl (fun _ s => s) ?_
      rintro _ G3 _ hG3 ⟨v5, rfl, hv5, rfl⟩
      have n5 := numR_rest (outsR bs i).2.1 (outsR bs i).2.2 1
      generalize hr5 : numR (outsR bs i).2.1 (outsR bs i).2.2 1 = r5 at *
      repeat (first|refine zJ rfl rfl ?_|refine jr rfl ?_|refine jn ?_|refine zM rfl rfl ?_|(refine zC rfl rfl ?_ rfl ?_;omega)|(refine zD rfl rfl ?_ rfl ?_;omega)|(refine zP rfl ?_ rfl ?_;omega)|refine zG rfl rfl rfl rfl ?_|(refine jdq rfl rfl ?_ ?_ ?_;kernel_rfl;kernel_rfl)|refine zB rfl rfl rfl (by repeat constructor) rfl ?_|refine zH .here rfl rfl rfl rfl ?_|refine zH (.there .here) rfl rfl rfl rfl ?_|refine zH (.there (.there .here)) rfl rfl rfl rfl ?_)
      refine oS (ev_conv rfl rfl rfl (iN_wrap _)) rfl ?_
      repeat (first|refine zJ rfl rfl ?_|refine jr rfl ?_|refine jn ?_|refine zM rfl rfl ?_|(refine zC rfl rfl ?_ rfl ?_;omega)|(refine zD rfl rfl ?_ rfl ?_;omega)|(refine zP rfl ?_ rfl ?_;omega)|refine zG rfl rfl rfl rfl ?_|(refine jdq rfl rfl ?_ ?_ ?_;kernel_rfl;kernel_rfl)|refine zB rfl rfl rfl (by repeat constructor) rfl ?_|refine zH .here rfl rfl rfl rfl ?_|refine zH (.there .here) rfl rfl rfl rfl ?_|refine zH (.there (.there .here)) rfl rfl rfl rfl ?_)
      refine oC (Hc := [rdr br v5 r5.2.1]) (Hr := blk b5 27 (lgC S T (.slice aL (lettersR bs j).1.length cL) vO) :: ouO vO (outsR bs i).1 :: blk b2 27 zLg :: X) (number_spec br v5 r5.2.1 8 r5.2.2 G3 hv5 (by omega)) Try.call28 rfl rfl (fun _ s => s) ?_
      rintro _ G4 _ hG4 ⟨v6, rfl, hv6, rfl⟩
      have n6 := numR_rest r5.2.1 r5.2.2 8
      generalize hr6 : numR r5.2.1 r5.2.2 8 = r6 at *
      repeat (first|refine zJ rfl rfl ?_|refine jr rfl ?_|refine jn ?_|refine zM rfl rfl ?_|(refine zC rfl rfl ?_ rfl ?_;omega)|(refine zD rfl rfl ?_ rfl ?_;omega)|(refine zP rfl ?_ rfl ?_;omega)|refine zG rfl rfl rfl rfl ?_|(refine jdq rfl rfl ?_ ?_ ?_;kernel_rfl;kernel_rfl)|refine zB rfl rfl rfl (by repeat constructor) rfl ?_|refine zH .here rfl rfl rfl rfl ?_|refine zH (.there .here) rfl rfl rfl rfl ?_|refine zH (.there (.there .here)) rfl rfl rfl rfl ?_)
      refine oS (ev_conv rfl rfl rfl (iN_wrap _)) rfl ?_
      repeat (first|refine zJ rfl rfl ?_|refine jr rfl ?_|refine jn ?_|refine zM rfl rfl ?_|(refine zC rfl rfl ?_ rfl ?_;omega)|(refine zD rfl rfl ?_ rfl ?_;omega)|(refine zP rfl ?_ rfl ?_;omega)|refine zG rfl rfl rfl rfl ?_|(refine jdq rfl rfl ?_ ?_ ?_;kernel_rfl;kernel_rfl)|refine zB rfl rfl rfl (by repeat constructor) rfl ?_|refine zH .here rfl rfl rfl rfl ?_|refine zH (.there .here) rfl rfl rfl rfl ?_|refine zH (.there (.there .here)) rfl rfl rfl rfl ?_)
      refine jaL G4 [blk b5 27 (lgC S T (.slice aL (lettersR bs j).1.length cL) vO)] rfl ?_ ?_ (fun w t => (t.pick (.there .here)).head) ?_; kernel_rfl; kernel_rfl; dsimp only [List.dropLast]
      refine aT 0 rfl (ev_qe rfl) rfl rfl ?_ ?_ ?_ ?_; kernel_rfl; kernel_rfl; kernel_rfl
      refine aT 1 rfl (ev_load (v := vO) rfl rfl (Rdb.ofB (n := 3) .here rfl)) rfl rfl ?_ ?_ ?_ ?_; kernel_rfl; kernel_rfl; kernel_rfl
      refine aT 2 rfl (ev_qe rfl) rfl rfl ?_ ?_ ?_ ?_; kernel_rfl; kernel_rfl; kernel_rfl
      refine aT 3 rfl (ev_qe rfl) rfl rfl ?_ ?_ ?_ ?_; kernel_rfl; kernel_rfl; kernel_rfl
      refine aT 4 rfl (ev_qe rfl) rfl rfl ?_ ?_ ?_ ?_; kernel_rfl; kernel_rfl; kernel_rfl
      refine aB (i := 5) (by kernel_rfl) (aC (Hc := [rdr br v6 r6.2.1]) (Hr := blk b5 27 (lgC S T (.slice aL (lettersR bs j).1.length cL) vO) :: ouO vO (outsR bs i).1 :: blk b2 27 zLg :: X) rfl (number_spec br v6 r6.2.1 1 r6.2.2 G4 hv6 (by omega)) Try.call28 rfl rfl rfl (fun _ s => s) (fun _ _ _ hF hq w s => by obtain ⟨_, _, _, rfl⟩ := hq; exact (s.pick (.there .here)).head.mono hF) ?_)
      rintro _ G5 _ hG5 ⟨v7, rfl, hv7, rfl⟩
      generalize hr7 : numR r6.2.1 r6.2.2 1 = r7 at *
      have hone := oneO_eq hr5 hr6 hr7
      rw [hone] at hsucc
      have e7 : r7.2 = (outsR bs (i + 1)).2 := by rw [hsucc]
      rw [e7] at hv7 ⊢
      refine aT 6 rfl (ev_conv rfl rfl rfl (iN_wrap _)) rfl rfl ?_ ?_ ?_ ?_; kernel_rfl; kernel_rfl; kernel_rfl
      refine aT 7 rfl (ev_build (t := ouC (iN r5.1, iN r6.1, iN r7.1, ())) rfl rfl hpl3 (hfl3 (iN r5.1, iN r6.1, iN r7.1, ()))) rfl rfl ?_ ?_ ?_ ?_; kernel_rfl; kernel_rfl; kernel_rfl
      generalize hq : ((iN r5.1, iN r6.1, iN r7.1, ()) : OuX) = q at *
      refine aB (i := 8) (by kernel_rfl) (aE rfl (ev_one rfl .agg (ou_len q) ou_el) rfl rfl ?_ ?_)
      · rintro _ _ _ _ ⟨rfl, bt, rfl, rfl⟩ w s
        exact (s.pick (.there (.there .here))).head.mono hG5
      rintro _ _ _ _ ⟨rfl, bt, rfl, rfl⟩
      refine aB (i := 9) (by kernel_rfl) (aE rfl (ev_append (m := 1) (c := 1) (b := bt) (off := 0) (n := (outsR bs i).1.length) (xs := rowC ouC (outsR bs i).1) (news := ouC q) (K := fun v'' => blk bt 39 (ouC q) :: rdr br v7 (outsR bs (i + 1)).2.1 :: blk b5 27 (lgC S T (.slice aL (lettersR bs j).1.length cL) vO) :: own v'' 39 3 ((outsR bs i).1.length + 1) (rowC ouC (outsR bs i).1 ++ ouC q) :: blk b2 27 zLg :: X) rfl rfl ou_el (Rdb.ofB (n := 0) .here rfl) rfl (ou_ones q) (by omega) (by unfold maxLen; omega) (fun v'' => .there (.there (.there .here)))) rfl rfl ?_ ?_)
      · rintro _ _ _ _ ⟨rfl, _, rfl⟩ w s
        exact (s.pick (.there (.there .here))).head.mono hG5
      rintro u' _ _ _ ⟨rfl, _, rfl⟩
      refine aT 10 rfl (ev_qe rfl) rfl rfl ?_ ?_ ?_ ?_; kernel_rfl; kernel_rfl; kernel_rfl
      refine aD (by kernel_rfl) ?_
      refine jL rfl ?_
      refine oDrop ?_
      refine oOwnA (.there (.there .here)) fun a' c' hu' _ _ _ _ => ?_
      subst hu'
      refine oN (ev_store (b := b5) (off := 0 + 3) (vs := [.slice a' ((outsR bs i).1.length + 1) c']) rfl rfl .slice rfl rfl (s := lgC S T (.slice aL (lettersR bs j).1.length cL) (.slice a' ((outsR bs i).1.length + 1) c')) (.skip (.skip (.skip (.put .nil)))) (ones_cons rfl ones_nil) (.there .here)) rfl ?_
      rintro _ _ _ _ ⟨rfl, _, rfl⟩
      rw [← rowC_one ouC, show (outsR bs i).1 ++ [q] = (outsR bs (i + 1)).1 from by rw [hsucc], hlen2]
      have hlen3 : (outsR bs (i + 1)).1.length = i + 1 := manyR_len _ _ _ (i + 1)
      repeat (first|refine zJ rfl rfl ?_|refine jr rfl ?_|refine jn ?_|refine zM rfl rfl ?_|(refine zC rfl rfl ?_ rfl ?_;omega)|(refine zD rfl rfl ?_ rfl ?_;omega)|(refine zP rfl ?_ rfl ?_;omega)|refine zG rfl rfl rfl rfl ?_|(refine jdq rfl rfl ?_ ?_ ?_;kernel_rfl;kernel_rfl)|refine zB rfl rfl rfl (by repeat constructor) rfl ?_|refine zH .here rfl rfl rfl rfl ?_|refine zH (.there .here) rfl rfl rfl rfl ?_|refine zH (.there (.there .here)) rfl rfl rfl rfl ?_)
      refine J_again (i + 1, v7, .slice a' (i + 1) c', G5) ⟨hlt2, hG.trans (hG3.trans (hG4.trans hG5)), hv7⟩ (by dsimp only; omega) ⟨⟨rfl, rfl, rfl, rfl, rfl, trivial⟩, fun w s => ?_⟩
      dsimp only
      unfold ouO
      rw [hlen3]
      exact s
    · obtain rfl : i = m := by omega
      refine J_weak (H' := ouO vO (outsR bs i).1 :: rdr br v (outsR bs i).2.1 :: blk b5 27 (lgC S T (.slice aL (lettersR bs j).1.length cL) vO) :: blk b2 27 zLg :: X) ?_ (fun w s => s.pm 4 [2, 0, 1, 3] rfl rfl)
      refine J_persist fun hh hA hd => ?_
      have rowO : ouRow (G.un hh) vO (outsR bs i).1 := ouRow.of hA hd
      have hG1 := PH.le_l G hh
      replace hv := hv.mono' hG1
      have hle6 := hle5.trans (hG.trans hG1)
      have rowL3 := rowL2.mono (hG.trans hG1)
      generalize G.un hh = G1 at *
      obtain ⟨aO, cO, rfl, _⟩ := rowO.form
      clear hA hd hG hG1
      have hrd : readR bs = ((S, T, (lettersR bs j).1, (outsR bs i).1, ()), endR (outsR bs i).2.1 (outsR bs i).2.2) := by
        unfold readR
        rw [hS, hT, hN, hM]
      have hall : ∀ x ∈ (lettersR bs j).1, LtOk x := manyR_all oneL_ok _ _ j
      unfold parseL
      rw [hrd]
      dsimp only
      repeat (first|refine zJ rfl rfl ?_|refine jr rfl ?_|refine jn ?_|refine zM rfl rfl ?_|(refine zC rfl rfl ?_ rfl ?_;omega)|(refine zD rfl rfl ?_ rfl ?_;omega)|(refine zP rfl ?_ rfl ?_;omega)|refine zG rfl rfl rfl rfl ?_|(refine jdq rfl rfl ?_ ?_ ?_;kernel_rfl;kernel_rfl)|refine zB rfl rfl rfl (by repeat constructor) rfl ?_|refine zH .here rfl rfl rfl rfl ?_|refine zH (.there .here) rfl rfl rfl rfl ?_|refine zH (.there (.there .here)) rfl rfl rfl rfl ?_)
      refine oC (Hc := [rdr br v (outsR bs i).2.1]) (Hr := blk b5 27 (lgC S T (.slice aL (lettersR bs j).1.length cL) (.slice aO (outsR bs i).1.length cO)) :: blk b2 27 zLg :: X) (end_spec br v (outsR bs i).2.1 (outsR bs i).2.2 G1 hv) Try.call31 rfl rfl (fun _ s => s) ?_
      rintro _ _ _ _ ⟨rfl, rfl, rfl⟩
      generalize endR (outsR bs i).2.1 (outsR bs i).2.2 = e at *
      by_cases he : e = 0
      rotate_left
      · rw [if_neg (fun h => he h.1)]
        repeat (first|refine zJ rfl rfl ?_|refine jr rfl ?_|refine jn ?_|refine zM rfl rfl ?_|(refine zC rfl rfl ?_ rfl ?_;omega)|(refine zD rfl rfl ?_ rfl ?_;omega)|(refine zP rfl ?_ rfl ?_;omega)|refine zG rfl rfl rfl rfl ?_|(refine jdq rfl rfl ?_ ?_ ?_;kernel_rfl;kernel_rfl)|refine zB rfl rfl rfl (by repeat constructor) rfl ?_|refine zH .here rfl rfl rfl rfl ?_|refine zH (.there .here) rfl rfl rfl rfl ?_|refine zH (.there (.there .here)) rfl rfl rfl rfl ?_)
        refine oN (ev_store (b := b2) (off := 0) rfl rfl .agg rfl rfl (lay_all (vs := zLg) (zs := zLg) rfl) zLg_ones (.there (.there .here))) rfl ?_
        rintro _ _ _ _ ⟨rfl, _, rfl⟩
        repeat (first|refine zJ rfl rfl ?_|refine jr rfl ?_|refine jn ?_|refine zM rfl rfl ?_|(refine zC rfl rfl ?_ rfl ?_;omega)|(refine zD rfl rfl ?_ rfl ?_;omega)|(refine zP rfl ?_ rfl ?_;omega)|refine zG rfl rfl rfl rfl ?_|(refine jdq rfl rfl ?_ ?_ ?_;kernel_rfl;kernel_rfl)|refine zB rfl rfl rfl (by repeat constructor) rfl ?_|refine zH .here rfl rfl rfl rfl ?_|refine zH (.there .here) rfl rfl rfl rfl ?_|refine zH (.there (.there .here)) rfl rfl rfl rfl ?_)
        exact J_retv (vs := [.agg zLg.toArray, .int .i64 2]) rfl (.agg rfl rfl (Rdb.ofB (n := 0) (.there (.there .here)) rfl) rfl (.tmp rfl .nil)) [] (fun w s => s.drop.drop.drop) hle6 ⟨rfl, _, rfl, LgV.nil _⟩
      subst he
      repeat (first|refine zJ rfl rfl ?_|refine jr rfl ?_|refine jn ?_|refine zM rfl rfl ?_|(refine zC rfl rfl ?_ rfl ?_;omega)|(refine zD rfl rfl ?_ rfl ?_;omega)|(refine zP rfl ?_ rfl ?_;omega)|refine zG rfl rfl rfl rfl ?_|(refine jdq rfl rfl ?_ ?_ ?_;kernel_rfl;kernel_rfl)|refine zB rfl rfl rfl (by repeat constructor) rfl ?_|refine zH .here rfl rfl rfl rfl ?_|refine zH (.there .here) rfl rfl rfl rfl ?_|refine zH (.there (.there .here)) rfl rfl rfl rfl ?_)
      refine oS (ev_load_agg (cs := lgC S T (.slice aL (lettersR bs j).1.length cL) (.slice aO (outsR bs i).1.length cO)) rfl rfl (Rdb.ofB (n := 0) (.there .here) rfl) rfl) rfl ?_
      have sc := lcheck_spec (S, T, (lettersR bs j).1, (outsR bs i).1, ()) (lgC S T (.slice aL (lettersR bs j).1.length cL) (.slice aO (outsR bs i).1.length cO)) G1 ⟨_, _, rfl, rowL3, rowO⟩ hk2 (by dsimp only; omega) (by dsimp only; omega) hall
      cases hr : rightL (S, T, (lettersR bs j).1, (outsR bs i).1, ()) with
      | false =>
        rw [hr, if_neg (by decide)] at sc
        rw [if_neg (fun h => by cases h.2)]
        refine oP (sc) Try.call23 rfl rfl ?_
        repeat (first|refine zJ rfl rfl ?_|refine jr rfl ?_|refine jn ?_|refine zM rfl rfl ?_|(refine zC rfl rfl ?_ rfl ?_;omega)|(refine zD rfl rfl ?_ rfl ?_;omega)|(refine zP rfl ?_ rfl ?_;omega)|refine zG rfl rfl rfl rfl ?_|(refine jdq rfl rfl ?_ ?_ ?_;kernel_rfl;kernel_rfl)|refine zB rfl rfl rfl (by repeat constructor) rfl ?_|refine zH .here rfl rfl rfl rfl ?_|refine zH (.there .here) rfl rfl rfl rfl ?_|refine zH (.there (.there .here)) rfl rfl rfl rfl ?_)
        refine oN (ev_store (b := b2) (off := 0) rfl rfl .agg rfl rfl (lay_all (vs := zLg) (zs := zLg) rfl) zLg_ones (.there (.there .here))) rfl ?_
        rintro _ _ _ _ ⟨rfl, _, rfl⟩
        repeat (first|refine zJ rfl rfl ?_|refine jr rfl ?_|refine jn ?_|refine zM rfl rfl ?_|(refine zC rfl rfl ?_ rfl ?_;omega)|(refine zD rfl rfl ?_ rfl ?_;omega)|(refine zP rfl ?_ rfl ?_;omega)|refine zG rfl rfl rfl rfl ?_|(refine jdq rfl rfl ?_ ?_ ?_;kernel_rfl;kernel_rfl)|refine zB rfl rfl rfl (by repeat constructor) rfl ?_|refine zH .here rfl rfl rfl rfl ?_|refine zH (.there .here) rfl rfl rfl rfl ?_|refine zH (.there (.there .here)) rfl rfl rfl rfl ?_)
        exact J_retv (vs := [.agg zLg.toArray, .int .i64 2]) rfl (.agg rfl rfl (Rdb.ofB (n := 0) (.there (.there .here)) rfl) rfl (.tmp rfl .nil)) [] (fun w s => s.drop.drop.drop) hle6 ⟨rfl, _, rfl, LgV.nil _⟩
      | true =>
        rw [hr, if_pos rfl] at sc
        rw [if_pos ⟨rfl, rfl⟩]
        refine oP (sc) Try.call23 rfl rfl ?_
        repeat (first|refine zJ rfl rfl ?_|refine jr rfl ?_|refine jn ?_|refine zM rfl rfl ?_|(refine zC rfl rfl ?_ rfl ?_;omega)|(refine zD rfl rfl ?_ rfl ?_;omega)|(refine zP rfl ?_ rfl ?_;omega)|refine zG rfl rfl rfl rfl ?_|(refine jdq rfl rfl ?_ ?_ ?_;kernel_rfl;kernel_rfl)|refine zB rfl rfl rfl (by repeat constructor) rfl ?_|refine zH .here rfl rfl rfl rfl ?_|refine zH (.there .here) rfl rfl rfl rfl ?_|refine zH (.there (.there .here)) rfl rfl rfl rfl ?_)
        refine oS (ev_load_agg (cs := lgC S T (.slice aL (lettersR bs j).1.length cL) (.slice aO (outsR bs i).1.length cO)) rfl rfl (Rdb.ofB (n := 0) (.there .here) rfl) rfl) rfl ?_
        refine oN (ev_store (b := b2) (off := 0) rfl rfl .agg rfl rfl (lay_all (zs := zLg) rfl) lgC_ones (.there (.there .here))) rfl ?_
        rintro _ _ _ _ ⟨rfl, _, rfl⟩
        repeat (first|refine zJ rfl rfl ?_|refine jr rfl ?_|refine jn ?_|refine zM rfl rfl ?_|(refine zC rfl rfl ?_ rfl ?_;omega)|(refine zD rfl rfl ?_ rfl ?_;omega)|(refine zP rfl ?_ rfl ?_;omega)|refine zG rfl rfl rfl rfl ?_|(refine jdq rfl rfl ?_ ?_ ?_;kernel_rfl;kernel_rfl)|refine zB rfl rfl rfl (by repeat constructor) rfl ?_|refine zH .here rfl rfl rfl rfl ?_|refine zH (.there .here) rfl rfl rfl rfl ?_|refine zH (.there (.there .here)) rfl rfl rfl rfl ?_)
        exact J_retv (vs := [.agg (lgC S T (.slice aL (lettersR bs j).1.length cL) (.slice aO (outsR bs i).1.length cO)).toArray, .int .i64 0]) rfl (.agg rfl rfl (Rdb.ofB (n := 0) (.there (.there .here)) rfl) rfl (.tmp rfl .nil)) [] (fun w s => s.drop.drop.drop) hle6 ⟨rfl, _, rfl, _, _, rfl, rowL3, rowO⟩
end Go.Proofs.Ytifdlhafcfbeaaa
namespace Go.Proofs.Ytifdlhafcfbeaaa
open Go.RowKit
set_option maxRecDepth 100000

set_option maxHeartbeats 64000000 in
theorem Lparse_spec (v : Value) (bs : List UInt8) (F : PH) (h : Byt F v bs) (hl : bs.length ≤ 1048576) :
    Spec Try.prog 9 [v] F [] fun u F' H' => H' = [] ∧ ∃ cs', u = .tuple #[.agg cs'.toArray, .bool (decide ((parseL bs).2 = 0))] ∧ LgV F' cs' (parseL bs).1 := by
  obtain ⟨pl, hpl, hfl⟩ := fill_lg2
  obtain ⟨pl6, hpl6, hfl6⟩ := fill_lt
  obtain ⟨pl3, hpl3, hfl3⟩ := fill_ou
  obtain ⟨a0, c0, rfl, _⟩ := h.form
  refine Spec.of1 Try.func9 rfl rfl fun X w0 => ?_
  refine jc rfl rfl ?_
  refine jr rfl ?_
  refine oE (ev_alloc (cs := zLg) rfl) rfl ?_
  rintro _ _ _ _ ⟨rfl, b2, rfl, rfl⟩
  repeat (first|refine zJ rfl rfl ?_|refine jr rfl ?_|refine jn ?_|refine zM rfl rfl ?_|(refine zC rfl rfl ?_ rfl ?_;omega)|(refine zD rfl rfl ?_ rfl ?_;omega)|(refine zP rfl ?_ rfl ?_;omega)|refine zG rfl rfl rfl rfl ?_|(refine jdq rfl rfl ?_ ?_ ?_;kernel_rfl;kernel_rfl)|refine zB rfl rfl rfl (by repeat constructor) rfl ?_|refine zH .here rfl rfl rfl rfl ?_|refine zH (.there .here) rfl rfl rfl rfl ?_|refine zH (.there (.there .here)) rfl rfl rfl rfl ?_)
  refine oE (ev_box rfl .agg) rfl ?_; rintro _ _ _ _ ⟨rfl, br, rfl, rfl⟩
  have hv0 := h
  have hF0 := PH.ler F
  generalize hF0e : F = F0 at hv0 hF0
  subst hF0e
  generalize Value.slice a0 bs.length c0 = v0 at *
  repeat (first|refine zJ rfl rfl ?_|refine jr rfl ?_|refine jn ?_|refine zM rfl rfl ?_|(refine zC rfl rfl ?_ rfl ?_;omega)|(refine zD rfl rfl ?_ rfl ?_;omega)|(refine zP rfl ?_ rfl ?_;omega)|refine zG rfl rfl rfl rfl ?_|(refine jdq rfl rfl ?_ ?_ ?_;kernel_rfl;kernel_rfl)|refine zB rfl rfl rfl (by repeat constructor) rfl ?_|refine zH .here rfl rfl rfl rfl ?_|refine zH (.there .here) rfl rfl rfl rfl ?_|refine zH (.there (.there .here)) rfl rfl rfl rfl ?_)
  refine oC (Hc := [Rdr br v0 0]) (Hr := blk b2 27 zLg :: X) (Number_spec br v0 0 8 bs F hv0 (by omega)) Try.call32 rfl rfl (fun _ s => s) ?_
  rintro _ F1 _ hF1 ⟨v1, rfl, hv1, rfl⟩
  have n1 := numR_rest 0 bs 8
  generalize hr1 : numR 0 bs 8 = r1 at *
  repeat (first|refine zJ rfl rfl ?_|refine jr rfl ?_|refine jn ?_|refine zM rfl rfl ?_|(refine zC rfl rfl ?_ rfl ?_;omega)|(refine zD rfl rfl ?_ rfl ?_;omega)|(refine zP rfl ?_ rfl ?_;omega)|refine zG rfl rfl rfl rfl ?_|(refine jdq rfl rfl ?_ ?_ ?_;kernel_rfl;kernel_rfl)|refine zB rfl rfl rfl (by repeat constructor) rfl ?_|refine zH .here rfl rfl rfl rfl ?_|refine zH (.there .here) rfl rfl rfl rfl ?_|refine zH (.there (.there .here)) rfl rfl rfl rfl ?_)
  refine oS (ev_conv rfl rfl rfl (iN_wrap _)) rfl ?_
  repeat (first|refine zJ rfl rfl ?_|refine jr rfl ?_|refine jn ?_|refine zM rfl rfl ?_|(refine zC rfl rfl ?_ rfl ?_;omega)|(refine zD rfl rfl ?_ rfl ?_;omega)|(refine zP rfl ?_ rfl ?_;omega)|refine zG rfl rfl rfl rfl ?_|(refine jdq rfl rfl ?_ ?_ ?_;kernel_rfl;kernel_rfl)|refine zB rfl rfl rfl (by repeat constructor) rfl ?_|refine zH .here rfl rfl rfl rfl ?_|refine zH (.there .here) rfl rfl rfl rfl ?_|refine zH (.there (.there .here)) rfl rfl rfl rfl ?_)
  refine oC (Hc := [Rdr br v1 r1.2.1]) (Hr := blk b2 27 zLg :: X) (Number_spec br v1 r1.2.1 8 r1.2.2 F1 hv1 (by omega)) Try.call32 rfl rfl (fun _ s => s) ?_
  rintro _ F2 _ hF2 ⟨v2, rfl, hv2, rfl⟩
  have n2 := numR_rest r1.2.1 r1.2.2 8
  generalize hr2 : numR r1.2.1 r1.2.2 8 = r2 at *
  repeat (first|refine zJ rfl rfl ?_|refine jr rfl ?_|refine jn ?_|refine zM rfl rfl ?_|(refine zC rfl rfl ?_ rfl ?_;omega)|(refine zD rfl rfl ?_ rfl ?_;omega)|(refine zP rfl ?_ rfl ?_;omega)|refine zG rfl rfl rfl rfl ?_|(refine jdq rfl rfl ?_ ?_ ?_;kernel_rfl;kernel_rfl)|refine zB rfl rfl rfl (by repeat constructor) rfl ?_|refine zH .here rfl rfl rfl rfl ?_|refine zH (.there .here) rfl rfl rfl rfl ?_|refine zH (.there (.there .here)) rfl rfl rfl rfl ?_)
  refine oS (ev_conv rfl rfl rfl (iN_wrap _)) rfl ?_
  refine oS (ev_build (t := lgC (iN r1.1) (iN r2.1) (.slice none 0 0) (.slice none 0 0)) rfl rfl hpl (hfl (iN r1.1) (iN r2.1))) rfl ?_
  refine oE (ev_alloc (cs := zLg) rfl) rfl ?_
  rintro _ _ _ _ ⟨rfl, b5, rfl, rfl⟩
  refine oN (ev_store (b := b5) (off := 0) rfl rfl .agg rfl rfl (lay_all (zs := zLg) rfl) lgC_ones .here) rfl ?_
  rintro _ _ _ _ ⟨rfl, _, rfl⟩
  repeat (first|refine zJ rfl rfl ?_|refine jr rfl ?_|refine jn ?_|refine zM rfl rfl ?_|(refine zC rfl rfl ?_ rfl ?_;omega)|(refine zD rfl rfl ?_ rfl ?_;omega)|(refine zP rfl ?_ rfl ?_;omega)|refine zG rfl rfl rfl rfl ?_|(refine jdq rfl rfl ?_ ?_ ?_;kernel_rfl;kernel_rfl)|refine zB rfl rfl rfl (by repeat constructor) rfl ?_|refine zH .here rfl rfl rfl rfl ?_|refine zH (.there .here) rfl rfl rfl rfl ?_|refine zH (.there (.there .here)) rfl rfl rfl rfl ?_)
  refine oC (Hc := [Rdr br v2 r2.2.1]) (Hr := blk b5 27 (lgC (iN r1.1) (iN r2.1) (.slice none 0 0) (.slice none 0 0)) :: blk b2 27 zLg :: X) (Count_spec br v2 r2.2.1 16 r2.2.2 F2 hv2 (by omega)) Try.call33 rfl rfl (fun _ s => s.pm 2 [1, 0] rfl rfl) ?_
  rintro _ F3 _ hF3 ⟨v3, rfl, hv3, rfl⟩
  have hcn := cntR_le r2.2.1 r2.2.2 (m := 16) (by decide)
  generalize hr3 : cntR r2.2.1 r2.2.2 16 = c at *
  have hh := headR_eq hr1 hr2 hr3
  have q1 : iN r1.1 = (headR bs).1.1 := by rw [hh]
  have q2 : iN r2.1 = (headR bs).1.2.1 := by rw [hh]
  have q3 : c.1 = ((headR bs).1.2.2 : Int) := by rw [hh]; dsimp only; omega
  have q4 : c.2.1 = (headR bs).2.1 := by rw [hh]
  have q5 : c.2.2 = (headR bs).2.2 := by rw [hh]
  have hk2 : InK .i64 (headR bs).1.2.1 := by rw [← q2]; exact iN_inK _
  have hn16 := headR_cnt bs
  rw [q5] at hv3
  rw [q1, q2, q3, q4]
  clear hh q1 q2 q3 q4 q5 hr1 hr2 hr3 hv0 hv1 hv2 n1 n2 hcn
  have hle3 : F.le F3 := hF1.trans (hF2.trans hF3)
  clear hF1 hF2 hF3
  repeat (first|refine zJ rfl rfl ?_|refine jr rfl ?_|refine jn ?_|refine zM rfl rfl ?_|(refine zC rfl rfl ?_ rfl ?_;omega)|(refine zD rfl rfl ?_ rfl ?_;omega)|(refine zP rfl ?_ rfl ?_;omega)|refine zG rfl rfl rfl rfl ?_|(refine jdq rfl rfl ?_ ?_ ?_;kernel_rfl;kernel_rfl)|refine zB rfl rfl rfl (by repeat constructor) rfl ?_|refine zH .here rfl rfl rfl rfl ?_|refine zH (.there .here) rfl rfl rfl rfl ?_|refine zH (.there (.there .here)) rfl rfl rfl rfl ?_)
  refine J_own_nil 37 6 ?_
  generalize hS : (headR bs).1.1 = S at *
  generalize hT : (headR bs).1.2.1 = T at *
  generalize hN : (headR bs).1.2.2 = n at *
  refine J_loop (ι := Nat × Value × Value × PH) (fun p => p.1 ≤ n ∧ F3.le p.2.2.2 ∧ Byt p.2.2.2 p.2.1 (lettersR bs p.1).2.2) (fun p => n - p.1) (fun p => [(2, .pointer (some ⟨b2, 0, none⟩)), (4, .pointer (some ⟨br, 0, none⟩)), (5, .pointer (some ⟨b5, 0, none⟩)), (6, .int .i64 ((n - p.1 : Nat) : Int))]) (fun p => p.2.2.2) (fun p => Rdr br p.2.1 (lettersR bs p.1).2.1 :: blk b5 27 (lgC S T p.2.2.1 (.slice none 0 0)) :: ltO p.2.2.1 (lettersR bs p.1).1 :: blk b2 27 zLg :: X) (0, v3, .slice none 0 0, F3) ⟨Nat.zero_le _, PH.ler _, hv3⟩ ⟨⟨rfl, rfl, rfl, rfl, trivial⟩, fun w s => s.pm 4 [1, 2, 0, 3] rfl rfl⟩ ?_
  rintro ⟨j, v, vL, G⟩ ⟨hj, hG, hv⟩
  dsimp only at hj hG hv ⊢
  have hrest := lettersR_rest bs j
  have hlen : (lettersR bs j).1.length = j := manyR_len _ _ _ j
  by_cases he : (lettersR bs j).2.1 = 0
  rotate_left
  · by_cases hlt : j < n
    · rw [parseL_bad1 (j := j) (by omega) he]
      have sk := cntR_stick he (lettersR bs j).2.2 4
      repeat (first|refine zJ rfl rfl ?_|refine jr rfl ?_|refine jn ?_|refine zM rfl rfl ?_|(refine zC rfl rfl ?_ rfl ?_;omega)|(refine zD rfl rfl ?_ rfl ?_;omega)|(refine zP rfl ?_ rfl ?_;omega)|refine zG rfl rfl rfl rfl ?_|(refine jdq rfl rfl ?_ ?_ ?_;kernel_rfl;kernel_rfl)|refine zB rfl rfl rfl (by repeat constructor) rfl ?_|refine zH .here rfl rfl rfl rfl ?_|refine zH (.there .here) rfl rfl rfl rfl ?_|refine zH (.there (.there .here)) rfl rfl rfl rfl ?_)
      have sct := Count_spec br v (lettersR bs j).2.1 4 (lettersR bs j).2.2 G hv (by omega)
      rw [sk] at sct
      refine oC (Hc := [Rdr br v (lettersR bs j).2.1]) (Hr := blk b5 27 (lgC S T vL (.slice none 0 0)) :: ltO vL (lettersR bs j).1 :: blk b2 27 zLg :: X) sct Try.call33 rfl rfl (fun _ s => s) ?_
      rintro _ G2 _ hG2 ⟨v4, rfl, hv4, rfl⟩
      dsimp only at hv4 ⊢
      repeat (first|refine zJ rfl rfl ?_|refine jr rfl ?_|refine jn ?_|refine zM rfl rfl ?_|(refine zC rfl rfl ?_ rfl ?_;omega)|(refine zD rfl rfl ?_ rfl ?_;omega)|(refine zP rfl ?_ rfl ?_;omega)|refine zG rfl rfl rfl rfl ?_|(refine jdq rfl rfl ?_ ?_ ?_;kernel_rfl;kernel_rfl)|refine zB rfl rfl rfl (by repeat constructor) rfl ?_|refine zH .here rfl rfl rfl rfl ?_|refine zH (.there .here) rfl rfl rfl rfl ?_|refine zH (.there (.there .here)) rfl rfl rfl rfl ?_)
      refine J_loop (ι := Unit) (fun _ => True) (fun _ => 0) (fun _ => [(2, .pointer (some ⟨b2, 0, none⟩)), (4, .pointer (some ⟨br, 0, none⟩)), (5, .pointer (some ⟨b5, 0, none⟩)), (8, .int .i64 0)]) (fun _ => G2) (fun _ => Rdr br v4 (lettersR bs j).2.1 :: blk b5 27 (lgC S T vL (.slice none 0 0)) :: ltO vL (lettersR bs j).1 :: blk b2 27 zLg :: X) () trivial ⟨⟨rfl, rfl, rfl, rfl, trivial⟩, fun w s => s⟩ ?_
      intro _ _
      repeat (first|refine zJ rfl rfl ?_|refine jr rfl ?_|refine jn ?_|refine zM rfl rfl ?_|(refine zC rfl rfl ?_ rfl ?_;omega)|(refine zD rfl rfl ?_ rfl ?_;omega)|(refine zP rfl ?_ rfl ?_;omega)|refine zG rfl rfl rfl rfl ?_|(refine jdq rfl rfl ?_ ?_ ?_;kernel_rfl;kernel_rfl)|refine zB rfl rfl rfl (by repeat constructor) rfl ?_|refine zH .here rfl rfl rfl rfl ?_|refine zH (.there .here) rfl rfl rfl rfl ?_|refine zH (.there (.there .here)) rfl rfl rfl rfl ?_)
      refine oC (Hc := [Rdr br v4 (lettersR bs j).2.1]) (Hr := blk b5 27 (lgC S T vL (.slice none 0 0)) :: ltO vL (lettersR bs j).1 :: blk b2 27 zLg :: X) (End_spec br v4 (lettersR bs j).2.1 (lettersR bs j).2.2 G2 hv4) Try.call35 rfl rfl (fun _ s => s) ?_
      rintro _ _ _ _ ⟨rfl, rfl, rfl⟩
      have hne := endR_bad he (lettersR bs j).2.2
      generalize endR (lettersR bs j).2.1 (lettersR bs j).2.2 = e at *
      repeat (first|refine zJ rfl rfl ?_|refine jr rfl ?_|refine jn ?_|refine zM rfl rfl ?_|(refine zC rfl rfl ?_ rfl ?_;omega)|(refine zD rfl rfl ?_ rfl ?_;omega)|(refine zP rfl ?_ rfl ?_;omega)|refine zG rfl rfl rfl rfl ?_|(refine jdq rfl rfl ?_ ?_ ?_;kernel_rfl;kernel_rfl)|refine zB rfl rfl rfl (by repeat constructor) rfl ?_|refine zH .here rfl rfl rfl rfl ?_|refine zH (.there .here) rfl rfl rfl rfl ?_|refine zH (.there (.there .here)) rfl rfl rfl rfl ?_)
      refine oN (ev_store (b := b2) (off := 0) rfl rfl .agg rfl rfl (lay_all (vs := zLg) (zs := zLg) rfl) zLg_ones (.there (.there (.there .here)))) rfl ?_
      rintro _ _ _ _ ⟨rfl, _, rfl⟩
      repeat (first|refine zJ rfl rfl ?_|refine jr rfl ?_|refine jn ?_|refine zM rfl rfl ?_|(refine zC rfl rfl ?_ rfl ?_;omega)|(refine zD rfl rfl ?_ rfl ?_;omega)|(refine zP rfl ?_ rfl ?_;omega)|refine zG rfl rfl rfl rfl ?_|(refine jdq rfl rfl ?_ ?_ ?_;kernel_rfl;kernel_rfl)|refine zB rfl rfl rfl (by repeat constructor) rfl ?_|refine zH .here rfl rfl rfl rfl ?_|refine zH (.there .here) rfl rfl rfl rfl ?_|refine zH (.there (.there .here)) rfl rfl rfl rfl ?_)
      exact J_retv (vs := [.agg zLg.toArray, .bool false]) rfl (.agg rfl rfl (Rdb.ofB (n := 0) (.there (.there (.there .here))) rfl) rfl (.tmp rfl .nil)) [] (fun w s => s.drop.drop.drop.drop) (hle3.trans (hG.trans hG2)) ⟨rfl, _, rfl, LgV.nil _⟩
    · rw [parseL_bad1 (j := j) (by omega) he]
      have sk := cntR_stick he (lettersR bs j).2.2 4
      repeat (first|refine zJ rfl rfl ?_|refine jr rfl ?_|refine jn ?_|refine zM rfl rfl ?_|(refine zC rfl rfl ?_ rfl ?_;omega)|(refine zD rfl rfl ?_ rfl ?_;omega)|(refine zP rfl ?_ rfl ?_;omega)|refine zG rfl rfl rfl rfl ?_|(refine jdq rfl rfl ?_ ?_ ?_;kernel_rfl;kernel_rfl)|refine zB rfl rfl rfl (by repeat constructor) rfl ?_|refine zH .here rfl rfl rfl rfl ?_|refine zH (.there .here) rfl rfl rfl rfl ?_|refine zH (.there (.there .here)) rfl rfl rfl rfl ?_)
      have sct := Count_spec br v (lettersR bs j).2.1 4 (lettersR bs j).2.2 G hv (by omega)
      rw [sk] at sct
      refine oC (Hc := [Rdr br v (lettersR bs j).2.1]) (Hr := blk b5 27 (lgC S T vL (.slice none 0 0)) :: ltO vL (lettersR bs j).1 :: blk b2 27 zLg :: X) sct Try.call33 rfl rfl (fun _ s => s) ?_
      rintro _ G2 _ hG2 ⟨v4, rfl, hv4, rfl⟩
      dsimp only at hv4 ⊢
      repeat (first|refine zJ rfl rfl ?_|refine jr rfl ?_|refine jn ?_|refine zM rfl rfl ?_|(refine zC rfl rfl ?_ rfl ?_;omega)|(refine zD rfl rfl ?_ rfl ?_;omega)|(refine zP rfl ?_ rfl ?_;omega)|refine zG rfl rfl rfl rfl ?_|(refine jdq rfl rfl ?_ ?_ ?_;kernel_rfl;kernel_rfl)|refine zB rfl rfl rfl (by repeat constructor) rfl ?_|refine zH .here rfl rfl rfl rfl ?_|refine zH (.there .here) rfl rfl rfl rfl ?_|refine zH (.there (.there .here)) rfl rfl rfl rfl ?_)
      refine J_loop (ι := Unit) (fun _ => True) (fun _ => 0) (fun _ => [(2, .pointer (some ⟨b2, 0, none⟩)), (4, .pointer (some ⟨br, 0, none⟩)), (5, .pointer (some ⟨b5, 0, none⟩)), (8, .int .i64 0)]) (fun _ => G2) (fun _ => Rdr br v4 (lettersR bs j).2.1 :: blk b5 27 (lgC S T vL (.slice none 0 0)) :: ltO vL (lettersR bs j).1 :: blk b2 27 zLg :: X) () trivial ⟨⟨rfl, rfl, rfl, rfl, trivial⟩, fun w s => s⟩ ?_
      intro _ _
      repeat (first|refine zJ rfl rfl ?_|refine jr rfl ?_|refine jn ?_|refine zM rfl rfl ?_|(refine zC rfl rfl ?_ rfl ?_;omega)|(refine zD rfl rfl ?_ rfl ?_;omega)|(refine zP rfl ?_ rfl ?_;omega)|refine zG rfl rfl rfl rfl ?_|(refine jdq rfl rfl ?_ ?_ ?_;kernel_rfl;kernel_rfl)|refine zB rfl rfl rfl (by repeat constructor) rfl ?_|refine zH .here rfl rfl rfl rfl ?_|refine zH (.there .here) rfl rfl rfl rfl ?_|refine zH (.there (.there .here)) rfl rfl rfl rfl ?_)
      refine oC (Hc := [Rdr br v4 (lettersR bs j).2.1]) (Hr := blk b5 27 (lgC S T vL (.slice none 0 0)) :: ltO vL (lettersR bs j).1 :: blk b2 27 zLg :: X) (End_spec br v4 (lettersR bs j).2.1 (lettersR bs j).2.2 G2 hv4) Try.call35 rfl rfl (fun _ s => s) ?_
      rintro _ _ _ _ ⟨rfl, rfl, rfl⟩
      have hne := endR_bad he (lettersR bs j).2.2
      generalize endR (lettersR bs j).2.1 (lettersR bs j).2.2 = e at *
      repeat (first|refine zJ rfl rfl ?_|refine jr rfl ?_|refine jn ?_|refine zM rfl rfl ?_|(refine zC rfl rfl ?_ rfl ?_;omega)|(refine zD rfl rfl ?_ rfl ?_;omega)|(refine zP rfl ?_ rfl ?_;omega)|refine zG rfl rfl rfl rfl ?_|(refine jdq rfl rfl ?_ ?_ ?_;kernel_rfl;kernel_rfl)|refine zB rfl rfl rfl (by repeat constructor) rfl ?_|refine zH .here rfl rfl rfl rfl ?_|refine zH (.there .here) rfl rfl rfl rfl ?_|refine zH (.there (.there .here)) rfl rfl rfl rfl ?_)
      refine oN (ev_store (b := b2) (off := 0) rfl rfl .agg rfl rfl (lay_all (vs := zLg) (zs := zLg) rfl) zLg_ones (.there (.there (.there .here)))) rfl ?_
      rintro _ _ _ _ ⟨rfl, _, rfl⟩
      repeat (first|refine zJ rfl rfl ?_|refine jr rfl ?_|refine jn ?_|refine zM rfl rfl ?_|(refine zC rfl rfl ?_ rfl ?_;omega)|(refine zD rfl rfl ?_ rfl ?_;omega)|(refine zP rfl ?_ rfl ?_;omega)|refine zG rfl rfl rfl rfl ?_|(refine jdq rfl rfl ?_ ?_ ?_;kernel_rfl;kernel_rfl)|refine zB rfl rfl rfl (by repeat constructor) rfl ?_|refine zH .here rfl rfl rfl rfl ?_|refine zH (.there .here) rfl rfl rfl rfl ?_|refine zH (.there (.there .here)) rfl rfl rfl rfl ?_)
      exact J_retv (vs := [.agg zLg.toArray, .bool false]) rfl (.agg rfl rfl (Rdb.ofB (n := 0) (.there (.there (.there .here))) rfl) rfl (.tmp rfl .nil)) [] (fun w s => s.drop.drop.drop.drop) (hle3.trans (hG.trans hG2)) ⟨rfl, _, rfl, LgV.nil _⟩
  by_cases hlt : j < n
  · have hsucc : lettersR bs (j + 1) = ((lettersR bs j).1 ++ [(oneL (lettersR bs j).2.1 (lettersR bs j).2.2).1], (oneL (lettersR bs j).2.1 (lettersR bs j).2.2).2) := rfl
    have hnn : ((n - j : Nat) : Int) - 1 = ((n - (j + 1) : Nat) : Int) := by omega
    repeat (first|refine zJ rfl rfl ?_|refine jr rfl ?_|refine jn ?_|refine zM rfl rfl ?_|(refine zC rfl rfl ?_ rfl ?_;omega)|(refine zD rfl rfl ?_ rfl ?_;omega)|(refine zP rfl ?_ rfl ?_;omega)|refine zG rfl rfl rfl rfl ?_|(refine jdq rfl rfl ?_ ?_ ?_;kernel_rfl;kernel_rfl)|refine zB rfl rfl rfl (by repeat constructor) rfl ?_|refine zH .here rfl rfl rfl rfl ?_|refine zH (.there .here) rfl rfl rfl rfl ?_|refine zH (.there (.there .here)) rfl rfl rfl rfl ?_)
    try (refine oS (ev_cmp_t rfl rfl (by (dsimp only [cmpP] <;> omega))) rfl ?_)
    repeat (first|refine zJ rfl rfl ?_|refine jr rfl ?_|refine jn ?_|refine zM rfl rfl ?_|(refine zC rfl rfl ?_ rfl ?_;omega)|(refine zD rfl rfl ?_ rfl ?_;omega)|(refine zP rfl ?_ rfl ?_;omega)|refine zG rfl rfl rfl rfl ?_|(refine jdq rfl rfl ?_ ?_ ?_;kernel_rfl;kernel_rfl)|refine zB rfl rfl rfl (by repeat constructor) rfl ?_|refine zH .here rfl rfl rfl rfl ?_|refine zH (.there .here) rfl rfl rfl rfl ?_|refine zH (.there (.there .here)) rfl rfl rfl rfl ?_)
    refine J_join [_] (fun q : PH × Value × Nat => G.le q.1 ∧ Byt q.1 q.2.1 (oneL (lettersR bs j).2.1 (lettersR bs j).2.2).2.2) (fun q => [(2, .pointer (some ⟨b2, 0, none⟩)), (4, .pointer (some ⟨br, 0, none⟩)), (5, .pointer (some ⟨b5, 0, none⟩)), (6, .int .i64 ((n - j : Nat) : Int)), (7, .pointer (some ⟨q.2.2, 0, none⟩))]) (fun q => q.1) (fun q => Rdr br q.2.1 (oneL (lettersR bs j).2.1 (lettersR bs j).2.2).2.1 :: blk q.2.2 37 (ltC (oneL (lettersR bs j).2.1 (lettersR bs j).2.2).1) :: blk b5 27 (lgC S T vL (.slice none 0 0)) :: ltO vL (lettersR bs j).1 :: blk b2 27 zLg :: X) ?_ ?_
    · refine ja G [] ?_ ?_ ?_; kernel_rfl
      · exact fun w s => s.bare
      refine aT 0 rfl (ev_pv rfl) rfl rfl ?_ ?_ ?_ ?_; kernel_rfl; kernel_rfl; kernel_rfl
      refine aT 3 rfl (ev_pv rfl) rfl rfl ?_ ?_ ?_ ?_; kernel_rfl; kernel_rfl; kernel_rfl
      refine aT 6 rfl (ev_pv rfl) rfl rfl ?_ ?_ ?_ ?_; kernel_rfl; kernel_rfl; kernel_rfl
      refine aT 9 rfl (ev_pv rfl) rfl rfl ?_ ?_ ?_ ?_; kernel_rfl; kernel_rfl; kernel_rfl
      refine aT 12 rfl (ev_pv rfl) rfl rfl ?_ ?_ ?_ ?_; kernel_rfl; kernel_rfl; kernel_rfl
      refine aT 15 rfl (ev_pv rfl) rfl rfl ?_ ?_ ?_ ?_; kernel_rfl; kernel_rfl; kernel_rfl
      refine aB2 (i := 1) (i' := 19) (by kernel_rfl) ?_ ?_
      · refine (aC (Hc := [Rdr br v (lettersR bs j).2.1]) (Hr := blk b5 27 (lgC S T vL (.slice none 0 0)) :: ltO vL (lettersR bs j).1 :: blk b2 27 zLg :: X) rfl (RRow_spec br v (lettersR bs j).2.1 16 (lettersR bs j).2.2 G hv (by omega) (by decide)) Try.call34 rfl rfl rfl (fun _ s => s) (fun _ _ _ hF _ w s => (s.mono hF).bare) ?_)
        rintro u1 G1 _ hG1 ⟨w1, hu1, hw1, rfl⟩
        refine aF hG1 ?_
        have n1 := rowR_rest' ((lettersR bs j).2.1) ((lettersR bs j).2.2) 16
        generalize hr1 : rowR ((lettersR bs j).2.1) ((lettersR bs j).2.2) 16 = r1 at *
        obtain ⟨a1, c1, rfl, hc1⟩ := hu1.form
        refine aT 2 rfl (eb_string rfl (hu1.rds)) rfl rfl ?_ ?_ ?_ ?_; kernel_rfl; kernel_rfl; kernel_rfl
        refine aB2 (i := 4) (i' := 19) (by kernel_rfl) ?_ ?_
        · refine (aC (Hc := [Rdr br w1 r1.2.1]) (Hr := blk b5 27 (lgC S T vL (.slice none 0 0)) :: ltO vL (lettersR bs j).1 :: blk b2 27 zLg :: X) rfl (Number_spec br w1 r1.2.1 1 r1.2.2 G1 hw1 (by omega)) Try.call32 rfl rfl rfl (fun _ s => s) (fun _ _ _ hF _ w s => (s.mono hF).bare) ?_)
          rintro _ G2 _ hG2 ⟨w2, rfl, hw2, rfl⟩
          refine aF hG2 ?_
          have n2 := numR_rest (r1.2.1) (r1.2.2) 1
          generalize hr2 : numR (r1.2.1) (r1.2.2) 1 = r2 at *
          refine aT 5 rfl (ev_conv rfl rfl rfl (iN_wrap _)) rfl rfl ?_ ?_ ?_ ?_; kernel_rfl; kernel_rfl; kernel_rfl
          refine aB2 (i := 7) (i' := 19) (by kernel_rfl) ?_ ?_
          · refine (aC (Hc := [Rdr br w2 r2.2.1]) (Hr := blk b5 27 (lgC S T vL (.slice none 0 0)) :: ltO vL (lettersR bs j).1 :: blk b2 27 zLg :: X) rfl (Number_spec br w2 r2.2.1 8 r2.2.2 G2 hw2 (by omega)) Try.call32 rfl rfl rfl (fun _ s => s) (fun _ _ _ hF _ w s => (s.mono hF).bare) ?_)
            rintro _ G3 _ hG3 ⟨w3, rfl, hw3, rfl⟩
            refine aF hG3 ?_
            have n3 := numR_rest (r2.2.1) (r2.2.2) 8
            generalize hr3 : numR (r2.2.1) (r2.2.2) 8 = r3 at *
            refine aT 8 rfl (ev_conv rfl rfl rfl (iN_wrap _)) rfl rfl ?_ ?_ ?_ ?_; kernel_rfl; kernel_rfl; kernel_rfl
            refine aB2 (i := 10) (i' := 19) (by kernel_rfl) ?_ ?_
            · refine (aC (Hc := [Rdr br w3 r3.2.1]) (Hr := blk b5 27 (lgC S T vL (.slice none 0 0)) :: ltO vL (lettersR bs j).1 :: blk b2 27 zLg :: X) rfl (Number_spec br w3 r3.2.1 8 r3.2.2 G3 hw3 (by omega)) Try.call32 rfl rfl rfl (fun _ s => s) (fun _ _ _ hF _ w s => (s.mono hF).bare) ?_)
              rintro _ G4 _ hG4 ⟨w4, rfl, hw4, rfl⟩
              refine aF hG4 ?_
              have n4 := numR_rest (r3.2.1) (r3.2.2) 8
              generalize hr4 : numR (r3.2.1) (r3.2.2) 8 = r4 at *
              refine aT 11 rfl (ev_conv rfl rfl rfl (iN_wrap _)) rfl rfl ?_ ?_ ?_ ?_; kernel_rfl; kernel_rfl; kernel_rfl
              refine aB2 (i := 13) (i' := 19) (by kernel_rfl) ?_ ?_
              · refine (aC (Hc := [Rdr br w4 r4.2.1]) (Hr := blk b5 27 (lgC S T vL (.slice none 0 0)) :: ltO vL (lettersR bs j).1 :: blk b2 27 zLg :: X) rfl (RRow_spec br w4 r4.2.1 200 r4.2.2 G4 hw4 (by omega) (by decide)) Try.call34 rfl rfl rfl (fun _ s => s) (fun _ _ _ hF _ w s => (s.mono hF).bare) ?_)
                rintro u5 G5 _ hG5 ⟨w5, hu5, hw5, rfl⟩
                refine aF hG5 ?_
                have n5 := rowR_rest' (r4.2.1) (r4.2.2) 200
                generalize hr5 : rowR (r4.2.1) (r4.2.2) 200 = r5 at *
                obtain ⟨a5, c5, rfl, hc5⟩ := hu5.form
                refine aT 14 rfl (eb_string rfl (hu5.rds)) rfl rfl ?_ ?_ ?_ ?_; kernel_rfl; kernel_rfl; kernel_rfl
                refine aB2 (i := 16) (i' := 19) (by kernel_rfl) ?_ ?_
                · refine (aC (Hc := [Rdr br w5 r5.2.1]) (Hr := blk b5 27 (lgC S T vL (.slice none 0 0)) :: ltO vL (lettersR bs j).1 :: blk b2 27 zLg :: X) rfl (RRow_spec br w5 r5.2.1 200 r5.2.2 G5 hw5 (by omega) (by decide)) Try.call34 rfl rfl rfl (fun _ s => s) (fun _ _ _ hF _ w s => (s.mono hF).bare) ?_)
                  rintro u6 G6 _ hG6 ⟨w6, hu6, hw6, rfl⟩
                  refine aF hG6 ?_
                  have n6 := rowR_rest' (r5.2.1) (r5.2.2) 200
                  generalize hr6 : rowR (r5.2.1) (r5.2.2) 200 = r6 at *
                  obtain ⟨a6, c6, rfl, hc6⟩ := hu6.form
                  refine aT 17 rfl (eb_string rfl (hu6.rds)) rfl rfl ?_ ?_ ?_ ?_; kernel_rfl; kernel_rfl; kernel_rfl
                  refine aT 18 rfl (ev_build (t := ltC (r1.1, iN r2.1, iN r3.1, iN r4.1, r5.1, r6.1, ())) rfl rfl hpl6 (hfl6 (r1.1, iN r2.1, iN r3.1, iN r4.1, r5.1, r6.1, ()))) rfl rfl ?_ ?_ ?_ ?_; kernel_rfl; kernel_rfl; kernel_rfl
                  refine aB (i := 19) (by kernel_rfl) ?_
                  refine aE rfl (ev_alloc (cs := zLt) rfl) rfl rfl (fun _ _ _ _ ⟨e, _, _, e2⟩ w s => by subst e; subst e2; exact s.bare) ?_
                  rintro _ _ _ _ ⟨rfl, b7, rfl, rfl⟩
                  have hone := oneL_eq hr1 hr2 hr3 hr4 hr5 hr6
                  refine aB (i := 20) (by kernel_rfl) (aN rfl (ev_store (b := b7) rfl rfl .agg rfl rfl (lay_all (zs := zLt) rfl) (lt_ones _) (.here)) rfl (fun _ _ _ _ ⟨e, _, e2⟩ w s => by subst e; exact s.bare) ?_)
                  rintro _ _ _ _ ⟨rfl, _, rfl⟩
                  refine aD (by kernel_rfl) ?_
                  exact J_joined (G6, w6, b7) ⟨hG1.trans (hG2.trans (hG3.trans (hG4.trans (hG5.trans hG6)))), by dsimp only; rw [hone]; exact hw6⟩ ⟨⟨rfl, rfl, rfl, rfl, rfl, trivial⟩, fun w s => by dsimp only; rw [hone]; exact s.pick (.there .here)⟩
                · refine aE rfl (ev_alloc (cs := zLt) rfl) rfl rfl (fun _ _ _ _ ⟨e, _, _, e2⟩ w s => by subst e; subst e2; exact s.bare) ?_
                  rintro _ _ _ _ ⟨rfl, b7, rfl, rfl⟩
                  refine aB (i := 16) (by kernel_rfl) ?_
                  refine (aC (Hc := [Rdr br w5 r5.2.1]) (Hr := blk b7 37 zLt :: blk b5 27 (lgC S T vL (.slice none 0 0)) :: ltO vL (lettersR bs j).1 :: blk b2 27 zLg :: X) rfl (RRow_spec br w5 r5.2.1 200 r5.2.2 G5 hw5 (by omega) (by decide)) Try.call34 rfl rfl rfl (fun _ s => s.pick (.there .here)) (fun _ _ _ hF _ w s => (s.mono hF).bare) ?_)
                  rintro u6 G6 _ hG6 ⟨w6, hu6, hw6, rfl⟩
                  refine aF hG6 ?_
                  have n6 := rowR_rest' (r5.2.1) (r5.2.2) 200
                  generalize hr6 : rowR (r5.2.1) (r5.2.2) 200 = r6 at *
                  obtain ⟨a6, c6, rfl, hc6⟩ := hu6.form
                  refine aT 17 rfl (eb_string rfl (hu6.rds)) rfl rfl ?_ ?_ ?_ ?_; kernel_rfl; kernel_rfl; kernel_rfl
                  refine aT 18 rfl (ev_build (t := ltC (r1.1, iN r2.1, iN r3.1, iN r4.1, r5.1, r6.1, ())) rfl rfl hpl6 (hfl6 (r1.1, iN r2.1, iN r3.1, iN r4.1, r5.1, r6.1, ()))) rfl rfl ?_ ?_ ?_ ?_; kernel_rfl; kernel_rfl; kernel_rfl
                  have hone := oneL_eq hr1 hr2 hr3 hr4 hr5 hr6
                  refine aB (i := 20) (by kernel_rfl) (aN rfl (ev_store (b := b7) rfl rfl .agg rfl rfl (lay_all (zs := zLt) rfl) (lt_ones _) (.there .here)) rfl (fun _ _ _ _ ⟨e, _, e2⟩ w s => by subst e; exact s.bare) ?_)
                  rintro _ _ _ _ ⟨rfl, _, rfl⟩
                  refine aD (by kernel_rfl) ?_
                  exact J_joined (G6, w6, b7) ⟨hG1.trans (hG2.trans (hG3.trans (hG4.trans (hG5.trans hG6)))), by dsimp only; rw [hone]; exact hw6⟩ ⟨⟨rfl, rfl, rfl, rfl, rfl, trivial⟩, fun w s => by dsimp only; rw [hone]; exact s⟩
              · refine aE rfl (ev_alloc (cs := zLt) rfl) rfl rfl (fun _ _ _ _ ⟨e, _, _, e2⟩ w s => by subst e; subst e2; exact s.bare) ?_
                rintro _ _ _ _ ⟨rfl, b7, rfl, rfl⟩
                refine aB (i := 13) (by kernel_rfl) ?_
                refine (aC (Hc := [Rdr br w4 r4.2.1]) (Hr := blk b7 37 zLt :: blk b5 27 (lgC S T vL (.slice none 0 0)) :: ltO vL (lettersR bs j).1 :: blk b2 27 zLg :: X) rfl (RRow_spec br w4 r4.2.1 200 r4.2.2 G4 hw4 (by omega) (by decide)) Try.call34 rfl rfl rfl (fun _ s => s.pick (.there .here)) (fun _ _ _ hF _ w s => (s.mono hF).bare) ?_)
                rintro u5 G5 _ hG5 ⟨w5, hu5, hw5, rfl⟩
                refine aF hG5 ?_
                have n5 := rowR_rest' (r4.2.1) (r4.2.2) 200
                generalize hr5 : rowR (r4.2.1) (r4.2.2) 200 = r5 at *
                obtain ⟨a5, c5, rfl, hc5⟩ := hu5.form
                refine aT 14 rfl (eb_string rfl (hu5.rds)) rfl rfl ?_ ?_ ?_ ?_; kernel_rfl; kernel_rfl; kernel_rfl
                refine aB (i := 16) (by kernel_rfl) ?_
                refine (aC (Hc := [Rdr br w5 r5.2.1]) (Hr := blk b7 37 zLt :: blk b5 27 (lgC S T vL (.slice none 0 0)) :: ltO vL (lettersR bs j).1 :: blk b2 27 zLg :: X) rfl (RRow_spec br w5 r5.2.1 200 r5.2.2 G5 hw5 (by omega) (by decide)) Try.call34 rfl rfl rfl (fun _ s => s) (fun _ _ _ hF _ w s => (s.mono hF).bare) ?_)
                rintro u6 G6 _ hG6 ⟨w6, hu6, hw6, rfl⟩
                refine aF hG6 ?_
                have n6 := rowR_rest' (r5.2.1) (r5.2.2) 200
                generalize hr6 : rowR (r5.2.1) (r5.2.2) 200 = r6 at *
                obtain ⟨a6, c6, rfl, hc6⟩ := hu6.form
                refine aT 17 rfl (eb_string rfl (hu6.rds)) rfl rfl ?_ ?_ ?_ ?_; kernel_rfl; kernel_rfl; kernel_rfl
                refine aT 18 rfl (ev_build (t := ltC (r1.1, iN r2.1, iN r3.1, iN r4.1, r5.1, r6.1, ())) rfl rfl hpl6 (hfl6 (r1.1, iN r2.1, iN r3.1, iN r4.1, r5.1, r6.1, ()))) rfl rfl ?_ ?_ ?_ ?_; kernel_rfl; kernel_rfl; kernel_rfl
                have hone := oneL_eq hr1 hr2 hr3 hr4 hr5 hr6
                refine aB (i := 20) (by kernel_rfl) (aN rfl (ev_store (b := b7) rfl rfl .agg rfl rfl (lay_all (zs := zLt) rfl) (lt_ones _) (.there .here)) rfl (fun _ _ _ _ ⟨e, _, e2⟩ w s => by subst e; exact s.bare) ?_)
                rintro _ _ _ _ ⟨rfl, _, rfl⟩
                refine aD (by kernel_rfl) ?_
                exact J_joined (G6, w6, b7) ⟨hG1.trans (hG2.trans (hG3.trans (hG4.trans (hG5.trans hG6)))), by dsimp only; rw [hone]; exact hw6⟩ ⟨⟨rfl, rfl, rfl, rfl, rfl, trivial⟩, fun w s => by dsimp only; rw [hone]; exact s⟩
            · refine aE rfl (ev_alloc (cs := zLt) rfl) rfl rfl (fun _ _ _ _ ⟨e, _, _, e2⟩ w s => by subst e; subst e2; exact s.bare) ?_
              rintro _ _ _ _ ⟨rfl, b7, rfl, rfl⟩
              refine aB (i := 10) (by kernel_rfl) ?_
              refine (aC (Hc := [Rdr br w3 r3.2.1]) (Hr := blk b7 37 zLt :: blk b5 27 (lgC S T vL (.slice none 0 0)) :: ltO vL (lettersR bs j).1 :: blk b2 27 zLg :: X) rfl (Number_spec br w3 r3.2.1 8 r3.2.2 G3 hw3 (by omega)) Try.call32 rfl rfl rfl (fun _ s => s.pick (.there .here)) (fun _ _ _ hF _ w s => (s.mono hF).bare) ?_)
              rintro _ G4 _ hG4 ⟨w4, rfl, hw4, rfl⟩
              refine aF hG4 ?_
              have n4 := numR_rest (r3.2.1) (r3.2.2) 8
              generalize hr4 : numR (r3.2.1) (r3.2.2) 8 = r4 at *
              refine aT 11 rfl (ev_conv rfl rfl rfl (iN_wrap _)) rfl rfl ?_ ?_ ?_ ?_; kernel_rfl; kernel_rfl; kernel_rfl
              refine aB (i := 13) (by kernel_rfl) ?_
              refine (aC (Hc := [Rdr br w4 r4.2.1]) (Hr := blk b7 37 zLt :: blk b5 27 (lgC S T vL (.slice none 0 0)) :: ltO vL (lettersR bs j).1 :: blk b2 27 zLg :: X) rfl (RRow_spec br w4 r4.2.1 200 r4.2.2 G4 hw4 (by omega) (by decide)) Try.call34 rfl rfl rfl (fun _ s => s) (fun _ _ _ hF _ w s => (s.mono hF).bare) ?_)
              rintro u5 G5 _ hG5 ⟨w5, hu5, hw5, rfl⟩
              refine aF hG5 ?_
              have n5 := rowR_rest' (r4.2.1) (r4.2.2) 200
              generalize hr5 : rowR (r4.2.1) (r4.2.2) 200 = r5 at *
              obtain ⟨a5, c5, rfl, hc5⟩ := hu5.form
              refine aT 14 rfl (eb_string rfl (hu5.rds)) rfl rfl ?_ ?_ ?_ ?_; kernel_rfl; kernel_rfl; kernel_rfl
              refine aB (i := 16) (by kernel_rfl) ?_
              refine (aC (Hc := [Rdr br w5 r5.2.1]) (Hr := blk b7 37 zLt :: blk b5 27 (lgC S T vL (.slice none 0 0)) :: ltO vL (lettersR bs j).1 :: blk b2 27 zLg :: X) rfl (RRow_spec br w5 r5.2.1 200 r5.2.2 G5 hw5 (by omega) (by decide)) Try.call34 rfl rfl rfl (fun _ s => s) (fun _ _ _ hF _ w s => (s.mono hF).bare) ?_)
              rintro u6 G6 _ hG6 ⟨w6, hu6, hw6, rfl⟩
              refine aF hG6 ?_
              have n6 := rowR_rest' (r5.2.1) (r5.2.2) 200
              generalize hr6 : rowR (r5.2.1) (r5.2.2) 200 = r6 at *
              obtain ⟨a6, c6, rfl, hc6⟩ := hu6.form
              refine aT 17 rfl (eb_string rfl (hu6.rds)) rfl rfl ?_ ?_ ?_ ?_; kernel_rfl; kernel_rfl; kernel_rfl
              refine aT 18 rfl (ev_build (t := ltC (r1.1, iN r2.1, iN r3.1, iN r4.1, r5.1, r6.1, ())) rfl rfl hpl6 (hfl6 (r1.1, iN r2.1, iN r3.1, iN r4.1, r5.1, r6.1, ()))) rfl rfl ?_ ?_ ?_ ?_; kernel_rfl; kernel_rfl; kernel_rfl
              have hone := oneL_eq hr1 hr2 hr3 hr4 hr5 hr6
              refine aB (i := 20) (by kernel_rfl) (aN rfl (ev_store (b := b7) rfl rfl .agg rfl rfl (lay_all (zs := zLt) rfl) (lt_ones _) (.there .here)) rfl (fun _ _ _ _ ⟨e, _, e2⟩ w s => by subst e; exact s.bare) ?_)
              rintro _ _ _ _ ⟨rfl, _, rfl⟩
              refine aD (by kernel_rfl) ?_
              exact J_joined (G6, w6, b7) ⟨hG1.trans (hG2.trans (hG3.trans (hG4.trans (hG5.trans hG6)))), by dsimp only; rw [hone]; exact hw6⟩ ⟨⟨rfl, rfl, rfl, rfl, rfl, trivial⟩, fun w s => by dsimp only; rw [hone]; exact s⟩
          · refine aE rfl (ev_alloc (cs := zLt) rfl) rfl rfl (fun _ _ _ _ ⟨e, _, _, e2⟩ w s => by subst e; subst e2; exact s.bare) ?_
            rintro _ _ _ _ ⟨rfl, b7, rfl, rfl⟩
            refine aB (i := 7) (by kernel_rfl) ?_
            refine (aC (Hc := [Rdr br w2 r2.2.1]) (Hr := blk b7 37 zLt :: blk b5 27 (lgC S T vL (.slice none 0 0)) :: ltO vL (lettersR bs j).1 :: blk b2 27 zLg :: X) rfl (Number_spec br w2 r2.2.1 8 r2.2.2 G2 hw2 (by omega)) Try.call32 rfl rfl rfl (fun _ s => s.pick (.there .here)) (fun _ _ _ hF _ w s => (s.mono hF).bare) ?_)
            rintro _ G3 _ hG3 ⟨w3, rfl, hw3, rfl⟩
            refine aF hG3 ?_
            have n3 := numR_rest (r2.2.1) (r2.2.2) 8
            generalize hr3 : numR (r2.2.1) (r2.2.2) 8 = r3 at *
            refine aT 8 rfl (ev_conv rfl rfl rfl (iN_wrap _)) rfl rfl ?_ ?_ ?_ ?_; kernel_rfl; kernel_rfl; kernel_rfl
            refine aB (i := 10) (by kernel_rfl) ?_
            refine (aC (Hc := [Rdr br w3 r3.2.1]) (Hr := blk b7 37 zLt :: blk b5 27 (lgC S T vL (.slice none 0 0)) :: ltO vL (lettersR bs j).1 :: blk b2 27 zLg :: X) rfl (Number_spec br w3 r3.2.1 8 r3.2.2 G3 hw3 (by omega)) Try.call32 rfl rfl rfl (fun _ s => s) (fun _ _ _ hF _ w s => (s.mono hF).bare) ?_)
            rintro _ G4 _ hG4 ⟨w4, rfl, hw4, rfl⟩
            refine aF hG4 ?_
            have n4 := numR_rest (r3.2.1) (r3.2.2) 8
            generalize hr4 : numR (r3.2.1) (r3.2.2) 8 = r4 at *
            refine aT 11 rfl (ev_conv rfl rfl rfl (iN_wrap _)) rfl rfl ?_ ?_ ?_ ?_; kernel_rfl; kernel_rfl; kernel_rfl
            refine aB (i := 13) (by kernel_rfl) ?_
            refine (aC (Hc := [Rdr br w4 r4.2.1]) (Hr := blk b7 37 zLt :: blk b5 27 (lgC S T vL (.slice none 0 0)) :: ltO vL (lettersR bs j).1 :: blk b2 27 zLg :: X) rfl (RRow_spec br w4 r4.2.1 200 r4.2.2 G4 hw4 (by omega) (by decide)) Try.call34 rfl rfl rfl (fun _ s => s) (fun _ _ _ hF _ w s => (s.mono hF).bare) ?_)
            rintro u5 G5 _ hG5 ⟨w5, hu5, hw5, rfl⟩
            refine aF hG5 ?_
            have n5 := rowR_rest' (r4.2.1) (r4.2.2) 200
            generalize hr5 : rowR (r4.2.1) (r4.2.2) 200 = r5 at *
            obtain ⟨a5, c5, rfl, hc5⟩ := hu5.form
            refine aT 14 rfl (eb_string rfl (hu5.rds)) rfl rfl ?_ ?_ ?_ ?_; kernel_rfl; kernel_rfl; kernel_rfl
            refine aB (i := 16) (by kernel_rfl) ?_
            refine (aC (Hc := [Rdr br w5 r5.2.1]) (Hr := blk b7 37 zLt :: blk b5 27 (lgC S T vL (.slice none 0 0)) :: ltO vL (lettersR bs j).1 :: blk b2 27 zLg :: X) rfl (RRow_spec br w5 r5.2.1 200 r5.2.2 G5 hw5 (by omega) (by decide)) Try.call34 rfl rfl rfl (fun _ s => s) (fun _ _ _ hF _ w s => (s.mono hF).bare) ?_)
            rintro u6 G6 _ hG6 ⟨w6, hu6, hw6, rfl⟩
            refine aF hG6 ?_
            have n6 := rowR_rest' (r5.2.1) (r5.2.2) 200
            generalize hr6 : rowR (r5.2.1) (r5.2.2) 200 = r6 at *
            obtain ⟨a6, c6, rfl, hc6⟩ := hu6.form
            refine aT 17 rfl (eb_string rfl (hu6.rds)) rfl rfl ?_ ?_ ?_ ?_; kernel_rfl; kernel_rfl; kernel_rfl
            refine aT 18 rfl (ev_build (t := ltC (r1.1, iN r2.1, iN r3.1, iN r4.1, r5.1, r6.1, ())) rfl rfl hpl6 (hfl6 (r1.1, iN r2.1, iN r3.1, iN r4.1, r5.1, r6.1, ()))) rfl rfl ?_ ?_ ?_ ?_; kernel_rfl; kernel_rfl; kernel_rfl
            have hone := oneL_eq hr1 hr2 hr3 hr4 hr5 hr6
            refine aB (i := 20) (by kernel_rfl) (aN rfl (ev_store (b := b7) rfl rfl .agg rfl rfl (lay_all (zs := zLt) rfl) (lt_ones _) (.there .here)) rfl (fun _ _ _ _ ⟨e, _, e2⟩ w s => by subst e; exact s.bare) ?_)
            rintro _ _ _ _ ⟨rfl, _, rfl⟩
            refine aD (by kernel_rfl) ?_
            exact J_joined (G6, w6, b7) ⟨hG1.trans (hG2.trans (hG3.trans (hG4.trans (hG5.trans hG6)))), by dsimp only; rw [hone]; exact hw6⟩ ⟨⟨rfl, rfl, rfl, rfl, rfl, trivial⟩, fun w s => by dsimp only; rw [hone]; exact s⟩
        · refine aE rfl (ev_alloc (cs := zLt) rfl) rfl rfl (fun _ _ _ _ ⟨e, _, _, e2⟩ w s => by subst e; subst e2; exact s.bare) ?_
          rintro _ _ _ _ ⟨rfl, b7, rfl, rfl⟩
          refine aB (i := 4) (by kernel_rfl) ?_
          refine (aC (Hc := [Rdr br w1 r1.2.1]) (Hr := blk b7 37 zLt :: blk b5 27 (lgC S T vL (.slice none 0 0)) :: ltO vL (lettersR bs j).1 :: blk b2 27 zLg :: X) rfl (Number_spec br w1 r1.2.1 1 r1.2.2 G1 hw1 (by omega)) Try.call32 rfl rfl rfl (fun _ s => s.pick (.there .here)) (fun _ _ _ hF _ w s => (s.mono hF).bare) ?_)
          rintro _ G2 _ hG2 ⟨w2, rfl, hw2, rfl⟩
          refine aF hG2 ?_
          have n2 := numR_rest (r1.2.1) (r1.2.2) 1
          generalize hr2 : numR (r1.2.1) (r1.2.2) 1 = r2 at *
          refine aT 5 rfl (ev_conv rfl rfl rfl (iN_wrap _)) rfl rfl ?_ ?_ ?_ ?_; kernel_rfl; kernel_rfl; kernel_rfl
          refine aB (i := 7) (by kernel_rfl) ?_
          refine (aC (Hc := [Rdr br w2 r2.2.1]) (Hr := blk b7 37 zLt :: blk b5 27 (lgC S T vL (.slice none 0 0)) :: ltO vL (lettersR bs j).1 :: blk b2 27 zLg :: X) rfl (Number_spec br w2 r2.2.1 8 r2.2.2 G2 hw2 (by omega)) Try.call32 rfl rfl rfl (fun _ s => s) (fun _ _ _ hF _ w s => (s.mono hF).bare) ?_)
          rintro _ G3 _ hG3 ⟨w3, rfl, hw3, rfl⟩
          refine aF hG3 ?_
          have n3 := numR_rest (r2.2.1) (r2.2.2) 8
          generalize hr3 : numR (r2.2.1) (r2.2.2) 8 = r3 at *
          refine aT 8 rfl (ev_conv rfl rfl rfl (iN_wrap _)) rfl rfl ?_ ?_ ?_ ?_; kernel_rfl; kernel_rfl; kernel_rfl
          refine aB (i := 10) (by kernel_rfl) ?_
          refine (aC (Hc := [Rdr br w3 r3.2.1]) (Hr := blk b7 37 zLt :: blk b5 27 (lgC S T vL (.slice none 0 0)) :: ltO vL (lettersR bs j).1 :: blk b2 27 zLg :: X) rfl (Number_spec br w3 r3.2.1 8 r3.2.2 G3 hw3 (by omega)) Try.call32 rfl rfl rfl (fun _ s => s) (fun _ _ _ hF _ w s => (s.mono hF).bare) ?_)
          rintro _ G4 _ hG4 ⟨w4, rfl, hw4, rfl⟩
          refine aF hG4 ?_
          have n4 := numR_rest (r3.2.1) (r3.2.2) 8
          generalize hr4 : numR (r3.2.1) (r3.2.2) 8 = r4 at *
          refine aT 11 rfl (ev_conv rfl rfl rfl (iN_wrap _)) rfl rfl ?_ ?_ ?_ ?_; kernel_rfl; kernel_rfl; kernel_rfl
          refine aB (i := 13) (by kernel_rfl) ?_
          refine (aC (Hc := [Rdr br w4 r4.2.1]) (Hr := blk b7 37 zLt :: blk b5 27 (lgC S T vL (.slice none 0 0)) :: ltO vL (lettersR bs j).1 :: blk b2 27 zLg :: X) rfl (RRow_spec br w4 r4.2.1 200 r4.2.2 G4 hw4 (by omega) (by decide)) Try.call34 rfl rfl rfl (fun _ s => s) (fun _ _ _ hF _ w s => (s.mono hF).bare) ?_)
          rintro u5 G5 _ hG5 ⟨w5, hu5, hw5, rfl⟩
          refine aF hG5 ?_
          have n5 := rowR_rest' (r4.2.1) (r4.2.2) 200
          generalize hr5 : rowR (r4.2.1) (r4.2.2) 200 = r5 at *
          obtain ⟨a5, c5, rfl, hc5⟩ := hu5.form
          refine aT 14 rfl (eb_string rfl (hu5.rds)) rfl rfl ?_ ?_ ?_ ?_; kernel_rfl; kernel_rfl; kernel_rfl
          refine aB (i := 16) (by kernel_rfl) ?_
          refine (aC (Hc := [Rdr br w5 r5.2.1]) (Hr := blk b7 37 zLt :: blk b5 27 (lgC S T vL (.slice none 0 0)) :: ltO vL (lettersR bs j).1 :: blk b2 27 zLg :: X) rfl (RRow_spec br w5 r5.2.1 200 r5.2.2 G5 hw5 (by omega) (by decide)) Try.call34 rfl rfl rfl (fun _ s => s) (fun _ _ _ hF _ w s => (s.mono hF).bare) ?_)
          rintro u6 G6 _ hG6 ⟨w6, hu6, hw6, rfl⟩
          refine aF hG6 ?_
          have n6 := rowR_rest' (r5.2.1) (r5.2.2) 200
          generalize hr6 : rowR (r5.2.1) (r5.2.2) 200 = r6 at *
          obtain ⟨a6, c6, rfl, hc6⟩ := hu6.form
          refine aT 17 rfl (eb_string rfl (hu6.rds)) rfl rfl ?_ ?_ ?_ ?_; kernel_rfl; kernel_rfl; kernel_rfl
          refine aT 18 rfl (ev_build (t := ltC (r1.1, iN r2.1, iN r3.1, iN r4.1, r5.1, r6.1, ())) rfl rfl hpl6 (hfl6 (r1.1, iN r2.1, iN r3.1, iN r4.1, r5.1, r6.1, ()))) rfl rfl ?_ ?_ ?_ ?_; kernel_rfl; kernel_rfl; kernel_rfl
          have hone := oneL_eq hr1 hr2 hr3 hr4 hr5 hr6
          refine aB (i := 20) (by kernel_rfl) (aN rfl (ev_store (b := b7) rfl rfl .agg rfl rfl (lay_all (zs := zLt) rfl) (lt_ones _) (.there .here)) rfl (fun _ _ _ _ ⟨e, _, e2⟩ w s => by subst e; exact s.bare) ?_)
          rintro _ _ _ _ ⟨rfl, _, rfl⟩
          refine aD (by kernel_rfl) ?_
          exact J_joined (G6, w6, b7) ⟨hG1.trans (hG2.trans (hG3.trans (hG4.trans (hG5.trans hG6)))), by dsimp only; rw [hone]; exact hw6⟩ ⟨⟨rfl, rfl, rfl, rfl, rfl, trivial⟩, fun w s => by dsimp only; rw [hone]; exact s⟩
      · refine aE rfl (ev_alloc (cs := zLt) rfl) rfl rfl (fun _ _ _ _ ⟨e, _, _, e2⟩ w s => by subst e; subst e2; exact s.bare) ?_
        rintro _ _ _ _ ⟨rfl, b7, rfl, rfl⟩
        refine aB (i := 1) (by kernel_rfl) ?_
        refine (aC (Hc := [Rdr br v (lettersR bs j).2.1]) (Hr := blk b7 37 zLt :: blk b5 27 (lgC S T vL (.slice none 0 0)) :: ltO vL (lettersR bs j).1 :: blk b2 27 zLg :: X) rfl (RRow_spec br v (lettersR bs j).2.1 16 (lettersR bs j).2.2 G hv (by omega) (by decide)) Try.call34 rfl rfl rfl (fun _ s => s.pick (.there .here)) (fun _ _ _ hF _ w s => (s.mono hF).bare) ?_)
        rintro u1 G1 _ hG1 ⟨w1, hu1, hw1, rfl⟩
        refine aF hG1 ?_
        have n1 := rowR_rest' ((lettersR bs j).2.1) ((lettersR bs j).2.2) 16
        generalize hr1 : rowR ((lettersR bs j).2.1) ((lettersR bs j).2.2) 16 = r1 at *
        obtain ⟨a1, c1, rfl, hc1⟩ := hu1.form
        refine aT 2 rfl (eb_string rfl (hu1.rds)) rfl rfl ?_ ?_ ?_ ?_; kernel_rfl; kernel_rfl; kernel_rfl
        refine aB (i := 4) (by kernel_rfl) ?_
        refine (aC (Hc := [Rdr br w1 r1.2.1]) (Hr := blk b7 37 zLt :: blk b5 27 (lgC S T vL (.slice none 0 0)) :: ltO vL (lettersR bs j).1 :: blk b2 27 zLg :: X) rfl (Number_spec br w1 r1.2.1 1 r1.2.2 G1 hw1 (by omega)) Try.call32 rfl rfl rfl (fun _ s => s) (fun _ _ _ hF _ w s => (s.mono hF).bare) ?_)
        rintro _ G2 _ hG2 ⟨w2, rfl, hw2, rfl⟩
        refine aF hG2 ?_
        have n2 := numR_rest (r1.2.1) (r1.2.2) 1
        generalize hr2 : numR (r1.2.1) (r1.2.2) 1 = r2 at *
        refine aT 5 rfl (ev_conv rfl rfl rfl (iN_wrap _)) rfl rfl ?_ ?_ ?_ ?_; kernel_rfl; kernel_rfl; kernel_rfl
        refine aB (i := 7) (by kernel_rfl) ?_
        refine (aC (Hc := [Rdr br w2 r2.2.1]) (Hr := blk b7 37 zLt :: blk b5 27 (lgC S T vL (.slice none 0 0)) :: ltO vL (lettersR bs j).1 :: blk b2 27 zLg :: X) rfl (Number_spec br w2 r2.2.1 8 r2.2.2 G2 hw2 (by omega)) Try.call32 rfl rfl rfl (fun _ s => s) (fun _ _ _ hF _ w s => (s.mono hF).bare) ?_)
        rintro _ G3 _ hG3 ⟨w3, rfl, hw3, rfl⟩
        refine aF hG3 ?_
        have n3 := numR_rest (r2.2.1) (r2.2.2) 8
        generalize hr3 : numR (r2.2.1) (r2.2.2) 8 = r3 at *
        refine aT 8 rfl (ev_conv rfl rfl rfl (iN_wrap _)) rfl rfl ?_ ?_ ?_ ?_; kernel_rfl; kernel_rfl; kernel_rfl
        refine aB (i := 10) (by kernel_rfl) ?_
        refine (aC (Hc := [Rdr br w3 r3.2.1]) (Hr := blk b7 37 zLt :: blk b5 27 (lgC S T vL (.slice none 0 0)) :: ltO vL (lettersR bs j).1 :: blk b2 27 zLg :: X) rfl (Number_spec br w3 r3.2.1 8 r3.2.2 G3 hw3 (by omega)) Try.call32 rfl rfl rfl (fun _ s => s) (fun _ _ _ hF _ w s => (s.mono hF).bare) ?_)
        rintro _ G4 _ hG4 ⟨w4, rfl, hw4, rfl⟩
        refine aF hG4 ?_
        have n4 := numR_rest (r3.2.1) (r3.2.2) 8
        generalize hr4 : numR (r3.2.1) (r3.2.2) 8 = r4 at *
        refine aT 11 rfl (ev_conv rfl rfl rfl (iN_wrap _)) rfl rfl ?_ ?_ ?_ ?_; kernel_rfl; kernel_rfl; kernel_rfl
        refine aB (i := 13) (by kernel_rfl) ?_
        refine (aC (Hc := [Rdr br w4 r4.2.1]) (Hr := blk b7 37 zLt :: blk b5 27 (lgC S T vL (.slice none 0 0)) :: ltO vL (lettersR bs j).1 :: blk b2 27 zLg :: X) rfl (RRow_spec br w4 r4.2.1 200 r4.2.2 G4 hw4 (by omega) (by decide)) Try.call34 rfl rfl rfl (fun _ s => s) (fun _ _ _ hF _ w s => (s.mono hF).bare) ?_)
        rintro u5 G5 _ hG5 ⟨w5, hu5, hw5, rfl⟩
        refine aF hG5 ?_
        have n5 := rowR_rest' (r4.2.1) (r4.2.2) 200
        generalize hr5 : rowR (r4.2.1) (r4.2.2) 200 = r5 at *
        obtain ⟨a5, c5, rfl, hc5⟩ := hu5.form
        refine aT 14 rfl (eb_string rfl (hu5.rds)) rfl rfl ?_ ?_ ?_ ?_; kernel_rfl; kernel_rfl; kernel_rfl
        refine aB (i := 16) (by kernel_rfl) ?_
        refine (aC (Hc := [Rdr br w5 r5.2.1]) (Hr := blk b7 37 zLt :: blk b5 27 (lgC S T vL (.slice none 0 0)) :: ltO vL (lettersR bs j).1 :: blk b2 27 zLg :: X) rfl (RRow_spec br w5 r5.2.1 200 r5.2.2 G5 hw5 (by omega) (by decide)) Try.call34 rfl rfl rfl (fun _ s => s) (fun _ _ _ hF _ w s => (s.mono hF).bare) ?_)
        rintro u6 G6 _ hG6 ⟨w6, hu6, hw6, rfl⟩
        refine aF hG6 ?_
        have n6 := rowR_rest' (r5.2.1) (r5.2.2) 200
        generalize hr6 : rowR (r5.2.1) (r5.2.2) 200 = r6 at *
        obtain ⟨a6, c6, rfl, hc6⟩ := hu6.form
        refine aT 17 rfl (eb_string rfl (hu6.rds)) rfl rfl ?_ ?_ ?_ ?_; kernel_rfl; kernel_rfl; kernel_rfl
        refine aT 18 rfl (ev_build (t := ltC (r1.1, iN r2.1, iN r3.1, iN r4.1, r5.1, r6.1, ())) rfl rfl hpl6 (hfl6 (r1.1, iN r2.1, iN r3.1, iN r4.1, r5.1, r6.1, ()))) rfl rfl ?_ ?_ ?_ ?_; kernel_rfl; kernel_rfl; kernel_rfl
        have hone := oneL_eq hr1 hr2 hr3 hr4 hr5 hr6
        refine aB (i := 20) (by kernel_rfl) (aN rfl (ev_store (b := b7) rfl rfl .agg rfl rfl (lay_all (zs := zLt) rfl) (lt_ones _) (.there .here)) rfl (fun _ _ _ _ ⟨e, _, e2⟩ w s => by subst e; exact s.bare) ?_)
        rintro _ _ _ _ ⟨rfl, _, rfl⟩
        refine aD (by kernel_rfl) ?_
        exact J_joined (G6, w6, b7) ⟨hG1.trans (hG2.trans (hG3.trans (hG4.trans (hG5.trans hG6)))), by dsimp only; rw [hone]; exact hw6⟩ ⟨⟨rfl, rfl, rfl, rfl, rfl, trivial⟩, fun w s => by dsimp only; rw [hone]; exact s⟩
    rintro ⟨G1, v', b7⟩ ⟨hG1, hv'⟩
    dsimp only at hG1 hv' ⊢
    rw [show (oneL (lettersR bs j).2.1 (lettersR bs j).2.2).2 = (lettersR bs (j + 1)).2 from rfl] at hv' ⊢
    generalize hq : (oneL (lettersR bs j).2.1 (lettersR bs j).2.2).1 = q at *
    repeat (first|refine zJ rfl rfl ?_|refine jr rfl ?_|refine jn ?_|refine zM rfl rfl ?_|(refine zC rfl rfl ?_ rfl ?_;omega)|(refine zD rfl rfl ?_ rfl ?_;omega)|(refine zP rfl ?_ rfl ?_;omega)|refine zG rfl rfl rfl rfl ?_|(refine jdq rfl rfl ?_ ?_ ?_;kernel_rfl;kernel_rfl)|refine zB rfl rfl rfl (by repeat constructor) rfl ?_|refine zH .here rfl rfl rfl rfl ?_|refine zH (.there .here) rfl rfl rfl rfl ?_|refine zH (.there (.there .here)) rfl rfl rfl rfl ?_)
    refine oS (ev_load_agg (cs := ltC q) rfl rfl (Rdb.ofB (n := 0) (.there .here) rfl) (lt_len q)) rfl ?_
    refine oA (vs := ltC q) (K := fun v'' => Rdr br v' (lettersR bs (j + 1)).2.1 :: blk b7 37 (ltC q) :: blk b5 27 (lgC S T vL (.slice none 0 0)) :: own v'' 37 6 ((lettersR bs j).1.length + 1) (rowC ltC (lettersR bs j).1 ++ ltC q) :: blk b2 27 zLg :: X) (fun _ => rfl) rfl .agg (lt_len q) lt_el (lt_ones q) (by omega) (fun _ => .there (.there (.there .here))) rfl (fun _ => rfl) fun u _ => ?_
    refine oOwnA (.there (.there (.there .here))) fun a' c' hu' _ _ _ _ => ?_
    subst hu'
    repeat (first|refine zJ rfl rfl ?_|refine jr rfl ?_|refine jn ?_|refine zM rfl rfl ?_|(refine zC rfl rfl ?_ rfl ?_;omega)|(refine zD rfl rfl ?_ rfl ?_;omega)|(refine zP rfl ?_ rfl ?_;omega)|refine zG rfl rfl rfl rfl ?_|(refine jdq rfl rfl ?_ ?_ ?_;kernel_rfl;kernel_rfl)|refine zB rfl rfl rfl (by repeat constructor) rfl ?_|refine zH .here rfl rfl rfl rfl ?_|refine zH (.there .here) rfl rfl rfl rfl ?_|refine zH (.there (.there .here)) rfl rfl rfl rfl ?_)
    refine oN (ev_store (b := b5) (off := 0 + 2) (vs := [.slice a' ((lettersR bs j).1.length + 1) c']) rfl rfl .slice rfl rfl (s := lgC S T (.slice a' ((lettersR bs j).1.length + 1) c') (.slice none 0 0)) (.skip (.skip (.put .nil))) (ones_cons rfl ones_nil) (.there (.there .here))) rfl ?_
    rintro _ _ _ _ ⟨rfl, _, rfl⟩
    rw [← rowC_one ltC, show (lettersR bs j).1 ++ [q] = (lettersR bs (j + 1)).1 from by rw [hsucc], hlen]
    have hlen1 : (lettersR bs (j + 1)).1.length = j + 1 := manyR_len _ _ _ (j + 1)
    repeat (first|refine zJ rfl rfl ?_|refine jr rfl ?_|refine jn ?_|refine zM rfl rfl ?_|(refine zC rfl rfl ?_ rfl ?_;omega)|(refine zD rfl rfl ?_ rfl ?_;omega)|(refine zP rfl ?_ rfl ?_;omega)|refine zG rfl rfl rfl rfl ?_|(refine jdq rfl rfl ?_ ?_ ?_;kernel_rfl;kernel_rfl)|refine zB rfl rfl rfl (by repeat constructor) rfl ?_|refine zH .here rfl rfl rfl rfl ?_|refine zH (.there .here) rfl rfl rfl rfl ?_|refine zH (.there (.there .here)) rfl rfl rfl rfl ?_)
    refine J_again (j + 1, v', .slice a' (j + 1) c', G1) ⟨hlt, hG.trans hG1, hv'⟩ (by dsimp only; omega) ⟨⟨rfl, rfl, rfl, ?_, trivial⟩, fun w s => ?_⟩
    · dsimp only
      rw [← hnn]
      rfl
    dsimp only
    unfold ltO
    rw [hlen1]
    exact (s.pm 5 [0, 2, 3, 4, 1] rfl rfl).pm 5 [0, 1, 2, 3, 4] rfl rfl |> fun s => (s.pm 5 [4, 0, 1, 2, 3] rfl rfl).drop
  · obtain rfl : j = n := by omega
    refine J_weak (H' := ltO vL (lettersR bs j).1 :: Rdr br v (lettersR bs j).2.1 :: blk b5 27 (lgC S T vL (.slice none 0 0)) :: blk b2 27 zLg :: X) ?_ (fun w s => s.pm 4 [2, 0, 1, 3] rfl rfl)
    refine J_persist fun hh hA hd => ?_
    have rowL : ltRow (G.un hh) vL (lettersR bs j).1 := ltRow.of hA hd
    have hG1 := PH.le_l G hh
    replace hv := hv.mono' hG1
    have hle4 := hle3.trans (hG.trans hG1)
    generalize G.un hh = G1 at *
    obtain ⟨aL, cL, rfl, _⟩ := rowL.form
    clear hA hd hG hG1
    repeat (first|refine zJ rfl rfl ?_|refine jr rfl ?_|refine jn ?_|refine zM rfl rfl ?_|(refine zC rfl rfl ?_ rfl ?_;omega)|(refine zD rfl rfl ?_ rfl ?_;omega)|(refine zP rfl ?_ rfl ?_;omega)|refine zG rfl rfl rfl rfl ?_|(refine jdq rfl rfl ?_ ?_ ?_;kernel_rfl;kernel_rfl)|refine zB rfl rfl rfl (by repeat constructor) rfl ?_|refine zH .here rfl rfl rfl rfl ?_|refine zH (.there .here) rfl rfl rfl rfl ?_|refine zH (.there (.there .here)) rfl rfl rfl rfl ?_)
    refine oC (Hc := [Rdr br v (lettersR bs j).2.1]) (Hr := blk b5 27 (lgC S T (.slice aL (lettersR bs j).1.length cL) (.slice none 0 0)) :: blk b2 27 zLg :: X) (Count_spec br v (lettersR bs j).2.1 4 (lettersR bs j).2.2 G1 hv (by omega)) Try.call33 rfl rfl (fun _ s => s) ?_
    rintro _ G2 _ hG2 ⟨v4, rfl, hv4, rfl⟩
    have hco : cntR (lettersR bs j).2.1 (lettersR bs j).2.2 4 = cntO bs := by unfold cntO; rw [hN]
    rw [hco] at hv4 ⊢
    have hm4 := cntO_cnt bs
    have hmi : (cntO bs).1 = ((cntO bs).1.toNat : Int) := by omega
    rw [hmi]
    generalize hM : (cntO bs).1.toNat = m at *
    have hle5 := hle4.trans hG2
    have rowL2 := rowL.mono hG2
    clear hle4 rowL hv he
    repeat (first|refine zJ rfl rfl ?_|refine jr rfl ?_|refine jn ?_|refine zM rfl rfl ?_|(refine zC rfl rfl ?_ rfl ?_;omega)|(refine zD rfl rfl ?_ rfl ?_;omega)|(refine zP rfl ?_ rfl ?_;omega)|refine zG rfl rfl rfl rfl ?_|(refine jdq rfl rfl ?_ ?_ ?_;kernel_rfl;kernel_rfl)|refine zB rfl rfl rfl (by repeat constructor) rfl ?_|refine zH .here rfl rfl rfl rfl ?_|refine zH (.there .here) rfl rfl rfl rfl ?_|refine zH (.there (.there .here)) rfl rfl rfl rfl ?_)
    refine J_own_nil 39 3 ?_
    refine J_loop (ι := Nat × Value × Value × PH) (fun p => p.1 ≤ m ∧ G2.le p.2.2.2 ∧ Byt p.2.2.2 p.2.1 (outsR bs p.1).2.2) (fun p => m - p.1) (fun p => [(2, .pointer (some ⟨b2, 0, none⟩)), (4, .pointer (some ⟨br, 0, none⟩)), (5, .pointer (some ⟨b5, 0, none⟩)), (8, .int .i64 ((m - p.1 : Nat) : Int))]) (fun p => p.2.2.2) (fun p => Rdr br p.2.1 (outsR bs p.1).2.1 :: blk b5 27 (lgC S T (.slice aL (lettersR bs j).1.length cL) p.2.2.1) :: ouO p.2.2.1 (outsR bs p.1).1 :: blk b2 27 zLg :: X) (0, v4, .slice none 0 0, G2) ⟨Nat.zero_le _, PH.ler _, hv4⟩ ⟨⟨rfl, rfl, rfl, rfl, trivial⟩, fun w s => s.pm 4 [1, 2, 0, 3] rfl rfl⟩ ?_
    rintro ⟨i, v, vO, G⟩ ⟨hi, hG, hv⟩
    dsimp only at hi hG hv ⊢
    have hrest2 := outsR_rest bs i
    have hlen2 : (outsR bs i).1.length = i := manyR_len _ _ _ i
    by_cases he : (outsR bs i).2.1 = 0
    rotate_left
    · by_cases hlt2 : i < m
      · rw [parseL_bad2 (j := i) (by omega) he]
        repeat (first|refine zJ rfl rfl ?_|refine jr rfl ?_|refine jn ?_|refine zM rfl rfl ?_|(refine zC rfl rfl ?_ rfl ?_;omega)|(refine zD rfl rfl ?_ rfl ?_;omega)|(refine zP rfl ?_ rfl ?_;omega)|refine zG rfl rfl rfl rfl ?_|(refine jdq rfl rfl ?_ ?_ ?_;kernel_rfl;kernel_rfl)|refine zB rfl rfl rfl (by repeat constructor) rfl ?_|refine zH .here rfl rfl rfl rfl ?_|refine zH (.there .here) rfl rfl rfl rfl ?_|refine zH (.there (.there .here)) rfl rfl rfl rfl ?_)
        refine oC (Hc := [Rdr br v (outsR bs i).2.1]) (Hr := blk b5 27 (lgC S T (.slice aL (lettersR bs j).1.length cL) vO) :: ouO vO (outsR bs i).1 :: blk b2 27 zLg :: X) (End_spec br v (outsR bs i).2.1 (outsR bs i).2.2 G hv) Try.call35 rfl rfl (fun _ s => s) ?_
        rintro _ _ _ _ ⟨rfl, rfl, rfl⟩
        have hne := endR_bad he (outsR bs i).2.2
        generalize endR (outsR bs i).2.1 (outsR bs i).2.2 = e at *
        repeat (first|refine zJ rfl rfl ?_|refine jr rfl ?_|refine jn ?_|refine zM rfl rfl ?_|(refine zC rfl rfl ?_ rfl ?_;omega)|(refine zD rfl rfl ?_ rfl ?_;omega)|(refine zP rfl ?_ rfl ?_;omega)|refine zG rfl rfl rfl rfl ?_|(refine jdq rfl rfl ?_ ?_ ?_;kernel_rfl;kernel_rfl)|refine zB rfl rfl rfl (by repeat constructor) rfl ?_|refine zH .here rfl rfl rfl rfl ?_|refine zH (.there .here) rfl rfl rfl rfl ?_|refine zH (.there (.there .here)) rfl rfl rfl rfl ?_)
        refine oN (ev_store (b := b2) (off := 0) rfl rfl .agg rfl rfl (lay_all (vs := zLg) (zs := zLg) rfl) zLg_ones (.there (.there (.there .here)))) rfl ?_
        rintro _ _ _ _ ⟨rfl, _, rfl⟩
        repeat (first|refine zJ rfl rfl ?_|refine jr rfl ?_|refine jn ?_|refine zM rfl rfl ?_|(refine zC rfl rfl ?_ rfl ?_;omega)|(refine zD rfl rfl ?_ rfl ?_;omega)|(refine zP rfl ?_ rfl ?_;omega)|refine zG rfl rfl rfl rfl ?_|(refine jdq rfl rfl ?_ ?_ ?_;kernel_rfl;kernel_rfl)|refine zB rfl rfl rfl (by repeat constructor) rfl ?_|refine zH .here rfl rfl rfl rfl ?_|refine zH (.there .here) rfl rfl rfl rfl ?_|refine zH (.there (.there .here)) rfl rfl rfl rfl ?_)
        exact J_retv (vs := [.agg zLg.toArray, .bool false]) rfl (.agg rfl rfl (Rdb.ofB (n := 0) (.there (.there (.there .here))) rfl) rfl (.tmp rfl .nil)) [] (fun w s => s.drop.drop.drop.drop) (hle5.trans hG) ⟨rfl, _, rfl, LgV.nil _⟩
      · rw [parseL_bad2 (j := i) (by omega) he]
        repeat (first|refine zJ rfl rfl ?_|refine jr rfl ?_|refine jn ?_|refine zM rfl rfl ?_|(refine zC rfl rfl ?_ rfl ?_;omega)|(refine zD rfl rfl ?_ rfl ?_;omega)|(refine zP rfl ?_ rfl ?_;omega)|refine zG rfl rfl rfl rfl ?_|(refine jdq rfl rfl ?_ ?_ ?_;kernel_rfl;kernel_rfl)|refine zB rfl rfl rfl (by repeat constructor) rfl ?_|refine zH .here rfl rfl rfl rfl ?_|refine zH (.there .here) rfl rfl rfl rfl ?_|refine zH (.there (.there .here)) rfl rfl rfl rfl ?_)
        refine oC (Hc := [Rdr br v (outsR bs i).2.1]) (Hr := blk b5 27 (lgC S T (.slice aL (lettersR bs j).1.length cL) vO) :: ouO vO (outsR bs i).1 :: blk b2 27 zLg :: X) (End_spec br v (outsR bs i).2.1 (outsR bs i).2.2 G hv) Try.call35 rfl rfl (fun _ s => s) ?_
        rintro _ _ _ _ ⟨rfl, rfl, rfl⟩
        have hne := endR_bad he (outsR bs i).2.2
        generalize endR (outsR bs i).2.1 (outsR bs i).2.2 = e at *
        repeat (first|refine zJ rfl rfl ?_|refine jr rfl ?_|refine jn ?_|refine zM rfl rfl ?_|(refine zC rfl rfl ?_ rfl ?_;omega)|(refine zD rfl rfl ?_ rfl ?_;omega)|(refine zP rfl ?_ rfl ?_;omega)|refine zG rfl rfl rfl rfl ?_|(refine jdq rfl rfl ?_ ?_ ?_;kernel_rfl;kernel_rfl)|refine zB rfl rfl rfl (by repeat constructor) rfl ?_|refine zH .here rfl rfl rfl rfl ?_|refine zH (.there .here) rfl rfl rfl rfl ?_|refine zH (.there (.there .here)) rfl rfl rfl rfl ?_)
        refine oN (ev_store (b := b2) (off := 0) rfl rfl .agg rfl rfl (lay_all (vs := zLg) (zs := zLg) rfl) zLg_ones (.there (.there (.there .here)))) rfl ?_
        rintro _ _ _ _ ⟨rfl, _, rfl⟩
        repeat (first|refine zJ rfl rfl ?_|refine jr rfl ?_|refine jn ?_|refine zM rfl rfl ?_|(refine zC rfl rfl ?_ rfl ?_;omega)|(refine zD rfl rfl ?_ rfl ?_;omega)|(refine zP rfl ?_ rfl ?_;omega)|refine zG rfl rfl rfl rfl ?_|(refine jdq rfl rfl ?_ ?_ ?_;kernel_rfl;kernel_rfl)|refine zB rfl rfl rfl (by repeat constructor) rfl ?_|refine zH .here rfl rfl rfl rfl ?_|refine zH (.there .here) rfl rfl rfl rfl ?_|refine zH (.there (.there .here)) rfl rfl rfl rfl ?_)
        exact J_retv (vs := [.agg zLg.toArray, .bool false]) rfl (.agg rfl rfl (Rdb.ofB (n := 0) (.there (.there (.there .here))) rfl) rfl (.tmp rfl .nil)) [] (fun w s => s.drop.drop.drop.drop) (hle5.trans hG) ⟨rfl, _, rfl, LgV.nil _⟩
    by_cases hlt2 : i < m
    · have hsucc : outsR bs (i + 1) = ((outsR bs i).1 ++ [(oneO (outsR bs i).2.1 (outsR bs i).2.2).1], (oneO (outsR bs i).2.1 (outsR bs i).2.2).2) := rfl
      have hnn : ((m - i : Nat) : Int) - 1 = ((m - (i + 1) : Nat) : Int) := by omega
      repeat (first|refine zJ rfl rfl ?_|refine jr rfl ?_|refine jn ?_|refine zM rfl rfl ?_|(refine zC rfl rfl ?_ rfl ?_;omega)|(refine zD rfl rfl ?_ rfl ?_;omega)|(refine zP rfl ?_ rfl ?_;omega)|refine zG rfl rfl rfl rfl ?_|(refine jdq rfl rfl ?_ ?_ ?_;kernel_rfl;kernel_rfl)|refine zB rfl rfl rfl (by repeat constructor) rfl ?_|refine zH .here rfl rfl rfl rfl ?_|refine zH (.there .here) rfl rfl rfl rfl ?_|refine zH (.there (.there .here)) rfl rfl rfl rfl ?_)
      try (refine oS (ev_cmp_t rfl rfl (by (dsimp only [cmpP] <;> omega))) rfl ?_)
      repeat (first|refine zJ rfl rfl ?_|refine jr rfl ?_|refine jn ?_|refine zM rfl rfl ?_|(refine zC rfl rfl ?_ rfl ?_;omega)|(refine zD rfl rfl ?_ rfl ?_;omega)|(refine zP rfl ?_ rfl ?_;omega)|refine zG rfl rfl rfl rfl ?_|(refine jdq rfl rfl ?_ ?_ ?_;kernel_rfl;kernel_rfl)|refine zB rfl rfl rfl (by repeat constructor) rfl ?_|refine zH .here rfl rfl rfl rfl ?_|refine zH (.there .here) rfl rfl rfl rfl ?_|refine zH (.there (.there .here)) rfl rfl rfl rfl ?_)
      refine jaL G [blk b5 27 (lgC S T (.slice aL (lettersR bs j).1.length cL) vO)] rfl ?_ ?_ (fun w t => (t.pick (.there .here)).head) ?_; kernel_rfl; kernel_rfl; dsimp only [List.dropLast]
      refine aT 0 rfl (ev_qe rfl) rfl rfl ?_ ?_ ?_ ?_; kernel_rfl; kernel_rfl; kernel_rfl
      refine aT 1 rfl (ev_load (v := vO) rfl rfl (Rdb.ofB (n := 3) .here rfl)) rfl rfl ?_ ?_ ?_ ?_; kernel_rfl; kernel_rfl; kernel_rfl
      refine aT 2 rfl (ev_qe rfl) rfl rfl ?_ ?_ ?_ ?_; kernel_rfl; kernel_rfl; kernel_rfl
      refine aT 5 rfl (ev_qe rfl) rfl rfl ?_ ?_ ?_ ?_; kernel_rfl; kernel_rfl; kernel_rfl
      refine aT 8 rfl (ev_qe rfl) rfl rfl ?_ ?_ ?_ ?_; kernel_rfl; kernel_rfl; kernel_rfl
      refine aB (i := 3) (by kernel_rfl) (aC (Hc := [Rdr br v (outsR bs i).2.1]) (Hr := blk b5 27 (lgC S T (.slice aL (lettersR bs j).1.length cL) vO) :: ouO vO (outsR bs i).1 :: blk b2 27 zLg :: X) rfl (Number_spec br v (outsR bs i).2.1 1 (outsR bs i).2.2 G hv (by omega)) Try.call32 rfl rfl rfl (fun _ s => s) (fun _ _ _ hF hq w s => by obtain ⟨_, _, _, rfl⟩ := hq; exact (s.pick (.there .here)).head.mono hF) ?_)
      rintro _ G3 _ hG3 ⟨v5, rfl, hv5, rfl⟩
      have n5 := numR_rest (outsR bs i).2.1 (outsR bs i).2.2 1
      generalize hr5 : numR (outsR bs i).2.1 (outsR bs i).2.2 1 = r5 at *
      refine aT 4 rfl (ev_conv rfl rfl rfl (iN_wrap _)) rfl rfl ?_ ?_ ?_ ?_; kernel_rfl; kernel_rfl; kernel_rfl
      refine aB (i := 6) (by kernel_rfl) (aC (Hc := [Rdr br v5 r5.2.1]) (Hr := blk b5 27 (lgC S T (.slice aL (lettersR bs j).1.length cL) vO) :: ouO vO (outsR bs i).1 :: blk b2 27 zLg :: X) rfl (Number_spec br v5 r5.2.1 8 r5.2.2 G3 hv5 (by omega)) Try.call32 rfl rfl rfl (fun _ s => s) (fun _ _ _ hF hq w s => by obtain ⟨_, _, _, rfl⟩ := hq; exact (s.pick (.there .here)).head.mono (hG3.trans hF)) ?_)
      rintro _ G4 _ hG4 ⟨v6, rfl, hv6, rfl⟩
      have n6 := numR_rest r5.2.1 r5.2.2 8
      generalize hr6 : numR r5.2.1 r5.2.2 8 = r6 at *
      refine aT 7 rfl (ev_conv rfl rfl rfl (iN_wrap _)) rfl rfl ?_ ?_ ?_ ?_; kernel_rfl; kernel_rfl; kernel_rfl
      refine aB (i := 9) (by kernel_rfl) (aC (Hc := [Rdr br v6 r6.2.1]) (Hr := blk b5 27 (lgC S T (.slice aL (lettersR bs j).1.length cL) vO) :: ouO vO (outsR bs i).1 :: blk b2 27 zLg :: X) rfl (Number_spec br v6 r6.2.1 1 r6.2.2 G4 hv6 (by omega)) Try.call32 rfl rfl rfl (fun _ s => s) (fun _ _ _ hF hq w s => by obtain ⟨_, _, _, rfl⟩ := hq; exact (s.pick (.there .here)).head.mono (hG3.trans (hG4.trans hF))) ?_)
      rintro _ G5 _ hG5 ⟨v7, rfl, hv7, rfl⟩
      generalize hr7 : numR r6.2.1 r6.2.2 1 = r7 at *
      have hone := oneO_eq hr5 hr6 hr7
      rw [hone] at hsucc
      have e7 : r7.2 = (outsR bs (i + 1)).2 := by rw [hsucc]
      rw [e7] at hv7 ⊢
      have hGG := hG3.trans (hG4.trans hG5)
      refine aT 10 rfl (ev_conv rfl rfl rfl (iN_wrap _)) rfl rfl ?_ ?_ ?_ ?_; kernel_rfl; kernel_rfl; kernel_rfl
      refine aT 11 rfl (ev_build (t := ouC (iN r5.1, iN r6.1, iN r7.1, ())) rfl rfl hpl3 (hfl3 (iN r5.1, iN r6.1, iN r7.1, ()))) rfl rfl ?_ ?_ ?_ ?_; kernel_rfl; kernel_rfl; kernel_rfl
      generalize hq : ((iN r5.1, iN r6.1, iN r7.1, ()) : OuX) = q at *
      refine aB (i := 12) (by kernel_rfl) (aE rfl (ev_one rfl .agg (ou_len q) ou_el) rfl rfl ?_ ?_)
      · rintro _ _ _ _ ⟨rfl, bt, rfl, rfl⟩ w s
        exact (s.pick (.there (.there .here))).head.mono hGG
      rintro _ _ _ _ ⟨rfl, bt, rfl, rfl⟩
      refine aB (i := 13) (by kernel_rfl) (aE rfl (ev_append (m := 1) (c := 1) (b := bt) (off := 0) (n := (outsR bs i).1.length) (xs := rowC ouC (outsR bs i).1) (news := ouC q) (K := fun v'' => blk bt 39 (ouC q) :: Rdr br v7 (outsR bs (i + 1)).2.1 :: blk b5 27 (lgC S T (.slice aL (lettersR bs j).1.length cL) vO) :: own v'' 39 3 ((outsR bs i).1.length + 1) (rowC ouC (outsR bs i).1 ++ ouC q) :: blk b2 27 zLg :: X) rfl rfl ou_el (Rdb.ofB (n := 0) .here rfl) rfl (ou_ones q) (by omega) (by unfold maxLen; omega) (fun v'' => .there (.there (.there .here)))) rfl rfl ?_ ?_)
      · rintro _ _ _ _ ⟨rfl, _, rfl⟩ w s
        exact (s.pick (.there (.there .here))).head.mono hGG
      rintro u' _ _ _ ⟨rfl, _, rfl⟩
      refine aT 14 rfl (ev_qe rfl) rfl rfl ?_ ?_ ?_ ?_; kernel_rfl; kernel_rfl; kernel_rfl
      refine aD (by kernel_rfl) ?_
      refine jL rfl ?_
      refine oDrop ?_
      refine oOwnA (.there (.there .here)) fun a' c' hu' _ _ _ _ => ?_
      subst hu'
      refine oN (ev_store (b := b5) (off := 0 + 3) (vs := [.slice a' ((outsR bs i).1.length + 1) c']) rfl rfl .slice rfl rfl (s := lgC S T (.slice aL (lettersR bs j).1.length cL) (.slice a' ((outsR bs i).1.length + 1) c')) (.skip (.skip (.skip (.put .nil)))) (ones_cons rfl ones_nil) (.there .here)) rfl ?_
      rintro _ _ _ _ ⟨rfl, _, rfl⟩
      rw [← rowC_one ouC, show (outsR bs i).1 ++ [q] = (outsR bs (i + 1)).1 from by rw [hsucc], hlen2]
      have hlen3 : (outsR bs (i + 1)).1.length = i + 1 := manyR_len _ _ _ (i + 1)
      repeat (first|refine zJ rfl rfl ?_|refine jr rfl ?_|refine jn ?_|refine zM rfl rfl ?_|(refine zC rfl rfl ?_ rfl ?_;omega)|(refine zD rfl rfl ?_ rfl ?_;omega)|(refine zP rfl ?_ rfl ?_;omega)|refine zG rfl rfl rfl rfl ?_|(refine jdq rfl rfl ?_ ?_ ?_;kernel_rfl;kernel_rfl)|refine zB rfl rfl rfl (by repeat constructor) rfl ?_|refine zH .here rfl rfl rfl rfl ?_|refine zH (.there .here) rfl rfl rfl rfl ?_|refine zH (.there (.there .here)) rfl rfl rfl rfl ?_)
      refine J_again (i + 1, v7, .slice a' (i + 1) c', G5) ⟨hlt2, hG.trans hGG, hv7⟩ (by dsimp only; omega) ⟨⟨rfl, rfl, rfl, ?_, trivial⟩, fun w s => ?_⟩
      · dsimp only
        rw [← hnn]
        rfl
      dsimp only
      unfold ouO
      rw [hlen3]
      exact s
    · obtain rfl : i = m := by omega
      refine J_weak (H' := ouO vO (outsR bs i).1 :: Rdr br v (outsR bs i).2.1 :: blk b5 27 (lgC S T (.slice aL (lettersR bs j).1.length cL) vO) :: blk b2 27 zLg :: X) ?_ (fun w s => s.pm 4 [2, 0, 1, 3] rfl rfl)
      refine J_persist fun hh hA hd => ?_
      have rowO : ouRow (G.un hh) vO (outsR bs i).1 := ouRow.of hA hd
      have hG1 := PH.le_l G hh
      replace hv := hv.mono' hG1
      have hle6 := hle5.trans (hG.trans hG1)
      have rowL3 := rowL2.mono (hG.trans hG1)
      generalize G.un hh = G1 at *
      obtain ⟨aO, cO, rfl, _⟩ := rowO.form
      clear hA hd hG hG1
      have hrd : readR bs = ((S, T, (lettersR bs j).1, (outsR bs i).1, ()), endR (outsR bs i).2.1 (outsR bs i).2.2) := by
        unfold readR
        rw [hS, hT, hN, hM]
      have hall : ∀ x ∈ (lettersR bs j).1, LtOk x := manyR_all oneL_ok _ _ j
      have hp : parseL bs = if endR (outsR bs i).2.1 (outsR bs i).2.2 = 0 ∧ rightL (S, T, (lettersR bs j).1, (outsR bs i).1, ()) = true then ((S, T, (lettersR bs j).1, (outsR bs i).1, ()), 0) else (nLg, 2) := by
        unfold parseL
        rw [hrd]
      rw [hp]
      clear hp
      repeat (first|refine zJ rfl rfl ?_|refine jr rfl ?_|refine jn ?_|refine zM rfl rfl ?_|(refine zC rfl rfl ?_ rfl ?_;omega)|(refine zD rfl rfl ?_ rfl ?_;omega)|(refine zP rfl ?_ rfl ?_;omega)|refine zG rfl rfl rfl rfl ?_|(refine jdq rfl rfl ?_ ?_ ?_;kernel_rfl;kernel_rfl)|refine zB rfl rfl rfl (by repeat constructor) rfl ?_|refine zH .here rfl rfl rfl rfl ?_|refine zH (.there .here) rfl rfl rfl rfl ?_|refine zH (.there (.there .here)) rfl rfl rfl rfl ?_)
      refine oC (Hc := [Rdr br v (outsR bs i).2.1]) (Hr := blk b5 27 (lgC S T (.slice aL (lettersR bs j).1.length cL) (.slice aO (outsR bs i).1.length cO)) :: blk b2 27 zLg :: X) (End_spec br v (outsR bs i).2.1 (outsR bs i).2.2 G1 hv) Try.call35 rfl rfl (fun _ s => s) ?_
      rintro _ _ _ _ ⟨rfl, rfl, rfl⟩
      generalize endR (outsR bs i).2.1 (outsR bs i).2.2 = e at *
      by_cases he : e = 0
      rotate_left
      · rw [if_neg (fun h => he h.1)]
        rw [show decide (((nLg, 2) : LgX × Int).2 = 0) = false from rfl]
        repeat (first|refine zJ rfl rfl ?_|refine jr rfl ?_|refine jn ?_|refine zM rfl rfl ?_|(refine zC rfl rfl ?_ rfl ?_;omega)|(refine zD rfl rfl ?_ rfl ?_;omega)|(refine zP rfl ?_ rfl ?_;omega)|refine zG rfl rfl rfl rfl ?_|(refine jdq rfl rfl ?_ ?_ ?_;kernel_rfl;kernel_rfl)|refine zB rfl rfl rfl (by repeat constructor) rfl ?_|refine zH .here rfl rfl rfl rfl ?_|refine zH (.there .here) rfl rfl rfl rfl ?_|refine zH (.there (.there .here)) rfl rfl rfl rfl ?_)
        refine oN (ev_store (b := b2) (off := 0) rfl rfl .agg rfl rfl (lay_all (vs := zLg) (zs := zLg) rfl) zLg_ones (.there (.there .here))) rfl ?_
        rintro _ _ _ _ ⟨rfl, _, rfl⟩
        repeat (first|refine zJ rfl rfl ?_|refine jr rfl ?_|refine jn ?_|refine zM rfl rfl ?_|(refine zC rfl rfl ?_ rfl ?_;omega)|(refine zD rfl rfl ?_ rfl ?_;omega)|(refine zP rfl ?_ rfl ?_;omega)|refine zG rfl rfl rfl rfl ?_|(refine jdq rfl rfl ?_ ?_ ?_;kernel_rfl;kernel_rfl)|refine zB rfl rfl rfl (by repeat constructor) rfl ?_|refine zH .here rfl rfl rfl rfl ?_|refine zH (.there .here) rfl rfl rfl rfl ?_|refine zH (.there (.there .here)) rfl rfl rfl rfl ?_)
        exact J_retv (vs := [.agg zLg.toArray, .bool false]) rfl (.agg rfl rfl (Rdb.ofB (n := 0) (.there (.there .here)) rfl) rfl (.tmp rfl .nil)) [] (fun w s => s.drop.drop.drop) hle6 ⟨rfl, _, rfl, LgV.nil _⟩
      subst he
      repeat (first|refine zJ rfl rfl ?_|refine jr rfl ?_|refine jn ?_|refine zM rfl rfl ?_|(refine zC rfl rfl ?_ rfl ?_;omega)|(refine zD rfl rfl ?_ rfl ?_;omega)|(refine zP rfl ?_ rfl ?_;omega)|refine zG rfl rfl rfl rfl ?_|(refine jdq rfl rfl ?_ ?_ ?_;kernel_rfl;kernel_rfl)|refine zB rfl rfl rfl (by repeat constructor) rfl ?_|refine zH .here rfl rfl rfl rfl ?_|refine zH (.there .here) rfl rfl rfl rfl ?_|refine zH (.there (.there .here)) rfl rfl rfl rfl ?_)
      refine oS (ev_load_agg (cs := lgC S T (.slice aL (lettersR bs j).1.length cL) (.slice aO (outsR bs i).1.length cO)) rfl rfl (Rdb.ofB (n := 0) (.there .here) rfl) rfl) rfl ?_
      have sc := Right_spec (S, T, (lettersR bs j).1, (outsR bs i).1, ()) (lgC S T (.slice aL (lettersR bs j).1.length cL) (.slice aO (outsR bs i).1.length cO)) G1 ⟨_, _, rfl, rowL3, rowO⟩ (by dsimp only; omega) (by dsimp only; omega) hall
      cases hr : rightL (S, T, (lettersR bs j).1, (outsR bs i).1, ()) with
      | false =>
        rw [hr] at sc
        rw [if_neg (fun h => by cases h.2)]
        refine oP (sc) Try.call24 rfl rfl ?_
        repeat (first|refine zJ rfl rfl ?_|refine jr rfl ?_|refine jn ?_|refine zM rfl rfl ?_|(refine zC rfl rfl ?_ rfl ?_;omega)|(refine zD rfl rfl ?_ rfl ?_;omega)|(refine zP rfl ?_ rfl ?_;omega)|refine zG rfl rfl rfl rfl ?_|(refine jdq rfl rfl ?_ ?_ ?_;kernel_rfl;kernel_rfl)|refine zB rfl rfl rfl (by repeat constructor) rfl ?_|refine zH .here rfl rfl rfl rfl ?_|refine zH (.there .here) rfl rfl rfl rfl ?_|refine zH (.there (.there .here)) rfl rfl rfl rfl ?_)
        refine oN (ev_store (b := b2) (off := 0) rfl rfl .agg rfl rfl (lay_all (vs := zLg) (zs := zLg) rfl) zLg_ones (.there (.there .here))) rfl ?_
        rintro _ _ _ _ ⟨rfl, _, rfl⟩
        repeat (first|refine zJ rfl rfl ?_|refine jr rfl ?_|refine jn ?_|refine zM rfl rfl ?_|(refine zC rfl rfl ?_ rfl ?_;omega)|(refine zD rfl rfl ?_ rfl ?_;omega)|(refine zP rfl ?_ rfl ?_;omega)|refine zG rfl rfl rfl rfl ?_|(refine jdq rfl rfl ?_ ?_ ?_;kernel_rfl;kernel_rfl)|refine zB rfl rfl rfl (by repeat constructor) rfl ?_|refine zH .here rfl rfl rfl rfl ?_|refine zH (.there .here) rfl rfl rfl rfl ?_|refine zH (.there (.there .here)) rfl rfl rfl rfl ?_)
        exact J_retv (vs := [.agg zLg.toArray, .bool false]) rfl (.agg rfl rfl (Rdb.ofB (n := 0) (.there (.there .here)) rfl) rfl (.tmp rfl .nil)) [] (fun w s => s.drop.drop.drop) hle6 ⟨rfl, _, rfl, LgV.nil _⟩
      | true =>
        rw [hr] at sc
        rw [if_pos ⟨rfl, rfl⟩]
        refine oP (sc) Try.call24 rfl rfl ?_
        repeat (first|refine zJ rfl rfl ?_|refine jr rfl ?_|refine jn ?_|refine zM rfl rfl ?_|(refine zC rfl rfl ?_ rfl ?_;omega)|(refine zD rfl rfl ?_ rfl ?_;omega)|(refine zP rfl ?_ rfl ?_;omega)|refine zG rfl rfl rfl rfl ?_|(refine jdq rfl rfl ?_ ?_ ?_;kernel_rfl;kernel_rfl)|refine zB rfl rfl rfl (by repeat constructor) rfl ?_|refine zH .here rfl rfl rfl rfl ?_|refine zH (.there .here) rfl rfl rfl rfl ?_|refine zH (.there (.there .here)) rfl rfl rfl rfl ?_)
        refine oS (ev_load_agg (cs := lgC S T (.slice aL (lettersR bs j).1.length cL) (.slice aO (outsR bs i).1.length cO)) rfl rfl (Rdb.ofB (n := 0) (.there .here) rfl) rfl) rfl ?_
        refine oN (ev_store (b := b2) (off := 0) rfl rfl .agg rfl rfl (lay_all (zs := zLg) rfl) lgC_ones (.there (.there .here))) rfl ?_
        rintro _ _ _ _ ⟨rfl, _, rfl⟩
        repeat (first|refine zJ rfl rfl ?_|refine jr rfl ?_|refine jn ?_|refine zM rfl rfl ?_|(refine zC rfl rfl ?_ rfl ?_;omega)|(refine zD rfl rfl ?_ rfl ?_;omega)|(refine zP rfl ?_ rfl ?_;omega)|refine zG rfl rfl rfl rfl ?_|(refine jdq rfl rfl ?_ ?_ ?_;kernel_rfl;kernel_rfl)|refine zB rfl rfl rfl (by repeat constructor) rfl ?_|refine zH .here rfl rfl rfl rfl ?_|refine zH (.there .here) rfl rfl rfl rfl ?_|refine zH (.there (.there .here)) rfl rfl rfl rfl ?_)
        exact J_retv (vs := [.agg (lgC S T (.slice aL (lettersR bs j).1.length cL) (.slice aO (outsR bs i).1.length cO)).toArray, .bool true]) rfl (.agg rfl rfl (Rdb.ofB (n := 0) (.there (.there .here)) rfl) rfl (.tmp rfl .nil)) [] (fun w s => s.drop.drop.drop) hle6 ⟨rfl, _, rfl, _, _, rfl, rowL3, rowO⟩
end Go.Proofs.Ytifdlhafcfbeaaa
