/-
  Proposals read, by the program and by the document. Conditions are typed with each. (Printed by wip/gen/ef.py.)
  A proposal's bytes tell it: plain laws; what comes in. Conditions are typed with each.
-/
import Derived.Test.YtaggonhgafggkaaEd
import Derived.Test.YtaggonhgafggkaaVf
namespace Go.Proofs.Ytaggonhgafggkaa
open Go.RowKit
set_option maxRecDepth 100000
structure Pr where
  view : Int
  seq : Int
  es : List Et
def Pr.zero : Pr := ⟨0, 0, []⟩
def prC (x y : Int) (v : Value) : List Value := [.int .i64 x, .int .i64 y, v]
abbrev zPr : List Value := prC 0 0 (.slice none 0 0)
theorem ones_pr (x y : Int) (a : Option Addr) (n c : Nat) : Ones (prC x y (.slice a n c)) := by unfold prC; (repeat (first | exact ones_nil | refine ones_cons rfl ?_))
theorem ones_zPr : Ones zPr := ones_pr 0 0 none 0 0
def PrR (m : Int) (bs : List UInt8) : Int × Int × List UInt8 × Int × List UInt8 :=
  let r1 := numR 0 bs 8
  let r2 := numR r1.2.1 r1.2.2 8
  let r3 := rowR r2.2.1 r2.2.2 m
  (iN r1.1, iN r2.1, r3)
def prM (m : Int) (bs : List UInt8) (n : Int) : Pr × Int :=
  if endR (PrR m bs).2.2.2.1 (PrR m bs).2.2.2.2 ≠ 0 ∨ (batchP (PrR m bs).2.2.1 n).2 = 2 then (Pr.zero, 2)
  else if (viewB (PrR m bs).1 && viewB (PrR m bs).2.1) = false then (Pr.zero, 5)
  else if (batchP (PrR m bs).2.2.1 n).2 ≠ 0 then (Pr.zero, (batchP (PrR m bs).2.2.1 n).2)
  else (⟨(PrR m bs).1, (PrR m bs).2.1, (batchP (PrR m bs).2.2.1 n).1⟩, 0)
def prP (bs : List UInt8) (n : Int) : Pr × Int := if n < 1 ∨ 7 < n then (Pr.zero, 1) else prM bs.length bs n
theorem prM_most {bs : List UInt8} {m m' : Int} (h : bs.length ≤ m) (h' : bs.length ≤ m') (n : Int) : prM m bs n = prM m' bs n := by
  have n1 := numR_rest 0 bs 8
  have key : PrR m bs = PrR m' bs ∨ ((PrR m bs).2.2.2.1 ≠ 0 ∧ (PrR m' bs).2.2.2.1 ≠ 0) := by
    unfold PrR
    dsimp only
    generalize numR 0 bs 8 = r1 at *
    have n2 := numR_rest r1.2.1 r1.2.2 8
    generalize numR r1.2.1 r1.2.2 8 = r2 at *
    rcases rowR_most (e := r2.2.1) (bs := r2.2.2) (m := m) (m' := m') (by omega) (by omega) with e | ⟨e1, e2⟩
    · left; rw [e]
    · right; exact ⟨e1, e2⟩
  unfold prM
  rcases key with e | ⟨e1, e2⟩
  · rw [e]
  · rw [if_pos (.inl (endR_bad e1 _)), if_pos (.inl (endR_bad e2 _))]
def PrQ (r : Pr × Int) (u : Value) (F' : PH) (H' : List Asrt) : Prop := H' = [] ∧ ∃ v, u = .tuple #[.agg (prC r.1.view r.1.seq v).toArray, .int .i64 r.2] ∧ Ents F' v r.1.es
theorem PrQ_none (e : Int) (F : PH) : PrQ (Pr.zero, e) (.tuple #[.agg zPr.toArray, .int .i64 e]) F [] := ⟨rfl, .slice none 0 0, rfl, Ents.nil F⟩
set_option maxHeartbeats 32000000 in
theorem parseProposal_spec (v : Value) (bs : List UInt8) (n : Int) (F : PH) (h : Byt F v bs) (hl : bs.length ≤ 1048576) :
    Spec Try.prog 22 [v, .int .i64 n] F [] (PrQ (prP bs n)) := by
  obtain ⟨a, c, rfl, hc⟩ := h.form
  refine Spec.of2 Try.func22 rfl rfl fun X w0 => ?_
  have hFF := PH.ler F
  refine jc rfl rfl ?_
  refine jr rfl ?_
  refine oE (ev_alloc (cs := zPr) rfl) rfl ?_
  rintro _ _ _ _ ⟨rfl, b4, rfl, rfl⟩
  unfold prP
  repeat (first|refine zJ rfl rfl ?_|refine jr rfl ?_|refine jn ?_|refine zM rfl rfl ?_|(refine zC rfl rfl ?_ rfl ?_;omega)|(refine zD rfl rfl ?_ rfl ?_;omega)|(refine zP rfl ?_ rfl ?_;omega)|refine zG rfl rfl rfl rfl ?_|(refine jdq rfl rfl ?_ ?_ ?_;kernel_rfl;kernel_rfl)|refine zB rfl rfl rfl (by repeat constructor) rfl ?_|refine zH .here rfl rfl rfl rfl ?_|refine zH (.there .here) rfl rfl rfl rfl ?_|refine zH (.there (.there .here)) rfl rfl rfl rfl ?_)
  have hod := odd_spec n F
  by_cases hn : n < 1 ∨ 7 < n
  · rw [if_pos hn]
    rw [decide_eq_true hn] at hod
    refine oP (hod) Try.call53 rfl rfl ?_
    repeat (first|refine zJ rfl rfl ?_|refine jr rfl ?_|refine jn ?_|refine zM rfl rfl ?_|(refine zC rfl rfl ?_ rfl ?_;omega)|(refine zD rfl rfl ?_ rfl ?_;omega)|(refine zP rfl ?_ rfl ?_;omega)|refine zG rfl rfl rfl rfl ?_|(refine jdq rfl rfl ?_ ?_ ?_;kernel_rfl;kernel_rfl)|refine zB rfl rfl rfl (by repeat constructor) rfl ?_|refine zH .here rfl rfl rfl rfl ?_|refine zH (.there .here) rfl rfl rfl rfl ?_|refine zH (.there (.there .here)) rfl rfl rfl rfl ?_)
    refine oN (ev_store (b := b4) rfl rfl .agg rfl rfl (lay_all (zs := zPr) rfl) ones_zPr .here) rfl ?_
    rintro _ _ _ _ ⟨rfl, _, rfl⟩
    repeat (first|refine zJ rfl rfl ?_|refine jr rfl ?_|refine jn ?_|refine zM rfl rfl ?_|(refine zC rfl rfl ?_ rfl ?_;omega)|(refine zD rfl rfl ?_ rfl ?_;omega)|(refine zP rfl ?_ rfl ?_;omega)|refine zG rfl rfl rfl rfl ?_|(refine jdq rfl rfl ?_ ?_ ?_;kernel_rfl;kernel_rfl)|refine zB rfl rfl rfl (by repeat constructor) rfl ?_|refine zH .here rfl rfl rfl rfl ?_|refine zH (.there .here) rfl rfl rfl rfl ?_|refine zH (.there (.there .here)) rfl rfl rfl rfl ?_)
    exact J_retv (vs := [.agg (zPr).toArray, .int .i64 1]) rfl (.agg rfl rfl (Rdb.ofB (n := 0) .here rfl) rfl (.tmp rfl .nil)) [] (fun w s => s.drop) hFF (PrQ_none 1 F)
  rw [if_neg hn]
  have hn1 : ¬ n < 1 := fun h => hn (.inl h)
  have hn7 : ¬ 7 < n := fun h => hn (.inr h)
  rw [decide_eq_false hn] at hod
  refine oP (hod) Try.call53 rfl rfl ?_
  repeat (first|refine zJ rfl rfl ?_|refine jr rfl ?_|refine jn ?_|refine zM rfl rfl ?_|(refine zC rfl rfl ?_ rfl ?_;omega)|(refine zD rfl rfl ?_ rfl ?_;omega)|(refine zP rfl ?_ rfl ?_;omega)|refine zG rfl rfl rfl rfl ?_|(refine jdq rfl rfl ?_ ?_ ?_;kernel_rfl;kernel_rfl)|refine zB rfl rfl rfl (by repeat constructor) rfl ?_|refine zH .here rfl rfl rfl rfl ?_|refine zH (.there .here) rfl rfl rfl rfl ?_|refine zH (.there (.there .here)) rfl rfl rfl rfl ?_)
  refine oC (Hc := []) (Hr := blk b4 46 zPr :: X) (read_spec _ bs F h (by omega)) Try.call47 rfl rfl (fun _ s => s) ?_
  rintro _ F0 _ hF0 ⟨br, v0, rfl, hv0, rfl⟩
  repeat (first|refine zJ rfl rfl ?_|refine jr rfl ?_|refine jn ?_|refine zM rfl rfl ?_|(refine zC rfl rfl ?_ rfl ?_;omega)|(refine zD rfl rfl ?_ rfl ?_;omega)|(refine zP rfl ?_ rfl ?_;omega)|refine zG rfl rfl rfl rfl ?_|(refine jdq rfl rfl ?_ ?_ ?_;kernel_rfl;kernel_rfl)|refine zB rfl rfl rfl (by repeat constructor) rfl ?_|refine zH .here rfl rfl rfl rfl ?_|refine zH (.there .here) rfl rfl rfl rfl ?_|refine zH (.there (.there .here)) rfl rfl rfl rfl ?_)
  refine oC (Hc := [rdr br (v0) (0)]) (Hr := blk b4 46 zPr :: X) (num_spec br (v0) (0) (bs) F0 hv0 (by omega)) Try.call48 rfl rfl (fun _ s => s) ?_; rintro _ F1 _ hF1 ⟨v1, rfl, hv1, rfl⟩; have n1 := numR_rest (0) (bs) 8; generalize hr1 : numR (0) (bs) 8 = r1 at *
  repeat (first|refine zJ rfl rfl ?_|refine jr rfl ?_|refine jn ?_|refine zM rfl rfl ?_|(refine zC rfl rfl ?_ rfl ?_;omega)|(refine zD rfl rfl ?_ rfl ?_;omega)|(refine zP rfl ?_ rfl ?_;omega)|refine zG rfl rfl rfl rfl ?_|(refine jdq rfl rfl ?_ ?_ ?_;kernel_rfl;kernel_rfl)|refine zB rfl rfl rfl (by repeat constructor) rfl ?_|refine zH .here rfl rfl rfl rfl ?_|refine zH (.there .here) rfl rfl rfl rfl ?_|refine zH (.there (.there .here)) rfl rfl rfl rfl ?_)
  refine oC (Hc := [rdr br (v1) (r1.2.1)]) (Hr := blk b4 46 zPr :: X) (num_spec br (v1) (r1.2.1) (r1.2.2) F1 hv1 (by omega)) Try.call48 rfl rfl (fun _ s => s) ?_; rintro _ F2 _ hF2 ⟨v2, rfl, hv2, rfl⟩; have n2 := numR_rest (r1.2.1) (r1.2.2) 8; generalize hr2 : numR (r1.2.1) (r1.2.2) 8 = r2 at *
  repeat (first|refine zJ rfl rfl ?_|refine jr rfl ?_|refine jn ?_|refine zM rfl rfl ?_|(refine zC rfl rfl ?_ rfl ?_;omega)|(refine zD rfl rfl ?_ rfl ?_;omega)|(refine zP rfl ?_ rfl ?_;omega)|refine zG rfl rfl rfl rfl ?_|(refine jdq rfl rfl ?_ ?_ ?_;kernel_rfl;kernel_rfl)|refine zB rfl rfl rfl (by repeat constructor) rfl ?_|refine zH .here rfl rfl rfl rfl ?_|refine zH (.there .here) rfl rfl rfl rfl ?_|refine zH (.there (.there .here)) rfl rfl rfl rfl ?_)
  refine oE (ev_alloc (cs := zPr) rfl) rfl ?_
  rintro _ _ _ _ ⟨rfl, b5, rfl, rfl⟩
  refine oN (ev_store (b := b5) rfl rfl .agg rfl rfl (lay_all (zs := zPr) rfl) (ones_pr (iN r1.1) (iN r2.1) none 0 0) .here) rfl ?_
  rintro _ _ _ _ ⟨rfl, _, rfl⟩
  repeat (first|refine zJ rfl rfl ?_|refine jr rfl ?_|refine jn ?_|refine zM rfl rfl ?_|(refine zC rfl rfl ?_ rfl ?_;omega)|(refine zD rfl rfl ?_ rfl ?_;omega)|(refine zP rfl ?_ rfl ?_;omega)|refine zG rfl rfl rfl rfl ?_|(refine jdq rfl rfl ?_ ?_ ?_;kernel_rfl;kernel_rfl)|refine zB rfl rfl rfl (by repeat constructor) rfl ?_|refine zH .here rfl rfl rfl rfl ?_|refine zH (.there .here) rfl rfl rfl rfl ?_|refine zH (.there (.there .here)) rfl rfl rfl rfl ?_)
  refine oC (Hc := [rdr br v2 r2.2.1]) (Hr := blk b5 46 (prC (iN r1.1) (iN r2.1) (.slice none 0 0)) :: blk b4 46 zPr :: X) (rrow_spec br v2 r2.2.1 bs.length r2.2.2 F2 hv2 (by omega)) Try.call64 rfl rfl (fun _ s => s.pick (.there .here)) ?_
  rintro u3 F3 _ hF3 ⟨v3, hu3, hv3, rfl⟩
  have n3 := rowR_rest' r2.2.1 r2.2.2 bs.length
  have l3 := rowR_short r2.2.1 r2.2.2 bs.length
  have hx : PrR bs.length bs = (iN r1.1, iN r2.1, rowR r2.2.1 r2.2.2 bs.length) := by unfold PrR; dsimp only; rw [hr1, hr2]
  generalize hr3 : rowR r2.2.1 r2.2.2 bs.length = r3 at *
  obtain ⟨a3, c3, rfl, hc3⟩ := hu3.form
  repeat (first|refine zJ rfl rfl ?_|refine jr rfl ?_|refine jn ?_|refine zM rfl rfl ?_|(refine zC rfl rfl ?_ rfl ?_;omega)|(refine zD rfl rfl ?_ rfl ?_;omega)|(refine zP rfl ?_ rfl ?_;omega)|refine zG rfl rfl rfl rfl ?_|(refine jdq rfl rfl ?_ ?_ ?_;kernel_rfl;kernel_rfl)|refine zB rfl rfl rfl (by repeat constructor) rfl ?_|refine zH .here rfl rfl rfl rfl ?_|refine zH (.there .here) rfl rfl rfl rfl ?_|refine zH (.there (.there .here)) rfl rfl rfl rfl ?_)
  refine oC (Hc := []) (Hr := rdr br v3 r3.2.1 :: blk b5 46 (prC (iN r1.1) (iN r2.1) (.slice none 0 0)) :: blk b4 46 zPr :: X) (bparse_spec _ r3.1 n F3 hu3 (by omega)) Try.call63 rfl rfl (fun _ s => s) ?_
  rintro _ F4 _ hF4 ⟨rfl, vb, rfl, hvb⟩
  replace hFF := hF0.trans (hF1.trans (hF2.trans (hF3.trans hF4)))
  unfold prM
  rw [hx]
  dsimp only
  generalize batchP r3.1 n = q at *
  obtain ⟨es, e4⟩ := q
  dsimp only at *
  obtain ⟨ab, cb, rfl, hcb⟩ := hvb.form
  repeat (first|refine zJ rfl rfl ?_|refine jr rfl ?_|refine jn ?_|refine zM rfl rfl ?_|(refine zC rfl rfl ?_ rfl ?_;omega)|(refine zD rfl rfl ?_ rfl ?_;omega)|(refine zP rfl ?_ rfl ?_;omega)|refine zG rfl rfl rfl rfl ?_|(refine jdq rfl rfl ?_ ?_ ?_;kernel_rfl;kernel_rfl)|refine zB rfl rfl rfl (by repeat constructor) rfl ?_|refine zH .here rfl rfl rfl rfl ?_|refine zH (.there .here) rfl rfl rfl rfl ?_|refine zH (.there (.there .here)) rfl rfl rfl rfl ?_)
  refine oC (Hc := [rdr br v3 r3.2.1]) (Hr := blk b5 46 (prC (iN r1.1) (iN r2.1) (.slice none 0 0)) :: blk b4 46 zPr :: X) (end_spec br v3 r3.2.1 r3.2.2 F4 (hv3.mono hF4)) Try.call50 rfl rfl (fun _ s => s) ?_
  rintro _ _ _ _ ⟨rfl, rfl, rfl⟩
  by_cases he : endR r3.2.1 r3.2.2 = 0
  · by_cases h2 : e4 = 2
    · rw [if_pos (.inr h2)]
      repeat (first|refine zJ rfl rfl ?_|refine jr rfl ?_|refine jn ?_|refine zM rfl rfl ?_|(refine zC rfl rfl ?_ rfl ?_;omega)|(refine zD rfl rfl ?_ rfl ?_;omega)|(refine zP rfl ?_ rfl ?_;omega)|refine zG rfl rfl rfl rfl ?_|(refine jdq rfl rfl ?_ ?_ ?_;kernel_rfl;kernel_rfl)|refine zB rfl rfl rfl (by repeat constructor) rfl ?_|refine zH .here rfl rfl rfl rfl ?_|refine zH (.there .here) rfl rfl rfl rfl ?_|refine zH (.there (.there .here)) rfl rfl rfl rfl ?_)
      refine oN (ev_store (b := b4) rfl rfl .agg rfl rfl (lay_all (zs := zPr) rfl) ones_zPr (.there (.there .here))) rfl ?_
      rintro _ _ _ _ ⟨rfl, _, rfl⟩
      repeat (first|refine zJ rfl rfl ?_|refine jr rfl ?_|refine jn ?_|refine zM rfl rfl ?_|(refine zC rfl rfl ?_ rfl ?_;omega)|(refine zD rfl rfl ?_ rfl ?_;omega)|(refine zP rfl ?_ rfl ?_;omega)|refine zG rfl rfl rfl rfl ?_|(refine jdq rfl rfl ?_ ?_ ?_;kernel_rfl;kernel_rfl)|refine zB rfl rfl rfl (by repeat constructor) rfl ?_|refine zH .here rfl rfl rfl rfl ?_|refine zH (.there .here) rfl rfl rfl rfl ?_|refine zH (.there (.there .here)) rfl rfl rfl rfl ?_)
      exact J_retv (vs := [.agg (zPr).toArray, .int .i64 2]) rfl (.agg rfl rfl (Rdb.ofB (n := 0) (.there (.there .here)) rfl) rfl (.tmp rfl .nil)) [] (fun w s => s.drop.drop.drop) hFF (PrQ_none 2 F4)
    · rw [if_neg (fun h => h.elim (fun h => h he) h2)]
      have hs1 := view_spec (iN r1.1) F4
      have hs2 := seq_spec (iN r2.1) F4
      cases hb1 : viewB (iN r1.1) with
      | false =>
        rw [hb1] at hs1
        rw [if_pos (by simp)]
        repeat (first|refine zJ rfl rfl ?_|refine jr rfl ?_|refine jn ?_|refine zM rfl rfl ?_|(refine zC rfl rfl ?_ rfl ?_;omega)|(refine zD rfl rfl ?_ rfl ?_;omega)|(refine zP rfl ?_ rfl ?_;omega)|refine zG rfl rfl rfl rfl ?_|(refine jdq rfl rfl ?_ ?_ ?_;kernel_rfl;kernel_rfl)|refine zB rfl rfl rfl (by repeat constructor) rfl ?_|refine zH .here rfl rfl rfl rfl ?_|refine zH (.there .here) rfl rfl rfl rfl ?_|refine zH (.there (.there .here)) rfl rfl rfl rfl ?_)
        refine oP (hs1) Try.call51 rfl rfl ?_
        repeat (first|refine zJ rfl rfl ?_|refine jr rfl ?_|refine jn ?_|refine zM rfl rfl ?_|(refine zC rfl rfl ?_ rfl ?_;omega)|(refine zD rfl rfl ?_ rfl ?_;omega)|(refine zP rfl ?_ rfl ?_;omega)|refine zG rfl rfl rfl rfl ?_|(refine jdq rfl rfl ?_ ?_ ?_;kernel_rfl;kernel_rfl)|refine zB rfl rfl rfl (by repeat constructor) rfl ?_|refine zH .here rfl rfl rfl rfl ?_|refine zH (.there .here) rfl rfl rfl rfl ?_|refine zH (.there (.there .here)) rfl rfl rfl rfl ?_)
        refine oN (ev_store (b := b4) rfl rfl .agg rfl rfl (lay_all (zs := zPr) rfl) ones_zPr (.there (.there .here))) rfl ?_
        rintro _ _ _ _ ⟨rfl, _, rfl⟩
        repeat (first|refine zJ rfl rfl ?_|refine jr rfl ?_|refine jn ?_|refine zM rfl rfl ?_|(refine zC rfl rfl ?_ rfl ?_;omega)|(refine zD rfl rfl ?_ rfl ?_;omega)|(refine zP rfl ?_ rfl ?_;omega)|refine zG rfl rfl rfl rfl ?_|(refine jdq rfl rfl ?_ ?_ ?_;kernel_rfl;kernel_rfl)|refine zB rfl rfl rfl (by repeat constructor) rfl ?_|refine zH .here rfl rfl rfl rfl ?_|refine zH (.there .here) rfl rfl rfl rfl ?_|refine zH (.there (.there .here)) rfl rfl rfl rfl ?_)
        exact J_retv (vs := [.agg (zPr).toArray, .int .i64 5]) rfl (.agg rfl rfl (Rdb.ofB (n := 0) (.there (.there .here)) rfl) rfl (.tmp rfl .nil)) [] (fun w s => s.drop.drop.drop) hFF (PrQ_none 5 F4)
      | true =>
        rw [hb1] at hs1
        cases hb2 : viewB (iN r2.1) with
        | false =>
          rw [hb2] at hs2
          rw [if_pos (by simp)]
          repeat (first|refine zJ rfl rfl ?_|refine jr rfl ?_|refine jn ?_|refine zM rfl rfl ?_|(refine zC rfl rfl ?_ rfl ?_;omega)|(refine zD rfl rfl ?_ rfl ?_;omega)|(refine zP rfl ?_ rfl ?_;omega)|refine zG rfl rfl rfl rfl ?_|(refine jdq rfl rfl ?_ ?_ ?_;kernel_rfl;kernel_rfl)|refine zB rfl rfl rfl (by repeat constructor) rfl ?_|refine zH .here rfl rfl rfl rfl ?_|refine zH (.there .here) rfl rfl rfl rfl ?_|refine zH (.there (.there .here)) rfl rfl rfl rfl ?_)
          refine oP (hs1) Try.call51 rfl rfl ?_
          repeat (first|refine zJ rfl rfl ?_|refine jr rfl ?_|refine jn ?_|refine zM rfl rfl ?_|(refine zC rfl rfl ?_ rfl ?_;omega)|(refine zD rfl rfl ?_ rfl ?_;omega)|(refine zP rfl ?_ rfl ?_;omega)|refine zG rfl rfl rfl rfl ?_|(refine jdq rfl rfl ?_ ?_ ?_;kernel_rfl;kernel_rfl)|refine zB rfl rfl rfl (by repeat constructor) rfl ?_|refine zH .here rfl rfl rfl rfl ?_|refine zH (.there .here) rfl rfl rfl rfl ?_|refine zH (.there (.there .here)) rfl rfl rfl rfl ?_)
          refine oP (hs2) Try.call52 rfl rfl ?_
          repeat (first|refine zJ rfl rfl ?_|refine jr rfl ?_|refine jn ?_|refine zM rfl rfl ?_|(refine zC rfl rfl ?_ rfl ?_;omega)|(refine zD rfl rfl ?_ rfl ?_;omega)|(refine zP rfl ?_ rfl ?_;omega)|refine zG rfl rfl rfl rfl ?_|(refine jdq rfl rfl ?_ ?_ ?_;kernel_rfl;kernel_rfl)|refine zB rfl rfl rfl (by repeat constructor) rfl ?_|refine zH .here rfl rfl rfl rfl ?_|refine zH (.there .here) rfl rfl rfl rfl ?_|refine zH (.there (.there .here)) rfl rfl rfl rfl ?_)
          refine oN (ev_store (b := b4) rfl rfl .agg rfl rfl (lay_all (zs := zPr) rfl) ones_zPr (.there (.there .here))) rfl ?_
          rintro _ _ _ _ ⟨rfl, _, rfl⟩
          repeat (first|refine zJ rfl rfl ?_|refine jr rfl ?_|refine jn ?_|refine zM rfl rfl ?_|(refine zC rfl rfl ?_ rfl ?_;omega)|(refine zD rfl rfl ?_ rfl ?_;omega)|(refine zP rfl ?_ rfl ?_;omega)|refine zG rfl rfl rfl rfl ?_|(refine jdq rfl rfl ?_ ?_ ?_;kernel_rfl;kernel_rfl)|refine zB rfl rfl rfl (by repeat constructor) rfl ?_|refine zH .here rfl rfl rfl rfl ?_|refine zH (.there .here) rfl rfl rfl rfl ?_|refine zH (.there (.there .here)) rfl rfl rfl rfl ?_)
          exact J_retv (vs := [.agg (zPr).toArray, .int .i64 5]) rfl (.agg rfl rfl (Rdb.ofB (n := 0) (.there (.there .here)) rfl) rfl (.tmp rfl .nil)) [] (fun w s => s.drop.drop.drop) hFF (PrQ_none 5 F4)
        | true =>
          rw [hb2] at hs2
          rw [if_neg (by simp)]
          by_cases h0 : e4 = 0
          · rw [if_neg (fun h => h h0)]
            repeat (first|refine zJ rfl rfl ?_|refine jr rfl ?_|refine jn ?_|refine zM rfl rfl ?_|(refine zC rfl rfl ?_ rfl ?_;omega)|(refine zD rfl rfl ?_ rfl ?_;omega)|(refine zP rfl ?_ rfl ?_;omega)|refine zG rfl rfl rfl rfl ?_|(refine jdq rfl rfl ?_ ?_ ?_;kernel_rfl;kernel_rfl)|refine zB rfl rfl rfl (by repeat constructor) rfl ?_|refine zH .here rfl rfl rfl rfl ?_|refine zH (.there .here) rfl rfl rfl rfl ?_|refine zH (.there (.there .here)) rfl rfl rfl rfl ?_)
            refine oP (hs1) Try.call51 rfl rfl ?_
            repeat (first|refine zJ rfl rfl ?_|refine jr rfl ?_|refine jn ?_|refine zM rfl rfl ?_|(refine zC rfl rfl ?_ rfl ?_;omega)|(refine zD rfl rfl ?_ rfl ?_;omega)|(refine zP rfl ?_ rfl ?_;omega)|refine zG rfl rfl rfl rfl ?_|(refine jdq rfl rfl ?_ ?_ ?_;kernel_rfl;kernel_rfl)|refine zB rfl rfl rfl (by repeat constructor) rfl ?_|refine zH .here rfl rfl rfl rfl ?_|refine zH (.there .here) rfl rfl rfl rfl ?_|refine zH (.there (.there .here)) rfl rfl rfl rfl ?_)
            refine oP (hs2) Try.call52 rfl rfl ?_
            repeat (first|refine zJ rfl rfl ?_|refine jr rfl ?_|refine jn ?_|refine zM rfl rfl ?_|(refine zC rfl rfl ?_ rfl ?_;omega)|(refine zD rfl rfl ?_ rfl ?_;omega)|(refine zP rfl ?_ rfl ?_;omega)|refine zG rfl rfl rfl rfl ?_|(refine jdq rfl rfl ?_ ?_ ?_;kernel_rfl;kernel_rfl)|refine zB rfl rfl rfl (by repeat constructor) rfl ?_|refine zH .here rfl rfl rfl rfl ?_|refine zH (.there .here) rfl rfl rfl rfl ?_|refine zH (.there (.there .here)) rfl rfl rfl rfl ?_)
            refine oN (ev_store (b := b5) rfl rfl .slice rfl rfl (.skip (.skip (.put .nil))) (ones_cons rfl ones_nil) (.there .here)) rfl ?_
            rintro _ _ _ _ ⟨rfl, _, rfl⟩
            repeat (first|refine zJ rfl rfl ?_|refine jr rfl ?_|refine jn ?_|refine zM rfl rfl ?_|(refine zC rfl rfl ?_ rfl ?_;omega)|(refine zD rfl rfl ?_ rfl ?_;omega)|(refine zP rfl ?_ rfl ?_;omega)|refine zG rfl rfl rfl rfl ?_|(refine jdq rfl rfl ?_ ?_ ?_;kernel_rfl;kernel_rfl)|refine zB rfl rfl rfl (by repeat constructor) rfl ?_|refine zH .here rfl rfl rfl rfl ?_|refine zH (.there .here) rfl rfl rfl rfl ?_|refine zH (.there (.there .here)) rfl rfl rfl rfl ?_)
            refine oS (ev_load_agg (cs := prC (iN r1.1) (iN r2.1) (.slice ab es.length cb)) rfl rfl (Rdb.ofB (n := 0) (.there .here) rfl) rfl) rfl ?_
            refine oN (ev_store (b := b4) rfl rfl .agg rfl rfl (lay_all (zs := zPr) rfl) (ones_pr _ _ _ _ _) (.there (.there .here))) rfl ?_
            rintro _ _ _ _ ⟨rfl, _, rfl⟩
            repeat (first|refine zJ rfl rfl ?_|refine jr rfl ?_|refine jn ?_|refine zM rfl rfl ?_|(refine zC rfl rfl ?_ rfl ?_;omega)|(refine zD rfl rfl ?_ rfl ?_;omega)|(refine zP rfl ?_ rfl ?_;omega)|refine zG rfl rfl rfl rfl ?_|(refine jdq rfl rfl ?_ ?_ ?_;kernel_rfl;kernel_rfl)|refine zB rfl rfl rfl (by repeat constructor) rfl ?_|refine zH .here rfl rfl rfl rfl ?_|refine zH (.there .here) rfl rfl rfl rfl ?_|refine zH (.there (.there .here)) rfl rfl rfl rfl ?_)
            exact J_retv (vs := [.agg (prC (iN r1.1) (iN r2.1) (.slice ab es.length cb)).toArray, .int .i64 0]) rfl (.agg rfl rfl (Rdb.ofB (n := 0) (.there (.there .here)) rfl) rfl (.tmp rfl .nil)) [] (fun w s => s.drop.drop.drop) hFF ⟨rfl, _, rfl, hvb⟩
          · rw [if_pos h0]
            repeat (first|refine zJ rfl rfl ?_|refine jr rfl ?_|refine jn ?_|refine zM rfl rfl ?_|(refine zC rfl rfl ?_ rfl ?_;omega)|(refine zD rfl rfl ?_ rfl ?_;omega)|(refine zP rfl ?_ rfl ?_;omega)|refine zG rfl rfl rfl rfl ?_|(refine jdq rfl rfl ?_ ?_ ?_;kernel_rfl;kernel_rfl)|refine zB rfl rfl rfl (by repeat constructor) rfl ?_|refine zH .here rfl rfl rfl rfl ?_|refine zH (.there .here) rfl rfl rfl rfl ?_|refine zH (.there (.there .here)) rfl rfl rfl rfl ?_)
            refine oP (hs1) Try.call51 rfl rfl ?_
            repeat (first|refine zJ rfl rfl ?_|refine jr rfl ?_|refine jn ?_|refine zM rfl rfl ?_|(refine zC rfl rfl ?_ rfl ?_;omega)|(refine zD rfl rfl ?_ rfl ?_;omega)|(refine zP rfl ?_ rfl ?_;omega)|refine zG rfl rfl rfl rfl ?_|(refine jdq rfl rfl ?_ ?_ ?_;kernel_rfl;kernel_rfl)|refine zB rfl rfl rfl (by repeat constructor) rfl ?_|refine zH .here rfl rfl rfl rfl ?_|refine zH (.there .here) rfl rfl rfl rfl ?_|refine zH (.there (.there .here)) rfl rfl rfl rfl ?_)
            refine oP (hs2) Try.call52 rfl rfl ?_
            repeat (first|refine zJ rfl rfl ?_|refine jr rfl ?_|refine jn ?_|refine zM rfl rfl ?_|(refine zC rfl rfl ?_ rfl ?_;omega)|(refine zD rfl rfl ?_ rfl ?_;omega)|(refine zP rfl ?_ rfl ?_;omega)|refine zG rfl rfl rfl rfl ?_|(refine jdq rfl rfl ?_ ?_ ?_;kernel_rfl;kernel_rfl)|refine zB rfl rfl rfl (by repeat constructor) rfl ?_|refine zH .here rfl rfl rfl rfl ?_|refine zH (.there .here) rfl rfl rfl rfl ?_|refine zH (.there (.there .here)) rfl rfl rfl rfl ?_)
            refine oN (ev_store (b := b4) rfl rfl .agg rfl rfl (lay_all (zs := zPr) rfl) ones_zPr (.there (.there .here))) rfl ?_
            rintro _ _ _ _ ⟨rfl, _, rfl⟩
            repeat (first|refine zJ rfl rfl ?_|refine jr rfl ?_|refine jn ?_|refine zM rfl rfl ?_|(refine zC rfl rfl ?_ rfl ?_;omega)|(refine zD rfl rfl ?_ rfl ?_;omega)|(refine zP rfl ?_ rfl ?_;omega)|refine zG rfl rfl rfl rfl ?_|(refine jdq rfl rfl ?_ ?_ ?_;kernel_rfl;kernel_rfl)|refine zB rfl rfl rfl (by repeat constructor) rfl ?_|refine zH .here rfl rfl rfl rfl ?_|refine zH (.there .here) rfl rfl rfl rfl ?_|refine zH (.there (.there .here)) rfl rfl rfl rfl ?_)
            exact J_retv (vs := [.agg (zPr).toArray, .int .i64 e4]) rfl (.agg rfl rfl (Rdb.ofB (n := 0) (.there (.there .here)) rfl) rfl (.tmp rfl .nil)) [] (fun w s => s.drop.drop.drop) hFF (PrQ_none e4 F4)
  · rw [if_pos (.inl he)]
    repeat (first|refine zJ rfl rfl ?_|refine jr rfl ?_|refine jn ?_|refine zM rfl rfl ?_|(refine zC rfl rfl ?_ rfl ?_;omega)|(refine zD rfl rfl ?_ rfl ?_;omega)|(refine zP rfl ?_ rfl ?_;omega)|refine zG rfl rfl rfl rfl ?_|(refine jdq rfl rfl ?_ ?_ ?_;kernel_rfl;kernel_rfl)|refine zB rfl rfl rfl (by repeat constructor) rfl ?_|refine zH .here rfl rfl rfl rfl ?_|refine zH (.there .here) rfl rfl rfl rfl ?_|refine zH (.there (.there .here)) rfl rfl rfl rfl ?_)
    refine oN (ev_store (b := b4) rfl rfl .agg rfl rfl (lay_all (zs := zPr) rfl) ones_zPr (.there (.there .here))) rfl ?_
    rintro _ _ _ _ ⟨rfl, _, rfl⟩
    repeat (first|refine zJ rfl rfl ?_|refine jr rfl ?_|refine jn ?_|refine zM rfl rfl ?_|(refine zC rfl rfl ?_ rfl ?_;omega)|(refine zD rfl rfl ?_ rfl ?_;omega)|(refine zP rfl ?_ rfl ?_;omega)|refine zG rfl rfl rfl rfl ?_|(refine jdq rfl rfl ?_ ?_ ?_;kernel_rfl;kernel_rfl)|refine zB rfl rfl rfl (by repeat constructor) rfl ?_|refine zH .here rfl rfl rfl rfl ?_|refine zH (.there .here) rfl rfl rfl rfl ?_|refine zH (.there (.there .here)) rfl rfl rfl rfl ?_)
    exact J_retv (vs := [.agg (zPr).toArray, .int .i64 2]) rfl (.agg rfl rfl (Rdb.ofB (n := 0) (.there (.there .here)) rfl) rfl (.tmp rfl .nil)) [] (fun w s => s.drop.drop.drop) hFF (PrQ_none 2 F4)
set_option maxHeartbeats 32000000 in
theorem ParseProposal_spec (v : Value) (bs : List UInt8) (n : Int) (F : PH) (h : Byt F v bs) (hl : bs.length ≤ 1048576) :
    Spec Try.prog 23 [v, .int .i64 n] F [] (PrQ (prP bs n)) := by
  obtain ⟨a, c, rfl, hc⟩ := h.form
  refine Spec.of2 Try.func23 rfl rfl fun X w0 => ?_
  have hFF := PH.ler F
  refine jc rfl rfl ?_
  refine jr rfl ?_
  refine oE (ev_alloc (cs := zPr) rfl) rfl ?_
  rintro _ _ _ _ ⟨rfl, b4, rfl, rfl⟩
  unfold prP
  by_cases hn : n < 1 ∨ 7 < n
  · rw [if_pos hn]
    by_cases h1 : n < 1
    · repeat (first|refine zJ rfl rfl ?_|refine jr rfl ?_|refine jn ?_|refine zM rfl rfl ?_|(refine zC rfl rfl ?_ rfl ?_;omega)|(refine zD rfl rfl ?_ rfl ?_;omega)|(refine zP rfl ?_ rfl ?_;omega)|refine zG rfl rfl rfl rfl ?_|(refine jdq rfl rfl ?_ ?_ ?_;kernel_rfl;kernel_rfl)|refine zB rfl rfl rfl (by repeat constructor) rfl ?_|refine zH .here rfl rfl rfl rfl ?_|refine zH (.there .here) rfl rfl rfl rfl ?_|refine zH (.there (.there .here)) rfl rfl rfl rfl ?_)
      refine oN (ev_store (b := b4) rfl rfl .agg rfl rfl (lay_all (zs := zPr) rfl) ones_zPr .here) rfl ?_
      rintro _ _ _ _ ⟨rfl, _, rfl⟩
      repeat (first|refine zJ rfl rfl ?_|refine jr rfl ?_|refine jn ?_|refine zM rfl rfl ?_|(refine zC rfl rfl ?_ rfl ?_;omega)|(refine zD rfl rfl ?_ rfl ?_;omega)|(refine zP rfl ?_ rfl ?_;omega)|refine zG rfl rfl rfl rfl ?_|(refine jdq rfl rfl ?_ ?_ ?_;kernel_rfl;kernel_rfl)|refine zB rfl rfl rfl (by repeat constructor) rfl ?_|refine zH .here rfl rfl rfl rfl ?_|refine zH (.there .here) rfl rfl rfl rfl ?_|refine zH (.there (.there .here)) rfl rfl rfl rfl ?_)
      exact J_retv (vs := [.agg (zPr).toArray, .int .i64 1]) rfl (.agg rfl rfl (Rdb.ofB (n := 0) .here rfl) rfl (.tmp rfl .nil)) [] (fun w s => s.drop) hFF (PrQ_none 1 F)
    · have h7 : 7 < n := hn.resolve_left h1
      repeat (first|refine zJ rfl rfl ?_|refine jr rfl ?_|refine jn ?_|refine zM rfl rfl ?_|(refine zC rfl rfl ?_ rfl ?_;omega)|(refine zD rfl rfl ?_ rfl ?_;omega)|(refine zP rfl ?_ rfl ?_;omega)|refine zG rfl rfl rfl rfl ?_|(refine jdq rfl rfl ?_ ?_ ?_;kernel_rfl;kernel_rfl)|refine zB rfl rfl rfl (by repeat constructor) rfl ?_|refine zH .here rfl rfl rfl rfl ?_|refine zH (.there .here) rfl rfl rfl rfl ?_|refine zH (.there (.there .here)) rfl rfl rfl rfl ?_)
      refine oN (ev_store (b := b4) rfl rfl .agg rfl rfl (lay_all (zs := zPr) rfl) ones_zPr .here) rfl ?_
      rintro _ _ _ _ ⟨rfl, _, rfl⟩
      repeat (first|refine zJ rfl rfl ?_|refine jr rfl ?_|refine jn ?_|refine zM rfl rfl ?_|(refine zC rfl rfl ?_ rfl ?_;omega)|(refine zD rfl rfl ?_ rfl ?_;omega)|(refine zP rfl ?_ rfl ?_;omega)|refine zG rfl rfl rfl rfl ?_|(refine jdq rfl rfl ?_ ?_ ?_;kernel_rfl;kernel_rfl)|refine zB rfl rfl rfl (by repeat constructor) rfl ?_|refine zH .here rfl rfl rfl rfl ?_|refine zH (.there .here) rfl rfl rfl rfl ?_|refine zH (.there (.there .here)) rfl rfl rfl rfl ?_)
      exact J_retv (vs := [.agg (zPr).toArray, .int .i64 1]) rfl (.agg rfl rfl (Rdb.ofB (n := 0) .here rfl) rfl (.tmp rfl .nil)) [] (fun w s => s.drop) hFF (PrQ_none 1 F)
  rw [if_neg hn]
  have hn1 : ¬ n < 1 := fun h => hn (.inl h)
  have hn7 : ¬ 7 < n := fun h => hn (.inr h)
  rw [prM_most (m := bs.length) (m' := 1048576) (by omega) (by omega)]
  repeat (first|refine zJ rfl rfl ?_|refine jr rfl ?_|refine jn ?_|refine zM rfl rfl ?_|(refine zC rfl rfl ?_ rfl ?_;omega)|(refine zD rfl rfl ?_ rfl ?_;omega)|(refine zP rfl ?_ rfl ?_;omega)|refine zG rfl rfl rfl rfl ?_|(refine jdq rfl rfl ?_ ?_ ?_;kernel_rfl;kernel_rfl)|refine zB rfl rfl rfl (by repeat constructor) rfl ?_|refine zH .here rfl rfl rfl rfl ?_|refine zH (.there .here) rfl rfl rfl rfl ?_|refine zH (.there (.there .here)) rfl rfl rfl rfl ?_)
  refine oE (ev_box rfl .agg) rfl ?_
  rintro _ _ _ _ ⟨rfl, br, rfl, rfl⟩
  repeat (first|refine zJ rfl rfl ?_|refine jr rfl ?_|refine jn ?_|refine zM rfl rfl ?_|(refine zC rfl rfl ?_ rfl ?_;omega)|(refine zD rfl rfl ?_ rfl ?_;omega)|(refine zP rfl ?_ rfl ?_;omega)|refine zG rfl rfl rfl rfl ?_|(refine jdq rfl rfl ?_ ?_ ?_;kernel_rfl;kernel_rfl)|refine zB rfl rfl rfl (by repeat constructor) rfl ?_|refine zH .here rfl rfl rfl rfl ?_|refine zH (.there .here) rfl rfl rfl rfl ?_|refine zH (.there (.there .here)) rfl rfl rfl rfl ?_)
  refine oC (Hc := [Rdr br (.slice a bs.length c) (0)]) (Hr := blk b4 46 zPr :: X) (Number_spec br (.slice a bs.length c) (0) 8 (bs) F h (by omega)) Try.call57 rfl rfl (fun _ s => s) ?_; rintro _ F1 _ hF1 ⟨v1, rfl, hv1, rfl⟩; have n1 := numR_rest (0) (bs) 8; generalize hr1 : numR (0) (bs) 8 = r1 at * 
  repeat (first|refine zJ rfl rfl ?_|refine jr rfl ?_|refine jn ?_|refine zM rfl rfl ?_|(refine zC rfl rfl ?_ rfl ?_;omega)|(refine zD rfl rfl ?_ rfl ?_;omega)|(refine zP rfl ?_ rfl ?_;omega)|refine zG rfl rfl rfl rfl ?_|(refine jdq rfl rfl ?_ ?_ ?_;kernel_rfl;kernel_rfl)|refine zB rfl rfl rfl (by repeat constructor) rfl ?_|refine zH .here rfl rfl rfl rfl ?_|refine zH (.there .here) rfl rfl rfl rfl ?_|refine zH (.there (.there .here)) rfl rfl rfl rfl ?_) 
  refine oS (ev_conv rfl rfl rfl (iN_wrap _)) rfl ?_
  repeat (first|refine zJ rfl rfl ?_|refine jr rfl ?_|refine jn ?_|refine zM rfl rfl ?_|(refine zC rfl rfl ?_ rfl ?_;omega)|(refine zD rfl rfl ?_ rfl ?_;omega)|(refine zP rfl ?_ rfl ?_;omega)|refine zG rfl rfl rfl rfl ?_|(refine jdq rfl rfl ?_ ?_ ?_;kernel_rfl;kernel_rfl)|refine zB rfl rfl rfl (by repeat constructor) rfl ?_|refine zH .here rfl rfl rfl rfl ?_|refine zH (.there .here) rfl rfl rfl rfl ?_|refine zH (.there (.there .here)) rfl rfl rfl rfl ?_)
  refine oC (Hc := [Rdr br (v1) (r1.2.1)]) (Hr := blk b4 46 zPr :: X) (Number_spec br (v1) (r1.2.1) 8 (r1.2.2) F1 hv1 (by omega)) Try.call57 rfl rfl (fun _ s => s) ?_; rintro _ F2 _ hF2 ⟨v2, rfl, hv2, rfl⟩; have n2 := numR_rest (r1.2.1) (r1.2.2) 8; generalize hr2 : numR (r1.2.1) (r1.2.2) 8 = r2 at * 
  repeat (first|refine zJ rfl rfl ?_|refine jr rfl ?_|refine jn ?_|refine zM rfl rfl ?_|(refine zC rfl rfl ?_ rfl ?_;omega)|(refine zD rfl rfl ?_ rfl ?_;omega)|(refine zP rfl ?_ rfl ?_;omega)|refine zG rfl rfl rfl rfl ?_|(refine jdq rfl rfl ?_ ?_ ?_;kernel_rfl;kernel_rfl)|refine zB rfl rfl rfl (by repeat constructor) rfl ?_|refine zH .here rfl rfl rfl rfl ?_|refine zH (.there .here) rfl rfl rfl rfl ?_|refine zH (.there (.there .here)) rfl rfl rfl rfl ?_) 
  refine oS (ev_conv rfl rfl rfl (iN_wrap _)) rfl ?_
  repeat (first|refine zJ rfl rfl ?_|refine jr rfl ?_|refine jn ?_|refine zM rfl rfl ?_|(refine zC rfl rfl ?_ rfl ?_;omega)|(refine zD rfl rfl ?_ rfl ?_;omega)|(refine zP rfl ?_ rfl ?_;omega)|refine zG rfl rfl rfl rfl ?_|(refine jdq rfl rfl ?_ ?_ ?_;kernel_rfl;kernel_rfl)|refine zB rfl rfl rfl (by repeat constructor) rfl ?_|refine zH .here rfl rfl rfl rfl ?_|refine zH (.there .here) rfl rfl rfl rfl ?_|refine zH (.there (.there .here)) rfl rfl rfl rfl ?_)
  refine oE (ev_alloc (cs := zPr) rfl) rfl ?_
  rintro _ _ _ _ ⟨rfl, b5, rfl, rfl⟩
  refine oN (ev_store (b := b5) rfl rfl .agg rfl rfl (lay_all (zs := zPr) rfl) (ones_pr (iN r1.1) (iN r2.1) none 0 0) .here) rfl ?_
  rintro _ _ _ _ ⟨rfl, _, rfl⟩
  repeat (first|refine zJ rfl rfl ?_|refine jr rfl ?_|refine jn ?_|refine zM rfl rfl ?_|(refine zC rfl rfl ?_ rfl ?_;omega)|(refine zD rfl rfl ?_ rfl ?_;omega)|(refine zP rfl ?_ rfl ?_;omega)|refine zG rfl rfl rfl rfl ?_|(refine jdq rfl rfl ?_ ?_ ?_;kernel_rfl;kernel_rfl)|refine zB rfl rfl rfl (by repeat constructor) rfl ?_|refine zH .here rfl rfl rfl rfl ?_|refine zH (.there .here) rfl rfl rfl rfl ?_|refine zH (.there (.there .here)) rfl rfl rfl rfl ?_)
  refine oC (Hc := [Rdr br v2 r2.2.1]) (Hr := blk b5 46 (prC (iN r1.1) (iN r2.1) (.slice none 0 0)) :: blk b4 46 zPr :: X) (RRow_spec br v2 r2.2.1 1048576 r2.2.2 F2 hv2 (by omega) (by decide)) Try.call65 rfl rfl (fun _ s => s.pick (.there .here)) ?_
  rintro u3 F3 _ hF3 ⟨v3, hu3, hv3, rfl⟩
  have n3 := rowR_rest' r2.2.1 r2.2.2 1048576
  have l3 := rowR_short r2.2.1 r2.2.2 1048576
  have hx : PrR 1048576 bs = (iN r1.1, iN r2.1, rowR r2.2.1 r2.2.2 1048576) := by unfold PrR; dsimp only; rw [hr1, hr2]
  generalize hr3 : rowR r2.2.1 r2.2.2 1048576 = r3 at *
  obtain ⟨a3, c3, rfl, hc3⟩ := hu3.form
  repeat (first|refine zJ rfl rfl ?_|refine jr rfl ?_|refine jn ?_|refine zM rfl rfl ?_|(refine zC rfl rfl ?_ rfl ?_;omega)|(refine zD rfl rfl ?_ rfl ?_;omega)|(refine zP rfl ?_ rfl ?_;omega)|refine zG rfl rfl rfl rfl ?_|(refine jdq rfl rfl ?_ ?_ ?_;kernel_rfl;kernel_rfl)|refine zB rfl rfl rfl (by repeat constructor) rfl ?_|refine zH .here rfl rfl rfl rfl ?_|refine zH (.there .here) rfl rfl rfl rfl ?_|refine zH (.there (.there .here)) rfl rfl rfl rfl ?_)
  refine oC (Hc := []) (Hr := Rdr br v3 r3.2.1 :: blk b5 46 (prC (iN r1.1) (iN r2.1) (.slice none 0 0)) :: blk b4 46 zPr :: X) (BParse_spec _ r3.1 n F3 hu3 (by omega)) Try.call66 rfl rfl (fun _ s => s) ?_
  rintro _ F4 _ hF4 ⟨rfl, vb, rfl, hvb⟩
  replace hFF := hF1.trans (hF2.trans (hF3.trans hF4))
  unfold prM
  rw [hx]
  dsimp only
  generalize batchP r3.1 n = q at *
  obtain ⟨es, e4⟩ := q
  dsimp only at *
  obtain ⟨ab, cb, rfl, hcb⟩ := hvb.form
  repeat (first|refine zJ rfl rfl ?_|refine jr rfl ?_|refine jn ?_|refine zM rfl rfl ?_|(refine zC rfl rfl ?_ rfl ?_;omega)|(refine zD rfl rfl ?_ rfl ?_;omega)|(refine zP rfl ?_ rfl ?_;omega)|refine zG rfl rfl rfl rfl ?_|(refine jdq rfl rfl ?_ ?_ ?_;kernel_rfl;kernel_rfl)|refine zB rfl rfl rfl (by repeat constructor) rfl ?_|refine zH .here rfl rfl rfl rfl ?_|refine zH (.there .here) rfl rfl rfl rfl ?_|refine zH (.there (.there .here)) rfl rfl rfl rfl ?_)
  refine oC (Hc := [Rdr br v3 r3.2.1]) (Hr := blk b5 46 (prC (iN r1.1) (iN r2.1) (.slice none 0 0)) :: blk b4 46 zPr :: X) (End_spec br v3 r3.2.1 r3.2.2 F4 (hv3.mono hF4)) Try.call59 rfl rfl (fun _ s => s) ?_
  rintro _ _ _ _ ⟨rfl, rfl, rfl⟩
  by_cases he : endR r3.2.1 r3.2.2 = 0
  · by_cases h2 : e4 = 2
    · rw [if_pos (.inr h2)]
      repeat (first|refine zJ rfl rfl ?_|refine jr rfl ?_|refine jn ?_|refine zM rfl rfl ?_|(refine zC rfl rfl ?_ rfl ?_;omega)|(refine zD rfl rfl ?_ rfl ?_;omega)|(refine zP rfl ?_ rfl ?_;omega)|refine zG rfl rfl rfl rfl ?_|(refine jdq rfl rfl ?_ ?_ ?_;kernel_rfl;kernel_rfl)|refine zB rfl rfl rfl (by repeat constructor) rfl ?_|refine zH .here rfl rfl rfl rfl ?_|refine zH (.there .here) rfl rfl rfl rfl ?_|refine zH (.there (.there .here)) rfl rfl rfl rfl ?_)
      refine oN (ev_store (b := b4) rfl rfl .agg rfl rfl (lay_all (zs := zPr) rfl) ones_zPr (.there (.there .here))) rfl ?_
      rintro _ _ _ _ ⟨rfl, _, rfl⟩
      repeat (first|refine zJ rfl rfl ?_|refine jr rfl ?_|refine jn ?_|refine zM rfl rfl ?_|(refine zC rfl rfl ?_ rfl ?_;omega)|(refine zD rfl rfl ?_ rfl ?_;omega)|(refine zP rfl ?_ rfl ?_;omega)|refine zG rfl rfl rfl rfl ?_|(refine jdq rfl rfl ?_ ?_ ?_;kernel_rfl;kernel_rfl)|refine zB rfl rfl rfl (by repeat constructor) rfl ?_|refine zH .here rfl rfl rfl rfl ?_|refine zH (.there .here) rfl rfl rfl rfl ?_|refine zH (.there (.there .here)) rfl rfl rfl rfl ?_)
      exact J_retv (vs := [.agg (zPr).toArray, .int .i64 2]) rfl (.agg rfl rfl (Rdb.ofB (n := 0) (.there (.there .here)) rfl) rfl (.tmp rfl .nil)) [] (fun w s => s.drop.drop.drop) hFF (PrQ_none 2 F4)
    · rw [if_neg (fun h => h.elim (fun h => h he) h2)]
      have hs1 := View_spec (iN r1.1) F4
      have hs2 := Seq_spec (iN r2.1) F4
      cases hb1 : viewB (iN r1.1) with
      | false =>
        rw [hb1] at hs1
        rw [if_pos (by simp)]
        repeat (first|refine zJ rfl rfl ?_|refine jr rfl ?_|refine jn ?_|refine zM rfl rfl ?_|(refine zC rfl rfl ?_ rfl ?_;omega)|(refine zD rfl rfl ?_ rfl ?_;omega)|(refine zP rfl ?_ rfl ?_;omega)|refine zG rfl rfl rfl rfl ?_|(refine jdq rfl rfl ?_ ?_ ?_;kernel_rfl;kernel_rfl)|refine zB rfl rfl rfl (by repeat constructor) rfl ?_|refine zH .here rfl rfl rfl rfl ?_|refine zH (.there .here) rfl rfl rfl rfl ?_|refine zH (.there (.there .here)) rfl rfl rfl rfl ?_)
        refine oP (hs1) Try.call28 rfl rfl ?_
        repeat (first|refine zJ rfl rfl ?_|refine jr rfl ?_|refine jn ?_|refine zM rfl rfl ?_|(refine zC rfl rfl ?_ rfl ?_;omega)|(refine zD rfl rfl ?_ rfl ?_;omega)|(refine zP rfl ?_ rfl ?_;omega)|refine zG rfl rfl rfl rfl ?_|(refine jdq rfl rfl ?_ ?_ ?_;kernel_rfl;kernel_rfl)|refine zB rfl rfl rfl (by repeat constructor) rfl ?_|refine zH .here rfl rfl rfl rfl ?_|refine zH (.there .here) rfl rfl rfl rfl ?_|refine zH (.there (.there .here)) rfl rfl rfl rfl ?_)
        refine oN (ev_store (b := b4) rfl rfl .agg rfl rfl (lay_all (zs := zPr) rfl) ones_zPr (.there (.there .here))) rfl ?_
        rintro _ _ _ _ ⟨rfl, _, rfl⟩
        repeat (first|refine zJ rfl rfl ?_|refine jr rfl ?_|refine jn ?_|refine zM rfl rfl ?_|(refine zC rfl rfl ?_ rfl ?_;omega)|(refine zD rfl rfl ?_ rfl ?_;omega)|(refine zP rfl ?_ rfl ?_;omega)|refine zG rfl rfl rfl rfl ?_|(refine jdq rfl rfl ?_ ?_ ?_;kernel_rfl;kernel_rfl)|refine zB rfl rfl rfl (by repeat constructor) rfl ?_|refine zH .here rfl rfl rfl rfl ?_|refine zH (.there .here) rfl rfl rfl rfl ?_|refine zH (.there (.there .here)) rfl rfl rfl rfl ?_)
        exact J_retv (vs := [.agg (zPr).toArray, .int .i64 5]) rfl (.agg rfl rfl (Rdb.ofB (n := 0) (.there (.there .here)) rfl) rfl (.tmp rfl .nil)) [] (fun w s => s.drop.drop.drop) hFF (PrQ_none 5 F4)
      | true =>
        rw [hb1] at hs1
        cases hb2 : viewB (iN r2.1) with
        | false =>
          rw [hb2] at hs2
          rw [if_pos (by simp)]
          repeat (first|refine zJ rfl rfl ?_|refine jr rfl ?_|refine jn ?_|refine zM rfl rfl ?_|(refine zC rfl rfl ?_ rfl ?_;omega)|(refine zD rfl rfl ?_ rfl ?_;omega)|(refine zP rfl ?_ rfl ?_;omega)|refine zG rfl rfl rfl rfl ?_|(refine jdq rfl rfl ?_ ?_ ?_;kernel_rfl;kernel_rfl)|refine zB rfl rfl rfl (by repeat constructor) rfl ?_|refine zH .here rfl rfl rfl rfl ?_|refine zH (.there .here) rfl rfl rfl rfl ?_|refine zH (.there (.there .here)) rfl rfl rfl rfl ?_)
          refine oP (hs1) Try.call28 rfl rfl ?_
          repeat (first|refine zJ rfl rfl ?_|refine jr rfl ?_|refine jn ?_|refine zM rfl rfl ?_|(refine zC rfl rfl ?_ rfl ?_;omega)|(refine zD rfl rfl ?_ rfl ?_;omega)|(refine zP rfl ?_ rfl ?_;omega)|refine zG rfl rfl rfl rfl ?_|(refine jdq rfl rfl ?_ ?_ ?_;kernel_rfl;kernel_rfl)|refine zB rfl rfl rfl (by repeat constructor) rfl ?_|refine zH .here rfl rfl rfl rfl ?_|refine zH (.there .here) rfl rfl rfl rfl ?_|refine zH (.there (.there .here)) rfl rfl rfl rfl ?_)
          refine oP (hs2) Try.call29 rfl rfl ?_
          repeat (first|refine zJ rfl rfl ?_|refine jr rfl ?_|refine jn ?_|refine zM rfl rfl ?_|(refine zC rfl rfl ?_ rfl ?_;omega)|(refine zD rfl rfl ?_ rfl ?_;omega)|(refine zP rfl ?_ rfl ?_;omega)|refine zG rfl rfl rfl rfl ?_|(refine jdq rfl rfl ?_ ?_ ?_;kernel_rfl;kernel_rfl)|refine zB rfl rfl rfl (by repeat constructor) rfl ?_|refine zH .here rfl rfl rfl rfl ?_|refine zH (.there .here) rfl rfl rfl rfl ?_|refine zH (.there (.there .here)) rfl rfl rfl rfl ?_)
          refine oN (ev_store (b := b4) rfl rfl .agg rfl rfl (lay_all (zs := zPr) rfl) ones_zPr (.there (.there .here))) rfl ?_
          rintro _ _ _ _ ⟨rfl, _, rfl⟩
          repeat (first|refine zJ rfl rfl ?_|refine jr rfl ?_|refine jn ?_|refine zM rfl rfl ?_|(refine zC rfl rfl ?_ rfl ?_;omega)|(refine zD rfl rfl ?_ rfl ?_;omega)|(refine zP rfl ?_ rfl ?_;omega)|refine zG rfl rfl rfl rfl ?_|(refine jdq rfl rfl ?_ ?_ ?_;kernel_rfl;kernel_rfl)|refine zB rfl rfl rfl (by repeat constructor) rfl ?_|refine zH .here rfl rfl rfl rfl ?_|refine zH (.there .here) rfl rfl rfl rfl ?_|refine zH (.there (.there .here)) rfl rfl rfl rfl ?_)
          exact J_retv (vs := [.agg (zPr).toArray, .int .i64 5]) rfl (.agg rfl rfl (Rdb.ofB (n := 0) (.there (.there .here)) rfl) rfl (.tmp rfl .nil)) [] (fun w s => s.drop.drop.drop) hFF (PrQ_none 5 F4)
        | true =>
          rw [hb2] at hs2
          rw [if_neg (by simp)]
          by_cases h0 : e4 = 0
          · rw [if_neg (fun h => h h0)]
            repeat (first|refine zJ rfl rfl ?_|refine jr rfl ?_|refine jn ?_|refine zM rfl rfl ?_|(refine zC rfl rfl ?_ rfl ?_;omega)|(refine zD rfl rfl ?_ rfl ?_;omega)|(refine zP rfl ?_ rfl ?_;omega)|refine zG rfl rfl rfl rfl ?_|(refine jdq rfl rfl ?_ ?_ ?_;kernel_rfl;kernel_rfl)|refine zB rfl rfl rfl (by repeat constructor) rfl ?_|refine zH .here rfl rfl rfl rfl ?_|refine zH (.there .here) rfl rfl rfl rfl ?_|refine zH (.there (.there .here)) rfl rfl rfl rfl ?_)
            refine oP (hs1) Try.call28 rfl rfl ?_
            repeat (first|refine zJ rfl rfl ?_|refine jr rfl ?_|refine jn ?_|refine zM rfl rfl ?_|(refine zC rfl rfl ?_ rfl ?_;omega)|(refine zD rfl rfl ?_ rfl ?_;omega)|(refine zP rfl ?_ rfl ?_;omega)|refine zG rfl rfl rfl rfl ?_|(refine jdq rfl rfl ?_ ?_ ?_;kernel_rfl;kernel_rfl)|refine zB rfl rfl rfl (by repeat constructor) rfl ?_|refine zH .here rfl rfl rfl rfl ?_|refine zH (.there .here) rfl rfl rfl rfl ?_|refine zH (.there (.there .here)) rfl rfl rfl rfl ?_)
            refine oP (hs2) Try.call29 rfl rfl ?_
            repeat (first|refine zJ rfl rfl ?_|refine jr rfl ?_|refine jn ?_|refine zM rfl rfl ?_|(refine zC rfl rfl ?_ rfl ?_;omega)|(refine zD rfl rfl ?_ rfl ?_;omega)|(refine zP rfl ?_ rfl ?_;omega)|refine zG rfl rfl rfl rfl ?_|(refine jdq rfl rfl ?_ ?_ ?_;kernel_rfl;kernel_rfl)|refine zB rfl rfl rfl (by repeat constructor) rfl ?_|refine zH .here rfl rfl rfl rfl ?_|refine zH (.there .here) rfl rfl rfl rfl ?_|refine zH (.there (.there .here)) rfl rfl rfl rfl ?_)
            refine oN (ev_store (b := b5) rfl rfl .slice rfl rfl (.skip (.skip (.put .nil))) (ones_cons rfl ones_nil) (.there .here)) rfl ?_
            rintro _ _ _ _ ⟨rfl, _, rfl⟩
            repeat (first|refine zJ rfl rfl ?_|refine jr rfl ?_|refine jn ?_|refine zM rfl rfl ?_|(refine zC rfl rfl ?_ rfl ?_;omega)|(refine zD rfl rfl ?_ rfl ?_;omega)|(refine zP rfl ?_ rfl ?_;omega)|refine zG rfl rfl rfl rfl ?_|(refine jdq rfl rfl ?_ ?_ ?_;kernel_rfl;kernel_rfl)|refine zB rfl rfl rfl (by repeat constructor) rfl ?_|refine zH .here rfl rfl rfl rfl ?_|refine zH (.there .here) rfl rfl rfl rfl ?_|refine zH (.there (.there .here)) rfl rfl rfl rfl ?_)
            refine oS (ev_load_agg (cs := prC (iN r1.1) (iN r2.1) (.slice ab es.length cb)) rfl rfl (Rdb.ofB (n := 0) (.there .here) rfl) rfl) rfl ?_
            refine oN (ev_store (b := b4) rfl rfl .agg rfl rfl (lay_all (zs := zPr) rfl) (ones_pr _ _ _ _ _) (.there (.there .here))) rfl ?_
            rintro _ _ _ _ ⟨rfl, _, rfl⟩
            repeat (first|refine zJ rfl rfl ?_|refine jr rfl ?_|refine jn ?_|refine zM rfl rfl ?_|(refine zC rfl rfl ?_ rfl ?_;omega)|(refine zD rfl rfl ?_ rfl ?_;omega)|(refine zP rfl ?_ rfl ?_;omega)|refine zG rfl rfl rfl rfl ?_|(refine jdq rfl rfl ?_ ?_ ?_;kernel_rfl;kernel_rfl)|refine zB rfl rfl rfl (by repeat constructor) rfl ?_|refine zH .here rfl rfl rfl rfl ?_|refine zH (.there .here) rfl rfl rfl rfl ?_|refine zH (.there (.there .here)) rfl rfl rfl rfl ?_)
            exact J_retv (vs := [.agg (prC (iN r1.1) (iN r2.1) (.slice ab es.length cb)).toArray, .int .i64 0]) rfl (.agg rfl rfl (Rdb.ofB (n := 0) (.there (.there .here)) rfl) rfl (.tmp rfl .nil)) [] (fun w s => s.drop.drop.drop) hFF ⟨rfl, _, rfl, hvb⟩
          · rw [if_pos h0]
            repeat (first|refine zJ rfl rfl ?_|refine jr rfl ?_|refine jn ?_|refine zM rfl rfl ?_|(refine zC rfl rfl ?_ rfl ?_;omega)|(refine zD rfl rfl ?_ rfl ?_;omega)|(refine zP rfl ?_ rfl ?_;omega)|refine zG rfl rfl rfl rfl ?_|(refine jdq rfl rfl ?_ ?_ ?_;kernel_rfl;kernel_rfl)|refine zB rfl rfl rfl (by repeat constructor) rfl ?_|refine zH .here rfl rfl rfl rfl ?_|refine zH (.there .here) rfl rfl rfl rfl ?_|refine zH (.there (.there .here)) rfl rfl rfl rfl ?_)
            refine oP (hs1) Try.call28 rfl rfl ?_
            repeat (first|refine zJ rfl rfl ?_|refine jr rfl ?_|refine jn ?_|refine zM rfl rfl ?_|(refine zC rfl rfl ?_ rfl ?_;omega)|(refine zD rfl rfl ?_ rfl ?_;omega)|(refine zP rfl ?_ rfl ?_;omega)|refine zG rfl rfl rfl rfl ?_|(refine jdq rfl rfl ?_ ?_ ?_;kernel_rfl;kernel_rfl)|refine zB rfl rfl rfl (by repeat constructor) rfl ?_|refine zH .here rfl rfl rfl rfl ?_|refine zH (.there .here) rfl rfl rfl rfl ?_|refine zH (.there (.there .here)) rfl rfl rfl rfl ?_)
            refine oP (hs2) Try.call29 rfl rfl ?_
            repeat (first|refine zJ rfl rfl ?_|refine jr rfl ?_|refine jn ?_|refine zM rfl rfl ?_|(refine zC rfl rfl ?_ rfl ?_;omega)|(refine zD rfl rfl ?_ rfl ?_;omega)|(refine zP rfl ?_ rfl ?_;omega)|refine zG rfl rfl rfl rfl ?_|(refine jdq rfl rfl ?_ ?_ ?_;kernel_rfl;kernel_rfl)|refine zB rfl rfl rfl (by repeat constructor) rfl ?_|refine zH .here rfl rfl rfl rfl ?_|refine zH (.there .here) rfl rfl rfl rfl ?_|refine zH (.there (.there .here)) rfl rfl rfl rfl ?_)
            refine oN (ev_store (b := b4) rfl rfl .agg rfl rfl (lay_all (zs := zPr) rfl) ones_zPr (.there (.there .here))) rfl ?_
            rintro _ _ _ _ ⟨rfl, _, rfl⟩
            repeat (first|refine zJ rfl rfl ?_|refine jr rfl ?_|refine jn ?_|refine zM rfl rfl ?_|(refine zC rfl rfl ?_ rfl ?_;omega)|(refine zD rfl rfl ?_ rfl ?_;omega)|(refine zP rfl ?_ rfl ?_;omega)|refine zG rfl rfl rfl rfl ?_|(refine jdq rfl rfl ?_ ?_ ?_;kernel_rfl;kernel_rfl)|refine zB rfl rfl rfl (by repeat constructor) rfl ?_|refine zH .here rfl rfl rfl rfl ?_|refine zH (.there .here) rfl rfl rfl rfl ?_|refine zH (.there (.there .here)) rfl rfl rfl rfl ?_)
            exact J_retv (vs := [.agg (zPr).toArray, .int .i64 e4]) rfl (.agg rfl rfl (Rdb.ofB (n := 0) (.there (.there .here)) rfl) rfl (.tmp rfl .nil)) [] (fun w s => s.drop.drop.drop) hFF (PrQ_none e4 F4)
  · rw [if_pos (.inl he)]
    repeat (first|refine zJ rfl rfl ?_|refine jr rfl ?_|refine jn ?_|refine zM rfl rfl ?_|(refine zC rfl rfl ?_ rfl ?_;omega)|(refine zD rfl rfl ?_ rfl ?_;omega)|(refine zP rfl ?_ rfl ?_;omega)|refine zG rfl rfl rfl rfl ?_|(refine jdq rfl rfl ?_ ?_ ?_;kernel_rfl;kernel_rfl)|refine zB rfl rfl rfl (by repeat constructor) rfl ?_|refine zH .here rfl rfl rfl rfl ?_|refine zH (.there .here) rfl rfl rfl rfl ?_|refine zH (.there (.there .here)) rfl rfl rfl rfl ?_)
    refine oN (ev_store (b := b4) rfl rfl .agg rfl rfl (lay_all (zs := zPr) rfl) ones_zPr (.there (.there .here))) rfl ?_
    rintro _ _ _ _ ⟨rfl, _, rfl⟩
    repeat (first|refine zJ rfl rfl ?_|refine jr rfl ?_|refine jn ?_|refine zM rfl rfl ?_|(refine zC rfl rfl ?_ rfl ?_;omega)|(refine zD rfl rfl ?_ rfl ?_;omega)|(refine zP rfl ?_ rfl ?_;omega)|refine zG rfl rfl rfl rfl ?_|(refine jdq rfl rfl ?_ ?_ ?_;kernel_rfl;kernel_rfl)|refine zB rfl rfl rfl (by repeat constructor) rfl ?_|refine zH .here rfl rfl rfl rfl ?_|refine zH (.there .here) rfl rfl rfl rfl ?_|refine zH (.there (.there .here)) rfl rfl rfl rfl ?_)
    exact J_retv (vs := [.agg (zPr).toArray, .int .i64 2]) rfl (.agg rfl rfl (Rdb.ofB (n := 0) (.there (.there .here)) rfl) rfl (.tmp rfl .nil)) [] (fun w s => s.drop.drop.drop) hFF (PrQ_none 2 F4)
end Go.Proofs.Ytaggonhgafggkaa
namespace Go.Proofs.Ytaggonhgafggkaa
open Go.RowKit
set_option maxRecDepth 100000
theorem entR_app {e : Et} {m : Int} (hf : e.core.fits) (hm : e.mask < 256) (hl : (e.core.bytes.length : Int) ≤ m) (h32 : e.core.bytes.length < 4294967296) (more : List UInt8) : entR m 0 (etB e ++ more) = (e, true, 0, more) := by
  have hx : etB e ++ more = putB e.core.bytes.length 4 ++ (e.core.bytes ++ (putB e.mask 1 ++ more)) := by unfold etB rowB; simp only [List.append_assoc]
  have hb := e.core.bytes_len
  have hc := coreR_bytes hf (m := (e.core.bytes.length : Int)) (by omega) (by omega) []
  rw [List.append_nil] at hc
  rw [hx]
  unfold entR
  dsimp only
  rw [rowR_put h32 m hl]
  dsimp only
  rw [hc, num1 (by omega)]
  dsimp only
  rw [Nat.mod_eq_of_lt hm]
  rfl
theorem entsR_app {es : List Et} {m : Int} (h : ∀ e ∈ es, e.core.fits ∧ e.mask < 256 ∧ (e.core.bytes.length : Int) ≤ m ∧ e.core.bytes.length < 4294967296) : ∀ j, j ≤ es.length → entsR m 0 (es.flatMap etB) j = (true, es.take j, 0, (es.drop j).flatMap etB) := by
  intro j
  induction j with
  | zero => intro _; rfl
  | succ j ih =>
    intro hj
    have hg : es[j]? = some es[j] := List.getElem?_eq_getElem (by omega)
    obtain ⟨h1, h2, h3, h4⟩ := h es[j] (List.getElem_mem _)
    rw [entsR_succ, ih (by omega)]
    dsimp only
    rw [List.drop_eq_getElem_cons (by omega), List.flatMap_cons, entR_app h1 h2 h3 h4, take_snoc hg]
    rfl
theorem firstE_all {f : Nat → Int} : ∀ {L : Nat}, firstE f L = 0 → ∀ i, i < L → f i = 0
  | 0, _, i, hi => absurd hi (by omega)
  | L + 1, h, i, hi => by
    have hh : (if firstE f L ≠ 0 then firstE f L else f L) = 0 := h
    by_cases h0 : firstE f L = 0
    · rw [if_neg (fun hn => hn h0)] at hh
      by_cases hiL : i < L
      · exact firstE_all h0 i hiL
      · obtain rfl : i = L := by omega
        exact hh
    · rw [if_pos h0] at hh
      exact absurd hh h0
theorem batchErr_le4 {es : List Et} {n : Int} (h : batchErr es n = 0) : es.length ≤ 4 := by
  unfold batchErr at h
  split at h
  · cases h
  · split at h
    · cases h
    · omega
/-- What a batch that may be has. -/
theorem batchErr_ok {es : List Et} {n : Int} (h : batchErr es n = 0) : 1 ≤ n ∧ n ≤ 7 ∧ es.length ≤ 4 ∧ ∀ e ∈ es, e.core.err n = 0 ∧ e.mask < 256 := by
  have h4 := batchErr_le4 h
  unfold batchErr at h
  split at h
  · cases h
  rename_i hn
  split at h
  · cases h
  obtain ⟨m, rfl⟩ : ∃ m : Nat, n = m := ⟨n.toNat, by omega⟩
  rw [Int.toNat_natCast] at h
  refine ⟨by omega, by omega, h4, fun e he => ?_⟩
  obtain ⟨i, hi, rfl⟩ := List.getElem_of_mem he
  have h0 := firstE_all h i hi
  have hg : es[i]? = some es[i] := List.getElem?_eq_getElem hi
  by_cases h1 : es[i].core.err m = 0
  · by_cases h2 : es[i].mask >>> m = 0
    · have h3 := below_iff.1 h2
      have h5 : 2 ^ m ≤ 2 ^ 7 := Nat.pow_le_pow_right (by omega) (by omega)
      exact ⟨h1, Nat.lt_of_lt_of_le h3 (Nat.le_trans h5 (by decide))⟩
    · rw [etErr_m hg h1 h2] at h0
      cases h0
  · rw [etErr_c hg h1] at h0
    exact absurd h0 h1
theorem batchP_bytes {es : List Et} {n : Int} (h : batchErr es n = 0) (hf : ∀ e ∈ es, InK .i64 e.core.a ∧ InK .i64 e.core.b ∧ e.core.letter.length ≤ 1048576) : batchP (batB es) n = (es, 0) := by
  obtain ⟨h1, h7, h4, hall⟩ := batchErr_ok h
  have hn2 : numR 0 (batB es) 2 = (es.length, 0, es.flatMap etB) := by unfold batB; exact num2 (by omega) _
  have hbr : batR (batB es) = (true, es, 0, []) := by
    unfold batR
    rw [hn2]
    dsimp only
    have := entsR_app (es := es) (m := (batB es).length) (fun e he => by
      obtain ⟨g1, g2⟩ := hall e he
      obtain ⟨g3, g4, g5⟩ := hf e he
      have hfit := Cr.fits_of g1 g3 g4 g5
      have hb := e.core.bytes_len
      have h6 := hfit.text
      refine ⟨hfit, g2, ?_, by omega⟩
      obtain ⟨l1, l2, rfl⟩ := List.append_of_mem he
      have h8 := etB_len e
      unfold batB
      simp only [List.flatMap_append, List.flatMap_cons, List.length_append]
      omega) es.length (Nat.le_refl _)
    rw [this, List.take_length, List.drop_length]
    rfl
  unfold batchP
  rw [hbr]
  dsimp only
  rw [if_neg (by unfold endR; simp), if_neg (fun hh => hh h)]
theorem prP_bytes {x y : Int} {es : List Et} {n : Int} (h : batchErr es n = 0) (hf : ∀ e ∈ es, InK .i64 e.core.a ∧ InK .i64 e.core.b ∧ e.core.letter.length ≤ 1048576) (hx : viewB x = true) (hy : viewB y = true) (hl : (batB es).length < 4294967296) : prP (propB x y es) n = (⟨x, y, es⟩, 0) := by
  obtain ⟨h1, h7, _⟩ := batchErr_ok h
  have kx : InK .i64 x := by unfold viewB at hx; have := of_decide_eq_true hx; dsimp only [InK]; omega
  have ky : InK .i64 y := by unfold viewB at hy; have := of_decide_eq_true hy; dsimp only [InK]; omega
  have hb : propB x y es = putB (uN x) 8 ++ (putB (uN y) 8 ++ (putB (batB es).length 4 ++ (batB es ++ []))) := by unfold propB rowB; simp
  have hlen : (propB x y es).length = 20 + (batB es).length := by unfold propB; simp [pl8, rowB_len]; omega
  have hR : PrR (propB x y es).length (propB x y es) = (x, y, batB es, 0, []) := by
    have hm : ((batB es).length : Int) ≤ ((propB x y es).length : Int) := by omega
    generalize ((propB x y es).length : Int) = m at *
    rw [hb]
    unfold PrR
    dsimp only
    rw [num8 (uN_lt _)]
    dsimp only
    rw [num8 (uN_lt _)]
    dsimp only
    rw [rowR_put hl m hm, iN_uN kx, iN_uN ky]
  unfold prP
  rw [if_neg (by omega)]
  unfold prM
  rw [hR]
  dsimp only
  rw [batchP_bytes h hf, if_neg (by unfold endR; simp), hx, hy, if_neg (by simp)]
  rfl
theorem batchErr_len {es : List Et} {n : Int} (h : batchErr es n = 0) : es.length ≤ 4 := by
  unfold batchErr at h
  split at h
  · cases h
  · split at h
    · cases h
    · omega
theorem batchP_len (bs : List UInt8) (n : Int) : (batchP bs n).1.length ≤ 4 := by
  unfold batchP
  split
  · exact Nat.zero_le _
  · split
    · exact Nat.zero_le _
    · rename_i h; exact batchErr_len (by simpa using h)
theorem prP_len (bs : List UInt8) (n : Int) : (prP bs n).1.es.length ≤ 4 := by
  unfold prP
  split
  · exact Nat.zero_le _
  · unfold prM
    split
    · exact Nat.zero_le _
    · split
      · exact Nat.zero_le _
      · split
        · exact Nat.zero_le _
        · exact batchP_len _ _
/-! what comes in -/
def tyEt : Ty Try.prog 54 ((Int × Int × Int × List UInt8 × Int × Int × List UInt8 × Unit) × Int × Unit) := tyStruct Try.underlying54 (fsCons tyCore (fsCons tyU32 (fsNil _) rfl (by kernel_rfl)) rfl (by kernel_rfl)) (by kernel_rfl)
def tyEts : Ty Try.prog 44 (List ((Int × Int × Int × List UInt8 × Int × Int × List UInt8 × Unit) × Int × Unit)) := tySlice tyEt Try.underlying44 (by kernel_rfl) (by decide)
def tyPr : Ty Try.prog 46 (Int × Int × List ((Int × Int × Int × List UInt8 × Int × Int × List UInt8 × Unit) × Int × Unit) × Unit) := tyStruct Try.underlying46 (fsCons tyS64 (fsCons tyS64 (fsCons tyEts (fsNil _) rfl (by kernel_rfl)) rfl (by kernel_rfl)) rfl (by kernel_rfl)) (by kernel_rfl)
def etOf (x : (Int × Int × Int × List UInt8 × Int × Int × List UInt8 × Unit) × Int × Unit) : Et := ⟨crOf x.1, x.2.1.toNat⟩
/-- What is known of an entry that came in. -/
def Et.wide (e : Et) : Prop := e.mask < 4294967296 ∧ InK .i64 e.core.a ∧ InK .i64 e.core.b
theorem et_of {F : PH} {x : (Int × Int × Int × List UInt8 × Int × Int × List UInt8 × Unit) × Int × Unit} {cs : List Value} (h : tyEt.rep F x cs) : cs = (etOf x).cells ∧ (etOf x).wide := by
  obtain ⟨_, _, rfl, hc, _, _, rfl, ⟨rfl, k⟩, rfl⟩ := h
  obtain ⟨rfl, _, _, _, ha, hb, _⟩ := core_of' hc
  dsimp only [InK] at k
  refine ⟨?_, by unfold etOf; dsimp only; omega, ha, hb⟩
  have : ((x.2.1.toNat : Nat) : Int) = x.2.1 := by omega
  simp [Et.cells, etOf, Cr.cells, this]
/-- A row of entries that came in. -/
def EntsW (F : PH) (v : Value) (es : List Et) : Prop := SliceV F 8 v es.length (etCs es) ∧ ∀ e ∈ es, e.wide
theorem EntsW.of {F : PH} {v : Value} {xs : List ((Int × Int × Int × List UInt8 × Int × Int × List UInt8 × Unit) × Int × Unit)} (h : RowV tyEt F v xs) : EntsW F v (xs.map etOf) := by
  obtain ⟨css, h1, h2⟩ := h
  have h3 : css = (xs.map etOf).map Et.cells ∧ ∀ e ∈ xs.map etOf, e.wide := by
    clear h1
    induction h2 with
    | nil => exact ⟨rfl, fun _ h => by cases h⟩
    | cons h _ ih =>
      obtain ⟨rfl, hw⟩ := et_of h
      refine ⟨by rw [ih.1]; rfl, fun e he => ?_⟩
      rw [List.map_cons] at he
      rcases List.mem_cons.1 he with rfl | he
      · exact hw
      · exact ih.2 e he
  obtain ⟨rfl, hw⟩ := h3
  refine ⟨?_, hw⟩
  rw [List.length_map]
  exact h1
theorem EntsW.mono {F G : PH} {v : Value} {es : List Et} (h : EntsW F v es) (hl : F.le G) : EntsW G v es := ⟨SliceV.mono h.1 hl, h.2⟩
theorem EntsW.form {F : PH} {v : Value} {es : List Et} (h : EntsW F v es) : ∃ a c, v = .slice a es.length c ∧ es.length ≤ c := by
  obtain ⟨⟨_, a, c, e, hn, _⟩, _⟩ := h
  exact ⟨a, c, e, hn⟩
theorem EntsW.at {F : PH} {a : Option Addr} {n c i : Nat} {es : List Et} {e : Et} (h : EntsW F (.slice a n c) es) (hi : es[i]? = some e) : ∃ b off, a = some ⟨b, off, none⟩ ∧ Cells F b (off + i * 8) e.cells ∧ i < n := by
  obtain ⟨h1, h2⟩ := h
  have hn : n = es.length := by
    obtain ⟨_, a', c', e, _⟩ := h1
    injection e
  subst hn
  have hlt := (List.getElem?_eq_some_iff.1 hi).1
  obtain ⟨b, off, ha, hcc⟩ := h1.row (et8 es) (i := i) (r := e.cells) (by rw [List.getElem?_map, hi]; rfl) hlt
  exact ⟨b, off, ha, hcc, hlt⟩
theorem EntsW.ents {F : PH} {v : Value} {es : List Et} (h : EntsW F v es) (hs : ∀ e ∈ es, e.core.letter.length ≤ 1048576 ∧ e.core.text.length ≤ 1048576) : Ents F v es := ⟨h.1, fun e he => ⟨(h.2 e he).1, hs e he⟩⟩
theorem pr_of {F : PH} {x : Int × Int × List ((Int × Int × Int × List UInt8 × Int × Int × List UInt8 × Unit) × Int × Unit) × Unit} {cs : List Value} (h : tyPr.rep F x cs) : ∃ (es : List Et) (v : Value), cs = prC x.1 x.2.1 v ∧ EntsW F v es := by
  obtain ⟨_, _, rfl, ⟨rfl, _⟩, _, _, rfl, ⟨rfl, _⟩, _, _, rfl, ⟨v, rfl, hr⟩, rfl⟩ := h
  exact ⟨_, v, rfl, EntsW.of hr⟩
theorem batB_few {es : List Et} (h : ∀ e ∈ es, e.core.letter.length ≤ 100 ∧ e.core.text.length ≤ 300) (hn : es.length ≤ 20) : (batB es).length ≤ 8782 := by
  have := flatMap_len (f := etB) (k := 439) (l := es) fun x hx => by have := h x hx; rw [etB_len]; omega
  have h2 : es.length * 439 ≤ 20 * 439 := Nat.mul_le_mul_right _ hn
  unfold batB
  rw [List.length_append, pl2]
  omega
end Go.Proofs.Ytaggonhgafggkaa
