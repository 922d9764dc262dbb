/-
  Batches read by the document. Conditions are typed with each. (Printed by wip/gen/ed.py.)
  The bytes of batches and of proposals, the program's and the document's; equal batches are the same. Conditions are typed with each. (Printed by wip/gen/ee.py.)
-/
import Derived.Test.YtaggonhgafggkaaEa
import Derived.Test.YtaggonhgafggkaaVa
namespace Go.Proofs.Ytaggonhgafggkaa
open Go.RowKit
set_option maxRecDepth 100000
def BReadQ (br : Nat) (bs : List UInt8) (u : Value) (F' : PH) (H' : List Asrt) : Prop := ∃ (vo : Value) (right : Bool) (v' : Value) (e : Int) (rs : List UInt8) (es : List Et), u = .tuple #[vo, .bool right] ∧ Byt F' v' rs ∧ Ents F' vo es ∧ H' = [Rdr br v' e] ∧
  (right = false → (batR bs).1 = false) ∧ (right = true → (e ≠ 0 ∧ (batR bs).1 = false) ∨ batR bs = (true, es, e, rs))
theorem endR_zero {rs : List UInt8} {e : Int} (h : endR e rs = 0) : e = 0 := by
  unfold endR at h
  split at h
  · rename_i hh; exact hh.1
  · exact h
set_option maxHeartbeats 64000000 in
theorem BRead_spec (br : Nat) (v : Value) (bs : List UInt8) (F : PH) (h : Byt F v bs) (hl : bs.length ≤ 1048576) :
    Spec Try.prog 87 [.pointer (some ⟨br, 0, none⟩)] F [Rdr br v 0] (BReadQ br bs) := by
  obtain ⟨pl, hpl, hfl⟩ := fill_core
  obtain ⟨pe, hpe, hfe⟩ := fill_et
  refine Spec.of1 Try.func87 rfl rfl fun X w0 => ?_
  show J _ _ _ _ (Rdr br _ 0 :: X)
  repeat (first|refine zJ rfl rfl ?_|refine jr rfl ?_|refine jn ?_|refine zM rfl rfl ?_|(refine zC rfl rfl ?_ rfl ?_;omega)|(refine zD rfl rfl ?_ rfl ?_;omega)|(refine zP rfl ?_ rfl ?_;omega)|refine zG rfl rfl rfl rfl ?_|(refine jdq rfl rfl ?_ ?_ ?_;kernel_rfl;kernel_rfl)|refine zB rfl rfl rfl (by repeat constructor) rfl ?_|refine zH .here rfl rfl rfl rfl ?_|refine zH (.there .here) rfl rfl rfl rfl ?_|refine zH (.there (.there .here)) rfl rfl rfl rfl ?_)
  refine oC (Hc := [Rdr br v 0]) (Hr := X) (Number_spec br v 0 2 bs F h (by omega)) Try.call57 rfl rfl (fun _ s => s) ?_
  rintro _ F1 _ hF1 ⟨v1, rfl, hv1, rfl⟩
  have n1 := numR_rest 0 bs 2
  have m1 := numR_lt 0 bs 2
  have hb : batR bs = entsR bs.length (numR 0 bs 2).2.1 (numR 0 bs 2).2.2 (numR 0 bs 2).1 := rfl
  generalize hr1 : numR 0 bs 2 = r1 at *
  replace m1 : r1.1 < 65536 := m1
  repeat (first|refine zJ rfl rfl ?_|refine jr rfl ?_|refine jn ?_|refine zM rfl rfl ?_|(refine zC rfl rfl ?_ rfl ?_;omega)|(refine zD rfl rfl ?_ rfl ?_;omega)|(refine zP rfl ?_ rfl ?_;omega)|refine zG rfl rfl rfl rfl ?_|(refine jdq rfl rfl ?_ ?_ ?_;kernel_rfl;kernel_rfl)|refine zB rfl rfl rfl (by repeat constructor) rfl ?_|refine zH .here rfl rfl rfl rfl ?_|refine zH (.there .here) rfl rfl rfl rfl ?_|refine zH (.there (.there .here)) rfl rfl rfl rfl ?_)
  refine J_own_nil 54 8 ?_
  refine J_loop4 (fun (j : Nat) (t : Value × Value × Bool) (s : List Et × Int × List UInt8) (G : PH) => j ≤ r1.1 ∧ F1.le G ∧ Byt G t.1 s.2.2 ∧ s.2.2.length ≤ bs.length ∧ s.1.length = j ∧ (∀ x ∈ s.1, x.fine) ∧ (t.2.2 = true → entsR bs.length r1.2.1 r1.2.2 j = (true, s)) ∧ (t.2.2 = false → (batR bs).1 = false)) (fun j _ _ _ => r1.1 - j)
    (fun j t _ _ => [(0, .pointer (some ⟨br, 0, none⟩)), (4, t.2.1), (5, .bool t.2.2), (6, .int .i64 ((r1.1 - j : Nat) : Int))]) (fun _ _ _ G => G)
    (fun _ t s _ => Rdr br t.1 s.2.1 :: own t.2.1 54 8 s.1.length (etCs s.1) :: X)
    0 (v1, .slice none 0 0, true) ([], r1.2.1, r1.2.2) F1 ⟨Nat.zero_le _, PH.ler _, hv1, n1, rfl, fun _ h => (by cases h), fun _ => rfl, fun h => (by cases h)⟩ ⟨⟨rfl, rfl, rfl, rfl, trivial⟩, fun w s => s.unpick (.there .here)⟩ ?_
  rintro j ⟨v, vo, right⟩ ⟨es, e, rs⟩ G ⟨hj, hG, hv, hrl, hel, hfin, hT, hFa⟩
  dsimp only at hv hrl hel hfin hT hFa ⊢
  by_cases hend : j = r1.1 ∨ e ≠ 0
  · refine J_pick (.there .here) (J_persist fun hh hA hd => ?_)
    have hents : Ents (PH.un G hh) vo es := ⟨own_slice hA hd, hfin⟩
    have hle := PH.le_l G hh
    generalize PH.un G hh = G2 at *
    have hQ : BReadQ br bs (.tuple #[vo, .bool right]) G2 [Rdr br v e] := by
      refine ⟨vo, right, v, e, rs, es, rfl, hv.mono hle, hents, rfl, hFa, fun hr => ?_⟩
      have hs := hT hr
      by_cases hjj : j = r1.1
      · right; rw [hb, ← hjj]; exact hs
      · have he := hend.resolve_left hjj
        refine .inl ⟨he, ?_⟩
        rw [hb]
        refine entsR_stop (j := j) (by omega) ?_
        rw [hs]
        exact entR_bad he
    obtain ⟨ax, cx, rfl, _⟩ := hents.form
    by_cases hjj : j = r1.1
    · rw [show r1.1 - j = 0 from by omega]
      repeat (first|refine zJ rfl rfl ?_|refine jr rfl ?_|refine jn ?_|refine zM rfl rfl ?_|(refine zC rfl rfl ?_ rfl ?_;omega)|(refine zD rfl rfl ?_ rfl ?_;omega)|(refine zP rfl ?_ rfl ?_;omega)|refine zG rfl rfl rfl rfl ?_|(refine jdq rfl rfl ?_ ?_ ?_;kernel_rfl;kernel_rfl)|refine zB rfl rfl rfl (by repeat constructor) rfl ?_|refine zH .here rfl rfl rfl rfl ?_|refine zH (.there .here) rfl rfl rfl rfl ?_|refine zH (.there (.there .here)) rfl rfl rfl rfl ?_)
      exact J_retv rfl (.tmp rfl (.tmp rfl .nil)) [Rdr br v e] (fun w s => s) (hF1.trans (hG.trans hle)) hQ
    · have he := hend.resolve_left hjj
      repeat (first|refine zJ rfl rfl ?_|refine jr rfl ?_|refine jn ?_|refine zM rfl rfl ?_|(refine zC rfl rfl ?_ rfl ?_;omega)|(refine zD rfl rfl ?_ rfl ?_;omega)|(refine zP rfl ?_ rfl ?_;omega)|refine zG rfl rfl rfl rfl ?_|(refine jdq rfl rfl ?_ ?_ ?_;kernel_rfl;kernel_rfl)|refine zB rfl rfl rfl (by repeat constructor) rfl ?_|refine zH .here rfl rfl rfl rfl ?_|refine zH (.there .here) rfl rfl rfl rfl ?_|refine zH (.there (.there .here)) rfl rfl rfl rfl ?_)
      exact J_retv rfl (.tmp rfl (.tmp rfl .nil)) [Rdr br v e] (fun w s => s) (hF1.trans (hG.trans hle)) hQ
  have hlt : j < r1.1 := by rcases Nat.lt_or_ge j r1.1 with h | h; exact h; exact absurd (.inl (by omega)) hend
  obtain rfl : e = 0 := by by_cases he : e = 0; exact he; exact absurd (.inr he) hend
  have hstop := entsR_stop (m := bs.length) (e := r1.2.1) (bs := r1.2.2) (j := j) (k := r1.1) hlt
  have hsn := entsR_succ bs.length r1.2.1 r1.2.2 j
  repeat (first|refine zJ rfl rfl ?_|refine jr rfl ?_|refine jn ?_|refine zM rfl rfl ?_|(refine zC rfl rfl ?_ rfl ?_;omega)|(refine zD rfl rfl ?_ rfl ?_;omega)|(refine zP rfl ?_ rfl ?_;omega)|refine zG rfl rfl rfl rfl ?_|(refine jdq rfl rfl ?_ ?_ ?_;kernel_rfl;kernel_rfl)|refine zB rfl rfl rfl (by repeat constructor) rfl ?_|refine zH .here rfl rfl rfl rfl ?_|refine zH (.there .here) rfl rfl rfl rfl ?_|refine zH (.there (.there .here)) rfl rfl rfl rfl ?_)
  refine oC (Hc := [Rdr br v 0]) (Hr := own vo 54 8 es.length (etCs es) :: X) (RRow_spec br v 0 1048576 rs G hv (by omega) (by decide)) Try.call65 rfl rfl (fun _ s => s) ?_
  rintro u2 F2 _ hF2 ⟨v2, hu2, hv2, rfl⟩
  have n2 := rowR_rest' 0 rs 1048576
  have l2 := rowR_short 0 rs 1048576
  generalize hr2 : rowR 0 rs 1048576 = r2 at *
  obtain ⟨a2, c2, rfl, hc2⟩ := hu2.form
  repeat (first|refine zJ rfl rfl ?_|refine jr rfl ?_|refine jn ?_|refine zM rfl rfl ?_|(refine zC rfl rfl ?_ rfl ?_;omega)|(refine zD rfl rfl ?_ rfl ?_;omega)|(refine zP rfl ?_ rfl ?_;omega)|refine zG rfl rfl rfl rfl ?_|(refine jdq rfl rfl ?_ ?_ ?_;kernel_rfl;kernel_rfl)|refine zB rfl rfl rfl (by repeat constructor) rfl ?_|refine zH .here rfl rfl rfl rfl ?_|refine zH (.there .here) rfl rfl rfl rfl ?_|refine zH (.there (.there .here)) rfl rfl rfl rfl ?_)
  refine oC (Hc := [Rdr br v2 r2.2.1]) (Hr := own vo 54 8 es.length (etCs es) :: X) (Number_spec br v2 r2.2.1 1 r2.2.2 F2 hv2 (by omega)) Try.call57 rfl rfl (fun _ s => s) ?_
  rintro _ F3 _ hF3 ⟨v3, rfl, hv3, rfl⟩
  have n3 := numR_rest r2.2.1 r2.2.2 1
  have m3 := numR_lt r2.2.1 r2.2.2 1
  generalize hr3 : numR r2.2.1 r2.2.2 1 = r3 at *
  replace m3 : r3.1 < 256 := m3
  replace hu2 := hu2.mono hF3
  repeat (first|refine zJ rfl rfl ?_|refine jr rfl ?_|refine jn ?_|refine zM rfl rfl ?_|(refine zC rfl rfl ?_ rfl ?_;omega)|(refine zD rfl rfl ?_ rfl ?_;omega)|(refine zP rfl ?_ rfl ?_;omega)|refine zG rfl rfl rfl rfl ?_|(refine jdq rfl rfl ?_ ?_ ?_;kernel_rfl;kernel_rfl)|refine zB rfl rfl rfl (by repeat constructor) rfl ?_|refine zH .here rfl rfl rfl rfl ?_|refine zH (.there .here) rfl rfl rfl rfl ?_|refine zH (.there (.there .here)) rfl rfl rfl rfl ?_)
  refine oE (ev_box rfl .agg) rfl ?_
  rintro _ _ _ _ ⟨rfl, b9, rfl, rfl⟩
  repeat (first|refine zJ rfl rfl ?_|refine jr rfl ?_|refine jn ?_|refine zM rfl rfl ?_|(refine zC rfl rfl ?_ rfl ?_;omega)|(refine zD rfl rfl ?_ rfl ?_;omega)|(refine zP rfl ?_ rfl ?_;omega)|refine zG rfl rfl rfl rfl ?_|(refine jdq rfl rfl ?_ ?_ ?_;kernel_rfl;kernel_rfl)|refine zB rfl rfl rfl (by repeat constructor) rfl ?_|refine zH .here rfl rfl rfl rfl ?_|refine zH (.there .here) rfl rfl rfl rfl ?_|refine zH (.there (.there .here)) rfl rfl rfl rfl ?_)
  refine J_join [_] (fun i : PH × Value × Nat => F3.le i.1 ∧ Byt i.1 i.2.1 (coreR 1048576 r2.1).2.2 ∧ (coreR 1048576 r2.1).1.letter.length ≤ r2.1.length ∧ (coreR 1048576 r2.1).1.text.length ≤ r2.1.length) (fun i => [(0, .pointer (some ⟨br, 0, none⟩)), (4, vo), (5, .bool right), (6, .int .i64 ((r1.1 - j : Nat) : Int)), (8, .int .u32 r3.1), (9, .pointer (some ⟨b9, 0, none⟩)), (10, .pointer (some ⟨i.2.2, 0, none⟩))]) (fun i => i.1) (fun i => Rdr b9 i.2.1 (coreR 1048576 r2.1).2.1 :: blk i.2.2 52 (coreR 1048576 r2.1).1.cells :: Rdr br v3 r3.2.1 :: own vo 54 8 es.length (etCs es) :: X) ?_ ?_
  · refine ja F3 [] ?_ ?_ ?_; kernel_rfl
    · exact fun w s => s.bare
    refine aT 0 rfl (ev_pv rfl) rfl rfl ?_ ?_ ?_ ?_; kernel_rfl; kernel_rfl; kernel_rfl
    refine aT 3 rfl (ev_pv rfl) rfl rfl ?_ ?_ ?_ ?_; kernel_rfl; kernel_rfl; kernel_rfl
    refine aT 6 rfl (ev_pv rfl) rfl rfl ?_ ?_ ?_ ?_; kernel_rfl; kernel_rfl; kernel_rfl
    refine aT 9 rfl (ev_pv rfl) rfl rfl ?_ ?_ ?_ ?_; kernel_rfl; kernel_rfl; kernel_rfl
    refine aT 12 rfl (ev_pv rfl) rfl rfl ?_ ?_ ?_ ?_; kernel_rfl; kernel_rfl; kernel_rfl
    refine aT 15 rfl (ev_pv rfl) rfl rfl ?_ ?_ ?_ ?_; kernel_rfl; kernel_rfl; kernel_rfl
    refine aT 18 rfl (ev_pv rfl) rfl rfl ?_ ?_ ?_ ?_; kernel_rfl; kernel_rfl; kernel_rfl
    refine aB2 (i := 1) (i' := 22) (by kernel_rfl) ?_ ?_
    · refine (aC (Hc := [Rdr b9 (.slice a2 r2.1.length c2) 0]) (Hr := Rdr br v3 r3.2.1 :: own vo 54 8 es.length (etCs es) :: X) rfl (Number_spec b9 (.slice a2 r2.1.length c2) 0 1 r2.1 F3 hu2 (by omega)) Try.call57 rfl rfl rfl (fun _ s => s) (fun _ _ _ hF _ w s => (s.mono hF).bare) ?_)
      rintro _ Fq1 _ hFq1 ⟨vq1, rfl, hvq1, rfl⟩
      refine aF hFq1 ?_
      have nq1 := numR_rest 0 r2.1 1
      generalize hrq1 : numR 0 r2.1 1 = rq1 at *
      refine aT 2 rfl (ev_conv rfl rfl rfl (iN_wrap _)) rfl rfl ?_ ?_ ?_ ?_; kernel_rfl; kernel_rfl; kernel_rfl
      refine aB2 (i := 4) (i' := 22) (by kernel_rfl) ?_ ?_
      · refine (aC (Hc := [Rdr b9 vq1 rq1.2.1]) (Hr := Rdr br v3 r3.2.1 :: own vo 54 8 es.length (etCs es) :: X) rfl (Number_spec b9 vq1 rq1.2.1 8 rq1.2.2 Fq1 hvq1 (by omega)) Try.call57 rfl rfl rfl (fun _ s => s) (fun _ _ _ hF _ w s => (s.mono hF).bare) ?_)
        rintro _ Fq2 _ hFq2 ⟨vq2, rfl, hvq2, rfl⟩
        refine aF hFq2 ?_
        have nq2 := numR_rest rq1.2.1 rq1.2.2 8
        generalize hrq2 : numR rq1.2.1 rq1.2.2 8 = rq2 at *
        refine aT 5 rfl (ev_conv rfl rfl rfl (iN_wrap _)) rfl rfl ?_ ?_ ?_ ?_; kernel_rfl; kernel_rfl; kernel_rfl
        refine aB2 (i := 7) (i' := 22) (by kernel_rfl) ?_ ?_
        · refine (aC (Hc := [Rdr b9 vq2 rq2.2.1]) (Hr := Rdr br v3 r3.2.1 :: own vo 54 8 es.length (etCs es) :: X) rfl (Number_spec b9 vq2 rq2.2.1 1 rq2.2.2 Fq2 hvq2 (by omega)) Try.call57 rfl rfl rfl (fun _ s => s) (fun _ _ _ hF _ w s => (s.mono hF).bare) ?_)
          rintro _ Fq3 _ hFq3 ⟨vq3, rfl, hvq3, rfl⟩
          refine aF hFq3 ?_
          have nq3 := numR_rest rq2.2.1 rq2.2.2 1
          generalize hrq3 : numR rq2.2.1 rq2.2.2 1 = rq3 at *
          refine aT 8 rfl (ev_conv rfl rfl rfl (iN_wrap _)) rfl rfl ?_ ?_ ?_ ?_; kernel_rfl; kernel_rfl; kernel_rfl
          refine aB2 (i := 10) (i' := 22) (by kernel_rfl) ?_ ?_
          · refine (aC (Hc := [Rdr b9 vq3 rq3.2.1]) (Hr := Rdr br v3 r3.2.1 :: own vo 54 8 es.length (etCs es) :: X) rfl (RRow_spec b9 vq3 rq3.2.1 1048576 rq3.2.2 Fq3 hvq3 (by omega) (by decide)) Try.call65 rfl rfl rfl (fun _ s => s) (fun _ _ _ hF _ w s => (s.mono hF).bare) ?_)
            rintro uq4 Fq4 _ hFq4 ⟨vq4, huq4, hvq4, rfl⟩
            refine aF hFq4 ?_
            have nq4 := rowR_rest' rq3.2.1 rq3.2.2 1048576
            generalize hrq4 : rowR rq3.2.1 rq3.2.2 1048576 = rq4 at *
            obtain ⟨aq4, cq4, rfl, hcq4⟩ := huq4.form
            have lq4 : rq4.1.length ≤ r2.1.length := by rw [← hrq4]; exact Nat.le_trans (rowR_short _ _ _) (by omega)
            refine aT 11 rfl (eb_string rfl (huq4.rds)) rfl rfl ?_ ?_ ?_ ?_; kernel_rfl; kernel_rfl; kernel_rfl
            refine aB2 (i := 13) (i' := 22) (by kernel_rfl) ?_ ?_
            · refine (aC (Hc := [Rdr b9 vq4 rq4.2.1]) (Hr := Rdr br v3 r3.2.1 :: own vo 54 8 es.length (etCs es) :: X) rfl (Number_spec b9 vq4 rq4.2.1 8 rq4.2.2 Fq4 hvq4 (by omega)) Try.call57 rfl rfl rfl (fun _ s => s) (fun _ _ _ hF _ w s => (s.mono hF).bare) ?_)
              rintro _ Fq5 _ hFq5 ⟨vq5, rfl, hvq5, rfl⟩
              refine aF hFq5 ?_
              have nq5 := numR_rest rq4.2.1 rq4.2.2 8
              generalize hrq5 : numR rq4.2.1 rq4.2.2 8 = rq5 at *
              refine aT 14 rfl (ev_conv rfl rfl rfl (iN_wrap _)) rfl rfl ?_ ?_ ?_ ?_; kernel_rfl; kernel_rfl; kernel_rfl
              refine aB2 (i := 16) (i' := 22) (by kernel_rfl) ?_ ?_
              · refine (aC (Hc := [Rdr b9 vq5 rq5.2.1]) (Hr := Rdr br v3 r3.2.1 :: own vo 54 8 es.length (etCs es) :: X) rfl (Number_spec b9 vq5 rq5.2.1 8 rq5.2.2 Fq5 hvq5 (by omega)) Try.call57 rfl rfl rfl (fun _ s => s) (fun _ _ _ hF _ w s => (s.mono hF).bare) ?_)
                rintro _ Fq6 _ hFq6 ⟨vq6, rfl, hvq6, rfl⟩
                refine aF hFq6 ?_
                have nq6 := numR_rest rq5.2.1 rq5.2.2 8
                generalize hrq6 : numR rq5.2.1 rq5.2.2 8 = rq6 at *
                refine aT 17 rfl (ev_conv rfl rfl rfl (iN_wrap _)) rfl rfl ?_ ?_ ?_ ?_; kernel_rfl; kernel_rfl; kernel_rfl
                refine aB2 (i := 19) (i' := 22) (by kernel_rfl) ?_ ?_
                · refine (aC (Hc := [Rdr b9 vq6 rq6.2.1]) (Hr := Rdr br v3 r3.2.1 :: own vo 54 8 es.length (etCs es) :: X) rfl (RRow_spec b9 vq6 rq6.2.1 1048576 rq6.2.2 Fq6 hvq6 (by omega) (by decide)) Try.call65 rfl rfl rfl (fun _ s => s) (fun _ _ _ hF _ w s => (s.mono hF).bare) ?_)
                  rintro uq7 Fq7 _ hFq7 ⟨vq7, huq7, hvq7, rfl⟩
                  refine aF hFq7 ?_
                  have nq7 := rowR_rest' rq6.2.1 rq6.2.2 1048576
                  generalize hrq7 : rowR rq6.2.1 rq6.2.2 1048576 = rq7 at *
                  obtain ⟨aq7, cq7, rfl, hcq7⟩ := huq7.form
                  have lq7 : rq7.1.length ≤ r2.1.length := by rw [← hrq7]; exact Nat.le_trans (rowR_short _ _ _) (by omega)
                  refine aT 20 rfl (eb_string rfl (huq7.rds)) rfl rfl ?_ ?_ ?_ ?_; kernel_rfl; kernel_rfl; kernel_rfl
                  refine aT 21 rfl (ev_build (t := Cr.cells ⟨iN rq1.1, iN rq2.1, iN rq3.1, rq4.1, iN rq5.1, iN rq6.1, rq7.1⟩) rfl rfl hpl (hfl ⟨iN rq1.1, iN rq2.1, iN rq3.1, rq4.1, iN rq5.1, iN rq6.1, rq7.1⟩)) rfl rfl ?_ ?_ ?_ ?_; kernel_rfl; kernel_rfl; kernel_rfl
                  refine aB (i := 22) (by kernel_rfl) ?_
                  refine aE rfl (ev_alloc (cs := zCr) rfl) rfl rfl (fun _ _ _ _ ⟨e, _, _, e2⟩ w s => by subst e; subst e2; exact s.bare) ?_
                  rintro _ _ _ _ ⟨rfl, b10, rfl, rfl⟩
                  have hh : coreR 1048576 r2.1 = (⟨iN rq1.1, iN rq2.1, iN rq3.1, rq4.1, iN rq5.1, iN rq6.1, rq7.1⟩, rq7.2) := by
                    unfold coreR; dsimp only; rw [hrq1, hrq2, hrq3, hrq4, hrq5, hrq6, hrq7]
                  refine aB (i := 23) (by kernel_rfl) (aN rfl (ev_store (b := b10) rfl rfl .agg rfl rfl (lay_all (zs := zCr) rfl) (Cr.ones _) (.here)) rfl (fun _ _ _ _ ⟨e, _, e2⟩ w s => by subst e; exact s.bare) ?_)
                  rintro _ _ _ _ ⟨rfl, _, rfl⟩
                  refine aD (by kernel_rfl) ?_
                  refine J_joined (Fq7, vq7, b10) ⟨hFq1.trans (hFq2.trans (hFq3.trans (hFq4.trans (hFq5.trans (hFq6.trans hFq7))))), by rw [hh]; exact hvq7, by rw [hh]; dsimp only; omega, by rw [hh]; dsimp only; omega⟩ ⟨⟨rfl, rfl, rfl, rfl, rfl, rfl, rfl, trivial⟩, fun w s => ?_⟩
                  rw [hh]
                  exact s.pick (.there .here)
                · refine aE rfl (ev_alloc (cs := zCr) rfl) rfl rfl (fun _ _ _ _ ⟨e, _, _, e2⟩ w s => by subst e; subst e2; exact s.bare) ?_
                  rintro _ _ _ _ ⟨rfl, b10, rfl, rfl⟩
                  refine aB (i := 19) (by kernel_rfl) (aC (Hc := [Rdr b9 vq6 rq6.2.1]) (Hr := blk b10 52 zCr :: Rdr br v3 r3.2.1 :: own vo 54 8 es.length (etCs es) :: X) rfl (RRow_spec b9 vq6 rq6.2.1 1048576 rq6.2.2 Fq6 hvq6 (by omega) (by decide)) Try.call65 rfl rfl rfl (fun _ s => s.pick (.there .here)) (fun _ _ _ hF _ w s => (s.mono hF).bare) ?_)
                  rintro uq7 Fq7 _ hFq7 ⟨vq7, huq7, hvq7, rfl⟩
                  refine aF hFq7 ?_
                  have nq7 := rowR_rest' rq6.2.1 rq6.2.2 1048576
                  generalize hrq7 : rowR rq6.2.1 rq6.2.2 1048576 = rq7 at *
                  obtain ⟨aq7, cq7, rfl, hcq7⟩ := huq7.form
                  have lq7 : rq7.1.length ≤ r2.1.length := by rw [← hrq7]; exact Nat.le_trans (rowR_short _ _ _) (by omega)
                  refine aT 20 rfl (eb_string rfl (huq7.rds)) rfl rfl ?_ ?_ ?_ ?_; kernel_rfl; kernel_rfl; kernel_rfl
                  refine aT 21 rfl (ev_build (t := Cr.cells ⟨iN rq1.1, iN rq2.1, iN rq3.1, rq4.1, iN rq5.1, iN rq6.1, rq7.1⟩) rfl rfl hpl (hfl ⟨iN rq1.1, iN rq2.1, iN rq3.1, rq4.1, iN rq5.1, iN rq6.1, rq7.1⟩)) rfl rfl ?_ ?_ ?_ ?_; kernel_rfl; kernel_rfl; kernel_rfl
                  have hh : coreR 1048576 r2.1 = (⟨iN rq1.1, iN rq2.1, iN rq3.1, rq4.1, iN rq5.1, iN rq6.1, rq7.1⟩, rq7.2) := by
                    unfold coreR; dsimp only; rw [hrq1, hrq2, hrq3, hrq4, hrq5, hrq6, hrq7]
                  refine aB (i := 23) (by kernel_rfl) (aN rfl (ev_store (b := b10) rfl rfl .agg rfl rfl (lay_all (zs := zCr) rfl) (Cr.ones _) (.there .here)) rfl (fun _ _ _ _ ⟨e, _, e2⟩ w s => by subst e; exact s.bare) ?_)
                  rintro _ _ _ _ ⟨rfl, _, rfl⟩
                  refine aD (by kernel_rfl) ?_
                  refine J_joined (Fq7, vq7, b10) ⟨hFq1.trans (hFq2.trans (hFq3.trans (hFq4.trans (hFq5.trans (hFq6.trans hFq7))))), by rw [hh]; exact hvq7, by rw [hh]; dsimp only; omega, by rw [hh]; dsimp only; omega⟩ ⟨⟨rfl, rfl, rfl, rfl, rfl, rfl, rfl, trivial⟩, fun w s => ?_⟩
                  rw [hh]
                  exact s
              · refine aE rfl (ev_alloc (cs := zCr) rfl) rfl rfl (fun _ _ _ _ ⟨e, _, _, e2⟩ w s => by subst e; subst e2; exact s.bare) ?_
                rintro _ _ _ _ ⟨rfl, b10, rfl, rfl⟩
                refine aB (i := 16) (by kernel_rfl) (aC (Hc := [Rdr b9 vq5 rq5.2.1]) (Hr := blk b10 52 zCr :: Rdr br v3 r3.2.1 :: own vo 54 8 es.length (etCs es) :: X) rfl (Number_spec b9 vq5 rq5.2.1 8 rq5.2.2 Fq5 hvq5 (by omega)) Try.call57 rfl rfl rfl (fun _ s => s.pick (.there .here)) (fun _ _ _ hF _ w s => (s.mono hF).bare) ?_)
                rintro _ Fq6 _ hFq6 ⟨vq6, rfl, hvq6, rfl⟩
                refine aF hFq6 ?_
                have nq6 := numR_rest rq5.2.1 rq5.2.2 8
                generalize hrq6 : numR rq5.2.1 rq5.2.2 8 = rq6 at *
                refine aT 17 rfl (ev_conv rfl rfl rfl (iN_wrap _)) rfl rfl ?_ ?_ ?_ ?_; kernel_rfl; kernel_rfl; kernel_rfl
                refine aB (i := 19) (by kernel_rfl) (aC (Hc := [Rdr b9 vq6 rq6.2.1]) (Hr := blk b10 52 zCr :: Rdr br v3 r3.2.1 :: own vo 54 8 es.length (etCs es) :: X) rfl (RRow_spec b9 vq6 rq6.2.1 1048576 rq6.2.2 Fq6 hvq6 (by omega) (by decide)) Try.call65 rfl rfl rfl (fun _ s => s) (fun _ _ _ hF _ w s => (s.mono hF).bare) ?_)
                rintro uq7 Fq7 _ hFq7 ⟨vq7, huq7, hvq7, rfl⟩
                refine aF hFq7 ?_
                have nq7 := rowR_rest' rq6.2.1 rq6.2.2 1048576
                generalize hrq7 : rowR rq6.2.1 rq6.2.2 1048576 = rq7 at *
                obtain ⟨aq7, cq7, rfl, hcq7⟩ := huq7.form
                have lq7 : rq7.1.length ≤ r2.1.length := by rw [← hrq7]; exact Nat.le_trans (rowR_short _ _ _) (by omega)
                refine aT 20 rfl (eb_string rfl (huq7.rds)) rfl rfl ?_ ?_ ?_ ?_; kernel_rfl; kernel_rfl; kernel_rfl
                refine aT 21 rfl (ev_build (t := Cr.cells ⟨iN rq1.1, iN rq2.1, iN rq3.1, rq4.1, iN rq5.1, iN rq6.1, rq7.1⟩) rfl rfl hpl (hfl ⟨iN rq1.1, iN rq2.1, iN rq3.1, rq4.1, iN rq5.1, iN rq6.1, rq7.1⟩)) rfl rfl ?_ ?_ ?_ ?_; kernel_rfl; kernel_rfl; kernel_rfl
                have hh : coreR 1048576 r2.1 = (⟨iN rq1.1, iN rq2.1, iN rq3.1, rq4.1, iN rq5.1, iN rq6.1, rq7.1⟩, rq7.2) := by
                  unfold coreR; dsimp only; rw [hrq1, hrq2, hrq3, hrq4, hrq5, hrq6, hrq7]
                refine aB (i := 23) (by kernel_rfl) (aN rfl (ev_store (b := b10) rfl rfl .agg rfl rfl (lay_all (zs := zCr) rfl) (Cr.ones _) (.there .here)) rfl (fun _ _ _ _ ⟨e, _, e2⟩ w s => by subst e; exact s.bare) ?_)
                rintro _ _ _ _ ⟨rfl, _, rfl⟩
                refine aD (by kernel_rfl) ?_
                refine J_joined (Fq7, vq7, b10) ⟨hFq1.trans (hFq2.trans (hFq3.trans (hFq4.trans (hFq5.trans (hFq6.trans hFq7))))), by rw [hh]; exact hvq7, by rw [hh]; dsimp only; omega, by rw [hh]; dsimp only; omega⟩ ⟨⟨rfl, rfl, rfl, rfl, rfl, rfl, rfl, trivial⟩, fun w s => ?_⟩
                rw [hh]
                exact s
            · refine aE rfl (ev_alloc (cs := zCr) rfl) rfl rfl (fun _ _ _ _ ⟨e, _, _, e2⟩ w s => by subst e; subst e2; exact s.bare) ?_
              rintro _ _ _ _ ⟨rfl, b10, rfl, rfl⟩
              refine aB (i := 13) (by kernel_rfl) (aC (Hc := [Rdr b9 vq4 rq4.2.1]) (Hr := blk b10 52 zCr :: Rdr br v3 r3.2.1 :: own vo 54 8 es.length (etCs es) :: X) rfl (Number_spec b9 vq4 rq4.2.1 8 rq4.2.2 Fq4 hvq4 (by omega)) Try.call57 rfl rfl rfl (fun _ s => s.pick (.there .here)) (fun _ _ _ hF _ w s => (s.mono hF).bare) ?_)
              rintro _ Fq5 _ hFq5 ⟨vq5, rfl, hvq5, rfl⟩
              refine aF hFq5 ?_
              have nq5 := numR_rest rq4.2.1 rq4.2.2 8
              generalize hrq5 : numR rq4.2.1 rq4.2.2 8 = rq5 at *
              refine aT 14 rfl (ev_conv rfl rfl rfl (iN_wrap _)) rfl rfl ?_ ?_ ?_ ?_; kernel_rfl; kernel_rfl; kernel_rfl
              refine aB (i := 16) (by kernel_rfl) (aC (Hc := [Rdr b9 vq5 rq5.2.1]) (Hr := blk b10 52 zCr :: Rdr br v3 r3.2.1 :: own vo 54 8 es.length (etCs es) :: X) rfl (Number_spec b9 vq5 rq5.2.1 8 rq5.2.2 Fq5 hvq5 (by omega)) Try.call57 rfl rfl rfl (fun _ s => s) (fun _ _ _ hF _ w s => (s.mono hF).bare) ?_)
              rintro _ Fq6 _ hFq6 ⟨vq6, rfl, hvq6, rfl⟩
              refine aF hFq6 ?_
              have nq6 := numR_rest rq5.2.1 rq5.2.2 8
              generalize hrq6 : numR rq5.2.1 rq5.2.2 8 = rq6 at *
              refine aT 17 rfl (ev_conv rfl rfl rfl (iN_wrap _)) rfl rfl ?_ ?_ ?_ ?_; kernel_rfl; kernel_rfl; kernel_rfl
              refine aB (i := 19) (by kernel_rfl) (aC (Hc := [Rdr b9 vq6 rq6.2.1]) (Hr := blk b10 52 zCr :: Rdr br v3 r3.2.1 :: own vo 54 8 es.length (etCs es) :: X) rfl (RRow_spec b9 vq6 rq6.2.1 1048576 rq6.2.2 Fq6 hvq6 (by omega) (by decide)) Try.call65 rfl rfl rfl (fun _ s => s) (fun _ _ _ hF _ w s => (s.mono hF).bare) ?_)
              rintro uq7 Fq7 _ hFq7 ⟨vq7, huq7, hvq7, rfl⟩
              refine aF hFq7 ?_
              have nq7 := rowR_rest' rq6.2.1 rq6.2.2 1048576
              generalize hrq7 : rowR rq6.2.1 rq6.2.2 1048576 = rq7 at *
              obtain ⟨aq7, cq7, rfl, hcq7⟩ := huq7.form
              have lq7 : rq7.1.length ≤ r2.1.length := by rw [← hrq7]; exact Nat.le_trans (rowR_short _ _ _) (by omega)
              refine aT 20 rfl (eb_string rfl (huq7.rds)) rfl rfl ?_ ?_ ?_ ?_; kernel_rfl; kernel_rfl; kernel_rfl
              refine aT 21 rfl (ev_build (t := Cr.cells ⟨iN rq1.1, iN rq2.1, iN rq3.1, rq4.1, iN rq5.1, iN rq6.1, rq7.1⟩) rfl rfl hpl (hfl ⟨iN rq1.1, iN rq2.1, iN rq3.1, rq4.1, iN rq5.1, iN rq6.1, rq7.1⟩)) rfl rfl ?_ ?_ ?_ ?_; kernel_rfl; kernel_rfl; kernel_rfl
              have hh : coreR 1048576 r2.1 = (⟨iN rq1.1, iN rq2.1, iN rq3.1, rq4.1, iN rq5.1, iN rq6.1, rq7.1⟩, rq7.2) := by
                unfold coreR; dsimp only; rw [hrq1, hrq2, hrq3, hrq4, hrq5, hrq6, hrq7]
              refine aB (i := 23) (by kernel_rfl) (aN rfl (ev_store (b := b10) rfl rfl .agg rfl rfl (lay_all (zs := zCr) rfl) (Cr.ones _) (.there .here)) rfl (fun _ _ _ _ ⟨e, _, e2⟩ w s => by subst e; exact s.bare) ?_)
              rintro _ _ _ _ ⟨rfl, _, rfl⟩
              refine aD (by kernel_rfl) ?_
              refine J_joined (Fq7, vq7, b10) ⟨hFq1.trans (hFq2.trans (hFq3.trans (hFq4.trans (hFq5.trans (hFq6.trans hFq7))))), by rw [hh]; exact hvq7, by rw [hh]; dsimp only; omega, by rw [hh]; dsimp only; omega⟩ ⟨⟨rfl, rfl, rfl, rfl, rfl, rfl, rfl, trivial⟩, fun w s => ?_⟩
              rw [hh]
              exact s
          · refine aE rfl (ev_alloc (cs := zCr) rfl) rfl rfl (fun _ _ _ _ ⟨e, _, _, e2⟩ w s => by subst e; subst e2; exact s.bare) ?_
            rintro _ _ _ _ ⟨rfl, b10, rfl, rfl⟩
            refine aB (i := 10) (by kernel_rfl) (aC (Hc := [Rdr b9 vq3 rq3.2.1]) (Hr := blk b10 52 zCr :: Rdr br v3 r3.2.1 :: own vo 54 8 es.length (etCs es) :: X) rfl (RRow_spec b9 vq3 rq3.2.1 1048576 rq3.2.2 Fq3 hvq3 (by omega) (by decide)) Try.call65 rfl rfl rfl (fun _ s => s.pick (.there .here)) (fun _ _ _ hF _ w s => (s.mono hF).bare) ?_)
            rintro uq4 Fq4 _ hFq4 ⟨vq4, huq4, hvq4, rfl⟩
            refine aF hFq4 ?_
            have nq4 := rowR_rest' rq3.2.1 rq3.2.2 1048576
            generalize hrq4 : rowR rq3.2.1 rq3.2.2 1048576 = rq4 at *
            obtain ⟨aq4, cq4, rfl, hcq4⟩ := huq4.form
            have lq4 : rq4.1.length ≤ r2.1.length := by rw [← hrq4]; exact Nat.le_trans (rowR_short _ _ _) (by omega)
            refine aT 11 rfl (eb_string rfl (huq4.rds)) rfl rfl ?_ ?_ ?_ ?_; kernel_rfl; kernel_rfl; kernel_rfl
            refine aB (i := 13) (by kernel_rfl) (aC (Hc := [Rdr b9 vq4 rq4.2.1]) (Hr := blk b10 52 zCr :: Rdr br v3 r3.2.1 :: own vo 54 8 es.length (etCs es) :: X) rfl (Number_spec b9 vq4 rq4.2.1 8 rq4.2.2 Fq4 hvq4 (by omega)) Try.call57 rfl rfl rfl (fun _ s => s) (fun _ _ _ hF _ w s => (s.mono hF).bare) ?_)
            rintro _ Fq5 _ hFq5 ⟨vq5, rfl, hvq5, rfl⟩
            refine aF hFq5 ?_
            have nq5 := numR_rest rq4.2.1 rq4.2.2 8
            generalize hrq5 : numR rq4.2.1 rq4.2.2 8 = rq5 at *
            refine aT 14 rfl (ev_conv rfl rfl rfl (iN_wrap _)) rfl rfl ?_ ?_ ?_ ?_; kernel_rfl; kernel_rfl; kernel_rfl
            refine aB (i := 16) (by kernel_rfl) (aC (Hc := [Rdr b9 vq5 rq5.2.1]) (Hr := blk b10 52 zCr :: Rdr br v3 r3.2.1 :: own vo 54 8 es.length (etCs es) :: X) rfl (Number_spec b9 vq5 rq5.2.1 8 rq5.2.2 Fq5 hvq5 (by omega)) Try.call57 rfl rfl rfl (fun _ s => s) (fun _ _ _ hF _ w s => (s.mono hF).bare) ?_)
            rintro _ Fq6 _ hFq6 ⟨vq6, rfl, hvq6, rfl⟩
            refine aF hFq6 ?_
            have nq6 := numR_rest rq5.2.1 rq5.2.2 8
            generalize hrq6 : numR rq5.2.1 rq5.2.2 8 = rq6 at *
            refine aT 17 rfl (ev_conv rfl rfl rfl (iN_wrap _)) rfl rfl ?_ ?_ ?_ ?_; kernel_rfl; kernel_rfl; kernel_rfl
            refine aB (i := 19) (by kernel_rfl) (aC (Hc := [Rdr b9 vq6 rq6.2.1]) (Hr := blk b10 52 zCr :: Rdr br v3 r3.2.1 :: own vo 54 8 es.length (etCs es) :: X) rfl (RRow_spec b9 vq6 rq6.2.1 1048576 rq6.2.2 Fq6 hvq6 (by omega) (by decide)) Try.call65 rfl rfl rfl (fun _ s => s) (fun _ _ _ hF _ w s => (s.mono hF).bare) ?_)
            rintro uq7 Fq7 _ hFq7 ⟨vq7, huq7, hvq7, rfl⟩
            refine aF hFq7 ?_
            have nq7 := rowR_rest' rq6.2.1 rq6.2.2 1048576
            generalize hrq7 : rowR rq6.2.1 rq6.2.2 1048576 = rq7 at *
            obtain ⟨aq7, cq7, rfl, hcq7⟩ := huq7.form
            have lq7 : rq7.1.length ≤ r2.1.length := by rw [← hrq7]; exact Nat.le_trans (rowR_short _ _ _) (by omega)
            refine aT 20 rfl (eb_string rfl (huq7.rds)) rfl rfl ?_ ?_ ?_ ?_; kernel_rfl; kernel_rfl; kernel_rfl
            refine aT 21 rfl (ev_build (t := Cr.cells ⟨iN rq1.1, iN rq2.1, iN rq3.1, rq4.1, iN rq5.1, iN rq6.1, rq7.1⟩) rfl rfl hpl (hfl ⟨iN rq1.1, iN rq2.1, iN rq3.1, rq4.1, iN rq5.1, iN rq6.1, rq7.1⟩)) rfl rfl ?_ ?_ ?_ ?_; kernel_rfl; kernel_rfl; kernel_rfl
            have hh : coreR 1048576 r2.1 = (⟨iN rq1.1, iN rq2.1, iN rq3.1, rq4.1, iN rq5.1, iN rq6.1, rq7.1⟩, rq7.2) := by
              unfold coreR; dsimp only; rw [hrq1, hrq2, hrq3, hrq4, hrq5, hrq6, hrq7]
            refine aB (i := 23) (by kernel_rfl) (aN rfl (ev_store (b := b10) rfl rfl .agg rfl rfl (lay_all (zs := zCr) rfl) (Cr.ones _) (.there .here)) rfl (fun _ _ _ _ ⟨e, _, e2⟩ w s => by subst e; exact s.bare) ?_)
            rintro _ _ _ _ ⟨rfl, _, rfl⟩
            refine aD (by kernel_rfl) ?_
            refine J_joined (Fq7, vq7, b10) ⟨hFq1.trans (hFq2.trans (hFq3.trans (hFq4.trans (hFq5.trans (hFq6.trans hFq7))))), by rw [hh]; exact hvq7, by rw [hh]; dsimp only; omega, by rw [hh]; dsimp only; omega⟩ ⟨⟨rfl, rfl, rfl, rfl, rfl, rfl, rfl, trivial⟩, fun w s => ?_⟩
            rw [hh]
            exact s
        · refine aE rfl (ev_alloc (cs := zCr) rfl) rfl rfl (fun _ _ _ _ ⟨e, _, _, e2⟩ w s => by subst e; subst e2; exact s.bare) ?_
          rintro _ _ _ _ ⟨rfl, b10, rfl, rfl⟩
          refine aB (i := 7) (by kernel_rfl) (aC (Hc := [Rdr b9 vq2 rq2.2.1]) (Hr := blk b10 52 zCr :: Rdr br v3 r3.2.1 :: own vo 54 8 es.length (etCs es) :: X) rfl (Number_spec b9 vq2 rq2.2.1 1 rq2.2.2 Fq2 hvq2 (by omega)) Try.call57 rfl rfl rfl (fun _ s => s.pick (.there .here)) (fun _ _ _ hF _ w s => (s.mono hF).bare) ?_)
          rintro _ Fq3 _ hFq3 ⟨vq3, rfl, hvq3, rfl⟩
          refine aF hFq3 ?_
          have nq3 := numR_rest rq2.2.1 rq2.2.2 1
          generalize hrq3 : numR rq2.2.1 rq2.2.2 1 = rq3 at *
          refine aT 8 rfl (ev_conv rfl rfl rfl (iN_wrap _)) rfl rfl ?_ ?_ ?_ ?_; kernel_rfl; kernel_rfl; kernel_rfl
          refine aB (i := 10) (by kernel_rfl) (aC (Hc := [Rdr b9 vq3 rq3.2.1]) (Hr := blk b10 52 zCr :: Rdr br v3 r3.2.1 :: own vo 54 8 es.length (etCs es) :: X) rfl (RRow_spec b9 vq3 rq3.2.1 1048576 rq3.2.2 Fq3 hvq3 (by omega) (by decide)) Try.call65 rfl rfl rfl (fun _ s => s) (fun _ _ _ hF _ w s => (s.mono hF).bare) ?_)
          rintro uq4 Fq4 _ hFq4 ⟨vq4, huq4, hvq4, rfl⟩
          refine aF hFq4 ?_
          have nq4 := rowR_rest' rq3.2.1 rq3.2.2 1048576
          generalize hrq4 : rowR rq3.2.1 rq3.2.2 1048576 = rq4 at *
          obtain ⟨aq4, cq4, rfl, hcq4⟩ := huq4.form
          have lq4 : rq4.1.length ≤ r2.1.length := by rw [← hrq4]; exact Nat.le_trans (rowR_short _ _ _) (by omega)
          refine aT 11 rfl (eb_string rfl (huq4.rds)) rfl rfl ?_ ?_ ?_ ?_; kernel_rfl; kernel_rfl; kernel_rfl
          refine aB (i := 13) (by kernel_rfl) (aC (Hc := [Rdr b9 vq4 rq4.2.1]) (Hr := blk b10 52 zCr :: Rdr br v3 r3.2.1 :: own vo 54 8 es.length (etCs es) :: X) rfl (Number_spec b9 vq4 rq4.2.1 8 rq4.2.2 Fq4 hvq4 (by omega)) Try.call57 rfl rfl rfl (fun _ s => s) (fun _ _ _ hF _ w s => (s.mono hF).bare) ?_)
          rintro _ Fq5 _ hFq5 ⟨vq5, rfl, hvq5, rfl⟩
          refine aF hFq5 ?_
          have nq5 := numR_rest rq4.2.1 rq4.2.2 8
          generalize hrq5 : numR rq4.2.1 rq4.2.2 8 = rq5 at *
          refine aT 14 rfl (ev_conv rfl rfl rfl (iN_wrap _)) rfl rfl ?_ ?_ ?_ ?_; kernel_rfl; kernel_rfl; kernel_rfl
          refine aB (i := 16) (by kernel_rfl) (aC (Hc := [Rdr b9 vq5 rq5.2.1]) (Hr := blk b10 52 zCr :: Rdr br v3 r3.2.1 :: own vo 54 8 es.length (etCs es) :: X) rfl (Number_spec b9 vq5 rq5.2.1 8 rq5.2.2 Fq5 hvq5 (by omega)) Try.call57 rfl rfl rfl (fun _ s => s) (fun _ _ _ hF _ w s => (s.mono hF).bare) ?_)
          rintro _ Fq6 _ hFq6 ⟨vq6, rfl, hvq6, rfl⟩
          refine aF hFq6 ?_
          have nq6 := numR_rest rq5.2.1 rq5.2.2 8
          generalize hrq6 : numR rq5.2.1 rq5.2.2 8 = rq6 at *
          refine aT 17 rfl (ev_conv rfl rfl rfl (iN_wrap _)) rfl rfl ?_ ?_ ?_ ?_; kernel_rfl; kernel_rfl; kernel_rfl
          refine aB (i := 19) (by kernel_rfl) (aC (Hc := [Rdr b9 vq6 rq6.2.1]) (Hr := blk b10 52 zCr :: Rdr br v3 r3.2.1 :: own vo 54 8 es.length (etCs es) :: X) rfl (RRow_spec b9 vq6 rq6.2.1 1048576 rq6.2.2 Fq6 hvq6 (by omega) (by decide)) Try.call65 rfl rfl rfl (fun _ s => s) (fun _ _ _ hF _ w s => (s.mono hF).bare) ?_)
          rintro uq7 Fq7 _ hFq7 ⟨vq7, huq7, hvq7, rfl⟩
          refine aF hFq7 ?_
          have nq7 := rowR_rest' rq6.2.1 rq6.2.2 1048576
          generalize hrq7 : rowR rq6.2.1 rq6.2.2 1048576 = rq7 at *
          obtain ⟨aq7, cq7, rfl, hcq7⟩ := huq7.form
          have lq7 : rq7.1.length ≤ r2.1.length := by rw [← hrq7]; exact Nat.le_trans (rowR_short _ _ _) (by omega)
          refine aT 20 rfl (eb_string rfl (huq7.rds)) rfl rfl ?_ ?_ ?_ ?_; kernel_rfl; kernel_rfl; kernel_rfl
          refine aT 21 rfl (ev_build (t := Cr.cells ⟨iN rq1.1, iN rq2.1, iN rq3.1, rq4.1, iN rq5.1, iN rq6.1, rq7.1⟩) rfl rfl hpl (hfl ⟨iN rq1.1, iN rq2.1, iN rq3.1, rq4.1, iN rq5.1, iN rq6.1, rq7.1⟩)) rfl rfl ?_ ?_ ?_ ?_; kernel_rfl; kernel_rfl; kernel_rfl
          have hh : coreR 1048576 r2.1 = (⟨iN rq1.1, iN rq2.1, iN rq3.1, rq4.1, iN rq5.1, iN rq6.1, rq7.1⟩, rq7.2) := by
            unfold coreR; dsimp only; rw [hrq1, hrq2, hrq3, hrq4, hrq5, hrq6, hrq7]
          refine aB (i := 23) (by kernel_rfl) (aN rfl (ev_store (b := b10) rfl rfl .agg rfl rfl (lay_all (zs := zCr) rfl) (Cr.ones _) (.there .here)) rfl (fun _ _ _ _ ⟨e, _, e2⟩ w s => by subst e; exact s.bare) ?_)
          rintro _ _ _ _ ⟨rfl, _, rfl⟩
          refine aD (by kernel_rfl) ?_
          refine J_joined (Fq7, vq7, b10) ⟨hFq1.trans (hFq2.trans (hFq3.trans (hFq4.trans (hFq5.trans (hFq6.trans hFq7))))), by rw [hh]; exact hvq7, by rw [hh]; dsimp only; omega, by rw [hh]; dsimp only; omega⟩ ⟨⟨rfl, rfl, rfl, rfl, rfl, rfl, rfl, trivial⟩, fun w s => ?_⟩
          rw [hh]
          exact s
      · refine aE rfl (ev_alloc (cs := zCr) rfl) rfl rfl (fun _ _ _ _ ⟨e, _, _, e2⟩ w s => by subst e; subst e2; exact s.bare) ?_
        rintro _ _ _ _ ⟨rfl, b10, rfl, rfl⟩
        refine aB (i := 4) (by kernel_rfl) (aC (Hc := [Rdr b9 vq1 rq1.2.1]) (Hr := blk b10 52 zCr :: Rdr br v3 r3.2.1 :: own vo 54 8 es.length (etCs es) :: X) rfl (Number_spec b9 vq1 rq1.2.1 8 rq1.2.2 Fq1 hvq1 (by omega)) Try.call57 rfl rfl rfl (fun _ s => s.pick (.there .here)) (fun _ _ _ hF _ w s => (s.mono hF).bare) ?_)
        rintro _ Fq2 _ hFq2 ⟨vq2, rfl, hvq2, rfl⟩
        refine aF hFq2 ?_
        have nq2 := numR_rest rq1.2.1 rq1.2.2 8
        generalize hrq2 : numR rq1.2.1 rq1.2.2 8 = rq2 at *
        refine aT 5 rfl (ev_conv rfl rfl rfl (iN_wrap _)) rfl rfl ?_ ?_ ?_ ?_; kernel_rfl; kernel_rfl; kernel_rfl
        refine aB (i := 7) (by kernel_rfl) (aC (Hc := [Rdr b9 vq2 rq2.2.1]) (Hr := blk b10 52 zCr :: Rdr br v3 r3.2.1 :: own vo 54 8 es.length (etCs es) :: X) rfl (Number_spec b9 vq2 rq2.2.1 1 rq2.2.2 Fq2 hvq2 (by omega)) Try.call57 rfl rfl rfl (fun _ s => s) (fun _ _ _ hF _ w s => (s.mono hF).bare) ?_)
        rintro _ Fq3 _ hFq3 ⟨vq3, rfl, hvq3, rfl⟩
        refine aF hFq3 ?_
        have nq3 := numR_rest rq2.2.1 rq2.2.2 1
        generalize hrq3 : numR rq2.2.1 rq2.2.2 1 = rq3 at *
        refine aT 8 rfl (ev_conv rfl rfl rfl (iN_wrap _)) rfl rfl ?_ ?_ ?_ ?_; kernel_rfl; kernel_rfl; kernel_rfl
        refine aB (i := 10) (by kernel_rfl) (aC (Hc := [Rdr b9 vq3 rq3.2.1]) (Hr := blk b10 52 zCr :: Rdr br v3 r3.2.1 :: own vo 54 8 es.length (etCs es) :: X) rfl (RRow_spec b9 vq3 rq3.2.1 1048576 rq3.2.2 Fq3 hvq3 (by omega) (by decide)) Try.call65 rfl rfl rfl (fun _ s => s) (fun _ _ _ hF _ w s => (s.mono hF).bare) ?_)
        rintro uq4 Fq4 _ hFq4 ⟨vq4, huq4, hvq4, rfl⟩
        refine aF hFq4 ?_
        have nq4 := rowR_rest' rq3.2.1 rq3.2.2 1048576
        generalize hrq4 : rowR rq3.2.1 rq3.2.2 1048576 = rq4 at *
        obtain ⟨aq4, cq4, rfl, hcq4⟩ := huq4.form
        have lq4 : rq4.1.length ≤ r2.1.length := by rw [← hrq4]; exact Nat.le_trans (rowR_short _ _ _) (by omega)
        refine aT 11 rfl (eb_string rfl (huq4.rds)) rfl rfl ?_ ?_ ?_ ?_; kernel_rfl; kernel_rfl; kernel_rfl
        refine aB (i := 13) (by kernel_rfl) (aC (Hc := [Rdr b9 vq4 rq4.2.1]) (Hr := blk b10 52 zCr :: Rdr br v3 r3.2.1 :: own vo 54 8 es.length (etCs es) :: X) rfl (Number_spec b9 vq4 rq4.2.1 8 rq4.2.2 Fq4 hvq4 (by omega)) Try.call57 rfl rfl rfl (fun _ s => s) (fun _ _ _ hF _ w s => (s.mono hF).bare) ?_)
        rintro _ Fq5 _ hFq5 ⟨vq5, rfl, hvq5, rfl⟩
        refine aF hFq5 ?_
        have nq5 := numR_rest rq4.2.1 rq4.2.2 8
        generalize hrq5 : numR rq4.2.1 rq4.2.2 8 = rq5 at *
        refine aT 14 rfl (ev_conv rfl rfl rfl (iN_wrap _)) rfl rfl ?_ ?_ ?_ ?_; kernel_rfl; kernel_rfl; kernel_rfl
        refine aB (i := 16) (by kernel_rfl) (aC (Hc := [Rdr b9 vq5 rq5.2.1]) (Hr := blk b10 52 zCr :: Rdr br v3 r3.2.1 :: own vo 54 8 es.length (etCs es) :: X) rfl (Number_spec b9 vq5 rq5.2.1 8 rq5.2.2 Fq5 hvq5 (by omega)) Try.call57 rfl rfl rfl (fun _ s => s) (fun _ _ _ hF _ w s => (s.mono hF).bare) ?_)
        rintro _ Fq6 _ hFq6 ⟨vq6, rfl, hvq6, rfl⟩
        refine aF hFq6 ?_
        have nq6 := numR_rest rq5.2.1 rq5.2.2 8
        generalize hrq6 : numR rq5.2.1 rq5.2.2 8 = rq6 at *
        refine aT 17 rfl (ev_conv rfl rfl rfl (iN_wrap _)) rfl rfl ?_ ?_ ?_ ?_; kernel_rfl; kernel_rfl; kernel_rfl
        refine aB (i := 19) (by kernel_rfl) (aC (Hc := [Rdr b9 vq6 rq6.2.1]) (Hr := blk b10 52 zCr :: Rdr br v3 r3.2.1 :: own vo 54 8 es.length (etCs es) :: X) rfl (RRow_spec b9 vq6 rq6.2.1 1048576 rq6.2.2 Fq6 hvq6 (by omega) (by decide)) Try.call65 rfl rfl rfl (fun _ s => s) (fun _ _ _ hF _ w s => (s.mono hF).bare) ?_)
        rintro uq7 Fq7 _ hFq7 ⟨vq7, huq7, hvq7, rfl⟩
        refine aF hFq7 ?_
        have nq7 := rowR_rest' rq6.2.1 rq6.2.2 1048576
        generalize hrq7 : rowR rq6.2.1 rq6.2.2 1048576 = rq7 at *
        obtain ⟨aq7, cq7, rfl, hcq7⟩ := huq7.form
        have lq7 : rq7.1.length ≤ r2.1.length := by rw [← hrq7]; exact Nat.le_trans (rowR_short _ _ _) (by omega)
        refine aT 20 rfl (eb_string rfl (huq7.rds)) rfl rfl ?_ ?_ ?_ ?_; kernel_rfl; kernel_rfl; kernel_rfl
        refine aT 21 rfl (ev_build (t := Cr.cells ⟨iN rq1.1, iN rq2.1, iN rq3.1, rq4.1, iN rq5.1, iN rq6.1, rq7.1⟩) rfl rfl hpl (hfl ⟨iN rq1.1, iN rq2.1, iN rq3.1, rq4.1, iN rq5.1, iN rq6.1, rq7.1⟩)) rfl rfl ?_ ?_ ?_ ?_; kernel_rfl; kernel_rfl; kernel_rfl
        have hh : coreR 1048576 r2.1 = (⟨iN rq1.1, iN rq2.1, iN rq3.1, rq4.1, iN rq5.1, iN rq6.1, rq7.1⟩, rq7.2) := by
          unfold coreR; dsimp only; rw [hrq1, hrq2, hrq3, hrq4, hrq5, hrq6, hrq7]
        refine aB (i := 23) (by kernel_rfl) (aN rfl (ev_store (b := b10) rfl rfl .agg rfl rfl (lay_all (zs := zCr) rfl) (Cr.ones _) (.there .here)) rfl (fun _ _ _ _ ⟨e, _, e2⟩ w s => by subst e; exact s.bare) ?_)
        rintro _ _ _ _ ⟨rfl, _, rfl⟩
        refine aD (by kernel_rfl) ?_
        refine J_joined (Fq7, vq7, b10) ⟨hFq1.trans (hFq2.trans (hFq3.trans (hFq4.trans (hFq5.trans (hFq6.trans hFq7))))), by rw [hh]; exact hvq7, by rw [hh]; dsimp only; omega, by rw [hh]; dsimp only; omega⟩ ⟨⟨rfl, rfl, rfl, rfl, rfl, rfl, rfl, trivial⟩, fun w s => ?_⟩
        rw [hh]
        exact s
    · refine aE rfl (ev_alloc (cs := zCr) rfl) rfl rfl (fun _ _ _ _ ⟨e, _, _, e2⟩ w s => by subst e; subst e2; exact s.bare) ?_
      rintro _ _ _ _ ⟨rfl, b10, rfl, rfl⟩
      refine aB (i := 1) (by kernel_rfl) (aC (Hc := [Rdr b9 (.slice a2 r2.1.length c2) 0]) (Hr := blk b10 52 zCr :: Rdr br v3 r3.2.1 :: own vo 54 8 es.length (etCs es) :: X) rfl (Number_spec b9 (.slice a2 r2.1.length c2) 0 1 r2.1 F3 hu2 (by omega)) Try.call57 rfl rfl rfl (fun _ s => s.pick (.there .here)) (fun _ _ _ hF _ w s => (s.mono hF).bare) ?_)
      rintro _ Fq1 _ hFq1 ⟨vq1, rfl, hvq1, rfl⟩
      refine aF hFq1 ?_
      have nq1 := numR_rest 0 r2.1 1
      generalize hrq1 : numR 0 r2.1 1 = rq1 at *
      refine aT 2 rfl (ev_conv rfl rfl rfl (iN_wrap _)) rfl rfl ?_ ?_ ?_ ?_; kernel_rfl; kernel_rfl; kernel_rfl
      refine aB (i := 4) (by kernel_rfl) (aC (Hc := [Rdr b9 vq1 rq1.2.1]) (Hr := blk b10 52 zCr :: Rdr br v3 r3.2.1 :: own vo 54 8 es.length (etCs es) :: X) rfl (Number_spec b9 vq1 rq1.2.1 8 rq1.2.2 Fq1 hvq1 (by omega)) Try.call57 rfl rfl rfl (fun _ s => s) (fun _ _ _ hF _ w s => (s.mono hF).bare) ?_)
      rintro _ Fq2 _ hFq2 ⟨vq2, rfl, hvq2, rfl⟩
      refine aF hFq2 ?_
      have nq2 := numR_rest rq1.2.1 rq1.2.2 8
      generalize hrq2 : numR rq1.2.1 rq1.2.2 8 = rq2 at *
      refine aT 5 rfl (ev_conv rfl rfl rfl (iN_wrap _)) rfl rfl ?_ ?_ ?_ ?_; kernel_rfl; kernel_rfl; kernel_rfl
      refine aB (i := 7) (by kernel_rfl) (aC (Hc := [Rdr b9 vq2 rq2.2.1]) (Hr := blk b10 52 zCr :: Rdr br v3 r3.2.1 :: own vo 54 8 es.length (etCs es) :: X) rfl (Number_spec b9 vq2 rq2.2.1 1 rq2.2.2 Fq2 hvq2 (by omega)) Try.call57 rfl rfl rfl (fun _ s => s) (fun _ _ _ hF _ w s => (s.mono hF).bare) ?_)
      rintro _ Fq3 _ hFq3 ⟨vq3, rfl, hvq3, rfl⟩
      refine aF hFq3 ?_
      have nq3 := numR_rest rq2.2.1 rq2.2.2 1
      generalize hrq3 : numR rq2.2.1 rq2.2.2 1 = rq3 at *
      refine aT 8 rfl (ev_conv rfl rfl rfl (iN_wrap _)) rfl rfl ?_ ?_ ?_ ?_; kernel_rfl; kernel_rfl; kernel_rfl
      refine aB (i := 10) (by kernel_rfl) (aC (Hc := [Rdr b9 vq3 rq3.2.1]) (Hr := blk b10 52 zCr :: Rdr br v3 r3.2.1 :: own vo 54 8 es.length (etCs es) :: X) rfl (RRow_spec b9 vq3 rq3.2.1 1048576 rq3.2.2 Fq3 hvq3 (by omega) (by decide)) Try.call65 rfl rfl rfl (fun _ s => s) (fun _ _ _ hF _ w s => (s.mono hF).bare) ?_)
      rintro uq4 Fq4 _ hFq4 ⟨vq4, huq4, hvq4, rfl⟩
      refine aF hFq4 ?_
      have nq4 := rowR_rest' rq3.2.1 rq3.2.2 1048576
      generalize hrq4 : rowR rq3.2.1 rq3.2.2 1048576 = rq4 at *
      obtain ⟨aq4, cq4, rfl, hcq4⟩ := huq4.form
      have lq4 : rq4.1.length ≤ r2.1.length := by rw [← hrq4]; exact Nat.le_trans (rowR_short _ _ _) (by omega)
      refine aT 11 rfl (eb_string rfl (huq4.rds)) rfl rfl ?_ ?_ ?_ ?_; kernel_rfl; kernel_rfl; kernel_rfl
      refine aB (i := 13) (by kernel_rfl) (aC (Hc := [Rdr b9 vq4 rq4.2.1]) (Hr := blk b10 52 zCr :: Rdr br v3 r3.2.1 :: own vo 54 8 es.length (etCs es) :: X) rfl (Number_spec b9 vq4 rq4.2.1 8 rq4.2.2 Fq4 hvq4 (by omega)) Try.call57 rfl rfl rfl (fun _ s => s) (fun _ _ _ hF _ w s => (s.mono hF).bare) ?_)
      rintro _ Fq5 _ hFq5 ⟨vq5, rfl, hvq5, rfl⟩
      refine aF hFq5 ?_
      have nq5 := numR_rest rq4.2.1 rq4.2.2 8
      generalize hrq5 : numR rq4.2.1 rq4.2.2 8 = rq5 at *
      refine aT 14 rfl (ev_conv rfl rfl rfl (iN_wrap _)) rfl rfl ?_ ?_ ?_ ?_; kernel_rfl; kernel_rfl; kernel_rfl
      refine aB (i := 16) (by kernel_rfl) (aC (Hc := [Rdr b9 vq5 rq5.2.1]) (Hr := blk b10 52 zCr :: Rdr br v3 r3.2.1 :: own vo 54 8 es.length (etCs es) :: X) rfl (Number_spec b9 vq5 rq5.2.1 8 rq5.2.2 Fq5 hvq5 (by omega)) Try.call57 rfl rfl rfl (fun _ s => s) (fun _ _ _ hF _ w s => (s.mono hF).bare) ?_)
      rintro _ Fq6 _ hFq6 ⟨vq6, rfl, hvq6, rfl⟩
      refine aF hFq6 ?_
      have nq6 := numR_rest rq5.2.1 rq5.2.2 8
      generalize hrq6 : numR rq5.2.1 rq5.2.2 8 = rq6 at *
      refine aT 17 rfl (ev_conv rfl rfl rfl (iN_wrap _)) rfl rfl ?_ ?_ ?_ ?_; kernel_rfl; kernel_rfl; kernel_rfl
      refine aB (i := 19) (by kernel_rfl) (aC (Hc := [Rdr b9 vq6 rq6.2.1]) (Hr := blk b10 52 zCr :: Rdr br v3 r3.2.1 :: own vo 54 8 es.length (etCs es) :: X) rfl (RRow_spec b9 vq6 rq6.2.1 1048576 rq6.2.2 Fq6 hvq6 (by omega) (by decide)) Try.call65 rfl rfl rfl (fun _ s => s) (fun _ _ _ hF _ w s => (s.mono hF).bare) ?_)
      rintro uq7 Fq7 _ hFq7 ⟨vq7, huq7, hvq7, rfl⟩
      refine aF hFq7 ?_
      have nq7 := rowR_rest' rq6.2.1 rq6.2.2 1048576
      generalize hrq7 : rowR rq6.2.1 rq6.2.2 1048576 = rq7 at *
      obtain ⟨aq7, cq7, rfl, hcq7⟩ := huq7.form
      have lq7 : rq7.1.length ≤ r2.1.length := by rw [← hrq7]; exact Nat.le_trans (rowR_short _ _ _) (by omega)
      refine aT 20 rfl (eb_string rfl (huq7.rds)) rfl rfl ?_ ?_ ?_ ?_; kernel_rfl; kernel_rfl; kernel_rfl
      refine aT 21 rfl (ev_build (t := Cr.cells ⟨iN rq1.1, iN rq2.1, iN rq3.1, rq4.1, iN rq5.1, iN rq6.1, rq7.1⟩) rfl rfl hpl (hfl ⟨iN rq1.1, iN rq2.1, iN rq3.1, rq4.1, iN rq5.1, iN rq6.1, rq7.1⟩)) rfl rfl ?_ ?_ ?_ ?_; kernel_rfl; kernel_rfl; kernel_rfl
      have hh : coreR 1048576 r2.1 = (⟨iN rq1.1, iN rq2.1, iN rq3.1, rq4.1, iN rq5.1, iN rq6.1, rq7.1⟩, rq7.2) := by
        unfold coreR; dsimp only; rw [hrq1, hrq2, hrq3, hrq4, hrq5, hrq6, hrq7]
      refine aB (i := 23) (by kernel_rfl) (aN rfl (ev_store (b := b10) rfl rfl .agg rfl rfl (lay_all (zs := zCr) rfl) (Cr.ones _) (.there .here)) rfl (fun _ _ _ _ ⟨e, _, e2⟩ w s => by subst e; exact s.bare) ?_)
      rintro _ _ _ _ ⟨rfl, _, rfl⟩
      refine aD (by kernel_rfl) ?_
      refine J_joined (Fq7, vq7, b10) ⟨hFq1.trans (hFq2.trans (hFq3.trans (hFq4.trans (hFq5.trans (hFq6.trans hFq7))))), by rw [hh]; exact hvq7, by rw [hh]; dsimp only; omega, by rw [hh]; dsimp only; omega⟩ ⟨⟨rfl, rfl, rfl, rfl, rfl, rfl, rfl, trivial⟩, fun w s => ?_⟩
      rw [hh]
      exact s
  rintro ⟨G4, v4, b10⟩ ⟨hF4, hv4, hcl, hct⟩
  dsimp only at hF4 hv4 hcl hct
  have hdoc := entR_doc (m := bs.length) (q := coreR 1048576 r2.1) (by omega) (by omega) hr2 rfl hr3
  generalize hq4 : coreR 1048576 r2.1 = q4 at *
  have hef : Et.fine ⟨q4.1, r3.1⟩ := ⟨by dsimp only; omega, by dsimp only; omega, by dsimp only; omega⟩
  have hfin' : ∀ x ∈ es ++ [Et.mk q4.1 r3.1], x.fine := fun x hx => by
    rcases List.mem_append.1 hx with hx | hx
    · exact hfin x hx
    · rw [List.mem_singleton] at hx; subst hx; exact hef
  dsimp only
  refine jc rfl rfl ?_
  refine J_join (k := _) [_] (fun right' : Bool => (right' = true → entsR bs.length r1.2.1 r1.2.2 (j + 1) = (true, es ++ [Et.mk q4.1 r3.1], r3.2)) ∧ (right' = false → (batR bs).1 = false)) (fun right' => [(0, .pointer (some ⟨br, 0, none⟩)), (4, vo), (5, .bool right'), (6, .int .i64 ((r1.1 - j : Nat) : Int)), (8, .int .u32 r3.1), (10, .pointer (some ⟨b10, 0, none⟩))]) (fun _ => G4) (fun _ => Rdr b9 v4 q4.2.1 :: blk b10 52 q4.1.cells :: Rdr br v3 r3.2.1 :: own vo 54 8 es.length (etCs es) :: X) ?_ ?_
  · cases right with
    | false =>
      repeat (first|refine zJ rfl rfl ?_|refine jr rfl ?_|refine jn ?_|refine zM rfl rfl ?_|(refine zC rfl rfl ?_ rfl ?_;omega)|(refine zD rfl rfl ?_ rfl ?_;omega)|(refine zP rfl ?_ rfl ?_;omega)|refine zG rfl rfl rfl rfl ?_|(refine jdq rfl rfl ?_ ?_ ?_;kernel_rfl;kernel_rfl)|refine zB rfl rfl rfl (by repeat constructor) rfl ?_|refine zH .here rfl rfl rfl rfl ?_|refine zH (.there .here) rfl rfl rfl rfl ?_|refine zH (.there (.there .here)) rfl rfl rfl rfl ?_)
      exact J_joined false ⟨fun h => (by cases h), fun _ => hFa rfl⟩ ⟨⟨rfl, rfl, rfl, rfl, rfl, rfl, trivial⟩, fun w s => s⟩
    | true =>
      rw [hT rfl] at hsn hstop
      dsimp only at hsn hstop
      repeat (first|refine zJ rfl rfl ?_|refine jr rfl ?_|refine jn ?_|refine zM rfl rfl ?_|(refine zC rfl rfl ?_ rfl ?_;omega)|(refine zD rfl rfl ?_ rfl ?_;omega)|(refine zP rfl ?_ rfl ?_;omega)|refine zG rfl rfl rfl rfl ?_|(refine jdq rfl rfl ?_ ?_ ?_;kernel_rfl;kernel_rfl)|refine zB rfl rfl rfl (by repeat constructor) rfl ?_|refine zH .here rfl rfl rfl rfl ?_|refine zH (.there .here) rfl rfl rfl rfl ?_|refine zH (.there (.there .here)) rfl rfl rfl rfl ?_)
      refine oC (Hc := [Rdr b9 v4 q4.2.1]) (Hr := blk b10 52 q4.1.cells :: Rdr br v3 r3.2.1 :: own vo 54 8 es.length (etCs es) :: X) (End_spec b9 v4 q4.2.1 q4.2.2 G4 hv4) Try.call59 rfl rfl (fun _ s => s) ?_
      rintro _ _ _ _ ⟨rfl, rfl, rfl⟩
      by_cases he : endR q4.2.1 q4.2.2 = 0
      · have hd := hdoc.1 he
        rw [hd, Bool.true_and] at hsn
        repeat (first|refine zJ rfl rfl ?_|refine jr rfl ?_|refine jn ?_|refine zM rfl rfl ?_|(refine zC rfl rfl ?_ rfl ?_;omega)|(refine zD rfl rfl ?_ rfl ?_;omega)|(refine zP rfl ?_ rfl ?_;omega)|refine zG rfl rfl rfl rfl ?_|(refine jdq rfl rfl ?_ ?_ ?_;kernel_rfl;kernel_rfl)|refine zB rfl rfl rfl (by repeat constructor) rfl ?_|refine zH .here rfl rfl rfl rfl ?_|refine zH (.there .here) rfl rfl rfl rfl ?_|refine zH (.there (.there .here)) rfl rfl rfl rfl ?_)
        exact J_joined true ⟨fun _ => hsn, fun h => (by cases h)⟩ ⟨⟨rfl, rfl, rfl, rfl, rfl, rfl, trivial⟩, fun w s => s⟩
      · have hd := hdoc.2 he
        repeat (first|refine zJ rfl rfl ?_|refine jr rfl ?_|refine jn ?_|refine zM rfl rfl ?_|(refine zC rfl rfl ?_ rfl ?_;omega)|(refine zD rfl rfl ?_ rfl ?_;omega)|(refine zP rfl ?_ rfl ?_;omega)|refine zG rfl rfl rfl rfl ?_|(refine jdq rfl rfl ?_ ?_ ?_;kernel_rfl;kernel_rfl)|refine zB rfl rfl rfl (by repeat constructor) rfl ?_|refine zH .here rfl rfl rfl rfl ?_|refine zH (.there .here) rfl rfl rfl rfl ?_|refine zH (.there (.there .here)) rfl rfl rfl rfl ?_)
        exact J_joined false ⟨fun h => (by cases h), fun _ => by rw [hb]; exact hstop hd⟩ ⟨⟨rfl, rfl, rfl, rfl, rfl, rfl, trivial⟩, fun w s => s⟩
  rintro right' ⟨hT', hFa'⟩
  repeat (first|refine zJ rfl rfl ?_|refine jr rfl ?_|refine jn ?_|refine zM rfl rfl ?_|(refine zC rfl rfl ?_ rfl ?_;omega)|(refine zD rfl rfl ?_ rfl ?_;omega)|(refine zP rfl ?_ rfl ?_;omega)|refine zG rfl rfl rfl rfl ?_|(refine jdq rfl rfl ?_ ?_ ?_;kernel_rfl;kernel_rfl)|refine zB rfl rfl rfl (by repeat constructor) rfl ?_|refine zH .here rfl rfl rfl rfl ?_|refine zH (.there .here) rfl rfl rfl rfl ?_|refine zH (.there (.there .here)) rfl rfl rfl rfl ?_)
  refine oS (ev_load_agg (cs := q4.1.cells) rfl rfl (Rdb.ofB (n := 0) (.there .here) rfl) rfl) rfl ?_
  repeat (first | refine oM rfl rfl ?_ | refine oS (ev_pv rfl) rfl ?_)
  refine oS (ev_build (t := Et.cells ⟨q4.1, r3.1⟩) rfl rfl hpe (hfe ⟨q4.1, r3.1⟩)) rfl ?_
  refine oA (K := fun v' => Rdr b9 v4 q4.2.1 :: blk b10 52 q4.1.cells :: Rdr br v3 r3.2.1 :: own v' 54 8 (es.length + 1) (etCs es ++ Et.cells ⟨q4.1, r3.1⟩) :: X) (fun _ => rfl) rfl .agg rfl elEt (Et.ones _) (by omega) (fun _ => .there (.there (.there .here))) rfl (fun _ => rfl) fun u w => ?_
  repeat (first|refine zJ rfl rfl ?_|refine jr rfl ?_|refine jn ?_|refine zM rfl rfl ?_|(refine zC rfl rfl ?_ rfl ?_;omega)|(refine zD rfl rfl ?_ rfl ?_;omega)|(refine zP rfl ?_ rfl ?_;omega)|refine zG rfl rfl rfl rfl ?_|(refine jdq rfl rfl ?_ ?_ ?_;kernel_rfl;kernel_rfl)|refine zB rfl rfl rfl (by repeat constructor) rfl ?_|refine zH .here rfl rfl rfl rfl ?_|refine zH (.there .here) rfl rfl rfl rfl ?_|refine zH (.there (.there .here)) rfl rfl rfl rfl ?_)
  refine J_again4 (j + 1) (v3, u, right') (es ++ [Et.mk q4.1 r3.1], r3.2) G4 ⟨hlt, hG.trans (hF2.trans (hF3.trans hF4)), hv3.mono hF4, by dsimp only; omega, by dsimp only; rw [List.length_append, hel]; rfl, hfin', hT', hFa'⟩ (by omega) ⟨⟨rfl, rfl, rfl, ?_, trivial⟩, fun w s => ?_⟩
  · rw [show ((r1.1 - (j + 1) : Nat) : Int) = ((r1.1 - j : Nat) : Int) - 1 from by omega]; rfl
  · dsimp only
    rw [etCs_snoc, List.length_append]
    exact s.drop.drop
set_option maxHeartbeats 16000000 in
theorem BParse_spec (v : Value) (bs : List UInt8) (n : Int) (F : PH) (h : Byt F v bs) (hl : bs.length ≤ 1048576) :
    Spec Try.prog 66 [v, .int .i64 n] F [] (BatQ (batchP bs n)) := by
  obtain ⟨a, c, rfl, hc⟩ := h.form
  refine Spec.of2 Try.func66 rfl rfl fun X w0 => ?_
  repeat (first|refine zJ rfl rfl ?_|refine jr rfl ?_|refine jn ?_|refine zM rfl rfl ?_|(refine zC rfl rfl ?_ rfl ?_;omega)|(refine zD rfl rfl ?_ rfl ?_;omega)|(refine zP rfl ?_ rfl ?_;omega)|refine zG rfl rfl rfl rfl ?_|(refine jdq rfl rfl ?_ ?_ ?_;kernel_rfl;kernel_rfl)|refine zB rfl rfl rfl (by repeat constructor) rfl ?_|refine zH .here rfl rfl rfl rfl ?_|refine zH (.there .here) rfl rfl rfl rfl ?_|refine zH (.there (.there .here)) rfl rfl rfl rfl ?_)
  refine oE (ev_box rfl .agg) rfl ?_
  rintro _ _ _ _ ⟨rfl, br, rfl, rfl⟩
  repeat (first|refine zJ rfl rfl ?_|refine jr rfl ?_|refine jn ?_|refine zM rfl rfl ?_|(refine zC rfl rfl ?_ rfl ?_;omega)|(refine zD rfl rfl ?_ rfl ?_;omega)|(refine zP rfl ?_ rfl ?_;omega)|refine zG rfl rfl rfl rfl ?_|(refine jdq rfl rfl ?_ ?_ ?_;kernel_rfl;kernel_rfl)|refine zB rfl rfl rfl (by repeat constructor) rfl ?_|refine zH .here rfl rfl rfl rfl ?_|refine zH (.there .here) rfl rfl rfl rfl ?_|refine zH (.there (.there .here)) rfl rfl rfl rfl ?_)
  refine oC (Hc := [Rdr br (.slice a bs.length c) 0]) (Hr := X) (BRead_spec br _ bs F h hl) Try.call87 rfl rfl (fun _ s => s) ?_
  rintro _ F1 _ hF1 ⟨vo, right, v', e, rs, es, rfl, hv, hents, rfl, hFa, hT⟩
  unfold batchP
  repeat (first|refine zJ rfl rfl ?_|refine jr rfl ?_|refine jn ?_|refine zM rfl rfl ?_|(refine zC rfl rfl ?_ rfl ?_;omega)|(refine zD rfl rfl ?_ rfl ?_;omega)|(refine zP rfl ?_ rfl ?_;omega)|refine zG rfl rfl rfl rfl ?_|(refine jdq rfl rfl ?_ ?_ ?_;kernel_rfl;kernel_rfl)|refine zB rfl rfl rfl (by repeat constructor) rfl ?_|refine zH .here rfl rfl rfl rfl ?_|refine zH (.there .here) rfl rfl rfl rfl ?_|refine zH (.there (.there .here)) rfl rfl rfl rfl ?_)
  refine oC (Hc := [Rdr br v' e]) (Hr := X) (End_spec br v' e rs F1 hv) Try.call59 rfl rfl (fun _ s => s) ?_
  rintro _ _ _ _ ⟨rfl, rfl, rfl⟩
  by_cases he : endR e rs = 0
  · cases right with
    | false =>
      rw [if_pos (.inl (hFa rfl))]
      repeat (first|refine zJ rfl rfl ?_|refine jr rfl ?_|refine jn ?_|refine zM rfl rfl ?_|(refine zC rfl rfl ?_ rfl ?_;omega)|(refine zD rfl rfl ?_ rfl ?_;omega)|(refine zP rfl ?_ rfl ?_;omega)|refine zG rfl rfl rfl rfl ?_|(refine jdq rfl rfl ?_ ?_ ?_;kernel_rfl;kernel_rfl)|refine zB rfl rfl rfl (by repeat constructor) rfl ?_|refine zH .here rfl rfl rfl rfl ?_|refine zH (.there .here) rfl rfl rfl rfl ?_|refine zH (.there (.there .here)) rfl rfl rfl rfl ?_)
      exact J_retv rfl (.tmp rfl (.tmp rfl .nil)) [] (fun w s => s.drop) hF1 ⟨rfl, _, rfl, Ents.nil _⟩
    | true =>
      rcases hT rfl with ⟨h1, _⟩ | h1
      · exact absurd (endR_zero he) h1
      rw [h1]
      dsimp only
      rw [if_neg (by simp [he])]
      have hck := BCheck_spec vo es n F1 hents
      obtain ⟨ax, cx, rfl, _⟩ := hents.form
      repeat (first|refine zJ rfl rfl ?_|refine jr rfl ?_|refine jn ?_|refine zM rfl rfl ?_|(refine zC rfl rfl ?_ rfl ?_;omega)|(refine zD rfl rfl ?_ rfl ?_;omega)|(refine zP rfl ?_ rfl ?_;omega)|refine zG rfl rfl rfl rfl ?_|(refine jdq rfl rfl ?_ ?_ ?_;kernel_rfl;kernel_rfl)|refine zB rfl rfl rfl (by repeat constructor) rfl ?_|refine zH .here rfl rfl rfl rfl ?_|refine zH (.there .here) rfl rfl rfl rfl ?_|refine zH (.there (.there .here)) rfl rfl rfl rfl ?_)
      refine oP (hck) Try.call27 rfl rfl ?_
      by_cases hk : batchErr es n = 0
      · rw [if_neg (fun h => h hk), hk]
        repeat (first|refine zJ rfl rfl ?_|refine jr rfl ?_|refine jn ?_|refine zM rfl rfl ?_|(refine zC rfl rfl ?_ rfl ?_;omega)|(refine zD rfl rfl ?_ rfl ?_;omega)|(refine zP rfl ?_ rfl ?_;omega)|refine zG rfl rfl rfl rfl ?_|(refine jdq rfl rfl ?_ ?_ ?_;kernel_rfl;kernel_rfl)|refine zB rfl rfl rfl (by repeat constructor) rfl ?_|refine zH .here rfl rfl rfl rfl ?_|refine zH (.there .here) rfl rfl rfl rfl ?_|refine zH (.there (.there .here)) rfl rfl rfl rfl ?_)
        exact J_retv rfl (.tmp rfl (.tmp rfl .nil)) [] (fun w s => s.drop) hF1 ⟨rfl, _, rfl, hents⟩
      · rw [if_pos hk]
        repeat (first|refine zJ rfl rfl ?_|refine jr rfl ?_|refine jn ?_|refine zM rfl rfl ?_|(refine zC rfl rfl ?_ rfl ?_;omega)|(refine zD rfl rfl ?_ rfl ?_;omega)|(refine zP rfl ?_ rfl ?_;omega)|refine zG rfl rfl rfl rfl ?_|(refine jdq rfl rfl ?_ ?_ ?_;kernel_rfl;kernel_rfl)|refine zB rfl rfl rfl (by repeat constructor) rfl ?_|refine zH .here rfl rfl rfl rfl ?_|refine zH (.there .here) rfl rfl rfl rfl ?_|refine zH (.there (.there .here)) rfl rfl rfl rfl ?_)
        exact J_retv rfl (.tmp rfl (.tmp rfl .nil)) [] (fun w s => s.drop) hF1 ⟨rfl, _, rfl, Ents.nil _⟩
  · have hbad : (batR bs).1 = false ∨ endR (batR bs).2.2.1 (batR bs).2.2.2 ≠ 0 := by
      cases right with
      | false => exact .inl (hFa rfl)
      | true =>
        rcases hT rfl with ⟨_, h1⟩ | h1
        · exact .inl h1
        · rw [h1]; exact .inr he
    rw [if_pos hbad]
    repeat (first|refine zJ rfl rfl ?_|refine jr rfl ?_|refine jn ?_|refine zM rfl rfl ?_|(refine zC rfl rfl ?_ rfl ?_;omega)|(refine zD rfl rfl ?_ rfl ?_;omega)|(refine zP rfl ?_ rfl ?_;omega)|refine zG rfl rfl rfl rfl ?_|(refine jdq rfl rfl ?_ ?_ ?_;kernel_rfl;kernel_rfl)|refine zB rfl rfl rfl (by repeat constructor) rfl ?_|refine zH .here rfl rfl rfl rfl ?_|refine zH (.there .here) rfl rfl rfl rfl ?_|refine zH (.there (.there .here)) rfl rfl rfl rfl ?_)
    exact J_retv rfl (.tmp rfl (.tmp rfl .nil)) [] (fun w s => s.drop) hF1 ⟨rfl, _, rfl, Ents.nil _⟩
end Go.Proofs.Ytaggonhgafggkaa
namespace Go.Proofs.Ytaggonhgafggkaa
open Go.RowKit
set_option maxRecDepth 100000
def etB (e : Et) : List UInt8 := rowB e.core.bytes ++ putB e.mask 1
def batB (es : List Et) : List UInt8 := putB es.length 2 ++ es.flatMap etB
theorem etB_len (e : Et) : (etB e).length = 39 + e.core.letter.length + e.core.text.length := by
  unfold etB
  rw [List.length_append, rowB_len, Cr.bytes_len, pl1]
  omega
theorem etB_le {es : List Et} (h : ∀ e ∈ es, e.fine) : ∀ e ∈ es, (etB e).length ≤ 2097191 := fun e he => by
  obtain ⟨_, h1, h2⟩ := h e he
  rw [etB_len]
  omega
def batBt (es : List Et) (j : Nat) : List UInt8 := putB es.length 2 ++ (es.take j).flatMap etB
theorem batBt_len {es : List Et} (h : ∀ e ∈ es, e.fine) (hn : es.length ≤ 1024) (j : Nat) : (batBt es j).length ≤ 2147523586 := by
  unfold batBt
  have := flatMap_len (f := etB) (k := 2097191) (l := es.take j) fun x hx => etB_le h x (List.mem_of_mem_take hx)
  have h2 : (es.take j).length * 2097191 ≤ 1024 * 2097191 := Nat.mul_le_mul_right _ (by rw [List.length_take]; omega)
  rw [List.length_append, pl2]
  omega
theorem et_eq (e : Et) : EqC Try.prog 9999 0 e.cells e.cells (Try.prog.fieldsOf 54).toList true := by
  have hc : EqC Try.prog 9998 0 e.core.cells e.core.cells (Try.prog.fieldsOf 52).toList _ := .int (by decide) rfl rfl (.int (by decide) rfl rfl (.int (by decide) rfl rfl (.str (by decide) rfl rfl (.int (by decide) rfl rfl (.int (by decide) rfl rfl (.str (by decide) rfl rfl .nil))))))
  have h : EqC Try.prog 9999 0 (e.core.cells ++ [Value.int .u32 e.mask]) (e.core.cells ++ [Value.int .u32 e.mask]) (Try.prog.fieldsOf 54).toList _ :=
    .sub (n := 7) (by decide) rfl rfl rfl rfl (fun w => eqC_struct (d := 9996) (by kernel_rfl) (by kernel_rfl) hc w) (.int (by decide) rfl rfl .nil)
  simpa [Et.cells, Cr.cells] using h
theorem ev_et_neq {l : Env} {F : PH} {H : List Asrt} {d : Option Nat} {T' U : TypeId} {pos : String} {af : Array Edge} {g : Option (Nat × Bool)} {x y : Operand} {e : Et} (hx : opv l x = some (.agg e.cells.toArray)) (hy : opv l y = some (.agg e.cells.toArray)) : Ev Try.prog ⟨d, .binOp .neq 54 x y T', U, pos, af, g⟩ l F H (.bool false) :=
  ev_st_neq hx hy (by kernel_rfl) (by kernel_rfl) (by kernel_rfl) (et_eq e)
set_option maxHeartbeats 8000000 in
theorem BSame_spec (v v' : Value) (es : List Et) (F : PH) (h : Ents F v es) (h' : Ents F v' es) (hn : es.length ≤ 1048576) : Pure Try.prog 24 [v, v'] F (.bool true) := by
  obtain ⟨a, c, rfl, hc⟩ := h.form
  obtain ⟨a', c', rfl, hc'⟩ := h'.form
  refine Spec.of2 Try.func24 rfl rfl fun X w0 => ?_
  repeat (first|refine zJ rfl rfl ?_|refine jr rfl ?_|refine jn ?_|refine zM rfl rfl ?_|(refine zC rfl rfl ?_ rfl ?_;omega)|(refine zD rfl rfl ?_ rfl ?_;omega)|(refine zP rfl ?_ rfl ?_;omega)|refine zG rfl rfl rfl rfl ?_|(refine jdq rfl rfl ?_ ?_ ?_;kernel_rfl;kernel_rfl)|refine zB rfl rfl rfl (by repeat constructor) rfl ?_)
  refine J_loop (ι := Nat) (fun j => j ≤ es.length) (fun j => es.length - j) (fun j => [(0, .slice a es.length c), (1, .slice a' es.length c'), (12, .int .i64 es.length), (13, .int .i64 j)]) (fun _ => F) (fun _ => X) 0 (Nat.zero_le _) ⟨⟨rfl, rfl, rfl, rfl, trivial⟩, fun _ s => s⟩ ?_
  intro j hj
  by_cases hlt : j < es.length
  · have hg : es[j]? = some es[j] := List.getElem?_eq_getElem hlt
    obtain ⟨b, off, rfl, hcc, _, _⟩ := h.at hg
    obtain ⟨b', off', rfl, hcc', _, _⟩ := h'.at hg
    generalize es[j] = e at *
    repeat (first|refine zJ rfl rfl ?_|refine jr rfl ?_|refine jn ?_|refine zM rfl rfl ?_|(refine zC rfl rfl ?_ rfl ?_;omega)|(refine zD rfl rfl ?_ rfl ?_;omega)|(refine zP rfl ?_ rfl ?_;omega)|refine zG rfl rfl rfl rfl ?_|(refine jdq rfl rfl ?_ ?_ ?_;kernel_rfl;kernel_rfl)|refine zB rfl rfl rfl (by repeat constructor) rfl ?_)
    refine oS (ev_indexAddr rfl rfl rfl hlt) rfl ?_
    refine oS (ev_load_agg (cs := e.cells) rfl rfl (Rdb.ofF hcc) rfl) rfl ?_
    repeat (first|refine zJ rfl rfl ?_|refine jr rfl ?_|refine jn ?_|refine zM rfl rfl ?_|(refine zC rfl rfl ?_ rfl ?_;omega)|(refine zD rfl rfl ?_ rfl ?_;omega)|(refine zP rfl ?_ rfl ?_;omega)|refine zG rfl rfl rfl rfl ?_|(refine jdq rfl rfl ?_ ?_ ?_;kernel_rfl;kernel_rfl)|refine zB rfl rfl rfl (by repeat constructor) rfl ?_)
    refine oS (ev_indexAddr rfl rfl rfl hlt) rfl ?_
    refine oS (ev_load_agg (cs := e.cells) rfl rfl (Rdb.ofF hcc') rfl) rfl ?_
    refine oS (ev_et_neq (e := e) rfl rfl) rfl ?_
    repeat (first|refine zJ rfl rfl ?_|refine jr rfl ?_|refine jn ?_|refine zM rfl rfl ?_|(refine zC rfl rfl ?_ rfl ?_;omega)|(refine zD rfl rfl ?_ rfl ?_;omega)|(refine zP rfl ?_ rfl ?_;omega)|refine zG rfl rfl rfl rfl ?_|(refine jdq rfl rfl ?_ ?_ ?_;kernel_rfl;kernel_rfl)|refine zB rfl rfl rfl (by repeat constructor) rfl ?_)
    exact J_again (j + 1) hlt (by omega) ⟨⟨rfl, rfl, rfl, rfl, trivial⟩, fun w s => s⟩
  · obtain rfl : j = es.length := by omega
    repeat (first|refine zJ rfl rfl ?_|refine jr rfl ?_|refine jn ?_|refine zM rfl rfl ?_|(refine zC rfl rfl ?_ rfl ?_;omega)|(refine zD rfl rfl ?_ rfl ?_;omega)|(refine zP rfl ?_ rfl ?_;omega)|refine zG rfl rfl rfl rfl ?_|(refine jdq rfl rfl ?_ ?_ ?_;kernel_rfl;kernel_rfl)|refine zB rfl rfl rfl (by repeat constructor) rfl ?_)
    exact J_retv rfl (.tmp rfl .nil) [] (fun w s => s) (PH.ler _) ⟨rfl, rfl⟩

set_option maxHeartbeats 8000000 in
theorem bbytes_spec (v : Value) (es : List Et) (F : PH) (h : Ents F v es) (hn : es.length ≤ 1024) : Spec Try.prog 68 [v] F [] fun u F' H' => H' = [] ∧ Byt F' u (batB es) := by
  obtain ⟨a, c, rfl, hc⟩ := h.form
  refine Spec.of1 Try.func68 rfl rfl fun X w0 => ?_
  repeat (first|refine zJ rfl rfl ?_|refine jr rfl ?_|refine jn ?_|refine zM rfl rfl ?_|(refine zC rfl rfl ?_ rfl ?_;omega)|(refine zD rfl rfl ?_ rfl ?_;omega)|(refine zP rfl ?_ rfl ?_;omega)|refine zG rfl rfl rfl rfl ?_|(refine jdq rfl rfl ?_ ?_ ?_;kernel_rfl;kernel_rfl)|refine zB rfl rfl rfl (by repeat constructor) rfl ?_)
  refine oC (Hc := []) (Hr := X) (put_p _ es.length 2 [] F (Byt.nil F) (by omega) (by simp)) Try.call44 rfl rfl (fun _ s => s) ?_; rintro u1 F1 _ hF1 ⟨rfl, h1⟩
  repeat (first|refine zJ rfl rfl ?_|refine jr rfl ?_|refine jn ?_|refine zM rfl rfl ?_|(refine zC rfl rfl ?_ rfl ?_;omega)|(refine zD rfl rfl ?_ rfl ?_;omega)|(refine zP rfl ?_ rfl ?_;omega)|refine zG rfl rfl rfl rfl ?_|(refine jdq rfl rfl ?_ ?_ ?_;kernel_rfl;kernel_rfl)|refine zB rfl rfl rfl (by repeat constructor) rfl ?_)
  refine J_loop (ι := Nat × Value × PH) (fun i => i.1 ≤ es.length ∧ F1.le i.2.2 ∧ Byt i.2.2 i.2.1 (batBt es i.1)) (fun i => es.length - i.1) (fun i => [(3, i.2.1), (10, .slice a es.length c), (11, .int .i64 es.length), (12, .int .i64 i.1)]) (fun i => i.2.2) (fun _ => X) (0, u1, F1) ⟨Nat.zero_le _, PH.ler _, by unfold batBt; rw [List.take_zero]; simpa using h1⟩ ⟨⟨rfl, rfl, rfl, rfl, trivial⟩, fun w s => s⟩ ?_
  rintro ⟨j, u, G⟩ ⟨hj, hG, hu⟩
  dsimp only at hj hG hu ⊢
  have hlen := batBt_len h.2 hn j
  by_cases hlt : j < es.length
  · have hg : es[j]? = some es[j] := List.getElem?_eq_getElem hlt
    obtain ⟨b, off, rfl, hcc, ⟨hf1, hf2, hf3⟩, _⟩ := (h.mono (hF1.trans hG)).at hg
    have hsn : batBt es (j + 1) = batBt es j ++ rowB (es[j]).core.bytes ++ putB (es[j]).mask 1 := by unfold batBt; rw [flatMap_snoc hg]; simp [etB]
    generalize es[j] = e at *
    have hcl := e.core.bytes_len
    repeat (first|refine zJ rfl rfl ?_|refine jr rfl ?_|refine jn ?_|refine zM rfl rfl ?_|(refine zC rfl rfl ?_ rfl ?_;omega)|(refine zD rfl rfl ?_ rfl ?_;omega)|(refine zP rfl ?_ rfl ?_;omega)|refine zG rfl rfl rfl rfl ?_|(refine jdq rfl rfl ?_ ?_ ?_;kernel_rfl;kernel_rfl)|refine zB rfl rfl rfl (by repeat constructor) rfl ?_)
    refine oS (ev_indexAddr rfl rfl rfl hlt) rfl ?_
    refine oS (ev_load_agg (cs := e.cells) rfl rfl (Rdb.ofF hcc) rfl) rfl ?_
    refine oE (ev_alloc (cs := zEt) rfl) rfl ?_
    rintro _ _ _ _ ⟨rfl, b5, rfl, rfl⟩
    refine oN (ev_store (b := b5) rfl rfl .agg rfl rfl (lay_all (zs := zEt) rfl) e.ones .here) rfl ?_
    rintro _ _ _ _ ⟨rfl, _, rfl⟩
    repeat (first|refine zJ rfl rfl ?_|refine jr rfl ?_|refine jn ?_|refine zM rfl rfl ?_|(refine zC rfl rfl ?_ rfl ?_;omega)|(refine zD rfl rfl ?_ rfl ?_;omega)|(refine zP rfl ?_ rfl ?_;omega)|refine zG rfl rfl rfl rfl ?_|(refine jdq rfl rfl ?_ ?_ ?_;kernel_rfl;kernel_rfl)|refine zB rfl rfl rfl (by repeat constructor) rfl ?_)
    refine ja G (blk b5 54 e.cells :: X) ?_ ?_ ?_; kernel_rfl
    · exact fun w s => s
    refine aT 0 rfl (ev_pv rfl) rfl rfl ?_ ?_ ?_ ?_; kernel_rfl; kernel_rfl; kernel_rfl
    refine aT 1 rfl (ev_fieldAddr rfl rfl) rfl rfl ?_ ?_ ?_ ?_; kernel_rfl; kernel_rfl; kernel_rfl
    refine aT 2 rfl (ev_load_agg (cs := e.core.cells) rfl rfl (Rdb.ofB (n := 0) .here rfl) rfl) rfl rfl ?_ ?_ ?_ ?_; kernel_rfl; kernel_rfl; kernel_rfl
    refine aT 5 rfl (ev_fieldAddr rfl rfl) rfl rfl ?_ ?_ ?_ ?_; kernel_rfl; kernel_rfl; kernel_rfl
    refine aT 6 rfl (ev_load rfl rfl (Rdb.ofB (n := 0) .here rfl)) rfl rfl ?_ ?_ ?_ ?_; kernel_rfl; kernel_rfl; kernel_rfl
    refine aT 7 rfl (ev_conv rfl rfl rfl (wrap_in (show InK .u64 (e.mask : Int) by dsimp only [InK]; omega))) rfl rfl ?_ ?_ ?_ ?_; kernel_rfl; kernel_rfl; kernel_rfl
    refine aB (i := 3) (by kernel_rfl) ?_
    refine aC (Hc := []) (Hr := blk b5 54 e.cells :: X) rfl (coreBytes_spec e.core G (by omega) (by omega)) Try.call31 rfl rfl rfl (fun _ s => s) (fun _ _ _ hF hq w s => by obtain ⟨e, _⟩ := hq; subst e; exact s.mono hF) ?_; rintro u2 F2 _ hF2 ⟨rfl, h2⟩; refine aFH hF2 ?_
    refine aB (i := 4) (by kernel_rfl) ?_
    refine aC (Hc := []) (Hr := blk b5 54 e.cells :: X) rfl (row_p _ _ _ _ F2 (hu.mono hF2) h2 (by omega) (by omega)) Try.call67 rfl rfl rfl (fun _ s => s) (fun _ _ _ hF hq w s => by obtain ⟨e, _⟩ := hq; subst e; exact s.mono hF) ?_; rintro u3 F3 _ hF3 ⟨rfl, h3⟩; refine aFH hF3 ?_
    refine aB (i := 8) (by kernel_rfl) ?_
    refine aC (Hc := []) (Hr := blk b5 54 e.cells :: X) rfl (put_p _ e.mask 1 _ F3 h3 (by omega) (by rw [List.length_append, rowB_len]; omega)) Try.call44 rfl rfl rfl (fun _ s => s) (fun _ _ _ hF hq w s => by obtain ⟨e, _⟩ := hq; subst e; exact s.mono hF) ?_; rintro u4 F4 _ hF4 ⟨rfl, h4⟩; refine aFH hF4 ?_
    refine aT 9 rfl (ev_pv rfl) rfl rfl ?_ ?_ ?_ ?_; kernel_rfl; kernel_rfl; kernel_rfl
    refine aD (by kernel_rfl) ?_
    repeat (first|refine zJ rfl rfl ?_|refine jr rfl ?_|refine jn ?_|refine zM rfl rfl ?_|(refine zC rfl rfl ?_ rfl ?_;omega)|(refine zD rfl rfl ?_ rfl ?_;omega)|(refine zP rfl ?_ rfl ?_;omega)|refine zG rfl rfl rfl rfl ?_|(refine jdq rfl rfl ?_ ?_ ?_;kernel_rfl;kernel_rfl)|refine zB rfl rfl rfl (by repeat constructor) rfl ?_)
    exact J_again (j + 1, u4, F4) ⟨hlt, hG.trans (hF2.trans (hF3.trans hF4)), by rw [hsn]; exact h4⟩ (by dsimp only; omega) ⟨⟨rfl, rfl, rfl, rfl, trivial⟩, fun w s => s.drop⟩
  · obtain rfl : j = es.length := by omega
    have hfull : batBt es es.length = batB es := by unfold batBt batB; rw [List.take_length]
    rw [hfull] at hu
    repeat (first|refine zJ rfl rfl ?_|refine jr rfl ?_|refine jn ?_|refine zM rfl rfl ?_|(refine zC rfl rfl ?_ rfl ?_;omega)|(refine zD rfl rfl ?_ rfl ?_;omega)|(refine zP rfl ?_ rfl ?_;omega)|refine zG rfl rfl rfl rfl ?_|(refine jdq rfl rfl ?_ ?_ ?_;kernel_rfl;kernel_rfl)|refine zB rfl rfl rfl (by repeat constructor) rfl ?_)
    exact J_retv rfl (.tmp rfl .nil) [] (fun w s => s) (hF1.trans hG) ⟨rfl, hu⟩
set_option maxHeartbeats 8000000 in
theorem BBytes_spec (v : Value) (es : List Et) (F : PH) (h : Ents F v es) (hn : es.length ≤ 1024) : Spec Try.prog 70 [v] F [] fun u F' H' => H' = [] ∧ Byt F' u (batB es) := by
  obtain ⟨a, c, rfl, hc⟩ := h.form
  refine Spec.of1 Try.func70 rfl rfl fun X w0 => ?_
  repeat (first|refine zJ rfl rfl ?_|refine jr rfl ?_|refine jn ?_|refine zM rfl rfl ?_|(refine zC rfl rfl ?_ rfl ?_;omega)|(refine zD rfl rfl ?_ rfl ?_;omega)|(refine zP rfl ?_ rfl ?_;omega)|refine zG rfl rfl rfl rfl ?_|(refine jdq rfl rfl ?_ ?_ ?_;kernel_rfl;kernel_rfl)|refine zB rfl rfl rfl (by repeat constructor) rfl ?_)
  refine oC (Hc := []) (Hr := X) (Put_p _ es.length 2 [] F (Byt.nil F) (by omega) (by simp)) Try.call46 rfl rfl (fun _ s => s) ?_; rintro u1 F1 _ hF1 ⟨rfl, h1⟩
  repeat (first|refine zJ rfl rfl ?_|refine jr rfl ?_|refine jn ?_|refine zM rfl rfl ?_|(refine zC rfl rfl ?_ rfl ?_;omega)|(refine zD rfl rfl ?_ rfl ?_;omega)|(refine zP rfl ?_ rfl ?_;omega)|refine zG rfl rfl rfl rfl ?_|(refine jdq rfl rfl ?_ ?_ ?_;kernel_rfl;kernel_rfl)|refine zB rfl rfl rfl (by repeat constructor) rfl ?_)
  refine J_loop (ι := Nat × Value × PH) (fun i => i.1 ≤ es.length ∧ F1.le i.2.2 ∧ Byt i.2.2 i.2.1 (batBt es i.1)) (fun i => es.length - i.1) (fun i => [(3, i.2.1), (10, .slice a es.length c), (11, .int .i64 es.length), (12, .int .i64 i.1)]) (fun i => i.2.2) (fun _ => X) (0, u1, F1) ⟨Nat.zero_le _, PH.ler _, by unfold batBt; rw [List.take_zero]; simpa using h1⟩ ⟨⟨rfl, rfl, rfl, rfl, trivial⟩, fun w s => s⟩ ?_
  rintro ⟨j, u, G⟩ ⟨hj, hG, hu⟩
  dsimp only at hj hG hu ⊢
  have hlen := batBt_len h.2 hn j
  by_cases hlt : j < es.length
  · have hg : es[j]? = some es[j] := List.getElem?_eq_getElem hlt
    obtain ⟨b, off, rfl, hcc, ⟨hf1, hf2, hf3⟩, _⟩ := (h.mono (hF1.trans hG)).at hg
    have hsn : batBt es (j + 1) = batBt es j ++ rowB (es[j]).core.bytes ++ putB (es[j]).mask 1 := by unfold batBt; rw [flatMap_snoc hg]; simp [etB]
    generalize es[j] = e at *
    have hcl := e.core.bytes_len
    repeat (first|refine zJ rfl rfl ?_|refine jr rfl ?_|refine jn ?_|refine zM rfl rfl ?_|(refine zC rfl rfl ?_ rfl ?_;omega)|(refine zD rfl rfl ?_ rfl ?_;omega)|(refine zP rfl ?_ rfl ?_;omega)|refine zG rfl rfl rfl rfl ?_|(refine jdq rfl rfl ?_ ?_ ?_;kernel_rfl;kernel_rfl)|refine zB rfl rfl rfl (by repeat constructor) rfl ?_)
    refine oS (ev_indexAddr rfl rfl rfl hlt) rfl ?_
    refine oS (ev_load_agg (cs := e.cells) rfl rfl (Rdb.ofF hcc) rfl) rfl ?_
    refine oE (ev_alloc (cs := zEt) rfl) rfl ?_
    rintro _ _ _ _ ⟨rfl, b5, rfl, rfl⟩
    refine oN (ev_store (b := b5) rfl rfl .agg rfl rfl (lay_all (zs := zEt) rfl) e.ones .here) rfl ?_
    rintro _ _ _ _ ⟨rfl, _, rfl⟩
    repeat (first|refine zJ rfl rfl ?_|refine jr rfl ?_|refine jn ?_|refine zM rfl rfl ?_|(refine zC rfl rfl ?_ rfl ?_;omega)|(refine zD rfl rfl ?_ rfl ?_;omega)|(refine zP rfl ?_ rfl ?_;omega)|refine zG rfl rfl rfl rfl ?_|(refine jdq rfl rfl ?_ ?_ ?_;kernel_rfl;kernel_rfl)|refine zB rfl rfl rfl (by repeat constructor) rfl ?_)
    refine ja G (blk b5 54 e.cells :: X) ?_ ?_ ?_; kernel_rfl
    · exact fun w s => s
    refine aT 0 rfl (ev_pv rfl) rfl rfl ?_ ?_ ?_ ?_; kernel_rfl; kernel_rfl; kernel_rfl
    refine aT 1 rfl (ev_fieldAddr rfl rfl) rfl rfl ?_ ?_ ?_ ?_; kernel_rfl; kernel_rfl; kernel_rfl
    refine aT 2 rfl (ev_load_agg (cs := e.core.cells) rfl rfl (Rdb.ofB (n := 0) .here rfl) rfl) rfl rfl ?_ ?_ ?_ ?_; kernel_rfl; kernel_rfl; kernel_rfl
    refine aT 5 rfl (ev_fieldAddr rfl rfl) rfl rfl ?_ ?_ ?_ ?_; kernel_rfl; kernel_rfl; kernel_rfl
    refine aT 6 rfl (ev_load rfl rfl (Rdb.ofB (n := 0) .here rfl)) rfl rfl ?_ ?_ ?_ ?_; kernel_rfl; kernel_rfl; kernel_rfl
    refine aT 7 rfl (ev_conv rfl rfl rfl (wrap_in (show InK .u64 (e.mask : Int) by dsimp only [InK]; omega))) rfl rfl ?_ ?_ ?_ ?_; kernel_rfl; kernel_rfl; kernel_rfl
    refine aB (i := 3) (by kernel_rfl) ?_
    refine aC (Hc := []) (Hr := blk b5 54 e.cells :: X) rfl (CoreBytes_spec e.core G (by omega) (by omega)) Try.call34 rfl rfl rfl (fun _ s => s) (fun _ _ _ hF hq w s => by obtain ⟨e, _⟩ := hq; subst e; exact s.mono hF) ?_; rintro u2 F2 _ hF2 ⟨rfl, h2⟩; refine aFH hF2 ?_
    refine aB (i := 4) (by kernel_rfl) ?_
    refine aC (Hc := []) (Hr := blk b5 54 e.cells :: X) rfl (Row_p _ _ _ _ F2 (hu.mono hF2) h2 (by omega) (by omega)) Try.call69 rfl rfl rfl (fun _ s => s) (fun _ _ _ hF hq w s => by obtain ⟨e, _⟩ := hq; subst e; exact s.mono hF) ?_; rintro u3 F3 _ hF3 ⟨rfl, h3⟩; refine aFH hF3 ?_
    refine aB (i := 8) (by kernel_rfl) ?_
    refine aC (Hc := []) (Hr := blk b5 54 e.cells :: X) rfl (Put_p _ e.mask 1 _ F3 h3 (by omega) (by rw [List.length_append, rowB_len]; omega)) Try.call46 rfl rfl rfl (fun _ s => s) (fun _ _ _ hF hq w s => by obtain ⟨e, _⟩ := hq; subst e; exact s.mono hF) ?_; rintro u4 F4 _ hF4 ⟨rfl, h4⟩; refine aFH hF4 ?_
    refine aT 9 rfl (ev_pv rfl) rfl rfl ?_ ?_ ?_ ?_; kernel_rfl; kernel_rfl; kernel_rfl
    refine aD (by kernel_rfl) ?_
    repeat (first|refine zJ rfl rfl ?_|refine jr rfl ?_|refine jn ?_|refine zM rfl rfl ?_|(refine zC rfl rfl ?_ rfl ?_;omega)|(refine zD rfl rfl ?_ rfl ?_;omega)|(refine zP rfl ?_ rfl ?_;omega)|refine zG rfl rfl rfl rfl ?_|(refine jdq rfl rfl ?_ ?_ ?_;kernel_rfl;kernel_rfl)|refine zB rfl rfl rfl (by repeat constructor) rfl ?_)
    exact J_again (j + 1, u4, F4) ⟨hlt, hG.trans (hF2.trans (hF3.trans hF4)), by rw [hsn]; exact h4⟩ (by dsimp only; omega) ⟨⟨rfl, rfl, rfl, rfl, trivial⟩, fun w s => s.drop⟩
  · obtain rfl : j = es.length := by omega
    have hfull : batBt es es.length = batB es := by unfold batBt batB; rw [List.take_length]
    rw [hfull] at hu
    repeat (first|refine zJ rfl rfl ?_|refine jr rfl ?_|refine jn ?_|refine zM rfl rfl ?_|(refine zC rfl rfl ?_ rfl ?_;omega)|(refine zD rfl rfl ?_ rfl ?_;omega)|(refine zP rfl ?_ rfl ?_;omega)|refine zG rfl rfl rfl rfl ?_|(refine jdq rfl rfl ?_ ?_ ?_;kernel_rfl;kernel_rfl)|refine zB rfl rfl rfl (by repeat constructor) rfl ?_)
    exact J_retv rfl (.tmp rfl .nil) [] (fun w s => s) (hF1.trans hG) ⟨rfl, hu⟩
theorem batB_len {es : List Et} (h : ∀ e ∈ es, e.fine) (hn : es.length ≤ 1024) : (batB es).length ≤ 2147523586 := by
  have := batBt_len h hn es.length
  unfold batBt at this
  rw [List.take_length] at this
  exact this
def propB (view seq : Int) (es : List Et) : List UInt8 := putB (uN view) 8 ++ putB (uN seq) 8 ++ rowB (batB es)
set_option maxHeartbeats 8000000 in
theorem proposal_spec (view seq : Int) (v : Value) (es : List Et) (F : PH) (h : Ents F v es) (hn : es.length ≤ 1024) : Spec Try.prog 25 [.agg #[.int .i64 view, .int .i64 seq, v]] F [] fun u F' H' => H' = [] ∧ Byt F' u (propB view seq es) := by
  have hbl := batB_len h.2 hn
  obtain ⟨a, c, rfl, hc⟩ := h.form
  refine Spec.of1 Try.func25 rfl rfl fun X w0 => ?_
  refine jc rfl rfl ?_
  refine jr rfl ?_
  refine oE (ev_box rfl .agg) rfl ?_; rintro _ _ _ _ ⟨rfl, b, rfl, rfl⟩
  repeat (first|refine zJ rfl rfl ?_|refine jr rfl ?_|refine jn ?_|refine zM rfl rfl ?_|(refine zC rfl rfl ?_ rfl ?_;omega)|(refine zD rfl rfl ?_ rfl ?_;omega)|(refine zP rfl ?_ rfl ?_;omega)|refine zG rfl rfl rfl rfl ?_|(refine jdq rfl rfl ?_ ?_ ?_;kernel_rfl;kernel_rfl)|refine zB rfl rfl rfl (by repeat constructor) rfl ?_|refine zH .here rfl rfl rfl rfl ?_|refine zH (.there .here) rfl rfl rfl rfl ?_|refine zH (.there (.there .here)) rfl rfl rfl rfl ?_)
  obtain ⟨Y, hY⟩ : ∃ Y, Y = blk b 46 [.int .i64 view, .int .i64 seq, .slice a es.length c] :: X := ⟨_, rfl⟩
  refine J_weak (H' := Y) ?_ (fun w s => by rw [hY]; exact s)
  have hp : Pick (blk b 46 [.int .i64 view, .int .i64 seq, .slice a es.length c]) Y X := by rw [hY]; exact .here
  have hdr : ∀ F w, Sat F Y w → Sat F X w := fun F w s => by rw [hY] at s; exact s.drop
  clear hY
  refine ja F Y ?_ ?_ ?_; kernel_rfl
  · exact fun w s => s
  refine aT 0 rfl (ev_fieldAddr rfl rfl) rfl rfl ?_ ?_ ?_ ?_; kernel_rfl; kernel_rfl; kernel_rfl
  refine aT 1 rfl (ev_load (v := .int .i64 view) rfl rfl (Rdb.ofB (n := 0) hp rfl)) rfl rfl ?_ ?_ ?_ ?_; kernel_rfl; kernel_rfl; kernel_rfl
  refine aT 2 rfl (ev_fieldAddr rfl rfl) rfl rfl ?_ ?_ ?_ ?_; kernel_rfl; kernel_rfl; kernel_rfl
  refine aT 3 rfl (ev_load (v := .int .i64 seq) rfl rfl (Rdb.ofB (n := 0) hp rfl)) rfl rfl ?_ ?_ ?_ ?_; kernel_rfl; kernel_rfl; kernel_rfl
  refine aT 6 rfl (ev_fieldAddr rfl rfl) rfl rfl ?_ ?_ ?_ ?_; kernel_rfl; kernel_rfl; kernel_rfl
  refine aT 7 rfl (ev_load (v := .slice a es.length c) rfl rfl (Rdb.ofB (n := 0) hp rfl)) rfl rfl ?_ ?_ ?_ ?_; kernel_rfl; kernel_rfl; kernel_rfl
  refine aB (i := 4) (by kernel_rfl) (aE rfl (ev_buildSlice (E := 2) (zs := [.int .i64 0]) (t := [.int .i64 view, .int .i64 seq]) rfl rfl rfl rfl rfl rfl (by repeat constructor)) rfl rfl (fun _ _ _ _ hq w s => by obtain ⟨rfl, _, rfl, rfl⟩ := hq; exact s.drop) ?_)
  rintro _ _ _ _ ⟨rfl, bs1, rfl, rfl⟩
  refine aPersist fun hp1 hpA1 hpd1 => ?_
  have hs1 := SliceV.of_blk (xs := [view, seq]) hpA1 hpd1 rfl
  have hG1 := PH.le_l F hp1
  refine aFH hG1 ?_
  generalize PH.un F hp1 = G1 at *
  refine aB (i := 5) (by kernel_rfl) (aC (Hc := []) (Hr := Y) rfl (long_spec _ _ [view, seq] [] G1 (Byt.nil G1) hs1 (by simp) (by simp) (by simp)) Try.call43 rfl rfl rfl (fun _ s => s) (fun _ _ _ hF hq w s => by subst hq; exact s.drop.mono hF) ?_)
  rintro u2 F2 _ hF2 rfl
  refine aPersist fun hp2 hpA2 hpd2 => ?_
  have h2 := bytes_byt hpA2 hpd2
  have hG2 := PH.le_l F2 hp2
  refine aFH (hF2.trans hG2) ?_
  generalize PH.un F2 hp2 = G2 at *
  have hle := hG1.trans (hF2.trans hG2)
  refine aB (i := 8) (by kernel_rfl) ?_
  refine aC (Hc := []) (Hr := Y) rfl (bbytes_spec _ es G2 (h.mono hle) hn) Try.call68 rfl rfl rfl (fun _ s => s) (fun _ _ _ hF hq w s => by obtain ⟨e, _⟩ := hq; subst e; exact s.mono hF) ?_; rintro u3 F3 _ hF3 ⟨rfl, h3⟩; refine aFH hF3 ?_
  refine aB (i := 9) (by kernel_rfl) ?_
  refine aC (Hc := []) (Hr := Y) rfl (row_p _ _ _ _ F3 (SliceV.mono h2 hF3) h3 (by simp [longB, pl8]) (by omega)) Try.call67 rfl rfl rfl (fun _ s => s) (fun _ _ _ hF hq w s => by obtain ⟨e, _⟩ := hq; subst e; exact s.mono hF) ?_; rintro u4 F4 _ hF4 ⟨rfl, h4⟩; refine aFH hF4 ?_
  refine aT 10 rfl (ev_pv rfl) rfl rfl ?_ ?_ ?_ ?_; kernel_rfl; kernel_rfl; kernel_rfl
  refine aD (by kernel_rfl) ?_
  repeat (first|refine zJ rfl rfl ?_|refine jr rfl ?_|refine jn ?_|refine zM rfl rfl ?_|(refine zC rfl rfl ?_ rfl ?_;omega)|(refine zD rfl rfl ?_ rfl ?_;omega)|(refine zP rfl ?_ rfl ?_;omega)|refine zG rfl rfl rfl rfl ?_|(refine jdq rfl rfl ?_ ?_ ?_;kernel_rfl;kernel_rfl)|refine zB rfl rfl rfl (by repeat constructor) rfl ?_|refine zH .here rfl rfl rfl rfl ?_|refine zH (.there .here) rfl rfl rfl rfl ?_|refine zH (.there (.there .here)) rfl rfl rfl rfl ?_)
  rw [show [] ++ longB [view, seq] ++ rowB (batB es) = propB view seq es from by simp [longB, propB]] at h4
  exact J_retv rfl (.tmp rfl .nil) [] (fun w s => hdr _ _ s) (hle.trans (hF3.trans hF4)) ⟨rfl, h4⟩
set_option maxHeartbeats 8000000 in
theorem Proposal_spec (view seq : Int) (v : Value) (es : List Et) (F : PH) (h : Ents F v es) (hn : es.length ≤ 1024) : Spec Try.prog 26 [.agg #[.int .i64 view, .int .i64 seq, v]] F [] fun u F' H' => H' = [] ∧ Byt F' u (propB view seq es) := by
  have hbl := batB_len h.2 hn
  obtain ⟨a, c, rfl, hc⟩ := h.form
  refine Spec.of1 Try.func26 rfl rfl fun X w0 => ?_
  refine jc rfl rfl ?_
  refine jr rfl ?_
  refine oE (ev_box rfl .agg) rfl ?_; rintro _ _ _ _ ⟨rfl, b, rfl, rfl⟩
  repeat (first|refine zJ rfl rfl ?_|refine jr rfl ?_|refine jn ?_|refine zM rfl rfl ?_|(refine zC rfl rfl ?_ rfl ?_;omega)|(refine zD rfl rfl ?_ rfl ?_;omega)|(refine zP rfl ?_ rfl ?_;omega)|refine zG rfl rfl rfl rfl ?_|(refine jdq rfl rfl ?_ ?_ ?_;kernel_rfl;kernel_rfl)|refine zB rfl rfl rfl (by repeat constructor) rfl ?_|refine zH .here rfl rfl rfl rfl ?_|refine zH (.there .here) rfl rfl rfl rfl ?_|refine zH (.there (.there .here)) rfl rfl rfl rfl ?_)
  obtain ⟨Y, hY⟩ : ∃ Y, Y = blk b 46 [.int .i64 view, .int .i64 seq, .slice a es.length c] :: X := ⟨_, rfl⟩
  refine J_weak (H' := Y) ?_ (fun w s => by rw [hY]; exact s)
  have hp : Pick (blk b 46 [.int .i64 view, .int .i64 seq, .slice a es.length c]) Y X := by rw [hY]; exact .here
  have hdr : ∀ F w, Sat F Y w → Sat F X w := fun F w s => by rw [hY] at s; exact s.drop
  clear hY
  refine ja F Y ?_ ?_ ?_; kernel_rfl
  · exact fun w s => s
  refine aT 0 rfl (ev_fieldAddr rfl rfl) rfl rfl ?_ ?_ ?_ ?_; kernel_rfl; kernel_rfl; kernel_rfl
  refine aT 1 rfl (ev_load (v := .int .i64 view) rfl rfl (Rdb.ofB (n := 0) hp rfl)) rfl rfl ?_ ?_ ?_ ?_; kernel_rfl; kernel_rfl; kernel_rfl
  refine aT 2 rfl (ev_conv rfl rfl rfl (uN_wrap _)) rfl rfl ?_ ?_ ?_ ?_; kernel_rfl; kernel_rfl; kernel_rfl
  refine aT 4 rfl (ev_fieldAddr rfl rfl) rfl rfl ?_ ?_ ?_ ?_; kernel_rfl; kernel_rfl; kernel_rfl
  refine aT 5 rfl (ev_load (v := .int .i64 seq) rfl rfl (Rdb.ofB (n := 0) hp rfl)) rfl rfl ?_ ?_ ?_ ?_; kernel_rfl; kernel_rfl; kernel_rfl
  refine aT 6 rfl (ev_conv rfl rfl rfl (uN_wrap _)) rfl rfl ?_ ?_ ?_ ?_; kernel_rfl; kernel_rfl; kernel_rfl
  refine aT 8 rfl (ev_fieldAddr rfl rfl) rfl rfl ?_ ?_ ?_ ?_; kernel_rfl; kernel_rfl; kernel_rfl
  refine aT 9 rfl (ev_load (v := .slice a es.length c) rfl rfl (Rdb.ofB (n := 0) hp rfl)) rfl rfl ?_ ?_ ?_ ?_; kernel_rfl; kernel_rfl; kernel_rfl
  refine aB (i := 3) (by kernel_rfl) ?_
  refine aC (Hc := []) (Hr := Y) rfl (Put_p _ _ _ [] F (Byt.nil F) (uN_lt _) (by simp)) Try.call46 rfl rfl rfl (fun _ s => s) (fun _ _ _ hF hq w s => by obtain ⟨e, _⟩ := hq; subst e; exact s.mono hF) ?_; rintro u1 F1 _ hF1 ⟨rfl, h1⟩; refine aFH hF1 ?_
  refine aB (i := 7) (by kernel_rfl) ?_
  refine aC (Hc := []) (Hr := Y) rfl (Put_p _ _ _ _ F1 h1 (uN_lt _) (by simp [pl8])) Try.call46 rfl rfl rfl (fun _ s => s) (fun _ _ _ hF hq w s => by obtain ⟨e, _⟩ := hq; subst e; exact s.mono hF) ?_; rintro u2 F2 _ hF2 ⟨rfl, h2⟩; refine aFH hF2 ?_
  refine aB (i := 10) (by kernel_rfl) ?_
  refine aC (Hc := []) (Hr := Y) rfl (BBytes_spec _ es F2 (h.mono (hF1.trans hF2)) hn) Try.call70 rfl rfl rfl (fun _ s => s) (fun _ _ _ hF hq w s => by obtain ⟨e, _⟩ := hq; subst e; exact s.mono hF) ?_; rintro u3 F3 _ hF3 ⟨rfl, h3⟩; refine aFH hF3 ?_
  refine aB (i := 11) (by kernel_rfl) ?_
  refine aC (Hc := []) (Hr := Y) rfl (Row_p _ _ _ _ F3 (SliceV.mono h2 hF3) h3 (by simp [pl8]) (by omega)) Try.call69 rfl rfl rfl (fun _ s => s) (fun _ _ _ hF hq w s => by obtain ⟨e, _⟩ := hq; subst e; exact s.mono hF) ?_; rintro u4 F4 _ hF4 ⟨rfl, h4⟩; refine aFH hF4 ?_
  refine aT 12 rfl (ev_pv rfl) rfl rfl ?_ ?_ ?_ ?_; kernel_rfl; kernel_rfl; kernel_rfl
  refine aD (by kernel_rfl) ?_
  repeat (first|refine zJ rfl rfl ?_|refine jr rfl ?_|refine jn ?_|refine zM rfl rfl ?_|(refine zC rfl rfl ?_ rfl ?_;omega)|(refine zD rfl rfl ?_ rfl ?_;omega)|(refine zP rfl ?_ rfl ?_;omega)|refine zG rfl rfl rfl rfl ?_|(refine jdq rfl rfl ?_ ?_ ?_;kernel_rfl;kernel_rfl)|refine zB rfl rfl rfl (by repeat constructor) rfl ?_|refine zH .here rfl rfl rfl rfl ?_|refine zH (.there .here) rfl rfl rfl rfl ?_|refine zH (.there (.there .here)) rfl rfl rfl rfl ?_)
  have h5 : Byt F4 u4 (propB view seq es) := by simpa [propB] using h4
  exact J_retv rfl (.tmp rfl .nil) [] (fun w s => hdr _ _ s) (hF1.trans (hF2.trans (hF3.trans hF4))) ⟨rfl, h5⟩
end Go.Proofs.Ytaggonhgafggkaa
