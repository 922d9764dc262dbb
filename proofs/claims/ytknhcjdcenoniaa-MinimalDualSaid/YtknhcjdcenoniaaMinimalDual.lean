/-
  A policy's dual is the document's, and holds just where the policy doesn't for all others; the dual's dual is the policy (MinimalDual). No condition.
-/
import Derived.Test.YtknhcjdcenoniaaNi
namespace Go.Proofs.Ytknhcjdcenoniaa
open Go.RowKit
set_option maxHeartbeats 16000000 in
theorem MinimalDual_walk (f : Fm) (cs : List Value) (s : Nat) (F : PH) (h : FRep F f cs) (hs : s < 4294967296) :
    Pure Try.prog 8 [.agg cs.toArray, .int .u32 s] F (.bool true) := by
  have h' := h
  obtain ⟨a, c, rfl, _⟩ := h.inv
  refine Spec.of2 Try.func8 rfl rfl fun X w0 => ?_
  refine jc rfl rfl ?_
  refine jr rfl ?_
  refine oE (ev_box rfl .agg) rfl ?_; rintro _ _ _ _ ⟨rfl, b, rfl, rfl⟩ 
  refine oPersist fun hh hhA hhd => ?_ 
  have hcf := blk_cells hhA hhd 
  have hle : (F).le ((F).un hh) := PH.le_l _ _ 
  generalize (F).un hh = F2 at * 
  clear hhA hhd
  replace h' := h'.mono hle
  clear h
  repeat (first | refine jc rfl rfl ?_ | refine jr rfl ?_ | refine jn ?_ | refine oM rfl rfl ?_ | refine oS (ev_pv rfl) rfl ?_ | refine oX rfl ?_ | refine J_cond_t rfl ?_ | refine J_cond_f rfl ?_ | refine oS (eb rfl) rfl ?_ | (refine oS (ev_cmp_t rfl rfl ?_) rfl ?_; (dsimp only [cmpP] <;> omega)) | (refine oS (ev_cmp_f rfl rfl ?_) rfl ?_; (dsimp only [cmpN] <;> omega)) | (refine oS (ea rfl rfl rfl ?_) rfl ?_; (dsimp only [InK]; first | omega | exact ⟨Int.natCast_nonneg _, by omega⟩)) | (refine oS (ed rfl rfl rfl ?_ ?_ ?_) rfl ?_; (first | omega | exact Int.natCast_nonneg _); (first | omega | exact Int.natCast_nonneg _); (dsimp only [InK]; first | omega | exact ⟨Int.natCast_nonneg _, by omega⟩)) | refine oS (ev_fieldAddr rfl rfl) rfl ?_ | (refine oS (ev_conv rfl rfl rfl (wrap_in ?_)) rfl ?_; (dsimp only [InK]; first | omega | exact ⟨Int.natCast_nonneg _, by omega⟩)) | refine oS (ev_bool_eql rfl rfl rfl) rfl ?_ | refine oS (eg rfl rfl rfl) rfl ?_ | (refine jdq rfl rfl ?_ ?_ ?_; kernel_rfl; kernel_rfl) | (refine oS (ev_build (t := ?_) rfl rfl rfl ?_) rfl ?_; rotate_left; (repeat (first | exact FillF.nil | refine FillF.cons (by constructor) rfl rfl (by repeat constructor) ?_))) | refine oS (ev_ptr_eql_nil rfl rfl rfl) rfl ?_ | refine oS (ev_ptr_neq_nil rfl rfl rfl) rfl ?_ | refine oS (ev_load rfl rfl (Rdb.ofB (n := 0) .here rfl)) rfl ?_ | refine oS (ev_load rfl rfl (Rdb.ofB (n := 0) (.there .here) rfl)) rfl ?_ | refine oS (ev_load rfl rfl (Rdb.ofB (n := 0) (.there (.there .here)) rfl)) rfl ?_)
  refine oP (fixed39_true F2) Try.call27 rfl rfl ?_
  repeat (first | refine jc rfl rfl ?_ | refine jr rfl ?_ | refine jn ?_ | refine oM rfl rfl ?_ | refine oS (ev_pv rfl) rfl ?_ | refine oX rfl ?_ | refine J_cond_t rfl ?_ | refine J_cond_f rfl ?_ | refine oS (eb rfl) rfl ?_ | (refine oS (ev_cmp_t rfl rfl ?_) rfl ?_; (dsimp only [cmpP] <;> omega)) | (refine oS (ev_cmp_f rfl rfl ?_) rfl ?_; (dsimp only [cmpN] <;> omega)) | (refine oS (ea rfl rfl rfl ?_) rfl ?_; (dsimp only [InK]; first | omega | exact ⟨Int.natCast_nonneg _, by omega⟩)) | (refine oS (ed rfl rfl rfl ?_ ?_ ?_) rfl ?_; (first | omega | exact Int.natCast_nonneg _); (first | omega | exact Int.natCast_nonneg _); (dsimp only [InK]; first | omega | exact ⟨Int.natCast_nonneg _, by omega⟩)) | refine oS (ev_fieldAddr rfl rfl) rfl ?_ | (refine oS (ev_conv rfl rfl rfl (wrap_in ?_)) rfl ?_; (dsimp only [InK]; first | omega | exact ⟨Int.natCast_nonneg _, by omega⟩)) | refine oS (ev_bool_eql rfl rfl rfl) rfl ?_ | refine oS (eg rfl rfl rfl) rfl ?_ | (refine jdq rfl rfl ?_ ?_ ?_; kernel_rfl; kernel_rfl) | (refine oS (ev_build (t := ?_) rfl rfl rfl ?_) rfl ?_; rotate_left; (repeat (first | exact FillF.nil | refine FillF.cons (by constructor) rfl rfl (by repeat constructor) ?_))) | refine oS (ev_ptr_eql_nil rfl rfl rfl) rfl ?_ | refine oS (ev_ptr_neq_nil rfl rfl rfl) rfl ?_ | refine oS (ev_load rfl rfl (Rdb.ofB (n := 0) .here rfl)) rfl ?_ | refine oS (ev_load rfl rfl (Rdb.ofB (n := 0) (.there .here) rfl)) rfl ?_ | refine oS (ev_load rfl rfl (Rdb.ofB (n := 0) (.there (.there .here)) rfl)) rfl ?_)
  refine oS (ev_load_agg rfl rfl (Rdb.ofF hcf) rfl) rfl ?_
  refine oC (Hc := []) (Hr := X) (few39_spec f _ 1 F2 h') Try.call28 rfl rfl (fun _ s => s) ?_
  rintro _ F3 _ hF3 ⟨rfl, m, ok, rfl, hok⟩
  refine oW (F' := F2) ?_ (fun w s => s.mono hF3)
  cases ok with
  | false =>
    repeat (first | refine jc rfl rfl ?_ | refine jr rfl ?_ | refine jn ?_ | refine oM rfl rfl ?_ | refine oS (ev_pv rfl) rfl ?_ | refine oX rfl ?_ | refine J_cond_t rfl ?_ | refine J_cond_f rfl ?_ | refine oS (eb rfl) rfl ?_ | (refine oS (ev_cmp_t rfl rfl ?_) rfl ?_; (dsimp only [cmpP] <;> omega)) | (refine oS (ev_cmp_f rfl rfl ?_) rfl ?_; (dsimp only [cmpN] <;> omega)) | (refine oS (ea rfl rfl rfl ?_) rfl ?_; (dsimp only [InK]; first | omega | exact ⟨Int.natCast_nonneg _, by omega⟩)) | (refine oS (ed rfl rfl rfl ?_ ?_ ?_) rfl ?_; (first | omega | exact Int.natCast_nonneg _); (first | omega | exact Int.natCast_nonneg _); (dsimp only [InK]; first | omega | exact ⟨Int.natCast_nonneg _, by omega⟩)) | refine oS (ev_fieldAddr rfl rfl) rfl ?_ | (refine oS (ev_conv rfl rfl rfl (wrap_in ?_)) rfl ?_; (dsimp only [InK]; first | omega | exact ⟨Int.natCast_nonneg _, by omega⟩)) | refine oS (ev_bool_eql rfl rfl rfl) rfl ?_ | refine oS (eg rfl rfl rfl) rfl ?_ | (refine jdq rfl rfl ?_ ?_ ?_; kernel_rfl; kernel_rfl) | (refine oS (ev_build (t := ?_) rfl rfl rfl ?_) rfl ?_; rotate_left; (repeat (first | exact FillF.nil | refine FillF.cons (by constructor) rfl rfl (by repeat constructor) ?_))) | refine oS (ev_ptr_eql_nil rfl rfl rfl) rfl ?_ | refine oS (ev_ptr_neq_nil rfl rfl rfl) rfl ?_ | refine oS (ev_load rfl rfl (Rdb.ofB (n := 0) .here rfl)) rfl ?_ | refine oS (ev_load rfl rfl (Rdb.ofB (n := 0) (.there .here) rfl)) rfl ?_ | refine oS (ev_load rfl rfl (Rdb.ofB (n := 0) (.there (.there .here)) rfl)) rfl ?_)
    exact J_retv rfl (.tmp rfl .nil) [] (fun w s => s) hle ⟨rfl, rfl⟩
  | true =>
    obtain ⟨_, hf⟩ := hok rfl
    repeat (first | refine jc rfl rfl ?_ | refine jr rfl ?_ | refine jn ?_ | refine oM rfl rfl ?_ | refine oS (ev_pv rfl) rfl ?_ | refine oX rfl ?_ | refine J_cond_t rfl ?_ | refine J_cond_f rfl ?_ | refine oS (eb rfl) rfl ?_ | (refine oS (ev_cmp_t rfl rfl ?_) rfl ?_; (dsimp only [cmpP] <;> omega)) | (refine oS (ev_cmp_f rfl rfl ?_) rfl ?_; (dsimp only [cmpN] <;> omega)) | (refine oS (ea rfl rfl rfl ?_) rfl ?_; (dsimp only [InK]; first | omega | exact ⟨Int.natCast_nonneg _, by omega⟩)) | (refine oS (ed rfl rfl rfl ?_ ?_ ?_) rfl ?_; (first | omega | exact Int.natCast_nonneg _); (first | omega | exact Int.natCast_nonneg _); (dsimp only [InK]; first | omega | exact ⟨Int.natCast_nonneg _, by omega⟩)) | refine oS (ev_fieldAddr rfl rfl) rfl ?_ | (refine oS (ev_conv rfl rfl rfl (wrap_in ?_)) rfl ?_; (dsimp only [InK]; first | omega | exact ⟨Int.natCast_nonneg _, by omega⟩)) | refine oS (ev_bool_eql rfl rfl rfl) rfl ?_ | refine oS (eg rfl rfl rfl) rfl ?_ | (refine jdq rfl rfl ?_ ?_ ?_; kernel_rfl; kernel_rfl) | (refine oS (ev_build (t := ?_) rfl rfl rfl ?_) rfl ?_; rotate_left; (repeat (first | exact FillF.nil | refine FillF.cons (by constructor) rfl rfl (by repeat constructor) ?_))) | refine oS (ev_ptr_eql_nil rfl rfl rfl) rfl ?_ | refine oS (ev_ptr_neq_nil rfl rfl rfl) rfl ?_ | refine oS (ev_load rfl rfl (Rdb.ofB (n := 0) .here rfl)) rfl ?_ | refine oS (ev_load rfl rfl (Rdb.ofB (n := 0) (.there .here) rfl)) rfl ?_ | refine oS (ev_load rfl rfl (Rdb.ofB (n := 0) (.there (.there .here)) rfl)) rfl ?_)
    refine oS (ev_load_agg rfl rfl (Rdb.ofF hcf) rfl) rfl ?_
    refine oP (Right_spec f _ F2 h' hf) Try.call15 rfl rfl ?_
    cases hfo : f.ok with
    | false =>
      repeat (first | refine jc rfl rfl ?_ | refine jr rfl ?_ | refine jn ?_ | refine oM rfl rfl ?_ | refine oS (ev_pv rfl) rfl ?_ | refine oX rfl ?_ | refine J_cond_t rfl ?_ | refine J_cond_f rfl ?_ | refine oS (eb rfl) rfl ?_ | (refine oS (ev_cmp_t rfl rfl ?_) rfl ?_; (dsimp only [cmpP] <;> omega)) | (refine oS (ev_cmp_f rfl rfl ?_) rfl ?_; (dsimp only [cmpN] <;> omega)) | (refine oS (ea rfl rfl rfl ?_) rfl ?_; (dsimp only [InK]; first | omega | exact ⟨Int.natCast_nonneg _, by omega⟩)) | (refine oS (ed rfl rfl rfl ?_ ?_ ?_) rfl ?_; (first | omega | exact Int.natCast_nonneg _); (first | omega | exact Int.natCast_nonneg _); (dsimp only [InK]; first | omega | exact ⟨Int.natCast_nonneg _, by omega⟩)) | refine oS (ev_fieldAddr rfl rfl) rfl ?_ | (refine oS (ev_conv rfl rfl rfl (wrap_in ?_)) rfl ?_; (dsimp only [InK]; first | omega | exact ⟨Int.natCast_nonneg _, by omega⟩)) | refine oS (ev_bool_eql rfl rfl rfl) rfl ?_ | refine oS (eg rfl rfl rfl) rfl ?_ | (refine jdq rfl rfl ?_ ?_ ?_; kernel_rfl; kernel_rfl) | (refine oS (ev_build (t := ?_) rfl rfl rfl ?_) rfl ?_; rotate_left; (repeat (first | exact FillF.nil | refine FillF.cons (by constructor) rfl rfl (by repeat constructor) ?_))) | refine oS (ev_ptr_eql_nil rfl rfl rfl) rfl ?_ | refine oS (ev_ptr_neq_nil rfl rfl rfl) rfl ?_ | refine oS (ev_load rfl rfl (Rdb.ofB (n := 0) .here rfl)) rfl ?_ | refine oS (ev_load rfl rfl (Rdb.ofB (n := 0) (.there .here) rfl)) rfl ?_ | refine oS (ev_load rfl rfl (Rdb.ofB (n := 0) (.there (.there .here)) rfl)) rfl ?_)
      exact J_retv rfl (.tmp rfl .nil) [] (fun w s => s) hle ⟨rfl, rfl⟩
    | true =>
      have hr := ok_rng hfo
      repeat (first | refine jc rfl rfl ?_ | refine jr rfl ?_ | refine jn ?_ | refine oM rfl rfl ?_ | refine oS (ev_pv rfl) rfl ?_ | refine oX rfl ?_ | refine J_cond_t rfl ?_ | refine J_cond_f rfl ?_ | refine oS (eb rfl) rfl ?_ | (refine oS (ev_cmp_t rfl rfl ?_) rfl ?_; (dsimp only [cmpP] <;> omega)) | (refine oS (ev_cmp_f rfl rfl ?_) rfl ?_; (dsimp only [cmpN] <;> omega)) | (refine oS (ea rfl rfl rfl ?_) rfl ?_; (dsimp only [InK]; first | omega | exact ⟨Int.natCast_nonneg _, by omega⟩)) | (refine oS (ed rfl rfl rfl ?_ ?_ ?_) rfl ?_; (first | omega | exact Int.natCast_nonneg _); (first | omega | exact Int.natCast_nonneg _); (dsimp only [InK]; first | omega | exact ⟨Int.natCast_nonneg _, by omega⟩)) | refine oS (ev_fieldAddr rfl rfl) rfl ?_ | (refine oS (ev_conv rfl rfl rfl (wrap_in ?_)) rfl ?_; (dsimp only [InK]; first | omega | exact ⟨Int.natCast_nonneg _, by omega⟩)) | refine oS (ev_bool_eql rfl rfl rfl) rfl ?_ | refine oS (eg rfl rfl rfl) rfl ?_ | (refine jdq rfl rfl ?_ ?_ ?_; kernel_rfl; kernel_rfl) | (refine oS (ev_build (t := ?_) rfl rfl rfl ?_) rfl ?_; rotate_left; (repeat (first | exact FillF.nil | refine FillF.cons (by constructor) rfl rfl (by repeat constructor) ?_))) | refine oS (ev_ptr_eql_nil rfl rfl rfl) rfl ?_ | refine oS (ev_ptr_neq_nil rfl rfl rfl) rfl ?_ | refine oS (ev_load rfl rfl (Rdb.ofB (n := 0) .here rfl)) rfl ?_ | refine oS (ev_load rfl rfl (Rdb.ofB (n := 0) (.there .here) rfl)) rfl ?_ | refine oS (ev_load rfl rfl (Rdb.ofB (n := 0) (.there (.there .here)) rfl)) rfl ?_)
      refine oS (ev_load_agg rfl rfl (Rdb.ofF hcf) rfl) rfl ?_
      refine oC (Hc := []) (Hr := X) (Dual_spec f _ F2 h' hf) Try.call32 rfl rfl (fun _ s => s) ?_
      rintro _ G _ hG ⟨rfl, co, rfl, hco⟩
      rw [hfo, if_pos rfl] at hco
      have hdo := dual_ok hfo
      have hdd := dual_dual f
      have hdh : f.dual.holds s = !f.holds (cpl s) := dual_holds f hr
      have hdn := Nat.le_trans (dual_small f).1 hf
      generalize f.dual = d at *
      have hco' := hco
      obtain ⟨a4, c4, rfl, _⟩ := hco.inv
      refine oE (ev_alloc (cs := zFm) rfl) rfl ?_
      rintro _ _ _ _ ⟨rfl, b7, rfl, rfl⟩
      refine oN (ev_store (b := b7) rfl rfl .agg rfl rfl (lay_all (zs := zFm) rfl) fcells_ones .here) rfl ?_
      rintro _ _ _ _ ⟨rfl, _, rfl⟩
      refine jn ?_
      refine J_persist fun h7 hA7 hd7 => ?_
      have hcd := blk_cells hA7 hd7
      have hle7 : G.le (G.un h7) := PH.le_l _ _
      generalize G.un h7 = G1 at *
      have hle2 := hG.trans hle7
      replace hcf := hcf.mono hle2
      replace h' := h'.mono hle2
      replace hco' := hco'.mono hle7
      repeat (first | refine jc rfl rfl ?_ | refine jr rfl ?_ | refine jn ?_ | refine oM rfl rfl ?_ | refine oS (ev_pv rfl) rfl ?_ | refine oX rfl ?_ | refine J_cond_t rfl ?_ | refine J_cond_f rfl ?_ | refine oS (eb rfl) rfl ?_ | (refine oS (ev_cmp_t rfl rfl ?_) rfl ?_; (dsimp only [cmpP] <;> omega)) | (refine oS (ev_cmp_f rfl rfl ?_) rfl ?_; (dsimp only [cmpN] <;> omega)) | (refine oS (ea rfl rfl rfl ?_) rfl ?_; (dsimp only [InK]; first | omega | exact ⟨Int.natCast_nonneg _, by omega⟩)) | (refine oS (ed rfl rfl rfl ?_ ?_ ?_) rfl ?_; (first | omega | exact Int.natCast_nonneg _); (first | omega | exact Int.natCast_nonneg _); (dsimp only [InK]; first | omega | exact ⟨Int.natCast_nonneg _, by omega⟩)) | refine oS (ev_fieldAddr rfl rfl) rfl ?_ | (refine oS (ev_conv rfl rfl rfl (wrap_in ?_)) rfl ?_; (dsimp only [InK]; first | omega | exact ⟨Int.natCast_nonneg _, by omega⟩)) | refine oS (ev_bool_eql rfl rfl rfl) rfl ?_ | refine oS (eg rfl rfl rfl) rfl ?_ | (refine jdq rfl rfl ?_ ?_ ?_; kernel_rfl; kernel_rfl) | (refine oS (ev_build (t := ?_) rfl rfl rfl ?_) rfl ?_; rotate_left; (repeat (first | exact FillF.nil | refine FillF.cons (by constructor) rfl rfl (by repeat constructor) ?_))) | refine oS (ev_ptr_eql_nil rfl rfl rfl) rfl ?_ | refine oS (ev_ptr_neq_nil rfl rfl rfl) rfl ?_ | refine oS (ev_load rfl rfl (Rdb.ofB (n := 0) .here rfl)) rfl ?_ | refine oS (ev_load rfl rfl (Rdb.ofB (n := 0) (.there .here) rfl)) rfl ?_ | refine oS (ev_load rfl rfl (Rdb.ofB (n := 0) (.there (.there .here)) rfl)) rfl ?_)
      refine ja G1 [] ?_ ?_ ?_; kernel_rfl
      · exact fun w s => s.bare
      refine aT 0 rfl (ev_load_agg rfl rfl (Rdb.ofF hcd) rfl) rfl rfl ?_ ?_ ?_ ?_; kernel_rfl; kernel_rfl; kernel_rfl
      refine aT 1 rfl (ev_load_agg rfl rfl (Rdb.ofF hcf) rfl) rfl rfl ?_ ?_ ?_ ?_; kernel_rfl; kernel_rfl; kernel_rfl
      refine aB (i := 2) (by kernel_rfl) (aC (Hc := []) (Hr := X) rfl (rdual_spec f _ G1 h' hf hr) Try.call33 rfl rfl rfl (fun _ s => s) (fun _ _ _ hF _ w s => (s.mono hF).bare) ?_)
      rintro _ G2 _ hG2 ⟨rfl, co, rfl, hrd⟩
      refine aF hG2 ?_
      rw [show f.dual = d from by rw [← hdd, dual_dual]] at hrd
      replace hcf := hcf.mono hG2
      replace h' := h'.mono hG2
      replace hco' := hco'.mono hG2
      replace hcd := hcd.mono hG2
      have s1 := rsame_spec d d _ _ G2 hco' hrd hdn hdn
      rw [sameB_self] at s1
      refine aB (i := 3) (by kernel_rfl) (aP rfl (s1) Try.call26 rfl rfl rfl (fun _ s => s.bare) ?_)
      (first | refine aT 4 rfl (ev_pv rfl) rfl rfl ?_ ?_ ?_ ?_ | refine aT 4 rfl (eb rfl) rfl rfl ?_ ?_ ?_ ?_ | refine aT 4 rfl (ev_fieldAddr rfl rfl) rfl rfl ?_ ?_ ?_ ?_ | refine aT 4 rfl (ev_cmp_t rfl rfl (by (dsimp only [cmpP] <;> omega))) rfl rfl ?_ ?_ ?_ ?_ | refine aT 4 rfl (ev_cmp_f rfl rfl (by (dsimp only [cmpN] <;> omega))) rfl rfl ?_ ?_ ?_ ?_ | refine aT 4 rfl (ea rfl rfl rfl (by (dsimp only [InK]; first | omega | exact ⟨Int.natCast_nonneg _, by omega⟩))) rfl rfl ?_ ?_ ?_ ?_ | refine aT 4 rfl (ev_bool_eql rfl rfl rfl) rfl rfl ?_ ?_ ?_ ?_); kernel_rfl; kernel_rfl; kernel_rfl
      refine aT 5 rfl (ev_load_agg rfl rfl (Rdb.ofF hcd) rfl) rfl rfl ?_ ?_ ?_ ?_; kernel_rfl; kernel_rfl; kernel_rfl
      refine aT 7 rfl (ev_load_agg rfl rfl (Rdb.ofF hcf) rfl) rfl rfl ?_ ?_ ?_ ?_; kernel_rfl; kernel_rfl; kernel_rfl
      refine aB (i := 6) (by kernel_rfl) (aC (Hc := []) (Hr := X) rfl (Dual_spec d _ G2 hco' hdn) Try.call32 rfl rfl rfl (fun _ s => s) (fun _ _ _ hF _ w s => (s.mono hF).bare) ?_)
      rintro _ G3 _ hG3 ⟨rfl, co3, rfl, hco3⟩
      refine aF hG3 ?_
      rw [hdo, if_pos rfl, hdd] at hco3
      replace hcf := hcf.mono hG3
      replace h' := h'.mono hG3
      replace hco' := hco'.mono hG3
      replace hcd := hcd.mono hG3
      have s2 := rsame_spec f f _ _ G3 hco3 h' hf hf
      rw [sameB_self] at s2
      have s3 := Holds_spec d _ s G3 hco' hdn hs
      have s4 := Holds_spec f _ (cpl s) G3 h' hf (cpl_lt hs)
      rw [hdo, Bool.true_and, hdh] at s3
      rw [hfo, Bool.true_and] at s4
      generalize f.holds (cpl s) = v at s3 s4
      refine aB (i := 8) (by kernel_rfl) (aP rfl (s2) Try.call26 rfl rfl rfl (fun _ s => s.bare) ?_)
      (first | refine aT 9 rfl (ev_pv rfl) rfl rfl ?_ ?_ ?_ ?_ | refine aT 9 rfl (eb rfl) rfl rfl ?_ ?_ ?_ ?_ | refine aT 9 rfl (ev_fieldAddr rfl rfl) rfl rfl ?_ ?_ ?_ ?_ | refine aT 9 rfl (ev_cmp_t rfl rfl (by (dsimp only [cmpP] <;> omega))) rfl rfl ?_ ?_ ?_ ?_ | refine aT 9 rfl (ev_cmp_f rfl rfl (by (dsimp only [cmpN] <;> omega))) rfl rfl ?_ ?_ ?_ ?_ | refine aT 9 rfl (ea rfl rfl rfl (by (dsimp only [InK]; first | omega | exact ⟨Int.natCast_nonneg _, by omega⟩))) rfl rfl ?_ ?_ ?_ ?_ | refine aT 9 rfl (ev_bool_eql rfl rfl rfl) rfl rfl ?_ ?_ ?_ ?_); kernel_rfl; kernel_rfl; kernel_rfl
      (first | refine aT 10 rfl (ev_pv rfl) rfl rfl ?_ ?_ ?_ ?_ | refine aT 10 rfl (eb rfl) rfl rfl ?_ ?_ ?_ ?_ | refine aT 10 rfl (ev_fieldAddr rfl rfl) rfl rfl ?_ ?_ ?_ ?_ | refine aT 10 rfl (ev_cmp_t rfl rfl (by (dsimp only [cmpP] <;> omega))) rfl rfl ?_ ?_ ?_ ?_ | refine aT 10 rfl (ev_cmp_f rfl rfl (by (dsimp only [cmpN] <;> omega))) rfl rfl ?_ ?_ ?_ ?_ | refine aT 10 rfl (ea rfl rfl rfl (by (dsimp only [InK]; first | omega | exact ⟨Int.natCast_nonneg _, by omega⟩))) rfl rfl ?_ ?_ ?_ ?_ | refine aT 10 rfl (ev_bool_eql rfl rfl rfl) rfl rfl ?_ ?_ ?_ ?_); kernel_rfl; kernel_rfl; kernel_rfl
      refine aT 11 rfl (ev_load_agg rfl rfl (Rdb.ofF hcd) rfl) rfl rfl ?_ ?_ ?_ ?_; kernel_rfl; kernel_rfl; kernel_rfl
      (first | refine aT 12 rfl (ev_pv rfl) rfl rfl ?_ ?_ ?_ ?_ | refine aT 12 rfl (eb rfl) rfl rfl ?_ ?_ ?_ ?_ | refine aT 12 rfl (ev_fieldAddr rfl rfl) rfl rfl ?_ ?_ ?_ ?_ | refine aT 12 rfl (ev_cmp_t rfl rfl (by (dsimp only [cmpP] <;> omega))) rfl rfl ?_ ?_ ?_ ?_ | refine aT 12 rfl (ev_cmp_f rfl rfl (by (dsimp only [cmpN] <;> omega))) rfl rfl ?_ ?_ ?_ ?_ | refine aT 12 rfl (ea rfl rfl rfl (by (dsimp only [InK]; first | omega | exact ⟨Int.natCast_nonneg _, by omega⟩))) rfl rfl ?_ ?_ ?_ ?_ | refine aT 12 rfl (ev_bool_eql rfl rfl rfl) rfl rfl ?_ ?_ ?_ ?_); kernel_rfl; kernel_rfl; kernel_rfl
      refine aT 14 rfl (ev_load_agg rfl rfl (Rdb.ofF hcf) rfl) rfl rfl ?_ ?_ ?_ ?_; kernel_rfl; kernel_rfl; kernel_rfl
      (first | refine aT 15 rfl (ev_pv rfl) rfl rfl ?_ ?_ ?_ ?_ | refine aT 15 rfl (eb rfl) rfl rfl ?_ ?_ ?_ ?_ | refine aT 15 rfl (ev_fieldAddr rfl rfl) rfl rfl ?_ ?_ ?_ ?_ | refine aT 15 rfl (ev_cmp_t rfl rfl (by (dsimp only [cmpP] <;> omega))) rfl rfl ?_ ?_ ?_ ?_ | refine aT 15 rfl (ev_cmp_f rfl rfl (by (dsimp only [cmpN] <;> omega))) rfl rfl ?_ ?_ ?_ ?_ | refine aT 15 rfl (ea rfl rfl rfl (by (dsimp only [InK]; first | omega | exact ⟨Int.natCast_nonneg _, by omega⟩))) rfl rfl ?_ ?_ ?_ ?_ | refine aT 15 rfl (ev_bool_eql rfl rfl rfl) rfl rfl ?_ ?_ ?_ ?_); kernel_rfl; kernel_rfl; kernel_rfl
      refine aT 16 rfl (ev_cpl rfl hs) rfl rfl ?_ ?_ ?_ ?_; kernel_rfl; kernel_rfl; kernel_rfl
      refine aB (i := 13) (by kernel_rfl) (aP rfl (s3) Try.call16 rfl rfl rfl (fun _ s => s.bare) ?_)
      refine aB (i := 17) (by kernel_rfl) (aP rfl (s4) Try.call16 rfl rfl rfl (fun _ s => s.bare) ?_)
      (first | refine aT 18 rfl (ev_pv rfl) rfl rfl ?_ ?_ ?_ ?_ | refine aT 18 rfl (eb rfl) rfl rfl ?_ ?_ ?_ ?_ | refine aT 18 rfl (ev_fieldAddr rfl rfl) rfl rfl ?_ ?_ ?_ ?_ | refine aT 18 rfl (ev_cmp_t rfl rfl (by (dsimp only [cmpP] <;> omega))) rfl rfl ?_ ?_ ?_ ?_ | refine aT 18 rfl (ev_cmp_f rfl rfl (by (dsimp only [cmpN] <;> omega))) rfl rfl ?_ ?_ ?_ ?_ | refine aT 18 rfl (ea rfl rfl rfl (by (dsimp only [InK]; first | omega | exact ⟨Int.natCast_nonneg _, by omega⟩))) rfl rfl ?_ ?_ ?_ ?_ | refine aT 18 rfl (ev_bool_eql rfl rfl rfl) rfl rfl ?_ ?_ ?_ ?_); kernel_rfl; kernel_rfl; kernel_rfl
      refine aT 19 rfl (evb_eq_t rfl rfl rfl rfl) rfl rfl ?_ ?_ ?_ ?_; kernel_rfl; kernel_rfl; kernel_rfl
      (first | refine aT 20 rfl (ev_pv rfl) rfl rfl ?_ ?_ ?_ ?_ | refine aT 20 rfl (eb rfl) rfl rfl ?_ ?_ ?_ ?_ | refine aT 20 rfl (ev_fieldAddr rfl rfl) rfl rfl ?_ ?_ ?_ ?_ | refine aT 20 rfl (ev_cmp_t rfl rfl (by (dsimp only [cmpP] <;> omega))) rfl rfl ?_ ?_ ?_ ?_ | refine aT 20 rfl (ev_cmp_f rfl rfl (by (dsimp only [cmpN] <;> omega))) rfl rfl ?_ ?_ ?_ ?_ | refine aT 20 rfl (ea rfl rfl rfl (by (dsimp only [InK]; first | omega | exact ⟨Int.natCast_nonneg _, by omega⟩))) rfl rfl ?_ ?_ ?_ ?_ | refine aT 20 rfl (ev_bool_eql rfl rfl rfl) rfl rfl ?_ ?_ ?_ ?_); kernel_rfl; kernel_rfl; kernel_rfl
      (first | refine aT 21 rfl (ev_pv rfl) rfl rfl ?_ ?_ ?_ ?_ | refine aT 21 rfl (eb rfl) rfl rfl ?_ ?_ ?_ ?_ | refine aT 21 rfl (ev_fieldAddr rfl rfl) rfl rfl ?_ ?_ ?_ ?_ | refine aT 21 rfl (ev_cmp_t rfl rfl (by (dsimp only [cmpP] <;> omega))) rfl rfl ?_ ?_ ?_ ?_ | refine aT 21 rfl (ev_cmp_f rfl rfl (by (dsimp only [cmpN] <;> omega))) rfl rfl ?_ ?_ ?_ ?_ | refine aT 21 rfl (ea rfl rfl rfl (by (dsimp only [InK]; first | omega | exact ⟨Int.natCast_nonneg _, by omega⟩))) rfl rfl ?_ ?_ ?_ ?_ | refine aT 21 rfl (ev_bool_eql rfl rfl rfl) rfl rfl ?_ ?_ ?_ ?_); kernel_rfl; kernel_rfl; kernel_rfl
      refine aD (by kernel_rfl) ?_
      repeat (first | refine jc rfl rfl ?_ | refine jr rfl ?_ | refine jn ?_ | refine oM rfl rfl ?_ | refine oS (ev_pv rfl) rfl ?_ | refine oX rfl ?_ | refine J_cond_t rfl ?_ | refine J_cond_f rfl ?_ | refine oS (eb rfl) rfl ?_ | (refine oS (ev_cmp_t rfl rfl ?_) rfl ?_; (dsimp only [cmpP] <;> omega)) | (refine oS (ev_cmp_f rfl rfl ?_) rfl ?_; (dsimp only [cmpN] <;> omega)) | (refine oS (ea rfl rfl rfl ?_) rfl ?_; (dsimp only [InK]; first | omega | exact ⟨Int.natCast_nonneg _, by omega⟩)) | (refine oS (ed rfl rfl rfl ?_ ?_ ?_) rfl ?_; (first | omega | exact Int.natCast_nonneg _); (first | omega | exact Int.natCast_nonneg _); (dsimp only [InK]; first | omega | exact ⟨Int.natCast_nonneg _, by omega⟩)) | refine oS (ev_fieldAddr rfl rfl) rfl ?_ | (refine oS (ev_conv rfl rfl rfl (wrap_in ?_)) rfl ?_; (dsimp only [InK]; first | omega | exact ⟨Int.natCast_nonneg _, by omega⟩)) | refine oS (ev_bool_eql rfl rfl rfl) rfl ?_ | refine oS (eg rfl rfl rfl) rfl ?_ | (refine jdq rfl rfl ?_ ?_ ?_; kernel_rfl; kernel_rfl) | (refine oS (ev_build (t := ?_) rfl rfl rfl ?_) rfl ?_; rotate_left; (repeat (first | exact FillF.nil | refine FillF.cons (by constructor) rfl rfl (by repeat constructor) ?_))) | refine oS (ev_ptr_eql_nil rfl rfl rfl) rfl ?_ | refine oS (ev_ptr_neq_nil rfl rfl rfl) rfl ?_ | refine oS (ev_load rfl rfl (Rdb.ofB (n := 0) .here rfl)) rfl ?_ | refine oS (ev_load rfl rfl (Rdb.ofB (n := 0) (.there .here) rfl)) rfl ?_ | refine oS (ev_load rfl rfl (Rdb.ofB (n := 0) (.there (.there .here)) rfl)) rfl ?_)
      exact J_retv rfl (.tmp rfl .nil) [] (fun w s => s) (hle.trans (hle2.trans (hG2.trans hG3))) ⟨rfl, rfl⟩
open Go.ChangeShapes Go.WideShapes Go.ChangeAt
set_option maxRecDepth 100000 in theorem MinimalDual_lifted (os : Os) (started : os.Started) (H : Type) (enc : TypeId × Value → H) : ReturnsInHanded {} Try.checked os 8 .any (Rows.minimalDualSpec.pre6 enc Try.prog Try.f8 Rows.minimalDualRow.domain false) (Rows.minimalDualSpec.post enc Try.prog Try.f8 false true false false) := by
  refine returnsInHanded_of_change (C := Try.checked) own_knob started (by kernel_rfl) Try.func8 (ChangeSpec.witness6 (enc := enc) (C := Try.checked) false ⟨#[], #[.agg #[.int .i64 0, .int .i64 0, .slice none 0 0], .int .u32 0], []⟩ 8 (by kernel_rfl) (by kernel_rfl) (by kernel_rfl) (by kernel_rfl)) ?_; intro W base args ds gs before hval0 hW hcnd _; have hval : ∀ (j : Nat) t v, Try.f8.params[j]? = some t → args[j]? = some v → Value.okWide Try.prog W .any base t v := hval0; have hW' := hW; obtain ⟨p, q, hA0, hV, hp, hfz, hnd⟩ := hW; have hA : DataW.TrodAll enc Try.prog W 0 (fun _ => true) true Try.f8.params.toList args.toList ds p := hA0; obtain ⟨rfl, rfl⟩ := trodVars_none hV; rw [List.append_nil] at hp; have hA' := hA; rw [Try.params8] at hA hval
  obtain ⟨v0, vs0, d0, ds0, p0, q0, hargs, rfl, rfl, h0, r0⟩ := trodAll_cons hA; obtain ⟨v1, vs1, d1, ds1, p1, q1, rfl, rfl, rfl, h1, r1⟩ := trodAll_cons r0; obtain ⟨rfl, rfl, rfl⟩ := trodAll_nil r1; obtain rfl : args = #[v0, v1] := by cases args; simp_all
  obtain ⟨f, cs, rfl, hrep⟩ := open_formula (hval 0 24 v0 rfl rfl) h0
  obtain ⟨u, rfl, rfl, rfl, w2⟩ := open_int Try.underlying25 (hval 1 25 v1 rfl rfl) h1
  have hw2 := bounds_u32 w2
  obtain ⟨m2, rfl⟩ : ∃ b : Nat, u = (b : Int) := ⟨u.toNat, by omega⟩
  refine (law_walk (MinimalDual_walk f cs m2 (ph W) hrep (by omega))).mono fun e W' ⟨he, hb⟩ => ?_
  subst he
  exact ⟨_, rfl, law_post laid_out (by kernel_rfl) rfl rfl Try.underlying4 hW' hA' hp rfl hb⟩
theorem MinimalDual_holds : Rows.MinimalDualSaid := OpenClaim.holds_of_wide 8 Try.f8 rfl rfl rfl rfl rfl rfl rfl ⟨rfl, rfl, rfl, rfl, rfl⟩ rfl rfl rfl rfl rfl (by kernel_rfl) Try.func8 (by kernel_rfl) (of_decide_eq_true (by kernel_rfl)) (by unfold Func.isWrapper; first | (rw [if_pos (by decide +kernel)]; kernel_rfl) | (rw [if_neg (by decide +kernel)]; exact ⟨rfl, rfl⟩)) (fun os started H enc _ => MinimalDual_lifted os started H enc)
#print axioms MinimalDual_holds
end Go.Proofs.Ytknhcjdcenoniaa
