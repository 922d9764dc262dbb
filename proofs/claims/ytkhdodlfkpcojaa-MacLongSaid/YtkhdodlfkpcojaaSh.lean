/-
  The calls whose answers the document fixes, of sums. No condition.
-/
import Derived.Test.YtkhdodlfkpcojaaSg
import Derived.Test.YtkhdodlfkpcojaaKq
namespace Go.Proofs.Ytkhdodlfkpcojaa
open Go.RowKit
theorem blk_byt {F h : PH} {b E n : Nat} {bs : List UInt8} (hA : blk b E (u8s bs) h) (hd : F.dj h) (hn : n = bs.length) : Byt (F.un h) (.slice (some ⟨b, 0, none⟩) n n) bs := by
  subst hn
  exact ⟨by rw [u8s_len, Nat.mul_one], _, _, rfl, Nat.le_refl _, fun _ => ⟨b, 0, rfl, blk_cells hA hd⟩⟩
theorem cells_byt {F : PH} {b n : Nat} {bs : List UInt8} (hc : Cells F b 0 (u8s bs)) (hn : n = bs.length) : Byt F (.slice (some ⟨b, 0, none⟩) n n) bs := by
  subst hn
  exact ⟨by rw [u8s_len, Nat.mul_one], _, _, rfl, Nat.le_refl _, fun _ => ⟨b, 0, rfl, hc⟩⟩
theorem abc : ∃ r, sumB [97, 98, 99] = 186 :: 120 :: 22 :: 191 :: r ∧ (186 :: 120 :: 22 :: 191 :: r : List UInt8).length = 32 := by
  refine ⟨(sumB [97, 98, 99]).drop 4, ?_, ?_⟩
  · decide +kernel
  · decide +kernel
set_option maxHeartbeats 4000000 in
theorem sfixed_true (F : PH) : Pure Try.prog 9 [] F (.bool true) := by
  refine Spec.of0 Try.func9 rfl fun X w0 => ?_
  repeat (first | refine jc rfl rfl ?_ | refine jr rfl ?_ | refine jn ?_ | refine oM rfl rfl ?_ | refine oS (ev_pv rfl) rfl ?_ | refine oX rfl ?_ | refine J_cond_t rfl ?_ | refine J_cond_f rfl ?_ | refine oS (eb rfl) rfl ?_ | (refine oS (ev_cmp_t rfl rfl ?_) rfl ?_; (dsimp only [cmpP] <;> omega)) | (refine oS (ev_cmp_f rfl rfl ?_) rfl ?_; (dsimp only [cmpN] <;> omega)) | (refine oS (ea rfl rfl rfl ?_) rfl ?_; (dsimp only [InK]; first | omega | exact ⟨Int.natCast_nonneg _, by omega⟩)) | (refine oS (ed rfl rfl rfl ?_ ?_ ?_) rfl ?_; (first | omega | exact Int.natCast_nonneg _); (first | omega | exact Int.natCast_nonneg _); (dsimp only [InK]; first | omega | exact ⟨Int.natCast_nonneg _, by omega⟩)) | refine oS (ev_fieldAddr rfl rfl) rfl ?_ | (refine oS (ev_conv rfl rfl rfl (wrap_in ?_)) rfl ?_; (dsimp only [InK]; first | omega | exact ⟨Int.natCast_nonneg _, by omega⟩)) | refine oS (ev_bool_eql rfl rfl rfl) rfl ?_ | refine oS (eg rfl rfl rfl) rfl ?_ | (refine jdq rfl rfl ?_ ?_ ?_; kernel_rfl; kernel_rfl) | (refine oS (ev_build (t := ?_) rfl rfl rfl ?_) rfl ?_; rotate_left; (repeat (first | exact FillF.nil | refine FillF.cons (by constructor) rfl rfl (by repeat constructor) ?_))) | refine oS (ev_ptr_eql_nil rfl rfl rfl) rfl ?_ | refine oS (ev_ptr_neq_nil rfl rfl rfl) rfl ?_ | refine oS (ev_load rfl rfl (Rdb.ofB (n := 0) .here rfl)) rfl ?_ | refine oS (ev_load rfl rfl (Rdb.ofB (n := 0) (.there .here) rfl)) rfl ?_ | refine oS (ev_load rfl rfl (Rdb.ofB (n := 0) (.there (.there .here)) rfl)) rfl ?_)
  refine oE (ev_buildSlice (t := u8s [97, 98, 99]) rfl elB.es elB.zs.1 elB.zs.2 rfl rfl (by repeat constructor)) rfl ?_
  rintro _ _ _ _ ⟨rfl, b1, rfl, rfl⟩
  refine oE (ev_bytes_bytes rfl rfl rfl .here) rfl ?_
  rintro _ F1 H1 hF1 ⟨rfl, hc1, hH1⟩
  rw [hH1]
  clear hH1 H1
  have hb1 := cells_byt (n := 3) hc1 rfl
  refine oP (sum_spec _ _ F1 hb1 (by decide)) Try.call15 rfl rfl ?_
  obtain ⟨r, hr, hr32⟩ := abc
  rw [hr]
  have h32 : (u8s (186 :: 120 :: 22 :: 191 :: r)).length = 32 := by rw [u8s_len]; exact hr32
  refine oE (ev_alloc (cs := z32) rfl) rfl ?_
  rintro _ _ _ _ ⟨rfl, b2, rfl, rfl⟩
  refine oN (ev_store (b := b2) rfl rfl .agg rfl h32 (lay_all (zs := z32) h32) (u8s_ones _) .here) rfl ?_
  rintro _ _ _ _ ⟨rfl, _, rfl⟩
  repeat (first | refine jc rfl rfl ?_ | refine jr rfl ?_ | refine jn ?_ | refine oM rfl rfl ?_ | refine oS (eu rfl rfl rfl) rfl ?_ | refine oS (eus rfl rfl (by decide)) rfl ?_ | refine oS (eun rfl) rfl ?_ | refine oS (ev_indexAddr_arr (i := 0) rfl rfl rfl (by decide)) rfl ?_ | refine oS (ev_indexAddr_arr (i := 1) rfl rfl rfl (by decide)) rfl ?_ | refine oS (ev_indexAddr_arr (i := 2) rfl rfl rfl (by decide)) rfl ?_ | refine oS (ev_indexAddr_arr (i := 3) rfl rfl rfl (by decide)) rfl ?_ | refine jc rfl rfl ?_ | refine jr rfl ?_ | refine jn ?_ | refine oM rfl rfl ?_ | refine oS (ev_pv rfl) rfl ?_ | refine oX rfl ?_ | refine J_cond_t rfl ?_ | refine J_cond_f rfl ?_ | refine oS (eb rfl) rfl ?_ | (refine oS (ev_cmp_t rfl rfl ?_) rfl ?_; (dsimp only [cmpP] <;> omega)) | (refine oS (ev_cmp_f rfl rfl ?_) rfl ?_; (dsimp only [cmpN] <;> omega)) | (refine oS (ea rfl rfl rfl ?_) rfl ?_; (dsimp only [InK]; first | omega | exact ⟨Int.natCast_nonneg _, by omega⟩)) | (refine oS (ed rfl rfl rfl ?_ ?_ ?_) rfl ?_; (first | omega | exact Int.natCast_nonneg _); (first | omega | exact Int.natCast_nonneg _); (dsimp only [InK]; first | omega | exact ⟨Int.natCast_nonneg _, by omega⟩)) | refine oS (ev_fieldAddr rfl rfl) rfl ?_ | (refine oS (ev_conv rfl rfl rfl (wrap_in ?_)) rfl ?_; (dsimp only [InK]; first | omega | exact ⟨Int.natCast_nonneg _, by omega⟩)) | refine oS (ev_bool_eql rfl rfl rfl) rfl ?_ | refine oS (eg rfl rfl rfl) rfl ?_ | (refine jdq rfl rfl ?_ ?_ ?_; kernel_rfl; kernel_rfl) | (refine oS (ev_build (t := ?_) rfl rfl rfl ?_) rfl ?_; rotate_left; (repeat (first | exact FillF.nil | refine FillF.cons (by constructor) rfl rfl (by repeat constructor) ?_))) | refine oS (ev_ptr_eql_nil rfl rfl rfl) rfl ?_ | refine oS (ev_load rfl rfl (Rdb.ofB (n := 0) .here rfl)) rfl ?_ | refine oS (ev_load rfl rfl (Rdb.ofB (n := 0) (.there .here) rfl)) rfl ?_ | refine oS (ev_load rfl rfl (Rdb.ofB (n := 0) (.there (.there .here)) rfl)) rfl ?_)
  have ht := turn_nat 1#32 1 (by decide) F1
  rw [show rot 1 1#32 = 0x80000000#32 from by decide +kernel] at ht
  refine oP (ht) Try.call10 rfl rfl ?_
  refine oS (ev_cmp_t (op := .eql) (k := .u32) (m := 2147483648) (n := 2147483648) rfl rfl rfl) rfl ?_
  repeat (first | refine jc rfl rfl ?_ | refine jr rfl ?_ | refine jn ?_ | refine oM rfl rfl ?_ | refine oS (eu rfl rfl rfl) rfl ?_ | refine oS (eus rfl rfl (by decide)) rfl ?_ | refine oS (eun rfl) rfl ?_ | refine oS (ev_indexAddr_arr (i := 0) rfl rfl rfl (by decide)) rfl ?_ | refine oS (ev_indexAddr_arr (i := 1) rfl rfl rfl (by decide)) rfl ?_ | refine oS (ev_indexAddr_arr (i := 2) rfl rfl rfl (by decide)) rfl ?_ | refine oS (ev_indexAddr_arr (i := 3) rfl rfl rfl (by decide)) rfl ?_ | refine jc rfl rfl ?_ | refine jr rfl ?_ | refine jn ?_ | refine oM rfl rfl ?_ | refine oS (ev_pv rfl) rfl ?_ | refine oX rfl ?_ | refine J_cond_t rfl ?_ | refine J_cond_f rfl ?_ | refine oS (eb rfl) rfl ?_ | (refine oS (ev_cmp_t rfl rfl ?_) rfl ?_; (dsimp only [cmpP] <;> omega)) | (refine oS (ev_cmp_f rfl rfl ?_) rfl ?_; (dsimp only [cmpN] <;> omega)) | (refine oS (ea rfl rfl rfl ?_) rfl ?_; (dsimp only [InK]; first | omega | exact ⟨Int.natCast_nonneg _, by omega⟩)) | (refine oS (ed rfl rfl rfl ?_ ?_ ?_) rfl ?_; (first | omega | exact Int.natCast_nonneg _); (first | omega | exact Int.natCast_nonneg _); (dsimp only [InK]; first | omega | exact ⟨Int.natCast_nonneg _, by omega⟩)) | refine oS (ev_fieldAddr rfl rfl) rfl ?_ | (refine oS (ev_conv rfl rfl rfl (wrap_in ?_)) rfl ?_; (dsimp only [InK]; first | omega | exact ⟨Int.natCast_nonneg _, by omega⟩)) | refine oS (ev_bool_eql rfl rfl rfl) rfl ?_ | refine oS (eg rfl rfl rfl) rfl ?_ | (refine jdq rfl rfl ?_ ?_ ?_; kernel_rfl; kernel_rfl) | (refine oS (ev_build (t := ?_) rfl rfl rfl ?_) rfl ?_; rotate_left; (repeat (first | exact FillF.nil | refine FillF.cons (by constructor) rfl rfl (by repeat constructor) ?_))) | refine oS (ev_ptr_eql_nil rfl rfl rfl) rfl ?_ | refine oS (ev_load rfl rfl (Rdb.ofB (n := 0) .here rfl)) rfl ?_ | refine oS (ev_load rfl rfl (Rdb.ofB (n := 0) (.there .here) rfl)) rfl ?_ | refine oS (ev_load rfl rfl (Rdb.ofB (n := 0) (.there (.there .here)) rfl)) rfl ?_)
  exact J_retv rfl (.tmp rfl .nil) [] (fun w s => s.drop) hF1 ⟨rfl, rfl⟩
end Go.Proofs.Ytkhdodlfkpcojaa
