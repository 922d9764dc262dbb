/-
  The law's fixed cases of the octets. No condition.
-/
import Derived.Test.YtgbljldpamjcpaaOg
namespace Go.Proofs.Ytgbljldpamjcpaa
open Go.RowKit
section
variable {P : Program} {l : Env} {F : PH} {H Hr : List Asrt} {d : Option Nat} {T T' U E : TypeId} {pos : String} {af : Array Edge} {g : Option (Nat × Bool)} {x y : Operand}
theorem ev_str_t {s t : ByteArray} (hx : opv l x = some (.string s)) (hy : opv l y = some (.string t)) (h : s = t) : Ev P ⟨d, .binOp .eql T x y T', U, pos, af, g⟩ l F H (.bool true) := by
  have := ev_str_eql (P := P) (F := F) (H := H) (d := d) (T := T) (T' := T') (U := U) (pos := pos) (af := af) (g := g) hx hy
  rwa [decide_eq_true (by rw [h])] at this
theorem ev_str_nt {s t : ByteArray} (hx : opv l x = some (.string s)) (hy : opv l y = some (.string t)) (h : s = t) : Ev P ⟨d, .binOp .neq T x y T', U, pos, af, g⟩ l F H (.bool false) := by
  have := ev_str_neq (P := P) (F := F) (H := H) (d := d) (T := T) (T' := T') (U := U) (pos := pos) (af := af) (g := g) hx hy
  rwa [decide_eq_true (by rw [h])] at this
end
theorem blk_byt {F h : PH} {b E n : Nat} {bs : List UInt8} (hA : blk b E (u8s bs) h) (hd : F.dj h) (hn : n = bs.length) : Byt (F.un h) (.slice (some ⟨b, 0, none⟩) n n) bs := by
  subst hn
  exact ⟨by rw [u8s_len, Nat.mul_one], _, _, rfl, Nat.le_refl _, fun _ => ⟨b, 0, rfl, blk_cells hA hd⟩⟩
theorem cells_byt {F : PH} {b n : Nat} {bs : List UInt8} (hc : Cells F b 0 (u8s bs)) (hn : n = bs.length) : Byt F (.slice (some ⟨b, 0, none⟩) n n) bs := by
  subst hn
  exact ⟨by rw [u8s_len, Nat.mul_one], _, _, rfl, Nat.le_refl _, fun _ => ⟨b, 0, rfl, hc⟩⟩
set_option maxHeartbeats 8000000 in
theorem fixed_true (F : PH) : Pure Try.prog 10 [] F (.bool true) := by
  refine Spec.of0 Try.func10 rfl fun X w0 => ?_
  refine jc rfl rfl ?_
  refine jr rfl ?_
  refine oM rfl rfl ?_
  refine jn ?_
  refine jc rfl rfl ?_
  refine jr rfl ?_
  refine oE (ev_buildSlice (t := u8s [1, 2, 0, 0, 0, 1, 97, 255]) rfl elB.es elB.zs.1 elB.zs.2 rfl rfl (by repeat constructor)) rfl ?_
  rintro _ _ _ _ ⟨rfl, b1, rfl, rfl⟩
  refine oPersist fun h1 hA1 hd1 => ?_
  have hb1 := blk_byt (n := 8) hA1 hd1 rfl
  refine oC (Hc := []) (Hr := X) (read_spec _ _ _ hb1 (by decide)) Try.call15 rfl rfl (fun _ s => s) ?_
  rintro _ F1 _ hF1 ⟨b, v1, rfl, hv1, rfl⟩
  repeat (first | refine jc rfl rfl ?_ | refine jr rfl ?_ | refine jn ?_ | refine oM rfl rfl ?_ | refine oS (ev_pv rfl) rfl ?_ | refine oX rfl ?_ | refine J_cond_t rfl ?_ | refine J_cond_f rfl ?_ | refine oS (eb rfl) rfl ?_ | (refine oS (ev_cmp_t rfl rfl ?_) rfl ?_; (dsimp only [cmpP] <;> omega)) | (refine oS (ev_cmp_f rfl rfl ?_) rfl ?_; (dsimp only [cmpN] <;> omega)) | (refine oS (ea rfl rfl rfl ?_) rfl ?_; (dsimp only [InK]; first | omega | exact ⟨Int.natCast_nonneg _, by omega⟩)) | (refine oS (ed rfl rfl rfl ?_ ?_ ?_) rfl ?_; (first | omega | exact Int.natCast_nonneg _); (first | omega | exact Int.natCast_nonneg _); (dsimp only [InK]; first | omega | exact ⟨Int.natCast_nonneg _, by omega⟩)) | refine oS (ev_fieldAddr rfl rfl) rfl ?_ | (refine oS (ev_conv rfl rfl rfl (wrap_in ?_)) rfl ?_; (dsimp only [InK]; first | omega | exact ⟨Int.natCast_nonneg _, by omega⟩)) | refine oS (ev_bool_eql rfl rfl rfl) rfl ?_ | refine oS (eg rfl rfl rfl) rfl ?_ | (refine jdq rfl rfl ?_ ?_ ?_; kernel_rfl; kernel_rfl) | (refine oS (ev_build (t := ?_) rfl rfl rfl ?_) rfl ?_; rotate_left; (repeat (first | exact FillF.nil | refine FillF.cons (by constructor) rfl rfl (by repeat constructor) ?_))) | refine oS (ev_ptr_eql_nil rfl rfl rfl) rfl ?_ | refine oS (ev_ptr_neq_nil rfl rfl rfl) rfl ?_ | refine oS (ev_load rfl rfl (Rdb.ofB (n := 0) .here rfl)) rfl ?_ | refine oS (ev_load rfl rfl (Rdb.ofB (n := 0) (.there .here) rfl)) rfl ?_ | refine oS (ev_load rfl rfl (Rdb.ofB (n := 0) (.there (.there .here)) rfl)) rfl ?_)
  refine oC (Hc := [rdr b v1 0]) (Hr := X) (number_spec b v1 0 2 _ F1 hv1 (by decide)) Try.call16 rfl rfl (fun _ s => s) ?_
  rintro _ F2 _ hF2 ⟨v2, rfl, hv2, rfl⟩
  have e2 : numR 0 [1, 2, 0, 0, 0, 1, 97, 255] 2 = (258, 0, [0, 0, 0, 1, 97, 255]) := by decide +kernel
  rw [e2] at hv2 ⊢
  dsimp only at hv2 ⊢
  refine oM rfl rfl ?_
  refine oC (Hc := [rdr b v2 0]) (Hr := X) (rrow_spec b v2 0 9 _ F2 hv2 (by decide)) Try.call20 rfl rfl (fun _ s => s) ?_
  rintro ru F3 _ hF3 ⟨v3, hru, hv3, rfl⟩
  have e3 : rowR 0 [0, 0, 0, 1, 97, 255] 9 = ([97], 0, [255]) := by decide +kernel
  rw [e3] at hv3 hru ⊢
  dsimp only at hv3 hru ⊢
  refine oM rfl rfl ?_
  refine jn ?_
  refine jc rfl rfl ?_
  refine jr rfl ?_
  refine oC (Hc := []) (Hr := rdr b v3 0 :: X) (put_spec none 0 258 2 [] F3 (Byt.nil F3) (Nat.le_refl _) (by decide) (by decide)) Try.call11 rfl rfl (fun _ s => s) ?_
  rintro pu _ _ _ ⟨rfl, rfl⟩
  refine oWith .here OwnForm.of fun hf1 => ?_
  refine oS (eb_string rfl (RdB.own hf1 .here)) rfl ?_
  refine oS (ev_str_t rfl rfl (by decide +kernel)) rfl ?_
  refine oDrop ?_
  refine oM rfl rfl ?_
  refine oE (ev_buildSlice (t := u8s [97]) rfl elB.es elB.zs.1 elB.zs.2 rfl rfl (by repeat constructor)) rfl ?_
  rintro _ _ _ _ ⟨rfl, b4, rfl, rfl⟩
  refine oE (ev_bytes_bytes rfl rfl rfl .here) rfl ?_
  rintro _ F4 _ hF4 ⟨rfl, hc4, rfl⟩
  have hb4 := cells_byt (n := 1) hc4 rfl
  refine oC (Hc := []) (Hr := rdr b v3 0 :: X) (row_spec none (some ⟨b4, 0, none⟩) 0 1 [] [97] F4 (Byt.nil F4) (Nat.le_refl _) hb4 (by decide) (by decide)) Try.call12 rfl rfl (fun _ s => s) ?_
  rintro pu _ _ _ ⟨rfl, rfl⟩
  refine oWith .here OwnForm.of fun hf1 => ?_
  refine oS (eb_string rfl (RdB.own hf1 .here)) rfl ?_
  refine oS (ev_str_t rfl rfl (by decide +kernel)) rfl ?_
  refine oDrop ?_
  repeat (first | refine jc rfl rfl ?_ | refine jr rfl ?_ | refine jn ?_ | refine oM rfl rfl ?_ | refine oS (ev_pv rfl) rfl ?_ | refine oX rfl ?_ | refine J_cond_t rfl ?_ | refine J_cond_f rfl ?_ | refine oS (eb rfl) rfl ?_ | (refine oS (ev_cmp_t rfl rfl ?_) rfl ?_; (dsimp only [cmpP] <;> omega)) | (refine oS (ev_cmp_f rfl rfl ?_) rfl ?_; (dsimp only [cmpN] <;> omega)) | (refine oS (ea rfl rfl rfl ?_) rfl ?_; (dsimp only [InK]; first | omega | exact ⟨Int.natCast_nonneg _, by omega⟩)) | (refine oS (ed rfl rfl rfl ?_ ?_ ?_) rfl ?_; (first | omega | exact Int.natCast_nonneg _); (first | omega | exact Int.natCast_nonneg _); (dsimp only [InK]; first | omega | exact ⟨Int.natCast_nonneg _, by omega⟩)) | refine oS (ev_fieldAddr rfl rfl) rfl ?_ | (refine oS (ev_conv rfl rfl rfl (wrap_in ?_)) rfl ?_; (dsimp only [InK]; first | omega | exact ⟨Int.natCast_nonneg _, by omega⟩)) | refine oS (ev_bool_eql rfl rfl rfl) rfl ?_ | refine oS (eg rfl rfl rfl) rfl ?_ | (refine jdq rfl rfl ?_ ?_ ?_; kernel_rfl; kernel_rfl) | (refine oS (ev_build (t := ?_) rfl rfl rfl ?_) rfl ?_; rotate_left; (repeat (first | exact FillF.nil | refine FillF.cons (by constructor) rfl rfl (by repeat constructor) ?_))) | refine oS (ev_ptr_eql_nil rfl rfl rfl) rfl ?_ | refine oS (ev_ptr_neq_nil rfl rfl rfl) rfl ?_ | refine oS (ev_load rfl rfl (Rdb.ofB (n := 0) .here rfl)) rfl ?_ | refine oS (ev_load rfl rfl (Rdb.ofB (n := 0) (.there .here) rfl)) rfl ?_ | refine oS (ev_load rfl rfl (Rdb.ofB (n := 0) (.there (.there .here)) rfl)) rfl ?_)
  refine oS (eb_string rfl ((hru.mono hF4).rds)) rfl ?_
  refine oS (ev_str_t rfl rfl (by decide +kernel)) rfl ?_
  repeat (first | refine jc rfl rfl ?_ | refine jr rfl ?_ | refine jn ?_ | refine oM rfl rfl ?_ | refine oS (ev_pv rfl) rfl ?_ | refine oX rfl ?_ | refine J_cond_t rfl ?_ | refine J_cond_f rfl ?_ | refine oS (eb rfl) rfl ?_ | (refine oS (ev_cmp_t rfl rfl ?_) rfl ?_; (dsimp only [cmpP] <;> omega)) | (refine oS (ev_cmp_f rfl rfl ?_) rfl ?_; (dsimp only [cmpN] <;> omega)) | (refine oS (ea rfl rfl rfl ?_) rfl ?_; (dsimp only [InK]; first | omega | exact ⟨Int.natCast_nonneg _, by omega⟩)) | (refine oS (ed rfl rfl rfl ?_ ?_ ?_) rfl ?_; (first | omega | exact Int.natCast_nonneg _); (first | omega | exact Int.natCast_nonneg _); (dsimp only [InK]; first | omega | exact ⟨Int.natCast_nonneg _, by omega⟩)) | refine oS (ev_fieldAddr rfl rfl) rfl ?_ | (refine oS (ev_conv rfl rfl rfl (wrap_in ?_)) rfl ?_; (dsimp only [InK]; first | omega | exact ⟨Int.natCast_nonneg _, by omega⟩)) | refine oS (ev_bool_eql rfl rfl rfl) rfl ?_ | refine oS (eg rfl rfl rfl) rfl ?_ | (refine jdq rfl rfl ?_ ?_ ?_; kernel_rfl; kernel_rfl) | (refine oS (ev_build (t := ?_) rfl rfl rfl ?_) rfl ?_; rotate_left; (repeat (first | exact FillF.nil | refine FillF.cons (by constructor) rfl rfl (by repeat constructor) ?_))) | refine oS (ev_ptr_eql_nil rfl rfl rfl) rfl ?_ | refine oS (ev_ptr_neq_nil rfl rfl rfl) rfl ?_ | refine oS (ev_load rfl rfl (Rdb.ofB (n := 0) .here rfl)) rfl ?_ | refine oS (ev_load rfl rfl (Rdb.ofB (n := 0) (.there .here) rfl)) rfl ?_ | refine oS (ev_load rfl rfl (Rdb.ofB (n := 0) (.there (.there .here)) rfl)) rfl ?_)
  refine oC (Hc := [rdr b v3 0]) (Hr := X) (range_spec b v3 0 1 (-5) 5 _ F4 (hv3.mono hF4) (by decide)) Try.call18 rfl rfl (fun _ s => s) ?_
  rintro _ F5 _ hF5 ⟨v5, rfl, hv5, rfl⟩
  have e5 : rngR 0 [255] 1 (-5) 5 = (-1, 0, []) := by decide +kernel
  rw [e5] at hv5 ⊢
  dsimp only at hv5 ⊢
  repeat (first | refine jc rfl rfl ?_ | refine jr rfl ?_ | refine jn ?_ | refine oM rfl rfl ?_ | refine oS (ev_pv rfl) rfl ?_ | refine oX rfl ?_ | refine J_cond_t rfl ?_ | refine J_cond_f rfl ?_ | refine oS (eb rfl) rfl ?_ | (refine oS (ev_cmp_t rfl rfl ?_) rfl ?_; (dsimp only [cmpP] <;> omega)) | (refine oS (ev_cmp_f rfl rfl ?_) rfl ?_; (dsimp only [cmpN] <;> omega)) | (refine oS (ea rfl rfl rfl ?_) rfl ?_; (dsimp only [InK]; first | omega | exact ⟨Int.natCast_nonneg _, by omega⟩)) | (refine oS (ed rfl rfl rfl ?_ ?_ ?_) rfl ?_; (first | omega | exact Int.natCast_nonneg _); (first | omega | exact Int.natCast_nonneg _); (dsimp only [InK]; first | omega | exact ⟨Int.natCast_nonneg _, by omega⟩)) | refine oS (ev_fieldAddr rfl rfl) rfl ?_ | (refine oS (ev_conv rfl rfl rfl (wrap_in ?_)) rfl ?_; (dsimp only [InK]; first | omega | exact ⟨Int.natCast_nonneg _, by omega⟩)) | refine oS (ev_bool_eql rfl rfl rfl) rfl ?_ | refine oS (eg rfl rfl rfl) rfl ?_ | (refine jdq rfl rfl ?_ ?_ ?_; kernel_rfl; kernel_rfl) | (refine oS (ev_build (t := ?_) rfl rfl rfl ?_) rfl ?_; rotate_left; (repeat (first | exact FillF.nil | refine FillF.cons (by constructor) rfl rfl (by repeat constructor) ?_))) | refine oS (ev_ptr_eql_nil rfl rfl rfl) rfl ?_ | refine oS (ev_ptr_neq_nil rfl rfl rfl) rfl ?_ | refine oS (ev_load rfl rfl (Rdb.ofB (n := 0) .here rfl)) rfl ?_ | refine oS (ev_load rfl rfl (Rdb.ofB (n := 0) (.there .here) rfl)) rfl ?_ | refine oS (ev_load rfl rfl (Rdb.ofB (n := 0) (.there (.there .here)) rfl)) rfl ?_)
  refine oC (Hc := [rdr b v5 0]) (Hr := X) (end_spec b v5 0 _ F5 hv5) Try.call26 rfl rfl (fun _ s => s) ?_
  rintro _ _ _ _ ⟨rfl, rfl, rfl⟩
  rw [show endR 0 [] = 0 from rfl]
  repeat (first | refine jc rfl rfl ?_ | refine jr rfl ?_ | refine jn ?_ | refine oM rfl rfl ?_ | refine oS (ev_pv rfl) rfl ?_ | refine oX rfl ?_ | refine J_cond_t rfl ?_ | refine J_cond_f rfl ?_ | refine oS (eb rfl) rfl ?_ | (refine oS (ev_cmp_t rfl rfl ?_) rfl ?_; (dsimp only [cmpP] <;> omega)) | (refine oS (ev_cmp_f rfl rfl ?_) rfl ?_; (dsimp only [cmpN] <;> omega)) | (refine oS (ea rfl rfl rfl ?_) rfl ?_; (dsimp only [InK]; first | omega | exact ⟨Int.natCast_nonneg _, by omega⟩)) | (refine oS (ed rfl rfl rfl ?_ ?_ ?_) rfl ?_; (first | omega | exact Int.natCast_nonneg _); (first | omega | exact Int.natCast_nonneg _); (dsimp only [InK]; first | omega | exact ⟨Int.natCast_nonneg _, by omega⟩)) | refine oS (ev_fieldAddr rfl rfl) rfl ?_ | (refine oS (ev_conv rfl rfl rfl (wrap_in ?_)) rfl ?_; (dsimp only [InK]; first | omega | exact ⟨Int.natCast_nonneg _, by omega⟩)) | refine oS (ev_bool_eql rfl rfl rfl) rfl ?_ | refine oS (eg rfl rfl rfl) rfl ?_ | (refine jdq rfl rfl ?_ ?_ ?_; kernel_rfl; kernel_rfl) | (refine oS (ev_build (t := ?_) rfl rfl rfl ?_) rfl ?_; rotate_left; (repeat (first | exact FillF.nil | refine FillF.cons (by constructor) rfl rfl (by repeat constructor) ?_))) | refine oS (ev_ptr_eql_nil rfl rfl rfl) rfl ?_ | refine oS (ev_ptr_neq_nil rfl rfl rfl) rfl ?_ | refine oS (ev_load rfl rfl (Rdb.ofB (n := 0) .here rfl)) rfl ?_ | refine oS (ev_load rfl rfl (Rdb.ofB (n := 0) (.there .here) rfl)) rfl ?_ | refine oS (ev_load rfl rfl (Rdb.ofB (n := 0) (.there (.there .here)) rfl)) rfl ?_)
  exact J_retv rfl (.tmp rfl .nil) [] (fun w s => s.drop) ((PH.le_l _ _).trans (hF1.trans (hF2.trans (hF3.trans (hF4.trans hF5))))) ⟨rfl, rfl⟩
end Go.Proofs.Ytgbljldpamjcpaa
