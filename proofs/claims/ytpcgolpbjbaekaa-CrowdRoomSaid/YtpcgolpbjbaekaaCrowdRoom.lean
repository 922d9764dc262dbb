/-
  No more parcels find room in a crowd than may be, and the first ones are there (CrowdRoom). No condition.
-/
import Derived.Test.YtpcgolpbjbaekaaCc
import Derived.Lib.Hide
namespace Go.Proofs.Ytpcgolpbjbaekaa
open Go.RowKit
/-- The parcel to i, and it sent. -/
def pz (i : Nat) : List Value := [.int .i64 i, .int .i64 0, .int .i64 0, .slice none 0 0, .slice none 0 0]
theorem pz_ones (i : Nat) : Ones (pz i) := by unfold pz; (repeat (first | exact ones_nil | refine ones_cons rfl ?_))
def pzs (k : Nat) : List (List Value) := (List.range k).map pz
theorem pzs_len (k : Nat) : (pzs k).length = k := by simp [pzs]
theorem pzs_mem {k : Nat} {c : List Value} (h : c ∈ pzs k) : c.length = 5 ∧ Ones c := by
  unfold pzs at h
  obtain ⟨i, _, rfl⟩ := List.mem_map.1 h
  exact ⟨rfl, pz_ones i⟩
theorem pzs_at {k i : Nat} (h : i < k) : (pzs k)[i]? = some (pz i) := by simp [pzs, h]
theorem puts_ones {f : Int} {css : List (List Value)} (h : ∀ c ∈ css, Ones c) : Ones (puts f css) := by
  intro u hu
  unfold puts at hu
  obtain ⟨d, hd, hu⟩ := List.mem_flatten.1 hu
  obtain ⟨c, hc, rfl⟩ := List.mem_map.1 hd
  rcases List.mem_cons.1 hu with rfl | hu
  · rfl
  · exact h c hc u hu
theorem room_row (k : Nat) (h0 : 0 < k) : ∃ fr : Int, (((puts 0 ((pzs k).take (k / 2)) ++ puts 1 (((pzs k).drop (k / 2)).take (min (k - k / 2) (16384 - k / 2)))).drop ((min k 16384 - 1) * 6)).take 6) = .int .i64 fr :: pz (min k 16384 - 1) := by
  generalize hw : min k 16384 - 1 = w
  have hwk : w < k := by omega
  let R : List (List Value) := ((pzs k).take (k / 2)).map (fun c => Value.int .i64 0 :: c) ++ (((pzs k).drop (k / 2)).take (min (k - k / 2) (16384 - k / 2))).map (fun c => Value.int .i64 1 :: c)
  have hR : puts 0 ((pzs k).take (k / 2)) ++ puts 1 (((pzs k).drop (k / 2)).take (min (k - k / 2) (16384 - k / 2))) = R.flatten := by
    show _ = List.flatten (_ ++ _)
    rw [List.flatten_append]
    rfl
  have h6 : ∀ c ∈ R, c.length = 6 := by
    intro c hc
    rcases List.mem_append.1 hc with h | h
    · obtain ⟨d, hd, rfl⟩ := List.mem_map.1 h
      simp [(pzs_mem (List.mem_of_mem_take hd)).1]
    · obtain ⟨d, hd, rfl⟩ := List.mem_map.1 h
      simp [(pzs_mem (List.mem_of_mem_drop (List.mem_of_mem_take hd))).1]
  have hl1 : (((pzs k).take (k / 2)).map (fun c => Value.int .i64 0 :: c)).length = k / 2 := by simp [pzs_len]; omega
  rw [hR]
  by_cases hlt : w < k / 2
  · refine ⟨0, flat_at h6 ?_⟩
    show (_ ++ _)[w]? = _
    rw [List.getElem?_append_left (by rw [hl1]; exact hlt), List.getElem?_map, List.getElem?_take, if_pos hlt, pzs_at hwk]
    rfl
  · refine ⟨1, flat_at h6 ?_⟩
    show (_ ++ _)[w]? = _
    rw [List.getElem?_append_right (by rw [hl1]; omega), hl1, List.getElem?_map, List.getElem?_take, if_pos (by omega), List.getElem?_drop, show k / 2 + (w - k / 2) = w from by omega, pzs_at hwk]
    rfl
set_option maxHeartbeats 4000000 in
theorem CrowdRoom_walk (n : Int) (hn : InK .u16 n) (F : PH) : Pure Try.prog 3 [.int .u16 n] F (.bool true) := by
  dsimp only [InK] at hn
  refine Spec.of1 Try.func3 rfl rfl fun X w0 => ?_
  repeat (first | refine jc rfl rfl ?_ | refine jr rfl ?_ | refine jn ?_ | refine oM rfl rfl ?_ | refine oS (ev_pv rfl) rfl ?_ | refine oX rfl ?_ | refine J_cond_t rfl ?_ | refine J_cond_f rfl ?_ | refine oS (eb rfl) rfl ?_ | (refine oS (ev_cmp_t rfl rfl ?_) rfl ?_; (dsimp only [cmpP] <;> omega)) | (refine oS (ev_cmp_f rfl rfl ?_) rfl ?_; (dsimp only [cmpN] <;> omega)) | (refine oS (ea rfl rfl rfl ?_) rfl ?_; (dsimp only [InK]; first | omega | exact ⟨Int.natCast_nonneg _, by omega⟩)) | (refine oS (ed rfl rfl rfl ?_ ?_ ?_) rfl ?_; (first | omega | exact Int.natCast_nonneg _); (first | omega | exact Int.natCast_nonneg _); (dsimp only [InK]; first | omega | exact ⟨Int.natCast_nonneg _, by omega⟩)) | refine oS (ev_fieldAddr rfl rfl) rfl ?_ | (refine oS (ev_conv rfl rfl rfl (wrap_in ?_)) rfl ?_; (dsimp only [InK]; first | omega | exact ⟨Int.natCast_nonneg _, by omega⟩)) | refine oS (ev_bool_eql rfl rfl rfl) rfl ?_ | refine oS (eg rfl rfl rfl) rfl ?_ | (refine jdq rfl rfl ?_ ?_ ?_; kernel_rfl; kernel_rfl) | (refine oS (ev_build (t := ?_) rfl rfl rfl ?_) rfl ?_; rotate_left; (repeat (first | exact FillF.nil | refine FillF.cons (by constructor) rfl rfl (by repeat constructor) ?_))) | refine oS (ev_ptr_eql_nil rfl rfl rfl) rfl ?_)
  refine oP (fixed32 F) Try.call8 rfl rfl ?_
  repeat (first | refine jc rfl rfl ?_ | refine jr rfl ?_ | refine jn ?_ | refine oM rfl rfl ?_ | refine oS (ev_pv rfl) rfl ?_ | refine oX rfl ?_ | refine J_cond_t rfl ?_ | refine J_cond_f rfl ?_ | refine oS (eb rfl) rfl ?_ | (refine oS (ev_cmp_t rfl rfl ?_) rfl ?_; (dsimp only [cmpP] <;> omega)) | (refine oS (ev_cmp_f rfl rfl ?_) rfl ?_; (dsimp only [cmpN] <;> omega)) | (refine oS (ea rfl rfl rfl ?_) rfl ?_; (dsimp only [InK]; first | omega | exact ⟨Int.natCast_nonneg _, by omega⟩)) | (refine oS (ed rfl rfl rfl ?_ ?_ ?_) rfl ?_; (first | omega | exact Int.natCast_nonneg _); (first | omega | exact Int.natCast_nonneg _); (dsimp only [InK]; first | omega | exact ⟨Int.natCast_nonneg _, by omega⟩)) | refine oS (ev_fieldAddr rfl rfl) rfl ?_ | (refine oS (ev_conv rfl rfl rfl (wrap_in ?_)) rfl ?_; (dsimp only [InK]; first | omega | exact ⟨Int.natCast_nonneg _, by omega⟩)) | refine oS (ev_bool_eql rfl rfl rfl) rfl ?_ | refine oS (eg rfl rfl rfl) rfl ?_ | (refine jdq rfl rfl ?_ ?_ ?_; kernel_rfl; kernel_rfl) | (refine oS (ev_build (t := ?_) rfl rfl rfl ?_) rfl ?_; rotate_left; (repeat (first | exact FillF.nil | refine FillF.cons (by constructor) rfl rfl (by repeat constructor) ?_))) | refine oS (ev_ptr_eql_nil rfl rfl rfl) rfl ?_)
  refine oC (Hc := []) (Hr := X) (new_spec F) Try.call9 rfl rfl (fun w s => s) ?_
  rintro _ _ _ _ ⟨rfl, b, rfl, rfl⟩
  repeat (first | refine jc rfl rfl ?_ | refine jr rfl ?_ | refine jn ?_ | refine oM rfl rfl ?_ | refine oS (ev_pv rfl) rfl ?_ | refine oX rfl ?_ | refine J_cond_t rfl ?_ | refine J_cond_f rfl ?_ | refine oS (eb rfl) rfl ?_ | (refine oS (ev_cmp_t rfl rfl ?_) rfl ?_; (dsimp only [cmpP] <;> omega)) | (refine oS (ev_cmp_f rfl rfl ?_) rfl ?_; (dsimp only [cmpN] <;> omega)) | (refine oS (ea rfl rfl rfl ?_) rfl ?_; (dsimp only [InK]; first | omega | exact ⟨Int.natCast_nonneg _, by omega⟩)) | (refine oS (ed rfl rfl rfl ?_ ?_ ?_) rfl ?_; (first | omega | exact Int.natCast_nonneg _); (first | omega | exact Int.natCast_nonneg _); (dsimp only [InK]; first | omega | exact ⟨Int.natCast_nonneg _, by omega⟩)) | refine oS (ev_fieldAddr rfl rfl) rfl ?_ | (refine oS (ev_conv rfl rfl rfl (wrap_in ?_)) rfl ?_; (dsimp only [InK]; first | omega | exact ⟨Int.natCast_nonneg _, by omega⟩)) | refine oS (ev_bool_eql rfl rfl rfl) rfl ?_ | refine oS (eg rfl rfl rfl) rfl ?_ | (refine jdq rfl rfl ?_ ?_ ?_; kernel_rfl; kernel_rfl) | (refine oS (ev_build (t := ?_) rfl rfl rfl ?_) rfl ?_; rotate_left; (repeat (first | exact FillF.nil | refine FillF.cons (by constructor) rfl rfl (by repeat constructor) ?_))) | refine oS (ev_ptr_eql_nil rfl rfl rfl) rfl ?_)
  obtain ⟨k, hk⟩ := Int.eq_ofNat_of_zero_le (show 0 ≤ n % 17000 by omega)
  have hk17 : k < 17000 := by omega
  rw [hk]
  have Hk := Lib.hid hk
  clear hk hn
  repeat (first | refine jc rfl rfl ?_ | refine jr rfl ?_ | refine jn ?_ | refine oM rfl rfl ?_ | refine oS (ev_pv rfl) rfl ?_ | refine oX rfl ?_ | refine J_cond_t rfl ?_ | refine J_cond_f rfl ?_ | refine oS (eb rfl) rfl ?_ | (refine oS (ev_cmp_t rfl rfl ?_) rfl ?_; (dsimp only [cmpP] <;> omega)) | (refine oS (ev_cmp_f rfl rfl ?_) rfl ?_; (dsimp only [cmpN] <;> omega)) | (refine oS (ea rfl rfl rfl ?_) rfl ?_; (dsimp only [InK]; first | omega | exact ⟨Int.natCast_nonneg _, by omega⟩)) | (refine oS (ed rfl rfl rfl ?_ ?_ ?_) rfl ?_; (first | omega | exact Int.natCast_nonneg _); (first | omega | exact Int.natCast_nonneg _); (dsimp only [InK]; first | omega | exact ⟨Int.natCast_nonneg _, by omega⟩)) | refine oS (ev_fieldAddr rfl rfl) rfl ?_ | (refine oS (ev_conv rfl rfl rfl (wrap_in ?_)) rfl ?_; (dsimp only [InK]; first | omega | exact ⟨Int.natCast_nonneg _, by omega⟩)) | refine oS (ev_bool_eql rfl rfl rfl) rfl ?_ | refine oS (eg rfl rfl rfl) rfl ?_ | (refine jdq rfl rfl ?_ ?_ ?_; kernel_rfl; kernel_rfl) | (refine oS (ev_build (t := ?_) rfl rfl rfl ?_) rfl ?_; rotate_left; (repeat (first | exact FillF.nil | refine FillF.cons (by constructor) rfl rfl (by repeat constructor) ?_))) | refine oS (ev_ptr_eql_nil rfl rfl rfl) rfl ?_)
  refine J_own_nil 32 5 ?_
  refine J_loop2 (fun (j : Nat) (_ : Value) => j ≤ k) (fun j _ => k - j)
    (fun j v => [(3, .pointer (some ⟨b, 0, none⟩)), (4, .int .i64 k), (5, v), (18, .int .i64 k), (19, .int .i64 j)]) (fun _ _ => F)
    (fun j v => own v 32 5 j (pzs j).flatten :: (crowd b (.slice none 0 0) 0 [] ++ X)) 0 (.slice none 0 0) (Nat.zero_le _)
    ⟨⟨rfl, rfl, rfl, rfl, rfl, trivial⟩, fun _ h => h⟩ ?_
  intro j v hj
  by_cases hlt : j < k
  · repeat (first | refine jc rfl rfl ?_ | refine jr rfl ?_ | refine jn ?_ | refine oM rfl rfl ?_ | refine oS (ev_pv rfl) rfl ?_ | refine oX rfl ?_ | refine J_cond_t rfl ?_ | refine J_cond_f rfl ?_ | refine oS (eb rfl) rfl ?_ | (refine oS (ev_cmp_t rfl rfl ?_) rfl ?_; (dsimp only [cmpP] <;> omega)) | (refine oS (ev_cmp_f rfl rfl ?_) rfl ?_; (dsimp only [cmpN] <;> omega)) | (refine oS (ea rfl rfl rfl ?_) rfl ?_; (dsimp only [InK]; first | omega | exact ⟨Int.natCast_nonneg _, by omega⟩)) | (refine oS (ed rfl rfl rfl ?_ ?_ ?_) rfl ?_; (first | omega | exact Int.natCast_nonneg _); (first | omega | exact Int.natCast_nonneg _); (dsimp only [InK]; first | omega | exact ⟨Int.natCast_nonneg _, by omega⟩)) | refine oS (ev_fieldAddr rfl rfl) rfl ?_ | (refine oS (ev_conv rfl rfl rfl (wrap_in ?_)) rfl ?_; (dsimp only [InK]; first | omega | exact ⟨Int.natCast_nonneg _, by omega⟩)) | refine oS (ev_bool_eql rfl rfl rfl) rfl ?_ | refine oS (eg rfl rfl rfl) rfl ?_ | (refine jdq rfl rfl ?_ ?_ ?_; kernel_rfl; kernel_rfl) | (refine oS (ev_build (t := ?_) rfl rfl rfl ?_) rfl ?_; rotate_left; (repeat (first | exact FillF.nil | refine FillF.cons (by constructor) rfl rfl (by repeat constructor) ?_))) | refine oS (ev_ptr_eql_nil rfl rfl rfl) rfl ?_)
    refine oA (fun _ => rfl) rfl .agg rfl elParcel (pz_ones j) (by omega) (fun _ => .here) rfl (fun _ => rfl) fun u w => ?_
    repeat (first | refine jc rfl rfl ?_ | refine jr rfl ?_ | refine jn ?_ | refine oM rfl rfl ?_ | refine oS (ev_pv rfl) rfl ?_ | refine oX rfl ?_ | refine J_cond_t rfl ?_ | refine J_cond_f rfl ?_ | refine oS (eb rfl) rfl ?_ | (refine oS (ev_cmp_t rfl rfl ?_) rfl ?_; (dsimp only [cmpP] <;> omega)) | (refine oS (ev_cmp_f rfl rfl ?_) rfl ?_; (dsimp only [cmpN] <;> omega)) | (refine oS (ea rfl rfl rfl ?_) rfl ?_; (dsimp only [InK]; first | omega | exact ⟨Int.natCast_nonneg _, by omega⟩)) | (refine oS (ed rfl rfl rfl ?_ ?_ ?_) rfl ?_; (first | omega | exact Int.natCast_nonneg _); (first | omega | exact Int.natCast_nonneg _); (dsimp only [InK]; first | omega | exact ⟨Int.natCast_nonneg _, by omega⟩)) | refine oS (ev_fieldAddr rfl rfl) rfl ?_ | (refine oS (ev_conv rfl rfl rfl (wrap_in ?_)) rfl ?_; (dsimp only [InK]; first | omega | exact ⟨Int.natCast_nonneg _, by omega⟩)) | refine oS (ev_bool_eql rfl rfl rfl) rfl ?_ | refine oS (eg rfl rfl rfl) rfl ?_ | (refine jdq rfl rfl ?_ ?_ ?_; kernel_rfl; kernel_rfl) | (refine oS (ev_build (t := ?_) rfl rfl rfl ?_) rfl ?_; rotate_left; (repeat (first | exact FillF.nil | refine FillF.cons (by constructor) rfl rfl (by repeat constructor) ?_))) | refine oS (ev_ptr_eql_nil rfl rfl rfl) rfl ?_)
    refine J_again2 (j + 1) u hlt (by omega) ⟨⟨rfl, rfl, rfl, rfl, rfl, trivial⟩, fun _ s => ?_⟩
    have e : (pzs (j + 1)).flatten = (pzs j).flatten ++ pz j := by unfold pzs; rw [List.range_succ]; simp
    rw [e]
    exact s
  · obtain rfl : j = k := by omega
    refine J_persist fun h' ho hd => ?_
    have hsl := own_slice ho hd
    have hF1 : F.le (F.un h') := PH.le_l _ _
    generalize F.un h' = F1 at hsl hF1
    obtain ⟨_, a, c, rfl, hjc, _⟩ := id hsl
    have h5 : ∀ c ∈ pzs j, c.length = 5 := fun c h => (pzs_mem h).1
    have hpre := hsl.pre h5 (show j / 2 ≤ j by omega) (pzs_len j)
    have hcut := hsl.cut (show j / 2 ≤ j by omega) (Nat.le_refl j) hjc
    rw [flat_drop _ h5] at hcut
    have hcl : ∀ c ∈ (pzs j).drop (j / 2), c.length = 5 := fun c h => h5 c (List.mem_of_mem_drop h)
    rw [List.take_of_length_le (by rw [flat_len hcl, List.length_drop, pzs_len]; exact Nat.le_refl _)] at hcut
    repeat (first | refine jc rfl rfl ?_ | refine jr rfl ?_ | refine jn ?_ | refine oM rfl rfl ?_ | refine oS (ev_pv rfl) rfl ?_ | refine oX rfl ?_ | refine J_cond_t rfl ?_ | refine J_cond_f rfl ?_ | refine oS (eb rfl) rfl ?_ | (refine oS (ev_cmp_t rfl rfl ?_) rfl ?_; (dsimp only [cmpP] <;> omega)) | (refine oS (ev_cmp_f rfl rfl ?_) rfl ?_; (dsimp only [cmpN] <;> omega)) | (refine oS (ea rfl rfl rfl ?_) rfl ?_; (dsimp only [InK]; first | omega | exact ⟨Int.natCast_nonneg _, by omega⟩)) | (refine oS (ed rfl rfl rfl ?_ ?_ ?_) rfl ?_; (first | omega | exact Int.natCast_nonneg _); (first | omega | exact Int.natCast_nonneg _); (dsimp only [InK]; first | omega | exact ⟨Int.natCast_nonneg _, by omega⟩)) | refine oS (ev_fieldAddr rfl rfl) rfl ?_ | (refine oS (ev_conv rfl rfl rfl (wrap_in ?_)) rfl ?_; (dsimp only [InK]; first | omega | exact ⟨Int.natCast_nonneg _, by omega⟩)) | refine oS (ev_bool_eql rfl rfl rfl) rfl ?_ | refine oS (eg rfl rfl rfl) rfl ?_ | (refine jdq rfl rfl ?_ ?_ ?_; kernel_rfl; kernel_rfl) | (refine oS (ev_build (t := ?_) rfl rfl rfl ?_) rfl ?_; rotate_left; (repeat (first | exact FillF.nil | refine FillF.cons (by constructor) rfl rfl (by repeat constructor) ?_))) | refine oS (ev_ptr_eql_nil rfl rfl rfl) rfl ?_)
    refine oS (ev_slice_hi (h := j / 2) rfl rfl rfl (by omega)) rfl ?_
    refine oC (Hc := crowd b (.slice none 0 0) 0 []) (Hr := X) (put_spec b (j / 2) 0 c 0 _ a [] ((pzs j).take (j / 2)) F1 (fun c h => pzs_mem (List.mem_of_mem_take h)) hpre (by simp [pzs_len]; omega) (by omega) (by omega)) Try.call10 rfl rfl (fun w s => s) ?_
    rintro _ _ _ _ ⟨rfl, v1, rfl, rfl⟩
    have e1 : min (j / 2) (16384 - 0) = j / 2 := by omega
    rw [e1, List.take_take, Nat.min_self, List.nil_append, Nat.zero_add]
    repeat (first | refine jc rfl rfl ?_ | refine jr rfl ?_ | refine jn ?_ | refine oM rfl rfl ?_ | refine oS (ev_pv rfl) rfl ?_ | refine oX rfl ?_ | refine J_cond_t rfl ?_ | refine J_cond_f rfl ?_ | refine oS (eb rfl) rfl ?_ | (refine oS (ev_cmp_t rfl rfl ?_) rfl ?_; (dsimp only [cmpP] <;> omega)) | (refine oS (ev_cmp_f rfl rfl ?_) rfl ?_; (dsimp only [cmpN] <;> omega)) | (refine oS (ea rfl rfl rfl ?_) rfl ?_; (dsimp only [InK]; first | omega | exact ⟨Int.natCast_nonneg _, by omega⟩)) | (refine oS (ed rfl rfl rfl ?_ ?_ ?_) rfl ?_; (first | omega | exact Int.natCast_nonneg _); (first | omega | exact Int.natCast_nonneg _); (dsimp only [InK]; first | omega | exact ⟨Int.natCast_nonneg _, by omega⟩)) | refine oS (ev_fieldAddr rfl rfl) rfl ?_ | (refine oS (ev_conv rfl rfl rfl (wrap_in ?_)) rfl ?_; (dsimp only [InK]; first | omega | exact ⟨Int.natCast_nonneg _, by omega⟩)) | refine oS (ev_bool_eql rfl rfl rfl) rfl ?_ | refine oS (eg rfl rfl rfl) rfl ?_ | (refine jdq rfl rfl ?_ ?_ ?_; kernel_rfl; kernel_rfl) | (refine oS (ev_build (t := ?_) rfl rfl rfl ?_) rfl ?_; rotate_left; (repeat (first | exact FillF.nil | refine FillF.cons (by constructor) rfl rfl (by repeat constructor) ?_))) | refine oS (ev_ptr_eql_nil rfl rfl rfl) rfl ?_)
    refine oS (ev_slice_lo (lo := j / 2) rfl rfl rfl (by omega)) rfl ?_
    refine oC (Hc := crowd b v1 (j / 2) (puts 0 ((pzs j).take (j / 2)))) (Hr := X) (put_spec b (j - j / 2) (j / 2) _ 1 _ _ _ ((pzs j).drop (j / 2)) F1 (fun c h => pzs_mem (List.mem_of_mem_drop h)) hcut (by simp [pzs_len]) (by omega) (by omega)) Try.call10 rfl rfl (fun w s => s) ?_
    rintro _ _ _ _ ⟨rfl, v2, rfl, rfl⟩
    repeat (first | refine jc rfl rfl ?_ | refine jr rfl ?_ | refine jn ?_ | refine oM rfl rfl ?_ | refine oS (ev_pv rfl) rfl ?_ | refine oX rfl ?_ | refine J_cond_t rfl ?_ | refine J_cond_f rfl ?_ | refine oS (eb rfl) rfl ?_ | (refine oS (ev_cmp_t rfl rfl ?_) rfl ?_; (dsimp only [cmpP] <;> omega)) | (refine oS (ev_cmp_f rfl rfl ?_) rfl ?_; (dsimp only [cmpN] <;> omega)) | (refine oS (ea rfl rfl rfl ?_) rfl ?_; (dsimp only [InK]; first | omega | exact ⟨Int.natCast_nonneg _, by omega⟩)) | (refine oS (ed rfl rfl rfl ?_ ?_ ?_) rfl ?_; (first | omega | exact Int.natCast_nonneg _); (first | omega | exact Int.natCast_nonneg _); (dsimp only [InK]; first | omega | exact ⟨Int.natCast_nonneg _, by omega⟩)) | refine oS (ev_fieldAddr rfl rfl) rfl ?_ | (refine oS (ev_conv rfl rfl rfl (wrap_in ?_)) rfl ?_; (dsimp only [InK]; first | omega | exact ⟨Int.natCast_nonneg _, by omega⟩)) | refine oS (ev_bool_eql rfl rfl rfl) rfl ?_ | refine oS (eg rfl rfl rfl) rfl ?_ | (refine jdq rfl rfl ?_ ?_ ?_; kernel_rfl; kernel_rfl) | (refine oS (ev_build (t := ?_) rfl rfl rfl ?_) rfl ?_; rotate_left; (repeat (first | exact FillF.nil | refine FillF.cons (by constructor) rfl rfl (by repeat constructor) ?_))) | refine oS (ev_ptr_eql_nil rfl rfl rfl) rfl ?_)
    obtain ⟨w1, hw1⟩ : ∃ w1 : Nat, w1 = min j 16384 := ⟨_, rfl⟩
    have hsum : j / 2 + min (j - j / 2) (16384 - j / 2) = w1 := by omega
    rw [hsum]
    by_cases h0 : 0 < j
    · obtain ⟨fr, hrow⟩ := room_row j h0
      have hos : Ones (puts 0 ((pzs j).take (j / 2)) ++ puts 1 (((pzs j).drop (j / 2)).take (min (j - j / 2) (16384 - j / 2)))) := ones_append (puts_ones (fun c h => (pzs_mem (List.mem_of_mem_take h)).2)) (puts_ones (fun c h => (pzs_mem (List.mem_of_mem_drop (List.mem_of_mem_take h))).2))
      generalize puts 0 ((pzs j).take (j / 2)) ++ puts 1 (((pzs j).drop (j / 2)).take (min (j - j / 2) (16384 - j / 2))) = os at hrow hos
      rw [← hw1] at hrow
      obtain ⟨i, rfl⟩ : ∃ i, w1 = i + 1 := ⟨w1 - 1, by omega⟩
      rw [Nat.add_sub_cancel] at hrow
      refine oC (Hc := crowd b v2 (i + 1) os) (Hr := X) (at_yes b (i + 1) i v2 os _ (by omega) (by omega) hrow rfl (by rw [← hrow]; exact fun u hu => hos u (List.mem_of_mem_drop (List.mem_of_mem_take hu))) F1) Try.call11 ?_ rfl (fun w s => s) ?_
      · show some _ = some _
        congr 4
        omega
      rintro _ _ _ _ ⟨rfl, rfl, rfl⟩
      repeat (first | refine jc rfl rfl ?_ | refine jr rfl ?_ | refine jn ?_ | refine oM rfl rfl ?_ | refine oS (ev_pv rfl) rfl ?_ | refine oX rfl ?_ | refine J_cond_t rfl ?_ | refine J_cond_f rfl ?_ | refine oS (eb rfl) rfl ?_ | (refine oS (ev_cmp_t rfl rfl ?_) rfl ?_; (dsimp only [cmpP] <;> omega)) | (refine oS (ev_cmp_f rfl rfl ?_) rfl ?_; (dsimp only [cmpN] <;> omega)) | (refine oS (ea rfl rfl rfl ?_) rfl ?_; (dsimp only [InK]; first | omega | exact ⟨Int.natCast_nonneg _, by omega⟩)) | (refine oS (ed rfl rfl rfl ?_ ?_ ?_) rfl ?_; (first | omega | exact Int.natCast_nonneg _); (first | omega | exact Int.natCast_nonneg _); (dsimp only [InK]; first | omega | exact ⟨Int.natCast_nonneg _, by omega⟩)) | refine oS (ev_fieldAddr rfl rfl) rfl ?_ | (refine oS (ev_conv rfl rfl rfl (wrap_in ?_)) rfl ?_; (dsimp only [InK]; first | omega | exact ⟨Int.natCast_nonneg _, by omega⟩)) | refine oS (ev_bool_eql rfl rfl rfl) rfl ?_ | refine oS (eg rfl rfl rfl) rfl ?_ | (refine jdq rfl rfl ?_ ?_ ?_; kernel_rfl; kernel_rfl) | (refine oS (ev_build (t := ?_) rfl rfl rfl ?_) rfl ?_; rotate_left; (repeat (first | exact FillF.nil | refine FillF.cons (by constructor) rfl rfl (by repeat constructor) ?_))) | refine oS (ev_ptr_eql_nil rfl rfl rfl) rfl ?_)
      refine oE (ev_alloc rfl) rfl ?_; rintro _ _ _ _ ⟨rfl, bl, rfl, rfl⟩; refine oN (ev_store rfl rfl .agg rfl rfl (lay_all ?_) ?_ .here) rfl ?_; rfl; rotate_left; rintro _ _ _ _ ⟨rfl, rfl, rfl⟩; rotate_left
      · exact ones_cons rfl (pz_ones i)
      repeat (first | refine jc rfl rfl ?_ | refine jr rfl ?_ | refine jn ?_ | refine oM rfl rfl ?_ | refine oS (ev_pv rfl) rfl ?_ | refine oX rfl ?_ | refine J_cond_t rfl ?_ | refine J_cond_f rfl ?_ | refine oS (eb rfl) rfl ?_ | (refine oS (ev_cmp_t rfl rfl ?_) rfl ?_; (dsimp only [cmpP] <;> omega)) | (refine oS (ev_cmp_f rfl rfl ?_) rfl ?_; (dsimp only [cmpN] <;> omega)) | (refine oS (ea rfl rfl rfl ?_) rfl ?_; (dsimp only [InK]; first | omega | exact ⟨Int.natCast_nonneg _, by omega⟩)) | (refine oS (ed rfl rfl rfl ?_ ?_ ?_) rfl ?_; (first | omega | exact Int.natCast_nonneg _); (first | omega | exact Int.natCast_nonneg _); (dsimp only [InK]; first | omega | exact ⟨Int.natCast_nonneg _, by omega⟩)) | refine oS (ev_fieldAddr rfl rfl) rfl ?_ | (refine oS (ev_conv rfl rfl rfl (wrap_in ?_)) rfl ?_; (dsimp only [InK]; first | omega | exact ⟨Int.natCast_nonneg _, by omega⟩)) | refine oS (ev_bool_eql rfl rfl rfl) rfl ?_ | refine oS (eg rfl rfl rfl) rfl ?_ | (refine jdq rfl rfl ?_ ?_ ?_; kernel_rfl; kernel_rfl) | (refine oS (ev_build (t := ?_) rfl rfl rfl ?_) rfl ?_; rotate_left; (repeat (first | exact FillF.nil | refine FillF.cons (by constructor) rfl rfl (by repeat constructor) ?_))) | refine oS (ev_ptr_eql_nil rfl rfl rfl) rfl ?_)
      refine oOwn (v := v2) (.there (.there .here)) fun a' c' hv _ _ _ => ?_
      subst hv
      refine oC (Hc := [blk b 62 [.slice a' (i + 1) c']]) (Hr := blk bl 35 (.int .i64 fr :: pz i) :: own (.slice a' (i + 1) c') 35 6 (i + 1) os :: X) (len_spec b (i + 1) _ [] F1 a' c' rfl) Try.call12 rfl rfl (fun w s => s.pick (.there .here)) ?_
      rintro _ _ _ _ ⟨rfl, rfl, rfl⟩
      repeat (first | refine jc rfl rfl ?_ | refine jr rfl ?_ | refine jn ?_ | refine oM rfl rfl ?_ | refine oS (ev_pv rfl) rfl ?_ | refine oX rfl ?_ | refine J_cond_t rfl ?_ | refine J_cond_f rfl ?_ | refine oS (eb rfl) rfl ?_ | (refine oS (ev_cmp_t rfl rfl ?_) rfl ?_; (dsimp only [cmpP] <;> omega)) | (refine oS (ev_cmp_f rfl rfl ?_) rfl ?_; (dsimp only [cmpN] <;> omega)) | (refine oS (ea rfl rfl rfl ?_) rfl ?_; (dsimp only [InK]; first | omega | exact ⟨Int.natCast_nonneg _, by omega⟩)) | (refine oS (ed rfl rfl rfl ?_ ?_ ?_) rfl ?_; (first | omega | exact Int.natCast_nonneg _); (first | omega | exact Int.natCast_nonneg _); (dsimp only [InK]; first | omega | exact ⟨Int.natCast_nonneg _, by omega⟩)) | refine oS (ev_fieldAddr rfl rfl) rfl ?_ | (refine oS (ev_conv rfl rfl rfl (wrap_in ?_)) rfl ?_; (dsimp only [InK]; first | omega | exact ⟨Int.natCast_nonneg _, by omega⟩)) | refine oS (ev_bool_eql rfl rfl rfl) rfl ?_ | refine oS (eg rfl rfl rfl) rfl ?_ | (refine jdq rfl rfl ?_ ?_ ?_; kernel_rfl; kernel_rfl) | (refine oS (ev_build (t := ?_) rfl rfl rfl ?_) rfl ?_; rotate_left; (repeat (first | exact FillF.nil | refine FillF.cons (by constructor) rfl rfl (by repeat constructor) ?_))) | refine oS (ev_ptr_eql_nil rfl rfl rfl) rfl ?_)
      refine oS (ev_load rfl rfl (Rdb.ofB (n := 0) (.there .here) rfl)) rfl ?_
      repeat (first | refine jc rfl rfl ?_ | refine jr rfl ?_ | refine jn ?_ | refine oM rfl rfl ?_ | refine oS (ev_pv rfl) rfl ?_ | refine oX rfl ?_ | refine J_cond_t rfl ?_ | refine J_cond_f rfl ?_ | refine oS (eb rfl) rfl ?_ | (refine oS (ev_cmp_t rfl rfl ?_) rfl ?_; (dsimp only [cmpP] <;> omega)) | (refine oS (ev_cmp_f rfl rfl ?_) rfl ?_; (dsimp only [cmpN] <;> omega)) | (refine oS (ea rfl rfl rfl ?_) rfl ?_; (dsimp only [InK]; first | omega | exact ⟨Int.natCast_nonneg _, by omega⟩)) | (refine oS (ed rfl rfl rfl ?_ ?_ ?_) rfl ?_; (first | omega | exact Int.natCast_nonneg _); (first | omega | exact Int.natCast_nonneg _); (dsimp only [InK]; first | omega | exact ⟨Int.natCast_nonneg _, by omega⟩)) | refine oS (ev_fieldAddr rfl rfl) rfl ?_ | (refine oS (ev_conv rfl rfl rfl (wrap_in ?_)) rfl ?_; (dsimp only [InK]; first | omega | exact ⟨Int.natCast_nonneg _, by omega⟩)) | refine oS (ev_bool_eql rfl rfl rfl) rfl ?_ | refine oS (eg rfl rfl rfl) rfl ?_ | (refine jdq rfl rfl ?_ ?_ ?_; kernel_rfl; kernel_rfl) | (refine oS (ev_build (t := ?_) rfl rfl rfl ?_) rfl ?_; rotate_left; (repeat (first | exact FillF.nil | refine FillF.cons (by constructor) rfl rfl (by repeat constructor) ?_))) | refine oS (ev_ptr_eql_nil rfl rfl rfl) rfl ?_)
      exact J_retv (vs := [.bool true]) rfl (.tmp rfl .nil) [] (fun w s => s.drop.drop.drop) hF1 ⟨rfl, rfl⟩
    · obtain rfl : j = 0 := by omega
      subst hw1
      refine oC (Hc := crowd b v2 0 _) (Hr := X) (at_no b 0 (-1) v2 _ (by omega) F1) Try.call11 ?_ rfl (fun w s => s) ?_
      · rfl
      rintro _ _ _ _ ⟨rfl, rfl, rfl⟩
      repeat (first | refine jc rfl rfl ?_ | refine jr rfl ?_ | refine jn ?_ | refine oM rfl rfl ?_ | refine oS (ev_pv rfl) rfl ?_ | refine oX rfl ?_ | refine J_cond_t rfl ?_ | refine J_cond_f rfl ?_ | refine oS (eb rfl) rfl ?_ | (refine oS (ev_cmp_t rfl rfl ?_) rfl ?_; (dsimp only [cmpP] <;> omega)) | (refine oS (ev_cmp_f rfl rfl ?_) rfl ?_; (dsimp only [cmpN] <;> omega)) | (refine oS (ea rfl rfl rfl ?_) rfl ?_; (dsimp only [InK]; first | omega | exact ⟨Int.natCast_nonneg _, by omega⟩)) | (refine oS (ed rfl rfl rfl ?_ ?_ ?_) rfl ?_; (first | omega | exact Int.natCast_nonneg _); (first | omega | exact Int.natCast_nonneg _); (dsimp only [InK]; first | omega | exact ⟨Int.natCast_nonneg _, by omega⟩)) | refine oS (ev_fieldAddr rfl rfl) rfl ?_ | (refine oS (ev_conv rfl rfl rfl (wrap_in ?_)) rfl ?_; (dsimp only [InK]; first | omega | exact ⟨Int.natCast_nonneg _, by omega⟩)) | refine oS (ev_bool_eql rfl rfl rfl) rfl ?_ | refine oS (eg rfl rfl rfl) rfl ?_ | (refine jdq rfl rfl ?_ ?_ ?_; kernel_rfl; kernel_rfl) | (refine oS (ev_build (t := ?_) rfl rfl rfl ?_) rfl ?_; rotate_left; (repeat (first | exact FillF.nil | refine FillF.cons (by constructor) rfl rfl (by repeat constructor) ?_))) | refine oS (ev_ptr_eql_nil rfl rfl rfl) rfl ?_)
      refine oE (ev_alloc rfl) rfl ?_; rintro _ _ _ _ ⟨rfl, bl, rfl, rfl⟩; refine oN (ev_store rfl rfl .agg rfl rfl (lay_all ?_) ?_ .here) rfl ?_; rfl; rotate_left; rintro _ _ _ _ ⟨rfl, rfl, rfl⟩; rotate_left
      · exact ones_zSent
      repeat (first | refine jc rfl rfl ?_ | refine jr rfl ?_ | refine jn ?_ | refine oM rfl rfl ?_ | refine oS (ev_pv rfl) rfl ?_ | refine oX rfl ?_ | refine J_cond_t rfl ?_ | refine J_cond_f rfl ?_ | refine oS (eb rfl) rfl ?_ | (refine oS (ev_cmp_t rfl rfl ?_) rfl ?_; (dsimp only [cmpP] <;> omega)) | (refine oS (ev_cmp_f rfl rfl ?_) rfl ?_; (dsimp only [cmpN] <;> omega)) | (refine oS (ea rfl rfl rfl ?_) rfl ?_; (dsimp only [InK]; first | omega | exact ⟨Int.natCast_nonneg _, by omega⟩)) | (refine oS (ed rfl rfl rfl ?_ ?_ ?_) rfl ?_; (first | omega | exact Int.natCast_nonneg _); (first | omega | exact Int.natCast_nonneg _); (dsimp only [InK]; first | omega | exact ⟨Int.natCast_nonneg _, by omega⟩)) | refine oS (ev_fieldAddr rfl rfl) rfl ?_ | (refine oS (ev_conv rfl rfl rfl (wrap_in ?_)) rfl ?_; (dsimp only [InK]; first | omega | exact ⟨Int.natCast_nonneg _, by omega⟩)) | refine oS (ev_bool_eql rfl rfl rfl) rfl ?_ | refine oS (eg rfl rfl rfl) rfl ?_ | (refine jdq rfl rfl ?_ ?_ ?_; kernel_rfl; kernel_rfl) | (refine oS (ev_build (t := ?_) rfl rfl rfl ?_) rfl ?_; rotate_left; (repeat (first | exact FillF.nil | refine FillF.cons (by constructor) rfl rfl (by repeat constructor) ?_))) | refine oS (ev_ptr_eql_nil rfl rfl rfl) rfl ?_)
      refine oOwn (v := v2) (.there (.there .here)) fun a' c' hv _ _ _ => ?_
      subst hv
      refine oC (Hc := [blk b 62 [.slice a' 0 c']]) (Hr := blk bl 35 zSent :: own (.slice a' 0 c') 35 6 0 _ :: X) (len_spec b 0 _ [] F1 a' c' rfl) Try.call12 rfl rfl (fun w s => s.pick (.there .here)) ?_
      rintro _ _ _ _ ⟨rfl, rfl, rfl⟩
      repeat (first | refine jc rfl rfl ?_ | refine jr rfl ?_ | refine jn ?_ | refine oM rfl rfl ?_ | refine oS (ev_pv rfl) rfl ?_ | refine oX rfl ?_ | refine J_cond_t rfl ?_ | refine J_cond_f rfl ?_ | refine oS (eb rfl) rfl ?_ | (refine oS (ev_cmp_t rfl rfl ?_) rfl ?_; (dsimp only [cmpP] <;> omega)) | (refine oS (ev_cmp_f rfl rfl ?_) rfl ?_; (dsimp only [cmpN] <;> omega)) | (refine oS (ea rfl rfl rfl ?_) rfl ?_; (dsimp only [InK]; first | omega | exact ⟨Int.natCast_nonneg _, by omega⟩)) | (refine oS (ed rfl rfl rfl ?_ ?_ ?_) rfl ?_; (first | omega | exact Int.natCast_nonneg _); (first | omega | exact Int.natCast_nonneg _); (dsimp only [InK]; first | omega | exact ⟨Int.natCast_nonneg _, by omega⟩)) | refine oS (ev_fieldAddr rfl rfl) rfl ?_ | (refine oS (ev_conv rfl rfl rfl (wrap_in ?_)) rfl ?_; (dsimp only [InK]; first | omega | exact ⟨Int.natCast_nonneg _, by omega⟩)) | refine oS (ev_bool_eql rfl rfl rfl) rfl ?_ | refine oS (eg rfl rfl rfl) rfl ?_ | (refine jdq rfl rfl ?_ ?_ ?_; kernel_rfl; kernel_rfl) | (refine oS (ev_build (t := ?_) rfl rfl rfl ?_) rfl ?_; rotate_left; (repeat (first | exact FillF.nil | refine FillF.cons (by constructor) rfl rfl (by repeat constructor) ?_))) | refine oS (ev_ptr_eql_nil rfl rfl rfl) rfl ?_)
      exact J_retv (vs := [.bool true]) rfl (.tmp rfl .nil) [] (fun w s => s.drop.drop.drop) hF1 ⟨rfl, rfl⟩
open Go.ChangeShapes Go.WideShapes Go.ChangeAt
theorem own_knob : ownKnob Try.prog.godebug = none := by kernel_rfl
theorem laid_out : laidOutB Try.prog = true := by kernel_rfl
set_option maxRecDepth 100000 in theorem CrowdRoom_lifted (os : Os) (started : os.Started) (H : Type) (enc : TypeId × Value → H) : ReturnsInHanded {} Try.checked os 3 .any (Rows.crowdRoomSpec.pre6 enc Try.prog Try.f3 Rows.crowdRoomRow.domain false) (Rows.crowdRoomSpec.post enc Try.prog Try.f3 false true false false) := by
  refine returnsInHanded_of_change (C := Try.checked) own_knob started (by kernel_rfl) Try.func3 (ChangeSpec.witness6 (enc := enc) (C := Try.checked) false ⟨#[], #[.int .u16 0], []⟩ 8 (by kernel_rfl) (by kernel_rfl) (by kernel_rfl) (by kernel_rfl)) ?_; intro W base args ds gs before hval0 hW hcnd _; have hval : ∀ (j : Nat) t v, Try.f3.params[j]? = some t → args[j]? = some v → Value.okWide Try.prog W .any base t v := hval0; have hW' := hW; obtain ⟨p, q, hA0, hV, hp, hfz, hnd⟩ := hW; have hA : DataW.TrodAll enc Try.prog W 0 (fun _ => true) true Try.f3.params.toList args.toList ds p := hA0; obtain ⟨rfl, rfl⟩ := trodVars_none hV; rw [List.append_nil] at hp; have hA' := hA; rw [Try.params3] at hA hval; obtain ⟨v0, vs0, d0, ds0, p0, q0, hargs, rfl, rfl, h0, r0⟩ := trodAll_cons hA; obtain ⟨rfl, rfl, rfl⟩ := trodAll_nil r0; obtain rfl : args = #[v0] := by cases args; simp_all
  obtain ⟨a0, rfl, rfl, rfl, w0⟩ := open_int Try.underlying22 (hval 0 22 v0 rfl rfl) h0
  have hw : InK .u16 a0 := by have := bounds_u16 w0; dsimp only [InK]; omega
  refine (law_walk (CrowdRoom_walk a0 hw (ph W))).mono fun e W' ⟨he, hb⟩ => ?_
  subst he
  exact ⟨_, rfl, law_post laid_out (by kernel_rfl) rfl rfl Try.underlying4 hW' hA' hp rfl hb⟩
theorem CrowdRoom_holds : Rows.CrowdRoomSaid := OpenClaim.holds_of_wide 3 Try.f3 rfl rfl rfl rfl rfl rfl rfl ⟨rfl, rfl, rfl, rfl, rfl⟩ rfl rfl rfl rfl rfl (by kernel_rfl) Try.func3 (by kernel_rfl) (of_decide_eq_true (by kernel_rfl)) (by unfold Func.isWrapper; first | (rw [if_pos (by decide +kernel)]; kernel_rfl) | (rw [if_neg (by decide +kernel)]; exact ⟨rfl, rfl⟩)) (fun os started H enc _ => CrowdRoom_lifted os started H enc)
#print axioms CrowdRoom_holds
end Go.Proofs.Ytpcgolpbjbaekaa
