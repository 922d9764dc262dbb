/-
  A tag holds just if it is the text's; bytes are the same just if they are (MacChecks). No condition.
-/
import Derived.Test.YtkhdodlfkpcojaaMacTags
namespace Go.Proofs.Ytkhdodlfkpcojaa
open Go.RowKit
theorem xor_self_iff {a x : UInt8} : a ^^^ x = a ↔ x = 0 := by
  constructor
  · intro h
    have h2 : a ^^^ (a ^^^ x) = a ^^^ a := by rw [h]
    rwa [← UInt8.xor_assoc, UInt8.xor_self, UInt8.zero_xor] at h2
  · rintro rfl; exact UInt8.xor_zero
theorem set_self_iff {l : List UInt8} {i : Nat} {a x : UInt8} (h : l[i]? = some a) : (l = l.set i (a ^^^ x)) ↔ x = 0 := by
  have hlt := (List.getElem?_eq_some_iff.1 h).1
  constructor
  · intro e
    have h1 : (l.set i (a ^^^ x))[i]? = some a := by rw [← e]; exact h
    rw [List.getElem?_set_self hlt] at h1
    exact xor_self_iff.1 (Option.some.inj h1)
  · rintro rfl
    rw [UInt8.xor_zero]
    have : l[i] = a := (List.getElem?_eq_some_iff.1 h).2
    rw [← this, List.set_getElem_self]
set_option maxHeartbeats 8000000 in
theorem MacChecks_walk (a a2 : Option Addr) (c c2 at' : Nat) (x : UInt8) (key text tag : List UInt8) (F : PH) (h : Byt F (.slice a key.length c) key) (h2 : Byt F (.slice a2 text.length c2) text) (ht : tag.length = 32) (hat : at' < 256) :
    Pure Try.prog 7 [.slice a key.length c, .slice a2 text.length c2, .agg (u8s tag).toArray, .int .u8 (at' : Int), .int .u8 (x.toNat : Int)] F (.bool true) := by
  have h32 : (u8s (macB key text)).length = 32 := by rw [u8s_len, macB_len]
  have ht32 : (u8s tag).length = 32 := by rw [u8s_len, ht]
  refine Spec.of5 Try.func7 rfl rfl fun X w0 => ?_
  refine jc rfl rfl ?_
  refine jr rfl ?_
  refine oE (ev_box rfl .agg) rfl ?_; rintro _ _ _ _ ⟨rfl, b7, rfl, rfl⟩
  refine oPersist fun h7 hA7 hd7 => ?_
  have hc7 := blk_cells hA7 hd7
  have hle7 := PH.le_l F h7
  generalize F.un h7 = F1 at *
  repeat (first | refine jc rfl rfl ?_ | refine jr rfl ?_ | refine jn ?_ | refine oM rfl rfl ?_ | refine oS (ev_pv rfl) rfl ?_ | refine oX rfl ?_ | refine J_cond_t rfl ?_ | refine J_cond_f rfl ?_ | refine oS (eb rfl) rfl ?_ | (refine oS (ev_cmp_t rfl rfl ?_) rfl ?_; (dsimp only [cmpP] <;> omega)) | (refine oS (ev_cmp_f rfl rfl ?_) rfl ?_; (dsimp only [cmpN] <;> omega)) | (refine oS (ea rfl rfl rfl ?_) rfl ?_; (dsimp only [InK]; first | omega | exact ⟨Int.natCast_nonneg _, by omega⟩)) | (refine oS (ed rfl rfl rfl ?_ ?_ ?_) rfl ?_; (first | omega | exact Int.natCast_nonneg _); (first | omega | exact Int.natCast_nonneg _); (dsimp only [InK]; first | omega | exact ⟨Int.natCast_nonneg _, by omega⟩)) | refine oS (ev_fieldAddr rfl rfl) rfl ?_ | (refine oS (ev_conv rfl rfl rfl (wrap_in ?_)) rfl ?_; (dsimp only [InK]; first | omega | exact ⟨Int.natCast_nonneg _, by omega⟩)) | refine oS (ev_bool_eql rfl rfl rfl) rfl ?_ | refine oS (eg rfl rfl rfl) rfl ?_ | (refine jdq rfl rfl ?_ ?_ ?_; kernel_rfl; kernel_rfl) | (refine oS (ev_build (t := ?_) rfl rfl rfl ?_) rfl ?_; rotate_left; (repeat (first | exact FillF.nil | refine FillF.cons (by constructor) rfl rfl (by repeat constructor) ?_))) | refine oS (ev_ptr_eql_nil rfl rfl rfl) rfl ?_ | refine oS (ev_ptr_neq_nil rfl rfl rfl) rfl ?_ | refine oS (ev_load rfl rfl (Rdb.ofB (n := 0) .here rfl)) rfl ?_ | refine oS (ev_load rfl rfl (Rdb.ofB (n := 0) (.there .here) rfl)) rfl ?_ | refine oS (ev_load rfl rfl (Rdb.ofB (n := 0) (.there (.there .here)) rfl)) rfl ?_)
  refine oP (mfixed_true F1) Try.call18 rfl rfl ?_
  by_cases g1 : 200 < key.length
  · repeat (first | refine jc rfl rfl ?_ | refine jr rfl ?_ | refine jn ?_ | refine oM rfl rfl ?_ | refine oS (ev_pv rfl) rfl ?_ | refine oX rfl ?_ | refine J_cond_t rfl ?_ | refine J_cond_f rfl ?_ | refine oS (eb rfl) rfl ?_ | (refine oS (ev_cmp_t rfl rfl ?_) rfl ?_; (dsimp only [cmpP] <;> omega)) | (refine oS (ev_cmp_f rfl rfl ?_) rfl ?_; (dsimp only [cmpN] <;> omega)) | (refine oS (ea rfl rfl rfl ?_) rfl ?_; (dsimp only [InK]; first | omega | exact ⟨Int.natCast_nonneg _, by omega⟩)) | (refine oS (ed rfl rfl rfl ?_ ?_ ?_) rfl ?_; (first | omega | exact Int.natCast_nonneg _); (first | omega | exact Int.natCast_nonneg _); (dsimp only [InK]; first | omega | exact ⟨Int.natCast_nonneg _, by omega⟩)) | refine oS (ev_fieldAddr rfl rfl) rfl ?_ | (refine oS (ev_conv rfl rfl rfl (wrap_in ?_)) rfl ?_; (dsimp only [InK]; first | omega | exact ⟨Int.natCast_nonneg _, by omega⟩)) | refine oS (ev_bool_eql rfl rfl rfl) rfl ?_ | refine oS (eg rfl rfl rfl) rfl ?_ | (refine jdq rfl rfl ?_ ?_ ?_; kernel_rfl; kernel_rfl) | (refine oS (ev_build (t := ?_) rfl rfl rfl ?_) rfl ?_; rotate_left; (repeat (first | exact FillF.nil | refine FillF.cons (by constructor) rfl rfl (by repeat constructor) ?_))) | refine oS (ev_ptr_eql_nil rfl rfl rfl) rfl ?_ | refine oS (ev_ptr_neq_nil rfl rfl rfl) rfl ?_ | refine oS (ev_load rfl rfl (Rdb.ofB (n := 0) .here rfl)) rfl ?_ | refine oS (ev_load rfl rfl (Rdb.ofB (n := 0) (.there .here) rfl)) rfl ?_ | refine oS (ev_load rfl rfl (Rdb.ofB (n := 0) (.there (.there .here)) rfl)) rfl ?_)
    exact J_ret1 rfl rfl [] rfl hle7 ⟨rfl, rfl⟩
  by_cases g2 : 200 < text.length
  · repeat (first | refine jc rfl rfl ?_ | refine jr rfl ?_ | refine jn ?_ | refine oM rfl rfl ?_ | refine oS (ev_pv rfl) rfl ?_ | refine oX rfl ?_ | refine J_cond_t rfl ?_ | refine J_cond_f rfl ?_ | refine oS (eb rfl) rfl ?_ | (refine oS (ev_cmp_t rfl rfl ?_) rfl ?_; (dsimp only [cmpP] <;> omega)) | (refine oS (ev_cmp_f rfl rfl ?_) rfl ?_; (dsimp only [cmpN] <;> omega)) | (refine oS (ea rfl rfl rfl ?_) rfl ?_; (dsimp only [InK]; first | omega | exact ⟨Int.natCast_nonneg _, by omega⟩)) | (refine oS (ed rfl rfl rfl ?_ ?_ ?_) rfl ?_; (first | omega | exact Int.natCast_nonneg _); (first | omega | exact Int.natCast_nonneg _); (dsimp only [InK]; first | omega | exact ⟨Int.natCast_nonneg _, by omega⟩)) | refine oS (ev_fieldAddr rfl rfl) rfl ?_ | (refine oS (ev_conv rfl rfl rfl (wrap_in ?_)) rfl ?_; (dsimp only [InK]; first | omega | exact ⟨Int.natCast_nonneg _, by omega⟩)) | refine oS (ev_bool_eql rfl rfl rfl) rfl ?_ | refine oS (eg rfl rfl rfl) rfl ?_ | (refine jdq rfl rfl ?_ ?_ ?_; kernel_rfl; kernel_rfl) | (refine oS (ev_build (t := ?_) rfl rfl rfl ?_) rfl ?_; rotate_left; (repeat (first | exact FillF.nil | refine FillF.cons (by constructor) rfl rfl (by repeat constructor) ?_))) | refine oS (ev_ptr_eql_nil rfl rfl rfl) rfl ?_ | refine oS (ev_ptr_neq_nil rfl rfl rfl) rfl ?_ | refine oS (ev_load rfl rfl (Rdb.ofB (n := 0) .here rfl)) rfl ?_ | refine oS (ev_load rfl rfl (Rdb.ofB (n := 0) (.there .here) rfl)) rfl ?_ | refine oS (ev_load rfl rfl (Rdb.ofB (n := 0) (.there (.there .here)) rfl)) rfl ?_)
    exact J_ret1 rfl rfl [] rfl hle7 ⟨rfl, rfl⟩
  repeat (first | refine jc rfl rfl ?_ | refine jr rfl ?_ | refine jn ?_ | refine oM rfl rfl ?_ | refine oS (ev_pv rfl) rfl ?_ | refine oX rfl ?_ | refine J_cond_t rfl ?_ | refine J_cond_f rfl ?_ | refine oS (eb rfl) rfl ?_ | (refine oS (ev_cmp_t rfl rfl ?_) rfl ?_; (dsimp only [cmpP] <;> omega)) | (refine oS (ev_cmp_f rfl rfl ?_) rfl ?_; (dsimp only [cmpN] <;> omega)) | (refine oS (ea rfl rfl rfl ?_) rfl ?_; (dsimp only [InK]; first | omega | exact ⟨Int.natCast_nonneg _, by omega⟩)) | (refine oS (ed rfl rfl rfl ?_ ?_ ?_) rfl ?_; (first | omega | exact Int.natCast_nonneg _); (first | omega | exact Int.natCast_nonneg _); (dsimp only [InK]; first | omega | exact ⟨Int.natCast_nonneg _, by omega⟩)) | refine oS (ev_fieldAddr rfl rfl) rfl ?_ | (refine oS (ev_conv rfl rfl rfl (wrap_in ?_)) rfl ?_; (dsimp only [InK]; first | omega | exact ⟨Int.natCast_nonneg _, by omega⟩)) | refine oS (ev_bool_eql rfl rfl rfl) rfl ?_ | refine oS (eg rfl rfl rfl) rfl ?_ | (refine jdq rfl rfl ?_ ?_ ?_; kernel_rfl; kernel_rfl) | (refine oS (ev_build (t := ?_) rfl rfl rfl ?_) rfl ?_; rotate_left; (repeat (first | exact FillF.nil | refine FillF.cons (by constructor) rfl rfl (by repeat constructor) ?_))) | refine oS (ev_ptr_eql_nil rfl rfl rfl) rfl ?_ | refine oS (ev_ptr_neq_nil rfl rfl rfl) rfl ?_ | refine oS (ev_load rfl rfl (Rdb.ofB (n := 0) .here rfl)) rfl ?_ | refine oS (ev_load rfl rfl (Rdb.ofB (n := 0) (.there .here) rfl)) rfl ?_ | refine oS (ev_load rfl rfl (Rdb.ofB (n := 0) (.there (.there .here)) rfl)) rfl ?_)
  refine oP (Of_spec _ _ key text F1 (SliceV.mono h hle7) (SliceV.mono h2 hle7) (by omega) (by omega)) Try.call20 rfl rfl ?_
  have hml := macB_len key text
  have hof := fun G (hG : F.le G) tg (htg : tg.length = 32) => mcheck_spec (.slice a key.length c) (.slice a2 text.length c2) key text tg G (SliceV.mono h hG) (SliceV.mono h2 hG) htg (by omega) (by omega)
  generalize macB key text = M at *
  refine oE (ev_alloc (cs := z32) rfl) rfl ?_
  rintro _ _ _ _ ⟨rfl, b11, rfl, rfl⟩
  refine oN (ev_store (b := b11) rfl rfl .agg rfl h32 (lay_all (zs := z32) h32) (u8s_ones _) .here) rfl ?_
  rintro _ _ _ _ ⟨rfl, _, rfl⟩
  refine oPersist fun h11 hA11 hd11 => ?_
  have hc11 := blk_cells hA11 hd11
  have hle11 := PH.le_l F1 h11
  generalize F1.un h11 = F2 at *
  repeat (first | refine jc rfl rfl ?_ | refine jr rfl ?_ | refine jn ?_ | refine oM rfl rfl ?_ | refine oS (ev_pv rfl) rfl ?_ | refine oX rfl ?_ | refine J_cond_t rfl ?_ | refine J_cond_f rfl ?_ | refine oS (eb rfl) rfl ?_ | (refine oS (ev_cmp_t rfl rfl ?_) rfl ?_; (dsimp only [cmpP] <;> omega)) | (refine oS (ev_cmp_f rfl rfl ?_) rfl ?_; (dsimp only [cmpN] <;> omega)) | (refine oS (ea rfl rfl rfl ?_) rfl ?_; (dsimp only [InK]; first | omega | exact ⟨Int.natCast_nonneg _, by omega⟩)) | (refine oS (ed rfl rfl rfl ?_ ?_ ?_) rfl ?_; (first | omega | exact Int.natCast_nonneg _); (first | omega | exact Int.natCast_nonneg _); (dsimp only [InK]; first | omega | exact ⟨Int.natCast_nonneg _, by omega⟩)) | refine oS (ev_fieldAddr rfl rfl) rfl ?_ | (refine oS (ev_conv rfl rfl rfl (wrap_in ?_)) rfl ?_; (dsimp only [InK]; first | omega | exact ⟨Int.natCast_nonneg _, by omega⟩)) | refine oS (ev_bool_eql rfl rfl rfl) rfl ?_ | refine oS (eg rfl rfl rfl) rfl ?_ | (refine jdq rfl rfl ?_ ?_ ?_; kernel_rfl; kernel_rfl) | (refine oS (ev_build (t := ?_) rfl rfl rfl ?_) rfl ?_; rotate_left; (repeat (first | exact FillF.nil | refine FillF.cons (by constructor) rfl rfl (by repeat constructor) ?_))) | refine oS (ev_ptr_eql_nil rfl rfl rfl) rfl ?_ | refine oS (ev_ptr_neq_nil rfl rfl rfl) rfl ?_ | refine oS (ev_load rfl rfl (Rdb.ofB (n := 0) .here rfl)) rfl ?_ | refine oS (ev_load rfl rfl (Rdb.ofB (n := 0) (.there .here) rfl)) rfl ?_ | refine oS (ev_load rfl rfl (Rdb.ofB (n := 0) (.there (.there .here)) rfl)) rfl ?_)
  refine oS (ev_load_agg (cs := u8s M) rfl rfl (Rdb.ofF hc11) h32) rfl ?_
  refine oE (ev_alloc (cs := z32) rfl) rfl ?_
  rintro _ _ _ _ ⟨rfl, b12, rfl, rfl⟩
  refine oN (ev_store (b := b12) rfl rfl .agg rfl h32 (lay_all (zs := z32) h32) (u8s_ones _) .here) rfl ?_
  rintro _ _ _ _ ⟨rfl, _, rfl⟩
  obtain ⟨i, hi⟩ : ∃ i : Nat, (at' : Int) % 32 = (i : Int) := ⟨at' % 32, by omega⟩
  have hi32 : i < 32 := by omega
  have hg : M[i]? = some (M[i]'(by omega)) := List.getElem?_eq_getElem _
  generalize M[i]'(by omega) = m at *
  have hiff := set_self_iff (x := x) hg
  repeat (first | refine jc rfl rfl ?_ | refine jr rfl ?_ | refine jn ?_ | refine oM rfl rfl ?_ | refine oS (ev_pv rfl) rfl ?_ | refine oX rfl ?_ | refine J_cond_t rfl ?_ | refine J_cond_f rfl ?_ | refine oS (eb rfl) rfl ?_ | (refine oS (ev_cmp_t rfl rfl ?_) rfl ?_; (dsimp only [cmpP] <;> omega)) | (refine oS (ev_cmp_f rfl rfl ?_) rfl ?_; (dsimp only [cmpN] <;> omega)) | (refine oS (ea rfl rfl rfl ?_) rfl ?_; (dsimp only [InK]; first | omega | exact ⟨Int.natCast_nonneg _, by omega⟩)) | (refine oS (ed rfl rfl rfl ?_ ?_ ?_) rfl ?_; (first | omega | exact Int.natCast_nonneg _); (first | omega | exact Int.natCast_nonneg _); (dsimp only [InK]; first | omega | exact ⟨Int.natCast_nonneg _, by omega⟩)) | refine oS (ev_fieldAddr rfl rfl) rfl ?_ | (refine oS (ev_conv rfl rfl rfl (wrap_in ?_)) rfl ?_; (dsimp only [InK]; first | omega | exact ⟨Int.natCast_nonneg _, by omega⟩)) | refine oS (ev_bool_eql rfl rfl rfl) rfl ?_ | refine oS (eg rfl rfl rfl) rfl ?_ | (refine jdq rfl rfl ?_ ?_ ?_; kernel_rfl; kernel_rfl) | (refine oS (ev_build (t := ?_) rfl rfl rfl ?_) rfl ?_; rotate_left; (repeat (first | exact FillF.nil | refine FillF.cons (by constructor) rfl rfl (by repeat constructor) ?_))) | refine oS (ev_ptr_eql_nil rfl rfl rfl) rfl ?_ | refine oS (ev_ptr_neq_nil rfl rfl rfl) rfl ?_ | refine oS (ev_load rfl rfl (Rdb.ofB (n := 0) .here rfl)) rfl ?_ | refine oS (ev_load rfl rfl (Rdb.ofB (n := 0) (.there .here) rfl)) rfl ?_ | refine oS (ev_load rfl rfl (Rdb.ofB (n := 0) (.there (.there .here)) rfl)) rfl ?_)
  rw [hi]
  refine oS (ev_indexAddr_arr rfl rfl rfl hi32) rfl ?_
  refine oS (ev_load rfl rfl (Rdb.ofB (n := 0) .here (u8_at hg))) rfl ?_
  repeat (first | refine jc rfl rfl ?_ | refine jr rfl ?_ | refine jn ?_ | refine oM rfl rfl ?_ | refine oS (ev_pv rfl) rfl ?_ | refine oX rfl ?_ | refine J_cond_t rfl ?_ | refine J_cond_f rfl ?_ | refine oS (eb rfl) rfl ?_ | (refine oS (ev_cmp_t rfl rfl ?_) rfl ?_; (dsimp only [cmpP] <;> omega)) | (refine oS (ev_cmp_f rfl rfl ?_) rfl ?_; (dsimp only [cmpN] <;> omega)) | (refine oS (ea rfl rfl rfl ?_) rfl ?_; (dsimp only [InK]; first | omega | exact ⟨Int.natCast_nonneg _, by omega⟩)) | (refine oS (ed rfl rfl rfl ?_ ?_ ?_) rfl ?_; (first | omega | exact Int.natCast_nonneg _); (first | omega | exact Int.natCast_nonneg _); (dsimp only [InK]; first | omega | exact ⟨Int.natCast_nonneg _, by omega⟩)) | refine oS (ev_fieldAddr rfl rfl) rfl ?_ | (refine oS (ev_conv rfl rfl rfl (wrap_in ?_)) rfl ?_; (dsimp only [InK]; first | omega | exact ⟨Int.natCast_nonneg _, by omega⟩)) | refine oS (ev_bool_eql rfl rfl rfl) rfl ?_ | refine oS (eg rfl rfl rfl) rfl ?_ | (refine jdq rfl rfl ?_ ?_ ?_; kernel_rfl; kernel_rfl) | (refine oS (ev_build (t := ?_) rfl rfl rfl ?_) rfl ?_; rotate_left; (repeat (first | exact FillF.nil | refine FillF.cons (by constructor) rfl rfl (by repeat constructor) ?_))) | refine oS (ev_ptr_eql_nil rfl rfl rfl) rfl ?_ | refine oS (ev_ptr_neq_nil rfl rfl rfl) rfl ?_ | refine oS (ev_load rfl rfl (Rdb.ofB (n := 0) .here rfl)) rfl ?_ | refine oS (ev_load rfl rfl (Rdb.ofB (n := 0) (.there .here) rfl)) rfl ?_ | refine oS (ev_load rfl rfl (Rdb.ofB (n := 0) (.there (.there .here)) rfl)) rfl ?_)
  refine oS (ev_xor8 rfl rfl) rfl ?_
  refine oS (ev_indexAddr_arr rfl rfl rfl hi32) rfl ?_
  refine oN (ev_store (b := b12) (off := 0 + i * 1) rfl rfl .int rfl rfl (u8_lay (bs := M) (by omega)) (ones_cons rfl ones_nil) .here) rfl ?_
  rintro _ _ _ _ ⟨rfl, _, rfl⟩
  refine oPersist fun h12 hA12 hd12 => ?_
  have hc12 := blk_cells hA12 hd12
  have hle12 := PH.le_l F2 h12
  generalize F2.un h12 = F3 at *
  have hbl : (M.set i (m ^^^ x)).length = 32 := by rw [List.length_set, hml]
  have hb32 : (u8s (M.set i (m ^^^ x))).length = 32 := by rw [u8s_len, hbl]
  have hF3 := hle7.trans (hle11.trans hle12)
  have s1 := hof F3 hF3 M hml
  rw [decide_eq_true rfl] at s1
  have s2 := hof F3 hF3 (M.set i (m ^^^ x)) hbl
  have s3 := hof F3 hF3 tag ht
  have s4 := msame_spec _ _ key text F3 (SliceV.mono h hF3) (SliceV.mono h2 hF3) (by omega)
  refine jn ?_
  refine jc rfl rfl ?_
  refine jd rfl ?_ ?_ ?_; kernel_rfl; kernel_rfl
  repeat (first | refine oM rfl rfl ?_ | refine oS (ev_pv rfl) rfl ?_)
  refine oS (ev_load_agg (cs := u8s M) rfl rfl (Rdb.ofF (hc11.mono hle12)) h32) rfl ?_
  refine oP (s1) Try.call21 rfl rfl ?_
  repeat (first | refine oM rfl rfl ?_ | refine oS (ev_pv rfl) rfl ?_)
  refine oS (ev_load_agg (cs := u8s (M.set i (m ^^^ x))) rfl rfl (Rdb.ofF hc12) hb32) rfl ?_
  refine oP (s2) Try.call21 rfl rfl ?_
  repeat (first | refine oM rfl rfl ?_ | refine oS (ev_pv rfl) rfl ?_)
  refine oS (eg rfl rfl rfl) rfl ?_
  refine oS (evb_eq_t rfl rfl rfl (by
    refine decide_eq_decide.2 (hiff.trans ⟨fun h => by rw [h]; rfl, fun h => ?_⟩)
    exact UInt8.toNat_inj.1 (by simpa using h))) rfl ?_
  repeat (first | refine oM rfl rfl ?_ | refine oS (ev_pv rfl) rfl ?_)
  refine oS (ev_load_agg (cs := u8s tag) rfl rfl (Rdb.ofF ((hc7.mono hle11).mono hle12)) ht32) rfl ?_
  refine oP (s3) Try.call21 rfl rfl ?_
  refine oS (ev_load_agg (cs := u8s tag) rfl rfl (Rdb.ofF ((hc7.mono hle11).mono hle12)) ht32) rfl ?_
  refine oS (ev_load_agg (cs := u8s M) rfl rfl (Rdb.ofF (hc11.mono hle12)) h32) rfl ?_
  refine oS (ev_arr_eql rfl rfl rfl rfl ht hml (by kernel_rfl)) rfl ?_
  refine oS (evb_eq_t rfl rfl rfl (by
    by_cases he : M = tag
    · subst he; simp
    · rw [decide_eq_false he]; simp [Ne.symm he])) rfl ?_
  repeat (first | refine oM rfl rfl ?_ | refine oS (ev_pv rfl) rfl ?_)
  refine oP (s4) Try.call22 rfl rfl ?_
  repeat (first | refine oM rfl rfl ?_ | refine oS (ev_pv rfl) rfl ?_)
  refine oS (eb_string rfl (SliceV.rds (SliceV.mono h hF3))) rfl ?_
  repeat (first | refine oM rfl rfl ?_ | refine oS (ev_pv rfl) rfl ?_)
  refine oS (eb_string rfl (SliceV.rds (SliceV.mono h2 hF3))) rfl ?_
  refine oS (ev_str_eql rfl rfl) rfl ?_
  refine oS (evb_eq_t rfl rfl rfl (by rw [strOf_toList, strOf_toList])) rfl ?_
  repeat (first | refine oM rfl rfl ?_ | refine oS (ev_pv rfl) rfl ?_)
  repeat (first | refine jc rfl rfl ?_ | refine jr rfl ?_ | refine jn ?_ | refine oM rfl rfl ?_ | refine oS (ev_pv rfl) rfl ?_ | refine oX rfl ?_ | refine J_cond_t rfl ?_ | refine J_cond_f rfl ?_ | refine oS (eb rfl) rfl ?_ | (refine oS (ev_cmp_t rfl rfl ?_) rfl ?_; (dsimp only [cmpP] <;> omega)) | (refine oS (ev_cmp_f rfl rfl ?_) rfl ?_; (dsimp only [cmpN] <;> omega)) | (refine oS (ea rfl rfl rfl ?_) rfl ?_; (dsimp only [InK]; first | omega | exact ⟨Int.natCast_nonneg _, by omega⟩)) | (refine oS (ed rfl rfl rfl ?_ ?_ ?_) rfl ?_; (first | omega | exact Int.natCast_nonneg _); (first | omega | exact Int.natCast_nonneg _); (dsimp only [InK]; first | omega | exact ⟨Int.natCast_nonneg _, by omega⟩)) | refine oS (ev_fieldAddr rfl rfl) rfl ?_ | (refine oS (ev_conv rfl rfl rfl (wrap_in ?_)) rfl ?_; (dsimp only [InK]; first | omega | exact ⟨Int.natCast_nonneg _, by omega⟩)) | refine oS (ev_bool_eql rfl rfl rfl) rfl ?_ | refine oS (eg rfl rfl rfl) rfl ?_ | (refine jdq rfl rfl ?_ ?_ ?_; kernel_rfl; kernel_rfl) | (refine oS (ev_build (t := ?_) rfl rfl rfl ?_) rfl ?_; rotate_left; (repeat (first | exact FillF.nil | refine FillF.cons (by constructor) rfl rfl (by repeat constructor) ?_))) | refine oS (ev_ptr_eql_nil rfl rfl rfl) rfl ?_ | refine oS (ev_ptr_neq_nil rfl rfl rfl) rfl ?_ | refine oS (ev_load rfl rfl (Rdb.ofB (n := 0) .here rfl)) rfl ?_ | refine oS (ev_load rfl rfl (Rdb.ofB (n := 0) (.there .here) rfl)) rfl ?_ | refine oS (ev_load rfl rfl (Rdb.ofB (n := 0) (.there (.there .here)) rfl)) rfl ?_)
  exact J_ret1 rfl rfl [] rfl hF3 ⟨rfl, rfl⟩
open Go.ChangeShapes Go.WideShapes Go.ChangeAt
/-- A whole argument of an array's type. -/
theorem open_arr {H : Type} {enc : TypeId × Value → H} {P : Program} {W : World} {base n : Nat} {sp : Nat → Bool} {held : Bool} {t : TypeId} (ty : Ty P t (List UInt8)) (hty : ∀ F x cs, ty.rep F x cs → cs = u8s x ∧ x.length = n) (hn : n ≠ 1) {v : Value} {d : DataW H} {ps : List MemPlace}
    (h : DataW.Trod enc P W base sp held t v d ps) : ∃ x : List UInt8, v = .agg (u8s x).toArray ∧ x.length = n := by
  obtain ⟨fuel, hf⟩ := h
  obtain ⟨x, hx⟩ := ty.opn hf
  obtain ⟨h1, h2⟩ := hty _ _ _ hx
  refine ⟨x, ?_, h2⟩
  have hl : v.cells.toList.length = n := by rw [h1, u8s_len, h2]
  cases v with
  | agg cs =>
    have : cs.toList = u8s x := h1
    rw [← this]
  | _ => exact absurd hl (by simp [Value.cells]; omega)
def tyTag : Ty Try.prog 37 (List UInt8) := tyArr Try.underlying37 Try.underlying5 (by kernel_rfl) (by kernel_rfl)
set_option maxRecDepth 100000 in theorem MacChecks_lifted (os : Os) (started : os.Started) (H : Type) (enc : TypeId × Value → H) : ReturnsInHanded {} Try.checked os 7 .any (Rows.macChecksSpec.pre6 enc Try.prog Try.f7 Rows.macChecksRow.domain false) (Rows.macChecksSpec.post enc Try.prog Try.f7 false true false false) := by
  refine returnsInHanded_of_change (C := Try.checked) own_knob started (by kernel_rfl) Try.func7 (ChangeSpec.witness6 (enc := enc) (C := Try.checked) false ⟨#[], #[.slice none 0 0, .slice none 0 0, .agg (Array.replicate 32 (.int .u8 0)), .int .u8 0, .int .u8 0], []⟩ 8 (by kernel_rfl) (by kernel_rfl) (by kernel_rfl) (by kernel_rfl)) ?_; intro W base args ds gs before hval0 hW hcnd _; have hval : ∀ (j : Nat) t v, Try.f7.params[j]? = some t → args[j]? = some v → Value.okWide Try.prog W .any base t v := hval0; have hW' := hW; obtain ⟨p, q, hA0, hV, hp, hfz, hnd⟩ := hW; have hA : DataW.TrodAll enc Try.prog W 0 (fun _ => true) true Try.f7.params.toList args.toList ds p := hA0; obtain ⟨rfl, rfl⟩ := trodVars_none hV; rw [List.append_nil] at hp; have hA' := hA; rw [Try.params7] at hA hval
  obtain ⟨v0, vs0, d0, ds0, p0, q0, hargs, rfl, rfl, h0, r0⟩ := trodAll_cons hA; obtain ⟨v1, vs1, d1, ds1, p1, q1, rfl, rfl, rfl, h1, r1⟩ := trodAll_cons r0; obtain ⟨v2, vs2, d2, ds2, p2, q2, rfl, rfl, rfl, h2, r2⟩ := trodAll_cons r1; obtain ⟨v3, vs3, d3, ds3, p3, q3, rfl, rfl, rfl, h3, r3⟩ := trodAll_cons r2; obtain ⟨v4, vs4, d4, ds4, p4, q4, rfl, rfl, rfl, h4, r4⟩ := trodAll_cons r3; obtain ⟨rfl, rfl, rfl⟩ := trodAll_nil r4; obtain rfl : args = #[v0, v1, v2, v3, v4] := by cases args; simp_all
  obtain ⟨ax, cx, key, rfl, hcx, _, hbs⟩ := open_byt Try.underlying26 Try.underlying5 (by kernel_rfl) (hval 0 26 v0 rfl rfl) h0
  obtain ⟨ay, cy, text, rfl, hcy, _, hcs⟩ := open_byt Try.underlying26 Try.underlying5 (by kernel_rfl) (hval 1 26 v1 rfl rfl) h1
  obtain ⟨tag, rfl, ht⟩ := open_arr tyTag (fun _ _ _ h => h) (by decide) h2
  obtain ⟨a3, rfl, rfl, rfl, w3⟩ := open_int Try.underlying5 (hval 3 5 v3 rfl rfl) h3
  obtain ⟨a4, rfl, rfl, rfl, w4⟩ := open_int Try.underlying5 (hval 4 5 v4 rfl rfl) h4
  have hw3 := bounds_u8 w3
  have hw4 := bounds_u8 w4
  obtain ⟨m3, rfl⟩ : ∃ b : Nat, a3 = (b : Int) := ⟨a3.toNat, by omega⟩
  obtain ⟨m4, rfl⟩ : ∃ b : UInt8, a4 = (b.toNat : Int) := ⟨UInt8.ofNat a4.toNat, by simp; omega⟩
  refine (law_walk (MacChecks_walk ax ay cx cy m3 m4 key text tag (ph W) hbs hcs ht (by omega))).mono fun e W' ⟨he, hb⟩ => ?_
  subst he
  exact ⟨_, rfl, law_post laid_out (by kernel_rfl) rfl rfl Try.underlying4 hW' hA' hp rfl hb⟩
theorem MacChecks_holds : Rows.MacChecksSaid := OpenClaim.holds_of_wide 7 Try.f7 rfl rfl rfl rfl rfl rfl rfl ⟨rfl, rfl, rfl, rfl, rfl⟩ rfl rfl rfl rfl rfl (by kernel_rfl) Try.func7 (by kernel_rfl) (of_decide_eq_true (by kernel_rfl)) (by unfold Func.isWrapper; first | (rw [if_pos (by decide +kernel)]; kernel_rfl) | (rw [if_neg (by decide +kernel)]; exact ⟨rfl, rfl⟩)) (fun os started H enc _ => MacChecks_lifted os started H enc)
#print axioms MacChecks_holds
end Go.Proofs.Ytkhdodlfkpcojaa
