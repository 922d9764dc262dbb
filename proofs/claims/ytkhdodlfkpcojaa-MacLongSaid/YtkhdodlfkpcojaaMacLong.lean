/-
  A key that is longer than a block stands for its sum; noughts behind a short one change nothing (MacLong). No condition.
-/
import Derived.Test.YtkhdodlfkpcojaaMacTags
import Derived.Test.YtkhdodlfkpcojaaKx
namespace Go.Proofs.Ytkhdodlfkpcojaa
open Go.RowKit
theorem flat_u8 (n : Nat) : (List.replicate n [Value.int .u8 0]).flatten = u8s (List.replicate n (0 : UInt8)) := by
  induction n with
  | zero => rfl
  | succ n ih => rw [List.replicate_succ, List.flatten_cons, ih, List.replicate_succ]; rfl
theorem eb_append_zeros {l : Env} {F : PH} {H : List Asrt} {d : Option Nat} {T' U : TypeId} {pos : String} {af : Array Edge} {gd : Option (Nat × Bool)} {x y : Operand} {v : Value} {bs : List UInt8} {m : Nat} {k kn : IntKind} {K : Value → List Asrt} (hx : opv l x = some v) (hy : opv l y = some (.int k (m : Int))) (hn : Try.prog.underlying T' = some (.int kn))
    (hb : bs.length + m ≤ 1048576) (hu : ∀ v', Upd (bytes v bs) (bytes v' (bs ++ List.replicate m 0)) H (K v')) :
    Ev' Try.prog ⟨d, .call { callee := .builtin .append, args := #[x, y], argTypes := #[26, T'] }, U, pos, af, gd⟩ l F H fun u F' H' => F = F' ∧ H' = K u := by
  refine ev_append_zeros (n := bs.length) (xs := u8s bs) hx hy elB hn (ones_cons rfl ones_nil) (by omega) fun v' => ?_
  have e : bytes v' (bs ++ List.replicate m 0) = own v' 5 1 (bs.length + m) (u8s bs ++ (List.replicate m (Value.int .u8 0).cells.toList).flatten) := by
    unfold bytes
    rw [u8s_append, List.length_append, List.length_replicate, ← flat_u8]
    rfl
  rw [← e]
  exact hu v'
theorem mac_sum {key text : List UInt8} (h : 64 < key.length) : macB key text = macB (sumB key) text := by
  have e : ∀ x, padX key x = padX (sumB key) x := fun x => by
    unfold padX padB
    rw [if_pos h, if_neg (by rw [sumB_len]; decide)]
  unfold macB
  rw [e, e]
theorem mac_zeros {key text : List UInt8} {n : Nat} (h : key.length + n ≤ 64) : macB (key ++ List.replicate n 0) text = macB key text := by
  have e : ∀ x, padX (key ++ List.replicate n 0) x = padX key x := fun x => by
    unfold padX padB
    rw [if_neg (by rw [List.length_append, List.length_replicate]; omega), if_neg (by omega), List.length_append, List.length_replicate, List.append_assoc, List.replicate_append_replicate, show n + (64 - (key.length + n)) = 64 - key.length from by omega]
  unfold macB
  rw [e, e]
set_option maxHeartbeats 8000000 in
theorem MacLong_walk (a a2 : Option Addr) (c c2 more : Nat) (key text : List UInt8) (F : PH) (h : Byt F (.slice a key.length c) key) (h2 : Byt F (.slice a2 text.length c2) text) (hmo : more < 256) :
    Pure Try.prog 8 [.slice a key.length c, .slice a2 text.length c2, .int .u8 (more : Int)] F (.bool true) := by
  refine Spec.of3 Try.func8 rfl rfl fun X w0 => ?_
  repeat (first | refine jc rfl rfl ?_ | refine jr rfl ?_ | refine jn ?_ | refine oM rfl rfl ?_ | refine oS (ev_pv rfl) rfl ?_ | refine oX rfl ?_ | refine J_cond_t rfl ?_ | refine J_cond_f rfl ?_ | refine oS (eb rfl) rfl ?_ | (refine oS (ev_cmp_t rfl rfl ?_) rfl ?_; (dsimp only [cmpP] <;> omega)) | (refine oS (ev_cmp_f rfl rfl ?_) rfl ?_; (dsimp only [cmpN] <;> omega)) | (refine oS (ea rfl rfl rfl ?_) rfl ?_; (dsimp only [InK]; first | omega | exact ⟨Int.natCast_nonneg _, by omega⟩)) | (refine oS (ed rfl rfl rfl ?_ ?_ ?_) rfl ?_; (first | omega | exact Int.natCast_nonneg _); (first | omega | exact Int.natCast_nonneg _); (dsimp only [InK]; first | omega | exact ⟨Int.natCast_nonneg _, by omega⟩)) | refine oS (ev_fieldAddr rfl rfl) rfl ?_ | (refine oS (ev_conv rfl rfl rfl (wrap_in ?_)) rfl ?_; (dsimp only [InK]; first | omega | exact ⟨Int.natCast_nonneg _, by omega⟩)) | refine oS (ev_bool_eql rfl rfl rfl) rfl ?_ | refine oS (eg rfl rfl rfl) rfl ?_ | (refine jdq rfl rfl ?_ ?_ ?_; kernel_rfl; kernel_rfl) | (refine oS (ev_build (t := ?_) rfl rfl rfl ?_) rfl ?_; rotate_left; (repeat (first | exact FillF.nil | refine FillF.cons (by constructor) rfl rfl (by repeat constructor) ?_))) | refine oS (ev_ptr_eql_nil rfl rfl rfl) rfl ?_ | refine oS (ev_ptr_neq_nil rfl rfl rfl) rfl ?_ | refine oS (ev_load rfl rfl (Rdb.ofB (n := 0) .here rfl)) rfl ?_ | refine oS (ev_load rfl rfl (Rdb.ofB (n := 0) (.there .here) rfl)) rfl ?_ | refine oS (ev_load rfl rfl (Rdb.ofB (n := 0) (.there (.there .here)) rfl)) rfl ?_)
  refine oP (mfixed_true F) Try.call18 rfl rfl ?_
  by_cases g1 : 200 < key.length
  · repeat (first | refine jc rfl rfl ?_ | refine jr rfl ?_ | refine jn ?_ | refine oM rfl rfl ?_ | refine oS (ev_pv rfl) rfl ?_ | refine oX rfl ?_ | refine J_cond_t rfl ?_ | refine J_cond_f rfl ?_ | refine oS (eb rfl) rfl ?_ | (refine oS (ev_cmp_t rfl rfl ?_) rfl ?_; (dsimp only [cmpP] <;> omega)) | (refine oS (ev_cmp_f rfl rfl ?_) rfl ?_; (dsimp only [cmpN] <;> omega)) | (refine oS (ea rfl rfl rfl ?_) rfl ?_; (dsimp only [InK]; first | omega | exact ⟨Int.natCast_nonneg _, by omega⟩)) | (refine oS (ed rfl rfl rfl ?_ ?_ ?_) rfl ?_; (first | omega | exact Int.natCast_nonneg _); (first | omega | exact Int.natCast_nonneg _); (dsimp only [InK]; first | omega | exact ⟨Int.natCast_nonneg _, by omega⟩)) | refine oS (ev_fieldAddr rfl rfl) rfl ?_ | (refine oS (ev_conv rfl rfl rfl (wrap_in ?_)) rfl ?_; (dsimp only [InK]; first | omega | exact ⟨Int.natCast_nonneg _, by omega⟩)) | refine oS (ev_bool_eql rfl rfl rfl) rfl ?_ | refine oS (eg rfl rfl rfl) rfl ?_ | (refine jdq rfl rfl ?_ ?_ ?_; kernel_rfl; kernel_rfl) | (refine oS (ev_build (t := ?_) rfl rfl rfl ?_) rfl ?_; rotate_left; (repeat (first | exact FillF.nil | refine FillF.cons (by constructor) rfl rfl (by repeat constructor) ?_))) | refine oS (ev_ptr_eql_nil rfl rfl rfl) rfl ?_ | refine oS (ev_ptr_neq_nil rfl rfl rfl) rfl ?_ | refine oS (ev_load rfl rfl (Rdb.ofB (n := 0) .here rfl)) rfl ?_ | refine oS (ev_load rfl rfl (Rdb.ofB (n := 0) (.there .here) rfl)) rfl ?_ | refine oS (ev_load rfl rfl (Rdb.ofB (n := 0) (.there (.there .here)) rfl)) rfl ?_)
    exact J_ret1 rfl rfl [] rfl (PH.ler _) ⟨rfl, rfl⟩
  by_cases g2 : 200 < text.length
  · repeat (first | refine jc rfl rfl ?_ | refine jr rfl ?_ | refine jn ?_ | refine oM rfl rfl ?_ | refine oS (ev_pv rfl) rfl ?_ | refine oX rfl ?_ | refine J_cond_t rfl ?_ | refine J_cond_f rfl ?_ | refine oS (eb rfl) rfl ?_ | (refine oS (ev_cmp_t rfl rfl ?_) rfl ?_; (dsimp only [cmpP] <;> omega)) | (refine oS (ev_cmp_f rfl rfl ?_) rfl ?_; (dsimp only [cmpN] <;> omega)) | (refine oS (ea rfl rfl rfl ?_) rfl ?_; (dsimp only [InK]; first | omega | exact ⟨Int.natCast_nonneg _, by omega⟩)) | (refine oS (ed rfl rfl rfl ?_ ?_ ?_) rfl ?_; (first | omega | exact Int.natCast_nonneg _); (first | omega | exact Int.natCast_nonneg _); (dsimp only [InK]; first | omega | exact ⟨Int.natCast_nonneg _, by omega⟩)) | refine oS (ev_fieldAddr rfl rfl) rfl ?_ | (refine oS (ev_conv rfl rfl rfl (wrap_in ?_)) rfl ?_; (dsimp only [InK]; first | omega | exact ⟨Int.natCast_nonneg _, by omega⟩)) | refine oS (ev_bool_eql rfl rfl rfl) rfl ?_ | refine oS (eg rfl rfl rfl) rfl ?_ | (refine jdq rfl rfl ?_ ?_ ?_; kernel_rfl; kernel_rfl) | (refine oS (ev_build (t := ?_) rfl rfl rfl ?_) rfl ?_; rotate_left; (repeat (first | exact FillF.nil | refine FillF.cons (by constructor) rfl rfl (by repeat constructor) ?_))) | refine oS (ev_ptr_eql_nil rfl rfl rfl) rfl ?_ | refine oS (ev_ptr_neq_nil rfl rfl rfl) rfl ?_ | refine oS (ev_load rfl rfl (Rdb.ofB (n := 0) .here rfl)) rfl ?_ | refine oS (ev_load rfl rfl (Rdb.ofB (n := 0) (.there .here) rfl)) rfl ?_ | refine oS (ev_load rfl rfl (Rdb.ofB (n := 0) (.there (.there .here)) rfl)) rfl ?_)
    exact J_ret1 rfl rfl [] rfl (PH.ler _) ⟨rfl, rfl⟩
  repeat (first | refine jc rfl rfl ?_ | refine jr rfl ?_ | refine jn ?_ | refine oM rfl rfl ?_ | refine oS (ev_pv rfl) rfl ?_ | refine oX rfl ?_ | refine J_cond_t rfl ?_ | refine J_cond_f rfl ?_ | refine oS (eb rfl) rfl ?_ | (refine oS (ev_cmp_t rfl rfl ?_) rfl ?_; (dsimp only [cmpP] <;> omega)) | (refine oS (ev_cmp_f rfl rfl ?_) rfl ?_; (dsimp only [cmpN] <;> omega)) | (refine oS (ea rfl rfl rfl ?_) rfl ?_; (dsimp only [InK]; first | omega | exact ⟨Int.natCast_nonneg _, by omega⟩)) | (refine oS (ed rfl rfl rfl ?_ ?_ ?_) rfl ?_; (first | omega | exact Int.natCast_nonneg _); (first | omega | exact Int.natCast_nonneg _); (dsimp only [InK]; first | omega | exact ⟨Int.natCast_nonneg _, by omega⟩)) | refine oS (ev_fieldAddr rfl rfl) rfl ?_ | (refine oS (ev_conv rfl rfl rfl (wrap_in ?_)) rfl ?_; (dsimp only [InK]; first | omega | exact ⟨Int.natCast_nonneg _, by omega⟩)) | refine oS (ev_bool_eql rfl rfl rfl) rfl ?_ | refine oS (eg rfl rfl rfl) rfl ?_ | (refine jdq rfl rfl ?_ ?_ ?_; kernel_rfl; kernel_rfl) | (refine oS (ev_build (t := ?_) rfl rfl rfl ?_) rfl ?_; rotate_left; (repeat (first | exact FillF.nil | refine FillF.cons (by constructor) rfl rfl (by repeat constructor) ?_))) | refine oS (ev_ptr_eql_nil rfl rfl rfl) rfl ?_ | refine oS (ev_ptr_neq_nil rfl rfl rfl) rfl ?_ | refine oS (ev_load rfl rfl (Rdb.ofB (n := 0) .here rfl)) rfl ?_ | refine oS (ev_load rfl rfl (Rdb.ofB (n := 0) (.there .here) rfl)) rfl ?_ | refine oS (ev_load rfl rfl (Rdb.ofB (n := 0) (.there (.there .here)) rfl)) rfl ?_)
  refine oE eb_empty rfl ?_
  rintro _ _ _ _ ⟨rfl, ⟨b0, rfl⟩, rfl⟩
  repeat (first | refine jc rfl rfl ?_ | refine jr rfl ?_ | refine jn ?_ | refine oM rfl rfl ?_ | refine oS (ev_pv rfl) rfl ?_ | refine oX rfl ?_ | refine J_cond_t rfl ?_ | refine J_cond_f rfl ?_ | refine oS (eb rfl) rfl ?_ | (refine oS (ev_cmp_t rfl rfl ?_) rfl ?_; (dsimp only [cmpP] <;> omega)) | (refine oS (ev_cmp_f rfl rfl ?_) rfl ?_; (dsimp only [cmpN] <;> omega)) | (refine oS (ea rfl rfl rfl ?_) rfl ?_; (dsimp only [InK]; first | omega | exact ⟨Int.natCast_nonneg _, by omega⟩)) | (refine oS (ed rfl rfl rfl ?_ ?_ ?_) rfl ?_; (first | omega | exact Int.natCast_nonneg _); (first | omega | exact Int.natCast_nonneg _); (dsimp only [InK]; first | omega | exact ⟨Int.natCast_nonneg _, by omega⟩)) | refine oS (ev_fieldAddr rfl rfl) rfl ?_ | (refine oS (ev_conv rfl rfl rfl (wrap_in ?_)) rfl ?_; (dsimp only [InK]; first | omega | exact ⟨Int.natCast_nonneg _, by omega⟩)) | refine oS (ev_bool_eql rfl rfl rfl) rfl ?_ | refine oS (eg rfl rfl rfl) rfl ?_ | (refine jdq rfl rfl ?_ ?_ ?_; kernel_rfl; kernel_rfl) | (refine oS (ev_build (t := ?_) rfl rfl rfl ?_) rfl ?_; rotate_left; (repeat (first | exact FillF.nil | refine FillF.cons (by constructor) rfl rfl (by repeat constructor) ?_))) | refine oS (ev_ptr_eql_nil rfl rfl rfl) rfl ?_ | refine oS (ev_ptr_neq_nil rfl rfl rfl) rfl ?_ | refine oS (ev_load rfl rfl (Rdb.ofB (n := 0) .here rfl)) rfl ?_ | refine oS (ev_load rfl rfl (Rdb.ofB (n := 0) (.there .here) rfl)) rfl ?_ | refine oS (ev_load rfl rfl (Rdb.ofB (n := 0) (.there (.there .here)) rfl)) rfl ?_)
  refine oE (eb_append (bs := []) (cs := key) (K := fun v' => bytes v' key :: X) rfl rfl (SliceV.rds h) (by simp; omega) (fun v' => .here)) rfl ?_
  rintro u1 _ _ _ ⟨rfl, _, rfl⟩
  refine oE (eb_append_zeros (bs := key) (m := 65) (K := fun v' => bytes v' (key ++ List.replicate 65 0) :: X) rfl rfl rfl (by omega) (fun v' => .here)) rfl ?_
  rintro u2 _ _ _ ⟨rfl, rfl⟩
  refine oPersist fun h3 hA3 hd3 => ?_
  have hlong := bytes_byt hA3 hd3
  have hle3 := PH.le_l F h3
  generalize F.un h3 = F1 at *
  have hll : (key ++ List.replicate 65 (0 : UInt8)).length = key.length + 65 := by rw [List.length_append, List.length_replicate]
  have hms := mac_sum (key := key ++ List.replicate 65 0) (text := text) (by omega)
  generalize key ++ List.replicate 65 (0 : UInt8) = L at *
  have h32 : (u8s (sumB L)).length = 32 := by rw [u8s_len, sumB_len]
  have hsl := sumB_len L
  repeat (first | refine jc rfl rfl ?_ | refine jr rfl ?_ | refine jn ?_ | refine oM rfl rfl ?_ | refine oS (ev_pv rfl) rfl ?_ | refine oX rfl ?_ | refine J_cond_t rfl ?_ | refine J_cond_f rfl ?_ | refine oS (eb rfl) rfl ?_ | (refine oS (ev_cmp_t rfl rfl ?_) rfl ?_; (dsimp only [cmpP] <;> omega)) | (refine oS (ev_cmp_f rfl rfl ?_) rfl ?_; (dsimp only [cmpN] <;> omega)) | (refine oS (ea rfl rfl rfl ?_) rfl ?_; (dsimp only [InK]; first | omega | exact ⟨Int.natCast_nonneg _, by omega⟩)) | (refine oS (ed rfl rfl rfl ?_ ?_ ?_) rfl ?_; (first | omega | exact Int.natCast_nonneg _); (first | omega | exact Int.natCast_nonneg _); (dsimp only [InK]; first | omega | exact ⟨Int.natCast_nonneg _, by omega⟩)) | refine oS (ev_fieldAddr rfl rfl) rfl ?_ | (refine oS (ev_conv rfl rfl rfl (wrap_in ?_)) rfl ?_; (dsimp only [InK]; first | omega | exact ⟨Int.natCast_nonneg _, by omega⟩)) | refine oS (ev_bool_eql rfl rfl rfl) rfl ?_ | refine oS (eg rfl rfl rfl) rfl ?_ | (refine jdq rfl rfl ?_ ?_ ?_; kernel_rfl; kernel_rfl) | (refine oS (ev_build (t := ?_) rfl rfl rfl ?_) rfl ?_; rotate_left; (repeat (first | exact FillF.nil | refine FillF.cons (by constructor) rfl rfl (by repeat constructor) ?_))) | refine oS (ev_ptr_eql_nil rfl rfl rfl) rfl ?_ | refine oS (ev_ptr_neq_nil rfl rfl rfl) rfl ?_ | refine oS (ev_load rfl rfl (Rdb.ofB (n := 0) .here rfl)) rfl ?_ | refine oS (ev_load rfl rfl (Rdb.ofB (n := 0) (.there .here) rfl)) rfl ?_ | refine oS (ev_load rfl rfl (Rdb.ofB (n := 0) (.there (.there .here)) rfl)) rfl ?_)
  refine oP (Sum_spec u2 L F1 hlong (by omega)) Try.call17 rfl rfl ?_
  refine oE (ev_alloc (cs := z32) rfl) rfl ?_
  rintro _ _ _ _ ⟨rfl, b8, rfl, rfl⟩
  refine oN (ev_store (b := b8) rfl rfl .agg rfl h32 (lay_all (zs := z32) h32) (u8s_ones _) .here) rfl ?_
  rintro _ _ _ _ ⟨rfl, _, rfl⟩
  refine oPersist fun h8 hA8 hd8 => ?_
  have hb8 := blk_byt (n := 32) hA8 hd8 hsl.symm
  have hle8 := PH.le_l F1 h8
  generalize F1.un h8 = F2 at *
  have hF2 := hle3.trans hle8
  have o1 := of_spec u2 (.slice a2 text.length c2) L text F2 (SliceV.mono hlong hle8) (SliceV.mono h2 hF2) (by omega) (by omega)
  have o2 := of_spec (.slice (some ⟨b8, 0, none⟩) 32 32) (.slice a2 text.length c2) (sumB L) text F2 hb8 (SliceV.mono h2 hF2) (by omega) (by omega)
  rw [hms] at o1
  have hml := macB_len (sumB L) text
  refine jn ?_
  refine jc rfl rfl ?_
  refine jd rfl ?_ ?_ ?_; kernel_rfl; kernel_rfl
  repeat (first | refine oM rfl rfl ?_ | refine oS (ev_pv rfl) rfl ?_)
  refine oP (o1) Try.call19 rfl rfl ?_
  refine oS (ev_slice_arr rfl rfl) rfl ?_
  repeat (first | refine oM rfl rfl ?_ | refine oS (ev_pv rfl) rfl ?_)
  refine oP (o2) Try.call19 rfl rfl ?_
  refine oS (ev_dig_f rfl rfl rfl rfl hml (by kernel_rfl) rfl) rfl ?_
  by_cases g3 : 64 < key.length
  · repeat (first | refine jc rfl rfl ?_ | refine jr rfl ?_ | refine jn ?_ | refine oM rfl rfl ?_ | refine oS (ev_pv rfl) rfl ?_ | refine oX rfl ?_ | refine J_cond_t rfl ?_ | refine J_cond_f rfl ?_ | refine oS (eb rfl) rfl ?_ | (refine oS (ev_cmp_t rfl rfl ?_) rfl ?_; (dsimp only [cmpP] <;> omega)) | (refine oS (ev_cmp_f rfl rfl ?_) rfl ?_; (dsimp only [cmpN] <;> omega)) | (refine oS (ea rfl rfl rfl ?_) rfl ?_; (dsimp only [InK]; first | omega | exact ⟨Int.natCast_nonneg _, by omega⟩)) | (refine oS (ed rfl rfl rfl ?_ ?_ ?_) rfl ?_; (first | omega | exact Int.natCast_nonneg _); (first | omega | exact Int.natCast_nonneg _); (dsimp only [InK]; first | omega | exact ⟨Int.natCast_nonneg _, by omega⟩)) | refine oS (ev_fieldAddr rfl rfl) rfl ?_ | (refine oS (ev_conv rfl rfl rfl (wrap_in ?_)) rfl ?_; (dsimp only [InK]; first | omega | exact ⟨Int.natCast_nonneg _, by omega⟩)) | refine oS (ev_bool_eql rfl rfl rfl) rfl ?_ | refine oS (eg rfl rfl rfl) rfl ?_ | (refine jdq rfl rfl ?_ ?_ ?_; kernel_rfl; kernel_rfl) | (refine oS (ev_build (t := ?_) rfl rfl rfl ?_) rfl ?_; rotate_left; (repeat (first | exact FillF.nil | refine FillF.cons (by constructor) rfl rfl (by repeat constructor) ?_))) | refine oS (ev_ptr_eql_nil rfl rfl rfl) rfl ?_ | refine oS (ev_ptr_neq_nil rfl rfl rfl) rfl ?_ | refine oS (ev_load rfl rfl (Rdb.ofB (n := 0) .here rfl)) rfl ?_ | refine oS (ev_load rfl rfl (Rdb.ofB (n := 0) (.there .here) rfl)) rfl ?_ | refine oS (ev_load rfl rfl (Rdb.ofB (n := 0) (.there (.there .here)) rfl)) rfl ?_)
    exact J_ret1 rfl rfl [] rfl hF2 ⟨rfl, rfl⟩
  obtain ⟨n, hn⟩ : ∃ n : Nat, (more : Int) % (65 - (key.length : Int)) = (n : Int) := ⟨((more : Int) % (65 - (key.length : Int))).toNat, (Int.toNat_of_nonneg (Int.emod_nonneg _ (by omega))).symm⟩
  have hnl : (n : Int) < 65 - (key.length : Int) := by rw [← hn]; exact Int.emod_lt_of_pos _ (by omega)
  have Hn := Lib.hid hn
  clear hn
  have hmz := mac_zeros (key := key) (text := text) (n := n) (by omega)
  repeat (first | refine jc rfl rfl ?_ | refine jr rfl ?_ | refine jn ?_ | refine oM rfl rfl ?_ | refine oS (ev_pv rfl) rfl ?_ | refine oX rfl ?_ | refine J_cond_t rfl ?_ | refine J_cond_f rfl ?_ | refine oS (eb rfl) rfl ?_ | (refine oS (ev_cmp_t rfl rfl ?_) rfl ?_; (dsimp only [cmpP] <;> omega)) | (refine oS (ev_cmp_f rfl rfl ?_) rfl ?_; (dsimp only [cmpN] <;> omega)) | (refine oS (ea rfl rfl rfl ?_) rfl ?_; (dsimp only [InK]; first | omega | exact ⟨Int.natCast_nonneg _, by omega⟩)) | (refine oS (ed rfl rfl rfl ?_ ?_ ?_) rfl ?_; (first | omega | exact Int.natCast_nonneg _); (first | omega | exact Int.natCast_nonneg _); (dsimp only [InK]; first | omega | exact ⟨Int.natCast_nonneg _, by omega⟩)) | refine oS (ev_fieldAddr rfl rfl) rfl ?_ | (refine oS (ev_conv rfl rfl rfl (wrap_in ?_)) rfl ?_; (dsimp only [InK]; first | omega | exact ⟨Int.natCast_nonneg _, by omega⟩)) | refine oS (ev_bool_eql rfl rfl rfl) rfl ?_ | refine oS (eg rfl rfl rfl) rfl ?_ | (refine jdq rfl rfl ?_ ?_ ?_; kernel_rfl; kernel_rfl) | (refine oS (ev_build (t := ?_) rfl rfl rfl ?_) rfl ?_; rotate_left; (repeat (first | exact FillF.nil | refine FillF.cons (by constructor) rfl rfl (by repeat constructor) ?_))) | refine oS (ev_ptr_eql_nil rfl rfl rfl) rfl ?_ | refine oS (ev_ptr_neq_nil rfl rfl rfl) rfl ?_ | refine oS (ev_load rfl rfl (Rdb.ofB (n := 0) .here rfl)) rfl ?_ | refine oS (ev_load rfl rfl (Rdb.ofB (n := 0) (.there .here) rfl)) rfl ?_ | refine oS (ev_load rfl rfl (Rdb.ofB (n := 0) (.there (.there .here)) rfl)) rfl ?_)
  refine ja PH.emp [] ?_ (fun w s => s.any) ?_; kernel_rfl
  refine aT 1 rfl (ev_pv rfl) rfl rfl ?_ ?_ ?_ ?_; kernel_rfl; kernel_rfl; kernel_rfl
  refine aT 3 rfl (ev_pv rfl) rfl rfl ?_ ?_ ?_ ?_; kernel_rfl; kernel_rfl; kernel_rfl
  refine aT 4 rfl (ev_conv rfl rfl rfl (wrap_in (by dsimp only [InK]; omega))) rfl rfl ?_ ?_ ?_ ?_; kernel_rfl; kernel_rfl; kernel_rfl
  refine aT 5 rfl (ev_pv rfl) rfl rfl ?_ ?_ ?_ ?_; kernel_rfl; kernel_rfl; kernel_rfl
  refine aT 6 rfl (eb rfl) rfl rfl ?_ ?_ ?_ ?_; kernel_rfl; kernel_rfl; kernel_rfl
  refine aT 7 rfl (ea rfl rfl rfl (by dsimp only [InK]; omega)) rfl rfl ?_ ?_ ?_ ?_; kernel_rfl; kernel_rfl; kernel_rfl
  refine aT 8 rfl (ed rfl rfl (congrArg some Hn.out) (by omega) (by omega) (by dsimp only [InK]; omega)) rfl rfl ?_ ?_ ?_ ?_; kernel_rfl; kernel_rfl; kernel_rfl
  refine aB (i := 0) (by kernel_rfl) (aE rfl eb_empty rfl rfl (fun _ _ _ _ _ w s => s.any) ?_)
  rintro _ _ _ _ ⟨rfl, ⟨b1, rfl⟩, rfl⟩
  refine aB (i := 2) (by kernel_rfl) (aE rfl (eb_append (bs := []) (cs := key) (K := fun v' => bytes v' key :: X) rfl rfl (SliceV.rds (SliceV.mono h hF2)) (by simp; omega) (fun v' => .here)) rfl rfl (fun _ _ _ _ _ w s => s.any) ?_)
  rintro u3 _ _ _ ⟨rfl, _, rfl⟩
  refine aB (i := 9) (by kernel_rfl) (aE rfl (eb_append_zeros (bs := key) (m := n) (K := fun v' => bytes v' (key ++ List.replicate n 0) :: X) rfl rfl rfl (by omega) (fun v' => .here)) rfl rfl (fun _ _ _ _ _ w s => s.any) ?_)
  rintro u4 _ _ _ ⟨rfl, rfl⟩
  refine aT 10 rfl (ev_pv rfl) rfl rfl ?_ ?_ ?_ ?_; kernel_rfl; kernel_rfl; kernel_rfl
  refine aD (by kernel_rfl) ?_
  refine J_persist fun h9 hA9 hd9 => ?_
  have hfill := bytes_byt hA9 hd9
  have hle9 := PH.le_l F2 h9
  generalize F2.un h9 = F3 at *
  have hfl : (key ++ List.replicate n (0 : UInt8)).length = key.length + n := by rw [List.length_append, List.length_replicate]
  have o3 := of_spec u4 (.slice a2 text.length c2) (key ++ List.replicate n 0) text F3 hfill (SliceV.mono h2 (hF2.trans hle9)) (by omega) (by omega)
  rw [hmz] at o3
  repeat (first | refine jc rfl rfl ?_ | refine jr rfl ?_ | refine jn ?_ | refine oM rfl rfl ?_ | refine oS (ev_pv rfl) rfl ?_ | refine oX rfl ?_ | refine J_cond_t rfl ?_ | refine J_cond_f rfl ?_ | refine oS (eb rfl) rfl ?_ | (refine oS (ev_cmp_t rfl rfl ?_) rfl ?_; (dsimp only [cmpP] <;> omega)) | (refine oS (ev_cmp_f rfl rfl ?_) rfl ?_; (dsimp only [cmpN] <;> omega)) | (refine oS (ea rfl rfl rfl ?_) rfl ?_; (dsimp only [InK]; first | omega | exact ⟨Int.natCast_nonneg _, by omega⟩)) | (refine oS (ed rfl rfl rfl ?_ ?_ ?_) rfl ?_; (first | omega | exact Int.natCast_nonneg _); (first | omega | exact Int.natCast_nonneg _); (dsimp only [InK]; first | omega | exact ⟨Int.natCast_nonneg _, by omega⟩)) | refine oS (ev_fieldAddr rfl rfl) rfl ?_ | (refine oS (ev_conv rfl rfl rfl (wrap_in ?_)) rfl ?_; (dsimp only [InK]; first | omega | exact ⟨Int.natCast_nonneg _, by omega⟩)) | refine oS (ev_bool_eql rfl rfl rfl) rfl ?_ | refine oS (eg rfl rfl rfl) rfl ?_ | (refine jdq rfl rfl ?_ ?_ ?_; kernel_rfl; kernel_rfl) | (refine oS (ev_build (t := ?_) rfl rfl rfl ?_) rfl ?_; rotate_left; (repeat (first | exact FillF.nil | refine FillF.cons (by constructor) rfl rfl (by repeat constructor) ?_))) | refine oS (ev_ptr_eql_nil rfl rfl rfl) rfl ?_ | refine oS (ev_ptr_neq_nil rfl rfl rfl) rfl ?_ | refine oS (ev_load rfl rfl (Rdb.ofB (n := 0) .here rfl)) rfl ?_ | refine oS (ev_load rfl rfl (Rdb.ofB (n := 0) (.there .here) rfl)) rfl ?_ | refine oS (ev_load rfl rfl (Rdb.ofB (n := 0) (.there (.there .here)) rfl)) rfl ?_)
  refine oP (o3) Try.call19 rfl rfl ?_
  repeat (first | refine jc rfl rfl ?_ | refine jr rfl ?_ | refine jn ?_ | refine oM rfl rfl ?_ | refine oS (ev_pv rfl) rfl ?_ | refine oX rfl ?_ | refine J_cond_t rfl ?_ | refine J_cond_f rfl ?_ | refine oS (eb rfl) rfl ?_ | (refine oS (ev_cmp_t rfl rfl ?_) rfl ?_; (dsimp only [cmpP] <;> omega)) | (refine oS (ev_cmp_f rfl rfl ?_) rfl ?_; (dsimp only [cmpN] <;> omega)) | (refine oS (ea rfl rfl rfl ?_) rfl ?_; (dsimp only [InK]; first | omega | exact ⟨Int.natCast_nonneg _, by omega⟩)) | (refine oS (ed rfl rfl rfl ?_ ?_ ?_) rfl ?_; (first | omega | exact Int.natCast_nonneg _); (first | omega | exact Int.natCast_nonneg _); (dsimp only [InK]; first | omega | exact ⟨Int.natCast_nonneg _, by omega⟩)) | refine oS (ev_fieldAddr rfl rfl) rfl ?_ | (refine oS (ev_conv rfl rfl rfl (wrap_in ?_)) rfl ?_; (dsimp only [InK]; first | omega | exact ⟨Int.natCast_nonneg _, by omega⟩)) | refine oS (ev_bool_eql rfl rfl rfl) rfl ?_ | refine oS (eg rfl rfl rfl) rfl ?_ | (refine jdq rfl rfl ?_ ?_ ?_; kernel_rfl; kernel_rfl) | (refine oS (ev_build (t := ?_) rfl rfl rfl ?_) rfl ?_; rotate_left; (repeat (first | exact FillF.nil | refine FillF.cons (by constructor) rfl rfl (by repeat constructor) ?_))) | refine oS (ev_ptr_eql_nil rfl rfl rfl) rfl ?_ | refine oS (ev_ptr_neq_nil rfl rfl rfl) rfl ?_ | refine oS (ev_load rfl rfl (Rdb.ofB (n := 0) .here rfl)) rfl ?_ | refine oS (ev_load rfl rfl (Rdb.ofB (n := 0) (.there .here) rfl)) rfl ?_ | refine oS (ev_load rfl rfl (Rdb.ofB (n := 0) (.there (.there .here)) rfl)) rfl ?_)
  refine oP (of_spec (.slice a key.length c) (.slice a2 text.length c2) key text F3 (SliceV.mono h (hF2.trans hle9)) (SliceV.mono h2 (hF2.trans hle9)) (by omega) (by omega)) Try.call19 rfl rfl ?_
  refine oS (ev_dig_t rfl rfl rfl rfl (macB_len _ _) (by kernel_rfl) rfl) rfl ?_
  repeat (first | refine jc rfl rfl ?_ | refine jr rfl ?_ | refine jn ?_ | refine oM rfl rfl ?_ | refine oS (ev_pv rfl) rfl ?_ | refine oX rfl ?_ | refine J_cond_t rfl ?_ | refine J_cond_f rfl ?_ | refine oS (eb rfl) rfl ?_ | (refine oS (ev_cmp_t rfl rfl ?_) rfl ?_; (dsimp only [cmpP] <;> omega)) | (refine oS (ev_cmp_f rfl rfl ?_) rfl ?_; (dsimp only [cmpN] <;> omega)) | (refine oS (ea rfl rfl rfl ?_) rfl ?_; (dsimp only [InK]; first | omega | exact ⟨Int.natCast_nonneg _, by omega⟩)) | (refine oS (ed rfl rfl rfl ?_ ?_ ?_) rfl ?_; (first | omega | exact Int.natCast_nonneg _); (first | omega | exact Int.natCast_nonneg _); (dsimp only [InK]; first | omega | exact ⟨Int.natCast_nonneg _, by omega⟩)) | refine oS (ev_fieldAddr rfl rfl) rfl ?_ | (refine oS (ev_conv rfl rfl rfl (wrap_in ?_)) rfl ?_; (dsimp only [InK]; first | omega | exact ⟨Int.natCast_nonneg _, by omega⟩)) | refine oS (ev_bool_eql rfl rfl rfl) rfl ?_ | refine oS (eg rfl rfl rfl) rfl ?_ | (refine jdq rfl rfl ?_ ?_ ?_; kernel_rfl; kernel_rfl) | (refine oS (ev_build (t := ?_) rfl rfl rfl ?_) rfl ?_; rotate_left; (repeat (first | exact FillF.nil | refine FillF.cons (by constructor) rfl rfl (by repeat constructor) ?_))) | refine oS (ev_ptr_eql_nil rfl rfl rfl) rfl ?_ | refine oS (ev_ptr_neq_nil rfl rfl rfl) rfl ?_ | refine oS (ev_load rfl rfl (Rdb.ofB (n := 0) .here rfl)) rfl ?_ | refine oS (ev_load rfl rfl (Rdb.ofB (n := 0) (.there .here) rfl)) rfl ?_ | refine oS (ev_load rfl rfl (Rdb.ofB (n := 0) (.there (.there .here)) rfl)) rfl ?_)
  exact J_ret1 rfl rfl [] rfl (hF2.trans hle9) ⟨rfl, rfl⟩
open Go.ChangeShapes Go.WideShapes Go.ChangeAt
set_option maxRecDepth 100000 in theorem MacLong_lifted (os : Os) (started : os.Started) (H : Type) (enc : TypeId × Value → H) : ReturnsInHanded {} Try.checked os 8 .any (Rows.macLongSpec.pre6 enc Try.prog Try.f8 Rows.macLongRow.domain false) (Rows.macLongSpec.post enc Try.prog Try.f8 false true false false) := by
  refine returnsInHanded_of_change (C := Try.checked) own_knob started (by kernel_rfl) Try.func8 (ChangeSpec.witness6 (enc := enc) (C := Try.checked) false ⟨#[], #[.slice none 0 0, .slice none 0 0, .int .u8 0], []⟩ 8 (by kernel_rfl) (by kernel_rfl) (by kernel_rfl) (by kernel_rfl)) ?_; intro W base args ds gs before hval0 hW hcnd _; have hval : ∀ (j : Nat) t v, Try.f8.params[j]? = some t → args[j]? = some v → Value.okWide Try.prog W .any base t v := hval0; have hW' := hW; obtain ⟨p, q, hA0, hV, hp, hfz, hnd⟩ := hW; have hA : DataW.TrodAll enc Try.prog W 0 (fun _ => true) true Try.f8.params.toList args.toList ds p := hA0; obtain ⟨rfl, rfl⟩ := trodVars_none hV; rw [List.append_nil] at hp; have hA' := hA; rw [Try.params8] at hA hval
  obtain ⟨v0, vs0, d0, ds0, p0, q0, hargs, rfl, rfl, h0, r0⟩ := trodAll_cons hA; obtain ⟨v1, vs1, d1, ds1, p1, q1, rfl, rfl, rfl, h1, r1⟩ := trodAll_cons r0; obtain ⟨v2, vs2, d2, ds2, p2, q2, rfl, rfl, rfl, h2, r2⟩ := trodAll_cons r1; obtain ⟨rfl, rfl, rfl⟩ := trodAll_nil r2; obtain rfl : args = #[v0, v1, v2] := by cases args; simp_all
  obtain ⟨ax, cx, key, rfl, hcx, _, hbs⟩ := open_byt Try.underlying26 Try.underlying5 (by kernel_rfl) (hval 0 26 v0 rfl rfl) h0
  obtain ⟨ay, cy, text, rfl, hcy, _, hcs⟩ := open_byt Try.underlying26 Try.underlying5 (by kernel_rfl) (hval 1 26 v1 rfl rfl) h1
  obtain ⟨a3, rfl, rfl, rfl, w3⟩ := open_int Try.underlying5 (hval 2 5 v2 rfl rfl) h2
  have hw3 := bounds_u8 w3
  obtain ⟨m3, rfl⟩ : ∃ b : Nat, a3 = (b : Int) := ⟨a3.toNat, by omega⟩
  refine (law_walk (MacLong_walk ax ay cx cy m3 key text (ph W) hbs hcs (by omega))).mono fun e W' ⟨he, hb⟩ => ?_
  subst he
  exact ⟨_, rfl, law_post laid_out (by kernel_rfl) rfl rfl Try.underlying4 hW' hA' hp rfl hb⟩
theorem MacLong_holds : Rows.MacLongSaid := OpenClaim.holds_of_wide 8 Try.f8 rfl rfl rfl rfl rfl rfl rfl ⟨rfl, rfl, rfl, rfl, rfl⟩ rfl rfl rfl rfl rfl (by kernel_rfl) Try.func8 (by kernel_rfl) (of_decide_eq_true (by kernel_rfl)) (by unfold Func.isWrapper; first | (rw [if_pos (by decide +kernel)]; kernel_rfl) | (rw [if_neg (by decide +kernel)]; exact ⟨rfl, rfl⟩)) (fun os started H enc _ => MacLong_lifted os started H enc)
#print axioms MacLong_holds
end Go.Proofs.Ytkhdodlfkpcojaa
