/-
  Numbers and rows are put as the document says, and what was handed in stays (OctetsPuts). No condition.
-/
import Derived.Test.YtgbljldpamjcpaaOh
import Derived.Test.YtgbljldpamjcpaaKp
import Derived.Lib.Hide
namespace Go.Proofs.Ytgbljldpamjcpaa
open Go.RowKit
theorem putB_le (v : Nat) (n : Int) : (putB v n).length ≤ 8 := by
  unfold putB
  split
  · rw [List.length_drop, be8_len]; omega
  · simp
set_option maxHeartbeats 16000000 in
theorem OctetsPuts_walk (a a2 : Option Addr) (c c2 v : Nat) (n : Int) (bs row : List UInt8) (F : PH) (hbs : Byt F (.slice a bs.length c) bs) (hc : bs.length ≤ c) (hrow : Byt F (.slice a2 row.length c2) row) (hv : v < 2 ^ 64) :
    Pure Try.prog 3 [.slice a bs.length c, .int .u64 v, .int .i64 n, .slice a2 row.length c2] F (.bool true) := by
  refine Spec.of4 Try.func3 rfl rfl fun X w0 => ?_
  repeat (first | refine jc rfl rfl ?_ | refine jr rfl ?_ | refine jn ?_ | refine oM rfl rfl ?_ | refine oS (ev_pv rfl) rfl ?_ | refine oX rfl ?_ | refine J_cond_t rfl ?_ | refine J_cond_f rfl ?_ | refine oS (eb rfl) rfl ?_ | (refine oS (ev_cmp_t rfl rfl ?_) rfl ?_; (dsimp only [cmpP] <;> omega)) | (refine oS (ev_cmp_f rfl rfl ?_) rfl ?_; (dsimp only [cmpN] <;> omega)) | (refine oS (ea rfl rfl rfl ?_) rfl ?_; (dsimp only [InK]; first | omega | exact ⟨Int.natCast_nonneg _, by omega⟩)) | (refine oS (ed rfl rfl rfl ?_ ?_ ?_) rfl ?_; (first | omega | exact Int.natCast_nonneg _); (first | omega | exact Int.natCast_nonneg _); (dsimp only [InK]; first | omega | exact ⟨Int.natCast_nonneg _, by omega⟩)) | refine oS (ev_fieldAddr rfl rfl) rfl ?_ | (refine oS (ev_conv rfl rfl rfl (wrap_in ?_)) rfl ?_; (dsimp only [InK]; first | omega | exact ⟨Int.natCast_nonneg _, by omega⟩)) | refine oS (ev_bool_eql rfl rfl rfl) rfl ?_ | refine oS (eg rfl rfl rfl) rfl ?_ | (refine jdq rfl rfl ?_ ?_ ?_; kernel_rfl; kernel_rfl) | (refine oS (ev_build (t := ?_) rfl rfl rfl ?_) rfl ?_; rotate_left; (repeat (first | exact FillF.nil | refine FillF.cons (by constructor) rfl rfl (by repeat constructor) ?_))) | refine oS (ev_ptr_eql_nil rfl rfl rfl) rfl ?_ | refine oS (ev_ptr_neq_nil rfl rfl rfl) rfl ?_ | refine oS (ev_load rfl rfl (Rdb.ofB (n := 0) .here rfl)) rfl ?_ | refine oS (ev_load rfl rfl (Rdb.ofB (n := 0) (.there .here) rfl)) rfl ?_ | refine oS (ev_load rfl rfl (Rdb.ofB (n := 0) (.there (.there .here)) rfl)) rfl ?_)
  refine oP (fixed_true F) Try.call10 rfl rfl ?_
  by_cases hl : 500 < bs.length
  · repeat (first | refine jc rfl rfl ?_ | refine jr rfl ?_ | refine jn ?_ | refine oM rfl rfl ?_ | refine oS (ev_pv rfl) rfl ?_ | refine oX rfl ?_ | refine J_cond_t rfl ?_ | refine J_cond_f rfl ?_ | refine oS (eb rfl) rfl ?_ | (refine oS (ev_cmp_t rfl rfl ?_) rfl ?_; (dsimp only [cmpP] <;> omega)) | (refine oS (ev_cmp_f rfl rfl ?_) rfl ?_; (dsimp only [cmpN] <;> omega)) | (refine oS (ea rfl rfl rfl ?_) rfl ?_; (dsimp only [InK]; first | omega | exact ⟨Int.natCast_nonneg _, by omega⟩)) | (refine oS (ed rfl rfl rfl ?_ ?_ ?_) rfl ?_; (first | omega | exact Int.natCast_nonneg _); (first | omega | exact Int.natCast_nonneg _); (dsimp only [InK]; first | omega | exact ⟨Int.natCast_nonneg _, by omega⟩)) | refine oS (ev_fieldAddr rfl rfl) rfl ?_ | (refine oS (ev_conv rfl rfl rfl (wrap_in ?_)) rfl ?_; (dsimp only [InK]; first | omega | exact ⟨Int.natCast_nonneg _, by omega⟩)) | refine oS (ev_bool_eql rfl rfl rfl) rfl ?_ | refine oS (eg rfl rfl rfl) rfl ?_ | (refine jdq rfl rfl ?_ ?_ ?_; kernel_rfl; kernel_rfl) | (refine oS (ev_build (t := ?_) rfl rfl rfl ?_) rfl ?_; rotate_left; (repeat (first | exact FillF.nil | refine FillF.cons (by constructor) rfl rfl (by repeat constructor) ?_))) | refine oS (ev_ptr_eql_nil rfl rfl rfl) rfl ?_ | refine oS (ev_ptr_neq_nil rfl rfl rfl) rfl ?_ | refine oS (ev_load rfl rfl (Rdb.ofB (n := 0) .here rfl)) rfl ?_ | refine oS (ev_load rfl rfl (Rdb.ofB (n := 0) (.there .here) rfl)) rfl ?_ | refine oS (ev_load rfl rfl (Rdb.ofB (n := 0) (.there (.there .here)) rfl)) rfl ?_)
    exact J_ret1 rfl rfl [] rfl (PH.ler _) ⟨rfl, rfl⟩
  by_cases hl2 : 500 < row.length
  · repeat (first | refine jc rfl rfl ?_ | refine jr rfl ?_ | refine jn ?_ | refine oM rfl rfl ?_ | refine oS (ev_pv rfl) rfl ?_ | refine oX rfl ?_ | refine J_cond_t rfl ?_ | refine J_cond_f rfl ?_ | refine oS (eb rfl) rfl ?_ | (refine oS (ev_cmp_t rfl rfl ?_) rfl ?_; (dsimp only [cmpP] <;> omega)) | (refine oS (ev_cmp_f rfl rfl ?_) rfl ?_; (dsimp only [cmpN] <;> omega)) | (refine oS (ea rfl rfl rfl ?_) rfl ?_; (dsimp only [InK]; first | omega | exact ⟨Int.natCast_nonneg _, by omega⟩)) | (refine oS (ed rfl rfl rfl ?_ ?_ ?_) rfl ?_; (first | omega | exact Int.natCast_nonneg _); (first | omega | exact Int.natCast_nonneg _); (dsimp only [InK]; first | omega | exact ⟨Int.natCast_nonneg _, by omega⟩)) | refine oS (ev_fieldAddr rfl rfl) rfl ?_ | (refine oS (ev_conv rfl rfl rfl (wrap_in ?_)) rfl ?_; (dsimp only [InK]; first | omega | exact ⟨Int.natCast_nonneg _, by omega⟩)) | refine oS (ev_bool_eql rfl rfl rfl) rfl ?_ | refine oS (eg rfl rfl rfl) rfl ?_ | (refine jdq rfl rfl ?_ ?_ ?_; kernel_rfl; kernel_rfl) | (refine oS (ev_build (t := ?_) rfl rfl rfl ?_) rfl ?_; rotate_left; (repeat (first | exact FillF.nil | refine FillF.cons (by constructor) rfl rfl (by repeat constructor) ?_))) | refine oS (ev_ptr_eql_nil rfl rfl rfl) rfl ?_ | refine oS (ev_ptr_neq_nil rfl rfl rfl) rfl ?_ | refine oS (ev_load rfl rfl (Rdb.ofB (n := 0) .here rfl)) rfl ?_ | refine oS (ev_load rfl rfl (Rdb.ofB (n := 0) (.there .here) rfl)) rfl ?_ | refine oS (ev_load rfl rfl (Rdb.ofB (n := 0) (.there (.there .here)) rfl)) rfl ?_)
    exact J_ret1 rfl rfl [] rfl (PH.ler _) ⟨rfl, rfl⟩
  repeat (first | refine jc rfl rfl ?_ | refine jr rfl ?_ | refine jn ?_ | refine oM rfl rfl ?_ | refine oS (ev_pv rfl) rfl ?_ | refine oX rfl ?_ | refine J_cond_t rfl ?_ | refine J_cond_f rfl ?_ | refine oS (eb rfl) rfl ?_ | (refine oS (ev_cmp_t rfl rfl ?_) rfl ?_; (dsimp only [cmpP] <;> omega)) | (refine oS (ev_cmp_f rfl rfl ?_) rfl ?_; (dsimp only [cmpN] <;> omega)) | (refine oS (ea rfl rfl rfl ?_) rfl ?_; (dsimp only [InK]; first | omega | exact ⟨Int.natCast_nonneg _, by omega⟩)) | (refine oS (ed rfl rfl rfl ?_ ?_ ?_) rfl ?_; (first | omega | exact Int.natCast_nonneg _); (first | omega | exact Int.natCast_nonneg _); (dsimp only [InK]; first | omega | exact ⟨Int.natCast_nonneg _, by omega⟩)) | refine oS (ev_fieldAddr rfl rfl) rfl ?_ | (refine oS (ev_conv rfl rfl rfl (wrap_in ?_)) rfl ?_; (dsimp only [InK]; first | omega | exact ⟨Int.natCast_nonneg _, by omega⟩)) | refine oS (ev_bool_eql rfl rfl rfl) rfl ?_ | refine oS (eg rfl rfl rfl) rfl ?_ | (refine jdq rfl rfl ?_ ?_ ?_; kernel_rfl; kernel_rfl) | (refine oS (ev_build (t := ?_) rfl rfl rfl ?_) rfl ?_; rotate_left; (repeat (first | exact FillF.nil | refine FillF.cons (by constructor) rfl rfl (by repeat constructor) ?_))) | refine oS (ev_ptr_eql_nil rfl rfl rfl) rfl ?_ | refine oS (ev_ptr_neq_nil rfl rfl rfl) rfl ?_ | refine oS (ev_load rfl rfl (Rdb.ofB (n := 0) .here rfl)) rfl ?_ | refine oS (ev_load rfl rfl (Rdb.ofB (n := 0) (.there .here) rfl)) rfl ?_ | refine oS (ev_load rfl rfl (Rdb.ofB (n := 0) (.there (.there .here)) rfl)) rfl ?_)
  refine oS (eb_string rfl hbs.rds) rfl ?_
  repeat (first | refine jc rfl rfl ?_ | refine jr rfl ?_ | refine jn ?_ | refine oM rfl rfl ?_ | refine oS (ev_pv rfl) rfl ?_ | refine oX rfl ?_ | refine J_cond_t rfl ?_ | refine J_cond_f rfl ?_ | refine oS (eb rfl) rfl ?_ | (refine oS (ev_cmp_t rfl rfl ?_) rfl ?_; (dsimp only [cmpP] <;> omega)) | (refine oS (ev_cmp_f rfl rfl ?_) rfl ?_; (dsimp only [cmpN] <;> omega)) | (refine oS (ea rfl rfl rfl ?_) rfl ?_; (dsimp only [InK]; first | omega | exact ⟨Int.natCast_nonneg _, by omega⟩)) | (refine oS (ed rfl rfl rfl ?_ ?_ ?_) rfl ?_; (first | omega | exact Int.natCast_nonneg _); (first | omega | exact Int.natCast_nonneg _); (dsimp only [InK]; first | omega | exact ⟨Int.natCast_nonneg _, by omega⟩)) | refine oS (ev_fieldAddr rfl rfl) rfl ?_ | (refine oS (ev_conv rfl rfl rfl (wrap_in ?_)) rfl ?_; (dsimp only [InK]; first | omega | exact ⟨Int.natCast_nonneg _, by omega⟩)) | refine oS (ev_bool_eql rfl rfl rfl) rfl ?_ | refine oS (eg rfl rfl rfl) rfl ?_ | (refine jdq rfl rfl ?_ ?_ ?_; kernel_rfl; kernel_rfl) | (refine oS (ev_build (t := ?_) rfl rfl rfl ?_) rfl ?_; rotate_left; (repeat (first | exact FillF.nil | refine FillF.cons (by constructor) rfl rfl (by repeat constructor) ?_))) | refine oS (ev_ptr_eql_nil rfl rfl rfl) rfl ?_ | refine oS (ev_ptr_neq_nil rfl rfl rfl) rfl ?_ | refine oS (ev_load rfl rfl (Rdb.ofB (n := 0) .here rfl)) rfl ?_ | refine oS (ev_load rfl rfl (Rdb.ofB (n := 0) (.there .here) rfl)) rfl ?_ | refine oS (ev_load rfl rfl (Rdb.ofB (n := 0) (.there (.there .here)) rfl)) rfl ?_)
  refine oE (ev_make (c := bs.length + 40) rfl (by rw [show ((bs.length + 40 : Nat) : Int) = (bs.length : Int) + 40 from by omega]; rfl) elB (by omega)) rfl ?_
  rintro _ _ _ _ ⟨rfl, ⟨bm, rfl⟩, rfl⟩
  repeat (first | refine jc rfl rfl ?_ | refine jr rfl ?_ | refine jn ?_ | refine oM rfl rfl ?_ | refine oS (ev_pv rfl) rfl ?_ | refine oX rfl ?_ | refine J_cond_t rfl ?_ | refine J_cond_f rfl ?_ | refine oS (eb rfl) rfl ?_ | (refine oS (ev_cmp_t rfl rfl ?_) rfl ?_; (dsimp only [cmpP] <;> omega)) | (refine oS (ev_cmp_f rfl rfl ?_) rfl ?_; (dsimp only [cmpN] <;> omega)) | (refine oS (ea rfl rfl rfl ?_) rfl ?_; (dsimp only [InK]; first | omega | exact ⟨Int.natCast_nonneg _, by omega⟩)) | (refine oS (ed rfl rfl rfl ?_ ?_ ?_) rfl ?_; (first | omega | exact Int.natCast_nonneg _); (first | omega | exact Int.natCast_nonneg _); (dsimp only [InK]; first | omega | exact ⟨Int.natCast_nonneg _, by omega⟩)) | refine oS (ev_fieldAddr rfl rfl) rfl ?_ | (refine oS (ev_conv rfl rfl rfl (wrap_in ?_)) rfl ?_; (dsimp only [InK]; first | omega | exact ⟨Int.natCast_nonneg _, by omega⟩)) | refine oS (ev_bool_eql rfl rfl rfl) rfl ?_ | refine oS (eg rfl rfl rfl) rfl ?_ | (refine jdq rfl rfl ?_ ?_ ?_; kernel_rfl; kernel_rfl) | (refine oS (ev_build (t := ?_) rfl rfl rfl ?_) rfl ?_; rotate_left; (repeat (first | exact FillF.nil | refine FillF.cons (by constructor) rfl rfl (by repeat constructor) ?_))) | refine oS (ev_ptr_eql_nil rfl rfl rfl) rfl ?_ | refine oS (ev_ptr_neq_nil rfl rfl rfl) rfl ?_ | refine oS (ev_load rfl rfl (Rdb.ofB (n := 0) .here rfl)) rfl ?_ | refine oS (ev_load rfl rfl (Rdb.ofB (n := 0) (.there .here) rfl)) rfl ?_ | refine oS (ev_load rfl rfl (Rdb.ofB (n := 0) (.there (.there .here)) rfl)) rfl ?_)
  refine oE (eb_append (bs := []) (cs := bs) (K := fun v' => bytes v' bs :: X) rfl rfl hbs.rds (by simp; omega) (fun v' => .here)) rfl ?_
  rintro ru _ _ _ ⟨rfl, _, rfl⟩
  refine oPersist fun h1 hA1 hd1 => ?_
  have hroom := bytes_byt hA1 hd1
  have hle1 : F.le (F.un h1) := PH.le_l _ _
  generalize F.un h1 = F1 at *
  obtain ⟨a1, c1, rfl, hc1⟩ := hroom.form
  repeat (first | refine jc rfl rfl ?_ | refine jr rfl ?_ | refine jn ?_ | refine oM rfl rfl ?_ | refine oS (ev_pv rfl) rfl ?_ | refine oX rfl ?_ | refine J_cond_t rfl ?_ | refine J_cond_f rfl ?_ | refine oS (eb rfl) rfl ?_ | (refine oS (ev_cmp_t rfl rfl ?_) rfl ?_; (dsimp only [cmpP] <;> omega)) | (refine oS (ev_cmp_f rfl rfl ?_) rfl ?_; (dsimp only [cmpN] <;> omega)) | (refine oS (ea rfl rfl rfl ?_) rfl ?_; (dsimp only [InK]; first | omega | exact ⟨Int.natCast_nonneg _, by omega⟩)) | (refine oS (ed rfl rfl rfl ?_ ?_ ?_) rfl ?_; (first | omega | exact Int.natCast_nonneg _); (first | omega | exact Int.natCast_nonneg _); (dsimp only [InK]; first | omega | exact ⟨Int.natCast_nonneg _, by omega⟩)) | refine oS (ev_fieldAddr rfl rfl) rfl ?_ | (refine oS (ev_conv rfl rfl rfl (wrap_in ?_)) rfl ?_; (dsimp only [InK]; first | omega | exact ⟨Int.natCast_nonneg _, by omega⟩)) | refine oS (ev_bool_eql rfl rfl rfl) rfl ?_ | refine oS (eg rfl rfl rfl) rfl ?_ | (refine jdq rfl rfl ?_ ?_ ?_; kernel_rfl; kernel_rfl) | (refine oS (ev_build (t := ?_) rfl rfl rfl ?_) rfl ?_; rotate_left; (repeat (first | exact FillF.nil | refine FillF.cons (by constructor) rfl rfl (by repeat constructor) ?_))) | refine oS (ev_ptr_eql_nil rfl rfl rfl) rfl ?_ | refine oS (ev_ptr_neq_nil rfl rfl rfl) rfl ?_ | refine oS (ev_load rfl rfl (Rdb.ofB (n := 0) .here rfl)) rfl ?_ | refine oS (ev_load rfl rfl (Rdb.ofB (n := 0) (.there .here) rfl)) rfl ?_ | refine oS (ev_load rfl rfl (Rdb.ofB (n := 0) (.there (.there .here)) rfl)) rfl ?_)
  refine oC (Hc := []) (Hr := X) (put_spec a1 c1 v n bs F1 hroom hc1 hv (by omega)) Try.call11 rfl rfl (fun _ s => s) ?_
  rintro xu _ _ _ ⟨rfl, rfl⟩
  refine oWith .here OwnForm.of fun hfx => ?_
  obtain ⟨ax, cx, rfl, hcx, hcm, hax⟩ := hfx
  have hL : (bs ++ putB v n).length ≤ 600 := by rw [List.length_append]; have := putB_le v n; omega
  generalize hxs : bs ++ putB v n = xs0 at *
  repeat (first | refine jc rfl rfl ?_ | refine jr rfl ?_ | refine jn ?_ | refine oM rfl rfl ?_ | refine oS (ev_pv rfl) rfl ?_ | refine oX rfl ?_ | refine J_cond_t rfl ?_ | refine J_cond_f rfl ?_ | refine oS (eb rfl) rfl ?_ | (refine oS (ev_cmp_t rfl rfl ?_) rfl ?_; (dsimp only [cmpP] <;> omega)) | (refine oS (ev_cmp_f rfl rfl ?_) rfl ?_; (dsimp only [cmpN] <;> omega)) | (refine oS (ea rfl rfl rfl ?_) rfl ?_; (dsimp only [InK]; first | omega | exact ⟨Int.natCast_nonneg _, by omega⟩)) | (refine oS (ed rfl rfl rfl ?_ ?_ ?_) rfl ?_; (first | omega | exact Int.natCast_nonneg _); (first | omega | exact Int.natCast_nonneg _); (dsimp only [InK]; first | omega | exact ⟨Int.natCast_nonneg _, by omega⟩)) | refine oS (ev_fieldAddr rfl rfl) rfl ?_ | (refine oS (ev_conv rfl rfl rfl (wrap_in ?_)) rfl ?_; (dsimp only [InK]; first | omega | exact ⟨Int.natCast_nonneg _, by omega⟩)) | refine oS (ev_bool_eql rfl rfl rfl) rfl ?_ | refine oS (eg rfl rfl rfl) rfl ?_ | (refine jdq rfl rfl ?_ ?_ ?_; kernel_rfl; kernel_rfl) | (refine oS (ev_build (t := ?_) rfl rfl rfl ?_) rfl ?_; rotate_left; (repeat (first | exact FillF.nil | refine FillF.cons (by constructor) rfl rfl (by repeat constructor) ?_))) | refine oS (ev_ptr_eql_nil rfl rfl rfl) rfl ?_ | refine oS (ev_ptr_neq_nil rfl rfl rfl) rfl ?_ | refine oS (ev_load rfl rfl (Rdb.ofB (n := 0) .here rfl)) rfl ?_ | refine oS (ev_load rfl rfl (Rdb.ofB (n := 0) (.there .here) rfl)) rfl ?_ | refine oS (ev_load rfl rfl (Rdb.ofB (n := 0) (.there (.there .here)) rfl)) rfl ?_)
  refine oC (Hc := []) (Hr := bytes (.slice ax xs0.length cx) xs0 :: X) (row_spec a1 a2 c1 c2 bs row F1 hroom hc1 (hrow.mono hle1) (by omega) (by omega)) Try.call12 rfl rfl (fun _ s => s) ?_
  rintro yu _ _ _ ⟨rfl, rfl⟩
  refine oPersist fun h2 hA2 hd2 => ?_
  have hy := bytes_byt hA2 hd2
  have hle2 : F1.le (F1.un h2) := PH.le_l _ _
  generalize F1.un h2 = F2 at *
  have hroom2 := hroom.mono hle2
  have hbs2 := hbs.mono (hle1.trans hle2)
  have hrow2 := hrow.mono (hle1.trans hle2)
  repeat (first | refine jc rfl rfl ?_ | refine jr rfl ?_ | refine jn ?_ | refine oM rfl rfl ?_ | refine oS (ev_pv rfl) rfl ?_ | refine oX rfl ?_ | refine J_cond_t rfl ?_ | refine J_cond_f rfl ?_ | refine oS (eb rfl) rfl ?_ | (refine oS (ev_cmp_t rfl rfl ?_) rfl ?_; (dsimp only [cmpP] <;> omega)) | (refine oS (ev_cmp_f rfl rfl ?_) rfl ?_; (dsimp only [cmpN] <;> omega)) | (refine oS (ea rfl rfl rfl ?_) rfl ?_; (dsimp only [InK]; first | omega | exact ⟨Int.natCast_nonneg _, by omega⟩)) | (refine oS (ed rfl rfl rfl ?_ ?_ ?_) rfl ?_; (first | omega | exact Int.natCast_nonneg _); (first | omega | exact Int.natCast_nonneg _); (dsimp only [InK]; first | omega | exact ⟨Int.natCast_nonneg _, by omega⟩)) | refine oS (ev_fieldAddr rfl rfl) rfl ?_ | (refine oS (ev_conv rfl rfl rfl (wrap_in ?_)) rfl ?_; (dsimp only [InK]; first | omega | exact ⟨Int.natCast_nonneg _, by omega⟩)) | refine oS (ev_bool_eql rfl rfl rfl) rfl ?_ | refine oS (eg rfl rfl rfl) rfl ?_ | (refine jdq rfl rfl ?_ ?_ ?_; kernel_rfl; kernel_rfl) | (refine oS (ev_build (t := ?_) rfl rfl rfl ?_) rfl ?_; rotate_left; (repeat (first | exact FillF.nil | refine FillF.cons (by constructor) rfl rfl (by repeat constructor) ?_))) | refine oS (ev_ptr_eql_nil rfl rfl rfl) rfl ?_ | refine oS (ev_ptr_neq_nil rfl rfl rfl) rfl ?_ | refine oS (ev_load rfl rfl (Rdb.ofB (n := 0) .here rfl)) rfl ?_ | refine oS (ev_load rfl rfl (Rdb.ofB (n := 0) (.there .here) rfl)) rfl ?_ | refine oS (ev_load rfl rfl (Rdb.ofB (n := 0) (.there (.there .here)) rfl)) rfl ?_)
  refine J_loop2 (fun (j : Nat) (xs : List UInt8) => j ≤ xs0.length ∧ xs.length = xs0.length) (fun j _ => xs0.length - j)
    (fun j _ => [(0, .slice a bs.length c), (1, .int .u64 v), (2, .int .i64 n), (3, .slice a2 row.length c2), (9, .string (strOf bs)), (10, .slice a1 bs.length c1), (11, .slice ax xs0.length cx), (12, yu), (40, .int .i64 xs0.length), (41, .int .i64 j)]) (fun _ _ => F2)
    (fun _ xs => own (.slice ax xs0.length cx) 5 1 xs0.length (u8s xs) :: X) 0 xs0 ⟨Nat.zero_le _, rfl⟩ ⟨⟨rfl, rfl, rfl, rfl, rfl, rfl, rfl, rfl, rfl, rfl, trivial⟩, fun _ h => h⟩ ?_
  intro j xs ⟨hj, hxl⟩
  by_cases hlt : j < xs0.length
  · obtain ⟨bx, rfl⟩ := hax (by omega)
    have hlt' : j < xs.length := by omega
    repeat (first | refine jc rfl rfl ?_ | refine jr rfl ?_ | refine jn ?_ | refine oM rfl rfl ?_ | refine oS (ev_pv rfl) rfl ?_ | refine oX rfl ?_ | refine J_cond_t rfl ?_ | refine J_cond_f rfl ?_ | refine oS (eb rfl) rfl ?_ | (refine oS (ev_cmp_t rfl rfl ?_) rfl ?_; (dsimp only [cmpP] <;> omega)) | (refine oS (ev_cmp_f rfl rfl ?_) rfl ?_; (dsimp only [cmpN] <;> omega)) | (refine oS (ea rfl rfl rfl ?_) rfl ?_; (dsimp only [InK]; first | omega | exact ⟨Int.natCast_nonneg _, by omega⟩)) | (refine oS (ed rfl rfl rfl ?_ ?_ ?_) rfl ?_; (first | omega | exact Int.natCast_nonneg _); (first | omega | exact Int.natCast_nonneg _); (dsimp only [InK]; first | omega | exact ⟨Int.natCast_nonneg _, by omega⟩)) | refine oS (ev_fieldAddr rfl rfl) rfl ?_ | (refine oS (ev_conv rfl rfl rfl (wrap_in ?_)) rfl ?_; (dsimp only [InK]; first | omega | exact ⟨Int.natCast_nonneg _, by omega⟩)) | refine oS (ev_bool_eql rfl rfl rfl) rfl ?_ | refine oS (eg rfl rfl rfl) rfl ?_ | (refine jdq rfl rfl ?_ ?_ ?_; kernel_rfl; kernel_rfl) | (refine oS (ev_build (t := ?_) rfl rfl rfl ?_) rfl ?_; rotate_left; (repeat (first | exact FillF.nil | refine FillF.cons (by constructor) rfl rfl (by repeat constructor) ?_))) | refine oS (ev_ptr_eql_nil rfl rfl rfl) rfl ?_ | refine oS (ev_ptr_neq_nil rfl rfl rfl) rfl ?_ | refine oS (ev_load rfl rfl (Rdb.ofB (n := 0) .here rfl)) rfl ?_ | refine oS (ev_load rfl rfl (Rdb.ofB (n := 0) (.there .here) rfl)) rfl ?_ | refine oS (ev_load rfl rfl (Rdb.ofB (n := 0) (.there (.there .here)) rfl)) rfl ?_)
    refine oS (ev_indexAddr rfl rfl rfl hlt) rfl ?_
    refine oS (ev_load (v := .int .u8 (xs[j].toNat : Int)) rfl rfl (by
      have := (own_rdb (F := F2) (H := own (.slice (some ⟨bx, 0, none⟩) xs0.length cx) 5 1 xs0.length (u8s xs) :: X) .here).take (j * 1) 1
      rwa [show ((u8s xs).drop (j * 1)).take 1 = [.int .u8 (xs[j].toNat : Int)] from by rw [Nat.mul_one, List.drop_eq_getElem_cons (by rw [u8s_len]; exact hlt')]; simp [u8s]] at this)) rfl ?_
    refine oS (ev_arith (r := ((UInt8.ofNat (xs[j].toNat + 1)).toNat : Int)) rfl rfl _ (.inl ⟨rfl, rfl⟩) (by rw [← wrap_u8]; rfl)) rfl ?_
    refine oS (ev_indexAddr rfl rfl rfl hlt) rfl ?_
    refine oN (ev_store_own rfl rfl .int rfl rfl (lay_set (i := 0 + j * 1) (r := u8s xs) _ (by rw [u8s_len]; omega)) (ones_cons rfl ones_nil) .here) rfl ?_
    rintro _ _ _ _ ⟨rfl, _, rfl⟩
    repeat (first | refine jc rfl rfl ?_ | refine jr rfl ?_ | refine jn ?_ | refine oM rfl rfl ?_ | refine oS (ev_pv rfl) rfl ?_ | refine oX rfl ?_ | refine J_cond_t rfl ?_ | refine J_cond_f rfl ?_ | refine oS (eb rfl) rfl ?_ | (refine oS (ev_cmp_t rfl rfl ?_) rfl ?_; (dsimp only [cmpP] <;> omega)) | (refine oS (ev_cmp_f rfl rfl ?_) rfl ?_; (dsimp only [cmpN] <;> omega)) | (refine oS (ea rfl rfl rfl ?_) rfl ?_; (dsimp only [InK]; first | omega | exact ⟨Int.natCast_nonneg _, by omega⟩)) | (refine oS (ed rfl rfl rfl ?_ ?_ ?_) rfl ?_; (first | omega | exact Int.natCast_nonneg _); (first | omega | exact Int.natCast_nonneg _); (dsimp only [InK]; first | omega | exact ⟨Int.natCast_nonneg _, by omega⟩)) | refine oS (ev_fieldAddr rfl rfl) rfl ?_ | (refine oS (ev_conv rfl rfl rfl (wrap_in ?_)) rfl ?_; (dsimp only [InK]; first | omega | exact ⟨Int.natCast_nonneg _, by omega⟩)) | refine oS (ev_bool_eql rfl rfl rfl) rfl ?_ | refine oS (eg rfl rfl rfl) rfl ?_ | (refine jdq rfl rfl ?_ ?_ ?_; kernel_rfl; kernel_rfl) | (refine oS (ev_build (t := ?_) rfl rfl rfl ?_) rfl ?_; rotate_left; (repeat (first | exact FillF.nil | refine FillF.cons (by constructor) rfl rfl (by repeat constructor) ?_))) | refine oS (ev_ptr_eql_nil rfl rfl rfl) rfl ?_ | refine oS (ev_ptr_neq_nil rfl rfl rfl) rfl ?_ | refine oS (ev_load rfl rfl (Rdb.ofB (n := 0) .here rfl)) rfl ?_ | refine oS (ev_load rfl rfl (Rdb.ofB (n := 0) (.there .here) rfl)) rfl ?_ | refine oS (ev_load rfl rfl (Rdb.ofB (n := 0) (.there (.there .here)) rfl)) rfl ?_)
    refine J_again2 (j + 1) (xs.set j (UInt8.ofNat (xs[j].toNat + 1))) ⟨hlt, by simp [hxl]⟩ (by omega) ⟨⟨rfl, rfl, rfl, rfl, rfl, rfl, rfl, rfl, rfl, rfl, trivial⟩, fun w s => ?_⟩
    rw [show u8s (xs.set j (UInt8.ofNat (xs[j].toNat + 1))) = (u8s xs).set (0 + j * 1) (.int .u8 ((UInt8.ofNat (xs[j].toNat + 1)).toNat : Int)) from by simp [u8s, List.map_set]]
    exact s
  · refine J_drop ?_
    repeat (first | refine jc rfl rfl ?_ | refine jr rfl ?_ | refine jn ?_ | refine oM rfl rfl ?_ | refine oS (ev_pv rfl) rfl ?_ | refine oX rfl ?_ | refine J_cond_t rfl ?_ | refine J_cond_f rfl ?_ | refine oS (eb rfl) rfl ?_ | (refine oS (ev_cmp_t rfl rfl ?_) rfl ?_; (dsimp only [cmpP] <;> omega)) | (refine oS (ev_cmp_f rfl rfl ?_) rfl ?_; (dsimp only [cmpN] <;> omega)) | (refine oS (ea rfl rfl rfl ?_) rfl ?_; (dsimp only [InK]; first | omega | exact ⟨Int.natCast_nonneg _, by omega⟩)) | (refine oS (ed rfl rfl rfl ?_ ?_ ?_) rfl ?_; (first | omega | exact Int.natCast_nonneg _); (first | omega | exact Int.natCast_nonneg _); (dsimp only [InK]; first | omega | exact ⟨Int.natCast_nonneg _, by omega⟩)) | refine oS (ev_fieldAddr rfl rfl) rfl ?_ | (refine oS (ev_conv rfl rfl rfl (wrap_in ?_)) rfl ?_; (dsimp only [InK]; first | omega | exact ⟨Int.natCast_nonneg _, by omega⟩)) | refine oS (ev_bool_eql rfl rfl rfl) rfl ?_ | refine oS (eg rfl rfl rfl) rfl ?_ | (refine jdq rfl rfl ?_ ?_ ?_; kernel_rfl; kernel_rfl) | (refine oS (ev_build (t := ?_) rfl rfl rfl ?_) rfl ?_; rotate_left; (repeat (first | exact FillF.nil | refine FillF.cons (by constructor) rfl rfl (by repeat constructor) ?_))) | refine oS (ev_ptr_eql_nil rfl rfl rfl) rfl ?_ | refine oS (ev_ptr_neq_nil rfl rfl rfl) rfl ?_ | refine oS (ev_load rfl rfl (Rdb.ofB (n := 0) .here rfl)) rfl ?_ | refine oS (ev_load rfl rfl (Rdb.ofB (n := 0) (.there .here) rfl)) rfl ?_ | refine oS (ev_load rfl rfl (Rdb.ofB (n := 0) (.there (.there .here)) rfl)) rfl ?_)
    refine ja F2 [] ?_ ?_ ?_; kernel_rfl
    · exact fun w s => s.bare
    refine aT 0 rfl (ev_pv rfl) rfl rfl ?_ ?_ ?_ ?_; kernel_rfl; kernel_rfl; kernel_rfl
    refine aT 1 rfl (eb_string rfl hy.rds) rfl rfl ?_ ?_ ?_ ?_; kernel_rfl; kernel_rfl; kernel_rfl
    refine aT 2 rfl (ev_pv rfl) rfl rfl ?_ ?_ ?_ ?_; kernel_rfl; kernel_rfl; kernel_rfl
    refine aT 3 rfl (ev_pv rfl) rfl rfl ?_ ?_ ?_ ?_; kernel_rfl; kernel_rfl; kernel_rfl
    refine aB (i := 4) (by kernel_rfl) (aC (Hc := []) (Hr := X) rfl (Row_spec a a2 c c2 bs row F2 hbs2 hrow2 (by omega) (by omega)) Try.call13 rfl rfl rfl (fun _ s => s) ?_ ?_)
    · rintro u _ _ _ ⟨rfl, rfl⟩ w s
      exact s.bare
    rintro u1 _ _ _ ⟨rfl, rfl⟩
    refine aPersist fun h3 hA3 hd3 => ?_
    have hu1 := bytes_byt hA3 hd3
    have hle3 : F2.le (F2.un h3) := PH.le_l _ _
    refine aF hle3 ?_
    generalize F2.un h3 = F3 at *
    have hbs3 := hbs2.mono hle3
    have hroom3 := hroom2.mono hle3
    refine aT 5 rfl (eb_string rfl hu1.rds) rfl rfl ?_ ?_ ?_ ?_; kernel_rfl; kernel_rfl; kernel_rfl
    refine aT 6 rfl (ev_str_t rfl rfl rfl) rfl rfl ?_ ?_ ?_ ?_; kernel_rfl; kernel_rfl; kernel_rfl
    refine aT 7 rfl (ev_pv rfl) rfl rfl ?_ ?_ ?_ ?_; kernel_rfl; kernel_rfl; kernel_rfl
    refine aT 8 rfl (ev_pv rfl) rfl rfl ?_ ?_ ?_ ?_; kernel_rfl; kernel_rfl; kernel_rfl
    refine aT 9 rfl (ev_pv rfl) rfl rfl ?_ ?_ ?_ ?_; kernel_rfl; kernel_rfl; kernel_rfl
    refine aT 10 rfl (ev_pv rfl) rfl rfl ?_ ?_ ?_ ?_; kernel_rfl; kernel_rfl; kernel_rfl
    refine aT 13 rfl (ev_pv rfl) rfl rfl ?_ ?_ ?_ ?_; kernel_rfl; kernel_rfl; kernel_rfl
    refine aT 14 rfl (ev_pv rfl) rfl rfl ?_ ?_ ?_ ?_; kernel_rfl; kernel_rfl; kernel_rfl
    refine aT 15 rfl (ev_pv rfl) rfl rfl ?_ ?_ ?_ ?_; kernel_rfl; kernel_rfl; kernel_rfl
    have hleF : F.le F3 := hle1.trans (hle2.trans hle3)
    refine aB (i := 11) (by kernel_rfl) ?_
    · refine aC (Hc := []) (Hr := X) rfl (put_spec a c v n bs F3 hbs3 hc hv (by omega)) Try.call11 rfl rfl rfl (fun _ s => s) ?_ ?_ 
      · rintro u _ _ _ ⟨rfl, rfl⟩ w s 
        exact s.bare 
      rintro uF4 _ _ _ ⟨rfl, rfl⟩ 
      refine aPersist fun hF4 hAF4 hdF4 => ?_ 
      have hu4 := bytes_byt hAF4 hdF4 
      have hle4 : (F3).le ((F3).un hF4) := PH.le_l _ _ 
      refine aF hle4 ?_ 
      generalize (F3).un hF4 = F4 at * 
      refine aT 12 rfl (eb_string rfl (hu4).rds) rfl rfl ?_ ?_ ?_ ?_; kernel_rfl; kernel_rfl; kernel_rfl
      have hbs4 := hbs3.mono hle4
      refine aB (i := 16) (by kernel_rfl) ?_
      refine aC (Hc := []) (Hr := X) rfl (Put_spec a c v n bs F4 hbs4 hv (by omega)) Try.call14 rfl rfl rfl (fun _ s => s) ?_ ?_ 
      · rintro u _ _ _ ⟨rfl, rfl⟩ w s 
        exact s.bare 
      rintro uF5 _ _ _ ⟨rfl, rfl⟩ 
      refine aPersist fun hF5 hAF5 hdF5 => ?_ 
      have hu5 := bytes_byt hAF5 hdF5 
      have hle5 : (F4).le ((F4).un hF5) := PH.le_l _ _ 
      refine aF hle5 ?_ 
      generalize (F4).un hF5 = F5 at * 
      refine aT 17 rfl (eb_string rfl (hu5).rds) rfl rfl ?_ ?_ ?_ ?_; kernel_rfl; kernel_rfl; kernel_rfl
      refine aT 18 rfl (ev_str_t rfl rfl rfl) rfl rfl ?_ ?_ ?_ ?_; kernel_rfl; kernel_rfl; kernel_rfl 
      refine aT 19 rfl (ev_pv rfl) rfl rfl ?_ ?_ ?_ ?_; kernel_rfl; kernel_rfl; kernel_rfl 
      refine aT 20 rfl (ev_pv rfl) rfl rfl ?_ ?_ ?_ ?_; kernel_rfl; kernel_rfl; kernel_rfl 
      refine aT 21 rfl (ev_pv rfl) rfl rfl ?_ ?_ ?_ ?_; kernel_rfl; kernel_rfl; kernel_rfl 
      refine aT 22 rfl (eb_string rfl (((hroom3.mono hle4).mono hle5).rds)) rfl rfl ?_ ?_ ?_ ?_; kernel_rfl; kernel_rfl; kernel_rfl 
      refine aT 23 rfl (ev_pv rfl) rfl rfl ?_ ?_ ?_ ?_; kernel_rfl; kernel_rfl; kernel_rfl 
      refine aT 24 rfl (ev_str_t rfl rfl rfl) rfl rfl ?_ ?_ ?_ ?_; kernel_rfl; kernel_rfl; kernel_rfl 
      refine aT 25 rfl (ev_pv rfl) rfl rfl ?_ ?_ ?_ ?_; kernel_rfl; kernel_rfl; kernel_rfl 
      refine aT 26 rfl (ev_pv rfl) rfl rfl ?_ ?_ ?_ ?_; kernel_rfl; kernel_rfl; kernel_rfl 
      refine aT 27 rfl (ev_pv rfl) rfl rfl ?_ ?_ ?_ ?_; kernel_rfl; kernel_rfl; kernel_rfl 
      refine aT 28 rfl (eb_string rfl (((hbs3.mono hle4).mono hle5).rds)) rfl rfl ?_ ?_ ?_ ?_; kernel_rfl; kernel_rfl; kernel_rfl 
      refine aT 29 rfl (ev_pv rfl) rfl rfl ?_ ?_ ?_ ?_; kernel_rfl; kernel_rfl; kernel_rfl 
      refine aT 30 rfl (ev_str_t rfl rfl rfl) rfl rfl ?_ ?_ ?_ ?_; kernel_rfl; kernel_rfl; kernel_rfl 
      refine aT 31 rfl (ev_pv rfl) rfl rfl ?_ ?_ ?_ ?_; kernel_rfl; kernel_rfl; kernel_rfl 
      refine aT 32 rfl (ev_pv rfl) rfl rfl ?_ ?_ ?_ ?_; kernel_rfl; kernel_rfl; kernel_rfl 
      refine aD (by kernel_rfl) ?_ 
      repeat (first | refine jc rfl rfl ?_ | refine jr rfl ?_ | refine jn ?_ | refine oM rfl rfl ?_ | refine oS (ev_pv rfl) rfl ?_ | refine oX rfl ?_ | refine J_cond_t rfl ?_ | refine J_cond_f rfl ?_ | refine oS (eb rfl) rfl ?_ | (refine oS (ev_cmp_t rfl rfl ?_) rfl ?_; (dsimp only [cmpP] <;> omega)) | (refine oS (ev_cmp_f rfl rfl ?_) rfl ?_; (dsimp only [cmpN] <;> omega)) | (refine oS (ea rfl rfl rfl ?_) rfl ?_; (dsimp only [InK]; first | omega | exact ⟨Int.natCast_nonneg _, by omega⟩)) | (refine oS (ed rfl rfl rfl ?_ ?_ ?_) rfl ?_; (first | omega | exact Int.natCast_nonneg _); (first | omega | exact Int.natCast_nonneg _); (dsimp only [InK]; first | omega | exact ⟨Int.natCast_nonneg _, by omega⟩)) | refine oS (ev_fieldAddr rfl rfl) rfl ?_ | (refine oS (ev_conv rfl rfl rfl (wrap_in ?_)) rfl ?_; (dsimp only [InK]; first | omega | exact ⟨Int.natCast_nonneg _, by omega⟩)) | refine oS (ev_bool_eql rfl rfl rfl) rfl ?_ | refine oS (eg rfl rfl rfl) rfl ?_ | (refine jdq rfl rfl ?_ ?_ ?_; kernel_rfl; kernel_rfl) | (refine oS (ev_build (t := ?_) rfl rfl rfl ?_) rfl ?_; rotate_left; (repeat (first | exact FillF.nil | refine FillF.cons (by constructor) rfl rfl (by repeat constructor) ?_))) | refine oS (ev_ptr_eql_nil rfl rfl rfl) rfl ?_ | refine oS (ev_ptr_neq_nil rfl rfl rfl) rfl ?_ | refine oS (ev_load rfl rfl (Rdb.ofB (n := 0) .here rfl)) rfl ?_ | refine oS (ev_load rfl rfl (Rdb.ofB (n := 0) (.there .here) rfl)) rfl ?_ | refine oS (ev_load rfl rfl (Rdb.ofB (n := 0) (.there (.there .here)) rfl)) rfl ?_) 
      exact J_ret1 rfl rfl [] rfl (hleF.trans (hle4.trans hle5)) ⟨rfl, rfl⟩
open Go.ChangeShapes Go.WideShapes Go.ChangeAt
theorem own_knob : ownKnob Try.prog.godebug = none := by kernel_rfl
theorem laid_out : laidOutB Try.prog = true := by kernel_rfl
set_option maxRecDepth 100000 in theorem OctetsPuts_lifted (os : Os) (started : os.Started) (H : Type) (enc : TypeId × Value → H) : ReturnsInHanded {} Try.checked os 3 .any (Rows.octetsPutsSpec.pre6 enc Try.prog Try.f3 Rows.octetsPutsRow.domain false) (Rows.octetsPutsSpec.post enc Try.prog Try.f3 false true false false) := by
  refine returnsInHanded_of_change (C := Try.checked) own_knob started (by kernel_rfl) Try.func3 (ChangeSpec.witness6 (enc := enc) (C := Try.checked) false ⟨#[], #[.slice none 0 0, .int .u64 0, .int .i64 0, .slice none 0 0], []⟩ 8 (by kernel_rfl) (by kernel_rfl) (by kernel_rfl) (by kernel_rfl)) ?_; intro W base args ds gs before hval0 hW hcnd _; have hval : ∀ (j : Nat) t v, Try.f3.params[j]? = some t → args[j]? = some v → Value.okWide Try.prog W .any base t v := hval0; have hW' := hW; obtain ⟨p, q, hA0, hV, hp, hfz, hnd⟩ := hW; have hA : DataW.TrodAll enc Try.prog W 0 (fun _ => true) true Try.f3.params.toList args.toList ds p := hA0; obtain ⟨rfl, rfl⟩ := trodVars_none hV; rw [List.append_nil] at hp; have hA' := hA; rw [Try.params3] at hA hval
  obtain ⟨v0, vs0, d0, ds0, p0, q0, hargs, rfl, rfl, h0, r0⟩ := trodAll_cons hA; obtain ⟨v1, vs1, d1, ds1, p1, q1, rfl, rfl, rfl, h1, r1⟩ := trodAll_cons r0; obtain ⟨v2, vs2, d2, ds2, p2, q2, rfl, rfl, rfl, h2, r2⟩ := trodAll_cons r1; obtain ⟨v3, vs3, d3, ds3, p3, q3, rfl, rfl, rfl, h3, r3⟩ := trodAll_cons r2; obtain ⟨rfl, rfl, rfl⟩ := trodAll_nil r3; obtain rfl : args = #[v0, v1, v2, v3] := by cases args; simp_all
  obtain ⟨ax, cx, bs, rfl, hcx, _, hbs⟩ := open_byt Try.underlying22 Try.underlying5 (by kernel_rfl) (hval 0 22 v0 rfl rfl) h0
  obtain ⟨a1, rfl, rfl, rfl, w1⟩ := open_int Try.underlying23 (hval 1 23 v1 rfl rfl) h1
  obtain ⟨a2, rfl, rfl, rfl, w2⟩ := open_int Try.underlying3 (hval 2 3 v2 rfl rfl) h2
  obtain ⟨ay, cy, row, rfl, hcy, _, hrow⟩ := open_byt Try.underlying22 Try.underlying5 (by kernel_rfl) (hval 3 22 v3 rfl rfl) h3
  have hw := bounds_u64 w1
  obtain ⟨u, rfl⟩ : ∃ b : Nat, a1 = (b : Int) := ⟨a1.toNat, by omega⟩
  refine (law_walk (OctetsPuts_walk ax ay cx cy u a2 bs row (ph W) hbs hcx hrow (by omega))).mono fun e W' ⟨he, hb⟩ => ?_
  subst he
  exact ⟨_, rfl, law_post laid_out (by kernel_rfl) rfl rfl Try.underlying4 hW' hA' hp rfl hb⟩
theorem OctetsPuts_holds : Rows.OctetsPutsSaid := OpenClaim.holds_of_wide 3 Try.f3 rfl rfl rfl rfl rfl rfl rfl ⟨rfl, rfl, rfl, rfl, rfl⟩ rfl rfl rfl rfl rfl (by kernel_rfl) Try.func3 (by kernel_rfl) (of_decide_eq_true (by kernel_rfl)) (by unfold Func.isWrapper; first | (rw [if_pos (by decide +kernel)]; kernel_rfl) | (rw [if_neg (by decide +kernel)]; exact ⟨rfl, rfl⟩)) (fun os started H enc _ => OctetsPuts_lifted os started H enc)
#print axioms OctetsPuts_holds
end Go.Proofs.Ytgbljldpamjcpaa
