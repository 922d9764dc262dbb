/-
  The crowd's functions New, Len, Put, At, walked, on cells. Conditions are typed with each.
-/
import Derived.Test.YtmicjjhkoicdnaaDoorRows
import Derived.Test.YtmicjjhkoicdnaaDoorKj
namespace Go.Proofs.YtmicjjhkoicdnaaDoor
open Go.RowKit
set_option maxRecDepth 100000
theorem at_lt {α : Type} {S : List α} {j : Nat} (h : j < S.length) : ∃ x, S[j]? = some x ∧ x ∈ S := ⟨S[j], List.getElem?_eq_getElem h, List.getElem_mem h⟩
def zSent : List Value := [.int .i64 0, .int .i64 0, .int .i64 0, .int .i64 0, .slice none 0 0, .slice none 0 0]
theorem elSent : Elem Tryd.prog 45 49 6 80 (.agg zSent.toArray) := ⟨rfl, ⟨_, rfl, rfl, rfl, rfl, rfl, by decide⟩, rfl, rfl⟩
/-- A crowd: its struct, and its row. -/
def crowd (b : Nat) (v : Value) (n : Nat) (os : List Value) : List Asrt := [blk b 66 [v], own v 49 6 n os]
set_option maxHeartbeats 1000000 in
theorem new_spec (F : PH) : Spec Tryd.prog 10 [] F [] fun v F' H' => F = F' ∧ ∃ b, v = .pointer (some ⟨b, 0, none⟩) ∧ H' = crowd b (.slice none 0 0) 0 [] := by
  refine Spec.of0 Tryd.func10 rfl fun X w0 => ?_
  repeat (first | refine jc rfl rfl ?_ | refine jr rfl ?_ | refine jn ?_ | refine oM rfl rfl ?_ | refine oS (ev_pv rfl) rfl ?_ | refine oX rfl ?_ | refine J_cond_t rfl ?_ | refine J_cond_f rfl ?_ | refine oS (eb rfl) rfl ?_ | (refine oS (ev_cmp_t rfl rfl ?_) rfl ?_; (dsimp only [cmpP] <;> omega)) | (refine oS (ev_cmp_f rfl rfl ?_) rfl ?_; (dsimp only [cmpN] <;> omega)) | (refine oS (ea rfl rfl rfl ?_) rfl ?_; (dsimp only [InK]; first | omega | exact ⟨Int.natCast_nonneg _, by omega⟩)) | (refine oS (ed rfl rfl rfl ?_ ?_ ?_) rfl ?_; (first | omega | exact Int.natCast_nonneg _); (first | omega | exact Int.natCast_nonneg _); (dsimp only [InK]; first | omega | exact ⟨Int.natCast_nonneg _, by omega⟩)) | refine oS (ev_fieldAddr rfl rfl) rfl ?_ | (refine oS (ev_conv rfl rfl rfl (wrap_in ?_)) rfl ?_; (dsimp only [InK]; first | omega | exact ⟨Int.natCast_nonneg _, by omega⟩)) | refine oS (ev_bool_eql rfl rfl rfl) rfl ?_ | refine oS (eg rfl rfl rfl) rfl ?_ | (refine jdq rfl rfl ?_ ?_ ?_; kernel_rfl; kernel_rfl) | (refine oS (ev_build (t := ?_) rfl rfl rfl ?_) rfl ?_; rotate_left; (repeat (first | exact FillF.nil | refine FillF.cons (by constructor) rfl rfl (by repeat constructor) ?_))) | refine oS (ev_ptr_eql_nil rfl rfl rfl) rfl ?_)
  refine oE (ev_box rfl .agg) rfl ?_; rintro _ _ _ _ ⟨rfl, b, rfl, rfl⟩
  repeat (first | refine jc rfl rfl ?_ | refine jr rfl ?_ | refine jn ?_ | refine oM rfl rfl ?_ | refine oS (ev_pv rfl) rfl ?_ | refine oX rfl ?_ | refine J_cond_t rfl ?_ | refine J_cond_f rfl ?_ | refine oS (eb rfl) rfl ?_ | (refine oS (ev_cmp_t rfl rfl ?_) rfl ?_; (dsimp only [cmpP] <;> omega)) | (refine oS (ev_cmp_f rfl rfl ?_) rfl ?_; (dsimp only [cmpN] <;> omega)) | (refine oS (ea rfl rfl rfl ?_) rfl ?_; (dsimp only [InK]; first | omega | exact ⟨Int.natCast_nonneg _, by omega⟩)) | (refine oS (ed rfl rfl rfl ?_ ?_ ?_) rfl ?_; (first | omega | exact Int.natCast_nonneg _); (first | omega | exact Int.natCast_nonneg _); (dsimp only [InK]; first | omega | exact ⟨Int.natCast_nonneg _, by omega⟩)) | refine oS (ev_fieldAddr rfl rfl) rfl ?_ | (refine oS (ev_conv rfl rfl rfl (wrap_in ?_)) rfl ?_; (dsimp only [InK]; first | omega | exact ⟨Int.natCast_nonneg _, by omega⟩)) | refine oS (ev_bool_eql rfl rfl rfl) rfl ?_ | refine oS (eg rfl rfl rfl) rfl ?_ | (refine jdq rfl rfl ?_ ?_ ?_; kernel_rfl; kernel_rfl) | (refine oS (ev_build (t := ?_) rfl rfl rfl ?_) rfl ?_; rotate_left; (repeat (first | exact FillF.nil | refine FillF.cons (by constructor) rfl rfl (by repeat constructor) ?_))) | refine oS (ev_ptr_eql_nil rfl rfl rfl) rfl ?_)
  refine J_own_nil 49 6 ?_
  exact J_retv rfl (.tmp rfl .nil) (crowd b (.slice none 0 0) 0 []) (fun w s => (s.pick (.there .here))) (PH.ler _) ⟨rfl, b, rfl, rfl⟩
set_option maxHeartbeats 1000000 in
theorem len_spec (b n : Nat) (v : Value) (os : List Value) (F : PH) (a : Option Addr) (c : Nat) (hv : v = .slice a n c) :
    Spec Tryd.prog 32 [.pointer (some ⟨b, 0, none⟩)] F [blk b 66 [v]] fun u F' H' => F = F' ∧ u = .int .i64 n ∧ H' = [blk b 66 [v]] := by
  subst hv
  refine Spec.of1 Tryd.func32 rfl rfl fun X w0 => ?_
  repeat (first | refine jc rfl rfl ?_ | refine jr rfl ?_ | refine jn ?_ | refine oM rfl rfl ?_ | refine oS (ev_pv rfl) rfl ?_ | refine oX rfl ?_ | refine J_cond_t rfl ?_ | refine J_cond_f rfl ?_ | refine oS (eb rfl) rfl ?_ | (refine oS (ev_cmp_t rfl rfl ?_) rfl ?_; (dsimp only [cmpP] <;> omega)) | (refine oS (ev_cmp_f rfl rfl ?_) rfl ?_; (dsimp only [cmpN] <;> omega)) | (refine oS (ea rfl rfl rfl ?_) rfl ?_; (dsimp only [InK]; first | omega | exact ⟨Int.natCast_nonneg _, by omega⟩)) | (refine oS (ed rfl rfl rfl ?_ ?_ ?_) rfl ?_; (first | omega | exact Int.natCast_nonneg _); (first | omega | exact Int.natCast_nonneg _); (dsimp only [InK]; first | omega | exact ⟨Int.natCast_nonneg _, by omega⟩)) | refine oS (ev_fieldAddr rfl rfl) rfl ?_ | (refine oS (ev_conv rfl rfl rfl (wrap_in ?_)) rfl ?_; (dsimp only [InK]; first | omega | exact ⟨Int.natCast_nonneg _, by omega⟩)) | refine oS (ev_bool_eql rfl rfl rfl) rfl ?_ | refine oS (eg rfl rfl rfl) rfl ?_ | (refine jdq rfl rfl ?_ ?_ ?_; kernel_rfl; kernel_rfl) | (refine oS (ev_build (t := ?_) rfl rfl rfl ?_) rfl ?_; rotate_left; (repeat (first | exact FillF.nil | refine FillF.cons (by constructor) rfl rfl (by repeat constructor) ?_))) | refine oS (ev_ptr_eql_nil rfl rfl rfl) rfl ?_)
  refine oS (ev_load rfl rfl (Rdb.ofB (n := 0) .here rfl)) rfl ?_
  repeat (first | refine jc rfl rfl ?_ | refine jr rfl ?_ | refine jn ?_ | refine oM rfl rfl ?_ | refine oS (ev_pv rfl) rfl ?_ | refine oX rfl ?_ | refine J_cond_t rfl ?_ | refine J_cond_f rfl ?_ | refine oS (eb rfl) rfl ?_ | (refine oS (ev_cmp_t rfl rfl ?_) rfl ?_; (dsimp only [cmpP] <;> omega)) | (refine oS (ev_cmp_f rfl rfl ?_) rfl ?_; (dsimp only [cmpN] <;> omega)) | (refine oS (ea rfl rfl rfl ?_) rfl ?_; (dsimp only [InK]; first | omega | exact ⟨Int.natCast_nonneg _, by omega⟩)) | (refine oS (ed rfl rfl rfl ?_ ?_ ?_) rfl ?_; (first | omega | exact Int.natCast_nonneg _); (first | omega | exact Int.natCast_nonneg _); (dsimp only [InK]; first | omega | exact ⟨Int.natCast_nonneg _, by omega⟩)) | refine oS (ev_fieldAddr rfl rfl) rfl ?_ | (refine oS (ev_conv rfl rfl rfl (wrap_in ?_)) rfl ?_; (dsimp only [InK]; first | omega | exact ⟨Int.natCast_nonneg _, by omega⟩)) | refine oS (ev_bool_eql rfl rfl rfl) rfl ?_ | refine oS (eg rfl rfl rfl) rfl ?_ | (refine jdq rfl rfl ?_ ?_ ?_; kernel_rfl; kernel_rfl) | (refine oS (ev_build (t := ?_) rfl rfl rfl ?_) rfl ?_; rotate_left; (repeat (first | exact FillF.nil | refine FillF.cons (by constructor) rfl rfl (by repeat constructor) ?_))) | refine oS (ev_ptr_eql_nil rfl rfl rfl) rfl ?_)
  exact J_ret1 rfl rfl _ rfl (PH.ler _) ⟨rfl, rfl, rfl⟩
set_option maxHeartbeats 1000000 in
theorem len_nil (F : PH) : Pure Tryd.prog 32 [.pointer none] F (.int .i64 0) := by
  refine Spec.of1 Tryd.func32 rfl rfl fun X w0 => ?_
  repeat (first | refine jc rfl rfl ?_ | refine jr rfl ?_ | refine jn ?_ | refine oM rfl rfl ?_ | refine oS (ev_pv rfl) rfl ?_ | refine oX rfl ?_ | refine J_cond_t rfl ?_ | refine J_cond_f rfl ?_ | refine oS (eb rfl) rfl ?_ | (refine oS (ev_cmp_t rfl rfl ?_) rfl ?_; (dsimp only [cmpP] <;> omega)) | (refine oS (ev_cmp_f rfl rfl ?_) rfl ?_; (dsimp only [cmpN] <;> omega)) | (refine oS (ea rfl rfl rfl ?_) rfl ?_; (dsimp only [InK]; first | omega | exact ⟨Int.natCast_nonneg _, by omega⟩)) | (refine oS (ed rfl rfl rfl ?_ ?_ ?_) rfl ?_; (first | omega | exact Int.natCast_nonneg _); (first | omega | exact Int.natCast_nonneg _); (dsimp only [InK]; first | omega | exact ⟨Int.natCast_nonneg _, by omega⟩)) | refine oS (ev_fieldAddr rfl rfl) rfl ?_ | (refine oS (ev_conv rfl rfl rfl (wrap_in ?_)) rfl ?_; (dsimp only [InK]; first | omega | exact ⟨Int.natCast_nonneg _, by omega⟩)) | refine oS (ev_bool_eql rfl rfl rfl) rfl ?_ | refine oS (eg rfl rfl rfl) rfl ?_ | (refine jdq rfl rfl ?_ ?_ ?_; kernel_rfl; kernel_rfl) | (refine oS (ev_build (t := ?_) rfl rfl rfl ?_) rfl ?_; rotate_left; (repeat (first | exact FillF.nil | refine FillF.cons (by constructor) rfl rfl (by repeat constructor) ?_))) | refine oS (ev_ptr_eql_nil rfl rfl rfl) rfl ?_)
  exact J_ret1 rfl rfl [] rfl (PH.ler _) ⟨rfl, rfl⟩
def puts (from_ : Int) (css : List (List Value)) : List Value := (css.map (fun c => Value.int .i64 from_ :: c)).flatten
theorem puts_snoc {f : Int} {css : List (List Value)} {j : Nat} {c : List Value} (h : css[j]? = some c) : puts f (css.take (j + 1)) = puts f (css.take j) ++ (.int .i64 f :: c) := by
  unfold puts
  obtain ⟨hlt, he⟩ := List.getElem?_eq_some_iff.1 h
  rw [List.take_succ_eq_append_getElem hlt, List.map_append, List.flatten_append, he]
  simp
set_option maxHeartbeats 2000000 in
theorem cput_spec (b n m c : Nat) (from_ : Int) (v : Value) (a : Option Addr) (os : List Value) (css : List (List Value)) (F : PH) (hcl : ∀ c ∈ css, c.length = 5 ∧ Ones c) (hl : SliceV F 5 (.slice a n c) n css.flatten) (hn : css.length = n) (hm : m ≤ 16384) (hn2 : n ≤ 281474976710656) :
    Spec Tryd.prog 11 [.pointer (some ⟨b, 0, none⟩), .int .i64 from_, .slice a n c] F (crowd b v m os) fun u F' H' => F = F' ∧ ∃ v', u = .int .i64 ((min n (16384 - m) : Nat) : Int) ∧ H' = crowd b v' (m + min n (16384 - m)) (os ++ puts from_ (css.take (min n (16384 - m)))) := by
  have hc5 : ∀ c ∈ css, c.length = 5 := fun c h => (hcl c h).1
  have hlc := hl
  obtain ⟨_, _, _, hv0, hnc, _⟩ := hlc
  cases hv0
  refine Spec.of3 Tryd.func11 rfl rfl fun X w0 => ?_
  show J _ _ _ _ (blk b 66 [v] :: own v 49 6 m os :: X)
  refine J_pick (A := own v 49 6 m os) (.there .here) (J_own_is fun av cv hvv hmc hcm => ?_)
  subst hvv
  repeat (first | refine jc rfl rfl ?_ | refine jr rfl ?_ | refine jn ?_ | refine oM rfl rfl ?_ | refine oS (ev_pv rfl) rfl ?_ | refine oX rfl ?_ | refine J_cond_t rfl ?_ | refine J_cond_f rfl ?_ | refine oS (eb rfl) rfl ?_ | (refine oS (ev_cmp_t rfl rfl ?_) rfl ?_; (dsimp only [cmpP] <;> omega)) | (refine oS (ev_cmp_f rfl rfl ?_) rfl ?_; (dsimp only [cmpN] <;> omega)) | (refine oS (ea rfl rfl rfl ?_) rfl ?_; (dsimp only [InK]; first | omega | exact ⟨Int.natCast_nonneg _, by omega⟩)) | (refine oS (ed rfl rfl rfl ?_ ?_ ?_) rfl ?_; (first | omega | exact Int.natCast_nonneg _); (first | omega | exact Int.natCast_nonneg _); (dsimp only [InK]; first | omega | exact ⟨Int.natCast_nonneg _, by omega⟩)) | refine oS (ev_fieldAddr rfl rfl) rfl ?_ | (refine oS (ev_conv rfl rfl rfl (wrap_in ?_)) rfl ?_; (dsimp only [InK]; first | omega | exact ⟨Int.natCast_nonneg _, by omega⟩)) | refine oS (ev_bool_eql rfl rfl rfl) rfl ?_ | refine oS (eg rfl rfl rfl) rfl ?_ | (refine jdq rfl rfl ?_ ?_ ?_; kernel_rfl; kernel_rfl) | (refine oS (ev_build (t := ?_) rfl rfl rfl ?_) rfl ?_; rotate_left; (repeat (first | exact FillF.nil | refine FillF.cons (by constructor) rfl rfl (by repeat constructor) ?_))) | refine oS (ev_ptr_eql_nil rfl rfl rfl) rfl ?_)
  refine oS (ev_load rfl rfl (Rdb.ofB (n := 0) (.there .here) rfl)) rfl ?_
  repeat (first | refine jc rfl rfl ?_ | refine jr rfl ?_ | refine jn ?_ | refine oM rfl rfl ?_ | refine oS (ev_pv rfl) rfl ?_ | refine oX rfl ?_ | refine J_cond_t rfl ?_ | refine J_cond_f rfl ?_ | refine oS (eb rfl) rfl ?_ | (refine oS (ev_cmp_t rfl rfl ?_) rfl ?_; (dsimp only [cmpP] <;> omega)) | (refine oS (ev_cmp_f rfl rfl ?_) rfl ?_; (dsimp only [cmpN] <;> omega)) | (refine oS (ea rfl rfl rfl ?_) rfl ?_; (dsimp only [InK]; first | omega | exact ⟨Int.natCast_nonneg _, by omega⟩)) | (refine oS (ed rfl rfl rfl ?_ ?_ ?_) rfl ?_; (first | omega | exact Int.natCast_nonneg _); (first | omega | exact Int.natCast_nonneg _); (dsimp only [InK]; first | omega | exact ⟨Int.natCast_nonneg _, by omega⟩)) | refine oS (ev_fieldAddr rfl rfl) rfl ?_ | (refine oS (ev_conv rfl rfl rfl (wrap_in ?_)) rfl ?_; (dsimp only [InK]; first | omega | exact ⟨Int.natCast_nonneg _, by omega⟩)) | refine oS (ev_bool_eql rfl rfl rfl) rfl ?_ | refine oS (eg rfl rfl rfl) rfl ?_ | (refine jdq rfl rfl ?_ ?_ ?_; kernel_rfl; kernel_rfl) | (refine oS (ev_build (t := ?_) rfl rfl rfl ?_) rfl ?_; rotate_left; (repeat (first | exact FillF.nil | refine FillF.cons (by constructor) rfl rfl (by repeat constructor) ?_))) | refine oS (ev_ptr_eql_nil rfl rfl rfl) rfl ?_)
  obtain ⟨k, hk⟩ : ∃ k : Nat, min (n : Int) (16384 - m) = (k : Int) := ⟨min n (16384 - m), by omega⟩
  have hkn : k ≤ n := by omega
  have hkm : m + k ≤ 16384 := by omega
  have hkk : min n (16384 - m) = k := by omega
  rw [hk, hkk]
  clear hk hkk
  refine oS (ev_slice_hi (h := k) rfl rfl rfl (by omega)) rfl ?_
  repeat (first | refine jc rfl rfl ?_ | refine jr rfl ?_ | refine jn ?_ | refine oM rfl rfl ?_ | refine oS (ev_pv rfl) rfl ?_ | refine oX rfl ?_ | refine J_cond_t rfl ?_ | refine J_cond_f rfl ?_ | refine oS (eb rfl) rfl ?_ | (refine oS (ev_cmp_t rfl rfl ?_) rfl ?_; (dsimp only [cmpP] <;> omega)) | (refine oS (ev_cmp_f rfl rfl ?_) rfl ?_; (dsimp only [cmpN] <;> omega)) | (refine oS (ea rfl rfl rfl ?_) rfl ?_; (dsimp only [InK]; first | omega | exact ⟨Int.natCast_nonneg _, by omega⟩)) | (refine oS (ed rfl rfl rfl ?_ ?_ ?_) rfl ?_; (first | omega | exact Int.natCast_nonneg _); (first | omega | exact Int.natCast_nonneg _); (dsimp only [InK]; first | omega | exact ⟨Int.natCast_nonneg _, by omega⟩)) | refine oS (ev_fieldAddr rfl rfl) rfl ?_ | (refine oS (ev_conv rfl rfl rfl (wrap_in ?_)) rfl ?_; (dsimp only [InK]; first | omega | exact ⟨Int.natCast_nonneg _, by omega⟩)) | refine oS (ev_bool_eql rfl rfl rfl) rfl ?_ | refine oS (eg rfl rfl rfl) rfl ?_ | (refine jdq rfl rfl ?_ ?_ ?_; kernel_rfl; kernel_rfl) | (refine oS (ev_build (t := ?_) rfl rfl rfl ?_) rfl ?_; rotate_left; (repeat (first | exact FillF.nil | refine FillF.cons (by constructor) rfl rfl (by repeat constructor) ?_))) | refine oS (ev_ptr_eql_nil rfl rfl rfl) rfl ?_)
  have hl' := hl.pre hc5 hkn hn
  refine J_loop2 (fun (j : Nat) (u : Value) => j ≤ k) (fun j _ => k - j)
    (fun j _ => [(0, .pointer (some ⟨b, 0, none⟩)), (1, .int .i64 from_), (2, .slice a k c), (22, .slice a k c), (23, .int .i64 k), (24, .int .i64 j)]) (fun _ _ => F)
    (fun j u => blk b 66 [u] :: own u 49 6 (m + j) (os ++ puts from_ (css.take j)) :: X) 0 (.slice av m cv) (Nat.zero_le _)
    ⟨⟨rfl, rfl, rfl, rfl, rfl, rfl, trivial⟩, fun _ h => ?_⟩ ?_
  · simpa [puts] using h.pick (.there .here)
  intro j u hj
  by_cases hlt : j < k
  · obtain ⟨r, hr, hrm⟩ := at_lt (S := css) (j := j) (by omega)
    obtain ⟨b1, off1, rfl, hcc⟩ := hl.row hc5 hr (by omega)
    obtain ⟨x1, x2, x3, x4, x5, rfl⟩ := five (hc5 r hrm)
    have hones := (hcl _ hrm).2
    repeat (first | refine jc rfl rfl ?_ | refine jr rfl ?_ | refine jn ?_ | refine oM rfl rfl ?_ | refine oS (ev_pv rfl) rfl ?_ | refine oX rfl ?_ | refine J_cond_t rfl ?_ | refine J_cond_f rfl ?_ | refine oS (eb rfl) rfl ?_ | (refine oS (ev_cmp_t rfl rfl ?_) rfl ?_; (dsimp only [cmpP] <;> omega)) | (refine oS (ev_cmp_f rfl rfl ?_) rfl ?_; (dsimp only [cmpN] <;> omega)) | (refine oS (ea rfl rfl rfl ?_) rfl ?_; (dsimp only [InK]; first | omega | exact ⟨Int.natCast_nonneg _, by omega⟩)) | (refine oS (ed rfl rfl rfl ?_ ?_ ?_) rfl ?_; (first | omega | exact Int.natCast_nonneg _); (first | omega | exact Int.natCast_nonneg _); (dsimp only [InK]; first | omega | exact ⟨Int.natCast_nonneg _, by omega⟩)) | refine oS (ev_fieldAddr rfl rfl) rfl ?_ | (refine oS (ev_conv rfl rfl rfl (wrap_in ?_)) rfl ?_; (dsimp only [InK]; first | omega | exact ⟨Int.natCast_nonneg _, by omega⟩)) | refine oS (ev_bool_eql rfl rfl rfl) rfl ?_ | refine oS (eg rfl rfl rfl) rfl ?_ | (refine jdq rfl rfl ?_ ?_ ?_; kernel_rfl; kernel_rfl) | (refine oS (ev_build (t := ?_) rfl rfl rfl ?_) rfl ?_; rotate_left; (repeat (first | exact FillF.nil | refine FillF.cons (by constructor) rfl rfl (by repeat constructor) ?_))) | refine oS (ev_ptr_eql_nil rfl rfl rfl) rfl ?_)
    refine oS (ev_indexAddr rfl rfl rfl hlt) rfl ?_
    refine oS (ev_load_agg rfl rfl (Rdb.ofF hcc) rfl) rfl ?_
    refine oE (ev_alloc rfl) rfl ?_; rintro _ _ _ _ ⟨rfl, bp, rfl, rfl⟩; refine oN (ev_store rfl rfl .agg rfl rfl (lay_all ?_) ?_ .here) rfl ?_; rfl; rotate_left; rintro _ _ _ _ ⟨rfl, rfl, rfl⟩; rotate_left
    · exact hones
    repeat (first | refine jc rfl rfl ?_ | refine jr rfl ?_ | refine jn ?_ | refine oM rfl rfl ?_ | refine oS (ev_pv rfl) rfl ?_ | refine oX rfl ?_ | refine J_cond_t rfl ?_ | refine J_cond_f rfl ?_ | refine oS (eb rfl) rfl ?_ | (refine oS (ev_cmp_t rfl rfl ?_) rfl ?_; (dsimp only [cmpP] <;> omega)) | (refine oS (ev_cmp_f rfl rfl ?_) rfl ?_; (dsimp only [cmpN] <;> omega)) | (refine oS (ea rfl rfl rfl ?_) rfl ?_; (dsimp only [InK]; first | omega | exact ⟨Int.natCast_nonneg _, by omega⟩)) | (refine oS (ed rfl rfl rfl ?_ ?_ ?_) rfl ?_; (first | omega | exact Int.natCast_nonneg _); (first | omega | exact Int.natCast_nonneg _); (dsimp only [InK]; first | omega | exact ⟨Int.natCast_nonneg _, by omega⟩)) | refine oS (ev_fieldAddr rfl rfl) rfl ?_ | (refine oS (ev_conv rfl rfl rfl (wrap_in ?_)) rfl ?_; (dsimp only [InK]; first | omega | exact ⟨Int.natCast_nonneg _, by omega⟩)) | refine oS (ev_bool_eql rfl rfl rfl) rfl ?_ | refine oS (eg rfl rfl rfl) rfl ?_ | (refine jdq rfl rfl ?_ ?_ ?_; kernel_rfl; kernel_rfl) | (refine oS (ev_build (t := ?_) rfl rfl rfl ?_) rfl ?_; rotate_left; (repeat (first | exact FillF.nil | refine FillF.cons (by constructor) rfl rfl (by repeat constructor) ?_))) | refine oS (ev_ptr_eql_nil rfl rfl rfl) rfl ?_)
    refine ja F [blk bp 35 [x1, x2, x3, x4, x5]] ?_ ?_ ?_; kernel_rfl
    · exact fun w s => s.head
    refine aT 0 rfl (ev_pv rfl) rfl rfl ?_ ?_ ?_ ?_; kernel_rfl; kernel_rfl; kernel_rfl
    refine aT 1 rfl (ev_pv rfl) rfl rfl ?_ ?_ ?_ ?_; kernel_rfl; kernel_rfl; kernel_rfl
    refine aT 2 rfl (ev_pv rfl) rfl rfl ?_ ?_ ?_ ?_; kernel_rfl; kernel_rfl; kernel_rfl
    refine aT 3 rfl (ev_fieldAddr rfl rfl) rfl rfl ?_ ?_ ?_ ?_; kernel_rfl; kernel_rfl; kernel_rfl
    refine aT 5 rfl (ev_pv rfl) rfl rfl ?_ ?_ ?_ ?_; kernel_rfl; kernel_rfl; kernel_rfl
    refine aT 6 rfl (ev_load_agg (cs := [x1, x2, x3, x4, x5]) rfl rfl (Rdb.ofB (n := 0) .here rfl) rfl) rfl rfl ?_ ?_ ?_ ?_; kernel_rfl; kernel_rfl; kernel_rfl
    refine aT 7 rfl (ev_build (t := [.int .i64 from_, x1, x2, x3, x4, x5]) rfl rfl rfl (.cons .int rfl rfl (by repeat constructor) (.cons .agg rfl rfl (by repeat constructor) .nil))) rfl rfl ?_ ?_ ?_ ?_; kernel_rfl; kernel_rfl; kernel_rfl
    have keep : ∀ {A B : Asrt} {H : List Asrt} {w : World}, Sat F (A :: B :: H) w → Sat F [B] w := fun s => (s.pick (.there .here)).head
    refine aB2 (i := 4) (i' := 8) (by kernel_rfl) ?_ ?_
    · refine aV rfl (ev_load rfl rfl (Rdb.ofB (n := 0) (.there .here) rfl)) rfl rfl ?_
      refine aB (i := 8) (by kernel_rfl) (aE rfl (ev_one rfl .agg rfl elSent) rfl rfl ?_ ?_)
      · rintro _ _ _ _ ⟨rfl, bt, rfl, rfl⟩ w s
        exact keep s
      rintro _ _ _ _ ⟨rfl, bt, rfl, rfl⟩
      refine aB (i := 9) (by kernel_rfl) (aE rfl (ev_append (m := 1) (c := 1) (b := bt) (off := 0) (K := fun v' => blk bt 49 [.int .i64 from_, x1, x2, x3, x4, x5] :: blk bp 35 [x1, x2, x3, x4, x5] :: blk b 66 [u] :: own v' 49 6 (m + j + 1) (os ++ puts from_ (css.take j) ++ [.int .i64 from_, x1, x2, x3, x4, x5]) :: X) rfl rfl elSent (Rdb.ofB (n := 0) .here rfl) rfl (ones_cons rfl hones) (by omega) (by unfold maxLen; omega) (fun v' => .there (.there (.there .here)))) rfl rfl ?_ ?_)
      · rintro u' _ _ _ ⟨rfl, _, rfl⟩ w s
        exact keep s
      rintro u' _ _ _ ⟨rfl, _, rfl⟩
      refine aOwn (.there (.there (.there .here))) fun au cu hu' _ _ _ => ?_
      subst hu'
      refine aT 10 rfl (ev_pv rfl) rfl rfl ?_ ?_ ?_ ?_; kernel_rfl; kernel_rfl; kernel_rfl
      refine aT 11 rfl (ev_fieldAddr rfl rfl) rfl rfl ?_ ?_ ?_ ?_; kernel_rfl; kernel_rfl; kernel_rfl
      refine aB (i := 12) (by kernel_rfl) (aN rfl (ev_store rfl rfl .slice rfl rfl (.put .nil) (ones_cons rfl ones_nil) (.there (.there .here))) rfl ?_ ?_)
      · rintro _ _ _ _ ⟨rfl, _, rfl⟩ w s
        exact keep s
      rintro _ _ _ _ ⟨rfl, _, rfl⟩
      refine aD (by kernel_rfl) ?_
      repeat (first | refine jc rfl rfl ?_ | refine jr rfl ?_ | refine jn ?_ | refine oM rfl rfl ?_ | refine oS (ev_pv rfl) rfl ?_ | refine oX rfl ?_ | refine J_cond_t rfl ?_ | refine J_cond_f rfl ?_ | refine oS (eb rfl) rfl ?_ | (refine oS (ev_cmp_t rfl rfl ?_) rfl ?_; (dsimp only [cmpP] <;> omega)) | (refine oS (ev_cmp_f rfl rfl ?_) rfl ?_; (dsimp only [cmpN] <;> omega)) | (refine oS (ea rfl rfl rfl ?_) rfl ?_; (dsimp only [InK]; first | omega | exact ⟨Int.natCast_nonneg _, by omega⟩)) | (refine oS (ed rfl rfl rfl ?_ ?_ ?_) rfl ?_; (first | omega | exact Int.natCast_nonneg _); (first | omega | exact Int.natCast_nonneg _); (dsimp only [InK]; first | omega | exact ⟨Int.natCast_nonneg _, by omega⟩)) | refine oS (ev_fieldAddr rfl rfl) rfl ?_ | (refine oS (ev_conv rfl rfl rfl (wrap_in ?_)) rfl ?_; (dsimp only [InK]; first | omega | exact ⟨Int.natCast_nonneg _, by omega⟩)) | refine oS (ev_bool_eql rfl rfl rfl) rfl ?_ | refine oS (eg rfl rfl rfl) rfl ?_ | (refine jdq rfl rfl ?_ ?_ ?_; kernel_rfl; kernel_rfl) | (refine oS (ev_build (t := ?_) rfl rfl rfl ?_) rfl ?_; rotate_left; (repeat (first | exact FillF.nil | refine FillF.cons (by constructor) rfl rfl (by repeat constructor) ?_))) | refine oS (ev_ptr_eql_nil rfl rfl rfl) rfl ?_)
      refine J_again2 (j + 1) (.slice au (m + j + 1) cu) hlt (by omega) ⟨⟨rfl, rfl, rfl, rfl, rfl, rfl, trivial⟩, fun w s => ?_⟩
      rw [puts_snoc hr, ← List.append_assoc]
      exact s.drop.drop
    · refine aE rfl (ev_one rfl .agg rfl elSent) rfl rfl ?_ ?_
      · rintro _ _ _ _ ⟨rfl, bt, rfl, rfl⟩ w s
        exact keep s
      rintro _ _ _ _ ⟨rfl, bt, rfl, rfl⟩
      refine aB (i := 4) (by kernel_rfl) (aV rfl (ev_load rfl rfl (Rdb.ofB (n := 0) (.there (.there .here)) rfl)) rfl rfl ?_)
      refine aB (i := 9) (by kernel_rfl) (aE rfl (ev_append (m := 1) (c := 1) (b := bt) (off := 0) (K := fun v' => blk bt 49 [.int .i64 from_, x1, x2, x3, x4, x5] :: blk bp 35 [x1, x2, x3, x4, x5] :: blk b 66 [u] :: own v' 49 6 (m + j + 1) (os ++ puts from_ (css.take j) ++ [.int .i64 from_, x1, x2, x3, x4, x5]) :: X) rfl rfl elSent (Rdb.ofB (n := 0) .here rfl) rfl (ones_cons rfl hones) (by omega) (by unfold maxLen; omega) (fun v' => .there (.there (.there .here)))) rfl rfl ?_ ?_)
      · rintro u' _ _ _ ⟨rfl, _, rfl⟩ w s
        exact keep s
      rintro u' _ _ _ ⟨rfl, _, rfl⟩
      refine aOwn (.there (.there (.there .here))) fun au cu hu' _ _ _ => ?_
      subst hu'
      refine aT 10 rfl (ev_pv rfl) rfl rfl ?_ ?_ ?_ ?_; kernel_rfl; kernel_rfl; kernel_rfl
      refine aT 11 rfl (ev_fieldAddr rfl rfl) rfl rfl ?_ ?_ ?_ ?_; kernel_rfl; kernel_rfl; kernel_rfl
      refine aB (i := 12) (by kernel_rfl) (aN rfl (ev_store rfl rfl .slice rfl rfl (.put .nil) (ones_cons rfl ones_nil) (.there (.there .here))) rfl ?_ ?_)
      · rintro _ _ _ _ ⟨rfl, _, rfl⟩ w s
        exact keep s
      rintro _ _ _ _ ⟨rfl, _, rfl⟩
      refine aD (by kernel_rfl) ?_
      repeat (first | refine jc rfl rfl ?_ | refine jr rfl ?_ | refine jn ?_ | refine oM rfl rfl ?_ | refine oS (ev_pv rfl) rfl ?_ | refine oX rfl ?_ | refine J_cond_t rfl ?_ | refine J_cond_f rfl ?_ | refine oS (eb rfl) rfl ?_ | (refine oS (ev_cmp_t rfl rfl ?_) rfl ?_; (dsimp only [cmpP] <;> omega)) | (refine oS (ev_cmp_f rfl rfl ?_) rfl ?_; (dsimp only [cmpN] <;> omega)) | (refine oS (ea rfl rfl rfl ?_) rfl ?_; (dsimp only [InK]; first | omega | exact ⟨Int.natCast_nonneg _, by omega⟩)) | (refine oS (ed rfl rfl rfl ?_ ?_ ?_) rfl ?_; (first | omega | exact Int.natCast_nonneg _); (first | omega | exact Int.natCast_nonneg _); (dsimp only [InK]; first | omega | exact ⟨Int.natCast_nonneg _, by omega⟩)) | refine oS (ev_fieldAddr rfl rfl) rfl ?_ | (refine oS (ev_conv rfl rfl rfl (wrap_in ?_)) rfl ?_; (dsimp only [InK]; first | omega | exact ⟨Int.natCast_nonneg _, by omega⟩)) | refine oS (ev_bool_eql rfl rfl rfl) rfl ?_ | refine oS (eg rfl rfl rfl) rfl ?_ | (refine jdq rfl rfl ?_ ?_ ?_; kernel_rfl; kernel_rfl) | (refine oS (ev_build (t := ?_) rfl rfl rfl ?_) rfl ?_; rotate_left; (repeat (first | exact FillF.nil | refine FillF.cons (by constructor) rfl rfl (by repeat constructor) ?_))) | refine oS (ev_ptr_eql_nil rfl rfl rfl) rfl ?_)
      refine J_again2 (j + 1) (.slice au (m + j + 1) cu) hlt (by omega) ⟨⟨rfl, rfl, rfl, rfl, rfl, rfl, trivial⟩, fun w s => ?_⟩
      rw [puts_snoc hr, ← List.append_assoc]
      exact s.drop.drop
  · obtain rfl : j = k := by omega
    repeat (first | refine jc rfl rfl ?_ | refine jr rfl ?_ | refine jn ?_ | refine oM rfl rfl ?_ | refine oS (ev_pv rfl) rfl ?_ | refine oX rfl ?_ | refine J_cond_t rfl ?_ | refine J_cond_f rfl ?_ | refine oS (eb rfl) rfl ?_ | (refine oS (ev_cmp_t rfl rfl ?_) rfl ?_; (dsimp only [cmpP] <;> omega)) | (refine oS (ev_cmp_f rfl rfl ?_) rfl ?_; (dsimp only [cmpN] <;> omega)) | (refine oS (ea rfl rfl rfl ?_) rfl ?_; (dsimp only [InK]; first | omega | exact ⟨Int.natCast_nonneg _, by omega⟩)) | (refine oS (ed rfl rfl rfl ?_ ?_ ?_) rfl ?_; (first | omega | exact Int.natCast_nonneg _); (first | omega | exact Int.natCast_nonneg _); (dsimp only [InK]; first | omega | exact ⟨Int.natCast_nonneg _, by omega⟩)) | refine oS (ev_fieldAddr rfl rfl) rfl ?_ | (refine oS (ev_conv rfl rfl rfl (wrap_in ?_)) rfl ?_; (dsimp only [InK]; first | omega | exact ⟨Int.natCast_nonneg _, by omega⟩)) | refine oS (ev_bool_eql rfl rfl rfl) rfl ?_ | refine oS (eg rfl rfl rfl) rfl ?_ | (refine jdq rfl rfl ?_ ?_ ?_; kernel_rfl; kernel_rfl) | (refine oS (ev_build (t := ?_) rfl rfl rfl ?_) rfl ?_; rotate_left; (repeat (first | exact FillF.nil | refine FillF.cons (by constructor) rfl rfl (by repeat constructor) ?_))) | refine oS (ev_ptr_eql_nil rfl rfl rfl) rfl ?_)
    exact J_ret1 rfl rfl [blk b 66 [u], own u 49 6 (m + j) (os ++ puts from_ (css.take j))] rfl (PH.ler _) ⟨rfl, u, rfl, rfl⟩
end Go.Proofs.YtmicjjhkoicdnaaDoor
