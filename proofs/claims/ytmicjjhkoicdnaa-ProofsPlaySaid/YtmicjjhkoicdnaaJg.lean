/-
  Proofs kept by a call: their twins; searched, one let go. Conditions are typed with each.
-/
import Derived.Test.YtmicjjhkoicdnaaJf
import Derived.Test.YtmicjjhkoicdnaaHb
import Derived.Test.YtmicjjhkoicdnaaKk
import Derived.Test.YtmicjjhkoicdnaaLp
namespace Go.Proofs.Ytmicjjhkoicdnaa
open Go.RowKit
set_option maxRecDepth 100000
/-- A proof, and where its batch is. -/
structure PV where
  s : Int
  w : Int
  a : Option Addr
  n : Nat
  c : Nat
  es : List EntX
def PV.cs (x : PV) : List Value := prC x.s x.w (.slice x.a x.n x.c)
def PV.key (x : PV) : PrX := (x.s, x.w, x.es, ())
def PV.Ok (F : PH) (x : PV) : Prop := InK .i64 x.s ∧ InK .i64 x.w ∧ RowB tyEn F (.slice x.a x.n x.c) x.es ∧ x.es.length ≤ 1000
theorem PV.Ok.mono {F G : PH} {x : PV} (h : x.Ok F) (hl : F.le G) : x.Ok G := ⟨h.1, h.2.1, h.2.2.1.mono hl, h.2.2.2⟩
theorem PV.len (x : PV) : x.cs.length = 3 := rfl
theorem PV.ones (x : PV) : Ones x.cs := by
  unfold PV.cs prC
  (repeat (first | exact ones_nil | refine ones_cons rfl ?_))
abbrev zPf : List Value := [.int .i64 0, .int .i64 0, .slice none 0 0]
theorem elPf : Elem Try.prog 44 43 3 40 (.agg zPf.toArray) := ⟨rfl, ⟨_, rfl, rfl, rfl, rfl, rfl, by decide⟩, rfl, rfl⟩
theorem ones_zPf : Ones zPf := by unfold zPf; (repeat (first | exact ones_nil | refine ones_cons rfl ?_))
abbrev zEt' : List Value := [.int .i64 0, .int .i64 0, .int .i64 0, .string .empty, .int .i64 0, .int .i64 0, .string .empty, .int .u32 0]
theorem elEt' : Elem Try.prog 41 40 8 80 (.agg zEt'.toArray) := ⟨rfl, ⟨_, rfl, rfl, rfl, rfl, rfl, by decide⟩, rfl, rfl⟩
theorem all2_ones {P : Program} {e : TypeId} {α : Type} {te : Ty P e α} {F : PH} {xs : List α} {css : List (List Value)} (h : All2 (te.rep F) xs css) : Ones css.flatten := fun u hu => by
  obtain ⟨c, hc, hu⟩ := List.mem_flatten.1 hu
  obtain ⟨x, _, hx⟩ := h.right c hc
  exact te.ones hx u hu
theorem enclone_spec (v : Value) (es : List EntX) (F : PH) (h : RowB tyEn F v es) (hn : es.length ≤ 1000) :
    Spec Try.prog 55 [v] F [] fun u F' H' => H' = [] ∧ RowB tyEn F' u es := by
  refine Spec.of1 Try.func55 rfl rfl fun X w0 => ?_
  obtain ⟨⟨css, hs, hall⟩, hbd⟩ := h
  obtain ⟨hl, a, c, rfl, hc, h2⟩ := id hs
  repeat (first|refine zJ rfl rfl ?_|refine jr rfl ?_|refine jn ?_|refine zM rfl rfl ?_|(refine zC rfl rfl ?_ rfl ?_;omega)|(refine zD rfl rfl ?_ rfl ?_;omega)|(refine zP rfl ?_ rfl ?_;omega)|refine zG rfl rfl rfl rfl ?_|(refine jdq rfl rfl ?_ ?_ ?_;kernel_rfl;kernel_rfl)|refine zB rfl rfl rfl (by repeat constructor) rfl ?_|refine zH .here rfl rfl rfl rfl ?_|refine zH (.there .here) rfl rfl rfl rfl ?_|refine zH (.there (.there .here)) rfl rfl rfl rfl ?_)
  refine oS (ev_slice_eql_nil rfl rfl rfl) rfl ?_
  cases a with
  | none =>
    have h0 : es.length = 0 := by
      by_cases hz : 0 < es.length
      · obtain ⟨_, _, h3, _⟩ := h2 hz; cases h3
      · omega
    have hes : es = [] := List.eq_nil_of_length_eq_zero h0
    subst hes
    repeat (first|refine zJ rfl rfl ?_|refine jr rfl ?_|refine jn ?_|refine zM rfl rfl ?_|(refine zC rfl rfl ?_ rfl ?_;omega)|(refine zD rfl rfl ?_ rfl ?_;omega)|(refine zP rfl ?_ rfl ?_;omega)|refine zG rfl rfl rfl rfl ?_|(refine jdq rfl rfl ?_ ?_ ?_;kernel_rfl;kernel_rfl)|refine zB rfl rfl rfl (by repeat constructor) rfl ?_|refine zH .here rfl rfl rfl rfl ?_|refine zH (.there .here) rfl rfl rfl rfl ?_|refine zH (.there (.there .here)) rfl rfl rfl rfl ?_)
    exact J_retv rfl (.tmp rfl .nil) [] (fun w s => s) (PH.ler _) ⟨rfl, RowB.nil⟩
  | some ad =>
    repeat (first|refine zJ rfl rfl ?_|refine jr rfl ?_|refine jn ?_|refine zM rfl rfl ?_|(refine zC rfl rfl ?_ rfl ?_;omega)|(refine zD rfl rfl ?_ rfl ?_;omega)|(refine zP rfl ?_ rfl ?_;omega)|refine zG rfl rfl rfl rfl ?_|(refine jdq rfl rfl ?_ ?_ ?_;kernel_rfl;kernel_rfl)|refine zB rfl rfl rfl (by repeat constructor) rfl ?_|refine zH .here rfl rfl rfl rfl ?_|refine zH (.there .here) rfl rfl rfl rfl ?_|refine zH (.there (.there .here)) rfl rfl rfl rfl ?_)
    refine oE (ev_mt elEt') rfl ?_
    rintro u _ _ _ ⟨rfl, ⟨b, rfl⟩, rfl⟩
    repeat (first|refine zJ rfl rfl ?_|refine jr rfl ?_|refine jn ?_|refine zM rfl rfl ?_|(refine zC rfl rfl ?_ rfl ?_;omega)|(refine zD rfl rfl ?_ rfl ?_;omega)|(refine zP rfl ?_ rfl ?_;omega)|refine zG rfl rfl rfl rfl ?_|(refine jdq rfl rfl ?_ ?_ ?_;kernel_rfl;kernel_rfl)|refine zB rfl rfl rfl (by repeat constructor) rfl ?_|refine zH .here rfl rfl rfl rfl ?_|refine zH (.there .here) rfl rfl rfl rfl ?_|refine zH (.there (.there .here)) rfl rfl rfl rfl ?_)
    refine oE (ev_append_s (n := 0) (m := es.length) (xs := []) (news := css.flatten) (K := fun v' => own v' 40 8 es.length css.flatten :: X) rfl rfl elEt' hs.rds (all2_ones hall) (by omega) (fun v' => by rw [Nat.zero_add, List.nil_append]; exact .here)) rfl ?_
    rintro u _ _ _ ⟨rfl, hu, rfl⟩
    repeat (first|refine zJ rfl rfl ?_|refine jr rfl ?_|refine jn ?_|refine zM rfl rfl ?_|(refine zC rfl rfl ?_ rfl ?_;omega)|(refine zD rfl rfl ?_ rfl ?_;omega)|(refine zP rfl ?_ rfl ?_;omega)|refine zG rfl rfl rfl rfl ?_|(refine jdq rfl rfl ?_ ?_ ?_;kernel_rfl;kernel_rfl)|refine zB rfl rfl rfl (by repeat constructor) rfl ?_|refine zH .here rfl rfl rfl rfl ?_|refine zH (.there .here) rfl rfl rfl rfl ?_|refine zH (.there (.there .here)) rfl rfl rfl rfl ?_)
    refine J_persist fun hh hA hd => ?_
    exact J_retv rfl (.tmp rfl .nil) [] (fun w s => s) (PH.le_l _ _) ⟨rfl, row_own (te := tyEn) hA hd hall rfl, hbd⟩
theorem twin_spec (x : PV) (F : PH) (hx : x.Ok F) : Spec Try.prog 48 [.agg x.cs.toArray] F [] fun u F' H' => H' = [] ∧ ∃ y : PV, u = .agg y.cs.toArray ∧ y.Ok F' ∧ y.key = x.key := by
  obtain ⟨s, w, a, n, c, es⟩ := x
  obtain ⟨h1, h2, hr, h3⟩ := hx
  dsimp only at h1 h2 hr h3
  refine Spec.of1 Try.func48 rfl rfl fun X w0 => ?_
  unfold PV.cs prC
  dsimp only
  refine jc rfl rfl ?_
  refine jr rfl ?_
  refine oE (ev_box rfl .agg) rfl ?_; rintro _ _ _ _ ⟨rfl, b1, rfl, rfl⟩
  refine oE (ev_alloc (cs := zPf) rfl) rfl ?_
  rintro _ _ _ _ ⟨rfl, b2, rfl, rfl⟩
  repeat (first|refine zJ rfl rfl ?_|refine jr rfl ?_|refine jn ?_|refine zM rfl rfl ?_|(refine zC rfl rfl ?_ rfl ?_;omega)|(refine zD rfl rfl ?_ rfl ?_;omega)|(refine zP rfl ?_ rfl ?_;omega)|refine zG rfl rfl rfl rfl ?_|(refine jdq rfl rfl ?_ ?_ ?_;kernel_rfl;kernel_rfl)|refine zB rfl rfl rfl (by repeat constructor) rfl ?_|refine zH .here rfl rfl rfl rfl ?_|refine zH (.there .here) rfl rfl rfl rfl ?_|refine zH (.there (.there .here)) rfl rfl rfl rfl ?_)
  refine oC (Hc := []) (Hr := blk b2 43 zPf :: blk b1 43 [.int .i64 s, .int .i64 w, .slice a n c] :: X) (enclone_spec _ es F hr h3) Try.call55 rfl rfl (fun _ s => s) ?_
  rintro u F2 _ hF ⟨rfl, hu⟩
  obtain ⟨a', c', rfl, _, _⟩ := hu.form
  repeat (first|refine zJ rfl rfl ?_|refine jr rfl ?_|refine jn ?_|refine zM rfl rfl ?_|(refine zC rfl rfl ?_ rfl ?_;omega)|(refine zD rfl rfl ?_ rfl ?_;omega)|(refine zP rfl ?_ rfl ?_;omega)|refine zG rfl rfl rfl rfl ?_|(refine jdq rfl rfl ?_ ?_ ?_;kernel_rfl;kernel_rfl)|refine zB rfl rfl rfl (by repeat constructor) rfl ?_|refine zH .here rfl rfl rfl rfl ?_|refine zH (.there .here) rfl rfl rfl rfl ?_|refine zH (.there (.there .here)) rfl rfl rfl rfl ?_)
  refine oN (ev_store (b := b1) (off := 0 + 2) (vs := [.slice a' es.length c']) rfl rfl (by constructor) rfl rfl (s := [.int .i64 s, .int .i64 w, .slice a' es.length c']) (.skip (.skip (.put .nil))) (ones_cons rfl ones_nil) (.there .here)) rfl ?_
  rintro _ _ _ _ ⟨rfl, rfl, rfl⟩
  repeat (first|refine zJ rfl rfl ?_|refine jr rfl ?_|refine jn ?_|refine zM rfl rfl ?_|(refine zC rfl rfl ?_ rfl ?_;omega)|(refine zD rfl rfl ?_ rfl ?_;omega)|(refine zP rfl ?_ rfl ?_;omega)|refine zG rfl rfl rfl rfl ?_|(refine jdq rfl rfl ?_ ?_ ?_;kernel_rfl;kernel_rfl)|refine zB rfl rfl rfl (by repeat constructor) rfl ?_|refine zH .here rfl rfl rfl rfl ?_|refine zH (.there .here) rfl rfl rfl rfl ?_|refine zH (.there (.there .here)) rfl rfl rfl rfl ?_)
  refine oS (ev_load_agg (cs := [.int .i64 s, .int .i64 w, .slice a' es.length c']) rfl rfl (Rdb.ofB (n := 0) (.there .here) rfl) rfl) rfl ?_
  refine oN (ev_store (b := b2) (off := 0) rfl rfl .agg rfl rfl (lay_all (zs := zPf) rfl) (ones_cons rfl (ones_cons rfl (ones_cons rfl ones_nil))) .here) rfl ?_
  rintro _ _ _ _ ⟨rfl, rfl, rfl⟩
  repeat (first|refine zJ rfl rfl ?_|refine jr rfl ?_|refine jn ?_|refine zM rfl rfl ?_|(refine zC rfl rfl ?_ rfl ?_;omega)|(refine zD rfl rfl ?_ rfl ?_;omega)|(refine zP rfl ?_ rfl ?_;omega)|refine zG rfl rfl rfl rfl ?_|(refine jdq rfl rfl ?_ ?_ ?_;kernel_rfl;kernel_rfl)|refine zB rfl rfl rfl (by repeat constructor) rfl ?_|refine zH .here rfl rfl rfl rfl ?_|refine zH (.there .here) rfl rfl rfl rfl ?_|refine zH (.there (.there .here)) rfl rfl rfl rfl ?_)
  exact J_retv (vs := [.agg #[.int .i64 s, .int .i64 w, .slice a' es.length c']]) rfl (.agg rfl rfl (Rdb.ofB (n := 0) .here rfl) rfl .nil) [] (fun w s => s.drop.drop) hF ⟨rfl, ⟨s, w, a', es.length, c', es⟩, rfl, ⟨h1, h2, hu, h3⟩, rfl⟩
theorem pfO_form {F : PH} {a : Option Addr} {n c : Nat} {L : List PV} (hh : PH) (h : own (.slice a n c) 43 3 n (rowC PV.cs L) hh) : L.length = n := by
  have h1 := h.1
  rw [rowC_len PV.len] at h1
  omega
theorem rowC_cut (A : List PV) (y : PV) (B : List PV) : (rowC PV.cs (A ++ y :: B)).take (A.length * 3) ++ (rowC PV.cs (A ++ y :: B)).drop ((A.length + 1) * 3) = rowC PV.cs (A ++ B) := by
  have e1 : (rowC PV.cs A).length = A.length * 3 := rowC_len PV.len A
  have e2 : (rowC PV.cs (A ++ [y])).length = (A.length + 1) * 3 := by rw [rowC_len PV.len, List.length_append, List.length_singleton]
  have h2 : rowC PV.cs (A ++ y :: B) = rowC PV.cs (A ++ [y]) ++ rowC PV.cs B := by rw [← rowC_append, List.append_assoc]; rfl
  have h1 : rowC PV.cs (A ++ y :: B) = rowC PV.cs A ++ rowC PV.cs (y :: B) := rowC_append _ _
  rw [rowC_append A B, ← e1, ← e2]
  conv => lhs; lhs; rw [h1, List.take_left]
  conv => lhs; rhs; rw [h2, List.drop_left]
theorem rowC_ones (L : List PV) : Ones (rowC PV.cs L) := fun u hu => by
  obtain ⟨c, hc, hu⟩ := List.mem_flatten.1 hu
  obtain ⟨x, _, rfl⟩ := List.mem_map.1 hc
  exact x.ones u hu
set_option maxHeartbeats 1000000 in
theorem pdel_spec (g n c : Nat) (A : List PV) (y : PV) (B : List PV) (hl : (A ++ y :: B).length = n) (hn : n ≤ 1000) (hnc : n ≤ c) (F : PH) :
    Spec Try.prog 36 [.slice (some ⟨g, 0, none⟩) n c, .int .i64 A.length, .int .i64 ((A.length + 1 : Nat) : Int)] F [own (.slice (some ⟨g, 0, none⟩) n c) 43 3 n (rowC PV.cs (A ++ y :: B))]
      fun u F' H' => F = F' ∧ u = .slice (some ⟨g, 0, none⟩) (n - 1) c ∧ H' = [own (.slice (some ⟨g, 0, none⟩) (n - 1) c) 43 3 (n - 1) (rowC PV.cs (A ++ B))] := by
  rw [← rowC_cut A y B]
  have hi : A.length < n := by rw [← hl, List.length_append, List.length_cons]; omega
  have h1 := rowC_ones (A ++ y :: B)
  generalize rowC PV.cs (A ++ y :: B) = xs at *
  generalize A.length = i at *
  refine Spec.of3 Try.func36 rfl rfl fun X w0 => ?_
  repeat (first | refine jc rfl rfl ?_ | refine jr rfl ?_ | refine jn ?_ | refine oM rfl rfl ?_ | refine oS (ev_pv rfl) rfl ?_ | refine oX rfl ?_ | refine J_cond_t rfl ?_ | refine J_cond_f rfl ?_ | refine oS (eb rfl) rfl ?_ | (refine oS (ev_cmp_t rfl rfl ?_) rfl ?_; (dsimp only [cmpP] <;> omega)) | (refine oS (ev_cmp_f rfl rfl ?_) rfl ?_; (dsimp only [cmpN] <;> omega)) | (refine oS (ea rfl rfl rfl ?_) rfl ?_; (dsimp only [InK]; first | omega | exact ⟨Int.natCast_nonneg _, by omega⟩)) | (refine oS (ed rfl rfl rfl ?_ ?_ ?_) rfl ?_; (first | omega | exact Int.natCast_nonneg _); (first | omega | exact Int.natCast_nonneg _); (dsimp only [InK]; first | omega | exact ⟨Int.natCast_nonneg _, by omega⟩)) | refine oS (ev_fieldAddr rfl rfl) rfl ?_ | (refine oS (ev_conv rfl rfl rfl (wrap_in ?_)) rfl ?_; (dsimp only [InK]; first | omega | exact ⟨Int.natCast_nonneg _, by omega⟩)) | refine oS (ev_bool_eql rfl rfl rfl) rfl ?_ | refine oS (eg rfl rfl rfl) rfl ?_ | (refine jdq rfl rfl ?_ ?_ ?_; kernel_rfl; kernel_rfl) | (refine oS (ev_build (t := ?_) rfl rfl rfl ?_) rfl ?_; rotate_left; (repeat (first | exact FillF.nil | refine FillF.cons (by constructor) rfl rfl (by repeat constructor) ?_))) | refine oS (ev_ptr_eql_nil rfl rfl rfl) rfl ?_)
  refine oS (ev_slice_max (lo := i) (hi := i + 1) (m := n) rfl rfl rfl rfl rfl (by omega) (by omega) hnc) rfl ?_
  repeat (first | refine jc rfl rfl ?_ | refine jr rfl ?_ | refine jn ?_ | refine oM rfl rfl ?_ | refine oS (ev_pv rfl) rfl ?_ | refine oX rfl ?_ | refine J_cond_t rfl ?_ | refine J_cond_f rfl ?_ | refine oS (eb rfl) rfl ?_ | (refine oS (ev_cmp_t rfl rfl ?_) rfl ?_; (dsimp only [cmpP] <;> omega)) | (refine oS (ev_cmp_f rfl rfl ?_) rfl ?_; (dsimp only [cmpN] <;> omega)) | (refine oS (ea rfl rfl rfl ?_) rfl ?_; (dsimp only [InK]; first | omega | exact ⟨Int.natCast_nonneg _, by omega⟩)) | (refine oS (ed rfl rfl rfl ?_ ?_ ?_) rfl ?_; (first | omega | exact Int.natCast_nonneg _); (first | omega | exact Int.natCast_nonneg _); (dsimp only [InK]; first | omega | exact ⟨Int.natCast_nonneg _, by omega⟩)) | refine oS (ev_fieldAddr rfl rfl) rfl ?_ | (refine oS (ev_conv rfl rfl rfl (wrap_in ?_)) rfl ?_; (dsimp only [InK]; first | omega | exact ⟨Int.natCast_nonneg _, by omega⟩)) | refine oS (ev_bool_eql rfl rfl rfl) rfl ?_ | refine oS (eg rfl rfl rfl) rfl ?_ | (refine jdq rfl rfl ?_ ?_ ?_; kernel_rfl; kernel_rfl) | (refine oS (ev_build (t := ?_) rfl rfl rfl ?_) rfl ?_; rotate_left; (repeat (first | exact FillF.nil | refine FillF.cons (by constructor) rfl rfl (by repeat constructor) ?_))) | refine oS (ev_ptr_eql_nil rfl rfl rfl) rfl ?_)
  have e : i + (n - (i + 1)) = n - 1 := by omega
  refine ja F [] ?_ ?_ ?_; kernel_rfl
  · exact fun w s => s.bare
  refine aT 0 rfl (ev_pv rfl) rfl rfl ?_ ?_ ?_ ?_; kernel_rfl; kernel_rfl; kernel_rfl
  refine aT 1 rfl (ev_pv rfl) rfl rfl ?_ ?_ ?_ ?_; kernel_rfl; kernel_rfl; kernel_rfl
  refine aT 2 rfl (ev_slice_hi (h := i) rfl rfl rfl (by omega)) rfl rfl ?_ ?_ ?_ ?_; kernel_rfl; kernel_rfl; kernel_rfl
  refine aT 3 rfl (ev_pv rfl) rfl rfl ?_ ?_ ?_ ?_; kernel_rfl; kernel_rfl; kernel_rfl
  refine aT 4 rfl (ev_pv rfl) rfl rfl ?_ ?_ ?_ ?_; kernel_rfl; kernel_rfl; kernel_rfl
  refine aT 5 rfl (ev_slice_lo (lo := i + 1) rfl rfl rfl (by omega)) rfl rfl ?_ ?_ ?_ ?_; kernel_rfl; kernel_rfl; kernel_rfl
  refine aB (i := 6) (by kernel_rfl) (aE rfl (ev_append_shift (i := i) (j := i + 1) (n := n) rfl rfl elPf (by omega) (by omega) h1 .here) rfl rfl ?_ ?_)
  · rintro _ _ _ _ ⟨rfl, rfl, rfl⟩ w s
    exact s.bare
  rintro _ _ _ _ ⟨rfl, rfl, rfl⟩
  rw [e]
  refine aT 7 rfl (ev_pv rfl) rfl rfl ?_ ?_ ?_ ?_; kernel_rfl; kernel_rfl; kernel_rfl
  refine aD (by kernel_rfl) ?_
  repeat (first | refine jc rfl rfl ?_ | refine jr rfl ?_ | refine jn ?_ | refine oM rfl rfl ?_ | refine oS (ev_pv rfl) rfl ?_ | refine oX rfl ?_ | refine J_cond_t rfl ?_ | refine J_cond_f rfl ?_ | refine oS (eb rfl) rfl ?_ | (refine oS (ev_cmp_t rfl rfl ?_) rfl ?_; (dsimp only [cmpP] <;> omega)) | (refine oS (ev_cmp_f rfl rfl ?_) rfl ?_; (dsimp only [cmpN] <;> omega)) | (refine oS (ea rfl rfl rfl ?_) rfl ?_; (dsimp only [InK]; first | omega | exact ⟨Int.natCast_nonneg _, by omega⟩)) | (refine oS (ed rfl rfl rfl ?_ ?_ ?_) rfl ?_; (first | omega | exact Int.natCast_nonneg _); (first | omega | exact Int.natCast_nonneg _); (dsimp only [InK]; first | omega | exact ⟨Int.natCast_nonneg _, by omega⟩)) | refine oS (ev_fieldAddr rfl rfl) rfl ?_ | (refine oS (ev_conv rfl rfl rfl (wrap_in ?_)) rfl ?_; (dsimp only [InK]; first | omega | exact ⟨Int.natCast_nonneg _, by omega⟩)) | refine oS (ev_bool_eql rfl rfl rfl) rfl ?_ | refine oS (eg rfl rfl rfl) rfl ?_ | (refine jdq rfl rfl ?_ ?_ ?_; kernel_rfl; kernel_rfl) | (refine oS (ev_build (t := ?_) rfl rfl rfl ?_) rfl ?_; rotate_left; (repeat (first | exact FillF.nil | refine FillF.cons (by constructor) rfl rfl (by repeat constructor) ?_))) | refine oS (ev_ptr_eql_nil rfl rfl rfl) rfl ?_)
  refine oS (ev_slice_lohi (lo := n - 1) (hi := n) rfl rfl rfl rfl (by omega) hnc) rfl ?_
  refine oN (ev_clear_tail (n := n - 1) (h := n) rfl elPf ones_zPf (by omega) hnc .here) rfl ?_
  rintro _ _ _ _ ⟨rfl, rfl, rfl⟩
  repeat (first | refine jc rfl rfl ?_ | refine jr rfl ?_ | refine jn ?_ | refine oM rfl rfl ?_ | refine oS (ev_pv rfl) rfl ?_ | refine oX rfl ?_ | refine J_cond_t rfl ?_ | refine J_cond_f rfl ?_ | refine oS (eb rfl) rfl ?_ | (refine oS (ev_cmp_t rfl rfl ?_) rfl ?_; (dsimp only [cmpP] <;> omega)) | (refine oS (ev_cmp_f rfl rfl ?_) rfl ?_; (dsimp only [cmpN] <;> omega)) | (refine oS (ea rfl rfl rfl ?_) rfl ?_; (dsimp only [InK]; first | omega | exact ⟨Int.natCast_nonneg _, by omega⟩)) | (refine oS (ed rfl rfl rfl ?_ ?_ ?_) rfl ?_; (first | omega | exact Int.natCast_nonneg _); (first | omega | exact Int.natCast_nonneg _); (dsimp only [InK]; first | omega | exact ⟨Int.natCast_nonneg _, by omega⟩)) | refine oS (ev_fieldAddr rfl rfl) rfl ?_ | (refine oS (ev_conv rfl rfl rfl (wrap_in ?_)) rfl ?_; (dsimp only [InK]; first | omega | exact ⟨Int.natCast_nonneg _, by omega⟩)) | refine oS (ev_bool_eql rfl rfl rfl) rfl ?_ | refine oS (eg rfl rfl rfl) rfl ?_ | (refine jdq rfl rfl ?_ ?_ ?_; kernel_rfl; kernel_rfl) | (refine oS (ev_build (t := ?_) rfl rfl rfl ?_) rfl ?_; rotate_left; (repeat (first | exact FillF.nil | refine FillF.cons (by constructor) rfl rfl (by repeat constructor) ?_))) | refine oS (ev_ptr_eql_nil rfl rfl rfl) rfl ?_)
  exact J_ret1 rfl rfl [_] rfl (PH.ler _) ⟨rfl, rfl, rfl⟩
end Go.Proofs.Ytmicjjhkoicdnaa
