/-
  Proofs let go. Conditions are typed with each.
-/
import Derived.Test.YtmicjjhkoicdnaaJn
namespace Go.Proofs.Ytmicjjhkoicdnaa
open Go.RowKit
set_option maxRecDepth 100000
/-- A row of the call's own, seen shorter. -/
theorem own_cut {g n i c E size : Nat} {xs : List Value} {h : PH} (hi : i ≤ n) (ho : own (.slice (some ⟨g, 0, none⟩) n c) E size n xs h) : own (.slice (some ⟨g, 0, none⟩) i c) E size i (xs.take (i * size)) h := by
  obtain ⟨hl, hB⟩ := ho
  have hm : i * size ≤ n * size := Nat.mul_le_mul_right _ hi
  refine ⟨by rw [List.length_take]; omega, ?_⟩
  rcases hB with ⟨h1, _⟩ | ⟨g', cap, cur, hv, hh, h2, h3, h4, h5⟩
  · cases h1
  · cases hv
    refine .inr ⟨_, _, cur, rfl, hh, by omega, h3, h4, ?_⟩
    rw [← h5, List.take_take, Nat.min_eq_left hm]
theorem Sat.cut {F : PH} {H : List Asrt} {w : World} {g n i c E size : Nat} {xs : List Value} (hi : i ≤ n) (s : Sat F (own (.slice (some ⟨g, 0, none⟩) n c) E size n xs :: H) w) : Sat F (own (.slice (some ⟨g, 0, none⟩) i c) E size i (xs.take (i * size)) :: H) w := by
  obtain ⟨r, ⟨h1, h2, hA, hd, he, hr⟩, k⟩ := s
  exact ⟨r, ⟨h1, h2, own_cut hi hA, hd, he, hr⟩, k⟩
section
variable {C : Ctx} {k : List KItem} {l : Env} {F : PH} {H H' : List Asrt}
theorem oWk {ops : Array Oper} {rest : List Oper} (h : JM C false ops rest k l F H') (hs : ∀ w, Sat F H w → Sat F H' w) : JM C false ops rest k l F H := by
  unfold JM at *
  exact JO_weak h hs
end
theorem rowC_take (K J : List PV) : (rowC PV.cs (K ++ J)).take (K.length * 3) = rowC PV.cs K := by
  rw [rowC_append, ← rowC_len PV.len K, List.take_left]
theorem old_spec (y : PV) (low : Int) (b : Nat) (F : PH) (h : Cells F b 0 [.int .i64 low]) : Pure Try.prog 41 [.agg y.cs.toArray, .pointer (some ⟨b, 0, none⟩)] F (.bool (decide (y.s ≤ low))) := by
  obtain ⟨s, w, a, n, c, es⟩ := y
  refine Spec.of2 Try.func41 rfl rfl fun X w0 => ?_
  unfold PV.cs prC at *
  dsimp only at *
  refine jc rfl rfl ?_
  refine jr rfl ?_
  refine oE (ev_box rfl .agg) rfl ?_; rintro _ _ _ _ ⟨rfl, b1, rfl, rfl⟩
  repeat (first|refine zJ rfl rfl ?_|refine jr rfl ?_|refine jn ?_|refine zM rfl rfl ?_|(refine zC rfl rfl ?_ rfl ?_;omega)|(refine zD rfl rfl ?_ rfl ?_;omega)|(refine zP rfl ?_ rfl ?_;omega)|refine zG rfl rfl rfl rfl ?_|(refine jdq rfl rfl ?_ ?_ ?_;kernel_rfl;kernel_rfl)|refine zB rfl rfl rfl (by repeat constructor) rfl ?_|refine zH .here rfl rfl rfl rfl ?_|refine zH (.there .here) rfl rfl rfl rfl ?_|refine zH (.there (.there .here)) rfl rfl rfl rfl ?_)
  refine oS (ev_load (v := .int .i64 low) rfl rfl (Rdb.ofF (Cells.one h 0 rfl))) rfl ?_
  repeat (first|refine zJ rfl rfl ?_|refine jr rfl ?_|refine jn ?_|refine zM rfl rfl ?_|(refine zC rfl rfl ?_ rfl ?_;omega)|(refine zD rfl rfl ?_ rfl ?_;omega)|(refine zP rfl ?_ rfl ?_;omega)|refine zG rfl rfl rfl rfl ?_|(refine jdq rfl rfl ?_ ?_ ?_;kernel_rfl;kernel_rfl)|refine zB rfl rfl rfl (by repeat constructor) rfl ?_|refine zH .here rfl rfl rfl rfl ?_|refine zH (.there .here) rfl rfl rfl rfl ?_|refine zH (.there (.there .here)) rfl rfl rfl rfl ?_)
  exact J_retv rfl (.tmp rfl .nil) [] (fun w s => s.drop) (PH.ler _) ⟨rfl, rfl⟩
theorem filter_split {α : Type} (h : α → Bool) {A B : List α} {y : α} (hA : ∀ z ∈ A, h z = false) (hy : h y = true) : (A ++ y :: B).filter (fun z => !h z) = A ++ B.filter (fun z => !h z) := by
  rw [List.filter_append, List.filter_cons_of_neg (by rw [hy]; decide), List.filter_eq_self.2 (fun z hz => by rw [hA z hz]; rfl)]
set_option maxHeartbeats 8000000 in
theorem delf_spec (f : FuncId) (caps : List Value) (h : PV → Bool) (v : Value) (L : List PV) (F : PH) (hn : L.length ≤ 1000) (hcall : ∀ args w, (callFunc f args).run Try.prog w = .ok (.enter f args) w)
    (hs : ∀ y : PV, Pure Try.prog f (.agg y.cs.toArray :: caps) F (.bool (h y))) : Spec Try.prog 42 [v, fnV f caps] F [prO v L] fun u F' H' => F = F' ∧ H' = [prO u (L.filter fun y => !h y)] := by
  refine Spec.of2 Try.func42 rfl rfl fun X w0 => ?_
  show J _ _ _ _ (own v 43 3 L.length (rowC PV.cs L) :: X)
  refine jOwnA .here fun a c hv hnc hcm hlen ha => ?_
  subst hv
  repeat (first|refine zJ rfl rfl ?_|refine jr rfl ?_|refine jn ?_|refine zM rfl rfl ?_|(refine zC rfl rfl ?_ rfl ?_;omega)|(refine zD rfl rfl ?_ rfl ?_;omega)|(refine zP rfl ?_ rfl ?_;omega)|refine zG rfl rfl rfl rfl ?_|(refine jdq rfl rfl ?_ ?_ ?_;kernel_rfl;kernel_rfl)|refine zB rfl rfl rfl (by repeat constructor) rfl ?_|refine zH .here rfl rfl rfl rfl ?_|refine zH (.there .here) rfl rfl rfl rfl ?_|refine zH (.there (.there .here)) rfl rfl rfl rfl ?_)
  refine oC (Hc := [own (.slice a L.length c) 43 3 L.length (rowC PV.cs L)]) (Hr := X) (pidx_spec f caps h a L.length c L F rfl (by omega) ha hcall (fun y _ => hs y)) Try.call47 rfl rfl (fun _ s => s) ?_
  rintro _ _ _ _ ⟨rfl, rfl, rfl⟩
  rcases idx_split h L 0 with ⟨e, hno⟩ | ⟨A, y, B, rfl, e, hy, hA⟩
  · rw [e, List.filter_eq_self.2 (fun z hz => by rw [hno z hz]; rfl)]
    repeat (first|refine zJ rfl rfl ?_|refine jr rfl ?_|refine jn ?_|refine zM rfl rfl ?_|(refine zC rfl rfl ?_ rfl ?_;omega)|(refine zD rfl rfl ?_ rfl ?_;omega)|(refine zP rfl ?_ rfl ?_;omega)|refine zG rfl rfl rfl rfl ?_|(refine jdq rfl rfl ?_ ?_ ?_;kernel_rfl;kernel_rfl)|refine zB rfl rfl rfl (by repeat constructor) rfl ?_|refine zH .here rfl rfl rfl rfl ?_|refine zH (.there .here) rfl rfl rfl rfl ?_|refine zH (.there (.there .here)) rfl rfl rfl rfl ?_)
    exact J_retv rfl (.tmp rfl .nil) [own (.slice a L.length c) 43 3 L.length (rowC PV.cs L)] (fun w s => s) (PH.ler _) ⟨rfl, rfl⟩
  rw [filter_split h hA hy, e, Int.zero_add]
  obtain ⟨g, rfl⟩ := ha (by rw [List.length_append, List.length_cons]; omega)
  have hln : A.length + (1 + B.length) = (A ++ y :: B).length := by rw [List.length_append, List.length_cons]; omega
  generalize (A ++ y :: B).length = n at *
  repeat (first|refine zJ rfl rfl ?_|refine jr rfl ?_|refine jn ?_|refine zM rfl rfl ?_|(refine zC rfl rfl ?_ rfl ?_;omega)|(refine zD rfl rfl ?_ rfl ?_;omega)|(refine zP rfl ?_ rfl ?_;omega)|refine zG rfl rfl rfl rfl ?_|(refine jdq rfl rfl ?_ ?_ ?_;kernel_rfl;kernel_rfl)|refine zB rfl rfl rfl (by repeat constructor) rfl ?_|refine zH .here rfl rfl rfl rfl ?_|refine zH (.there .here) rfl rfl rfl rfl ?_|refine zH (.there (.there .here)) rfl rfl rfl rfl ?_)
  refine J_loop (ι := List PV × List PV × List PV) (fun p => p.1.length + (p.2.1.length + p.2.2.length) = n ∧ 0 < p.2.1.length ∧ p.1 ++ p.2.2.filter (fun z => !h z) = A ++ B.filter (fun z => !h z)) (fun p => p.2.2.length) (fun p => [(0, .slice (some ⟨g, 0, none⟩) n c), (1, fnV f caps), (5, .int .i64 p.1.length), (6, .int .i64 (p.1.length + p.2.1.length : Nat))]) (fun _ => F) (fun p => own (.slice (some ⟨g, 0, none⟩) n c) 43 3 n (rowC PV.cs (p.1 ++ (p.2.1 ++ p.2.2))) :: X) (A, [y], B) ⟨hln, Nat.one_pos, rfl⟩
    ⟨⟨rfl, rfl, rfl, rfl, trivial⟩, fun _ s => s⟩ ?_
  rintro ⟨K, Z, R⟩ ⟨hl, hz, heq⟩
  dsimp only at hl hz heq ⊢
  cases R with
  | nil =>
    rw [List.filter_nil, List.append_nil] at heq
    rw [List.length_nil] at hl
    rw [← heq]
    repeat (first|refine zJ rfl rfl ?_|refine jr rfl ?_|refine jn ?_|refine zM rfl rfl ?_|(refine zC rfl rfl ?_ rfl ?_;omega)|(refine zD rfl rfl ?_ rfl ?_;omega)|(refine zP rfl ?_ rfl ?_;omega)|refine zG rfl rfl rfl rfl ?_|(refine jdq rfl rfl ?_ ?_ ?_;kernel_rfl;kernel_rfl)|refine zB rfl rfl rfl (by repeat constructor) rfl ?_|refine zH .here rfl rfl rfl rfl ?_|refine zH (.there .here) rfl rfl rfl rfl ?_|refine zH (.there (.there .here)) rfl rfl rfl rfl ?_)
    refine oS (ev_slice_lo (lo := K.length) rfl rfl rfl (by omega)) rfl ?_
    refine oWk ?_ fun _ s => Sat.cut (i := K.length) (by omega) s
    rw [rowC_take]
    refine oN (ev_clear_tail (n := K.length) (h := n) rfl elPf ones_zPf (by omega) hnc .here) rfl ?_
    rintro _ _ _ _ ⟨rfl, rfl, rfl⟩
    repeat (first|refine zJ rfl rfl ?_|refine jr rfl ?_|refine jn ?_|refine zM rfl rfl ?_|(refine zC rfl rfl ?_ rfl ?_;omega)|(refine zD rfl rfl ?_ rfl ?_;omega)|(refine zP rfl ?_ rfl ?_;omega)|refine zG rfl rfl rfl rfl ?_|(refine jdq rfl rfl ?_ ?_ ?_;kernel_rfl;kernel_rfl)|refine zB rfl rfl rfl (by repeat constructor) rfl ?_|refine zH .here rfl rfl rfl rfl ?_|refine zH (.there .here) rfl rfl rfl rfl ?_|refine zH (.there (.there .here)) rfl rfl rfl rfl ?_)
    refine oS (ev_slice_hi (h := K.length) rfl rfl rfl (by omega)) rfl ?_
    repeat (first|refine zJ rfl rfl ?_|refine jr rfl ?_|refine jn ?_|refine zM rfl rfl ?_|(refine zC rfl rfl ?_ rfl ?_;omega)|(refine zD rfl rfl ?_ rfl ?_;omega)|(refine zP rfl ?_ rfl ?_;omega)|refine zG rfl rfl rfl rfl ?_|(refine jdq rfl rfl ?_ ?_ ?_;kernel_rfl;kernel_rfl)|refine zB rfl rfl rfl (by repeat constructor) rfl ?_|refine zH .here rfl rfl rfl rfl ?_|refine zH (.there .here) rfl rfl rfl rfl ?_|refine zH (.there (.there .here)) rfl rfl rfl rfl ?_)
    exact J_retv rfl (.tmp rfl .nil) [own _ 43 3 K.length (rowC PV.cs K)] (fun w s => s) (PH.ler _) ⟨rfl, rfl⟩
  | cons r R =>
    rw [List.length_cons] at hl
    obtain ⟨z, Z, rfl⟩ : ∃ z Z', Z = z :: Z' := by
      cases Z with
      | nil => cases hz
      | cons z Z => exact ⟨z, Z, rfl⟩
    have g1 : (K ++ (z :: Z ++ r :: R))[K.length + (z :: Z).length]? = some r := get_at (P := K ++ z :: Z) (Q := R) (by simp) (by simp)
    have s1 : (K ++ (z :: Z ++ r :: R)).set K.length r = (K ++ [r]) ++ ((Z ++ [r]) ++ R) := by rw [List.cons_append, set_mid K z r _]; simp
    have hcl := hs r
    have hLl : (K ++ (z :: Z ++ r :: R)).length = n := by simp only [List.length_append, List.length_cons] at hl ⊢; omega
    rw [List.length_cons] at hl
    have hzl : (z :: Z).length = Z.length + 1 := List.length_cons
    repeat (first|refine zJ rfl rfl ?_|refine jr rfl ?_|refine jn ?_|refine zM rfl rfl ?_|(refine zC rfl rfl ?_ rfl ?_;omega)|(refine zD rfl rfl ?_ rfl ?_;omega)|(refine zP rfl ?_ rfl ?_;omega)|refine zG rfl rfl rfl rfl ?_|(refine jdq rfl rfl ?_ ?_ ?_;kernel_rfl;kernel_rfl)|refine zB rfl rfl rfl (by repeat constructor) rfl ?_|refine zH .here rfl rfl rfl rfl ?_|refine zH (.there .here) rfl rfl rfl rfl ?_|refine zH (.there (.there .here)) rfl rfl rfl rfl ?_)
    refine oS (ev_indexAddr (n := n) (i := K.length + (z :: Z).length) rfl rfl rfl (by simp only [List.length_cons]; omega)) rfl ?_
    refine oS (ev_load_agg (cs := r.cs) rfl rfl (rdb_row .here PV.len g1) r.len) rfl ?_
    refine oE (ev_alloc (cs := zPf) rfl) rfl ?_
    rintro _ _ _ _ ⟨rfl, b7, rfl, rfl⟩
    repeat (first|refine zJ rfl rfl ?_|refine jr rfl ?_|refine jn ?_|refine zM rfl rfl ?_|(refine zC rfl rfl ?_ rfl ?_;omega)|(refine zD rfl rfl ?_ rfl ?_;omega)|(refine zP rfl ?_ rfl ?_;omega)|refine zG rfl rfl rfl rfl ?_|(refine jdq rfl rfl ?_ ?_ ?_;kernel_rfl;kernel_rfl)|refine zB rfl rfl rfl (by repeat constructor) rfl ?_|refine zH .here rfl rfl rfl rfl ?_|refine zH (.there .here) rfl rfl rfl rfl ?_|refine zH (.there (.there .here)) rfl rfl rfl rfl ?_)
    refine oN (ev_store (b := b7) (off := 0) rfl rfl .agg rfl r.len (lay_all (zs := zPf) rfl) r.ones .here) rfl ?_
    rintro _ _ _ _ ⟨rfl, rfl, rfl⟩
    repeat (first|refine zJ rfl rfl ?_|refine jr rfl ?_|refine jn ?_|refine zM rfl rfl ?_|(refine zC rfl rfl ?_ rfl ?_;omega)|(refine zD rfl rfl ?_ rfl ?_;omega)|(refine zP rfl ?_ rfl ?_;omega)|refine zG rfl rfl rfl rfl ?_|(refine jdq rfl rfl ?_ ?_ ?_;kernel_rfl;kernel_rfl)|refine zB rfl rfl rfl (by repeat constructor) rfl ?_|refine zH .here rfl rfl rfl rfl ?_|refine zH (.there .here) rfl rfl rfl rfl ?_|refine zH (.there (.there .here)) rfl rfl rfl rfl ?_)
    refine oS (ev_load_agg (cs := r.cs) rfl rfl (Rdb.ofB (n := 0) .here rfl) r.len) rfl ?_
    refine oPF rfl hcl hcall rfl rfl ?_
    cases hr : h r with
    | true =>
      rw [List.filter_cons_of_neg (by rw [hr]; decide)] at heq
      repeat (first|refine zJ rfl rfl ?_|refine jr rfl ?_|refine jn ?_|refine zM rfl rfl ?_|(refine zC rfl rfl ?_ rfl ?_;omega)|(refine zD rfl rfl ?_ rfl ?_;omega)|(refine zP rfl ?_ rfl ?_;omega)|refine zG rfl rfl rfl rfl ?_|(refine jdq rfl rfl ?_ ?_ ?_;kernel_rfl;kernel_rfl)|refine zB rfl rfl rfl (by repeat constructor) rfl ?_|refine zH .here rfl rfl rfl rfl ?_|refine zH (.there .here) rfl rfl rfl rfl ?_|refine zH (.there (.there .here)) rfl rfl rfl rfl ?_)
      refine J_again (K, z :: Z ++ [r], R) ⟨by dsimp only; simp only [List.length_append, List.length_cons, List.length_nil]; omega, by dsimp only; simp, heq⟩ (by dsimp only; rw [List.length_cons]; omega) ⟨⟨rfl, rfl, rfl, ?_, trivial⟩, fun w s => ?_⟩
      · dsimp only
        rw [List.length_append]
        rfl
      · dsimp only
        rw [List.append_assoc (z :: Z)]
        exact s.drop
    | false =>
      rw [List.filter_cons_of_pos (by rw [hr]; rfl)] at heq
      repeat (first|refine zJ rfl rfl ?_|refine jr rfl ?_|refine jn ?_|refine zM rfl rfl ?_|(refine zC rfl rfl ?_ rfl ?_;omega)|(refine zD rfl rfl ?_ rfl ?_;omega)|(refine zP rfl ?_ rfl ?_;omega)|refine zG rfl rfl rfl rfl ?_|(refine jdq rfl rfl ?_ ?_ ?_;kernel_rfl;kernel_rfl)|refine zB rfl rfl rfl (by repeat constructor) rfl ?_|refine zH .here rfl rfl rfl rfl ?_|refine zH (.there .here) rfl rfl rfl rfl ?_|refine zH (.there (.there .here)) rfl rfl rfl rfl ?_)
      refine oS (ev_load_agg (cs := r.cs) rfl rfl (Rdb.ofB (n := 0) .here rfl) r.len) rfl ?_
      refine oS (ev_indexAddr (n := n) (i := K.length) rfl rfl rfl (by omega)) rfl ?_
      refine oN (ev_store_own rfl rfl .agg rfl r.len (by rw [Nat.zero_add]; exact lay_row PV.len r _ K.length (by omega)) r.ones (.there .here)) rfl ?_
      rintro _ _ _ _ ⟨rfl, _, rfl⟩
      rw [s1]
      repeat (first|refine zJ rfl rfl ?_|refine jr rfl ?_|refine jn ?_|refine zM rfl rfl ?_|(refine zC rfl rfl ?_ rfl ?_;omega)|(refine zD rfl rfl ?_ rfl ?_;omega)|(refine zP rfl ?_ rfl ?_;omega)|refine zG rfl rfl rfl rfl ?_|(refine jdq rfl rfl ?_ ?_ ?_;kernel_rfl;kernel_rfl)|refine zB rfl rfl rfl (by repeat constructor) rfl ?_|refine zH .here rfl rfl rfl rfl ?_|refine zH (.there .here) rfl rfl rfl rfl ?_|refine zH (.there (.there .here)) rfl rfl rfl rfl ?_)
      refine J_again (K ++ [r], Z ++ [r], R) ⟨by dsimp only; simp only [List.length_append, List.length_cons, List.length_nil]; omega, by dsimp only; simp, by dsimp only; rw [← heq]; simp⟩ (by dsimp only; rw [List.length_cons]; omega) ⟨⟨rfl, rfl, ?_, ?_, trivial⟩, fun w s => s.drop⟩
      · dsimp only
        rw [List.length_append]
        rfl
      · dsimp only
        rw [show (K ++ [r]).length + (Z ++ [r]).length = K.length + (z :: Z).length + 1 from by simp only [List.length_append, List.length_cons, List.length_nil]; omega]
        rfl
set_option maxHeartbeats 4000000 in
theorem move_spec (b : Nat) (v1 v2 : Value) (low : Int) (L M : List PV) (F : PH) (hL : L.length ≤ 1000) (hM : M.length ≤ 1000) :
    Spec Try.prog 21 [.pointer (some ⟨b, 0, none⟩), .int .i64 low] F [blk b 66 [v1, v2], prO v1 L, prO v2 M] fun _ F' H' => ∃ v1' v2', H' = [blk b 66 [v1', v2'], prO v1' (L.filter fun y => !decide (y.s ≤ low)), prO v2' (M.filter fun y => !decide (y.s ≤ low))] := by
  refine Spec.of2 Try.func21 rfl rfl fun X w0 => ?_
  show J _ _ _ _ (blk b 66 [v1, v2] :: prO v1 L :: prO v2 M :: X)
  refine jc rfl rfl ?_
  refine jr rfl ?_
  refine oE (ev_box rfl .int) rfl ?_
  rintro _ _ _ _ ⟨rfl, b3, rfl, rfl⟩
  refine oPersist fun hh hA hd => ?_
  have h3 := blk_cells hA hd
  have hF1 := PH.le_l F hh
  generalize F.un hh = F1 at *
  repeat (first|refine zJ rfl rfl ?_|refine jr rfl ?_|refine jn ?_|refine zM rfl rfl ?_|(refine zC rfl rfl ?_ rfl ?_;omega)|(refine zD rfl rfl ?_ rfl ?_;omega)|(refine zP rfl ?_ rfl ?_;omega)|refine zG rfl rfl rfl rfl ?_|(refine jdq rfl rfl ?_ ?_ ?_;kernel_rfl;kernel_rfl)|refine zB rfl rfl rfl (by repeat constructor) rfl ?_|refine zH .here rfl rfl rfl rfl ?_|refine zH (.there .here) rfl rfl rfl rfl ?_|refine zH (.there (.there .here)) rfl rfl rfl rfl ?_)
  refine oS (ev_makeFunc (vs := [.pointer (some ⟨b3, 0, none⟩)]) rfl) rfl ?_
  repeat (first|refine zJ rfl rfl ?_|refine jr rfl ?_|refine jn ?_|refine zM rfl rfl ?_|(refine zC rfl rfl ?_ rfl ?_;omega)|(refine zD rfl rfl ?_ rfl ?_;omega)|(refine zP rfl ?_ rfl ?_;omega)|refine zG rfl rfl rfl rfl ?_|(refine jdq rfl rfl ?_ ?_ ?_;kernel_rfl;kernel_rfl)|refine zB rfl rfl rfl (by repeat constructor) rfl ?_|refine zH .here rfl rfl rfl rfl ?_|refine zH (.there .here) rfl rfl rfl rfl ?_|refine zH (.there (.there .here)) rfl rfl rfl rfl ?_)
  refine oC (Hc := [prO v1 L]) (Hr := blk b 66 [v1, v2] :: prO v2 M :: X) (delf_spec 41 [.pointer (some ⟨b3, 0, none⟩)] (fun y => decide (y.s ≤ low)) v1 L F1 hL Try.call41 (fun y => old_spec y low b3 F1 h3)) Try.call42 rfl rfl (fun _ s => s.pm 2 [1, 0] rfl rfl) ?_
  rintro u1 _ _ _ ⟨rfl, rfl⟩
  refine oOwnA .here fun a1 c1 hu1 _ _ _ _ => ?_
  subst hu1
  repeat (first|refine zJ rfl rfl ?_|refine jr rfl ?_|refine jn ?_|refine zM rfl rfl ?_|(refine zC rfl rfl ?_ rfl ?_;omega)|(refine zD rfl rfl ?_ rfl ?_;omega)|(refine zP rfl ?_ rfl ?_;omega)|refine zG rfl rfl rfl rfl ?_|(refine jdq rfl rfl ?_ ?_ ?_;kernel_rfl;kernel_rfl)|refine zB rfl rfl rfl (by repeat constructor) rfl ?_|refine zH .here rfl rfl rfl rfl ?_|refine zH (.there .here) rfl rfl rfl rfl ?_|refine zH (.there (.there .here)) rfl rfl rfl rfl ?_)
  generalize hL' : (L.filter fun y => !decide (y.s ≤ low)) = L' at *
  refine oN (ev_store (b := b) (off := 0 + 0) (vs := [.slice a1 L'.length c1]) rfl rfl (by constructor) rfl rfl (s := [.slice a1 L'.length c1, v2]) (.put .nil) (ones_cons rfl ones_nil) (.there .here)) rfl ?_
  rintro _ _ _ _ ⟨rfl, rfl, rfl⟩
  refine oWk ?_ fun _ s => s.pm 3 [1, 0, 2] rfl rfl
  repeat (first|refine zJ rfl rfl ?_|refine jr rfl ?_|refine jn ?_|refine zM rfl rfl ?_|(refine zC rfl rfl ?_ rfl ?_;omega)|(refine zD rfl rfl ?_ rfl ?_;omega)|(refine zP rfl ?_ rfl ?_;omega)|refine zG rfl rfl rfl rfl ?_|(refine jdq rfl rfl ?_ ?_ ?_;kernel_rfl;kernel_rfl)|refine zB rfl rfl rfl (by repeat constructor) rfl ?_|refine zH .here rfl rfl rfl rfl ?_|refine zH (.there .here) rfl rfl rfl rfl ?_|refine zH (.there (.there .here)) rfl rfl rfl rfl ?_)
  refine oC (Hc := [prO v2 M]) (Hr := blk b 66 [.slice a1 L'.length c1, v2] :: prO (.slice a1 L'.length c1) L' :: X) (delf_spec 41 [.pointer (some ⟨b3, 0, none⟩)] (fun y => decide (y.s ≤ low)) v2 M F1 hM Try.call41 (fun y => old_spec y low b3 F1 h3)) Try.call42 rfl rfl (fun _ s => s.pm 3 [2, 0, 1] rfl rfl) ?_
  rintro u2 _ _ _ ⟨rfl, rfl⟩
  refine oOwnA .here fun a2 c2 hu2 _ _ _ _ => ?_
  subst hu2
  generalize hM' : (M.filter fun y => !decide (y.s ≤ low)) = M' at *
  repeat (first|refine zJ rfl rfl ?_|refine jr rfl ?_|refine jn ?_|refine zM rfl rfl ?_|(refine zC rfl rfl ?_ rfl ?_;omega)|(refine zD rfl rfl ?_ rfl ?_;omega)|(refine zP rfl ?_ rfl ?_;omega)|refine zG rfl rfl rfl rfl ?_|(refine jdq rfl rfl ?_ ?_ ?_;kernel_rfl;kernel_rfl)|refine zB rfl rfl rfl (by repeat constructor) rfl ?_|refine zH .here rfl rfl rfl rfl ?_|refine zH (.there .here) rfl rfl rfl rfl ?_|refine zH (.there (.there .here)) rfl rfl rfl rfl ?_)
  refine oN (ev_store (b := b) (off := 0 + 1) (vs := [.slice a2 M'.length c2]) rfl rfl (by constructor) rfl rfl (s := [.slice a1 L'.length c1, .slice a2 M'.length c2]) (.skip (.put .nil)) (ones_cons rfl ones_nil) (.there .here)) rfl ?_
  rintro _ _ _ _ ⟨rfl, rfl, rfl⟩
  repeat (first|refine zJ rfl rfl ?_|refine jr rfl ?_|refine jn ?_|refine zM rfl rfl ?_|(refine zC rfl rfl ?_ rfl ?_;omega)|(refine zD rfl rfl ?_ rfl ?_;omega)|(refine zP rfl ?_ rfl ?_;omega)|refine zG rfl rfl rfl rfl ?_|(refine jdq rfl rfl ?_ ?_ ?_;kernel_rfl;kernel_rfl)|refine zB rfl rfl rfl (by repeat constructor) rfl ?_|refine zH .here rfl rfl rfl rfl ?_|refine zH (.there .here) rfl rfl rfl rfl ?_|refine zH (.there (.there .here)) rfl rfl rfl rfl ?_)
  refine zE rfl ?_
  exact J_end (X := X) rfl [blk b 66 [.slice a1 L'.length c1, .slice a2 M'.length c2], prO _ L', prO _ M'] (fun w s => s.pm 3 [1, 2, 0] rfl rfl) hF1 ⟨_, _, rfl⟩
end Go.Proofs.Ytmicjjhkoicdnaa
