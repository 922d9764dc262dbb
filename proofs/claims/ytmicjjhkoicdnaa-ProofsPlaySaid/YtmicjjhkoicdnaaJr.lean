/-
  The document's rows of proofs. Conditions are typed with each.
  What the document keeps of what was prepared. Conditions are typed with each.
  The document's sameness of rows of proofs. Conditions are typed with each.
  No proofs at all: nil receivers. Conditions are typed with each.
  What the document lets go. Conditions are typed with each.
-/
import Derived.Test.YtmicjjhkoicdnaaJq
import Derived.Test.YtmicjjhkoicdnaaLi
namespace Go.Proofs.Ytmicjjhkoicdnaa
open Go.RowKit
set_option maxRecDepth 100000
theorem rowC_drop (A : List PV) (y : PV) (B : List PV) : (rowC PV.cs (A ++ y :: B)).drop ((A.length + 1) * 3) = rowC PV.cs B := by
  have e : (rowC PV.cs (A ++ [y])).length = (A.length + 1) * 3 := by rw [rowC_len PV.len, List.length_append, List.length_singleton]
  rw [show A ++ y :: B = (A ++ [y]) ++ B from by simp, rowC_append, ← e, List.drop_left]
set_option maxHeartbeats 4000000 in
theorem without_spec (v : Value) (A : List PV) (y : PV) (B : List PV) (F : PH) (hn : (A ++ y :: B).length ≤ 1000) : Spec Try.prog 39 [v, .int .i64 A.length] F [prO v (A ++ y :: B)] fun u F' H' => F = F' ∧ H' = [prO u (A ++ B), prO v (A ++ y :: B)] := by
  refine Spec.of2 Try.func39 rfl rfl fun X w0 => ?_
  show J _ _ _ _ (own v 43 3 (A ++ y :: B).length (rowC PV.cs (A ++ y :: B)) :: X)
  refine jOwnA .here fun a c hv hnc hcm hlen ha => ?_
  subst hv
  obtain ⟨g, rfl⟩ := ha (by rw [List.length_append, List.length_cons]; omega)
  have hAl : A.length + (B.length + 1) = (A ++ y :: B).length := by rw [List.length_append, List.length_cons]
  have e1 := rowC_take A (y :: B)
  have e2 := rowC_drop A y B
  generalize (A ++ y :: B).length = n at *
  repeat (first|refine zJ rfl rfl ?_|refine jr rfl ?_|refine jn ?_|refine zM rfl rfl ?_|(refine zC rfl rfl ?_ rfl ?_;omega)|(refine zD rfl rfl ?_ rfl ?_;omega)|(refine zP rfl ?_ rfl ?_;omega)|refine zG rfl rfl rfl rfl ?_|(refine jdq rfl rfl ?_ ?_ ?_;kernel_rfl;kernel_rfl)|refine zB rfl rfl rfl (by repeat constructor) rfl ?_|refine zH .here rfl rfl rfl rfl ?_|refine zH (.there .here) rfl rfl rfl rfl ?_|refine zH (.there (.there .here)) rfl rfl rfl rfl ?_)
  refine ja F [] ?_ (fun w s => s.bare) ?_; kernel_rfl
  refine aT 1 rfl (ev_pv rfl) rfl rfl ?_ ?_ ?_ ?_; kernel_rfl; kernel_rfl; kernel_rfl
  refine aT 2 rfl (ev_pv rfl) rfl rfl ?_ ?_ ?_ ?_; kernel_rfl; kernel_rfl; kernel_rfl
  refine aT 3 rfl (ev_slice_hi (h := A.length) rfl rfl rfl (by omega)) rfl rfl ?_ ?_ ?_ ?_; kernel_rfl; kernel_rfl; kernel_rfl
  refine aT 5 rfl (ev_pv rfl) rfl rfl ?_ ?_ ?_ ?_; kernel_rfl; kernel_rfl; kernel_rfl
  refine aT 6 rfl (ev_pv rfl) rfl rfl ?_ ?_ ?_ ?_; kernel_rfl; kernel_rfl; kernel_rfl
  refine aT 7 rfl (ea rfl rfl rfl (by dsimp only [InK]; omega)) rfl rfl ?_ ?_ ?_ ?_; kernel_rfl; kernel_rfl; kernel_rfl
  refine aT 8 rfl (ev_slice_lo (n := n) (lo := A.length + 1) rfl rfl rfl (by omega)) rfl rfl ?_ ?_ ?_ ?_; kernel_rfl; kernel_rfl; kernel_rfl
  refine aB (i := 0) (by kernel_rfl) (aE rfl (ev_mt elPf) rfl rfl ?_ ?_)
  · rintro _ _ _ _ ⟨rfl, _, rfl⟩ w s
    exact s.bare
  rintro _ _ _ _ ⟨rfl, ⟨bt, rfl⟩, rfl⟩
  refine aB (i := 4) (by kernel_rfl) (aE rfl (ev_append_s (n := 0) (m := A.length) (xs := []) (news := rowC PV.cs A) (K := fun v' => own v' 43 3 (0 + A.length) (rowC PV.cs A) :: own (.slice (some ⟨g, 0, none⟩) n c) 43 3 n (rowC PV.cs (A ++ y :: B)) :: X) rfl rfl elPf (by rw [← e1]; exact rds_hi (.there .here) hnc hlen (by omega)) (rowC_ones A) (by omega) (fun v' => .here)) rfl rfl ?_ ?_)
  · rintro _ _ _ _ ⟨rfl, _, rfl⟩ w s
    exact s.bare
  rintro u1 _ _ _ ⟨rfl, _, rfl⟩
  refine aB (i := 9) (by kernel_rfl) (aE rfl (ev_append_s (n := 0 + A.length) (m := n - (A.length + 1)) (xs := rowC PV.cs A) (news := rowC PV.cs B) (K := fun v' => own v' 43 3 (0 + A.length + (n - (A.length + 1))) (rowC PV.cs A ++ rowC PV.cs B) :: own (.slice (some ⟨g, 0, none⟩) n c) 43 3 n (rowC PV.cs (A ++ y :: B)) :: X) rfl rfl elPf (by rw [← e2]; exact rds_lo (.there .here) hnc hlen (by omega)) (rowC_ones B) (by omega) (fun v' => .here)) rfl rfl ?_ ?_)
  · rintro _ _ _ _ ⟨rfl, _, rfl⟩ w s
    exact s.bare
  rintro u2 _ _ _ ⟨rfl, _, rfl⟩
  refine aT 10 rfl (ev_pv rfl) rfl rfl ?_ ?_ ?_ ?_; kernel_rfl; kernel_rfl; kernel_rfl
  refine aD (by kernel_rfl) ?_
  repeat (first|refine zJ rfl rfl ?_|refine jr rfl ?_|refine jn ?_|refine zM rfl rfl ?_|(refine zC rfl rfl ?_ rfl ?_;omega)|(refine zD rfl rfl ?_ rfl ?_;omega)|(refine zP rfl ?_ rfl ?_;omega)|refine zG rfl rfl rfl rfl ?_|(refine jdq rfl rfl ?_ ?_ ?_;kernel_rfl;kernel_rfl)|refine zB rfl rfl rfl (by repeat constructor) rfl ?_|refine zH .here rfl rfl rfl rfl ?_|refine zH (.there .here) rfl rfl rfl rfl ?_|refine zH (.there (.there .here)) rfl rfl rfl rfl ?_)
  refine J_retv (vs := [u2]) rfl (.tmp rfl .nil) [prO u2 (A ++ B), own (.slice (some ⟨g, 0, none⟩) n c) 43 3 n (rowC PV.cs (A ++ y :: B))] (fun w s => ?_) (PH.ler _) ⟨rfl, ?_⟩
  · unfold prO
    rw [rowC_append, show (A ++ B).length = 0 + A.length + (n - (A.length + 1)) from by rw [List.length_append]; omega]
    exact s
  · unfold prO
    rw [show (A ++ y :: B).length = n from by rw [List.length_append, List.length_cons]; omega]
    rfl
/-- A row of proofs, kept for good. -/
def PvRow (F : PH) (v : Value) (L : List PV) : Prop := SliceV F 3 v L.length (rowC PV.cs L)
theorem PvRow.mono {F G : PH} {v : Value} {L : List PV} (h : PvRow F v L) (hl : F.le G) : PvRow G v L := SliceV.mono h hl
theorem PvRow.nil (F : PH) : PvRow F (.slice none 0 0) [] := SliceV.nil F 3
theorem PvRow.of {F hh : PH} {v : Value} {L : List PV} (ho : prO v L hh) (hd : F.dj hh) : PvRow (F.un hh) v L := own_slice ho hd
set_option maxHeartbeats 4000000 in
theorem withoutF_spec (v : Value) (A : List PV) (y : PV) (B : List PV) (F : PH) (hn : (A ++ y :: B).length ≤ 1000) (hr : PvRow F v (A ++ y :: B)) : Spec Try.prog 39 [v, .int .i64 A.length] F [] fun u F' H' => F = F' ∧ H' = [prO u (A ++ B)] := by
  refine Spec.of2 Try.func39 rfl rfl fun X w0 => ?_
  unfold PvRow at hr
  obtain ⟨_, a, c, hv, hnc, _⟩ := id hr
  subst hv
  have hAl : A.length + (B.length + 1) = (A ++ y :: B).length := by rw [List.length_append, List.length_cons]
  have hpre := SliceV.pre (k := A.length) (css := (A ++ y :: B).map PV.cs) hr (fun c hc => by obtain ⟨q, _, rfl⟩ := List.mem_map.1 hc; exact q.len) (by omega) (by rw [List.length_map])
  have hpre : SliceV F 3 (.slice a A.length c) A.length (rowC PV.cs A) := by
    rw [← List.map_take, List.take_left] at hpre
    exact hpre
  have hsuf := SliceV.cut hr (lo := A.length + 1) (hi := (A ++ y :: B).length) (m := c) (by omega) (Nat.le_refl _) hnc
  rw [rowC_drop, List.take_of_length_le (by rw [rowC_len PV.len]; omega)] at hsuf
  generalize (A ++ y :: B).length = n at *
  repeat (first|refine zJ rfl rfl ?_|refine jr rfl ?_|refine jn ?_|refine zM rfl rfl ?_|(refine zC rfl rfl ?_ rfl ?_;omega)|(refine zD rfl rfl ?_ rfl ?_;omega)|(refine zP rfl ?_ rfl ?_;omega)|refine zG rfl rfl rfl rfl ?_|(refine jdq rfl rfl ?_ ?_ ?_;kernel_rfl;kernel_rfl)|refine zB rfl rfl rfl (by repeat constructor) rfl ?_|refine zH .here rfl rfl rfl rfl ?_|refine zH (.there .here) rfl rfl rfl rfl ?_|refine zH (.there (.there .here)) rfl rfl rfl rfl ?_)
  refine ja F [] ?_ (fun w s => s.bare) ?_; kernel_rfl
  refine aT 1 rfl (ev_pv rfl) rfl rfl ?_ ?_ ?_ ?_; kernel_rfl; kernel_rfl; kernel_rfl
  refine aT 2 rfl (ev_pv rfl) rfl rfl ?_ ?_ ?_ ?_; kernel_rfl; kernel_rfl; kernel_rfl
  refine aT 3 rfl (ev_slice_hi (h := A.length) rfl rfl rfl (by omega)) rfl rfl ?_ ?_ ?_ ?_; kernel_rfl; kernel_rfl; kernel_rfl
  refine aT 5 rfl (ev_pv rfl) rfl rfl ?_ ?_ ?_ ?_; kernel_rfl; kernel_rfl; kernel_rfl
  refine aT 6 rfl (ev_pv rfl) rfl rfl ?_ ?_ ?_ ?_; kernel_rfl; kernel_rfl; kernel_rfl
  refine aT 7 rfl (ea rfl rfl rfl (by dsimp only [InK]; omega)) rfl rfl ?_ ?_ ?_ ?_; kernel_rfl; kernel_rfl; kernel_rfl
  refine aT 8 rfl (ev_slice_lo (n := n) (lo := A.length + 1) rfl rfl rfl (by omega)) rfl rfl ?_ ?_ ?_ ?_; kernel_rfl; kernel_rfl; kernel_rfl
  refine aB (i := 0) (by kernel_rfl) (aE rfl (ev_mt elPf) rfl rfl ?_ ?_)
  · rintro _ _ _ _ ⟨rfl, _, rfl⟩ w s
    exact s.bare
  rintro _ _ _ _ ⟨rfl, ⟨bt, rfl⟩, rfl⟩
  refine aB (i := 4) (by kernel_rfl) (aE rfl (ev_append_s (n := 0) (m := A.length) (xs := []) (news := rowC PV.cs A) (K := fun v' => own v' 43 3 (0 + A.length) (rowC PV.cs A) :: X) rfl rfl elPf hpre.rds (rowC_ones A) (by omega) (fun v' => .here)) rfl rfl ?_ ?_)
  · rintro _ _ _ _ ⟨rfl, _, rfl⟩ w s
    exact s.bare
  rintro u1 _ _ _ ⟨rfl, _, rfl⟩
  refine aB (i := 9) (by kernel_rfl) (aE rfl (ev_append_s (n := 0 + A.length) (m := n - (A.length + 1)) (xs := rowC PV.cs A) (news := rowC PV.cs B) (K := fun v' => own v' 43 3 (0 + A.length + (n - (A.length + 1))) (rowC PV.cs A ++ rowC PV.cs B) :: X) rfl rfl elPf hsuf.rds (rowC_ones B) (by omega) (fun v' => .here)) rfl rfl ?_ ?_)
  · rintro _ _ _ _ ⟨rfl, _, rfl⟩ w s
    exact s.bare
  rintro u2 _ _ _ ⟨rfl, _, rfl⟩
  refine aT 10 rfl (ev_pv rfl) rfl rfl ?_ ?_ ?_ ?_; kernel_rfl; kernel_rfl; kernel_rfl
  refine aD (by kernel_rfl) ?_
  repeat (first|refine zJ rfl rfl ?_|refine jr rfl ?_|refine jn ?_|refine zM rfl rfl ?_|(refine zC rfl rfl ?_ rfl ?_;omega)|(refine zD rfl rfl ?_ rfl ?_;omega)|(refine zP rfl ?_ rfl ?_;omega)|refine zG rfl rfl rfl rfl ?_|(refine jdq rfl rfl ?_ ?_ ?_;kernel_rfl;kernel_rfl)|refine zB rfl rfl rfl (by repeat constructor) rfl ?_|refine zH .here rfl rfl rfl rfl ?_|refine zH (.there .here) rfl rfl rfl rfl ?_|refine zH (.there (.there .here)) rfl rfl rfl rfl ?_)
  refine J_retv (vs := [u2]) rfl (.tmp rfl .nil) [prO u2 (A ++ B)] (fun w s => ?_) (PH.ler _) ⟨rfl, rfl⟩
  unfold prO
  rw [rowC_append, show (A ++ B).length = 0 + A.length + (n - (A.length + 1)) from by rw [List.length_append]; omega]
  exact s
end Go.Proofs.Ytmicjjhkoicdnaa
namespace Go.Proofs.Ytmicjjhkoicdnaa
open Go.RowKit
set_option maxRecDepth 100000
set_option maxHeartbeats 8000000 in
theorem rprep_spec (b : Nat) (v1 v2 : Value) (L : List PV) (x : PV) (F : PH) (hn : L.length ≤ 900) (hL : ∀ y ∈ L, y.Ok F) (hx : x.Ok F) (hr : PvRow F v1 L) :
    Spec Try.prog 19 [.pointer (some ⟨b, 0, none⟩), .agg x.cs.toArray] F [blk b 50 [v1, v2]] fun _ F' H' => ∃ v' L', H' = [blk b 50 [v', v2]] ∧ PvRow F' v' L' ∧ (∀ y ∈ L', y.Ok F') ∧ L'.map PV.key = newerP (seqP x.key) (L.map PV.key) x.key := by
  refine Spec.of2 Try.func19 rfl rfl fun X w0 => ?_
  show J _ _ _ _ (blk b 50 [v1, v2] :: X)
  obtain ⟨hl0, a, c, hv, hnc, hcell⟩ := id hr
  subst hv
  refine jc rfl rfl ?_
  refine jr rfl ?_
  refine oE (ev_box rfl .agg) rfl ?_; rintro _ _ _ _ ⟨rfl, b3, rfl, rfl⟩
  repeat (first|refine zJ rfl rfl ?_|refine jr rfl ?_|refine jn ?_|refine zM rfl rfl ?_|(refine zC rfl rfl ?_ rfl ?_;omega)|(refine zD rfl rfl ?_ rfl ?_;omega)|(refine zP rfl ?_ rfl ?_;omega)|refine zG rfl rfl rfl rfl ?_|(refine jdq rfl rfl ?_ ?_ ?_;kernel_rfl;kernel_rfl)|refine zB rfl rfl rfl (by repeat constructor) rfl ?_|refine zH .here rfl rfl rfl rfl ?_|refine zH (.there .here) rfl rfl rfl rfl ?_|refine zH (.there (.there .here)) rfl rfl rfl rfl ?_)
  refine J_loop (ι := Nat) (fun i => i ≤ L.length ∧ ∀ z ∈ L.take i, z.s ≠ x.s) (fun i => L.length - i) (fun i => [(0, .pointer (some ⟨b, 0, none⟩)), (3, .pointer (some ⟨b3, 0, none⟩)), (9, .slice a L.length c), (10, .int .i64 L.length), (11, .int .i64 i)]) (fun _ => F) (fun _ => blk b3 43 x.cs :: blk b 50 [.slice a L.length c, v2] :: X) 0 ⟨Nat.zero_le _, fun z h => absurd h (by simp)⟩ ⟨⟨rfl, rfl, rfl, rfl, rfl, trivial⟩, fun w s => s⟩ ?_
  rintro i ⟨hi, hno⟩
  by_cases hlt : i < L.length
  · have g1 : L[i]? = some L[i] := List.getElem?_eq_getElem hlt
    have htk : L.take (i + 1) = L.take i ++ [L[i]] := List.take_succ_eq_append_getElem hlt
    have hcut : L = L.take i ++ L[i] :: L.drop (i + 1) := by rw [← List.drop_eq_getElem_cons, List.take_append_drop]
    generalize L[i] = y at *
    obtain ⟨g, off, rfl, hc⟩ := SliceV.row (css := L.map PV.cs) (i := i) (r := y.cs) hr (fun c hc => by obtain ⟨q, _, rfl⟩ := List.mem_map.1 hc; exact q.len) (by rw [List.getElem?_map, g1]; rfl) hlt
    repeat (first|refine zJ rfl rfl ?_|refine jr rfl ?_|refine jn ?_|refine zM rfl rfl ?_|(refine zC rfl rfl ?_ rfl ?_;omega)|(refine zD rfl rfl ?_ rfl ?_;omega)|(refine zP rfl ?_ rfl ?_;omega)|refine zG rfl rfl rfl rfl ?_|(refine jdq rfl rfl ?_ ?_ ?_;kernel_rfl;kernel_rfl)|refine zB rfl rfl rfl (by repeat constructor) rfl ?_|refine zH .here rfl rfl rfl rfl ?_|refine zH (.there .here) rfl rfl rfl rfl ?_|refine zH (.there (.there .here)) rfl rfl rfl rfl ?_)
    refine oS (ev_indexAddr (i := i) rfl rfl rfl hlt) rfl ?_
    refine oS (ev_load_agg (cs := y.cs) rfl rfl (Rdb.ofF hc) y.len) rfl ?_
    refine oE (ev_alloc (cs := zPf) rfl) rfl ?_
    rintro _ _ _ _ ⟨rfl, b5, rfl, rfl⟩
    repeat (first|refine zJ rfl rfl ?_|refine jr rfl ?_|refine jn ?_|refine zM rfl rfl ?_|(refine zC rfl rfl ?_ rfl ?_;omega)|(refine zD rfl rfl ?_ rfl ?_;omega)|(refine zP rfl ?_ rfl ?_;omega)|refine zG rfl rfl rfl rfl ?_|(refine jdq rfl rfl ?_ ?_ ?_;kernel_rfl;kernel_rfl)|refine zB rfl rfl rfl (by repeat constructor) rfl ?_|refine zH .here rfl rfl rfl rfl ?_|refine zH (.there .here) rfl rfl rfl rfl ?_|refine zH (.there (.there .here)) rfl rfl rfl rfl ?_)
    refine oN (ev_store (b := b5) (off := 0) rfl rfl .agg rfl y.len (lay_all (zs := zPf) rfl) y.ones .here) rfl ?_
    rintro _ _ _ _ ⟨rfl, rfl, rfl⟩
    by_cases hs : y.s = x.s
    · obtain ⟨A, B, rfl, rfl⟩ : ∃ A B, L = A ++ y :: B ∧ A.length = i := ⟨_, _, hcut, by rw [List.length_take]; omega⟩
      rw [List.take_left] at hno
      have hkey : newerP (seqP x.key) ((A ++ y :: B).map PV.key) x.key = if y.w < x.w then (A ++ B).map PV.key ++ [x.key] else (A ++ y :: B).map PV.key := by
        rw [List.map_append, List.map_cons, newer_some, List.map_append]
        · rfl
        · intro z hz
          obtain ⟨q, hq, rfl⟩ := List.mem_map.1 hz
          show decide (q.s = x.s) = false
          rw [decide_eq_false (hno q hq)]
        · show decide (y.s = x.s) = true
          rw [decide_eq_true hs]
      by_cases hw : y.w < x.w
      rotate_left
      · rw [if_neg hw] at hkey
        repeat (first|refine zJ rfl rfl ?_|refine jr rfl ?_|refine jn ?_|refine zM rfl rfl ?_|(refine zC rfl rfl ?_ rfl ?_;omega)|(refine zD rfl rfl ?_ rfl ?_;omega)|(refine zP rfl ?_ rfl ?_;omega)|refine zG rfl rfl rfl rfl ?_|(refine jdq rfl rfl ?_ ?_ ?_;kernel_rfl;kernel_rfl)|refine zB rfl rfl rfl (by repeat constructor) rfl ?_|refine zH .here rfl rfl rfl rfl ?_|refine zH (.there .here) rfl rfl rfl rfl ?_|refine zH (.there (.there .here)) rfl rfl rfl rfl ?_)
        exact J_retv (rs := []) (vs := []) rfl .nil [_] (fun w s => s.drop.drop) (PH.ler _) ⟨_, A ++ y :: B, rfl, hr, hL, hkey.symm⟩
      · rw [if_pos hw] at hkey
        replace hkey : ((A ++ B) ++ [x]).map PV.key = newerP (seqP x.key) ((A ++ y :: B).map PV.key) x.key := by rw [hkey, List.map_append (l₂ := [x]), List.map_singleton]
        have hfin : ∀ q ∈ (A ++ B) ++ [x], q.Ok F := by
          intro q hq
          rcases List.mem_append.1 hq with hq | hq
          · exact hL q (by rcases List.mem_append.1 hq with hq | hq; exact List.mem_append_left _ hq; exact List.mem_append_right _ (List.mem_cons_of_mem _ hq))
          · obtain rfl := List.mem_singleton.1 hq
            exact hx
        have hlx : ((A ++ B) ++ [x]).length = (A ++ B).length + 1 := by simp only [List.length_append, List.length_singleton]
        have hab : (A ++ B).length + 1 = (A ++ y :: B).length := by simp only [List.length_append, List.length_cons]; omega
        repeat (first|refine zJ rfl rfl ?_|refine jr rfl ?_|refine jn ?_|refine zM rfl rfl ?_|(refine zC rfl rfl ?_ rfl ?_;omega)|(refine zD rfl rfl ?_ rfl ?_;omega)|(refine zP rfl ?_ rfl ?_;omega)|refine zG rfl rfl rfl rfl ?_|(refine jdq rfl rfl ?_ ?_ ?_;kernel_rfl;kernel_rfl)|refine zB rfl rfl rfl (by repeat constructor) rfl ?_|refine zH .here rfl rfl rfl rfl ?_|refine zH (.there .here) rfl rfl rfl rfl ?_|refine zH (.there (.there .here)) rfl rfl rfl rfl ?_)
        refine jaL F [blk b3 43 x.cs, blk b 50 [.slice (some ⟨g, off, none⟩) (A ++ y :: B).length c, v2]] rfl ?_ ?_ (fun w t => Sat.left (A := [_, _]) t.drop) ?_; kernel_rfl; kernel_rfl; dsimp only [List.dropLast]
        refine aT 0 rfl (ev_qe rfl) rfl rfl ?_ ?_ ?_ ?_; kernel_rfl; kernel_rfl; kernel_rfl
        refine aT 1 rfl (ev_qe rfl) rfl rfl ?_ ?_ ?_ ?_; kernel_rfl; kernel_rfl; kernel_rfl
        refine aT 2 rfl (ev_qe rfl) rfl rfl ?_ ?_ ?_ ?_; kernel_rfl; kernel_rfl; kernel_rfl
        refine aT 3 rfl (ev_qe rfl) rfl rfl ?_ ?_ ?_ ?_; kernel_rfl; kernel_rfl; kernel_rfl
        refine aT 4 rfl (ev_load (v := .slice (some ⟨g, off, none⟩) (A ++ y :: B).length c) rfl rfl (Rdb.ofB (n := 0) (.there .here) rfl)) rfl rfl ?_ ?_ ?_ ?_; kernel_rfl; kernel_rfl; kernel_rfl
        refine aT 5 rfl (ev_qe rfl) rfl rfl ?_ ?_ ?_ ?_; kernel_rfl; kernel_rfl; kernel_rfl
        refine aT 7 rfl (ev_load_agg (cs := x.cs) rfl rfl (Rdb.ofB (n := 0) .here rfl) x.len) rfl rfl ?_ ?_ ?_ ?_; kernel_rfl; kernel_rfl; kernel_rfl
        have sp := withoutF_spec (.slice (some ⟨g, off, none⟩) (A ++ y :: B).length c) A y B F (by omega) hr
        refine aB2 (i := 6) (i' := 8) (by kernel_rfl) ?_ ?_
        · refine aC (Hc := []) (Hr := blk b5 43 y.cs :: blk b3 43 x.cs :: blk b 50 [.slice (some ⟨g, off, none⟩) (A ++ y :: B).length c, v2] :: X) rfl sp Try.call39 rfl rfl rfl (fun _ s => s) (fun _ _ _ _ hq w s => by obtain ⟨rfl, rfl⟩ := hq; exact Sat.left (A := [_, _]) s.drop.drop) ?_
          rintro u _ _ _ ⟨rfl, rfl⟩
          refine aB (i := 8) (by kernel_rfl) (aE rfl (ev_one rfl .agg x.len elPf) rfl rfl ?_ ?_)
          · rintro _ _ _ _ ⟨rfl, bt, rfl, rfl⟩ w s
            exact Sat.left (A := [_, _]) s.drop.drop.drop
          rintro _ _ _ _ ⟨rfl, bt, rfl, rfl⟩
          refine aB (i := 9) (by kernel_rfl) (aE rfl (ev_append (m := 1) (c := 1) (b := bt) (off := 0) (n := (A ++ B).length) (xs := rowC PV.cs (A ++ B)) (news := x.cs) (K := fun v' => blk bt 43 x.cs :: own v' 43 3 ((A ++ B).length + 1) (rowC PV.cs (A ++ B) ++ x.cs) :: blk b5 43 y.cs :: blk b3 43 x.cs :: blk b 50 [.slice (some ⟨g, off, none⟩) (A ++ y :: B).length c, v2] :: X) rfl rfl elPf (Rdb.ofB (n := 0) .here rfl) rfl x.ones (by omega) (by unfold maxLen; omega) (fun v' => .there .here)) rfl rfl ?_ ?_)
          · rintro _ _ _ _ ⟨rfl, _, rfl⟩ w s
            exact Sat.left (A := [_, _]) s.drop.drop.drop
          rintro u' _ _ _ ⟨rfl, _, rfl⟩
          refine aT 10 rfl (ev_qe rfl) rfl rfl ?_ ?_ ?_ ?_; kernel_rfl; kernel_rfl; kernel_rfl
          refine aT 11 rfl (ev_qe rfl) rfl rfl ?_ ?_ ?_ ?_; kernel_rfl; kernel_rfl; kernel_rfl
          refine aD (by kernel_rfl) ?_
          refine jL rfl ?_
          refine oOwnA (.there .here) fun a' c' hu' _ _ _ _ => ?_
          subst hu'
          refine oN (ev_store (b := b) (off := 0 + 0) (vs := [.slice a' ((A ++ B).length + 1) c']) rfl rfl (by constructor) rfl rfl (s := [.slice a' ((A ++ B).length + 1) c', v2]) (.put .nil) (ones_cons rfl ones_nil) (.there (.there (.there (.there .here))))) rfl ?_
          rintro _ _ _ _ ⟨rfl, rfl, rfl⟩
          refine oDrop ?_
          refine oPersist fun hh hA hd => ?_
          have hrow : PvRow (F.un hh) (.slice a' ((A ++ B).length + 1) c') ((A ++ B) ++ [x]) := PvRow.of (by unfold prO; rw [rowC_snoc, hlx]; exact hA) hd
          repeat (first|refine zJ rfl rfl ?_|refine jr rfl ?_|refine jn ?_|refine zM rfl rfl ?_|(refine zC rfl rfl ?_ rfl ?_;omega)|(refine zD rfl rfl ?_ rfl ?_;omega)|(refine zP rfl ?_ rfl ?_;omega)|refine zG rfl rfl rfl rfl ?_|(refine jdq rfl rfl ?_ ?_ ?_;kernel_rfl;kernel_rfl)|refine zB rfl rfl rfl (by repeat constructor) rfl ?_|refine zH .here rfl rfl rfl rfl ?_|refine zH (.there .here) rfl rfl rfl rfl ?_|refine zH (.there (.there .here)) rfl rfl rfl rfl ?_)
          refine J_retv (rs := []) (vs := []) rfl .nil [blk b 50 [.slice a' ((A ++ B).length + 1) c', v2]] (fun w s => s.drop.drop) (PH.le_l _ _) ⟨_, (A ++ B) ++ [x], rfl, hrow, fun q hq => (hfin q hq).mono (PH.le_l _ _), hkey⟩
        · refine aE rfl (ev_one rfl .agg x.len elPf) rfl rfl ?_ ?_
          · rintro _ _ _ _ ⟨rfl, bt, rfl, rfl⟩ w s
            exact Sat.left (A := [_, _]) s.drop.drop
          rintro _ _ _ _ ⟨rfl, bt, rfl, rfl⟩
          refine aB (i := 6) (by kernel_rfl) (aC (Hc := []) (Hr := blk bt 43 x.cs :: blk b5 43 y.cs :: blk b3 43 x.cs :: blk b 50 [.slice (some ⟨g, off, none⟩) (A ++ y :: B).length c, v2] :: X) rfl sp Try.call39 rfl rfl rfl (fun _ s => s) (fun _ _ _ _ hq w s => by obtain ⟨rfl, rfl⟩ := hq; exact Sat.left (A := [_, _]) s.drop.drop.drop) ?_)
          rintro u _ _ _ ⟨rfl, rfl⟩
          refine aB (i := 9) (by kernel_rfl) (aE rfl (ev_append (m := 1) (c := 1) (b := bt) (off := 0) (n := (A ++ B).length) (xs := rowC PV.cs (A ++ B)) (news := x.cs) (K := fun v' => own v' 43 3 ((A ++ B).length + 1) (rowC PV.cs (A ++ B) ++ x.cs) :: blk bt 43 x.cs :: blk b5 43 y.cs :: blk b3 43 x.cs :: blk b 50 [.slice (some ⟨g, off, none⟩) (A ++ y :: B).length c, v2] :: X) rfl rfl elPf (Rdb.ofB (n := 0) (.there .here) rfl) rfl x.ones (by omega) (by unfold maxLen; omega) (fun v' => .here)) rfl rfl ?_ ?_)
          · rintro _ _ _ _ ⟨rfl, _, rfl⟩ w s
            exact Sat.left (A := [_, _]) s.drop.drop.drop
          rintro u' _ _ _ ⟨rfl, _, rfl⟩
          refine aT 10 rfl (ev_qe rfl) rfl rfl ?_ ?_ ?_ ?_; kernel_rfl; kernel_rfl; kernel_rfl
          refine aT 11 rfl (ev_qe rfl) rfl rfl ?_ ?_ ?_ ?_; kernel_rfl; kernel_rfl; kernel_rfl
          refine aD (by kernel_rfl) ?_
          refine jL rfl ?_
          refine oOwnA .here fun a' c' hu' _ _ _ _ => ?_
          subst hu'
          refine oN (ev_store (b := b) (off := 0 + 0) (vs := [.slice a' ((A ++ B).length + 1) c']) rfl rfl (by constructor) rfl rfl (s := [.slice a' ((A ++ B).length + 1) c', v2]) (.put .nil) (ones_cons rfl ones_nil) (.there (.there (.there (.there .here))))) rfl ?_
          rintro _ _ _ _ ⟨rfl, rfl, rfl⟩
          refine oPersist fun hh hA hd => ?_
          have hrow : PvRow (F.un hh) (.slice a' ((A ++ B).length + 1) c') ((A ++ B) ++ [x]) := PvRow.of (by unfold prO; rw [rowC_snoc, hlx]; exact hA) hd
          repeat (first|refine zJ rfl rfl ?_|refine jr rfl ?_|refine jn ?_|refine zM rfl rfl ?_|(refine zC rfl rfl ?_ rfl ?_;omega)|(refine zD rfl rfl ?_ rfl ?_;omega)|(refine zP rfl ?_ rfl ?_;omega)|refine zG rfl rfl rfl rfl ?_|(refine jdq rfl rfl ?_ ?_ ?_;kernel_rfl;kernel_rfl)|refine zB rfl rfl rfl (by repeat constructor) rfl ?_|refine zH .here rfl rfl rfl rfl ?_|refine zH (.there .here) rfl rfl rfl rfl ?_|refine zH (.there (.there .here)) rfl rfl rfl rfl ?_)
          refine J_retv (rs := []) (vs := []) rfl .nil [blk b 50 [.slice a' ((A ++ B).length + 1) c', v2]] (fun w s => s.drop.drop.drop) (PH.le_l _ _) ⟨_, (A ++ B) ++ [x], rfl, hrow, fun q hq => (hfin q hq).mono (PH.le_l _ _), hkey⟩
    · repeat (first|refine zJ rfl rfl ?_|refine jr rfl ?_|refine jn ?_|refine zM rfl rfl ?_|(refine zC rfl rfl ?_ rfl ?_;omega)|(refine zD rfl rfl ?_ rfl ?_;omega)|(refine zP rfl ?_ rfl ?_;omega)|refine zG rfl rfl rfl rfl ?_|(refine jdq rfl rfl ?_ ?_ ?_;kernel_rfl;kernel_rfl)|refine zB rfl rfl rfl (by repeat constructor) rfl ?_|refine zH .here rfl rfl rfl rfl ?_|refine zH (.there .here) rfl rfl rfl rfl ?_|refine zH (.there (.there .here)) rfl rfl rfl rfl ?_)
      refine J_again (i + 1) ⟨hlt, fun z hz => ?_⟩ (by omega) ⟨⟨rfl, rfl, rfl, rfl, rfl, trivial⟩, fun w s => s.drop⟩
      rw [htk] at hz
      rcases List.mem_append.1 hz with hz | hz
      · exact hno z hz
      · obtain rfl := List.mem_singleton.1 hz
        exact hs
  · obtain rfl : i = L.length := by omega
    rw [List.take_length] at hno
    have hkey : (L ++ [x]).map PV.key = newerP (seqP x.key) (L.map PV.key) x.key := by
      rw [newer_none, List.map_append, List.map_singleton]
      intro y hy
      obtain ⟨q, hq, rfl⟩ := List.mem_map.1 hy
      show decide (q.s = x.s) = false
      rw [decide_eq_false (hno q hq)]
    repeat (first|refine zJ rfl rfl ?_|refine jr rfl ?_|refine jn ?_|refine zM rfl rfl ?_|(refine zC rfl rfl ?_ rfl ?_;omega)|(refine zD rfl rfl ?_ rfl ?_;omega)|(refine zP rfl ?_ rfl ?_;omega)|refine zG rfl rfl rfl rfl ?_|(refine jdq rfl rfl ?_ ?_ ?_;kernel_rfl;kernel_rfl)|refine zB rfl rfl rfl (by repeat constructor) rfl ?_|refine zH .here rfl rfl rfl rfl ?_|refine zH (.there .here) rfl rfl rfl rfl ?_|refine zH (.there (.there .here)) rfl rfl rfl rfl ?_)
    refine jaL F [blk b3 43 x.cs, blk b 50 [.slice a L.length c, v2]] rfl ?_ ?_ (fun w t => Sat.left (A := [_, _]) t) ?_; kernel_rfl; kernel_rfl; dsimp only [List.dropLast]
    refine aT 0 rfl (ev_qe rfl) rfl rfl ?_ ?_ ?_ ?_; kernel_rfl; kernel_rfl; kernel_rfl
    refine aT 2 rfl (ev_qe rfl) rfl rfl ?_ ?_ ?_ ?_; kernel_rfl; kernel_rfl; kernel_rfl
    refine aT 3 rfl (ev_qe rfl) rfl rfl ?_ ?_ ?_ ?_; kernel_rfl; kernel_rfl; kernel_rfl
    refine aT 4 rfl (ev_qe rfl) rfl rfl ?_ ?_ ?_ ?_; kernel_rfl; kernel_rfl; kernel_rfl
    refine aT 5 rfl (ev_load (v := .slice a L.length c) rfl rfl (Rdb.ofB (n := 0) (.there .here) rfl)) rfl rfl ?_ ?_ ?_ ?_; kernel_rfl; kernel_rfl; kernel_rfl
    refine aT 7 rfl (ev_load_agg (cs := x.cs) rfl rfl (Rdb.ofB (n := 0) .here rfl) x.len) rfl rfl ?_ ?_ ?_ ?_; kernel_rfl; kernel_rfl; kernel_rfl
    refine aApp2 (a := 1) (b := 6) (c := 8) (d := 9) (da := 47) (db := 52) (dc := 54) (dd := 55) (tA := 51) (ty := 53) (nA := L.length) (bytes := 40) rfl rfl rfl rfl rfl rfl ?_ ?_ ?_ ?_ ?_ ?_ ?_ ?_ .agg x.len x.ones elPf (fun H => SliceV.rds hr) (rowC_ones L) (by omega) (fun w t => Sat.left (A := [_, _]) t) ?_; kernel_rfl; kernel_rfl; kernel_rfl; kernel_rfl; kernel_rfl; kernel_rfl; kernel_rfl; kernel_rfl
    intro u wa wb wc
    refine aT 10 rfl (ev_qe rfl) rfl rfl ?_ ?_ ?_ ?_; kernel_rfl; kernel_rfl; kernel_rfl
    refine aT 11 rfl (ev_qe rfl) rfl rfl ?_ ?_ ?_ ?_; kernel_rfl; kernel_rfl; kernel_rfl
    refine aD (by kernel_rfl) ?_
    refine jL rfl ?_
    refine oOwnA .here fun a' c' hu' _ _ _ _ => ?_
    subst hu'
    refine oN (ev_store (b := b) (off := 0 + 0) (vs := [.slice a' (L.length + 1) c']) rfl rfl (by constructor) rfl rfl (s := [.slice a' (L.length + 1) c', v2]) (.put .nil) (ones_cons rfl ones_nil) (.there (.there .here))) rfl ?_
    rintro _ _ _ _ ⟨rfl, rfl, rfl⟩
    repeat (first|refine zJ rfl rfl ?_|refine jr rfl ?_|refine jn ?_|refine zM rfl rfl ?_|(refine zC rfl rfl ?_ rfl ?_;omega)|(refine zD rfl rfl ?_ rfl ?_;omega)|(refine zP rfl ?_ rfl ?_;omega)|refine zG rfl rfl rfl rfl ?_|(refine jdq rfl rfl ?_ ?_ ?_;kernel_rfl;kernel_rfl)|refine zB rfl rfl rfl (by repeat constructor) rfl ?_|refine zH .here rfl rfl rfl rfl ?_|refine zH (.there .here) rfl rfl rfl rfl ?_|refine zH (.there (.there .here)) rfl rfl rfl rfl ?_)
    refine zE rfl ?_
    refine J_persist fun hh hA hd => ?_
    have hrow : PvRow (F.un hh) (.slice a' (L.length + 1) c') (L ++ [x]) := PvRow.of (by unfold prO; rw [rowC_snoc, List.length_append, List.length_singleton]; exact hA) hd
    refine J_end (X := X) rfl [blk b 50 [.slice a' (L.length + 1) c', v2]] (fun w s => s.drop) (PH.le_l _ _) ⟨_, L ++ [x], rfl, hrow, fun y hy => ?_, hkey⟩
    rcases List.mem_append.1 hy with hy | hy
    · exact (hL y hy).mono (PH.le_l _ _)
    · obtain rfl := List.mem_singleton.1 hy
      exact hx.mono (PH.le_l _ _)
end Go.Proofs.Ytmicjjhkoicdnaa
namespace Go.Proofs.Ytmicjjhkoicdnaa
open Go.RowKit
set_option maxRecDepth 100000
set_option maxHeartbeats 8000000 in
theorem rsames_spec (v v' : Value) (L M : List PV) (F : PH) (hnL : L.length ≤ 1000) (hL : ∀ y ∈ L, y.Ok F) (hM : ∀ y ∈ M, y.Ok F) (hr : PvRow F v L) (hr' : PvRow F v' M) (t : Bool) (ht : t = true ↔ L.map PV.key = M.map PV.key) : Pure Try.prog 23 [v, v'] F (.bool t) := by
  obtain ⟨_, a, c, hv, hnc, _⟩ := id hr
  obtain ⟨hl', a', c', hv', hnc', _⟩ := id hr'
  subst hv
  subst hv'
  refine Spec.of2 Try.func23 rfl rfl fun X w0 => ?_
  by_cases hn : L.length = M.length
  rotate_left
  · obtain rfl : t = false := by
      cases t with
      | false => rfl
      | true => exact absurd (by simpa using congrArg List.length (ht.1 rfl)) hn
    repeat (first|refine zJ rfl rfl ?_|refine jr rfl ?_|refine jn ?_|refine zM rfl rfl ?_|(refine zC rfl rfl ?_ rfl ?_;omega)|(refine zD rfl rfl ?_ rfl ?_;omega)|(refine zP rfl ?_ rfl ?_;omega)|refine zG rfl rfl rfl rfl ?_|(refine jdq rfl rfl ?_ ?_ ?_;kernel_rfl;kernel_rfl)|refine zB rfl rfl rfl (by repeat constructor) rfl ?_|refine zH .here rfl rfl rfl rfl ?_|refine zH (.there .here) rfl rfl rfl rfl ?_|refine zH (.there (.there .here)) rfl rfl rfl rfl ?_)
    exact J_retv rfl (.tmp rfl .nil) [] (fun w s => s) (PH.ler _) ⟨rfl, rfl⟩
  repeat (first|refine zJ rfl rfl ?_|refine jr rfl ?_|refine jn ?_|refine zM rfl rfl ?_|(refine zC rfl rfl ?_ rfl ?_;omega)|(refine zD rfl rfl ?_ rfl ?_;omega)|(refine zP rfl ?_ rfl ?_;omega)|refine zG rfl rfl rfl rfl ?_|(refine jdq rfl rfl ?_ ?_ ?_;kernel_rfl;kernel_rfl)|refine zB rfl rfl rfl (by repeat constructor) rfl ?_|refine zH .here rfl rfl rfl rfl ?_|refine zH (.there .here) rfl rfl rfl rfl ?_|refine zH (.there (.there .here)) rfl rfl rfl rfl ?_)
  refine J_loop (ι := Nat) (fun j => j ≤ L.length ∧ (L.take j).map PV.key = (M.take j).map PV.key) (fun j => L.length - j) (fun j => [(0, .slice a L.length c), (1, .slice a' M.length c'), (12, .int .i64 L.length), (13, .int .i64 j)]) (fun _ => F) (fun _ => X) 0 ⟨Nat.zero_le _, rfl⟩ ⟨⟨rfl, rfl, rfl, rfl, trivial⟩, fun _ h => h⟩ ?_
  rintro j ⟨hj, heq⟩
  by_cases hlt : j < L.length
  · have g1 : L[j]? = some L[j] := List.getElem?_eq_getElem hlt
    have g2 : M[j]? = some (M[j]'(by omega)) := List.getElem?_eq_getElem (by omega)
    have k1 := hL _ (List.getElem_mem hlt)
    have k2 := hM _ (List.getElem_mem (by omega : j < M.length))
    have t1 : L.take (j + 1) = L.take j ++ [L[j]] := List.take_succ_eq_append_getElem hlt
    have t2 : M.take (j + 1) = M.take j ++ [M[j]'(by omega)] := List.take_succ_eq_append_getElem (by omega)
    generalize L[j] = y at *
    generalize M[j]'(by omega) = z at *
    have hno : y.key ≠ z.key → t = false := fun hne => by
      cases t with
      | false => rfl
      | true =>
        have e := ht.1 rfl
        have e1 : (L.map PV.key)[j]? = some y.key := by rw [List.getElem?_map, g1]; rfl
        rw [e, List.getElem?_map, g2] at e1
        exact absurd (Option.some.inj e1).symm hne
    obtain ⟨g, off, rfl, hc⟩ := SliceV.row (css := L.map PV.cs) (i := j) (r := y.cs) hr (fun c hc => by obtain ⟨q, _, rfl⟩ := List.mem_map.1 hc; exact q.len) (by rw [List.getElem?_map, g1]; rfl) hlt
    obtain ⟨g', off', rfl, hc'⟩ := SliceV.row (css := M.map PV.cs) (i := j) (r := z.cs) hr' (fun c hc => by obtain ⟨q, _, rfl⟩ := List.mem_map.1 hc; exact q.len) (by rw [List.getElem?_map, g2]; rfl) (by omega)
    obtain ⟨s, w, ya, yn, yc, es⟩ := y
    obtain ⟨s', w', za, zn, zc, es'⟩ := z
    repeat (first|refine zJ rfl rfl ?_|refine jr rfl ?_|refine jn ?_|refine zM rfl rfl ?_|(refine zC rfl rfl ?_ rfl ?_;omega)|(refine zD rfl rfl ?_ rfl ?_;omega)|(refine zP rfl ?_ rfl ?_;omega)|refine zG rfl rfl rfl rfl ?_|(refine jdq rfl rfl ?_ ?_ ?_;kernel_rfl;kernel_rfl)|refine zB rfl rfl rfl (by repeat constructor) rfl ?_|refine zH .here rfl rfl rfl rfl ?_|refine zH (.there .here) rfl rfl rfl rfl ?_|refine zH (.there (.there .here)) rfl rfl rfl rfl ?_)
    refine jd rfl ?_ ?_ ?_; kernel_rfl; kernel_rfl
    repeat (first|refine zJ rfl rfl ?_|refine jr rfl ?_|refine jn ?_|refine zM rfl rfl ?_|(refine zC rfl rfl ?_ rfl ?_;omega)|(refine zD rfl rfl ?_ rfl ?_;omega)|(refine zP rfl ?_ rfl ?_;omega)|refine zG rfl rfl rfl rfl ?_|(refine jdq rfl rfl ?_ ?_ ?_;kernel_rfl;kernel_rfl)|refine zB rfl rfl rfl (by repeat constructor) rfl ?_|refine zH .here rfl rfl rfl rfl ?_|refine zH (.there .here) rfl rfl rfl rfl ?_|refine zH (.there (.there .here)) rfl rfl rfl rfl ?_)
    refine oS (ev_indexAddr (i := j) rfl rfl rfl hlt) rfl ?_
    refine oS (ev_fieldAddr rfl rfl) rfl ?_
    refine oS (ev_load (v := .int .i64 s) rfl rfl (Rdb.ofF (Cells.one hc 0 rfl))) rfl ?_
    repeat (first|refine zJ rfl rfl ?_|refine jr rfl ?_|refine jn ?_|refine zM rfl rfl ?_|(refine zC rfl rfl ?_ rfl ?_;omega)|(refine zD rfl rfl ?_ rfl ?_;omega)|(refine zP rfl ?_ rfl ?_;omega)|refine zG rfl rfl rfl rfl ?_|(refine jdq rfl rfl ?_ ?_ ?_;kernel_rfl;kernel_rfl)|refine zB rfl rfl rfl (by repeat constructor) rfl ?_|refine zH .here rfl rfl rfl rfl ?_|refine zH (.there .here) rfl rfl rfl rfl ?_|refine zH (.there (.there .here)) rfl rfl rfl rfl ?_)
    refine oS (ev_indexAddr (i := j) rfl rfl rfl (by omega)) rfl ?_
    refine oS (ev_fieldAddr rfl rfl) rfl ?_
    refine oS (ev_load (v := .int .i64 s') rfl rfl (Rdb.ofF (Cells.one hc' 0 rfl))) rfl ?_
    by_cases hs : s = s'
    rotate_left
    · obtain rfl := hno (fun e => hs (congrArg Prod.fst e))
      repeat (first|refine zJ rfl rfl ?_|refine jr rfl ?_|refine jn ?_|refine zM rfl rfl ?_|(refine zC rfl rfl ?_ rfl ?_;omega)|(refine zD rfl rfl ?_ rfl ?_;omega)|(refine zP rfl ?_ rfl ?_;omega)|refine zG rfl rfl rfl rfl ?_|(refine jdq rfl rfl ?_ ?_ ?_;kernel_rfl;kernel_rfl)|refine zB rfl rfl rfl (by repeat constructor) rfl ?_|refine zH .here rfl rfl rfl rfl ?_|refine zH (.there .here) rfl rfl rfl rfl ?_|refine zH (.there (.there .here)) rfl rfl rfl rfl ?_)
      exact J_retv rfl (.tmp rfl .nil) [] (fun w s => s) (PH.ler _) ⟨rfl, rfl⟩
    repeat (first|refine zJ rfl rfl ?_|refine jr rfl ?_|refine jn ?_|refine zM rfl rfl ?_|(refine zC rfl rfl ?_ rfl ?_;omega)|(refine zD rfl rfl ?_ rfl ?_;omega)|(refine zP rfl ?_ rfl ?_;omega)|refine zG rfl rfl rfl rfl ?_|(refine jdq rfl rfl ?_ ?_ ?_;kernel_rfl;kernel_rfl)|refine zB rfl rfl rfl (by repeat constructor) rfl ?_|refine zH .here rfl rfl rfl rfl ?_|refine zH (.there .here) rfl rfl rfl rfl ?_|refine zH (.there (.there .here)) rfl rfl rfl rfl ?_)
    refine oS (ev_indexAddr (i := j) rfl rfl rfl hlt) rfl ?_
    refine oS (ev_fieldAddr rfl rfl) rfl ?_
    refine oS (ev_load (v := .int .i64 w) rfl rfl (Rdb.ofF (Cells.one hc 1 rfl))) rfl ?_
    repeat (first|refine zJ rfl rfl ?_|refine jr rfl ?_|refine jn ?_|refine zM rfl rfl ?_|(refine zC rfl rfl ?_ rfl ?_;omega)|(refine zD rfl rfl ?_ rfl ?_;omega)|(refine zP rfl ?_ rfl ?_;omega)|refine zG rfl rfl rfl rfl ?_|(refine jdq rfl rfl ?_ ?_ ?_;kernel_rfl;kernel_rfl)|refine zB rfl rfl rfl (by repeat constructor) rfl ?_|refine zH .here rfl rfl rfl rfl ?_|refine zH (.there .here) rfl rfl rfl rfl ?_|refine zH (.there (.there .here)) rfl rfl rfl rfl ?_)
    refine oS (ev_indexAddr (i := j) rfl rfl rfl (by omega)) rfl ?_
    refine oS (ev_fieldAddr rfl rfl) rfl ?_
    refine oS (ev_load (v := .int .i64 w') rfl rfl (Rdb.ofF (Cells.one hc' 1 rfl))) rfl ?_
    by_cases hw : w = w'
    rotate_left
    · obtain rfl := hno (fun e => hw (congrArg (fun x : PrX => x.2.1) e))
      repeat (first|refine zJ rfl rfl ?_|refine jr rfl ?_|refine jn ?_|refine zM rfl rfl ?_|(refine zC rfl rfl ?_ rfl ?_;omega)|(refine zD rfl rfl ?_ rfl ?_;omega)|(refine zP rfl ?_ rfl ?_;omega)|refine zG rfl rfl rfl rfl ?_|(refine jdq rfl rfl ?_ ?_ ?_;kernel_rfl;kernel_rfl)|refine zB rfl rfl rfl (by repeat constructor) rfl ?_|refine zH .here rfl rfl rfl rfl ?_|refine zH (.there .here) rfl rfl rfl rfl ?_|refine zH (.there (.there .here)) rfl rfl rfl rfl ?_)
      exact J_retv rfl (.tmp rfl .nil) [] (fun w s => s) (PH.ler _) ⟨rfl, rfl⟩
    repeat (first|refine zJ rfl rfl ?_|refine jr rfl ?_|refine jn ?_|refine zM rfl rfl ?_|(refine zC rfl rfl ?_ rfl ?_;omega)|(refine zD rfl rfl ?_ rfl ?_;omega)|(refine zP rfl ?_ rfl ?_;omega)|refine zG rfl rfl rfl rfl ?_|(refine jdq rfl rfl ?_ ?_ ?_;kernel_rfl;kernel_rfl)|refine zB rfl rfl rfl (by repeat constructor) rfl ?_|refine zH .here rfl rfl rfl rfl ?_|refine zH (.there .here) rfl rfl rfl rfl ?_|refine zH (.there (.there .here)) rfl rfl rfl rfl ?_)
    refine oS (ev_indexAddr (i := j) rfl rfl rfl hlt) rfl ?_
    refine oS (ev_fieldAddr rfl rfl) rfl ?_
    refine oS (ev_load (v := .slice ya yn yc) rfl rfl (Rdb.ofF (Cells.one hc 2 rfl))) rfl ?_
    repeat (first|refine zJ rfl rfl ?_|refine jr rfl ?_|refine jn ?_|refine zM rfl rfl ?_|(refine zC rfl rfl ?_ rfl ?_;omega)|(refine zD rfl rfl ?_ rfl ?_;omega)|(refine zP rfl ?_ rfl ?_;omega)|refine zG rfl rfl rfl rfl ?_|(refine jdq rfl rfl ?_ ?_ ?_;kernel_rfl;kernel_rfl)|refine zB rfl rfl rfl (by repeat constructor) rfl ?_|refine zH .here rfl rfl rfl rfl ?_|refine zH (.there .here) rfl rfl rfl rfl ?_|refine zH (.there (.there .here)) rfl rfl rfl rfl ?_)
    refine oS (ev_indexAddr (i := j) rfl rfl rfl (by omega)) rfl ?_
    refine oS (ev_fieldAddr rfl rfl) rfl ?_
    refine oS (ev_load (v := .slice za zn zc) rfl rfl (Rdb.ofF (Cells.one hc' 2 rfl))) rfl ?_
    have sp := rsame_spec _ _ es es' F k1.2.2.1 k2.2.2.1
    by_cases he : es = es'
    · rw [show sameE es es' = true from decide_eq_true he] at sp
      refine oP (sp) Try.call40 rfl rfl ?_
      repeat (first|refine zJ rfl rfl ?_|refine jr rfl ?_|refine jn ?_|refine zM rfl rfl ?_|(refine zC rfl rfl ?_ rfl ?_;omega)|(refine zD rfl rfl ?_ rfl ?_;omega)|(refine zP rfl ?_ rfl ?_;omega)|refine zG rfl rfl rfl rfl ?_|(refine jdq rfl rfl ?_ ?_ ?_;kernel_rfl;kernel_rfl)|refine zB rfl rfl rfl (by repeat constructor) rfl ?_|refine zH .here rfl rfl rfl rfl ?_|refine zH (.there .here) rfl rfl rfl rfl ?_|refine zH (.there (.there .here)) rfl rfl rfl rfl ?_)
      exact J_again (j + 1) ⟨hlt, by rw [t1, t2, List.map_append, List.map_append, heq, hs, hw, he]; rfl⟩ (by omega) ⟨⟨rfl, rfl, rfl, rfl, trivial⟩, fun w s => s⟩
    · rw [show sameE es es' = false from decide_eq_false he] at sp
      obtain rfl := hno (fun e => he (congrArg (fun x : PrX => x.2.2.1) e))
      refine oP (sp) Try.call40 rfl rfl ?_
      repeat (first|refine zJ rfl rfl ?_|refine jr rfl ?_|refine jn ?_|refine zM rfl rfl ?_|(refine zC rfl rfl ?_ rfl ?_;omega)|(refine zD rfl rfl ?_ rfl ?_;omega)|(refine zP rfl ?_ rfl ?_;omega)|refine zG rfl rfl rfl rfl ?_|(refine jdq rfl rfl ?_ ?_ ?_;kernel_rfl;kernel_rfl)|refine zB rfl rfl rfl (by repeat constructor) rfl ?_|refine zH .here rfl rfl rfl rfl ?_|refine zH (.there .here) rfl rfl rfl rfl ?_|refine zH (.there (.there .here)) rfl rfl rfl rfl ?_)
      exact J_retv rfl (.tmp rfl .nil) [] (fun w s => s) (PH.ler _) ⟨rfl, rfl⟩
  · obtain rfl : j = L.length := by omega
    obtain rfl : t = true := ht.2 (by rwa [List.take_length, hn, List.take_length] at heq)
    repeat (first|refine zJ rfl rfl ?_|refine jr rfl ?_|refine jn ?_|refine zM rfl rfl ?_|(refine zC rfl rfl ?_ rfl ?_;omega)|(refine zD rfl rfl ?_ rfl ?_;omega)|(refine zP rfl ?_ rfl ?_;omega)|refine zG rfl rfl rfl rfl ?_|(refine jdq rfl rfl ?_ ?_ ?_;kernel_rfl;kernel_rfl)|refine zB rfl rfl rfl (by repeat constructor) rfl ?_|refine zH .here rfl rfl rfl rfl ?_|refine zH (.there .here) rfl rfl rfl rfl ?_|refine zH (.there (.there .here)) rfl rfl rfl rfl ?_)
    exact J_retv rfl (.tmp rfl .nil) [] (fun w s => s) (PH.ler _) ⟨rfl, rfl⟩
end Go.Proofs.Ytmicjjhkoicdnaa
namespace Go.Proofs.Ytmicjjhkoicdnaa
open Go.RowKit
set_option maxRecDepth 100000
theorem nprep_spec (F : PH) : Spec Try.prog 18 [.pointer none, .agg zPf.toArray] F [] fun _ F' H' => F = F' ∧ H' = [] := by
  refine Spec.of2 Try.func18 rfl rfl fun X w0 => ?_
  refine jc rfl rfl ?_
  refine jr rfl ?_
  refine oE (ev_box rfl .agg) rfl ?_; rintro _ _ _ _ ⟨rfl, b3, rfl, rfl⟩
  repeat (first|refine zJ rfl rfl ?_|refine jr rfl ?_|refine jn ?_|refine zM rfl rfl ?_|(refine zC rfl rfl ?_ rfl ?_;omega)|(refine zD rfl rfl ?_ rfl ?_;omega)|(refine zP rfl ?_ rfl ?_;omega)|refine zG rfl rfl rfl rfl ?_|(refine jdq rfl rfl ?_ ?_ ?_;kernel_rfl;kernel_rfl)|refine zB rfl rfl rfl (by repeat constructor) rfl ?_|refine zH .here rfl rfl rfl rfl ?_|refine zH (.there .here) rfl rfl rfl rfl ?_|refine zH (.there (.there .here)) rfl rfl rfl rfl ?_)
  refine zE rfl ?_
  exact J_end (F0 := F) (X := X) rfl [] (fun w s => s.drop) (PH.ler _) ⟨rfl, rfl⟩
theorem nprop_spec (F : PH) : Spec Try.prog 16 [.pointer none, .agg zPf.toArray] F [] fun _ F' H' => F = F' ∧ H' = [] := by
  refine Spec.of2 Try.func16 rfl rfl fun X w0 => ?_
  refine jc rfl rfl ?_
  refine jr rfl ?_
  refine oE (ev_box rfl .agg) rfl ?_; rintro _ _ _ _ ⟨rfl, b3, rfl, rfl⟩
  repeat (first|refine zJ rfl rfl ?_|refine jr rfl ?_|refine jn ?_|refine zM rfl rfl ?_|(refine zC rfl rfl ?_ rfl ?_;omega)|(refine zD rfl rfl ?_ rfl ?_;omega)|(refine zP rfl ?_ rfl ?_;omega)|refine zG rfl rfl rfl rfl ?_|(refine jdq rfl rfl ?_ ?_ ?_;kernel_rfl;kernel_rfl)|refine zB rfl rfl rfl (by repeat constructor) rfl ?_|refine zH .here rfl rfl rfl rfl ?_|refine zH (.there .here) rfl rfl rfl rfl ?_|refine zH (.there (.there .here)) rfl rfl rfl rfl ?_)
  exact J_retv (rs := []) (vs := []) rfl .nil [] (fun w s => s.drop) (PH.ler _) ⟨rfl, rfl⟩
theorem nmove_spec (low : Int) (F : PH) : Spec Try.prog 21 [.pointer none, .int .i64 low] F [] fun _ F' H' => F = F' ∧ H' = [] := by
  refine Spec.of2 Try.func21 rfl rfl fun X w0 => ?_
  refine jc rfl rfl ?_
  refine jr rfl ?_
  refine oE (ev_box rfl .int) rfl ?_
  rintro _ _ _ _ ⟨rfl, b3, rfl, rfl⟩
  repeat (first|refine zJ rfl rfl ?_|refine jr rfl ?_|refine jn ?_|refine zM rfl rfl ?_|(refine zC rfl rfl ?_ rfl ?_;omega)|(refine zD rfl rfl ?_ rfl ?_;omega)|(refine zP rfl ?_ rfl ?_;omega)|refine zG rfl rfl rfl rfl ?_|(refine jdq rfl rfl ?_ ?_ ?_;kernel_rfl;kernel_rfl)|refine zB rfl rfl rfl (by repeat constructor) rfl ?_|refine zH .here rfl rfl rfl rfl ?_|refine zH (.there .here) rfl rfl rfl rfl ?_|refine zH (.there (.there .here)) rfl rfl rfl rfl ?_)
  exact J_retv (rs := []) (vs := []) rfl .nil [] (fun w s => s.drop) (PH.ler _) ⟨rfl, rfl⟩
theorem nprepd_spec (F : PH) : Pure Try.prog 24 [.pointer none] F (.slice none 0 0) := by
  refine Spec.of1 Try.func24 rfl rfl fun X w0 => ?_
  repeat (first|refine zJ rfl rfl ?_|refine jr rfl ?_|refine jn ?_|refine zM rfl rfl ?_|(refine zC rfl rfl ?_ rfl ?_;omega)|(refine zD rfl rfl ?_ rfl ?_;omega)|(refine zP rfl ?_ rfl ?_;omega)|refine zG rfl rfl rfl rfl ?_|(refine jdq rfl rfl ?_ ?_ ?_;kernel_rfl;kernel_rfl)|refine zB rfl rfl rfl (by repeat constructor) rfl ?_|refine zH .here rfl rfl rfl rfl ?_|refine zH (.there .here) rfl rfl rfl rfl ?_|refine zH (.there (.there .here)) rfl rfl rfl rfl ?_)
  exact J_retv rfl (.tmp rfl .nil) [] (fun w s => s) (PH.ler _) ⟨rfl, rfl⟩
theorem npropd_spec (F : PH) : Pure Try.prog 17 [.pointer none] F (.slice none 0 0) := by
  refine Spec.of1 Try.func17 rfl rfl fun X w0 => ?_
  repeat (first|refine zJ rfl rfl ?_|refine jr rfl ?_|refine jn ?_|refine zM rfl rfl ?_|(refine zC rfl rfl ?_ rfl ?_;omega)|(refine zD rfl rfl ?_ rfl ?_;omega)|(refine zP rfl ?_ rfl ?_;omega)|refine zG rfl rfl rfl rfl ?_|(refine jdq rfl rfl ?_ ?_ ?_;kernel_rfl;kernel_rfl)|refine zB rfl rfl rfl (by repeat constructor) rfl ?_|refine zH .here rfl rfl rfl rfl ?_|refine zH (.there .here) rfl rfl rfl rfl ?_|refine zH (.there (.there .here)) rfl rfl rfl rfl ?_)
  exact J_retv rfl (.tmp rfl .nil) [] (fun w s => s) (PH.ler _) ⟨rfl, rfl⟩
end Go.Proofs.Ytmicjjhkoicdnaa
namespace Go.Proofs.Ytmicjjhkoicdnaa
open Go.RowKit
set_option maxRecDepth 100000
set_option maxHeartbeats 8000000 in
theorem rmove_spec (b : Nat) (v1 v2 : Value) (low : Int) (L M : List PV) (F : PH) (hL : L.length ≤ 1000) (hM : M.length ≤ 1000) (hr1 : PvRow F v1 L) (hr2 : PvRow F v2 M) :
    Spec Try.prog 22 [.pointer (some ⟨b, 0, none⟩), .int .i64 low] F [blk b 50 [v1, v2]] fun _ F' H' => ∃ v1' v2', H' = [blk b 50 [v1', v2']] ∧ PvRow F' v1' (L.filter fun y => !decide (y.s ≤ low)) ∧ PvRow F' v2' (M.filter fun y => !decide (y.s ≤ low)) := by
  refine Spec.of2 Try.func22 rfl rfl fun X w0 => ?_
  show J _ _ _ _ (blk b 50 [v1, v2] :: X)
  obtain ⟨_, a, c, hv, _, _⟩ := id hr1
  subst hv
  obtain ⟨_, am, cm, hvm, _, _⟩ := id hr2
  subst hvm
  repeat (first|refine zJ rfl rfl ?_|refine jr rfl ?_|refine jn ?_|refine zM rfl rfl ?_|(refine zC rfl rfl ?_ rfl ?_;omega)|(refine zD rfl rfl ?_ rfl ?_;omega)|(refine zP rfl ?_ rfl ?_;omega)|refine zG rfl rfl rfl rfl ?_|(refine jdq rfl rfl ?_ ?_ ?_;kernel_rfl;kernel_rfl)|refine zB rfl rfl rfl (by repeat constructor) rfl ?_|refine zH .here rfl rfl rfl rfl ?_|refine zH (.there .here) rfl rfl rfl rfl ?_|refine zH (.there (.there .here)) rfl rfl rfl rfl ?_)
  refine J_loop (ι := List PV × List PV × Value × PH) (fun p => F.le p.2.2.2 ∧ PvRow p.2.2.2 p.2.2.1 (p.1 ++ p.2.1) ∧ (p.1.filter fun y => !decide (y.s ≤ low)) ++ p.2.1 = (L.filter fun y => !decide (y.s ≤ low)) ∧ (p.1 ++ p.2.1).length ≤ 1000) (fun p => p.1.length) (fun p => [(0, .pointer (some ⟨b, 0, none⟩)), (1, .int .i64 low), (4, .int .i64 ((p.1.length : Int) - 1))]) (fun p => p.2.2.2) (fun p => blk b 50 [p.2.2.1, (.slice am M.length cm)] :: X) (L, [], .slice a L.length c, F) ⟨PH.ler _, by dsimp only; rw [List.append_nil]; exact hr1, by dsimp only; rw [List.append_nil], by dsimp only; rw [List.append_nil]; exact hL⟩ ⟨⟨rfl, rfl, rfl, trivial⟩, fun w s => s⟩ ?_
  rintro ⟨P, S, v, G⟩ ⟨hG, hrow, heq, hlen⟩
  dsimp only at hG hrow heq hlen ⊢
  rcases List.eq_nil_or_concat P with rfl | ⟨P', y, rfl⟩
  · rw [List.filter_nil, List.nil_append] at heq
    subst heq
    rw [List.nil_append] at hrow
    generalize (L.filter fun y => !decide (y.s ≤ low)) = L' at *
    repeat (first|refine zJ rfl rfl ?_|refine jr rfl ?_|refine jn ?_|refine zM rfl rfl ?_|(refine zC rfl rfl ?_ rfl ?_;omega)|(refine zD rfl rfl ?_ rfl ?_;omega)|(refine zP rfl ?_ rfl ?_;omega)|refine zG rfl rfl rfl rfl ?_|(refine jdq rfl rfl ?_ ?_ ?_;kernel_rfl;kernel_rfl)|refine zB rfl rfl rfl (by repeat constructor) rfl ?_|refine zH .here rfl rfl rfl rfl ?_|refine zH (.there .here) rfl rfl rfl rfl ?_|refine zH (.there (.there .here)) rfl rfl rfl rfl ?_)
    refine J_loop (ι := List PV × List PV × Value × PH) (fun p => G.le p.2.2.2 ∧ PvRow p.2.2.2 p.2.2.1 (p.1 ++ p.2.1) ∧ (p.1.filter fun y => !decide (y.s ≤ low)) ++ p.2.1 = (M.filter fun y => !decide (y.s ≤ low)) ∧ (p.1 ++ p.2.1).length ≤ 1000) (fun p => p.1.length) (fun p => [(0, .pointer (some ⟨b, 0, none⟩)), (1, .int .i64 low), (5, .int .i64 ((p.1.length : Int) - 1))]) (fun p => p.2.2.2) (fun p => blk b 50 [v, p.2.2.1] :: X) (M, [], .slice am M.length cm, G) ⟨PH.ler _, by dsimp only; rw [List.append_nil]; exact hr2.mono hG, by dsimp only; rw [List.append_nil], by dsimp only; rw [List.append_nil]; exact hM⟩ ⟨⟨rfl, rfl, rfl, trivial⟩, fun w s => s⟩ ?_
    rintro ⟨P, S, u0, G0⟩ ⟨hG0, hrow0, heq0, hlen0⟩
    dsimp only at hG0 hrow0 heq0 hlen0 ⊢
    rcases List.eq_nil_or_concat P with rfl | ⟨P', y, rfl⟩
    · rw [List.filter_nil, List.nil_append] at heq0
      rw [List.nil_append] at hrow0
      rw [← heq0]
      repeat (first|refine zJ rfl rfl ?_|refine jr rfl ?_|refine jn ?_|refine zM rfl rfl ?_|(refine zC rfl rfl ?_ rfl ?_;omega)|(refine zD rfl rfl ?_ rfl ?_;omega)|(refine zP rfl ?_ rfl ?_;omega)|refine zG rfl rfl rfl rfl ?_|(refine jdq rfl rfl ?_ ?_ ?_;kernel_rfl;kernel_rfl)|refine zB rfl rfl rfl (by repeat constructor) rfl ?_|refine zH .here rfl rfl rfl rfl ?_|refine zH (.there .here) rfl rfl rfl rfl ?_|refine zH (.there (.there .here)) rfl rfl rfl rfl ?_)
      refine zE rfl ?_
      exact J_end (X := X) rfl [blk b 50 [v, u0]] (fun w s => s) (hG.trans hG0) ⟨_, _, rfl, hrow.mono hG0, hrow0⟩
    · rw [List.concat_eq_append] at *
      rw [List.append_assoc] at hrow0 hlen0
      rw [List.filter_append] at heq0
      obtain ⟨_, a2, c2, hv2, _, _⟩ := id hrow0
      subst hv2
      have hPl : (P' ++ [y]).length = P'.length + 1 := by simp
      rw [hPl]
      have hlt : P'.length < (P' ++ ([y] ++ S)).length := by simp only [List.length_append, List.length_singleton]; omega
      obtain ⟨g, off, rfl, hc⟩ := SliceV.row (css := (P' ++ ([y] ++ S)).map PV.cs) (i := P'.length) (r := y.cs) hrow0 (fun c hc => by obtain ⟨q, _, rfl⟩ := List.mem_map.1 hc; exact q.len) (by rw [List.getElem?_map, List.singleton_append, get_mid]; rfl) hlt
      have ix : some (Value.int .i64 (((P'.length + 1 : Nat) : Int) - 1)) = some (Value.int .i64 (P'.length : Int)) := by congr 2; omega
      repeat (first|refine zJ rfl rfl ?_|refine jr rfl ?_|refine jn ?_|refine zM rfl rfl ?_|(refine zC rfl rfl ?_ rfl ?_;omega)|(refine zD rfl rfl ?_ rfl ?_;omega)|(refine zP rfl ?_ rfl ?_;omega)|refine zG rfl rfl rfl rfl ?_|(refine jdq rfl rfl ?_ ?_ ?_;kernel_rfl;kernel_rfl)|refine zB rfl rfl rfl (by repeat constructor) rfl ?_|refine zH .here rfl rfl rfl rfl ?_|refine zH (.there .here) rfl rfl rfl rfl ?_|refine zH (.there (.there .here)) rfl rfl rfl rfl ?_)
      refine oS (ev_indexAddr (i := P'.length) rfl ix rfl hlt) rfl ?_
      refine oS (ev_fieldAddr rfl rfl) rfl ?_
      refine oS (ev_load (v := .int .i64 y.s) rfl rfl (Rdb.ofF (Cells.one hc 0 rfl))) rfl ?_
      by_cases hs : y.s ≤ low
      · have hfy : ([y].filter fun y => !decide (y.s ≤ low)) = [] := by simp [hs]
        rw [hfy, List.append_nil] at heq0
        repeat (first|refine zJ rfl rfl ?_|refine jr rfl ?_|refine jn ?_|refine zM rfl rfl ?_|(refine zC rfl rfl ?_ rfl ?_;omega)|(refine zD rfl rfl ?_ rfl ?_;omega)|(refine zP rfl ?_ rfl ?_;omega)|refine zG rfl rfl rfl rfl ?_|(refine jdq rfl rfl ?_ ?_ ?_;kernel_rfl;kernel_rfl)|refine zB rfl rfl rfl (by repeat constructor) rfl ?_|refine zH .here rfl rfl rfl rfl ?_|refine zH (.there .here) rfl rfl rfl rfl ?_|refine zH (.there (.there .here)) rfl rfl rfl rfl ?_)
        refine oC (Hc := []) (Hr := blk b 50 [v, .slice (some ⟨g, off, none⟩) (P' ++ ([y] ++ S)).length c2] :: X) (spec_args (withoutF_spec _ P' y S G0 hlen0 hrow0) (by rw [show ((P'.length + 1 : Nat) : Int) - 1 = (P'.length : Int) from by omega])) Try.call39 rfl rfl (fun _ s => s) ?_
        rintro u _ _ _ ⟨rfl, rfl⟩
        refine oPersist fun hh hA hd => ?_
        have hrowX := PvRow.of hA hd
        have hGX := PH.le_l G0 hh
        generalize G0.un hh = G1 at *
        obtain ⟨_, a3, c3, hu, _, _⟩ := id hrowX
        subst hu
        repeat (first|refine zJ rfl rfl ?_|refine jr rfl ?_|refine jn ?_|refine zM rfl rfl ?_|(refine zC rfl rfl ?_ rfl ?_;omega)|(refine zD rfl rfl ?_ rfl ?_;omega)|(refine zP rfl ?_ rfl ?_;omega)|refine zG rfl rfl rfl rfl ?_|(refine jdq rfl rfl ?_ ?_ ?_;kernel_rfl;kernel_rfl)|refine zB rfl rfl rfl (by repeat constructor) rfl ?_|refine zH .here rfl rfl rfl rfl ?_|refine zH (.there .here) rfl rfl rfl rfl ?_|refine zH (.there (.there .here)) rfl rfl rfl rfl ?_)
        refine oN (ev_store (b := b) (off := 0 + 1) (vs := [.slice a3 (P' ++ S).length c3]) rfl rfl (by constructor) rfl rfl (s := [v, .slice a3 (P' ++ S).length c3]) (.skip (.put .nil)) (ones_cons rfl ones_nil) .here) rfl ?_
        rintro _ _ _ _ ⟨rfl, rfl, rfl⟩
        repeat (first|refine zJ rfl rfl ?_|refine jr rfl ?_|refine jn ?_|refine zM rfl rfl ?_|(refine zC rfl rfl ?_ rfl ?_;omega)|(refine zD rfl rfl ?_ rfl ?_;omega)|(refine zP rfl ?_ rfl ?_;omega)|refine zG rfl rfl rfl rfl ?_|(refine jdq rfl rfl ?_ ?_ ?_;kernel_rfl;kernel_rfl)|refine zB rfl rfl rfl (by repeat constructor) rfl ?_|refine zH .here rfl rfl rfl rfl ?_|refine zH (.there .here) rfl rfl rfl rfl ?_|refine zH (.there (.there .here)) rfl rfl rfl rfl ?_)
        refine J_again (P', S, .slice a3 (P' ++ S).length c3, G1) ⟨hG0.trans hGX, hrowX, heq0, by dsimp only; simp only [List.length_append, List.length_singleton] at hlen0 ⊢; omega⟩ (by dsimp only; omega) ⟨⟨rfl, rfl, ?_, trivial⟩, fun w s => s⟩
        dsimp only
        rw [show ((P'.length + 1 : Nat) : Int) - 1 = (P'.length : Int) from by omega]
        rfl
      · have hfy : ([y].filter fun y => !decide (y.s ≤ low)) = [y] := by simp [hs]
        rw [hfy, List.append_assoc] at heq0
        repeat (first|refine zJ rfl rfl ?_|refine jr rfl ?_|refine jn ?_|refine zM rfl rfl ?_|(refine zC rfl rfl ?_ rfl ?_;omega)|(refine zD rfl rfl ?_ rfl ?_;omega)|(refine zP rfl ?_ rfl ?_;omega)|refine zG rfl rfl rfl rfl ?_|(refine jdq rfl rfl ?_ ?_ ?_;kernel_rfl;kernel_rfl)|refine zB rfl rfl rfl (by repeat constructor) rfl ?_|refine zH .here rfl rfl rfl rfl ?_|refine zH (.there .here) rfl rfl rfl rfl ?_|refine zH (.there (.there .here)) rfl rfl rfl rfl ?_)
        refine J_again (P', [y] ++ S, .slice (some ⟨g, off, none⟩) (P' ++ ([y] ++ S)).length c2, G0) ⟨hG0, hrow0, heq0, hlen0⟩ (by dsimp only; omega) ⟨⟨rfl, rfl, ?_, trivial⟩, fun w s => s⟩
        dsimp only
        rw [show ((P'.length + 1 : Nat) : Int) - 1 = (P'.length : Int) from by omega]
        rfl
  · rw [List.concat_eq_append] at *
    rw [List.append_assoc] at hrow hlen
    rw [List.filter_append] at heq
    obtain ⟨_, a2, c2, hv2, _, _⟩ := id hrow
    subst hv2
    have hPl : (P' ++ [y]).length = P'.length + 1 := by simp
    rw [hPl]
    have hlt : P'.length < (P' ++ ([y] ++ S)).length := by simp only [List.length_append, List.length_singleton]; omega
    obtain ⟨g, off, rfl, hc⟩ := SliceV.row (css := (P' ++ ([y] ++ S)).map PV.cs) (i := P'.length) (r := y.cs) hrow (fun c hc => by obtain ⟨q, _, rfl⟩ := List.mem_map.1 hc; exact q.len) (by rw [List.getElem?_map, List.singleton_append, get_mid]; rfl) hlt
    have ix : some (Value.int .i64 (((P'.length + 1 : Nat) : Int) - 1)) = some (Value.int .i64 (P'.length : Int)) := by congr 2; omega
    repeat (first|refine zJ rfl rfl ?_|refine jr rfl ?_|refine jn ?_|refine zM rfl rfl ?_|(refine zC rfl rfl ?_ rfl ?_;omega)|(refine zD rfl rfl ?_ rfl ?_;omega)|(refine zP rfl ?_ rfl ?_;omega)|refine zG rfl rfl rfl rfl ?_|(refine jdq rfl rfl ?_ ?_ ?_;kernel_rfl;kernel_rfl)|refine zB rfl rfl rfl (by repeat constructor) rfl ?_|refine zH .here rfl rfl rfl rfl ?_|refine zH (.there .here) rfl rfl rfl rfl ?_|refine zH (.there (.there .here)) rfl rfl rfl rfl ?_)
    refine oS (ev_indexAddr (i := P'.length) rfl ix rfl hlt) rfl ?_
    refine oS (ev_fieldAddr rfl rfl) rfl ?_
    refine oS (ev_load (v := .int .i64 y.s) rfl rfl (Rdb.ofF (Cells.one hc 0 rfl))) rfl ?_
    by_cases hs : y.s ≤ low
    · have hfy : ([y].filter fun y => !decide (y.s ≤ low)) = [] := by simp [hs]
      rw [hfy, List.append_nil] at heq
      repeat (first|refine zJ rfl rfl ?_|refine jr rfl ?_|refine jn ?_|refine zM rfl rfl ?_|(refine zC rfl rfl ?_ rfl ?_;omega)|(refine zD rfl rfl ?_ rfl ?_;omega)|(refine zP rfl ?_ rfl ?_;omega)|refine zG rfl rfl rfl rfl ?_|(refine jdq rfl rfl ?_ ?_ ?_;kernel_rfl;kernel_rfl)|refine zB rfl rfl rfl (by repeat constructor) rfl ?_|refine zH .here rfl rfl rfl rfl ?_|refine zH (.there .here) rfl rfl rfl rfl ?_|refine zH (.there (.there .here)) rfl rfl rfl rfl ?_)
      refine oC (Hc := []) (Hr := blk b 50 [.slice (some ⟨g, off, none⟩) (P' ++ ([y] ++ S)).length c2, (.slice am M.length cm)] :: X) (spec_args (withoutF_spec _ P' y S G hlen hrow) (by rw [show ((P'.length + 1 : Nat) : Int) - 1 = (P'.length : Int) from by omega])) Try.call39 rfl rfl (fun _ s => s) ?_
      rintro u _ _ _ ⟨rfl, rfl⟩
      refine oPersist fun hh hA hd => ?_
      have hrow' := PvRow.of hA hd
      have hG1 := PH.le_l G hh
      generalize G.un hh = G1 at *
      obtain ⟨_, a3, c3, hu, _, _⟩ := id hrow'
      subst hu
      repeat (first|refine zJ rfl rfl ?_|refine jr rfl ?_|refine jn ?_|refine zM rfl rfl ?_|(refine zC rfl rfl ?_ rfl ?_;omega)|(refine zD rfl rfl ?_ rfl ?_;omega)|(refine zP rfl ?_ rfl ?_;omega)|refine zG rfl rfl rfl rfl ?_|(refine jdq rfl rfl ?_ ?_ ?_;kernel_rfl;kernel_rfl)|refine zB rfl rfl rfl (by repeat constructor) rfl ?_|refine zH .here rfl rfl rfl rfl ?_|refine zH (.there .here) rfl rfl rfl rfl ?_|refine zH (.there (.there .here)) rfl rfl rfl rfl ?_)
      refine oN (ev_store (b := b) (off := 0 + 0) (vs := [.slice a3 (P' ++ S).length c3]) rfl rfl (by constructor) rfl rfl (s := [.slice a3 (P' ++ S).length c3, (.slice am M.length cm)]) (.put .nil) (ones_cons rfl ones_nil) .here) rfl ?_
      rintro _ _ _ _ ⟨rfl, rfl, rfl⟩
      repeat (first|refine zJ rfl rfl ?_|refine jr rfl ?_|refine jn ?_|refine zM rfl rfl ?_|(refine zC rfl rfl ?_ rfl ?_;omega)|(refine zD rfl rfl ?_ rfl ?_;omega)|(refine zP rfl ?_ rfl ?_;omega)|refine zG rfl rfl rfl rfl ?_|(refine jdq rfl rfl ?_ ?_ ?_;kernel_rfl;kernel_rfl)|refine zB rfl rfl rfl (by repeat constructor) rfl ?_|refine zH .here rfl rfl rfl rfl ?_|refine zH (.there .here) rfl rfl rfl rfl ?_|refine zH (.there (.there .here)) rfl rfl rfl rfl ?_)
      refine J_again (P', S, .slice a3 (P' ++ S).length c3, G1) ⟨hG.trans hG1, hrow', heq, by dsimp only; simp only [List.length_append, List.length_singleton] at hlen ⊢; omega⟩ (by dsimp only; omega) ⟨⟨rfl, rfl, ?_, trivial⟩, fun w s => s⟩
      dsimp only
      rw [show ((P'.length + 1 : Nat) : Int) - 1 = (P'.length : Int) from by omega]
      rfl
    · have hfy : ([y].filter fun y => !decide (y.s ≤ low)) = [y] := by simp [hs]
      rw [hfy, List.append_assoc] at heq
      repeat (first|refine zJ rfl rfl ?_|refine jr rfl ?_|refine jn ?_|refine zM rfl rfl ?_|(refine zC rfl rfl ?_ rfl ?_;omega)|(refine zD rfl rfl ?_ rfl ?_;omega)|(refine zP rfl ?_ rfl ?_;omega)|refine zG rfl rfl rfl rfl ?_|(refine jdq rfl rfl ?_ ?_ ?_;kernel_rfl;kernel_rfl)|refine zB rfl rfl rfl (by repeat constructor) rfl ?_|refine zH .here rfl rfl rfl rfl ?_|refine zH (.there .here) rfl rfl rfl rfl ?_|refine zH (.there (.there .here)) rfl rfl rfl rfl ?_)
      refine J_again (P', [y] ++ S, .slice (some ⟨g, off, none⟩) (P' ++ ([y] ++ S)).length c2, G) ⟨hG, hrow, heq, hlen⟩ (by dsimp only; omega) ⟨⟨rfl, rfl, ?_, trivial⟩, fun w s => s⟩
      dsimp only
      rw [show ((P'.length + 1 : Nat) : Int) - 1 = (P'.length : Int) from by omega]
      rfl
end Go.Proofs.Ytmicjjhkoicdnaa
