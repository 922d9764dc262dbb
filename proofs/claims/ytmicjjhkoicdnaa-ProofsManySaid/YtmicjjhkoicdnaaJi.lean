/-
  Proofs kept by a call: one put in an older one's place. Conditions are typed with each.
-/
import Derived.Test.YtmicjjhkoicdnaaJh
namespace Go.Proofs.Ytmicjjhkoicdnaa
open Go.RowKit
set_option maxRecDepth 100000
def prO (v : Value) (L : List PV) : Asrt := own v 43 3 L.length (rowC PV.cs L)
theorem rowC_snoc (L : List PV) (z : PV) : rowC PV.cs (L ++ [z]) = rowC PV.cs L ++ z.cs := by rw [rowC_append]; simp [rowC]
set_option maxHeartbeats 4000000 in
theorem newer_spec (f : FuncId) (caps : List Value) (h : PrX → Bool) (v : Value) (L : List PV) (x : PV) (F : PH) (hn : L.length ≤ 900) (hL : ∀ y ∈ L, y.Ok F) (hx : x.Ok F) (hcall : ∀ args w, (callFunc f args).run Try.prog w = .ok (.enter f args) w)
    (hs : ∀ y : PV, y.Ok F → Pure Try.prog f (.agg y.cs.toArray :: caps) F (.bool (h y.key))) : Spec Try.prog 32 [v, .agg x.cs.toArray, fnV f caps] F [prO v L] fun u F' H' => ∃ L', H' = [prO u L'] ∧ (∀ y ∈ L', y.Ok F') ∧ L'.map PV.key = newerP h (L.map PV.key) x.key := by
  refine Spec.of3 Try.func32 rfl rfl fun X w0 => ?_
  show J _ _ _ _ (own v 43 3 L.length (rowC PV.cs L) :: X)
  refine jOwnA .here fun a c hv hnc hcm hlen ha => ?_
  subst hv
  refine jc rfl rfl ?_
  refine jr rfl ?_
  refine oE (ev_box rfl .agg) rfl ?_; rintro _ _ _ _ ⟨rfl, b4, rfl, rfl⟩
  repeat (first|refine zJ rfl rfl ?_|refine jr rfl ?_|refine jn ?_|refine zM rfl rfl ?_|(refine zC rfl rfl ?_ rfl ?_;omega)|(refine zD rfl rfl ?_ rfl ?_;omega)|(refine zP rfl ?_ rfl ?_;omega)|refine zG rfl rfl rfl rfl ?_|(refine jdq rfl rfl ?_ ?_ ?_;kernel_rfl;kernel_rfl)|refine zB rfl rfl rfl (by repeat constructor) rfl ?_|refine zH .here rfl rfl rfl rfl ?_|refine zH (.there .here) rfl rfl rfl rfl ?_|refine zH (.there (.there .here)) rfl rfl rfl rfl ?_)
  refine oC (Hc := [own (.slice a L.length c) 43 3 L.length (rowC PV.cs L)]) (Hr := blk b4 43 x.cs :: X) (pidx_spec f caps (fun y => h y.key) a L.length c L F rfl (by omega) ha hcall (fun y hy => hs y (hL y hy))) Try.call47 rfl rfl (fun _ s => s.pm 2 [1, 0] rfl rfl) ?_
  rintro _ _ _ _ ⟨rfl, rfl, rfl⟩
  rcases idx_split (fun y => h y.key) L 0 with ⟨e, hno⟩ | ⟨A, y, B, rfl, e, hy, hA⟩
  · rw [e]
    repeat (first|refine zJ rfl rfl ?_|refine jr rfl ?_|refine jn ?_|refine zM rfl rfl ?_|(refine zC rfl rfl ?_ rfl ?_;omega)|(refine zD rfl rfl ?_ rfl ?_;omega)|(refine zP rfl ?_ rfl ?_;omega)|refine zG rfl rfl rfl rfl ?_|(refine jdq rfl rfl ?_ ?_ ?_;kernel_rfl;kernel_rfl)|refine zB rfl rfl rfl (by repeat constructor) rfl ?_|refine zH .here rfl rfl rfl rfl ?_|refine zH (.there .here) rfl rfl rfl rfl ?_|refine zH (.there (.there .here)) rfl rfl rfl rfl ?_)
    refine oS (ev_load_agg (cs := x.cs) rfl rfl (Rdb.ofB (n := 0) (.there .here) rfl) rfl) rfl ?_
    refine oC (Hc := []) (Hr := own (.slice a L.length c) 43 3 L.length (rowC PV.cs L) :: blk b4 43 x.cs :: X) (twin_spec x F hx) Try.call48 rfl rfl (fun _ s => s) ?_
    rintro u F2 _ hF ⟨rfl, z, rfl, hz, hzk⟩
    refine oE (ev_one rfl .agg z.len elPf) rfl ?_
    rintro _ _ _ _ ⟨rfl, bt, rfl, rfl⟩
    refine oE (ev_append (m := 1) (c := 1) (b := bt) (off := 0) (n := L.length) (xs := rowC PV.cs L) (news := z.cs) (K := fun v' => blk bt 43 z.cs :: own v' 43 3 (L.length + 1) (rowC PV.cs L ++ z.cs) :: blk b4 43 x.cs :: X) rfl rfl elPf (Rdb.ofB (n := 0) .here rfl) rfl z.ones (by omega) (by unfold maxLen; omega) (fun v' => .there .here)) rfl ?_
    rintro u' _ _ _ ⟨rfl, _, rfl⟩
    repeat (first|refine zJ rfl rfl ?_|refine jr rfl ?_|refine jn ?_|refine zM rfl rfl ?_|(refine zC rfl rfl ?_ rfl ?_;omega)|(refine zD rfl rfl ?_ rfl ?_;omega)|(refine zP rfl ?_ rfl ?_;omega)|refine zG rfl rfl rfl rfl ?_|(refine jdq rfl rfl ?_ ?_ ?_;kernel_rfl;kernel_rfl)|refine zB rfl rfl rfl (by repeat constructor) rfl ?_|refine zH .here rfl rfl rfl rfl ?_|refine zH (.there .here) rfl rfl rfl rfl ?_|refine zH (.there (.there .here)) rfl rfl rfl rfl ?_)
    refine J_retv (vs := [u']) rfl (.tmp rfl .nil) [prO u' (L ++ [z])] (fun w s => ?_) hF ⟨L ++ [z], rfl, fun y hy => ?_, ?_⟩
    · unfold prO
      rw [rowC_snoc, List.length_append, List.length_singleton]
      exact ((s.drop).pm 2 [1, 0] rfl rfl).drop
    · rcases List.mem_append.1 hy with hy | hy
      · exact (hL y hy).mono hF
      · obtain rfl := List.mem_singleton.1 hy
        exact hz
    · rw [List.map_append, newer_none (fun y hy => by obtain ⟨y', hy', rfl⟩ := List.mem_map.1 hy; exact hno y' hy'), List.map_singleton, hzk]
  · obtain ⟨b, rfl⟩ := ha (by rw [List.length_append, List.length_cons]; omega)
    have g1 : (A ++ y :: B)[A.length]? = some y := get_mid A y B
    have hAl : A.length < (A ++ y :: B).length := by rw [List.length_append, List.length_cons]; omega
    have hkey : newerP h ((A ++ y :: B).map PV.key) x.key = if y.w < x.w then ((A ++ B).map PV.key) ++ [x.key] else (A ++ y :: B).map PV.key := by
      rw [List.map_append, List.map_cons, newer_some (fun z hz => by obtain ⟨z', hz', rfl⟩ := List.mem_map.1 hz; exact hA z' hz') hy, List.map_append]
      rfl
    rw [e, Int.zero_add]
    generalize hln : (A ++ y :: B).length = n at *
    repeat (first|refine zJ rfl rfl ?_|refine jr rfl ?_|refine jn ?_|refine zM rfl rfl ?_|(refine zC rfl rfl ?_ rfl ?_;omega)|(refine zD rfl rfl ?_ rfl ?_;omega)|(refine zP rfl ?_ rfl ?_;omega)|refine zG rfl rfl rfl rfl ?_|(refine jdq rfl rfl ?_ ?_ ?_;kernel_rfl;kernel_rfl)|refine zB rfl rfl rfl (by repeat constructor) rfl ?_|refine zH .here rfl rfl rfl rfl ?_|refine zH (.there .here) rfl rfl rfl rfl ?_|refine zH (.there (.there .here)) rfl rfl rfl rfl ?_)
    refine oS (ev_indexAddr (i := A.length) rfl rfl rfl (by omega)) rfl ?_
    refine oS (ev_fieldAddr rfl rfl) rfl ?_
    refine oS (ev_load (v := .int .i64 y.w) rfl rfl ((rdb_row .here PV.len g1).take 1 1)) rfl ?_
    by_cases hw : y.w < x.w
    rotate_left
    · rw [if_neg hw] at hkey
      repeat (first|refine zJ rfl rfl ?_|refine jr rfl ?_|refine jn ?_|refine zM rfl rfl ?_|(refine zC rfl rfl ?_ rfl ?_;omega)|(refine zD rfl rfl ?_ rfl ?_;omega)|(refine zP rfl ?_ rfl ?_;omega)|refine zG rfl rfl rfl rfl ?_|(refine jdq rfl rfl ?_ ?_ ?_;kernel_rfl;kernel_rfl)|refine zB rfl rfl rfl (by repeat constructor) rfl ?_|refine zH .here rfl rfl rfl rfl ?_|refine zH (.there .here) rfl rfl rfl rfl ?_|refine zH (.there (.there .here)) rfl rfl rfl rfl ?_)
      refine J_retv (vs := [_]) rfl (.tmp rfl .nil) [prO _ (A ++ y :: B)] (fun w s => ?_) (PH.ler _) ⟨A ++ y :: B, rfl, hL, hkey.symm⟩
      unfold prO
      rw [hln]
      exact (s.pm 2 [1, 0] rfl rfl).drop
    rw [if_pos hw] at hkey
    repeat (first|refine zJ rfl rfl ?_|refine jr rfl ?_|refine jn ?_|refine zM rfl rfl ?_|(refine zC rfl rfl ?_ rfl ?_;omega)|(refine zD rfl rfl ?_ rfl ?_;omega)|(refine zP rfl ?_ rfl ?_;omega)|refine zG rfl rfl rfl rfl ?_|(refine jdq rfl rfl ?_ ?_ ?_;kernel_rfl;kernel_rfl)|refine zB rfl rfl rfl (by repeat constructor) rfl ?_|refine zH .here rfl rfl rfl rfl ?_|refine zH (.there .here) rfl rfl rfl rfl ?_|refine zH (.there (.there .here)) rfl rfl rfl rfl ?_)
    dsimp only [List.cons_append, List.nil_append]
    refine ja F [blk b4 43 x.cs] ?_ (fun w t => (t.pick (.there .here)).head) ?_; kernel_rfl
    refine aT 0 rfl (ev_pv rfl) rfl rfl ?_ ?_ ?_ ?_; kernel_rfl; kernel_rfl; kernel_rfl
    refine aT 1 rfl (ev_pv rfl) rfl rfl ?_ ?_ ?_ ?_; kernel_rfl; kernel_rfl; kernel_rfl
    refine aT 2 rfl (ev_pv rfl) rfl rfl ?_ ?_ ?_ ?_; kernel_rfl; kernel_rfl; kernel_rfl
    refine aT 3 rfl (ea rfl rfl rfl (by dsimp only [InK]; omega)) rfl rfl ?_ ?_ ?_ ?_; kernel_rfl; kernel_rfl; kernel_rfl
    refine aT 5 rfl (ev_load_agg (cs := x.cs) rfl rfl (Rdb.ofB (b := b4) (E := 43) (r := x.cs) (n := 0) .here rfl) rfl) rfl rfl ?_ ?_ ?_ ?_; kernel_rfl; kernel_rfl; kernel_rfl
    refine aB (i := 4) (by kernel_rfl) (aC (Hc := [own (.slice (some ⟨b, 0, none⟩) n c) 43 3 n (rowC PV.cs (A ++ y :: B))]) (Hr := blk b4 43 x.cs :: X) rfl (pdel_spec b n c A y B hln (by omega) hnc F) Try.call36 rfl rfl rfl (fun _ s => s) (fun _ _ _ _ hq w s => by obtain ⟨rfl, _, rfl⟩ := hq; exact (s.pick (.there .here)).head) ?_)
    rintro _ _ _ _ ⟨rfl, rfl, rfl⟩
    refine aB (i := 6) (by kernel_rfl) (aC (Hc := []) (Hr := own (.slice (some ⟨b, 0, none⟩) (n - 1) c) 43 3 (n - 1) (rowC PV.cs (A ++ B)) :: blk b4 43 x.cs :: X) rfl (twin_spec x F hx) Try.call48 rfl rfl rfl (fun _ s => s) (fun _ _ _ hF hq w s => by obtain ⟨rfl, _⟩ := hq; exact ((s.pick (.there .here)).head).mono hF) ?_)
    rintro u F2 _ hF ⟨rfl, z, rfl, hz, hzk⟩
    refine aB (i := 7) (by kernel_rfl) (aE rfl (ev_one rfl .agg z.len elPf) rfl rfl ?_ ?_)
    · rintro _ _ _ _ ⟨rfl, bt, rfl, rfl⟩ w s
      exact ((s.pick (.there (.there .here))).head).mono hF
    rintro _ _ _ _ ⟨rfl, bt, rfl, rfl⟩
    refine aB (i := 8) (by kernel_rfl) (aE rfl (ev_append (m := 1) (c := 1) (b := bt) (off := 0) (n := n - 1) (xs := rowC PV.cs (A ++ B)) (news := z.cs) (K := fun v' => blk bt 43 z.cs :: own v' 43 3 (n - 1 + 1) (rowC PV.cs (A ++ B) ++ z.cs) :: blk b4 43 x.cs :: X) rfl rfl elPf (Rdb.ofB (n := 0) .here rfl) rfl z.ones (by omega) (by unfold maxLen; omega) (fun v' => .there .here)) rfl rfl ?_ ?_)
    · rintro _ _ _ _ ⟨rfl, _, rfl⟩ w s
      exact ((s.pick (.there (.there .here))).head).mono hF
    rintro u' _ _ _ ⟨rfl, _, rfl⟩
    refine aT 9 rfl (ev_pv rfl) rfl rfl ?_ ?_ ?_ ?_; kernel_rfl; kernel_rfl; kernel_rfl
    refine aD (by kernel_rfl) ?_
    repeat (first|refine zJ rfl rfl ?_|refine jr rfl ?_|refine jn ?_|refine zM rfl rfl ?_|(refine zC rfl rfl ?_ rfl ?_;omega)|(refine zD rfl rfl ?_ rfl ?_;omega)|(refine zP rfl ?_ rfl ?_;omega)|refine zG rfl rfl rfl rfl ?_|(refine jdq rfl rfl ?_ ?_ ?_;kernel_rfl;kernel_rfl)|refine zB rfl rfl rfl (by repeat constructor) rfl ?_|refine zH .here rfl rfl rfl rfl ?_|refine zH (.there .here) rfl rfl rfl rfl ?_|refine zH (.there (.there .here)) rfl rfl rfl rfl ?_)
    refine J_retv (vs := [u']) rfl (.tmp rfl .nil) [prO u' ((A ++ B) ++ [z])] (fun w s => ?_) hF ⟨(A ++ B) ++ [z], rfl, fun q hq => ?_, ?_⟩
    · unfold prO
      rw [rowC_snoc, show ((A ++ B) ++ [z]).length = n - 1 + 1 from by rw [← hln]; simp only [List.length_append, List.length_cons, List.length_nil]; omega]
      exact ((s.drop).pm 2 [1, 0] rfl rfl).drop
    · rcases List.mem_append.1 hq with hq | hq
      · exact (hL q (by rcases List.mem_append.1 hq with hq | hq; exact List.mem_append_left _ hq; exact List.mem_append_right _ (List.mem_cons_of_mem _ hq))).mono hF
      · obtain rfl := List.mem_singleton.1 hq
        exact hz
    · rw [List.map_append, List.map_singleton, hzk, hkey]
end Go.Proofs.Ytmicjjhkoicdnaa
