/-
  What the document keeps of what was proposed. Conditions are typed with each.
  The document's sorted rows of proofs. Conditions are typed with each.
  Both sides of what is kept agree; acts that come in. Conditions are typed with each.
-/
import Derived.Test.YtmicjjhkoicdnaaJr
import Derived.Test.YtmicjjhkoicdnaaJo
namespace Go.Proofs.Ytmicjjhkoicdnaa
open Go.RowKit
set_option maxRecDepth 100000
set_option maxHeartbeats 8000000 in
theorem rprop_spec (b : Nat) (v1 v2 : Value) (L : List PV) (x : PV) (F : PH) (hn : L.length ≤ 64) (hL : ∀ y ∈ L, y.Ok F) (hx : x.Ok F) (hr : PvRow F v2 L) :
    Spec Try.prog 20 [.pointer (some ⟨b, 0, none⟩), .agg x.cs.toArray] F [blk b 50 [v1, v2]] fun _ F' H' => ∃ v' L', H' = [blk b 50 [v1, v']] ∧ PvRow F' v' L' ∧ (∀ y ∈ L', y.Ok F') ∧ L'.map PV.key = propP (L.map PV.key) x.key := by
  refine Spec.of2 Try.func20 rfl rfl fun X w0 => ?_
  show J _ _ _ _ (blk b 50 [v1, v2] :: X)
  obtain ⟨hl0, a, c, hv, hnc, hcell⟩ := id hr
  subst hv
  refine jc rfl rfl ?_
  refine jr rfl ?_
  refine oE (ev_box rfl .agg) rfl ?_; rintro _ _ _ _ ⟨rfl, b3, rfl, rfl⟩
  repeat (first|refine zJ rfl rfl ?_|refine jr rfl ?_|refine jn ?_|refine zM rfl rfl ?_|(refine zC rfl rfl ?_ rfl ?_;omega)|(refine zD rfl rfl ?_ rfl ?_;omega)|(refine zP rfl ?_ rfl ?_;omega)|refine zG rfl rfl rfl rfl ?_|(refine jdq rfl rfl ?_ ?_ ?_;kernel_rfl;kernel_rfl)|refine zB rfl rfl rfl (by repeat constructor) rfl ?_|refine zH .here rfl rfl rfl rfl ?_|refine zH (.there .here) rfl rfl rfl rfl ?_|refine zH (.there (.there .here)) rfl rfl rfl rfl ?_)
  refine J_loop (ι := Nat) (fun i => i ≤ L.length ∧ ∀ z ∈ L.take i, alikeP x.key z.key = false) (fun i => L.length - i) (fun i => [(0, .pointer (some ⟨b, 0, none⟩)), (3, .pointer (some ⟨b3, 0, none⟩)), (13, .slice a L.length c), (14, .int .i64 L.length), (15, .int .i64 i)]) (fun _ => F) (fun _ => blk b3 43 x.cs :: blk b 50 [v1, .slice a L.length c] :: X) 0 ⟨Nat.zero_le _, fun z h => absurd h (by simp)⟩ ⟨⟨rfl, rfl, rfl, rfl, rfl, trivial⟩, fun w s => s⟩ ?_
  rintro i ⟨hi, hno⟩
  by_cases hlt : i < L.length
  · have g1 : L[i]? = some L[i] := List.getElem?_eq_getElem hlt
    have htk : L.take (i + 1) = L.take i ++ [L[i]] := List.take_succ_eq_append_getElem hlt
    have hcut : L = L.take i ++ L[i] :: L.drop (i + 1) := by rw [← List.drop_eq_getElem_cons, List.take_append_drop]
    have hyL := List.getElem_mem hlt
    generalize L[i] = y at *
    obtain ⟨g, off, rfl, hc⟩ := SliceV.row (css := L.map PV.cs) (i := i) (r := y.cs) hr (fun c hc => by obtain ⟨q, _, rfl⟩ := List.mem_map.1 hc; exact q.len) (by rw [List.getElem?_map, g1]; rfl) hlt
    repeat (first|refine zJ rfl rfl ?_|refine jr rfl ?_|refine jn ?_|refine zM rfl rfl ?_|(refine zC rfl rfl ?_ rfl ?_;omega)|(refine zD rfl rfl ?_ rfl ?_;omega)|(refine zP rfl ?_ rfl ?_;omega)|refine zG rfl rfl rfl rfl ?_|(refine jdq rfl rfl ?_ ?_ ?_;kernel_rfl;kernel_rfl)|refine zB rfl rfl rfl (by repeat constructor) rfl ?_|refine zH .here rfl rfl rfl rfl ?_|refine zH (.there .here) rfl rfl rfl rfl ?_|refine zH (.there (.there .here)) rfl rfl rfl rfl ?_)
    refine oS (ev_indexAddr (i := i) rfl rfl rfl hlt) rfl ?_
    refine oS (ev_load_agg (cs := y.cs) rfl rfl (Rdb.ofF hc) y.len) rfl ?_
    refine oE (ev_alloc (cs := zPf) rfl) rfl ?_
    rintro _ _ _ _ ⟨rfl, b5, rfl, rfl⟩
    repeat (first|refine zJ rfl rfl ?_|refine jr rfl ?_|refine jn ?_|refine zM rfl rfl ?_|(refine zC rfl rfl ?_ rfl ?_;omega)|(refine zD rfl rfl ?_ rfl ?_;omega)|(refine zP rfl ?_ rfl ?_;omega)|refine zG rfl rfl rfl rfl ?_|(refine jdq rfl rfl ?_ ?_ ?_;kernel_rfl;kernel_rfl)|refine zB rfl rfl rfl (by repeat constructor) rfl ?_|refine zH .here rfl rfl rfl rfl ?_|refine zH (.there .here) rfl rfl rfl rfl ?_|refine zH (.there (.there .here)) rfl rfl rfl rfl ?_)
    refine oN (ev_store (b := b5) (off := 0) rfl rfl .agg rfl y.len (lay_all (zs := zPf) rfl) y.ones .here) rfl ?_
    rintro _ _ _ _ ⟨rfl, rfl, rfl⟩
    have hno' : alikeP x.key y.key = false → ∀ z ∈ L.take (i + 1), alikeP x.key z.key = false := by
      intro h z hz
      rw [htk] at hz
      rcases List.mem_append.1 hz with hz | hz
      · exact hno z hz
      · obtain rfl := List.mem_singleton.1 hz
        exact h
    by_cases hs : y.s = x.s
    rotate_left
    · have hlk : alikeP x.key y.key = false := by
        show (decide (y.s = x.s) && _) = false
        rw [decide_eq_false hs, Bool.false_and]
      repeat (first|refine zJ rfl rfl ?_|refine jr rfl ?_|refine jn ?_|refine zM rfl rfl ?_|(refine zC rfl rfl ?_ rfl ?_;omega)|(refine zD rfl rfl ?_ rfl ?_;omega)|(refine zP rfl ?_ rfl ?_;omega)|refine zG rfl rfl rfl rfl ?_|(refine jdq rfl rfl ?_ ?_ ?_;kernel_rfl;kernel_rfl)|refine zB rfl rfl rfl (by repeat constructor) rfl ?_|refine zH .here rfl rfl rfl rfl ?_|refine zH (.there .here) rfl rfl rfl rfl ?_|refine zH (.there (.there .here)) rfl rfl rfl rfl ?_)
      refine J_again (i + 1) ⟨hlt, hno' hlk⟩ (by omega) ⟨⟨rfl, rfl, rfl, rfl, rfl, trivial⟩, fun w s => s.drop⟩
    have sp := rsame_spec _ _ y.es x.es F (hL y hyL).2.2.1 hx.2.2.1
    by_cases he : sameE y.es x.es = true
    rotate_left
    · replace he : sameE y.es x.es = false := by simpa using he
      have hlk : alikeP x.key y.key = false := by
        show (_ && sameE y.es x.es) = false
        rw [he, Bool.and_false]
      rw [he] at sp
      repeat (first|refine zJ rfl rfl ?_|refine jr rfl ?_|refine jn ?_|refine zM rfl rfl ?_|(refine zC rfl rfl ?_ rfl ?_;omega)|(refine zD rfl rfl ?_ rfl ?_;omega)|(refine zP rfl ?_ rfl ?_;omega)|refine zG rfl rfl rfl rfl ?_|(refine jdq rfl rfl ?_ ?_ ?_;kernel_rfl;kernel_rfl)|refine zB rfl rfl rfl (by repeat constructor) rfl ?_|refine zH .here rfl rfl rfl rfl ?_|refine zH (.there .here) rfl rfl rfl rfl ?_|refine zH (.there (.there .here)) rfl rfl rfl rfl ?_)
      refine oP (sp) Try.call40 rfl rfl ?_
      repeat (first|refine zJ rfl rfl ?_|refine jr rfl ?_|refine jn ?_|refine zM rfl rfl ?_|(refine zC rfl rfl ?_ rfl ?_;omega)|(refine zD rfl rfl ?_ rfl ?_;omega)|(refine zP rfl ?_ rfl ?_;omega)|refine zG rfl rfl rfl rfl ?_|(refine jdq rfl rfl ?_ ?_ ?_;kernel_rfl;kernel_rfl)|refine zB rfl rfl rfl (by repeat constructor) rfl ?_|refine zH .here rfl rfl rfl rfl ?_|refine zH (.there .here) rfl rfl rfl rfl ?_|refine zH (.there (.there .here)) rfl rfl rfl rfl ?_)
      refine J_again (i + 1) ⟨hlt, hno' hlk⟩ (by omega) ⟨⟨rfl, rfl, rfl, rfl, rfl, trivial⟩, fun w s => s.drop⟩
    · have hlk : alikeP x.key y.key = true := by
        show (decide (y.s = x.s) && sameE y.es x.es) = true
        rw [decide_eq_true hs, he]
        rfl
      rw [he] at sp
      obtain ⟨A, B, rfl, rfl⟩ : ∃ A B, L = A ++ y :: B ∧ A.length = i := ⟨_, _, hcut, by rw [List.length_take]; omega⟩
      rw [List.take_left] at hno
      have hkey : newerP (alikeP x.key) ((A ++ y :: B).map PV.key) x.key = if y.w < x.w then (A ++ B).map PV.key ++ [x.key] else (A ++ y :: B).map PV.key := by
        rw [List.map_append, List.map_cons, newer_some, List.map_append]
        · rfl
        · intro z hz
          obtain ⟨q, hq, rfl⟩ := List.mem_map.1 hz
          exact hno q hq
        · exact hlk
      have hpr : propP ((A ++ y :: B).map PV.key) x.key = newerP (alikeP x.key) ((A ++ y :: B).map PV.key) x.key := by
        unfold propP
        dsimp only
        rw [if_pos]
        rw [hkey]
        split
        · simp only [List.length_append, List.length_map, List.length_cons, List.length_nil] at hn ⊢; omega
        · rw [List.length_map]; exact hn
      repeat (first|refine zJ rfl rfl ?_|refine jr rfl ?_|refine jn ?_|refine zM rfl rfl ?_|(refine zC rfl rfl ?_ rfl ?_;omega)|(refine zD rfl rfl ?_ rfl ?_;omega)|(refine zP rfl ?_ rfl ?_;omega)|refine zG rfl rfl rfl rfl ?_|(refine jdq rfl rfl ?_ ?_ ?_;kernel_rfl;kernel_rfl)|refine zB rfl rfl rfl (by repeat constructor) rfl ?_|refine zH .here rfl rfl rfl rfl ?_|refine zH (.there .here) rfl rfl rfl rfl ?_|refine zH (.there (.there .here)) rfl rfl rfl rfl ?_)
      refine oP (sp) Try.call40 rfl rfl ?_
      by_cases hw : y.w < x.w
      rotate_left
      · rw [if_neg hw] at hkey
        repeat (first|refine zJ rfl rfl ?_|refine jr rfl ?_|refine jn ?_|refine zM rfl rfl ?_|(refine zC rfl rfl ?_ rfl ?_;omega)|(refine zD rfl rfl ?_ rfl ?_;omega)|(refine zP rfl ?_ rfl ?_;omega)|refine zG rfl rfl rfl rfl ?_|(refine jdq rfl rfl ?_ ?_ ?_;kernel_rfl;kernel_rfl)|refine zB rfl rfl rfl (by repeat constructor) rfl ?_|refine zH .here rfl rfl rfl rfl ?_|refine zH (.there .here) rfl rfl rfl rfl ?_|refine zH (.there (.there .here)) rfl rfl rfl rfl ?_)
        exact J_retv (rs := []) (vs := []) rfl .nil [_] (fun w s => s.drop.drop) (PH.ler _) ⟨_, A ++ y :: B, rfl, hr, hL, (hpr.trans hkey).symm⟩
      · rw [if_pos hw] at hkey
        replace hkey : ((A ++ B) ++ [x]).map PV.key = newerP (alikeP x.key) ((A ++ y :: B).map PV.key) x.key := by rw [hkey, List.map_append (l₂ := [x]), List.map_singleton]
        have hfin : ∀ q ∈ (A ++ B) ++ [x], q.Ok F := by
          intro q hq
          rcases List.mem_append.1 hq with hq | hq
          · exact hL q (by rcases List.mem_append.1 hq with hq | hq; exact List.mem_append_left _ hq; exact List.mem_append_right _ (List.mem_cons_of_mem _ hq))
          · obtain rfl := List.mem_singleton.1 hq
            exact hx
        have hlx : ((A ++ B) ++ [x]).length = (A ++ B).length + 1 := by simp only [List.length_append, List.length_singleton]
        have hab : (A ++ B).length + 1 = (A ++ y :: B).length := by simp only [List.length_append, List.length_cons]; omega
        repeat (first|refine zJ rfl rfl ?_|refine jr rfl ?_|refine jn ?_|refine zM rfl rfl ?_|(refine zC rfl rfl ?_ rfl ?_;omega)|(refine zD rfl rfl ?_ rfl ?_;omega)|(refine zP rfl ?_ rfl ?_;omega)|refine zG rfl rfl rfl rfl ?_|(refine jdq rfl rfl ?_ ?_ ?_;kernel_rfl;kernel_rfl)|refine zB rfl rfl rfl (by repeat constructor) rfl ?_|refine zH .here rfl rfl rfl rfl ?_|refine zH (.there .here) rfl rfl rfl rfl ?_|refine zH (.there (.there .here)) rfl rfl rfl rfl ?_)
        refine jaL F [blk b3 43 x.cs, blk b 50 [v1, .slice (some ⟨g, off, none⟩) (A ++ y :: B).length c]] rfl ?_ ?_ (fun w t => Sat.left (A := [_, _]) t.drop) ?_; kernel_rfl; kernel_rfl; dsimp only [List.dropLast]
        refine aT 0 rfl (ev_qe rfl) rfl rfl ?_ ?_ ?_ ?_; kernel_rfl; kernel_rfl; kernel_rfl
        refine aT 1 rfl (ev_qe rfl) rfl rfl ?_ ?_ ?_ ?_; kernel_rfl; kernel_rfl; kernel_rfl
        refine aT 2 rfl (ev_qe rfl) rfl rfl ?_ ?_ ?_ ?_; kernel_rfl; kernel_rfl; kernel_rfl
        refine aT 3 rfl (ev_qe rfl) rfl rfl ?_ ?_ ?_ ?_; kernel_rfl; kernel_rfl; kernel_rfl
        refine aT 4 rfl (ev_load (v := .slice (some ⟨g, off, none⟩) (A ++ y :: B).length c) rfl rfl (Rdb.ofB (n := 1) (.there .here) rfl)) rfl rfl ?_ ?_ ?_ ?_; kernel_rfl; kernel_rfl; kernel_rfl
        refine aT 5 rfl (ev_qe rfl) rfl rfl ?_ ?_ ?_ ?_; kernel_rfl; kernel_rfl; kernel_rfl
        refine aT 7 rfl (ev_load_agg (cs := x.cs) rfl rfl (Rdb.ofB (n := 0) .here rfl) x.len) rfl rfl ?_ ?_ ?_ ?_; kernel_rfl; kernel_rfl; kernel_rfl
        have sp := withoutF_spec (.slice (some ⟨g, off, none⟩) (A ++ y :: B).length c) A y B F (by omega) hr
        refine aB2 (i := 6) (i' := 8) (by kernel_rfl) ?_ ?_
        · refine aC (Hc := []) (Hr := blk b5 43 y.cs :: blk b3 43 x.cs :: blk b 50 [v1, .slice (some ⟨g, off, none⟩) (A ++ y :: B).length c] :: X) rfl sp Try.call39 rfl rfl rfl (fun _ s => s) (fun _ _ _ _ hq w s => by obtain ⟨rfl, rfl⟩ := hq; exact Sat.left (A := [_, _]) s.drop.drop) ?_
          rintro u _ _ _ ⟨rfl, rfl⟩
          refine aB (i := 8) (by kernel_rfl) (aE rfl (ev_one rfl .agg x.len elPf) rfl rfl ?_ ?_)
          · rintro _ _ _ _ ⟨rfl, bt, rfl, rfl⟩ w s
            exact Sat.left (A := [_, _]) s.drop.drop.drop
          rintro _ _ _ _ ⟨rfl, bt, rfl, rfl⟩
          refine aB (i := 9) (by kernel_rfl) (aE rfl (ev_append (m := 1) (c := 1) (b := bt) (off := 0) (n := (A ++ B).length) (xs := rowC PV.cs (A ++ B)) (news := x.cs) (K := fun v' => blk bt 43 x.cs :: own v' 43 3 ((A ++ B).length + 1) (rowC PV.cs (A ++ B) ++ x.cs) :: blk b5 43 y.cs :: blk b3 43 x.cs :: blk b 50 [v1, .slice (some ⟨g, off, none⟩) (A ++ y :: B).length c] :: X) rfl rfl elPf (Rdb.ofB (n := 0) .here rfl) rfl x.ones (by omega) (by unfold maxLen; omega) (fun v' => .there .here)) rfl rfl ?_ ?_)
          · rintro _ _ _ _ ⟨rfl, _, rfl⟩ w s
            exact Sat.left (A := [_, _]) s.drop.drop.drop
          rintro u' _ _ _ ⟨rfl, _, rfl⟩
          refine aT 10 rfl (ev_qe rfl) rfl rfl ?_ ?_ ?_ ?_; kernel_rfl; kernel_rfl; kernel_rfl
          refine aT 11 rfl (ev_qe rfl) rfl rfl ?_ ?_ ?_ ?_; kernel_rfl; kernel_rfl; kernel_rfl
          refine aD (by kernel_rfl) ?_
          refine jL rfl ?_
          refine oOwnA (.there .here) fun a' c' hu' _ _ _ _ => ?_
          subst hu'
          refine oN (ev_store (b := b) (off := 0 + 1) (vs := [.slice a' ((A ++ B).length + 1) c']) rfl rfl (by constructor) rfl rfl (s := [v1, .slice a' ((A ++ B).length + 1) c']) (.skip (.put .nil)) (ones_cons rfl ones_nil) (.there (.there (.there (.there .here))))) rfl ?_
          rintro _ _ _ _ ⟨rfl, rfl, rfl⟩
          refine oDrop ?_
          refine oPersist fun hh hA hd => ?_
          have hrow : PvRow (F.un hh) (.slice a' ((A ++ B).length + 1) c') ((A ++ B) ++ [x]) := PvRow.of (by unfold prO; rw [rowC_snoc, hlx]; exact hA) hd
          repeat (first|refine zJ rfl rfl ?_|refine jr rfl ?_|refine jn ?_|refine zM rfl rfl ?_|(refine zC rfl rfl ?_ rfl ?_;omega)|(refine zD rfl rfl ?_ rfl ?_;omega)|(refine zP rfl ?_ rfl ?_;omega)|refine zG rfl rfl rfl rfl ?_|(refine jdq rfl rfl ?_ ?_ ?_;kernel_rfl;kernel_rfl)|refine zB rfl rfl rfl (by repeat constructor) rfl ?_|refine zH .here rfl rfl rfl rfl ?_|refine zH (.there .here) rfl rfl rfl rfl ?_|refine zH (.there (.there .here)) rfl rfl rfl rfl ?_)
          refine J_retv (rs := []) (vs := []) rfl .nil [blk b 50 [v1, .slice a' ((A ++ B).length + 1) c']] (fun w s => s.drop.drop) (PH.le_l _ _) ⟨_, (A ++ B) ++ [x], rfl, hrow, fun q hq => (hfin q hq).mono (PH.le_l _ _), hkey.trans hpr.symm⟩
        · refine aE rfl (ev_one rfl .agg x.len elPf) rfl rfl ?_ ?_
          · rintro _ _ _ _ ⟨rfl, bt, rfl, rfl⟩ w s
            exact Sat.left (A := [_, _]) s.drop.drop
          rintro _ _ _ _ ⟨rfl, bt, rfl, rfl⟩
          refine aB (i := 6) (by kernel_rfl) (aC (Hc := []) (Hr := blk bt 43 x.cs :: blk b5 43 y.cs :: blk b3 43 x.cs :: blk b 50 [v1, .slice (some ⟨g, off, none⟩) (A ++ y :: B).length c] :: X) rfl sp Try.call39 rfl rfl rfl (fun _ s => s) (fun _ _ _ _ hq w s => by obtain ⟨rfl, rfl⟩ := hq; exact Sat.left (A := [_, _]) s.drop.drop.drop) ?_)
          rintro u _ _ _ ⟨rfl, rfl⟩
          refine aB (i := 9) (by kernel_rfl) (aE rfl (ev_append (m := 1) (c := 1) (b := bt) (off := 0) (n := (A ++ B).length) (xs := rowC PV.cs (A ++ B)) (news := x.cs) (K := fun v' => own v' 43 3 ((A ++ B).length + 1) (rowC PV.cs (A ++ B) ++ x.cs) :: blk bt 43 x.cs :: blk b5 43 y.cs :: blk b3 43 x.cs :: blk b 50 [v1, .slice (some ⟨g, off, none⟩) (A ++ y :: B).length c] :: X) rfl rfl elPf (Rdb.ofB (n := 0) (.there .here) rfl) rfl x.ones (by omega) (by unfold maxLen; omega) (fun v' => .here)) rfl rfl ?_ ?_)
          · rintro _ _ _ _ ⟨rfl, _, rfl⟩ w s
            exact Sat.left (A := [_, _]) s.drop.drop.drop
          rintro u' _ _ _ ⟨rfl, _, rfl⟩
          refine aT 10 rfl (ev_qe rfl) rfl rfl ?_ ?_ ?_ ?_; kernel_rfl; kernel_rfl; kernel_rfl
          refine aT 11 rfl (ev_qe rfl) rfl rfl ?_ ?_ ?_ ?_; kernel_rfl; kernel_rfl; kernel_rfl
          refine aD (by kernel_rfl) ?_
          refine jL rfl ?_
          refine oOwnA .here fun a' c' hu' _ _ _ _ => ?_
          subst hu'
          refine oN (ev_store (b := b) (off := 0 + 1) (vs := [.slice a' ((A ++ B).length + 1) c']) rfl rfl (by constructor) rfl rfl (s := [v1, .slice a' ((A ++ B).length + 1) c']) (.skip (.put .nil)) (ones_cons rfl ones_nil) (.there (.there (.there (.there .here))))) rfl ?_
          rintro _ _ _ _ ⟨rfl, rfl, rfl⟩
          refine oPersist fun hh hA hd => ?_
          have hrow : PvRow (F.un hh) (.slice a' ((A ++ B).length + 1) c') ((A ++ B) ++ [x]) := PvRow.of (by unfold prO; rw [rowC_snoc, hlx]; exact hA) hd
          repeat (first|refine zJ rfl rfl ?_|refine jr rfl ?_|refine jn ?_|refine zM rfl rfl ?_|(refine zC rfl rfl ?_ rfl ?_;omega)|(refine zD rfl rfl ?_ rfl ?_;omega)|(refine zP rfl ?_ rfl ?_;omega)|refine zG rfl rfl rfl rfl ?_|(refine jdq rfl rfl ?_ ?_ ?_;kernel_rfl;kernel_rfl)|refine zB rfl rfl rfl (by repeat constructor) rfl ?_|refine zH .here rfl rfl rfl rfl ?_|refine zH (.there .here) rfl rfl rfl rfl ?_|refine zH (.there (.there .here)) rfl rfl rfl rfl ?_)
          refine J_retv (rs := []) (vs := []) rfl .nil [blk b 50 [v1, .slice a' ((A ++ B).length + 1) c']] (fun w s => s.drop.drop.drop) (PH.le_l _ _) ⟨_, (A ++ B) ++ [x], rfl, hrow, fun q hq => (hfin q hq).mono (PH.le_l _ _), hkey.trans hpr.symm⟩
  · obtain rfl : i = L.length := by omega
    rw [List.take_length] at hno
    have hkey : (L ++ [x]).map PV.key = newerP (alikeP x.key) (L.map PV.key) x.key := by
      rw [newer_none, List.map_append, List.map_singleton]
      intro y hy
      obtain ⟨q, hq, rfl⟩ := List.mem_map.1 hy
      exact hno q hq
    repeat (first|refine zJ rfl rfl ?_|refine jr rfl ?_|refine jn ?_|refine zM rfl rfl ?_|(refine zC rfl rfl ?_ rfl ?_;omega)|(refine zD rfl rfl ?_ rfl ?_;omega)|(refine zP rfl ?_ rfl ?_;omega)|refine zG rfl rfl rfl rfl ?_|(refine jdq rfl rfl ?_ ?_ ?_;kernel_rfl;kernel_rfl)|refine zB rfl rfl rfl (by repeat constructor) rfl ?_|refine zH .here rfl rfl rfl rfl ?_|refine zH (.there .here) rfl rfl rfl rfl ?_|refine zH (.there (.there .here)) rfl rfl rfl rfl ?_)
    refine jaL F [blk b3 43 x.cs, blk b 50 [v1, .slice a L.length c]] rfl ?_ ?_ (fun w t => Sat.left (A := [_, _]) t) ?_; kernel_rfl; kernel_rfl; dsimp only [List.dropLast]
    refine aT 0 rfl (ev_qe rfl) rfl rfl ?_ ?_ ?_ ?_; kernel_rfl; kernel_rfl; kernel_rfl
    refine aT 2 rfl (ev_qe rfl) rfl rfl ?_ ?_ ?_ ?_; kernel_rfl; kernel_rfl; kernel_rfl
    refine aT 3 rfl (ev_qe rfl) rfl rfl ?_ ?_ ?_ ?_; kernel_rfl; kernel_rfl; kernel_rfl
    refine aT 4 rfl (ev_qe rfl) rfl rfl ?_ ?_ ?_ ?_; kernel_rfl; kernel_rfl; kernel_rfl
    refine aT 5 rfl (ev_load (v := .slice a L.length c) rfl rfl (Rdb.ofB (n := 1) (.there .here) rfl)) rfl rfl ?_ ?_ ?_ ?_; kernel_rfl; kernel_rfl; kernel_rfl
    refine aT 7 rfl (ev_load_agg (cs := x.cs) rfl rfl (Rdb.ofB (n := 0) .here rfl) x.len) rfl rfl ?_ ?_ ?_ ?_; kernel_rfl; kernel_rfl; kernel_rfl
    refine aApp2 (a := 1) (b := 6) (c := 8) (d := 9) (da := 51) (db := 56) (dc := 58) (dd := 59) (tA := 55) (ty := 57) (nA := L.length) (bytes := 40) rfl rfl rfl rfl rfl rfl ?_ ?_ ?_ ?_ ?_ ?_ ?_ ?_ .agg x.len x.ones elPf (fun H => SliceV.rds hr) (rowC_ones L) (by omega) (fun w t => Sat.left (A := [_, _]) t) ?_; kernel_rfl; kernel_rfl; kernel_rfl; kernel_rfl; kernel_rfl; kernel_rfl; kernel_rfl; kernel_rfl
    intro u wa wb wc
    refine aT 10 rfl (ev_qe rfl) rfl rfl ?_ ?_ ?_ ?_; kernel_rfl; kernel_rfl; kernel_rfl
    refine aT 11 rfl (ev_qe rfl) rfl rfl ?_ ?_ ?_ ?_; kernel_rfl; kernel_rfl; kernel_rfl
    refine aD (by kernel_rfl) ?_
    refine jL rfl ?_
    refine oOwnA .here fun a' c' hu' _ _ _ _ => ?_
    subst hu'
    refine oN (ev_store (b := b) (off := 0 + 1) (vs := [.slice a' (L.length + 1) c']) rfl rfl (by constructor) rfl rfl (s := [v1, .slice a' (L.length + 1) c']) (.skip (.put .nil)) (ones_cons rfl ones_nil) (.there (.there .here))) rfl ?_
    rintro _ _ _ _ ⟨rfl, rfl, rfl⟩
    refine oPersist fun hh hA hd => ?_
    have hrow : PvRow (F.un hh) (.slice a' (L.length + 1) c') (L ++ [x]) := PvRow.of (by unfold prO; rw [rowC_snoc, List.length_append, List.length_singleton]; exact hA) hd
    have hF1 := PH.le_l F hh
    generalize F.un hh = F1 at *
    have hok : ∀ y ∈ L ++ [x], y.Ok F1 := fun y hy => by
      rcases List.mem_append.1 hy with hy | hy
      · exact (hL y hy).mono hF1
      · obtain rfl := List.mem_singleton.1 hy
        exact hx.mono hF1
    have hlM : (L ++ [x]).length = L.length + 1 := by simp
    rw [← hlM] at hrow ⊢
    clear hL hx hno hr hcell hnc hl0 hi
    by_cases h64 : (L ++ [x]).length ≤ 64
    · have hp : (L ++ [x]).map PV.key = propP (L.map PV.key) x.key := by
        unfold propP
        dsimp only
        rw [← hkey, List.length_map, if_pos h64]
      repeat (first|refine zJ rfl rfl ?_|refine jr rfl ?_|refine jn ?_|refine zM rfl rfl ?_|(refine zC rfl rfl ?_ rfl ?_;omega)|(refine zD rfl rfl ?_ rfl ?_;omega)|(refine zP rfl ?_ rfl ?_;omega)|refine zG rfl rfl rfl rfl ?_|(refine jdq rfl rfl ?_ ?_ ?_;kernel_rfl;kernel_rfl)|refine zB rfl rfl rfl (by repeat constructor) rfl ?_|refine zH .here rfl rfl rfl rfl ?_|refine zH (.there .here) rfl rfl rfl rfl ?_|refine zH (.there (.there .here)) rfl rfl rfl rfl ?_)
      exact J_retv (rs := []) (vs := []) rfl .nil [blk b 50 [v1, .slice a' (L ++ [x]).length c']] (fun w s => s.drop) hF1 ⟨_, L ++ [x], rfl, hrow, hok, hp⟩
    have hM65 : (L ++ [x]).length ≤ 65 := by omega
    have hp : propP (L.map PV.key) x.key = ((L ++ [x]).map PV.key).eraseIdx (worstN ((L ++ [x]).map PV.key) (L ++ [x]).length) := by
      unfold propP
      dsimp only
      rw [← hkey, List.length_map, if_neg h64]
    clear hkey hlM
    generalize L ++ [x] = M at *
    generalize hK : M.map PV.key = K at *
    have hKat : ∀ {i : Nat} {y : PV}, M[i]? = some y → K[i]? = some y.key := fun e => by rw [← hK, List.getElem?_map, e]; rfl
    repeat (first|refine zJ rfl rfl ?_|refine jr rfl ?_|refine jn ?_|refine zM rfl rfl ?_|(refine zC rfl rfl ?_ rfl ?_;omega)|(refine zD rfl rfl ?_ rfl ?_;omega)|(refine zP rfl ?_ rfl ?_;omega)|refine zG rfl rfl rfl rfl ?_|(refine jdq rfl rfl ?_ ?_ ?_;kernel_rfl;kernel_rfl)|refine zB rfl rfl rfl (by repeat constructor) rfl ?_|refine zH .here rfl rfl rfl rfl ?_|refine zH (.there .here) rfl rfl rfl rfl ?_|refine zH (.there (.there .here)) rfl rfl rfl rfl ?_)
    refine J_loop (ι := Nat) (fun i => i ≤ M.length) (fun i => M.length - i) (fun i => [(0, .pointer (some ⟨b, 0, none⟩)), (6, .int .i64 (worstN K i)), (71, .slice a' M.length c'), (72, .int .i64 M.length), (73, .int .i64 i)]) (fun _ => F1) (fun _ => blk b3 43 x.cs :: blk b 50 [v1, .slice a' M.length c'] :: X) 0 (Nat.zero_le _) ⟨⟨rfl, rfl, rfl, rfl, rfl, trivial⟩, fun w s => s⟩ ?_
    intro i hi
    have hwl := worstN_lt K i
    by_cases hlt : i < M.length
    · have g1 : M[i]? = some M[i] := List.getElem?_eq_getElem hlt
      have g2 : M[worstN K i]? = some (M[worstN K i]'(by omega)) := List.getElem?_eq_getElem (by omega)
      generalize M[i] = y at *
      generalize M[worstN K i]'(by omega) = q at *
      have hnx : worstN K (i + 1) = if ltW y.key q.key then i else worstN K i := by
        conv => lhs; unfold worstN
        rw [hKat g1, hKat g2]
      have hlw : ltW y.key q.key = (decide (y.w < q.w) || (decide (y.w = q.w) && decide (y.s < q.s))) := rfl
      generalize worstN K i = m at *
      obtain ⟨g, off, rfl, hc⟩ := SliceV.row (css := M.map PV.cs) (i := i) (r := y.cs) hrow (fun c hc => by obtain ⟨q, _, rfl⟩ := List.mem_map.1 hc; exact q.len) (by rw [List.getElem?_map, g1]; rfl) hlt
      obtain ⟨g', off', hgg, hc'⟩ := SliceV.row (css := M.map PV.cs) (i := m) (r := q.cs) hrow (fun c hc => by obtain ⟨q, _, rfl⟩ := List.mem_map.1 hc; exact q.len) (by rw [List.getElem?_map, g2]; rfl) (by omega)
      obtain ⟨rfl, rfl⟩ : g = g' ∧ off = off' := by simpa using hgg
      repeat (first|refine zJ rfl rfl ?_|refine jr rfl ?_|refine jn ?_|refine zM rfl rfl ?_|(refine zC rfl rfl ?_ rfl ?_;omega)|(refine zD rfl rfl ?_ rfl ?_;omega)|(refine zP rfl ?_ rfl ?_;omega)|refine zG rfl rfl rfl rfl ?_|(refine jdq rfl rfl ?_ ?_ ?_;kernel_rfl;kernel_rfl)|refine zB rfl rfl rfl (by repeat constructor) rfl ?_|refine zH .here rfl rfl rfl rfl ?_|refine zH (.there .here) rfl rfl rfl rfl ?_|refine zH (.there (.there .here)) rfl rfl rfl rfl ?_)
      refine oS (ev_indexAddr (i := i) rfl rfl rfl hlt) rfl ?_
      refine oS (ev_load_agg (cs := y.cs) rfl rfl (Rdb.ofF hc) y.len) rfl ?_
      refine oE (ev_alloc (cs := zPf) rfl) rfl ?_
      rintro _ _ _ _ ⟨rfl, b6, rfl, rfl⟩
      repeat (first|refine zJ rfl rfl ?_|refine jr rfl ?_|refine jn ?_|refine zM rfl rfl ?_|(refine zC rfl rfl ?_ rfl ?_;omega)|(refine zD rfl rfl ?_ rfl ?_;omega)|(refine zP rfl ?_ rfl ?_;omega)|refine zG rfl rfl rfl rfl ?_|(refine jdq rfl rfl ?_ ?_ ?_;kernel_rfl;kernel_rfl)|refine zB rfl rfl rfl (by repeat constructor) rfl ?_|refine zH .here rfl rfl rfl rfl ?_|refine zH (.there .here) rfl rfl rfl rfl ?_|refine zH (.there (.there .here)) rfl rfl rfl rfl ?_)
      refine oN (ev_store (b := b6) (off := 0) rfl rfl .agg rfl y.len (lay_all (zs := zPf) rfl) y.ones .here) rfl ?_
      rintro _ _ _ _ ⟨rfl, rfl, rfl⟩
      repeat (first|refine zJ rfl rfl ?_|refine jr rfl ?_|refine jn ?_|refine zM rfl rfl ?_|(refine zC rfl rfl ?_ rfl ?_;omega)|(refine zD rfl rfl ?_ rfl ?_;omega)|(refine zP rfl ?_ rfl ?_;omega)|refine zG rfl rfl rfl rfl ?_|(refine jdq rfl rfl ?_ ?_ ?_;kernel_rfl;kernel_rfl)|refine zB rfl rfl rfl (by repeat constructor) rfl ?_|refine zH .here rfl rfl rfl rfl ?_|refine zH (.there .here) rfl rfl rfl rfl ?_|refine zH (.there (.there .here)) rfl rfl rfl rfl ?_)
      refine oS (ev_indexAddr (i := m) rfl rfl rfl (by omega)) rfl ?_
      refine oS (ev_load_agg (cs := q.cs) rfl rfl (Rdb.ofF hc') q.len) rfl ?_
      refine oE (ev_alloc (cs := zPf) rfl) rfl ?_
      rintro _ _ _ _ ⟨rfl, b7, rfl, rfl⟩
      refine oN (ev_store (b := b7) (off := 0) rfl rfl .agg rfl q.len (lay_all (zs := zPf) rfl) q.ones .here) rfl ?_
      rintro _ _ _ _ ⟨rfl, rfl, rfl⟩
      by_cases h1 : y.w < q.w
      · rw [hlw, decide_eq_true h1, Bool.true_or, if_pos rfl] at hnx
        repeat (first|refine zJ rfl rfl ?_|refine jr rfl ?_|refine jn ?_|refine zM rfl rfl ?_|(refine zC rfl rfl ?_ rfl ?_;omega)|(refine zD rfl rfl ?_ rfl ?_;omega)|(refine zP rfl ?_ rfl ?_;omega)|refine zG rfl rfl rfl rfl ?_|(refine jdq rfl rfl ?_ ?_ ?_;kernel_rfl;kernel_rfl)|refine zB rfl rfl rfl (by repeat constructor) rfl ?_|refine zH .here rfl rfl rfl rfl ?_|refine zH (.there .here) rfl rfl rfl rfl ?_|refine zH (.there (.there .here)) rfl rfl rfl rfl ?_)
        exact J_again (i + 1) hlt (by omega) ⟨⟨rfl, by rw [hnx]; rfl, rfl, rfl, rfl, trivial⟩, fun w s => s.drop.drop⟩
      rw [hlw, decide_eq_false h1, Bool.false_or] at hnx
      by_cases h2 : y.w = q.w
      rotate_left
      · rw [decide_eq_false h2, Bool.false_and, if_neg (by decide)] at hnx
        repeat (first|refine zJ rfl rfl ?_|refine jr rfl ?_|refine jn ?_|refine zM rfl rfl ?_|(refine zC rfl rfl ?_ rfl ?_;omega)|(refine zD rfl rfl ?_ rfl ?_;omega)|(refine zP rfl ?_ rfl ?_;omega)|refine zG rfl rfl rfl rfl ?_|(refine jdq rfl rfl ?_ ?_ ?_;kernel_rfl;kernel_rfl)|refine zB rfl rfl rfl (by repeat constructor) rfl ?_|refine zH .here rfl rfl rfl rfl ?_|refine zH (.there .here) rfl rfl rfl rfl ?_|refine zH (.there (.there .here)) rfl rfl rfl rfl ?_)
        exact J_again (i + 1) hlt (by omega) ⟨⟨rfl, by rw [hnx]; rfl, rfl, rfl, rfl, trivial⟩, fun w s => s.drop.drop⟩
      rw [decide_eq_true h2, Bool.true_and] at hnx
      by_cases h3 : y.s < q.s
      · rw [decide_eq_true h3, if_pos rfl] at hnx
        repeat (first|refine zJ rfl rfl ?_|refine jr rfl ?_|refine jn ?_|refine zM rfl rfl ?_|(refine zC rfl rfl ?_ rfl ?_;omega)|(refine zD rfl rfl ?_ rfl ?_;omega)|(refine zP rfl ?_ rfl ?_;omega)|refine zG rfl rfl rfl rfl ?_|(refine jdq rfl rfl ?_ ?_ ?_;kernel_rfl;kernel_rfl)|refine zB rfl rfl rfl (by repeat constructor) rfl ?_|refine zH .here rfl rfl rfl rfl ?_|refine zH (.there .here) rfl rfl rfl rfl ?_|refine zH (.there (.there .here)) rfl rfl rfl rfl ?_)
        exact J_again (i + 1) hlt (by omega) ⟨⟨rfl, by rw [hnx]; rfl, rfl, rfl, rfl, trivial⟩, fun w s => s.drop.drop⟩
      · rw [decide_eq_false h3, if_neg (by decide)] at hnx
        repeat (first|refine zJ rfl rfl ?_|refine jr rfl ?_|refine jn ?_|refine zM rfl rfl ?_|(refine zC rfl rfl ?_ rfl ?_;omega)|(refine zD rfl rfl ?_ rfl ?_;omega)|(refine zP rfl ?_ rfl ?_;omega)|refine zG rfl rfl rfl rfl ?_|(refine jdq rfl rfl ?_ ?_ ?_;kernel_rfl;kernel_rfl)|refine zB rfl rfl rfl (by repeat constructor) rfl ?_|refine zH .here rfl rfl rfl rfl ?_|refine zH (.there .here) rfl rfl rfl rfl ?_|refine zH (.there (.there .here)) rfl rfl rfl rfl ?_)
        exact J_again (i + 1) hlt (by omega) ⟨⟨rfl, by rw [hnx]; rfl, rfl, rfl, rfl, trivial⟩, fun w s => s.drop.drop⟩
    · obtain rfl : i = M.length := by omega
      obtain ⟨m, hm⟩ : ∃ m, m = worstN K M.length := ⟨_, rfl⟩
      rw [← hm] at hp hwl ⊢
      obtain ⟨A, y, B, rfl, rfl⟩ : ∃ A y B, M = A ++ y :: B ∧ A.length = m := ⟨M.take m, M[m]'(by omega), M.drop (m + 1), by rw [← List.drop_eq_getElem_cons, List.take_append_drop], by rw [List.length_take]; omega⟩
      have hp' : (A ++ B).map PV.key = propP (L.map PV.key) x.key := by
        rw [hp, ← hK, List.eraseIdx_eq_take_drop_succ, ← List.map_take, ← List.map_drop, List.take_left, show A ++ y :: B = (A ++ [y]) ++ B from by simp, show A.length + 1 = (A ++ [y]).length from by simp, List.drop_left, List.map_append]
      repeat (first|refine zJ rfl rfl ?_|refine jr rfl ?_|refine jn ?_|refine zM rfl rfl ?_|(refine zC rfl rfl ?_ rfl ?_;omega)|(refine zD rfl rfl ?_ rfl ?_;omega)|(refine zP rfl ?_ rfl ?_;omega)|refine zG rfl rfl rfl rfl ?_|(refine jdq rfl rfl ?_ ?_ ?_;kernel_rfl;kernel_rfl)|refine zB rfl rfl rfl (by repeat constructor) rfl ?_|refine zH .here rfl rfl rfl rfl ?_|refine zH (.there .here) rfl rfl rfl rfl ?_|refine zH (.there (.there .here)) rfl rfl rfl rfl ?_)
      refine oC (Hc := []) (Hr := blk b3 43 x.cs :: blk b 50 [v1, .slice a' (A ++ y :: B).length c'] :: X) (withoutF_spec _ A y B F1 (by omega) hrow) Try.call39 rfl rfl (fun _ s => s) ?_
      rintro u _ _ _ ⟨rfl, rfl⟩
      refine oPersist fun hh hA hd => ?_
      have hrow' := PvRow.of hA hd
      have hG1 := PH.le_l F1 hh
      generalize F1.un hh = G1 at *
      obtain ⟨_, a3, c3, hu, _, _⟩ := id hrow'
      subst hu
      repeat (first|refine zJ rfl rfl ?_|refine jr rfl ?_|refine jn ?_|refine zM rfl rfl ?_|(refine zC rfl rfl ?_ rfl ?_;omega)|(refine zD rfl rfl ?_ rfl ?_;omega)|(refine zP rfl ?_ rfl ?_;omega)|refine zG rfl rfl rfl rfl ?_|(refine jdq rfl rfl ?_ ?_ ?_;kernel_rfl;kernel_rfl)|refine zB rfl rfl rfl (by repeat constructor) rfl ?_|refine zH .here rfl rfl rfl rfl ?_|refine zH (.there .here) rfl rfl rfl rfl ?_|refine zH (.there (.there .here)) rfl rfl rfl rfl ?_)
      refine oN (ev_store (b := b) (off := 0 + 1) (vs := [.slice a3 (A ++ B).length c3]) rfl rfl (by constructor) rfl rfl (s := [v1, .slice a3 (A ++ B).length c3]) (.skip (.put .nil)) (ones_cons rfl ones_nil) (.there .here)) rfl ?_
      rintro _ _ _ _ ⟨rfl, rfl, rfl⟩
      repeat (first|refine zJ rfl rfl ?_|refine jr rfl ?_|refine jn ?_|refine zM rfl rfl ?_|(refine zC rfl rfl ?_ rfl ?_;omega)|(refine zD rfl rfl ?_ rfl ?_;omega)|(refine zP rfl ?_ rfl ?_;omega)|refine zG rfl rfl rfl rfl ?_|(refine jdq rfl rfl ?_ ?_ ?_;kernel_rfl;kernel_rfl)|refine zB rfl rfl rfl (by repeat constructor) rfl ?_|refine zH .here rfl rfl rfl rfl ?_|refine zH (.there .here) rfl rfl rfl rfl ?_|refine zH (.there (.there .here)) rfl rfl rfl rfl ?_)
      refine zE rfl ?_
      refine J_end (X := X) rfl [blk b 50 [v1, .slice a3 (A ++ B).length c3]] (fun w s => s.drop) (hF1.trans hG1) ⟨_, A ++ B, rfl, hrow', fun q hq => (hok q (by rcases List.mem_append.1 hq with hq | hq; exact List.mem_append_left _ hq; exact List.mem_append_right _ (List.mem_cons_of_mem _ hq))).mono hG1, hp'⟩
end Go.Proofs.Ytmicjjhkoicdnaa
namespace Go.Proofs.Ytmicjjhkoicdnaa
open Go.RowKit
set_option maxRecDepth 100000
set_option maxHeartbeats 8000000 in
theorem rsorted_spec (v : Value) (L : List PV) (F : PH) (hn : L.length ≤ 900) (hr : PvRow F v L) : Spec Try.prog 25 [v] F [] fun u F' H' => H' = [] ∧ PvRow F' u (isortL ltS L) := by
  refine Spec.of1 Try.func25 rfl rfl fun X w0 => ?_
  obtain ⟨_, a, c, hv, hnc, _⟩ := id hr
  subst hv
  repeat (first|refine zJ rfl rfl ?_|refine jr rfl ?_|refine jn ?_|refine zM rfl rfl ?_|(refine zC rfl rfl ?_ rfl ?_;omega)|(refine zD rfl rfl ?_ rfl ?_;omega)|(refine zP rfl ?_ rfl ?_;omega)|refine zG rfl rfl rfl rfl ?_|(refine jdq rfl rfl ?_ ?_ ?_;kernel_rfl;kernel_rfl)|refine zB rfl rfl rfl (by repeat constructor) rfl ?_|refine zH .here rfl rfl rfl rfl ?_|refine zH (.there .here) rfl rfl rfl rfl ?_|refine zH (.there (.there .here)) rfl rfl rfl rfl ?_)
  refine J_loop (ι := Nat × Value × PH) (fun p => p.1 ≤ L.length ∧ F.le p.2.2 ∧ PvRow p.2.2 p.2.1 (isortL ltS (L.take p.1))) (fun p => L.length - p.1) (fun p => [(7, .slice a L.length c), (8, .int .i64 L.length), (9, .int .i64 p.1), (3, p.2.1)]) (fun p => p.2.2) (fun _ => X) (0, .slice none 0 0, F) ⟨Nat.zero_le _, PH.ler _, PvRow.nil F⟩
    ⟨⟨rfl, rfl, rfl, rfl, trivial⟩, fun w s => s⟩ ?_
  rintro ⟨i, vm, G⟩ ⟨hi, hG, hrow⟩
  dsimp only at hi hG hrow ⊢
  have hlen : (isortL ltS (L.take i)).length = i := by rw [(isortL_perm ltS _).length_eq, List.length_take]; omega
  by_cases hlt : i < L.length
  · have g1 : L[i]? = some L[i] := List.getElem?_eq_getElem hlt
    have htk : L.take (i + 1) = L.take i ++ [L[i]] := List.take_succ_eq_append_getElem hlt
    have hso := isortL_snoc ltS (L.take i) L[i]
    rw [← htk] at hso
    generalize L[i] = y at *
    generalize isortL ltS (L.take i) = S at *
    obtain ⟨g, off, rfl, hc⟩ := SliceV.row (css := L.map PV.cs) (i := i) (r := y.cs) hr (fun c hc => by obtain ⟨q, _, rfl⟩ := List.mem_map.1 hc; exact q.len) (by rw [List.getElem?_map, g1]; rfl) hlt
    obtain ⟨_, a2, c2, hv2, hnc2, _⟩ := id hrow
    subst hv2
    repeat (first|refine zJ rfl rfl ?_|refine jr rfl ?_|refine jn ?_|refine zM rfl rfl ?_|(refine zC rfl rfl ?_ rfl ?_;omega)|(refine zD rfl rfl ?_ rfl ?_;omega)|(refine zP rfl ?_ rfl ?_;omega)|refine zG rfl rfl rfl rfl ?_|(refine jdq rfl rfl ?_ ?_ ?_;kernel_rfl;kernel_rfl)|refine zB rfl rfl rfl (by repeat constructor) rfl ?_|refine zH .here rfl rfl rfl rfl ?_|refine zH (.there .here) rfl rfl rfl rfl ?_|refine zH (.there (.there .here)) rfl rfl rfl rfl ?_)
    refine oS (ev_indexAddr (i := i) rfl rfl rfl hlt) rfl ?_
    refine oS (ev_load_agg (cs := y.cs) rfl rfl (Rdb.ofF (hc.mono hG)) y.len) rfl ?_
    refine oE (ev_alloc (cs := zPf) rfl) rfl ?_
    rintro _ _ _ _ ⟨rfl, b5, rfl, rfl⟩
    refine oN (ev_store (b := b5) (off := 0) rfl rfl .agg rfl y.len (lay_all (zs := zPf) rfl) y.ones .here) rfl ?_
    rintro _ _ _ _ ⟨rfl, rfl, rfl⟩
    repeat (first|refine zJ rfl rfl ?_|refine jr rfl ?_|refine jn ?_|refine zM rfl rfl ?_|(refine zC rfl rfl ?_ rfl ?_;omega)|(refine zD rfl rfl ?_ rfl ?_;omega)|(refine zP rfl ?_ rfl ?_;omega)|refine zG rfl rfl rfl rfl ?_|(refine jdq rfl rfl ?_ ?_ ?_;kernel_rfl;kernel_rfl)|refine zB rfl rfl rfl (by repeat constructor) rfl ?_|refine zH .here rfl rfl rfl rfl ?_|refine zH (.there .here) rfl rfl rfl rfl ?_|refine zH (.there (.there .here)) rfl rfl rfl rfl ?_)
    refine J_loop (ι := List PV × List PV) (fun p => p.1 ++ p.2 = S ∧ insL ltS y S = insL ltS y p.1 ++ p.2) (fun p => p.1.length) (fun p => [(7, .slice (some ⟨g, off, none⟩) L.length c), (8, .int .i64 L.length), (9, .int .i64 i), (3, .slice a2 S.length c2), (5, .pointer (some ⟨b5, 0, none⟩)), (6, .int .i64 p.1.length)]) (fun _ => G) (fun _ => blk b5 43 y.cs :: X) (S, []) ⟨by simp, by simp⟩ ⟨⟨rfl, rfl, rfl, rfl, rfl, rfl, trivial⟩, fun w s => s⟩ ?_
    rintro ⟨P, Q⟩ ⟨hPQ, hins⟩
    dsimp only at hPQ hins ⊢
    have hPl : P.length + Q.length = S.length := by rw [← hPQ, List.length_append]
    rcases List.eq_nil_or_concat P with rfl | ⟨P', q, rfl⟩
    · dsimp only [List.length_nil]
      repeat (first|refine zJ rfl rfl ?_|refine jr rfl ?_|refine jn ?_|refine zM rfl rfl ?_|(refine zC rfl rfl ?_ rfl ?_;omega)|(refine zD rfl rfl ?_ rfl ?_;omega)|(refine zP rfl ?_ rfl ?_;omega)|refine zG rfl rfl rfl rfl ?_|(refine jdq rfl rfl ?_ ?_ ?_;kernel_rfl;kernel_rfl)|refine zB rfl rfl rfl (by repeat constructor) rfl ?_|refine zH .here rfl rfl rfl rfl ?_|refine zH (.there .here) rfl rfl rfl rfl ?_|refine zH (.there (.there .here)) rfl rfl rfl rfl ?_)
      have hins' : insL ltS y S = [] ++ [y] ++ Q := hins
      · have hpre := SliceV.pre (k := 0) (css := S.map PV.cs) hrow (fun c hc => by obtain ⟨q, _, rfl⟩ := List.mem_map.1 hc; exact q.len) (by omega) (by rw [List.length_map]) 
        replace hpre : SliceV G 3 (.slice a2 (0) c2) (0) (rowC PV.cs ([])) := by 
          rw [← List.map_take, ← hPQ, List.take_left' (by simp)] at hpre 
          exact hpre 
        have hsuf := SliceV.cut hrow (lo := 0) (hi := S.length) (m := c2) (by omega) (Nat.le_refl _) hnc2 
        rw [show (rowC PV.cs S).drop ((0) * 3) = rowC PV.cs Q from by rw [← hPQ, rowC_append, List.drop_left' (by rw [rowC_len PV.len]; simp)], List.take_of_length_le (by rw [rowC_len PV.len]; omega)] at hsuf 
        refine jaL G [blk b5 43 y.cs] rfl ?_ ?_ (fun w t => t.head) ?_; kernel_rfl; kernel_rfl; dsimp only [List.dropLast] 
        refine aT 1 rfl (ev_qe rfl) rfl rfl ?_ ?_ ?_ ?_; kernel_rfl; kernel_rfl; kernel_rfl 
        refine aT 2 rfl (ev_qe rfl) rfl rfl ?_ ?_ ?_ ?_; kernel_rfl; kernel_rfl; kernel_rfl 
        refine aT 3 rfl (ev_slice_hi (h := 0) rfl rfl rfl (by omega)) rfl rfl ?_ ?_ ?_ ?_; kernel_rfl; kernel_rfl; kernel_rfl 
        refine aT 5 rfl (ev_load_agg (cs := y.cs) rfl rfl (Rdb.ofB (n := 0) .here rfl) y.len) rfl rfl ?_ ?_ ?_ ?_; kernel_rfl; kernel_rfl; kernel_rfl 
        refine aT 8 rfl (ev_qe rfl) rfl rfl ?_ ?_ ?_ ?_; kernel_rfl; kernel_rfl; kernel_rfl 
        refine aT 9 rfl (ev_qe rfl) rfl rfl ?_ ?_ ?_ ?_; kernel_rfl; kernel_rfl; kernel_rfl 
        refine aT 10 rfl (ev_slice_lo (n := S.length) (lo := 0) rfl rfl rfl (by omega)) rfl rfl ?_ ?_ ?_ ?_; kernel_rfl; kernel_rfl; kernel_rfl 
        refine aApp2 (a := 0) (b := 4) (c := 6) (d := 7) (da := 52) (db := 56) (dc := 58) (dd := 59) (tA := 55) (ty := 57) (nA := 0) (bytes := 40) rfl rfl rfl rfl rfl rfl ?_ ?_ ?_ ?_ ?_ ?_ ?_ ?_ .agg y.len y.ones elPf (fun H => hpre.rds) (rowC_ones ([])) (by omega) (fun w t => Sat.left (A := [_]) t) ?_; kernel_rfl; kernel_rfl; kernel_rfl; kernel_rfl; kernel_rfl; kernel_rfl; kernel_rfl; kernel_rfl 
        intro u wa wb wc 
        refine aB (i := 11) (by kernel_rfl) (aE rfl (ev_append_s (n := 0 + 1) (m := S.length - (0)) (xs := rowC PV.cs ([]) ++ y.cs) (news := rowC PV.cs Q) (K := fun v' => own v' 43 3 (0 + 1 + (S.length - (0))) (rowC PV.cs ([]) ++ y.cs ++ rowC PV.cs Q) :: blk b5 43 y.cs :: X) rfl rfl elPf hsuf.rds (rowC_ones Q) (by omega) (fun v' => .here)) rfl rfl ?_ ?_) 
        · rintro _ _ _ _ ⟨rfl, _, rfl⟩ w s 
          exact s.drop.head 
        rintro u' _ _ _ ⟨rfl, _, rfl⟩ 
        refine aD (by kernel_rfl) ?_ 
        refine jL rfl ?_ 
        refine oPersist fun hh hA hd => ?_ 
        have hrow' : PvRow (G.un hh) u' (([]) ++ [y] ++ Q) := PvRow.of (by unfold prO; rw [rowC_append, rowC_snoc, show List.length (α := PV) (([]) ++ [y] ++ Q) = 0 + 1 + (S.length - (0)) from by rw [← hPQ]; simp; try omega]; exact hA) hd 
        repeat (first|refine zJ rfl rfl ?_|refine jr rfl ?_|refine jn ?_|refine zM rfl rfl ?_|(refine zC rfl rfl ?_ rfl ?_;omega)|(refine zD rfl rfl ?_ rfl ?_;omega)|(refine zP rfl ?_ rfl ?_;omega)|refine zG rfl rfl rfl rfl ?_|(refine jdq rfl rfl ?_ ?_ ?_;kernel_rfl;kernel_rfl)|refine zB rfl rfl rfl (by repeat constructor) rfl ?_|refine zH .here rfl rfl rfl rfl ?_|refine zH (.there .here) rfl rfl rfl rfl ?_|refine zH (.there (.there .here)) rfl rfl rfl rfl ?_) 
        exact J_again (i + 1, u', G.un hh) ⟨hlt, hG.trans (PH.le_l _ _), by dsimp only; rw [hso, hins']; exact hrow'⟩ (by dsimp only; omega) ⟨⟨rfl, rfl, rfl, rfl, trivial⟩, fun w s => s.drop⟩
    · have hPl' : (P' ++ [q]).length = P'.length + 1 := by simp
      rw [List.concat_eq_append] at *
      rw [hPl'] at hPl ⊢
      have ix : some (Value.int .i64 (((P'.length + 1 : Nat) : Int) - 1)) = some (Value.int .i64 (P'.length : Int)) := by congr 2; omega
      have gy : S[P'.length]? = some q := by rw [← hPQ, List.append_assoc, List.getElem?_append_right (Nat.le_refl _)]; simp
      obtain ⟨g2, off2, rfl, hc2⟩ := SliceV.row (css := S.map PV.cs) (i := P'.length) (r := q.cs) hrow (fun c hc => by obtain ⟨q, _, rfl⟩ := List.mem_map.1 hc; exact q.len) (by rw [List.getElem?_map, gy]; rfl) (by omega)
      have hls : ltS y q = (decide (y.s < q.s) || (decide (y.s = q.s) && decide (y.w < q.w))) := rfl
      repeat (first|refine zJ rfl rfl ?_|refine jr rfl ?_|refine jn ?_|refine zM rfl rfl ?_|(refine zC rfl rfl ?_ rfl ?_;omega)|(refine zD rfl rfl ?_ rfl ?_;omega)|(refine zP rfl ?_ rfl ?_;omega)|refine zG rfl rfl rfl rfl ?_|(refine jdq rfl rfl ?_ ?_ ?_;kernel_rfl;kernel_rfl)|refine zB rfl rfl rfl (by repeat constructor) rfl ?_|refine zH .here rfl rfl rfl rfl ?_|refine zH (.there .here) rfl rfl rfl rfl ?_|refine zH (.there (.there .here)) rfl rfl rfl rfl ?_)
      refine oS (ev_indexAddr (i := P'.length) rfl ix rfl (by omega)) rfl ?_
      refine oS (ev_fieldAddr rfl rfl) rfl ?_
      refine oS (ev_load (v := .int .i64 q.s) rfl rfl (Rdb.ofF (Cells.one hc2 0 rfl))) rfl ?_
      by_cases h1 : y.s < q.s
      · rw [insL_snoc, if_pos (by rw [hls, decide_eq_true h1, Bool.true_or])] at hins
        repeat (first|refine zJ rfl rfl ?_|refine jr rfl ?_|refine jn ?_|refine zM rfl rfl ?_|(refine zC rfl rfl ?_ rfl ?_;omega)|(refine zD rfl rfl ?_ rfl ?_;omega)|(refine zP rfl ?_ rfl ?_;omega)|refine zG rfl rfl rfl rfl ?_|(refine jdq rfl rfl ?_ ?_ ?_;kernel_rfl;kernel_rfl)|refine zB rfl rfl rfl (by repeat constructor) rfl ?_|refine zH .here rfl rfl rfl rfl ?_|refine zH (.there .here) rfl rfl rfl rfl ?_|refine zH (.there (.there .here)) rfl rfl rfl rfl ?_)
        refine J_again (P', [q] ++ Q) ⟨by rw [← hPQ]; simp, by rw [hins]; simp⟩ (by dsimp only; omega) ⟨⟨rfl, rfl, rfl, rfl, rfl, ?_, trivial⟩, fun w s => s⟩
        rw [show (P'.length : Int) = ((P'.length + 1 : Nat) : Int) - 1 from by omega]
        rfl
      rw [decide_eq_false h1, Bool.false_or] at hls
      repeat (first|refine zJ rfl rfl ?_|refine jr rfl ?_|refine jn ?_|refine zM rfl rfl ?_|(refine zC rfl rfl ?_ rfl ?_;omega)|(refine zD rfl rfl ?_ rfl ?_;omega)|(refine zP rfl ?_ rfl ?_;omega)|refine zG rfl rfl rfl rfl ?_|(refine jdq rfl rfl ?_ ?_ ?_;kernel_rfl;kernel_rfl)|refine zB rfl rfl rfl (by repeat constructor) rfl ?_|refine zH .here rfl rfl rfl rfl ?_|refine zH (.there .here) rfl rfl rfl rfl ?_|refine zH (.there (.there .here)) rfl rfl rfl rfl ?_)
      refine oS (ev_indexAddr (i := P'.length) rfl ix rfl (by omega)) rfl ?_
      refine oS (ev_fieldAddr rfl rfl) rfl ?_
      refine oS (ev_load (v := .int .i64 q.s) rfl rfl (Rdb.ofF (Cells.one hc2 0 rfl))) rfl ?_
      by_cases h2 : y.s = q.s
      rotate_left
      · rw [decide_eq_false h2, Bool.false_and] at hls
        rw [insL_snoc, if_neg (by rw [hls]; decide)] at hins
        have hins' := hins
        repeat (first|refine zJ rfl rfl ?_|refine jr rfl ?_|refine jn ?_|refine zM rfl rfl ?_|(refine zC rfl rfl ?_ rfl ?_;omega)|(refine zD rfl rfl ?_ rfl ?_;omega)|(refine zP rfl ?_ rfl ?_;omega)|refine zG rfl rfl rfl rfl ?_|(refine jdq rfl rfl ?_ ?_ ?_;kernel_rfl;kernel_rfl)|refine zB rfl rfl rfl (by repeat constructor) rfl ?_|refine zH .here rfl rfl rfl rfl ?_|refine zH (.there .here) rfl rfl rfl rfl ?_|refine zH (.there (.there .here)) rfl rfl rfl rfl ?_)
        generalize some (⟨g2, off2, none⟩ : Addr) = a2 at *
        have hpre := SliceV.pre (k := P'.length + 1) (css := S.map PV.cs) hrow (fun c hc => by obtain ⟨q, _, rfl⟩ := List.mem_map.1 hc; exact q.len) (by omega) (by rw [List.length_map]) 
        replace hpre : SliceV G 3 (.slice a2 (P'.length + 1) c2) (P'.length + 1) (rowC PV.cs (P' ++ [q])) := by 
          rw [← List.map_take, ← hPQ, List.take_left' (by simp)] at hpre 
          exact hpre 
        have hsuf := SliceV.cut hrow (lo := P'.length + 1) (hi := S.length) (m := c2) (by omega) (Nat.le_refl _) hnc2 
        rw [show (rowC PV.cs S).drop ((P'.length + 1) * 3) = rowC PV.cs Q from by rw [← hPQ, rowC_append, List.drop_left' (by rw [rowC_len PV.len]; simp)], List.take_of_length_le (by rw [rowC_len PV.len]; omega)] at hsuf 
        refine jaL G [blk b5 43 y.cs] rfl ?_ ?_ (fun w t => t.head) ?_; kernel_rfl; kernel_rfl; dsimp only [List.dropLast] 
        refine aT 1 rfl (ev_qe rfl) rfl rfl ?_ ?_ ?_ ?_; kernel_rfl; kernel_rfl; kernel_rfl 
        refine aT 2 rfl (ev_qe rfl) rfl rfl ?_ ?_ ?_ ?_; kernel_rfl; kernel_rfl; kernel_rfl 
        refine aT 3 rfl (ev_slice_hi (h := P'.length + 1) rfl rfl rfl (by omega)) rfl rfl ?_ ?_ ?_ ?_; kernel_rfl; kernel_rfl; kernel_rfl 
        refine aT 5 rfl (ev_load_agg (cs := y.cs) rfl rfl (Rdb.ofB (n := 0) .here rfl) y.len) rfl rfl ?_ ?_ ?_ ?_; kernel_rfl; kernel_rfl; kernel_rfl 
        refine aT 8 rfl (ev_qe rfl) rfl rfl ?_ ?_ ?_ ?_; kernel_rfl; kernel_rfl; kernel_rfl 
        refine aT 9 rfl (ev_qe rfl) rfl rfl ?_ ?_ ?_ ?_; kernel_rfl; kernel_rfl; kernel_rfl 
        refine aT 10 rfl (ev_slice_lo (n := S.length) (lo := P'.length + 1) rfl rfl rfl (by omega)) rfl rfl ?_ ?_ ?_ ?_; kernel_rfl; kernel_rfl; kernel_rfl 
        refine aApp2 (a := 0) (b := 4) (c := 6) (d := 7) (da := 52) (db := 56) (dc := 58) (dd := 59) (tA := 55) (ty := 57) (nA := P'.length + 1) (bytes := 40) rfl rfl rfl rfl rfl rfl ?_ ?_ ?_ ?_ ?_ ?_ ?_ ?_ .agg y.len y.ones elPf (fun H => hpre.rds) (rowC_ones (P' ++ [q])) (by omega) (fun w t => Sat.left (A := [_]) t) ?_; kernel_rfl; kernel_rfl; kernel_rfl; kernel_rfl; kernel_rfl; kernel_rfl; kernel_rfl; kernel_rfl 
        intro u wa wb wc 
        refine aB (i := 11) (by kernel_rfl) (aE rfl (ev_append_s (n := P'.length + 1 + 1) (m := S.length - (P'.length + 1)) (xs := rowC PV.cs (P' ++ [q]) ++ y.cs) (news := rowC PV.cs Q) (K := fun v' => own v' 43 3 (P'.length + 1 + 1 + (S.length - (P'.length + 1))) (rowC PV.cs (P' ++ [q]) ++ y.cs ++ rowC PV.cs Q) :: blk b5 43 y.cs :: X) rfl rfl elPf hsuf.rds (rowC_ones Q) (by omega) (fun v' => .here)) rfl rfl ?_ ?_) 
        · rintro _ _ _ _ ⟨rfl, _, rfl⟩ w s 
          exact s.drop.head 
        rintro u' _ _ _ ⟨rfl, _, rfl⟩ 
        refine aD (by kernel_rfl) ?_ 
        refine jL rfl ?_ 
        refine oPersist fun hh hA hd => ?_ 
        have hrow' : PvRow (G.un hh) u' ((P' ++ [q]) ++ [y] ++ Q) := PvRow.of (by unfold prO; rw [rowC_append, rowC_snoc, show List.length (α := PV) ((P' ++ [q]) ++ [y] ++ Q) = P'.length + 1 + 1 + (S.length - (P'.length + 1)) from by rw [← hPQ]; simp; try omega]; exact hA) hd 
        repeat (first|refine zJ rfl rfl ?_|refine jr rfl ?_|refine jn ?_|refine zM rfl rfl ?_|(refine zC rfl rfl ?_ rfl ?_;omega)|(refine zD rfl rfl ?_ rfl ?_;omega)|(refine zP rfl ?_ rfl ?_;omega)|refine zG rfl rfl rfl rfl ?_|(refine jdq rfl rfl ?_ ?_ ?_;kernel_rfl;kernel_rfl)|refine zB rfl rfl rfl (by repeat constructor) rfl ?_|refine zH .here rfl rfl rfl rfl ?_|refine zH (.there .here) rfl rfl rfl rfl ?_|refine zH (.there (.there .here)) rfl rfl rfl rfl ?_) 
        exact J_again (i + 1, u', G.un hh) ⟨hlt, hG.trans (PH.le_l _ _), by dsimp only; rw [hso, hins']; exact hrow'⟩ (by dsimp only; omega) ⟨⟨rfl, rfl, rfl, rfl, trivial⟩, fun w s => s.drop⟩
      rw [decide_eq_true h2, Bool.true_and] at hls
      repeat (first|refine zJ rfl rfl ?_|refine jr rfl ?_|refine jn ?_|refine zM rfl rfl ?_|(refine zC rfl rfl ?_ rfl ?_;omega)|(refine zD rfl rfl ?_ rfl ?_;omega)|(refine zP rfl ?_ rfl ?_;omega)|refine zG rfl rfl rfl rfl ?_|(refine jdq rfl rfl ?_ ?_ ?_;kernel_rfl;kernel_rfl)|refine zB rfl rfl rfl (by repeat constructor) rfl ?_|refine zH .here rfl rfl rfl rfl ?_|refine zH (.there .here) rfl rfl rfl rfl ?_|refine zH (.there (.there .here)) rfl rfl rfl rfl ?_)
      refine oS (ev_indexAddr (i := P'.length) rfl ix rfl (by omega)) rfl ?_
      refine oS (ev_fieldAddr rfl rfl) rfl ?_
      refine oS (ev_load (v := .int .i64 q.w) rfl rfl (Rdb.ofF (Cells.one hc2 1 rfl))) rfl ?_
      by_cases h3 : y.w < q.w
      · rw [insL_snoc, if_pos (by rw [hls, decide_eq_true h3])] at hins
        repeat (first|refine zJ rfl rfl ?_|refine jr rfl ?_|refine jn ?_|refine zM rfl rfl ?_|(refine zC rfl rfl ?_ rfl ?_;omega)|(refine zD rfl rfl ?_ rfl ?_;omega)|(refine zP rfl ?_ rfl ?_;omega)|refine zG rfl rfl rfl rfl ?_|(refine jdq rfl rfl ?_ ?_ ?_;kernel_rfl;kernel_rfl)|refine zB rfl rfl rfl (by repeat constructor) rfl ?_|refine zH .here rfl rfl rfl rfl ?_|refine zH (.there .here) rfl rfl rfl rfl ?_|refine zH (.there (.there .here)) rfl rfl rfl rfl ?_)
        refine J_again (P', [q] ++ Q) ⟨by rw [← hPQ]; simp, by rw [hins]; simp⟩ (by dsimp only; omega) ⟨⟨rfl, rfl, rfl, rfl, rfl, ?_, trivial⟩, fun w s => s⟩
        rw [show (P'.length : Int) = ((P'.length + 1 : Nat) : Int) - 1 from by omega]
        rfl
      · rw [decide_eq_false h3] at hls
        rw [insL_snoc, if_neg (by rw [hls]; decide)] at hins
        have hins' := hins
        repeat (first|refine zJ rfl rfl ?_|refine jr rfl ?_|refine jn ?_|refine zM rfl rfl ?_|(refine zC rfl rfl ?_ rfl ?_;omega)|(refine zD rfl rfl ?_ rfl ?_;omega)|(refine zP rfl ?_ rfl ?_;omega)|refine zG rfl rfl rfl rfl ?_|(refine jdq rfl rfl ?_ ?_ ?_;kernel_rfl;kernel_rfl)|refine zB rfl rfl rfl (by repeat constructor) rfl ?_|refine zH .here rfl rfl rfl rfl ?_|refine zH (.there .here) rfl rfl rfl rfl ?_|refine zH (.there (.there .here)) rfl rfl rfl rfl ?_)
        generalize some (⟨g2, off2, none⟩ : Addr) = a2 at *
        have hpre := SliceV.pre (k := P'.length + 1) (css := S.map PV.cs) hrow (fun c hc => by obtain ⟨q, _, rfl⟩ := List.mem_map.1 hc; exact q.len) (by omega) (by rw [List.length_map]) 
        replace hpre : SliceV G 3 (.slice a2 (P'.length + 1) c2) (P'.length + 1) (rowC PV.cs (P' ++ [q])) := by 
          rw [← List.map_take, ← hPQ, List.take_left' (by simp)] at hpre 
          exact hpre 
        have hsuf := SliceV.cut hrow (lo := P'.length + 1) (hi := S.length) (m := c2) (by omega) (Nat.le_refl _) hnc2 
        rw [show (rowC PV.cs S).drop ((P'.length + 1) * 3) = rowC PV.cs Q from by rw [← hPQ, rowC_append, List.drop_left' (by rw [rowC_len PV.len]; simp)], List.take_of_length_le (by rw [rowC_len PV.len]; omega)] at hsuf 
        refine jaL G [blk b5 43 y.cs] rfl ?_ ?_ (fun w t => t.head) ?_; kernel_rfl; kernel_rfl; dsimp only [List.dropLast] 
        refine aT 1 rfl (ev_qe rfl) rfl rfl ?_ ?_ ?_ ?_; kernel_rfl; kernel_rfl; kernel_rfl 
        refine aT 2 rfl (ev_qe rfl) rfl rfl ?_ ?_ ?_ ?_; kernel_rfl; kernel_rfl; kernel_rfl 
        refine aT 3 rfl (ev_slice_hi (h := P'.length + 1) rfl rfl rfl (by omega)) rfl rfl ?_ ?_ ?_ ?_; kernel_rfl; kernel_rfl; kernel_rfl 
        refine aT 5 rfl (ev_load_agg (cs := y.cs) rfl rfl (Rdb.ofB (n := 0) .here rfl) y.len) rfl rfl ?_ ?_ ?_ ?_; kernel_rfl; kernel_rfl; kernel_rfl 
        refine aT 8 rfl (ev_qe rfl) rfl rfl ?_ ?_ ?_ ?_; kernel_rfl; kernel_rfl; kernel_rfl 
        refine aT 9 rfl (ev_qe rfl) rfl rfl ?_ ?_ ?_ ?_; kernel_rfl; kernel_rfl; kernel_rfl 
        refine aT 10 rfl (ev_slice_lo (n := S.length) (lo := P'.length + 1) rfl rfl rfl (by omega)) rfl rfl ?_ ?_ ?_ ?_; kernel_rfl; kernel_rfl; kernel_rfl 
        refine aApp2 (a := 0) (b := 4) (c := 6) (d := 7) (da := 52) (db := 56) (dc := 58) (dd := 59) (tA := 55) (ty := 57) (nA := P'.length + 1) (bytes := 40) rfl rfl rfl rfl rfl rfl ?_ ?_ ?_ ?_ ?_ ?_ ?_ ?_ .agg y.len y.ones elPf (fun H => hpre.rds) (rowC_ones (P' ++ [q])) (by omega) (fun w t => Sat.left (A := [_]) t) ?_; kernel_rfl; kernel_rfl; kernel_rfl; kernel_rfl; kernel_rfl; kernel_rfl; kernel_rfl; kernel_rfl 
        intro u wa wb wc 
        refine aB (i := 11) (by kernel_rfl) (aE rfl (ev_append_s (n := P'.length + 1 + 1) (m := S.length - (P'.length + 1)) (xs := rowC PV.cs (P' ++ [q]) ++ y.cs) (news := rowC PV.cs Q) (K := fun v' => own v' 43 3 (P'.length + 1 + 1 + (S.length - (P'.length + 1))) (rowC PV.cs (P' ++ [q]) ++ y.cs ++ rowC PV.cs Q) :: blk b5 43 y.cs :: X) rfl rfl elPf hsuf.rds (rowC_ones Q) (by omega) (fun v' => .here)) rfl rfl ?_ ?_) 
        · rintro _ _ _ _ ⟨rfl, _, rfl⟩ w s 
          exact s.drop.head 
        rintro u' _ _ _ ⟨rfl, _, rfl⟩ 
        refine aD (by kernel_rfl) ?_ 
        refine jL rfl ?_ 
        refine oPersist fun hh hA hd => ?_ 
        have hrow' : PvRow (G.un hh) u' ((P' ++ [q]) ++ [y] ++ Q) := PvRow.of (by unfold prO; rw [rowC_append, rowC_snoc, show List.length (α := PV) ((P' ++ [q]) ++ [y] ++ Q) = P'.length + 1 + 1 + (S.length - (P'.length + 1)) from by rw [← hPQ]; simp; try omega]; exact hA) hd 
        repeat (first|refine zJ rfl rfl ?_|refine jr rfl ?_|refine jn ?_|refine zM rfl rfl ?_|(refine zC rfl rfl ?_ rfl ?_;omega)|(refine zD rfl rfl ?_ rfl ?_;omega)|(refine zP rfl ?_ rfl ?_;omega)|refine zG rfl rfl rfl rfl ?_|(refine jdq rfl rfl ?_ ?_ ?_;kernel_rfl;kernel_rfl)|refine zB rfl rfl rfl (by repeat constructor) rfl ?_|refine zH .here rfl rfl rfl rfl ?_|refine zH (.there .here) rfl rfl rfl rfl ?_|refine zH (.there (.there .here)) rfl rfl rfl rfl ?_) 
        exact J_again (i + 1, u', G.un hh) ⟨hlt, hG.trans (PH.le_l _ _), by dsimp only; rw [hso, hins']; exact hrow'⟩ (by dsimp only; omega) ⟨⟨rfl, rfl, rfl, rfl, trivial⟩, fun w s => s.drop⟩
  · obtain rfl : i = L.length := by omega
    rw [List.take_length] at hrow
    repeat (first|refine zJ rfl rfl ?_|refine jr rfl ?_|refine jn ?_|refine zM rfl rfl ?_|(refine zC rfl rfl ?_ rfl ?_;omega)|(refine zD rfl rfl ?_ rfl ?_;omega)|(refine zP rfl ?_ rfl ?_;omega)|refine zG rfl rfl rfl rfl ?_|(refine jdq rfl rfl ?_ ?_ ?_;kernel_rfl;kernel_rfl)|refine zB rfl rfl rfl (by repeat constructor) rfl ?_|refine zH .here rfl rfl rfl rfl ?_|refine zH (.there .here) rfl rfl rfl rfl ?_|refine zH (.there (.there .here)) rfl rfl rfl rfl ?_)
    exact J_retv rfl (.tmp rfl .nil) [] (fun w s => s) hG ⟨rfl, hrow⟩
end Go.Proofs.Ytmicjjhkoicdnaa
namespace Go.Proofs.Ytmicjjhkoicdnaa
open Go.RowKit
set_option maxRecDepth 100000
theorem insL_map {α β : Type} {lt : α → α → Bool} {lt' : β → β → Bool} {f : α → β} (h : ∀ x y, lt x y = lt' (f x) (f y)) (x : α) : ∀ (n : Nat) (S : List α), S.length = n → (insL lt x S).map f = insL lt' (f x) (S.map f) := by
  intro n
  induction n with
  | zero =>
    intro S hS
    obtain rfl := List.eq_nil_of_length_eq_zero hS
    rfl
  | succ n ih =>
    intro S hS
    rcases List.eq_nil_or_concat S with rfl | ⟨S', y, rfl⟩
    · rfl
    rw [List.concat_eq_append] at *
    rw [List.map_append, List.map_singleton, insL_snoc, insL_snoc, h x y]
    by_cases e : lt' (f x) (f y) = true
    · rw [if_pos e, if_pos e, List.map_append, ih S' (by simpa using hS), List.map_singleton]
    · rw [if_neg e, if_neg e, List.map_append, List.map_append, List.map_singleton, List.map_singleton]
theorem isortL_map {α β : Type} {lt : α → α → Bool} {lt' : β → β → Bool} {f : α → β} (h : ∀ x y, lt x y = lt' (f x) (f y)) (L : List α) : (isortL lt L).map f = isortL lt' (L.map f) := by
  have key : ∀ (L S : List α), (L.foldl (fun S x => insL lt x S) S).map f = (L.map f).foldl (fun S x => insL lt' x S) (S.map f) := by
    intro L
    induction L with
    | nil => intro S; rfl
    | cons x L ih =>
      intro S
      rw [List.foldl_cons, List.map_cons, List.foldl_cons, ih, insL_map h x S.length S rfl]
  exact key L []
def ltK (x y : PrX) : Bool := decide (x.1 < y.1) || (decide (x.1 = y.1) && decide (x.2.1 < y.2.1))
theorem sort_key {L L' : List PV} (h : L.map PV.key = L'.map PV.key) : (isortL ltS L).map PV.key = (isortL ltS L').map PV.key := by
  have hk : ∀ x y : PV, ltS x y = ltK x.key y.key := fun _ _ => rfl
  rw [isortL_map hk, isortL_map hk, h]
theorem filt_key {L L' : List PV} (low : Int) (h : L.map PV.key = L'.map PV.key) : (L.filter fun y => !decide (y.s ≤ low)).map PV.key = (L'.filter fun y => !decide (y.s ≤ low)).map PV.key := by
  have hk : ∀ M : List PV, (M.filter fun y => !decide (y.s ≤ low)).map PV.key = (M.map PV.key).filter fun y => !decide (y.1 ≤ low) := fun M => by
    rw [List.filter_map]
    rfl
  rw [hk, hk, h]
theorem key_len {L L' : List PV} (h : L.map PV.key = L'.map PV.key) : L'.length = L.length := by
  have := congrArg List.length h
  rw [List.length_map, List.length_map] at this
  exact this.symm
theorem prop_len {l : List PrX} {x : PrX} (h : l.length ≤ 64) : (propP l x).length ≤ 64 := by
  unfold propP
  dsimp only
  have h1 := newer_len (alikeP x) l x
  split
  · assumption
  · rename_i h2
    have h3 := worstN_lt (newerP (alikeP x) l x) (newerP (alikeP x) l x).length
    rw [List.length_eraseIdx, if_pos (by omega)]
    omega
abbrev ActP := Int × PrX × Unit
def tyActP : Ty Try.prog 52 ActP := tyStruct Try.underlying52 (fsCons tyU8 (fsCons tyPr (fsNil _) rfl (by kernel_rfl)) rfl (by kernel_rfl)) (by kernel_rfl)
def actC (k : Int) (y : PV) : List Value := .int .u8 k :: y.cs
theorem act_of {F : PH} {x : ActP} {cs : List Value} (h : tyActP.rep F x cs) : ∃ (k : Int) (y : PV), cs = actC k y ∧ InK .u8 k ∧ y.n = y.es.length ∧ InK .i64 y.s ∧ InK .i64 y.w ∧ RowB tyEn F (.slice y.a y.n y.c) y.es := by
  obtain ⟨_, c2, rfl, ⟨rfl, k⟩, c3, _, rfl, hc, rfl⟩ := h
  obtain ⟨v, rfl, k1, k2, hr⟩ := pr_of hc
  obtain ⟨a, c, rfl, _, _⟩ := hr.form
  exact ⟨x.1, ⟨x.2.1.1, x.2.1.2.1, a, x.2.1.2.2.1.length, c, x.2.1.2.2.1⟩, by simp [actC, PV.cs], k, rfl, k1, k2, hr⟩
/-- Both sides, after some acts. -/
structure PlSt where
  G : PH
  v1 : Value
  v2 : Value
  r1 : Value
  r2 : Value
  L : List PV
  M : List PV
  L' : List PV
  M' : List PV
structure PlOk (F : PH) (i : Nat) (t : PlSt) : Prop where
  le : F.le t.G
  okL : ∀ y ∈ t.L, y.Ok t.G
  okM : ∀ y ∈ t.M, y.Ok t.G
  rowL : PvRow t.G t.r1 t.L'
  rowM : PvRow t.G t.r2 t.M'
  okL' : ∀ y ∈ t.L', y.Ok t.G
  okM' : ∀ y ∈ t.M', y.Ok t.G
  keyL : t.L.map PV.key = t.L'.map PV.key
  keyM : t.M.map PV.key = t.M'.map PV.key
  lenL : t.L.length ≤ i
  lenM : t.M.length ≤ 64
theorem ok_mono {F G : PH} {L : List PV} (h : ∀ y ∈ L, y.Ok F) (hl : F.le G) : ∀ y ∈ L, y.Ok G := fun y hy => (h y hy).mono hl
theorem ok_filter {F : PH} {L : List PV} (p : PV → Bool) (h : ∀ y ∈ L, y.Ok F) : ∀ y ∈ L.filter p, y.Ok F := fun y hy => h y (List.mem_filter.1 hy).1
theorem ok_sort {F : PH} {L : List PV} (h : ∀ y ∈ L, y.Ok F) : ∀ y ∈ isortL ltS L, y.Ok F := fun y hy => h y ((isortL_perm ltS L).mem_iff.1 hy)
theorem sort_len (L : List PV) : (isortL ltS L).length = L.length := (isortL_perm ltS L).length_eq
theorem newerP_key_len {h : PrX → Bool} {L L1 : List PV} {x : PrX} (e : L1.map PV.key = newerP h (L.map PV.key) x) : L1.length ≤ L.length + 1 := by
  have := newer_len h (L.map PV.key) x
  rw [← e, List.length_map, List.length_map] at this
  exact this
end Go.Proofs.Ytmicjjhkoicdnaa
