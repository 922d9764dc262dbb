/-
  What a step's line tells of it, and the line, walked in the document. Conditions are typed with each.
-/
import Derived.Test.YtekdmpbkcjjllaaDoorZl
namespace Go.Proofs.YtekdmpbkcjjllaaDoor
open Go.RowKit
set_option maxRecDepth 100000
set_option maxHeartbeats 64000000 in
theorem dtold_spec (x : St) (vo vb vt : Value) (F : PH) (hx : StOk F x vo vb vt) (hf : FewSt x) (hk : 1 ≤ x.kind ∧ x.kind ≤ 8) : Spec Tryd.prog 27 [.agg (stC x vo vb vt).toArray] F [] fun u F' H' => H' = [] ∧ ∃ wo wb wt, u = .tuple #[.agg (stC (toldP x) wo wb wt).toArray, .string (strOf (lineB x))] ∧ StOk F' (toldP x) wo wb wt := by
  obtain ⟨oa, oc, rfl, _, _⟩ := hx.orgs.at1
  obtain ⟨_, ba, bc, rfl, _, _⟩ := slice1 hx.body
  obtain ⟨ta, tc, rfl⟩ : ∃ ta tc, vt = .slice ta x.tags.length tc := by
    obtain ⟨⟨_, a, c, e, _, _⟩, _⟩ := hx.tags
    exact ⟨a, c, e⟩
  obtain ⟨kind, who, to, at_, core, orgs, blank, mk1, mf1, body, tags⟩ := x
  dsimp only at hk
  have i1 : InI who := hx.who
  have i2 : InI to := hx.to
  have i3 : InI at_ := hx.at_
  have i4 : CoIn core := hx.core
  have i5 : NumRow F (.slice oa orgs.length oc) orgs := hx.orgs
  have i6 : InI mk1 := hx.mk1
  have i7 : InI mf1 := hx.mf1
  have i8 : TagRow F (.slice ta tags.length tc) tags := hx.tags
  have i9 : Byt F (.slice ba body.length bc) body := hx.body
  have ik : InI kind := hx.kind
  have b0 : 0 ≤ blank := hx.b0
  have b1_ : blank ≤ 4294967295 := hx.b1
  have ib : InI blank := ⟨by omega, by omega⟩
  have f1 : core.letter.length ≤ 100 := hf.letter
  have f2 : core.text.length ≤ 300 := hf.text
  have f3 : orgs.length ≤ 20 := hf.orgs
  have f4 : body.length ≤ 500 := hf.body
  have f5 : tags.length ≤ 10 := hf.tags
  have lw := coW_len i4 f1 f2
  have lo := spW_nums_len i5.2
  have lh := hexB_len body
  have l1 : ∀ n, InI n → (spW (nums [n])).length ≤ 22 := fun n h => by have := spW_nums_len (l := [n]) (by simpa using h); simpa using this
  have n1 : wAsk.length = 3 := rfl
  have n2 : wAgain.length = 5 := rfl
  have n3 : wTick.length = 4 := rfl
  have n4 : wDeliver.length = 7 := rfl
  have n5 : wTwice.length = 5 := rfl
  have n6 : wLose.length = 4 := rfl
  have n7 : wRequest.length = 7 := rfl
  have n8 : wLie.length = 3 := rfl
  have n9 : wForge.length = 5 := rfl
  have lst := itoa_len i4.stamp
  clear hx hf
  refine Spec.of1 Tryd.func27 rfl rfl fun X w0 => ?_
  repeat (first|refine zJ rfl rfl ?_|refine jr rfl ?_|refine jn ?_|refine zM rfl rfl ?_|(refine zC rfl rfl ?_ rfl ?_;omega)|(refine zD rfl rfl ?_ rfl ?_;omega)|(refine zP rfl ?_ rfl ?_;omega)|refine zG rfl rfl rfl rfl ?_|(refine jdq rfl rfl ?_ ?_ ?_;kernel_rfl;kernel_rfl)|refine zB rfl rfl rfl (by repeat constructor) rfl ?_|refine zH .here rfl rfl rfl rfl ?_|refine zH (.there .here) rfl rfl rfl rfl ?_|refine zH (.there (.there .here)) rfl rfl rfl rfl ?_|refine zH (.there (.there (.there .here))) rfl rfl rfl rfl ?_|refine zH (.there (.there (.there (.there .here)))) rfl rfl rfl rfl ?_)
  refine oE (ev_box rfl .agg) rfl ?_; rintro _ _ _ _ ⟨rfl, b1, rfl, rfl⟩
  repeat (first|refine zJ rfl rfl ?_|refine jr rfl ?_|refine jn ?_|refine zM rfl rfl ?_|(refine zC rfl rfl ?_ rfl ?_;omega)|(refine zD rfl rfl ?_ rfl ?_;omega)|(refine zP rfl ?_ rfl ?_;omega)|refine zG rfl rfl rfl rfl ?_|(refine jdq rfl rfl ?_ ?_ ?_;kernel_rfl;kernel_rfl)|refine zB rfl rfl rfl (by repeat constructor) rfl ?_|refine zH .here rfl rfl rfl rfl ?_|refine zH (.there .here) rfl rfl rfl rfl ?_|refine zH (.there (.there .here)) rfl rfl rfl rfl ?_|refine zH (.there (.there (.there .here))) rfl rfl rfl rfl ?_|refine zH (.there (.there (.there (.there .here)))) rfl rfl rfl rfl ?_)
  refine oE (ev_alloc (cs := zStC) rfl) rfl ?_
  rintro _ _ _ _ ⟨rfl, b2, rfl, rfl⟩
  repeat (first|refine zJ rfl rfl ?_|refine jr rfl ?_|refine jn ?_|refine zM rfl rfl ?_|(refine zC rfl rfl ?_ rfl ?_;omega)|(refine zD rfl rfl ?_ rfl ?_;omega)|(refine zP rfl ?_ rfl ?_;omega)|refine zG rfl rfl rfl rfl ?_|(refine jdq rfl rfl ?_ ?_ ?_;kernel_rfl;kernel_rfl)|refine zB rfl rfl rfl (by repeat constructor) rfl ?_|refine zH .here rfl rfl rfl rfl ?_|refine zH (.there .here) rfl rfl rfl rfl ?_|refine zH (.there (.there .here)) rfl rfl rfl rfl ?_|refine zH (.there (.there (.there .here))) rfl rfl rfl rfl ?_|refine zH (.there (.there (.there (.there .here)))) rfl rfl rfl rfl ?_)
  refine oE (ev_alloc (cs := zStC) rfl) rfl ?_
  rintro _ _ _ _ ⟨rfl, b4, rfl, rfl⟩
  refine oN (ev_store (vs := stC { zSt with kind := kind } nl nl nl) rfl rfl .agg rfl rfl (lay_all (zs := zStC) rfl) (by unfold stC; (repeat (first | exact ones_nil | refine ones_cons rfl ?_))) .here) rfl ?_
  rintro _ _ _ _ ⟨rfl, _, rfl⟩
  refine jn ?_
  refine J_pick (.there (.there .here)) ?_
  obtain rfl | rfl | rfl | rfl | rfl | rfl | rfl | rfl : kind = 2 ∨ kind = 6 ∨ kind = 3 ∨ kind = 4 ∨ kind = 5 ∨ kind = 1 ∨ kind = 7 ∨ kind = 8 := by omega
  · repeat (first|refine zJ rfl rfl ?_|refine jr rfl ?_|refine jn ?_|refine zM rfl rfl ?_|(refine zC rfl rfl ?_ rfl ?_;omega)|(refine zD rfl rfl ?_ rfl ?_;omega)|(refine zP rfl ?_ rfl ?_;omega)|refine zG rfl rfl rfl rfl ?_|(refine jdq rfl rfl ?_ ?_ ?_;kernel_rfl;kernel_rfl)|refine zB rfl rfl rfl (by repeat constructor) rfl ?_|refine zH .here rfl rfl rfl rfl ?_|refine zH (.there .here) rfl rfl rfl rfl ?_|refine zH (.there (.there .here)) rfl rfl rfl rfl ?_|refine zH (.there (.there (.there .here))) rfl rfl rfl rfl ?_|refine zH (.there (.there (.there (.there .here)))) rfl rfl rfl rfl ?_)
    refine oN (ev_store rfl rfl .int rfl rfl (.skip (.put .nil)) (ones_cons rfl ones_nil) (.there .here)) rfl ?_
    rintro _ _ _ _ ⟨rfl, _, rfl⟩
    repeat (first|refine zJ rfl rfl ?_|refine jr rfl ?_|refine jn ?_|refine zM rfl rfl ?_|(refine zC rfl rfl ?_ rfl ?_;omega)|(refine zD rfl rfl ?_ rfl ?_;omega)|(refine zP rfl ?_ rfl ?_;omega)|refine zG rfl rfl rfl rfl ?_|(refine jdq rfl rfl ?_ ?_ ?_;kernel_rfl;kernel_rfl)|refine zB rfl rfl rfl (by repeat constructor) rfl ?_|refine zH .here rfl rfl rfl rfl ?_|refine zH (.there .here) rfl rfl rfl rfl ?_|refine zH (.there (.there .here)) rfl rfl rfl rfl ?_|refine zH (.there (.there (.there .here))) rfl rfl rfl rfl ?_|refine zH (.there (.there (.there (.there .here)))) rfl rfl rfl rfl ?_)
    refine ja F [blk b1 31 (stC ⟨2, who, to, at_, core, orgs, blank, mk1, mf1, body, tags⟩ (.slice oa orgs.length oc) (.slice ba body.length bc) (.slice ta tags.length tc)), blk b4 31 (stC { zSt with kind := 2, who := who } nl nl nl)] ?_ ?_ ?_; kernel_rfl
    · exact fun w s => Sat.left (A := [_, _]) s
    refine aT 0 rfl (ev_load_agg (cs := stC { zSt with kind := 2, who := who } nl nl nl) rfl rfl (Rdb.ofB (n := 0) (.there .here) rfl) rfl) rfl rfl ?_ ?_ ?_ ?_; kernel_rfl; kernel_rfl; kernel_rfl
    refine aT 1 rfl (ev_qe rfl) rfl rfl ?_ ?_ ?_ ?_; kernel_rfl; kernel_rfl; kernel_rfl
    refine aT 2 rfl (ev_load (v := .int .i64 who) rfl rfl (Rdb.ofB (n := 1) .here rfl)) rfl rfl ?_ ?_ ?_ ?_; kernel_rfl; kernel_rfl; kernel_rfl
    have ll := l1 who i1
    refine aB (i := 3) (by kernel_rfl) (aE rfl (ev_buildSlice (E := 3) (zs := [.int .i64 0]) (r := [.int .i64 0]) (t := ints [who]) rfl rfl rfl rfl rfl rfl (.cons .int rfl (by repeat constructor) (.nil))) rfl rfl (fun _ _ _ _ hq w s => by obtain ⟨e, _, _, e2⟩ := hq; subst e; subst e2; exact Sat.left (A := [_, _]) s.drop) ?_)
    rintro _ _ _ _ ⟨rfl, bt, rfl, rfl⟩
    refine aPersist fun hh hA hd => ?_
    have hrow : NumRow (PH.un F hh) (.slice (some ⟨bt, 0, none⟩) 1 1) [who] := NumRow.of_blk hA hd (by simp only [List.mem_cons, List.not_mem_nil, or_false, forall_eq_or_imp, forall_eq]; exact i1)
    have hG := PH.le_l F hh
    generalize PH.un F hh = G at *
    refine aB (i := 4) (by kernel_rfl) (aP rfl (words_spec _ _ G hrow (by show 1 ≤ 10000000; decide)) Tryd.call38 rfl rfl rfl (fun _ s => Sat.mono (Sat.left (A := [_, _]) s) hG) ?_)
    refine aT 5 rfl (ev_cat (a := wAgain) rfl rfl (by simp only [List.length_append, List.length_cons, List.length_nil] at *; omega)) rfl rfl ?_ ?_ ?_ ?_; kernel_rfl; kernel_rfl; kernel_rfl
    refine aB (i := 6) (by kernel_rfl) (aN rfl (ev_store (vs := stC { zSt with kind := 2, who := who } nl nl nl) rfl rfl .agg rfl rfl (lay_all (zs := zStC) rfl) (by unfold stC nl; (repeat (first | exact ones_nil | refine ones_cons rfl ?_))) (.there (.there .here))) rfl (fun _ _ _ _ hq w s => by obtain ⟨e, _, e2⟩ := hq; subst e; subst e2; exact Sat.mono (Sat.left (A := [_, _]) s) hG) ?_)
    rintro _ _ _ _ ⟨rfl, _, rfl⟩
    refine aT 7 rfl (ev_qe rfl) rfl rfl ?_ ?_ ?_ ?_; kernel_rfl; kernel_rfl; kernel_rfl
    refine aD (by kernel_rfl) ?_
    repeat (first|refine zJ rfl rfl ?_|refine jr rfl ?_|refine jn ?_|refine zM rfl rfl ?_|(refine zC rfl rfl ?_ rfl ?_;omega)|(refine zD rfl rfl ?_ rfl ?_;omega)|(refine zP rfl ?_ rfl ?_;omega)|refine zG rfl rfl rfl rfl ?_|(refine jdq rfl rfl ?_ ?_ ?_;kernel_rfl;kernel_rfl)|refine zB rfl rfl rfl (by repeat constructor) rfl ?_|refine zH .here rfl rfl rfl rfl ?_|refine zH (.there .here) rfl rfl rfl rfl ?_|refine zH (.there (.there .here)) rfl rfl rfl rfl ?_|refine zH (.there (.there (.there .here))) rfl rfl rfl rfl ?_|refine zH (.there (.there (.there (.there .here)))) rfl rfl rfl rfl ?_)
    exact J_retv (vs := [.agg (stC { zSt with kind := 2, who := who } nl nl nl).toArray, .string (strOf (lineB ⟨2, who, to, at_, core, orgs, blank, mk1, mf1, body, tags⟩))]) rfl (.agg rfl rfl (Rdb.ofB (n := 0) (.there (.there .here)) rfl) rfl (.tmp rfl .nil)) [] (fun w s => s.drop.drop.drop) hG ⟨rfl, _, _, _, rfl, ⟨ik, i1, inI0, inI0, zCo_in, NumRow.nil _, Int.le_refl 0, by show (0 : Int) ≤ 4294967295; decide, inI0, inI0, SliceV.nil _ _, TagRow.nil _⟩⟩
  · repeat (first|refine zJ rfl rfl ?_|refine jr rfl ?_|refine jn ?_|refine zM rfl rfl ?_|(refine zC rfl rfl ?_ rfl ?_;omega)|(refine zD rfl rfl ?_ rfl ?_;omega)|(refine zP rfl ?_ rfl ?_;omega)|refine zG rfl rfl rfl rfl ?_|(refine jdq rfl rfl ?_ ?_ ?_;kernel_rfl;kernel_rfl)|refine zB rfl rfl rfl (by repeat constructor) rfl ?_|refine zH .here rfl rfl rfl rfl ?_|refine zH (.there .here) rfl rfl rfl rfl ?_|refine zH (.there (.there .here)) rfl rfl rfl rfl ?_|refine zH (.there (.there (.there .here))) rfl rfl rfl rfl ?_|refine zH (.there (.there (.there (.there .here)))) rfl rfl rfl rfl ?_)
    refine oN (ev_store rfl rfl .int rfl rfl (.skip (.put .nil)) (ones_cons rfl ones_nil) (.there .here)) rfl ?_
    rintro _ _ _ _ ⟨rfl, _, rfl⟩
    repeat (first|refine zJ rfl rfl ?_|refine jr rfl ?_|refine jn ?_|refine zM rfl rfl ?_|(refine zC rfl rfl ?_ rfl ?_;omega)|(refine zD rfl rfl ?_ rfl ?_;omega)|(refine zP rfl ?_ rfl ?_;omega)|refine zG rfl rfl rfl rfl ?_|(refine jdq rfl rfl ?_ ?_ ?_;kernel_rfl;kernel_rfl)|refine zB rfl rfl rfl (by repeat constructor) rfl ?_|refine zH .here rfl rfl rfl rfl ?_|refine zH (.there .here) rfl rfl rfl rfl ?_|refine zH (.there (.there .here)) rfl rfl rfl rfl ?_|refine zH (.there (.there (.there .here))) rfl rfl rfl rfl ?_|refine zH (.there (.there (.there (.there .here)))) rfl rfl rfl rfl ?_)
    refine ja F [blk b1 31 (stC ⟨6, who, to, at_, core, orgs, blank, mk1, mf1, body, tags⟩ (.slice oa orgs.length oc) (.slice ba body.length bc) (.slice ta tags.length tc)), blk b4 31 (stC { zSt with kind := 6, who := who } nl nl nl)] ?_ ?_ ?_; kernel_rfl
    · exact fun w s => Sat.left (A := [_, _]) s
    refine aT 0 rfl (ev_load_agg (cs := stC { zSt with kind := 6, who := who } nl nl nl) rfl rfl (Rdb.ofB (n := 0) (.there .here) rfl) rfl) rfl rfl ?_ ?_ ?_ ?_; kernel_rfl; kernel_rfl; kernel_rfl
    refine aT 1 rfl (ev_qe rfl) rfl rfl ?_ ?_ ?_ ?_; kernel_rfl; kernel_rfl; kernel_rfl
    refine aT 2 rfl (ev_load (v := .int .i64 who) rfl rfl (Rdb.ofB (n := 1) .here rfl)) rfl rfl ?_ ?_ ?_ ?_; kernel_rfl; kernel_rfl; kernel_rfl
    have ll := l1 who i1
    refine aB (i := 3) (by kernel_rfl) (aE rfl (ev_buildSlice (E := 3) (zs := [.int .i64 0]) (r := [.int .i64 0]) (t := ints [who]) rfl rfl rfl rfl rfl rfl (.cons .int rfl (by repeat constructor) (.nil))) rfl rfl (fun _ _ _ _ hq w s => by obtain ⟨e, _, _, e2⟩ := hq; subst e; subst e2; exact Sat.left (A := [_, _]) s.drop) ?_)
    rintro _ _ _ _ ⟨rfl, bt, rfl, rfl⟩
    refine aPersist fun hh hA hd => ?_
    have hrow : NumRow (PH.un F hh) (.slice (some ⟨bt, 0, none⟩) 1 1) [who] := NumRow.of_blk hA hd (by simp only [List.mem_cons, List.not_mem_nil, or_false, forall_eq_or_imp, forall_eq]; exact i1)
    have hG := PH.le_l F hh
    generalize PH.un F hh = G at *
    refine aB (i := 4) (by kernel_rfl) (aP rfl (words_spec _ _ G hrow (by show 1 ≤ 10000000; decide)) Tryd.call38 rfl rfl rfl (fun _ s => Sat.mono (Sat.left (A := [_, _]) s) hG) ?_)
    refine aT 5 rfl (ev_cat (a := wTick) rfl rfl (by simp only [List.length_append, List.length_cons, List.length_nil] at *; omega)) rfl rfl ?_ ?_ ?_ ?_; kernel_rfl; kernel_rfl; kernel_rfl
    refine aB (i := 6) (by kernel_rfl) (aN rfl (ev_store (vs := stC { zSt with kind := 6, who := who } nl nl nl) rfl rfl .agg rfl rfl (lay_all (zs := zStC) rfl) (by unfold stC nl; (repeat (first | exact ones_nil | refine ones_cons rfl ?_))) (.there (.there .here))) rfl (fun _ _ _ _ hq w s => by obtain ⟨e, _, e2⟩ := hq; subst e; subst e2; exact Sat.mono (Sat.left (A := [_, _]) s) hG) ?_)
    rintro _ _ _ _ ⟨rfl, _, rfl⟩
    refine aT 7 rfl (ev_qe rfl) rfl rfl ?_ ?_ ?_ ?_; kernel_rfl; kernel_rfl; kernel_rfl
    refine aD (by kernel_rfl) ?_
    repeat (first|refine zJ rfl rfl ?_|refine jr rfl ?_|refine jn ?_|refine zM rfl rfl ?_|(refine zC rfl rfl ?_ rfl ?_;omega)|(refine zD rfl rfl ?_ rfl ?_;omega)|(refine zP rfl ?_ rfl ?_;omega)|refine zG rfl rfl rfl rfl ?_|(refine jdq rfl rfl ?_ ?_ ?_;kernel_rfl;kernel_rfl)|refine zB rfl rfl rfl (by repeat constructor) rfl ?_|refine zH .here rfl rfl rfl rfl ?_|refine zH (.there .here) rfl rfl rfl rfl ?_|refine zH (.there (.there .here)) rfl rfl rfl rfl ?_|refine zH (.there (.there (.there .here))) rfl rfl rfl rfl ?_|refine zH (.there (.there (.there (.there .here)))) rfl rfl rfl rfl ?_)
    exact J_retv (vs := [.agg (stC { zSt with kind := 6, who := who } nl nl nl).toArray, .string (strOf (lineB ⟨6, who, to, at_, core, orgs, blank, mk1, mf1, body, tags⟩))]) rfl (.agg rfl rfl (Rdb.ofB (n := 0) (.there (.there .here)) rfl) rfl (.tmp rfl .nil)) [] (fun w s => s.drop.drop.drop) hG ⟨rfl, _, _, _, rfl, ⟨ik, i1, inI0, inI0, zCo_in, NumRow.nil _, Int.le_refl 0, by show (0 : Int) ≤ 4294967295; decide, inI0, inI0, SliceV.nil _ _, TagRow.nil _⟩⟩
  · repeat (first|refine zJ rfl rfl ?_|refine jr rfl ?_|refine jn ?_|refine zM rfl rfl ?_|(refine zC rfl rfl ?_ rfl ?_;omega)|(refine zD rfl rfl ?_ rfl ?_;omega)|(refine zP rfl ?_ rfl ?_;omega)|refine zG rfl rfl rfl rfl ?_|(refine jdq rfl rfl ?_ ?_ ?_;kernel_rfl;kernel_rfl)|refine zB rfl rfl rfl (by repeat constructor) rfl ?_|refine zH .here rfl rfl rfl rfl ?_|refine zH (.there .here) rfl rfl rfl rfl ?_|refine zH (.there (.there .here)) rfl rfl rfl rfl ?_|refine zH (.there (.there (.there .here))) rfl rfl rfl rfl ?_|refine zH (.there (.there (.there (.there .here)))) rfl rfl rfl rfl ?_)
    refine oN (ev_store rfl rfl .int rfl rfl (.skip (.skip (.skip (.put .nil)))) (ones_cons rfl ones_nil) (.there .here)) rfl ?_
    rintro _ _ _ _ ⟨rfl, _, rfl⟩
    repeat (first|refine zJ rfl rfl ?_|refine jr rfl ?_|refine jn ?_|refine zM rfl rfl ?_|(refine zC rfl rfl ?_ rfl ?_;omega)|(refine zD rfl rfl ?_ rfl ?_;omega)|(refine zP rfl ?_ rfl ?_;omega)|refine zG rfl rfl rfl rfl ?_|(refine jdq rfl rfl ?_ ?_ ?_;kernel_rfl;kernel_rfl)|refine zB rfl rfl rfl (by repeat constructor) rfl ?_|refine zH .here rfl rfl rfl rfl ?_|refine zH (.there .here) rfl rfl rfl rfl ?_|refine zH (.there (.there .here)) rfl rfl rfl rfl ?_|refine zH (.there (.there (.there .here))) rfl rfl rfl rfl ?_|refine zH (.there (.there (.there (.there .here)))) rfl rfl rfl rfl ?_)
    show J _ _ _ _ (blk b1 31 (stC ⟨3, who, to, at_, core, orgs, blank, mk1, mf1, body, tags⟩ (.slice oa orgs.length oc) (.slice ba body.length bc) (.slice ta tags.length tc)) :: blk b4 31 (stC { zSt with kind := 3, at_ := at_ } nl nl nl) :: blk b2 31 zStC :: X)
    refine ja F [blk b1 31 (stC ⟨3, who, to, at_, core, orgs, blank, mk1, mf1, body, tags⟩ (.slice oa orgs.length oc) (.slice ba body.length bc) (.slice ta tags.length tc)), blk b4 31 (stC { zSt with kind := 3, at_ := at_ } nl nl nl)] ?_ ?_ ?_; kernel_rfl
    · exact fun w s => Sat.left (A := [_, _]) s
    refine aT 0 rfl (ev_load_agg (cs := stC { zSt with kind := 3, at_ := at_ } nl nl nl) rfl rfl (Rdb.ofB (n := 0) (.there .here) rfl) rfl) rfl rfl ?_ ?_ ?_ ?_; kernel_rfl; kernel_rfl; kernel_rfl
    refine aT 1 rfl (ev_qe rfl) rfl rfl ?_ ?_ ?_ ?_; kernel_rfl; kernel_rfl; kernel_rfl
    refine aT 2 rfl (ev_qe rfl) rfl rfl ?_ ?_ ?_ ?_; kernel_rfl; kernel_rfl; kernel_rfl
    refine aT 3 rfl (ev_load (v := .int .i64 at_) rfl rfl (Rdb.ofB (n := 3) .here rfl)) rfl rfl ?_ ?_ ?_ ?_; kernel_rfl; kernel_rfl; kernel_rfl
    have ll := l1 at_ i3
    refine aB (i := 4) (by kernel_rfl) (aE rfl (ev_buildSlice (E := 3) (zs := [.int .i64 0]) (r := [.int .i64 0]) (t := ints [at_]) rfl rfl rfl rfl rfl rfl (.cons .int rfl (by repeat constructor) (.nil))) rfl rfl (fun _ _ _ _ hq w s => by obtain ⟨e, _, _, e2⟩ := hq; subst e; subst e2; exact Sat.left (A := [_, _]) s.drop) ?_)
    rintro _ _ _ _ ⟨rfl, bt, rfl, rfl⟩
    refine aPersist fun hh hA hd => ?_
    have hrow : NumRow (PH.un F hh) (.slice (some ⟨bt, 0, none⟩) 1 1) [at_] := NumRow.of_blk hA hd (by simp only [List.mem_cons, List.not_mem_nil, or_false, forall_eq_or_imp, forall_eq]; exact i3)
    have hG := PH.le_l F hh
    generalize PH.un F hh = G at *
    refine aB (i := 5) (by kernel_rfl) (aP rfl (words_spec _ _ G hrow (by show 1 ≤ 10000000; decide)) Tryd.call38 rfl rfl rfl (fun _ s => Sat.mono (Sat.left (A := [_, _]) s) hG) ?_)
    refine aT 6 rfl (ev_cat (a := wDeliver) rfl rfl (by simp only [List.length_append, List.length_cons, List.length_nil] at *; omega)) rfl rfl ?_ ?_ ?_ ?_; kernel_rfl; kernel_rfl; kernel_rfl
    refine aB (i := 7) (by kernel_rfl) (aN rfl (ev_store (vs := stC { zSt with kind := 3, at_ := at_ } nl nl nl) rfl rfl .agg rfl rfl (lay_all (zs := zStC) rfl) (by unfold stC nl; (repeat (first | exact ones_nil | refine ones_cons rfl ?_))) (.there (.there .here))) rfl (fun _ _ _ _ hq w s => by obtain ⟨e, _, e2⟩ := hq; subst e; subst e2; exact Sat.mono (Sat.left (A := [_, _]) s) hG) ?_)
    rintro _ _ _ _ ⟨rfl, _, rfl⟩
    refine aT 8 rfl (ev_qe rfl) rfl rfl ?_ ?_ ?_ ?_; kernel_rfl; kernel_rfl; kernel_rfl
    refine aD (by kernel_rfl) ?_
    repeat (first|refine zJ rfl rfl ?_|refine jr rfl ?_|refine jn ?_|refine zM rfl rfl ?_|(refine zC rfl rfl ?_ rfl ?_;omega)|(refine zD rfl rfl ?_ rfl ?_;omega)|(refine zP rfl ?_ rfl ?_;omega)|refine zG rfl rfl rfl rfl ?_|(refine jdq rfl rfl ?_ ?_ ?_;kernel_rfl;kernel_rfl)|refine zB rfl rfl rfl (by repeat constructor) rfl ?_|refine zH .here rfl rfl rfl rfl ?_|refine zH (.there .here) rfl rfl rfl rfl ?_|refine zH (.there (.there .here)) rfl rfl rfl rfl ?_|refine zH (.there (.there (.there .here))) rfl rfl rfl rfl ?_|refine zH (.there (.there (.there (.there .here)))) rfl rfl rfl rfl ?_)
    exact J_retv (vs := [.agg (stC { zSt with kind := 3, at_ := at_ } nl nl nl).toArray, .string (strOf (lineB ⟨3, who, to, at_, core, orgs, blank, mk1, mf1, body, tags⟩))]) rfl (.agg rfl rfl (Rdb.ofB (n := 0) (.there (.there .here)) rfl) rfl (.tmp rfl .nil)) [] (fun w s => s.drop.drop.drop) hG ⟨rfl, _, _, _, rfl, ⟨ik, inI0, inI0, i3, zCo_in, NumRow.nil _, Int.le_refl 0, by show (0 : Int) ≤ 4294967295; decide, inI0, inI0, SliceV.nil _ _, TagRow.nil _⟩⟩
  · repeat (first|refine zJ rfl rfl ?_|refine jr rfl ?_|refine jn ?_|refine zM rfl rfl ?_|(refine zC rfl rfl ?_ rfl ?_;omega)|(refine zD rfl rfl ?_ rfl ?_;omega)|(refine zP rfl ?_ rfl ?_;omega)|refine zG rfl rfl rfl rfl ?_|(refine jdq rfl rfl ?_ ?_ ?_;kernel_rfl;kernel_rfl)|refine zB rfl rfl rfl (by repeat constructor) rfl ?_|refine zH .here rfl rfl rfl rfl ?_|refine zH (.there .here) rfl rfl rfl rfl ?_|refine zH (.there (.there .here)) rfl rfl rfl rfl ?_|refine zH (.there (.there (.there .here))) rfl rfl rfl rfl ?_|refine zH (.there (.there (.there (.there .here)))) rfl rfl rfl rfl ?_)
    refine oN (ev_store rfl rfl .int rfl rfl (.skip (.skip (.skip (.put .nil)))) (ones_cons rfl ones_nil) (.there .here)) rfl ?_
    rintro _ _ _ _ ⟨rfl, _, rfl⟩
    repeat (first|refine zJ rfl rfl ?_|refine jr rfl ?_|refine jn ?_|refine zM rfl rfl ?_|(refine zC rfl rfl ?_ rfl ?_;omega)|(refine zD rfl rfl ?_ rfl ?_;omega)|(refine zP rfl ?_ rfl ?_;omega)|refine zG rfl rfl rfl rfl ?_|(refine jdq rfl rfl ?_ ?_ ?_;kernel_rfl;kernel_rfl)|refine zB rfl rfl rfl (by repeat constructor) rfl ?_|refine zH .here rfl rfl rfl rfl ?_|refine zH (.there .here) rfl rfl rfl rfl ?_|refine zH (.there (.there .here)) rfl rfl rfl rfl ?_|refine zH (.there (.there (.there .here))) rfl rfl rfl rfl ?_|refine zH (.there (.there (.there (.there .here)))) rfl rfl rfl rfl ?_)
    show J _ _ _ _ (blk b1 31 (stC ⟨4, who, to, at_, core, orgs, blank, mk1, mf1, body, tags⟩ (.slice oa orgs.length oc) (.slice ba body.length bc) (.slice ta tags.length tc)) :: blk b4 31 (stC { zSt with kind := 4, at_ := at_ } nl nl nl) :: blk b2 31 zStC :: X)
    refine ja F [blk b1 31 (stC ⟨4, who, to, at_, core, orgs, blank, mk1, mf1, body, tags⟩ (.slice oa orgs.length oc) (.slice ba body.length bc) (.slice ta tags.length tc)), blk b4 31 (stC { zSt with kind := 4, at_ := at_ } nl nl nl)] ?_ ?_ ?_; kernel_rfl
    · exact fun w s => Sat.left (A := [_, _]) s
    refine aT 0 rfl (ev_load_agg (cs := stC { zSt with kind := 4, at_ := at_ } nl nl nl) rfl rfl (Rdb.ofB (n := 0) (.there .here) rfl) rfl) rfl rfl ?_ ?_ ?_ ?_; kernel_rfl; kernel_rfl; kernel_rfl
    refine aT 1 rfl (ev_qe rfl) rfl rfl ?_ ?_ ?_ ?_; kernel_rfl; kernel_rfl; kernel_rfl
    refine aT 2 rfl (ev_qe rfl) rfl rfl ?_ ?_ ?_ ?_; kernel_rfl; kernel_rfl; kernel_rfl
    refine aT 3 rfl (ev_load (v := .int .i64 at_) rfl rfl (Rdb.ofB (n := 3) .here rfl)) rfl rfl ?_ ?_ ?_ ?_; kernel_rfl; kernel_rfl; kernel_rfl
    have ll := l1 at_ i3
    refine aB (i := 4) (by kernel_rfl) (aE rfl (ev_buildSlice (E := 3) (zs := [.int .i64 0]) (r := [.int .i64 0]) (t := ints [at_]) rfl rfl rfl rfl rfl rfl (.cons .int rfl (by repeat constructor) (.nil))) rfl rfl (fun _ _ _ _ hq w s => by obtain ⟨e, _, _, e2⟩ := hq; subst e; subst e2; exact Sat.left (A := [_, _]) s.drop) ?_)
    rintro _ _ _ _ ⟨rfl, bt, rfl, rfl⟩
    refine aPersist fun hh hA hd => ?_
    have hrow : NumRow (PH.un F hh) (.slice (some ⟨bt, 0, none⟩) 1 1) [at_] := NumRow.of_blk hA hd (by simp only [List.mem_cons, List.not_mem_nil, or_false, forall_eq_or_imp, forall_eq]; exact i3)
    have hG := PH.le_l F hh
    generalize PH.un F hh = G at *
    refine aB (i := 5) (by kernel_rfl) (aP rfl (words_spec _ _ G hrow (by show 1 ≤ 10000000; decide)) Tryd.call38 rfl rfl rfl (fun _ s => Sat.mono (Sat.left (A := [_, _]) s) hG) ?_)
    refine aT 6 rfl (ev_cat (a := wTwice) rfl rfl (by simp only [List.length_append, List.length_cons, List.length_nil] at *; omega)) rfl rfl ?_ ?_ ?_ ?_; kernel_rfl; kernel_rfl; kernel_rfl
    refine aB (i := 7) (by kernel_rfl) (aN rfl (ev_store (vs := stC { zSt with kind := 4, at_ := at_ } nl nl nl) rfl rfl .agg rfl rfl (lay_all (zs := zStC) rfl) (by unfold stC nl; (repeat (first | exact ones_nil | refine ones_cons rfl ?_))) (.there (.there .here))) rfl (fun _ _ _ _ hq w s => by obtain ⟨e, _, e2⟩ := hq; subst e; subst e2; exact Sat.mono (Sat.left (A := [_, _]) s) hG) ?_)
    rintro _ _ _ _ ⟨rfl, _, rfl⟩
    refine aT 8 rfl (ev_qe rfl) rfl rfl ?_ ?_ ?_ ?_; kernel_rfl; kernel_rfl; kernel_rfl
    refine aD (by kernel_rfl) ?_
    repeat (first|refine zJ rfl rfl ?_|refine jr rfl ?_|refine jn ?_|refine zM rfl rfl ?_|(refine zC rfl rfl ?_ rfl ?_;omega)|(refine zD rfl rfl ?_ rfl ?_;omega)|(refine zP rfl ?_ rfl ?_;omega)|refine zG rfl rfl rfl rfl ?_|(refine jdq rfl rfl ?_ ?_ ?_;kernel_rfl;kernel_rfl)|refine zB rfl rfl rfl (by repeat constructor) rfl ?_|refine zH .here rfl rfl rfl rfl ?_|refine zH (.there .here) rfl rfl rfl rfl ?_|refine zH (.there (.there .here)) rfl rfl rfl rfl ?_|refine zH (.there (.there (.there .here))) rfl rfl rfl rfl ?_|refine zH (.there (.there (.there (.there .here)))) rfl rfl rfl rfl ?_)
    exact J_retv (vs := [.agg (stC { zSt with kind := 4, at_ := at_ } nl nl nl).toArray, .string (strOf (lineB ⟨4, who, to, at_, core, orgs, blank, mk1, mf1, body, tags⟩))]) rfl (.agg rfl rfl (Rdb.ofB (n := 0) (.there (.there .here)) rfl) rfl (.tmp rfl .nil)) [] (fun w s => s.drop.drop.drop) hG ⟨rfl, _, _, _, rfl, ⟨ik, inI0, inI0, i3, zCo_in, NumRow.nil _, Int.le_refl 0, by show (0 : Int) ≤ 4294967295; decide, inI0, inI0, SliceV.nil _ _, TagRow.nil _⟩⟩
  · repeat (first|refine zJ rfl rfl ?_|refine jr rfl ?_|refine jn ?_|refine zM rfl rfl ?_|(refine zC rfl rfl ?_ rfl ?_;omega)|(refine zD rfl rfl ?_ rfl ?_;omega)|(refine zP rfl ?_ rfl ?_;omega)|refine zG rfl rfl rfl rfl ?_|(refine jdq rfl rfl ?_ ?_ ?_;kernel_rfl;kernel_rfl)|refine zB rfl rfl rfl (by repeat constructor) rfl ?_|refine zH .here rfl rfl rfl rfl ?_|refine zH (.there .here) rfl rfl rfl rfl ?_|refine zH (.there (.there .here)) rfl rfl rfl rfl ?_|refine zH (.there (.there (.there .here))) rfl rfl rfl rfl ?_|refine zH (.there (.there (.there (.there .here)))) rfl rfl rfl rfl ?_)
    refine oN (ev_store rfl rfl .int rfl rfl (.skip (.skip (.skip (.put .nil)))) (ones_cons rfl ones_nil) (.there .here)) rfl ?_
    rintro _ _ _ _ ⟨rfl, _, rfl⟩
    repeat (first|refine zJ rfl rfl ?_|refine jr rfl ?_|refine jn ?_|refine zM rfl rfl ?_|(refine zC rfl rfl ?_ rfl ?_;omega)|(refine zD rfl rfl ?_ rfl ?_;omega)|(refine zP rfl ?_ rfl ?_;omega)|refine zG rfl rfl rfl rfl ?_|(refine jdq rfl rfl ?_ ?_ ?_;kernel_rfl;kernel_rfl)|refine zB rfl rfl rfl (by repeat constructor) rfl ?_|refine zH .here rfl rfl rfl rfl ?_|refine zH (.there .here) rfl rfl rfl rfl ?_|refine zH (.there (.there .here)) rfl rfl rfl rfl ?_|refine zH (.there (.there (.there .here))) rfl rfl rfl rfl ?_|refine zH (.there (.there (.there (.there .here)))) rfl rfl rfl rfl ?_)
    show J _ _ _ _ (blk b1 31 (stC ⟨5, who, to, at_, core, orgs, blank, mk1, mf1, body, tags⟩ (.slice oa orgs.length oc) (.slice ba body.length bc) (.slice ta tags.length tc)) :: blk b4 31 (stC { zSt with kind := 5, at_ := at_ } nl nl nl) :: blk b2 31 zStC :: X)
    refine ja F [blk b1 31 (stC ⟨5, who, to, at_, core, orgs, blank, mk1, mf1, body, tags⟩ (.slice oa orgs.length oc) (.slice ba body.length bc) (.slice ta tags.length tc)), blk b4 31 (stC { zSt with kind := 5, at_ := at_ } nl nl nl)] ?_ ?_ ?_; kernel_rfl
    · exact fun w s => Sat.left (A := [_, _]) s
    refine aT 0 rfl (ev_load_agg (cs := stC { zSt with kind := 5, at_ := at_ } nl nl nl) rfl rfl (Rdb.ofB (n := 0) (.there .here) rfl) rfl) rfl rfl ?_ ?_ ?_ ?_; kernel_rfl; kernel_rfl; kernel_rfl
    refine aT 1 rfl (ev_qe rfl) rfl rfl ?_ ?_ ?_ ?_; kernel_rfl; kernel_rfl; kernel_rfl
    refine aT 2 rfl (ev_qe rfl) rfl rfl ?_ ?_ ?_ ?_; kernel_rfl; kernel_rfl; kernel_rfl
    refine aT 3 rfl (ev_load (v := .int .i64 at_) rfl rfl (Rdb.ofB (n := 3) .here rfl)) rfl rfl ?_ ?_ ?_ ?_; kernel_rfl; kernel_rfl; kernel_rfl
    have ll := l1 at_ i3
    refine aB (i := 4) (by kernel_rfl) (aE rfl (ev_buildSlice (E := 3) (zs := [.int .i64 0]) (r := [.int .i64 0]) (t := ints [at_]) rfl rfl rfl rfl rfl rfl (.cons .int rfl (by repeat constructor) (.nil))) rfl rfl (fun _ _ _ _ hq w s => by obtain ⟨e, _, _, e2⟩ := hq; subst e; subst e2; exact Sat.left (A := [_, _]) s.drop) ?_)
    rintro _ _ _ _ ⟨rfl, bt, rfl, rfl⟩
    refine aPersist fun hh hA hd => ?_
    have hrow : NumRow (PH.un F hh) (.slice (some ⟨bt, 0, none⟩) 1 1) [at_] := NumRow.of_blk hA hd (by simp only [List.mem_cons, List.not_mem_nil, or_false, forall_eq_or_imp, forall_eq]; exact i3)
    have hG := PH.le_l F hh
    generalize PH.un F hh = G at *
    refine aB (i := 5) (by kernel_rfl) (aP rfl (words_spec _ _ G hrow (by show 1 ≤ 10000000; decide)) Tryd.call38 rfl rfl rfl (fun _ s => Sat.mono (Sat.left (A := [_, _]) s) hG) ?_)
    refine aT 6 rfl (ev_cat (a := wLose) rfl rfl (by simp only [List.length_append, List.length_cons, List.length_nil] at *; omega)) rfl rfl ?_ ?_ ?_ ?_; kernel_rfl; kernel_rfl; kernel_rfl
    refine aB (i := 7) (by kernel_rfl) (aN rfl (ev_store (vs := stC { zSt with kind := 5, at_ := at_ } nl nl nl) rfl rfl .agg rfl rfl (lay_all (zs := zStC) rfl) (by unfold stC nl; (repeat (first | exact ones_nil | refine ones_cons rfl ?_))) (.there (.there .here))) rfl (fun _ _ _ _ hq w s => by obtain ⟨e, _, e2⟩ := hq; subst e; subst e2; exact Sat.mono (Sat.left (A := [_, _]) s) hG) ?_)
    rintro _ _ _ _ ⟨rfl, _, rfl⟩
    refine aT 8 rfl (ev_qe rfl) rfl rfl ?_ ?_ ?_ ?_; kernel_rfl; kernel_rfl; kernel_rfl
    refine aD (by kernel_rfl) ?_
    repeat (first|refine zJ rfl rfl ?_|refine jr rfl ?_|refine jn ?_|refine zM rfl rfl ?_|(refine zC rfl rfl ?_ rfl ?_;omega)|(refine zD rfl rfl ?_ rfl ?_;omega)|(refine zP rfl ?_ rfl ?_;omega)|refine zG rfl rfl rfl rfl ?_|(refine jdq rfl rfl ?_ ?_ ?_;kernel_rfl;kernel_rfl)|refine zB rfl rfl rfl (by repeat constructor) rfl ?_|refine zH .here rfl rfl rfl rfl ?_|refine zH (.there .here) rfl rfl rfl rfl ?_|refine zH (.there (.there .here)) rfl rfl rfl rfl ?_|refine zH (.there (.there (.there .here))) rfl rfl rfl rfl ?_|refine zH (.there (.there (.there (.there .here)))) rfl rfl rfl rfl ?_)
    exact J_retv (vs := [.agg (stC { zSt with kind := 5, at_ := at_ } nl nl nl).toArray, .string (strOf (lineB ⟨5, who, to, at_, core, orgs, blank, mk1, mf1, body, tags⟩))]) rfl (.agg rfl rfl (Rdb.ofB (n := 0) (.there (.there .here)) rfl) rfl (.tmp rfl .nil)) [] (fun w s => s.drop.drop.drop) hG ⟨rfl, _, _, _, rfl, ⟨ik, inI0, inI0, i3, zCo_in, NumRow.nil _, Int.le_refl 0, by show (0 : Int) ≤ 4294967295; decide, inI0, inI0, SliceV.nil _ _, TagRow.nil _⟩⟩
  · repeat (first|refine zJ rfl rfl ?_|refine jr rfl ?_|refine jn ?_|refine zM rfl rfl ?_|(refine zC rfl rfl ?_ rfl ?_;omega)|(refine zD rfl rfl ?_ rfl ?_;omega)|(refine zP rfl ?_ rfl ?_;omega)|refine zG rfl rfl rfl rfl ?_|(refine jdq rfl rfl ?_ ?_ ?_;kernel_rfl;kernel_rfl)|refine zB rfl rfl rfl (by repeat constructor) rfl ?_|refine zH .here rfl rfl rfl rfl ?_|refine zH (.there .here) rfl rfl rfl rfl ?_|refine zH (.there (.there .here)) rfl rfl rfl rfl ?_|refine zH (.there (.there (.there .here))) rfl rfl rfl rfl ?_|refine zH (.there (.there (.there (.there .here)))) rfl rfl rfl rfl ?_)
    refine ja F [blk b1 31 (stC ⟨1, who, to, at_, core, orgs, blank, mk1, mf1, body, tags⟩ (.slice oa orgs.length oc) (.slice ba body.length bc) (.slice ta tags.length tc))] ?_ ?_ ?_; kernel_rfl
    · exact fun w s => s.head
    refine aT 0 rfl (ev_qe rfl) rfl rfl ?_ ?_ ?_ ?_; kernel_rfl; kernel_rfl; kernel_rfl
    refine aT 1 rfl (ev_load (v := .int .i64 who) rfl rfl (Rdb.ofB (n := 1) .here rfl)) rfl rfl ?_ ?_ ?_ ?_; kernel_rfl; kernel_rfl; kernel_rfl
    refine aT 2 rfl (ev_qe rfl) rfl rfl ?_ ?_ ?_ ?_; kernel_rfl; kernel_rfl; kernel_rfl
    refine aT 3 rfl (ev_load_agg (cs := coC core) rfl rfl (Rdb.ofB (n := 4) .here rfl) rfl) rfl rfl ?_ ?_ ?_ ?_; kernel_rfl; kernel_rfl; kernel_rfl
    refine aT 4 rfl (ev_qe rfl) rfl rfl ?_ ?_ ?_ ?_; kernel_rfl; kernel_rfl; kernel_rfl
    refine aT 5 rfl (ev_load (v := .slice oa orgs.length oc) rfl rfl (Rdb.ofB (n := 11) .here rfl)) rfl rfl ?_ ?_ ?_ ?_; kernel_rfl; kernel_rfl; kernel_rfl
    refine aT 6 rfl (ev_qe rfl) rfl rfl ?_ ?_ ?_ ?_; kernel_rfl; kernel_rfl; kernel_rfl
    refine aB (i := 7) (by kernel_rfl) (aN rfl (ev_store rfl rfl .int rfl rfl (.skip (.put .nil)) (ones_cons rfl ones_nil) (.there .here)) rfl (fun _ _ _ _ hq w s => by obtain ⟨e, _, e2⟩ := hq; subst e; subst e2; exact s.head) ?_)
    rintro _ _ _ _ ⟨rfl, _, rfl⟩
    refine aT 8 rfl (ev_qe rfl) rfl rfl ?_ ?_ ?_ ?_; kernel_rfl; kernel_rfl; kernel_rfl
    refine aB (i := 9) (by kernel_rfl) (aN rfl (ev_store (vs := coC core) rfl rfl .agg rfl rfl (.skip (.skip (.skip (.skip (.put (.put (.put (.put (.put (.put (.put .nil))))))))))) (by unfold coC; (repeat (first | exact ones_nil | refine ones_cons rfl ?_))) (.there .here)) rfl (fun _ _ _ _ hq w s => by obtain ⟨e, _, e2⟩ := hq; subst e; subst e2; exact s.head) ?_)
    rintro _ _ _ _ ⟨rfl, _, rfl⟩
    refine aT 10 rfl (ev_qe rfl) rfl rfl ?_ ?_ ?_ ?_; kernel_rfl; kernel_rfl; kernel_rfl
    refine aB (i := 11) (by kernel_rfl) (aN rfl (ev_store rfl rfl .slice rfl rfl (.skip (.skip (.skip (.skip (.skip (.skip (.skip (.skip (.skip (.skip (.skip (.put .nil)))))))))))) (ones_cons rfl ones_nil) (.there .here)) rfl (fun _ _ _ _ hq w s => by obtain ⟨e, _, e2⟩ := hq; subst e; subst e2; exact s.head) ?_)
    rintro _ _ _ _ ⟨rfl, _, rfl⟩
    refine aD (by kernel_rfl) ?_
    repeat (first|refine zJ rfl rfl ?_|refine jr rfl ?_|refine jn ?_|refine zM rfl rfl ?_|(refine zC rfl rfl ?_ rfl ?_;omega)|(refine zD rfl rfl ?_ rfl ?_;omega)|(refine zP rfl ?_ rfl ?_;omega)|refine zG rfl rfl rfl rfl ?_|(refine jdq rfl rfl ?_ ?_ ?_;kernel_rfl;kernel_rfl)|refine zB rfl rfl rfl (by repeat constructor) rfl ?_|refine zH .here rfl rfl rfl rfl ?_|refine zH (.there .here) rfl rfl rfl rfl ?_|refine zH (.there (.there .here)) rfl rfl rfl rfl ?_|refine zH (.there (.there (.there .here))) rfl rfl rfl rfl ?_|refine zH (.there (.there (.there (.there .here)))) rfl rfl rfl rfl ?_)
    refine oN (ev_store rfl rfl .int rfl rfl (.skip (.skip (.skip (.skip (.put .nil))))) (ones_cons rfl ones_nil) (.there .here)) rfl ?_
    rintro _ _ _ _ ⟨rfl, _, rfl⟩
    repeat (first|refine zJ rfl rfl ?_|refine jr rfl ?_|refine jn ?_|refine zM rfl rfl ?_|(refine zC rfl rfl ?_ rfl ?_;omega)|(refine zD rfl rfl ?_ rfl ?_;omega)|(refine zP rfl ?_ rfl ?_;omega)|refine zG rfl rfl rfl rfl ?_|(refine jdq rfl rfl ?_ ?_ ?_;kernel_rfl;kernel_rfl)|refine zB rfl rfl rfl (by repeat constructor) rfl ?_|refine zH .here rfl rfl rfl rfl ?_|refine zH (.there .here) rfl rfl rfl rfl ?_|refine zH (.there (.there .here)) rfl rfl rfl rfl ?_|refine zH (.there (.there (.there .here))) rfl rfl rfl rfl ?_|refine zH (.there (.there (.there (.there .here)))) rfl rfl rfl rfl ?_)
    refine oN (ev_store rfl rfl .int rfl rfl (.skip (.skip (.skip (.skip (.skip (.put .nil)))))) (ones_cons rfl ones_nil) (.there .here)) rfl ?_
    rintro _ _ _ _ ⟨rfl, _, rfl⟩
    repeat (first|refine zJ rfl rfl ?_|refine jr rfl ?_|refine jn ?_|refine zM rfl rfl ?_|(refine zC rfl rfl ?_ rfl ?_;omega)|(refine zD rfl rfl ?_ rfl ?_;omega)|(refine zP rfl ?_ rfl ?_;omega)|refine zG rfl rfl rfl rfl ?_|(refine jdq rfl rfl ?_ ?_ ?_;kernel_rfl;kernel_rfl)|refine zB rfl rfl rfl (by repeat constructor) rfl ?_|refine zH .here rfl rfl rfl rfl ?_|refine zH (.there .here) rfl rfl rfl rfl ?_|refine zH (.there (.there .here)) rfl rfl rfl rfl ?_|refine zH (.there (.there (.there .here))) rfl rfl rfl rfl ?_|refine zH (.there (.there (.there (.there .here)))) rfl rfl rfl rfl ?_)
    show J _ _ _ _ (blk b1 31 (stC ⟨1, who, to, at_, core, orgs, blank, mk1, mf1, body, tags⟩ (.slice oa orgs.length oc) (.slice ba body.length bc) (.slice ta tags.length tc)) :: blk b4 31 (stC ⟨1, who, 0, 0, { core with client := 0, stamp := 0 }, orgs, 0, 0, 0, [], []⟩ (.slice oa orgs.length oc) nl nl) :: blk b2 31 zStC :: X)
    have ll := l1 who i1
    refine ja F [blk b1 31 (stC ⟨1, who, to, at_, core, orgs, blank, mk1, mf1, body, tags⟩ (.slice oa orgs.length oc) (.slice ba body.length bc) (.slice ta tags.length tc)), blk b4 31 (stC ⟨1, who, 0, 0, { core with client := 0, stamp := 0 }, orgs, 0, 0, 0, [], []⟩ (.slice oa orgs.length oc) nl nl)] ?_ ?_ ?_; kernel_rfl
    · exact fun w s => Sat.left (A := [_, _]) s
    refine aT 0 rfl (ev_load_agg (cs := stC ⟨1, who, 0, 0, { core with client := 0, stamp := 0 }, orgs, 0, 0, 0, [], []⟩ (.slice oa orgs.length oc) nl nl) rfl rfl (Rdb.ofB (n := 0) (.there .here) rfl) rfl) rfl rfl ?_ ?_ ?_ ?_; kernel_rfl; kernel_rfl; kernel_rfl
    refine aT 1 rfl (ev_qe rfl) rfl rfl ?_ ?_ ?_ ?_; kernel_rfl; kernel_rfl; kernel_rfl
    refine aT 2 rfl (ev_load (v := .int .i64 who) rfl rfl (Rdb.ofB (n := 1) .here rfl)) rfl rfl ?_ ?_ ?_ ?_; kernel_rfl; kernel_rfl; kernel_rfl
    refine aT 6 rfl (ev_qe rfl) rfl rfl ?_ ?_ ?_ ?_; kernel_rfl; kernel_rfl; kernel_rfl
    refine aT 7 rfl (ev_load_agg (cs := coC core) rfl rfl (Rdb.ofB (n := 4) .here rfl) rfl) rfl rfl ?_ ?_ ?_ ?_; kernel_rfl; kernel_rfl; kernel_rfl
    refine aT 10 rfl (ev_qe rfl) rfl rfl ?_ ?_ ?_ ?_; kernel_rfl; kernel_rfl; kernel_rfl
    refine aT 11 rfl (ev_load (v := .slice oa orgs.length oc) rfl rfl (Rdb.ofB (n := 11) .here rfl)) rfl rfl ?_ ?_ ?_ ?_; kernel_rfl; kernel_rfl; kernel_rfl
    refine aB (i := 3) (by kernel_rfl) (aE rfl (ev_buildSlice (E := 3) (zs := [.int .i64 0]) (r := [.int .i64 0]) (t := ints [who]) rfl rfl rfl rfl rfl rfl (.cons .int rfl (by repeat constructor) (.nil))) rfl rfl (fun _ _ _ _ hq w s => by obtain ⟨e, _, _, e2⟩ := hq; subst e; subst e2; exact Sat.left (A := [_, _]) s.drop) ?_)
    rintro _ _ _ _ ⟨rfl, bt, rfl, rfl⟩
    refine aPersist fun hh hA hd => ?_
    have hrow : NumRow (PH.un F hh) (.slice (some ⟨bt, 0, none⟩) 1 1) [who] := NumRow.of_blk hA hd (by simp only [List.mem_cons, List.not_mem_nil, or_false, forall_eq_or_imp, forall_eq]; exact i1)
    have hG := PH.le_l F hh
    generalize PH.un F hh = G at *
    refine aB (i := 4) (by kernel_rfl) (aP rfl (words_spec _ _ G hrow (by show 1 ≤ 10000000; decide)) Tryd.call38 rfl rfl rfl (fun _ s => Sat.mono (Sat.left (A := [_, _]) s) hG) ?_)
    refine aT 5 rfl (ev_cat (a := wAsk) rfl rfl (by simp only [List.length_append, List.length_cons, List.length_nil] at *; omega)) rfl rfl ?_ ?_ ?_ ?_; kernel_rfl; kernel_rfl; kernel_rfl
    refine aB (i := 8) (by kernel_rfl) (aP rfl (dcoreS_spec core G i4 f1 f2) Tryd.call53 rfl rfl rfl (fun _ s => Sat.mono (Sat.left (A := [_, _]) s) hG) ?_)
    refine aT 9 rfl (ev_cat rfl rfl (by simp only [List.length_append, List.length_cons, List.length_nil] at *; omega)) rfl rfl ?_ ?_ ?_ ?_; kernel_rfl; kernel_rfl; kernel_rfl
    refine aB (i := 12) (by kernel_rfl) (aP rfl (words_spec _ _ G (i5.mono hG) (by omega)) Tryd.call38 rfl rfl rfl (fun _ s => Sat.mono (Sat.left (A := [_, _]) s) hG) ?_)
    refine aT 13 rfl (ev_cat rfl rfl (by simp only [List.length_append, List.length_cons, List.length_nil] at *; omega)) rfl rfl ?_ ?_ ?_ ?_; kernel_rfl; kernel_rfl; kernel_rfl
    refine aB (i := 14) (by kernel_rfl) (aN rfl (ev_store (vs := stC ⟨1, who, 0, 0, { core with client := 0, stamp := 0 }, orgs, 0, 0, 0, [], []⟩ (.slice oa orgs.length oc) nl nl) rfl rfl .agg rfl rfl (lay_all (zs := zStC) rfl) (by unfold stC nl; (repeat (first | exact ones_nil | refine ones_cons rfl ?_))) (.there (.there .here))) rfl (fun _ _ _ _ hq w s => by obtain ⟨e, _, e2⟩ := hq; subst e; subst e2; exact Sat.mono (Sat.left (A := [_, _]) s) hG) ?_)
    rintro _ _ _ _ ⟨rfl, _, rfl⟩
    refine aT 15 rfl (ev_qe rfl) rfl rfl ?_ ?_ ?_ ?_; kernel_rfl; kernel_rfl; kernel_rfl
    refine aD (by kernel_rfl) ?_
    repeat (first|refine zJ rfl rfl ?_|refine jr rfl ?_|refine jn ?_|refine zM rfl rfl ?_|(refine zC rfl rfl ?_ rfl ?_;omega)|(refine zD rfl rfl ?_ rfl ?_;omega)|(refine zP rfl ?_ rfl ?_;omega)|refine zG rfl rfl rfl rfl ?_|(refine jdq rfl rfl ?_ ?_ ?_;kernel_rfl;kernel_rfl)|refine zB rfl rfl rfl (by repeat constructor) rfl ?_|refine zH .here rfl rfl rfl rfl ?_|refine zH (.there .here) rfl rfl rfl rfl ?_|refine zH (.there (.there .here)) rfl rfl rfl rfl ?_|refine zH (.there (.there (.there .here))) rfl rfl rfl rfl ?_|refine zH (.there (.there (.there (.there .here)))) rfl rfl rfl rfl ?_)
    have hl9 : lineB ⟨1, who, to, at_, core, orgs, blank, mk1, mf1, body, tags⟩ = ((wAsk ++ spW (nums [who])) ++ spW (coW core)) ++ spW (nums orgs) := by
      show wAsk ++ spW (nums [who] ++ coW core ++ nums orgs) = _
      rw [spW_app, spW_app]
      simp only [List.append_assoc]
    exact J_retv (vs := [.agg (stC ⟨1, who, 0, 0, { core with client := 0, stamp := 0 }, orgs, 0, 0, 0, [], []⟩ (.slice oa orgs.length oc) nl nl).toArray, .string (strOf (((wAsk ++ spW (nums [who])) ++ spW (coW core)) ++ spW (nums orgs)))]) rfl (.agg rfl rfl (Rdb.ofB (n := 0) (.there (.there .here)) rfl) rfl (.tmp rfl .nil)) [] (fun w s => s.drop.drop.drop) hG ⟨rfl, _, _, _, (by rw [hl9]; try rfl), ⟨ik, i1, inI0, inI0, ⟨inI0, inI0, i4.op, i4.a, i4.b⟩, i5.mono hG, Int.le_refl 0, by show (0 : Int) ≤ 4294967295; decide, inI0, inI0, SliceV.nil _ _, TagRow.nil _⟩⟩
  · repeat (first|refine zJ rfl rfl ?_|refine jr rfl ?_|refine jn ?_|refine zM rfl rfl ?_|(refine zC rfl rfl ?_ rfl ?_;omega)|(refine zD rfl rfl ?_ rfl ?_;omega)|(refine zP rfl ?_ rfl ?_;omega)|refine zG rfl rfl rfl rfl ?_|(refine jdq rfl rfl ?_ ?_ ?_;kernel_rfl;kernel_rfl)|refine zB rfl rfl rfl (by repeat constructor) rfl ?_|refine zH .here rfl rfl rfl rfl ?_|refine zH (.there .here) rfl rfl rfl rfl ?_|refine zH (.there (.there .here)) rfl rfl rfl rfl ?_|refine zH (.there (.there (.there .here))) rfl rfl rfl rfl ?_|refine zH (.there (.there (.there (.there .here)))) rfl rfl rfl rfl ?_)
    refine ja F [blk b1 31 (stC ⟨7, who, to, at_, core, orgs, blank, mk1, mf1, body, tags⟩ (.slice oa orgs.length oc) (.slice ba body.length bc) (.slice ta tags.length tc))] ?_ ?_ ?_; kernel_rfl
    · exact fun w s => s.head
    refine aT 0 rfl (ev_qe rfl) rfl rfl ?_ ?_ ?_ ?_; kernel_rfl; kernel_rfl; kernel_rfl
    refine aT 1 rfl (ev_load (v := .int .i64 who) rfl rfl (Rdb.ofB (n := 1) .here rfl)) rfl rfl ?_ ?_ ?_ ?_; kernel_rfl; kernel_rfl; kernel_rfl
    refine aT 2 rfl (ev_qe rfl) rfl rfl ?_ ?_ ?_ ?_; kernel_rfl; kernel_rfl; kernel_rfl
    refine aT 3 rfl (ev_load (v := .int .i64 to) rfl rfl (Rdb.ofB (n := 2) .here rfl)) rfl rfl ?_ ?_ ?_ ?_; kernel_rfl; kernel_rfl; kernel_rfl
    refine aT 4 rfl (ev_qe rfl) rfl rfl ?_ ?_ ?_ ?_; kernel_rfl; kernel_rfl; kernel_rfl
    refine aT 5 rfl (ev_qe rfl) rfl rfl ?_ ?_ ?_ ?_; kernel_rfl; kernel_rfl; kernel_rfl
    refine aT 6 rfl (ev_load (v := .int .i64 mk1) rfl rfl (Rdb.ofB (n := 13) .here rfl)) rfl rfl ?_ ?_ ?_ ?_; kernel_rfl; kernel_rfl; kernel_rfl
    refine aT 7 rfl (ev_qe rfl) rfl rfl ?_ ?_ ?_ ?_; kernel_rfl; kernel_rfl; kernel_rfl
    refine aB (i := 8) (by kernel_rfl) (aN rfl (ev_store rfl rfl .int rfl rfl (.skip (.put .nil)) (ones_cons rfl ones_nil) (.there .here)) rfl (fun _ _ _ _ hq w s => by obtain ⟨e, _, e2⟩ := hq; subst e; subst e2; exact s.head) ?_)
    rintro _ _ _ _ ⟨rfl, _, rfl⟩
    refine aT 9 rfl (ev_qe rfl) rfl rfl ?_ ?_ ?_ ?_; kernel_rfl; kernel_rfl; kernel_rfl
    refine aB (i := 10) (by kernel_rfl) (aN rfl (ev_store rfl rfl .int rfl rfl (.skip (.skip (.put .nil))) (ones_cons rfl ones_nil) (.there .here)) rfl (fun _ _ _ _ hq w s => by obtain ⟨e, _, e2⟩ := hq; subst e; subst e2; exact s.head) ?_)
    rintro _ _ _ _ ⟨rfl, _, rfl⟩
    refine aT 11 rfl (ev_qe rfl) rfl rfl ?_ ?_ ?_ ?_; kernel_rfl; kernel_rfl; kernel_rfl
    refine aT 12 rfl (ev_qe rfl) rfl rfl ?_ ?_ ?_ ?_; kernel_rfl; kernel_rfl; kernel_rfl
    refine aB (i := 13) (by kernel_rfl) (aN rfl (ev_store rfl rfl .int rfl rfl (.skip (.skip (.skip (.skip (.skip (.skip (.skip (.skip (.skip (.skip (.skip (.skip (.skip (.put .nil)))))))))))))) (ones_cons rfl ones_nil) (.there .here)) rfl (fun _ _ _ _ hq w s => by obtain ⟨e, _, e2⟩ := hq; subst e; subst e2; exact s.head) ?_)
    rintro _ _ _ _ ⟨rfl, _, rfl⟩
    refine aD (by kernel_rfl) ?_
    by_cases h1 : mk1 = 1
    · subst h1
      repeat (first|refine zJ rfl rfl ?_|refine jr rfl ?_|refine jn ?_|refine zM rfl rfl ?_|(refine zC rfl rfl ?_ rfl ?_;omega)|(refine zD rfl rfl ?_ rfl ?_;omega)|(refine zP rfl ?_ rfl ?_;omega)|refine zG rfl rfl rfl rfl ?_|(refine jdq rfl rfl ?_ ?_ ?_;kernel_rfl;kernel_rfl)|refine zB rfl rfl rfl (by repeat constructor) rfl ?_|refine zH .here rfl rfl rfl rfl ?_|refine zH (.there .here) rfl rfl rfl rfl ?_|refine zH (.there (.there .here)) rfl rfl rfl rfl ?_|refine zH (.there (.there (.there .here))) rfl rfl rfl rfl ?_|refine zH (.there (.there (.there (.there .here)))) rfl rfl rfl rfl ?_)
      refine ja F [blk b1 31 (stC ⟨7, who, to, at_, core, orgs, blank, 1, mf1, body, tags⟩ (.slice oa orgs.length oc) (.slice ba body.length bc) (.slice ta tags.length tc))] ?_ ?_ ?_; kernel_rfl
      · exact fun w s => s.head
      refine aT 0 rfl (ev_qe rfl) rfl rfl ?_ ?_ ?_ ?_; kernel_rfl; kernel_rfl; kernel_rfl
      refine aT 1 rfl (ev_load (v := .int .u32 blank) rfl rfl (Rdb.ofB (n := 12) .here rfl)) rfl rfl ?_ ?_ ?_ ?_; kernel_rfl; kernel_rfl; kernel_rfl
      refine aT 2 rfl (ev_qe rfl) rfl rfl ?_ ?_ ?_ ?_; kernel_rfl; kernel_rfl; kernel_rfl
      refine aT 3 rfl (ev_load_agg (cs := coC core) rfl rfl (Rdb.ofB (n := 4) .here rfl) rfl) rfl rfl ?_ ?_ ?_ ?_; kernel_rfl; kernel_rfl; kernel_rfl
      refine aT 4 rfl (ev_qe rfl) rfl rfl ?_ ?_ ?_ ?_; kernel_rfl; kernel_rfl; kernel_rfl
      refine aT 5 rfl (ev_load (v := .slice oa orgs.length oc) rfl rfl (Rdb.ofB (n := 11) .here rfl)) rfl rfl ?_ ?_ ?_ ?_; kernel_rfl; kernel_rfl; kernel_rfl
      refine aT 6 rfl (ev_qe rfl) rfl rfl ?_ ?_ ?_ ?_; kernel_rfl; kernel_rfl; kernel_rfl
      refine aB (i := 7) (by kernel_rfl) (aN rfl (ev_store rfl rfl .int rfl rfl (.skip (.skip (.skip (.skip (.skip (.skip (.skip (.skip (.skip (.skip (.skip (.skip (.put .nil))))))))))))) (ones_cons rfl ones_nil) (.there .here)) rfl (fun _ _ _ _ hq w s => by obtain ⟨e, _, e2⟩ := hq; subst e; subst e2; exact s.head) ?_)
      rintro _ _ _ _ ⟨rfl, _, rfl⟩
      refine aT 8 rfl (ev_qe rfl) rfl rfl ?_ ?_ ?_ ?_; kernel_rfl; kernel_rfl; kernel_rfl
      refine aB (i := 9) (by kernel_rfl) (aN rfl (ev_store (vs := coC core) rfl rfl .agg rfl rfl (.skip (.skip (.skip (.skip (.put (.put (.put (.put (.put (.put (.put .nil))))))))))) (by unfold coC; (repeat (first | exact ones_nil | refine ones_cons rfl ?_))) (.there .here)) rfl (fun _ _ _ _ hq w s => by obtain ⟨e, _, e2⟩ := hq; subst e; subst e2; exact s.head) ?_)
      rintro _ _ _ _ ⟨rfl, _, rfl⟩
      refine aT 10 rfl (ev_qe rfl) rfl rfl ?_ ?_ ?_ ?_; kernel_rfl; kernel_rfl; kernel_rfl
      refine aB (i := 11) (by kernel_rfl) (aN rfl (ev_store rfl rfl .slice rfl rfl (.skip (.skip (.skip (.skip (.skip (.skip (.skip (.skip (.skip (.skip (.skip (.put .nil)))))))))))) (ones_cons rfl ones_nil) (.there .here)) rfl (fun _ _ _ _ hq w s => by obtain ⟨e, _, e2⟩ := hq; subst e; subst e2; exact s.head) ?_)
      rintro _ _ _ _ ⟨rfl, _, rfl⟩
      refine aD (by kernel_rfl) ?_
      repeat (first|refine zJ rfl rfl ?_|refine jr rfl ?_|refine jn ?_|refine zM rfl rfl ?_|(refine zC rfl rfl ?_ rfl ?_;omega)|(refine zD rfl rfl ?_ rfl ?_;omega)|(refine zP rfl ?_ rfl ?_;omega)|refine zG rfl rfl rfl rfl ?_|(refine jdq rfl rfl ?_ ?_ ?_;kernel_rfl;kernel_rfl)|refine zB rfl rfl rfl (by repeat constructor) rfl ?_|refine zH .here rfl rfl rfl rfl ?_|refine zH (.there .here) rfl rfl rfl rfl ?_|refine zH (.there (.there .here)) rfl rfl rfl rfl ?_|refine zH (.there (.there (.there .here))) rfl rfl rfl rfl ?_|refine zH (.there (.there (.there (.there .here)))) rfl rfl rfl rfl ?_)
      show J _ _ _ _ (blk b1 31 (stC ⟨7, who, to, at_, core, orgs, blank, 1, mf1, body, tags⟩ (.slice oa orgs.length oc) (.slice ba body.length bc) (.slice ta tags.length tc)) :: blk b4 31 (stC ⟨7, who, to, 0, core, orgs, blank, 1, 0, [], []⟩ (.slice oa orgs.length oc) nl nl) :: blk b2 31 zStC :: X)
      have ll := spW_nums_len (l := [who, to, blank, core.client]) (by simp only [List.mem_cons, List.not_mem_nil, or_false, forall_eq_or_imp, forall_eq]; exact ⟨i1, i2, ib, i4.client⟩)
      refine ja F [blk b1 31 (stC ⟨7, who, to, at_, core, orgs, blank, 1, mf1, body, tags⟩ (.slice oa orgs.length oc) (.slice ba body.length bc) (.slice ta tags.length tc)), blk b4 31 (stC ⟨7, who, to, 0, core, orgs, blank, 1, 0, [], []⟩ (.slice oa orgs.length oc) nl nl)] ?_ ?_ ?_; kernel_rfl
      · exact fun w s => Sat.left (A := [_, _]) s
      refine aT 0 rfl (ev_load_agg (cs := stC ⟨7, who, to, 0, core, orgs, blank, 1, 0, [], []⟩ (.slice oa orgs.length oc) nl nl) rfl rfl (Rdb.ofB (n := 0) (.there .here) rfl) rfl) rfl rfl ?_ ?_ ?_ ?_; kernel_rfl; kernel_rfl; kernel_rfl
      refine aT 1 rfl (ev_qe rfl) rfl rfl ?_ ?_ ?_ ?_; kernel_rfl; kernel_rfl; kernel_rfl
      refine aT 2 rfl (ev_load (v := .int .i64 who) rfl rfl (Rdb.ofB (n := 1) .here rfl)) rfl rfl ?_ ?_ ?_ ?_; kernel_rfl; kernel_rfl; kernel_rfl
      refine aT 3 rfl (ev_qe rfl) rfl rfl ?_ ?_ ?_ ?_; kernel_rfl; kernel_rfl; kernel_rfl
      refine aT 4 rfl (ev_load (v := .int .i64 to) rfl rfl (Rdb.ofB (n := 2) .here rfl)) rfl rfl ?_ ?_ ?_ ?_; kernel_rfl; kernel_rfl; kernel_rfl
      refine aT 5 rfl (ev_qe rfl) rfl rfl ?_ ?_ ?_ ?_; kernel_rfl; kernel_rfl; kernel_rfl
      refine aT 6 rfl (ev_load (v := .int .u32 blank) rfl rfl (Rdb.ofB (n := 12) .here rfl)) rfl rfl ?_ ?_ ?_ ?_; kernel_rfl; kernel_rfl; kernel_rfl
      refine aT 7 rfl (ev_conv (r := blank) rfl rfl rfl (wrap_in (by dsimp only [InK]; omega))) rfl rfl ?_ ?_ ?_ ?_; kernel_rfl; kernel_rfl; kernel_rfl
      refine aT 8 rfl (ev_qe rfl) rfl rfl ?_ ?_ ?_ ?_; kernel_rfl; kernel_rfl; kernel_rfl
      refine aT 9 rfl (ev_qe rfl) rfl rfl ?_ ?_ ?_ ?_; kernel_rfl; kernel_rfl; kernel_rfl
      refine aT 10 rfl (ev_load (v := .int .i64 core.client) rfl rfl (Rdb.ofB (n := 4) .here rfl)) rfl rfl ?_ ?_ ?_ ?_; kernel_rfl; kernel_rfl; kernel_rfl
      refine aT 15 rfl (ev_qe rfl) rfl rfl ?_ ?_ ?_ ?_; kernel_rfl; kernel_rfl; kernel_rfl
      refine aT 16 rfl (ev_qe rfl) rfl rfl ?_ ?_ ?_ ?_; kernel_rfl; kernel_rfl; kernel_rfl
      refine aT 17 rfl (ev_load (v := .int .i64 core.stamp) rfl rfl (Rdb.ofB (n := 5) .here rfl)) rfl rfl ?_ ?_ ?_ ?_; kernel_rfl; kernel_rfl; kernel_rfl
      refine aT 20 rfl (ev_qe rfl) rfl rfl ?_ ?_ ?_ ?_; kernel_rfl; kernel_rfl; kernel_rfl
      refine aT 21 rfl (ev_load_agg (cs := coC core) rfl rfl (Rdb.ofB (n := 4) .here rfl) rfl) rfl rfl ?_ ?_ ?_ ?_; kernel_rfl; kernel_rfl; kernel_rfl
      refine aT 24 rfl (ev_qe rfl) rfl rfl ?_ ?_ ?_ ?_; kernel_rfl; kernel_rfl; kernel_rfl
      refine aT 25 rfl (ev_load (v := .slice oa orgs.length oc) rfl rfl (Rdb.ofB (n := 11) .here rfl)) rfl rfl ?_ ?_ ?_ ?_; kernel_rfl; kernel_rfl; kernel_rfl
      refine aB (i := 11) (by kernel_rfl) (aE rfl (ev_buildSlice (E := 3) (zs := [.int .i64 0]) (r := [.int .i64 0, .int .i64 0, .int .i64 0, .int .i64 0]) (t := ints [who, to, blank, core.client]) rfl rfl rfl rfl rfl rfl (.cons .int rfl (by repeat constructor) (.cons .int rfl (by repeat constructor) (.cons .int rfl (by repeat constructor) (.cons .int rfl (by repeat constructor) (.nil)))))) rfl rfl (fun _ _ _ _ hq w s => by obtain ⟨e, _, _, e2⟩ := hq; subst e; subst e2; exact Sat.left (A := [_, _]) s.drop) ?_)
      rintro _ _ _ _ ⟨rfl, bt, rfl, rfl⟩
      refine aPersist fun hh hA hd => ?_
      have hrow : NumRow (PH.un F hh) (.slice (some ⟨bt, 0, none⟩) 4 4) [who, to, blank, core.client] := NumRow.of_blk hA hd (by simp only [List.mem_cons, List.not_mem_nil, or_false, forall_eq_or_imp, forall_eq]; exact ⟨i1, i2, ib, i4.client⟩)
      have hG := PH.le_l F hh
      generalize PH.un F hh = G at *
      refine aB (i := 12) (by kernel_rfl) (aP rfl (words_spec _ _ G hrow (by show 4 ≤ 10000000; decide)) Tryd.call38 rfl rfl rfl (fun _ s => Sat.mono (Sat.left (A := [_, _]) s) hG) ?_)
      refine aT 13 rfl (ev_cat (a := wRequest) rfl rfl (by simp only [List.length_append, List.length_cons, List.length_nil] at *; omega)) rfl rfl ?_ ?_ ?_ ?_; kernel_rfl; kernel_rfl; kernel_rfl
      refine aT 14 rfl (ev_cat (b := [32]) rfl rfl (by simp only [List.length_append, List.length_cons, List.length_nil] at *; omega)) rfl rfl ?_ ?_ ?_ ?_; kernel_rfl; kernel_rfl; kernel_rfl
      refine aB (i := 18) (by kernel_rfl) (aP rfl (digits_spec core.stamp G i4.stamp) Tryd.call55 rfl rfl rfl (fun _ s => Sat.mono (Sat.left (A := [_, _]) s) hG) ?_)
      refine aT 19 rfl (ev_cat rfl rfl (by simp only [List.length_append, List.length_cons, List.length_nil] at *; omega)) rfl rfl ?_ ?_ ?_ ?_; kernel_rfl; kernel_rfl; kernel_rfl
      refine aB (i := 22) (by kernel_rfl) (aP rfl (dcoreS_spec core G i4 f1 f2) Tryd.call53 rfl rfl rfl (fun _ s => Sat.mono (Sat.left (A := [_, _]) s) hG) ?_)
      refine aT 23 rfl (ev_cat rfl rfl (by simp only [List.length_append, List.length_cons, List.length_nil] at *; omega)) rfl rfl ?_ ?_ ?_ ?_; kernel_rfl; kernel_rfl; kernel_rfl
      refine aB (i := 26) (by kernel_rfl) (aP rfl (words_spec _ _ G (i5.mono hG) (by omega)) Tryd.call38 rfl rfl rfl (fun _ s => Sat.mono (Sat.left (A := [_, _]) s) hG) ?_)
      refine aT 27 rfl (ev_cat rfl rfl (by simp only [List.length_append, List.length_cons, List.length_nil] at *; omega)) rfl rfl ?_ ?_ ?_ ?_; kernel_rfl; kernel_rfl; kernel_rfl
      refine aB (i := 28) (by kernel_rfl) (aN rfl (ev_store (vs := stC ⟨7, who, to, 0, core, orgs, blank, 1, 0, [], []⟩ (.slice oa orgs.length oc) nl nl) rfl rfl .agg rfl rfl (lay_all (zs := zStC) rfl) (by unfold stC nl; (repeat (first | exact ones_nil | refine ones_cons rfl ?_))) (.there (.there .here))) rfl (fun _ _ _ _ hq w s => by obtain ⟨e, _, e2⟩ := hq; subst e; subst e2; exact Sat.mono (Sat.left (A := [_, _]) s) hG) ?_)
      rintro _ _ _ _ ⟨rfl, _, rfl⟩
      refine aT 29 rfl (ev_qe rfl) rfl rfl ?_ ?_ ?_ ?_; kernel_rfl; kernel_rfl; kernel_rfl
      refine aD (by kernel_rfl) ?_
      repeat (first|refine zJ rfl rfl ?_|refine jr rfl ?_|refine jn ?_|refine zM rfl rfl ?_|(refine zC rfl rfl ?_ rfl ?_;omega)|(refine zD rfl rfl ?_ rfl ?_;omega)|(refine zP rfl ?_ rfl ?_;omega)|refine zG rfl rfl rfl rfl ?_|(refine jdq rfl rfl ?_ ?_ ?_;kernel_rfl;kernel_rfl)|refine zB rfl rfl rfl (by repeat constructor) rfl ?_|refine zH .here rfl rfl rfl rfl ?_|refine zH (.there .here) rfl rfl rfl rfl ?_|refine zH (.there (.there .here)) rfl rfl rfl rfl ?_|refine zH (.there (.there (.there .here))) rfl rfl rfl rfl ?_|refine zH (.there (.there (.there (.there .here)))) rfl rfl rfl rfl ?_)
      have hl9 : lineB ⟨7, who, to, at_, core, orgs, blank, 1, mf1, body, tags⟩ = ((((wRequest ++ spW (nums [who, to, blank, core.client])) ++ [32]) ++ Lib.itoa core.stamp) ++ spW (coW core)) ++ spW (nums orgs) := by
        show wRequest ++ spW (nums [who, to, blank, core.client] ++ nums [core.stamp] ++ coW core ++ nums orgs) = _
        rw [spW_app, spW_app, spW_app, show spW (nums [core.stamp]) = [32] ++ Lib.itoa core.stamp from by simp [spW, nums]]
        simp only [List.append_assoc]
      exact J_retv (vs := [.agg (stC ⟨7, who, to, 0, core, orgs, blank, 1, 0, [], []⟩ (.slice oa orgs.length oc) nl nl).toArray, .string (strOf (((((wRequest ++ spW (nums [who, to, blank, core.client])) ++ [32]) ++ Lib.itoa core.stamp) ++ spW (coW core)) ++ spW (nums orgs)))]) rfl (.agg rfl rfl (Rdb.ofB (n := 0) (.there (.there .here)) rfl) rfl (.tmp rfl .nil)) [] (fun w s => s.drop.drop.drop) hG ⟨rfl, _, _, _, (by rw [hl9]; try rfl), ⟨ik, i1, i2, inI0, i4, i5.mono hG, b0, b1_, inI1, inI0, SliceV.nil _ _, TagRow.nil _⟩⟩
    · repeat (first|refine zJ rfl rfl ?_|refine jr rfl ?_|refine jn ?_|refine zM rfl rfl ?_|(refine zC rfl rfl ?_ rfl ?_;omega)|(refine zD rfl rfl ?_ rfl ?_;omega)|(refine zP rfl ?_ rfl ?_;omega)|refine zG rfl rfl rfl rfl ?_|(refine jdq rfl rfl ?_ ?_ ?_;kernel_rfl;kernel_rfl)|refine zB rfl rfl rfl (by repeat constructor) rfl ?_|refine zH .here rfl rfl rfl rfl ?_|refine zH (.there .here) rfl rfl rfl rfl ?_|refine zH (.there (.there .here)) rfl rfl rfl rfl ?_|refine zH (.there (.there (.there .here))) rfl rfl rfl rfl ?_|refine zH (.there (.there (.there (.there .here)))) rfl rfl rfl rfl ?_)
      refine oN (ev_store rfl rfl .slice rfl rfl (.skip (.skip (.skip (.skip (.skip (.skip (.skip (.skip (.skip (.skip (.skip (.skip (.skip (.skip (.skip (.put .nil)))))))))))))))) (ones_cons rfl ones_nil) (.there .here)) rfl ?_
      rintro _ _ _ _ ⟨rfl, _, rfl⟩
      repeat (first|refine zJ rfl rfl ?_|refine jr rfl ?_|refine jn ?_|refine zM rfl rfl ?_|(refine zC rfl rfl ?_ rfl ?_;omega)|(refine zD rfl rfl ?_ rfl ?_;omega)|(refine zP rfl ?_ rfl ?_;omega)|refine zG rfl rfl rfl rfl ?_|(refine jdq rfl rfl ?_ ?_ ?_;kernel_rfl;kernel_rfl)|refine zB rfl rfl rfl (by repeat constructor) rfl ?_|refine zH .here rfl rfl rfl rfl ?_|refine zH (.there .here) rfl rfl rfl rfl ?_|refine zH (.there (.there .here)) rfl rfl rfl rfl ?_|refine zH (.there (.there (.there .here))) rfl rfl rfl rfl ?_|refine zH (.there (.there (.there (.there .here)))) rfl rfl rfl rfl ?_)
      show J _ _ _ _ (blk b1 31 (stC ⟨7, who, to, at_, core, orgs, blank, mk1, mf1, body, tags⟩ (.slice oa orgs.length oc) (.slice ba body.length bc) (.slice ta tags.length tc)) :: blk b4 31 (stC ⟨7, who, to, 0, zCo, [], 0, mk1, 0, body, []⟩ nl (.slice ba body.length bc) nl) :: blk b2 31 zStC :: X)
      have ll := spW_nums_len (l := [who, to, mk1]) (by simp only [List.mem_cons, List.not_mem_nil, or_false, forall_eq_or_imp, forall_eq]; exact ⟨i1, i2, i6⟩)
      refine ja F [blk b1 31 (stC ⟨7, who, to, at_, core, orgs, blank, mk1, mf1, body, tags⟩ (.slice oa orgs.length oc) (.slice ba body.length bc) (.slice ta tags.length tc)), blk b4 31 (stC ⟨7, who, to, 0, zCo, [], 0, mk1, 0, body, []⟩ nl (.slice ba body.length bc) nl)] ?_ ?_ ?_; kernel_rfl
      · exact fun w s => Sat.left (A := [_, _]) s
      refine aT 0 rfl (ev_load_agg (cs := stC ⟨7, who, to, 0, zCo, [], 0, mk1, 0, body, []⟩ nl (.slice ba body.length bc) nl) rfl rfl (Rdb.ofB (n := 0) (.there .here) rfl) rfl) rfl rfl ?_ ?_ ?_ ?_; kernel_rfl; kernel_rfl; kernel_rfl
      refine aT 1 rfl (ev_qe rfl) rfl rfl ?_ ?_ ?_ ?_; kernel_rfl; kernel_rfl; kernel_rfl
      refine aT 2 rfl (ev_load (v := .int .i64 who) rfl rfl (Rdb.ofB (n := 1) .here rfl)) rfl rfl ?_ ?_ ?_ ?_; kernel_rfl; kernel_rfl; kernel_rfl
      refine aT 3 rfl (ev_qe rfl) rfl rfl ?_ ?_ ?_ ?_; kernel_rfl; kernel_rfl; kernel_rfl
      refine aT 4 rfl (ev_load (v := .int .i64 to) rfl rfl (Rdb.ofB (n := 2) .here rfl)) rfl rfl ?_ ?_ ?_ ?_; kernel_rfl; kernel_rfl; kernel_rfl
      refine aT 5 rfl (ev_qe rfl) rfl rfl ?_ ?_ ?_ ?_; kernel_rfl; kernel_rfl; kernel_rfl
      refine aT 6 rfl (ev_qe rfl) rfl rfl ?_ ?_ ?_ ?_; kernel_rfl; kernel_rfl; kernel_rfl
      refine aT 7 rfl (ev_load (v := .int .i64 mk1) rfl rfl (Rdb.ofB (n := 13) .here rfl)) rfl rfl ?_ ?_ ?_ ?_; kernel_rfl; kernel_rfl; kernel_rfl
      refine aT 12 rfl (ev_qe rfl) rfl rfl ?_ ?_ ?_ ?_; kernel_rfl; kernel_rfl; kernel_rfl
      refine aT 13 rfl (ev_qe rfl) rfl rfl ?_ ?_ ?_ ?_; kernel_rfl; kernel_rfl; kernel_rfl
      refine aT 14 rfl (ev_load (v := .slice ba body.length bc) rfl rfl (Rdb.ofB (n := 15) .here rfl)) rfl rfl ?_ ?_ ?_ ?_; kernel_rfl; kernel_rfl; kernel_rfl
      refine aB (i := 8) (by kernel_rfl) (aE rfl (ev_buildSlice (E := 3) (zs := [.int .i64 0]) (r := [.int .i64 0, .int .i64 0, .int .i64 0]) (t := ints [who, to, mk1]) rfl rfl rfl rfl rfl rfl (.cons .int rfl (by repeat constructor) (.cons .int rfl (by repeat constructor) (.cons .int rfl (by repeat constructor) (.nil))))) rfl rfl (fun _ _ _ _ hq w s => by obtain ⟨e, _, _, e2⟩ := hq; subst e; subst e2; exact Sat.left (A := [_, _]) s.drop) ?_)
      rintro _ _ _ _ ⟨rfl, bt, rfl, rfl⟩
      refine aPersist fun hh hA hd => ?_
      have hrow : NumRow (PH.un F hh) (.slice (some ⟨bt, 0, none⟩) 3 3) [who, to, mk1] := NumRow.of_blk hA hd (by simp only [List.mem_cons, List.not_mem_nil, or_false, forall_eq_or_imp, forall_eq]; exact ⟨i1, i2, i6⟩)
      have hG := PH.le_l F hh
      generalize PH.un F hh = G at *
      refine aB (i := 9) (by kernel_rfl) (aP rfl (words_spec _ _ G hrow (by show 3 ≤ 10000000; decide)) Tryd.call38 rfl rfl rfl (fun _ s => Sat.mono (Sat.left (A := [_, _]) s) hG) ?_)
      refine aT 10 rfl (ev_cat (a := wLie) rfl rfl (by simp only [List.length_append, List.length_cons, List.length_nil] at *; omega)) rfl rfl ?_ ?_ ?_ ?_; kernel_rfl; kernel_rfl; kernel_rfl
      refine aT 11 rfl (ev_cat (b := [32]) rfl rfl (by simp only [List.length_append, List.length_cons, List.length_nil] at *; omega)) rfl rfl ?_ ?_ ?_ ?_; kernel_rfl; kernel_rfl; kernel_rfl
      refine aB (i := 15) (by kernel_rfl) (aP rfl (dhex_spec _ body G (SliceV.mono i9 hG) (by omega)) Tryd.call54 rfl rfl rfl (fun _ s => Sat.mono (Sat.left (A := [_, _]) s) hG) ?_)
      refine aT 16 rfl (ev_cat rfl rfl (by simp only [List.length_append, List.length_cons, List.length_nil] at *; omega)) rfl rfl ?_ ?_ ?_ ?_; kernel_rfl; kernel_rfl; kernel_rfl
      refine aB (i := 17) (by kernel_rfl) (aN rfl (ev_store (vs := stC ⟨7, who, to, 0, zCo, [], 0, mk1, 0, body, []⟩ nl (.slice ba body.length bc) nl) rfl rfl .agg rfl rfl (lay_all (zs := zStC) rfl) (by unfold stC nl; (repeat (first | exact ones_nil | refine ones_cons rfl ?_))) (.there (.there .here))) rfl (fun _ _ _ _ hq w s => by obtain ⟨e, _, e2⟩ := hq; subst e; subst e2; exact Sat.mono (Sat.left (A := [_, _]) s) hG) ?_)
      rintro _ _ _ _ ⟨rfl, _, rfl⟩
      refine aT 18 rfl (ev_qe rfl) rfl rfl ?_ ?_ ?_ ?_; kernel_rfl; kernel_rfl; kernel_rfl
      refine aD (by kernel_rfl) ?_
      repeat (first|refine zJ rfl rfl ?_|refine jr rfl ?_|refine jn ?_|refine zM rfl rfl ?_|(refine zC rfl rfl ?_ rfl ?_;omega)|(refine zD rfl rfl ?_ rfl ?_;omega)|(refine zP rfl ?_ rfl ?_;omega)|refine zG rfl rfl rfl rfl ?_|(refine jdq rfl rfl ?_ ?_ ?_;kernel_rfl;kernel_rfl)|refine zB rfl rfl rfl (by repeat constructor) rfl ?_|refine zH .here rfl rfl rfl rfl ?_|refine zH (.there .here) rfl rfl rfl rfl ?_|refine zH (.there (.there .here)) rfl rfl rfl rfl ?_|refine zH (.there (.there (.there .here))) rfl rfl rfl rfl ?_|refine zH (.there (.there (.there (.there .here)))) rfl rfl rfl rfl ?_)
      have ht : toldP ⟨7, who, to, at_, core, orgs, blank, mk1, mf1, body, tags⟩ = ⟨7, who, to, 0, zCo, [], 0, mk1, 0, body, []⟩ := by unfold toldP; simp [h1]
      have hw9 : lineW ⟨7, who, to, at_, core, orgs, blank, mk1, mf1, body, tags⟩ = some (wLie, nums [who, to, mk1] ++ [hexB body]) := by
        show (if mk1 = 1 then _ else _) = _
        rw [if_neg h1]
      have hl9 : lineB ⟨7, who, to, at_, core, orgs, blank, mk1, mf1, body, tags⟩ = ((wLie ++ spW (nums [who, to, mk1])) ++ [32]) ++ hexB body := by
        unfold lineB
        rw [hw9]
        show wLie ++ spW (nums [who, to, mk1] ++ [hexB body]) = _
        rw [spW_app, spW_one]
        simp
      exact J_retv (vs := [.agg (stC ⟨7, who, to, 0, zCo, [], 0, mk1, 0, body, []⟩ nl (.slice ba body.length bc) nl).toArray, .string (strOf (((wLie ++ spW (nums [who, to, mk1])) ++ [32]) ++ hexB body))]) rfl (.agg rfl rfl (Rdb.ofB (n := 0) (.there (.there .here)) rfl) rfl (.tmp rfl .nil)) [] (fun w s => s.drop.drop.drop) hG ⟨rfl, _, _, _, (by rw [ht, hl9]; try rfl), by rw [ht]; exact ⟨ik, i1, i2, inI0, zCo_in, NumRow.nil _, Int.le_refl 0, by show (0 : Int) ≤ 4294967295; decide, i6, inI0, SliceV.mono i9 hG, TagRow.nil _⟩⟩
  · repeat (first|refine zJ rfl rfl ?_|refine jr rfl ?_|refine jn ?_|refine zM rfl rfl ?_|(refine zC rfl rfl ?_ rfl ?_;omega)|(refine zD rfl rfl ?_ rfl ?_;omega)|(refine zP rfl ?_ rfl ?_;omega)|refine zG rfl rfl rfl rfl ?_|(refine jdq rfl rfl ?_ ?_ ?_;kernel_rfl;kernel_rfl)|refine zB rfl rfl rfl (by repeat constructor) rfl ?_|refine zH .here rfl rfl rfl rfl ?_|refine zH (.there .here) rfl rfl rfl rfl ?_|refine zH (.there (.there .here)) rfl rfl rfl rfl ?_|refine zH (.there (.there (.there .here))) rfl rfl rfl rfl ?_|refine zH (.there (.there (.there (.there .here)))) rfl rfl rfl rfl ?_)
    refine ja F [blk b1 31 (stC ⟨8, who, to, at_, core, orgs, blank, mk1, mf1, body, tags⟩ (.slice oa orgs.length oc) (.slice ba body.length bc) (.slice ta tags.length tc))] ?_ ?_ ?_; kernel_rfl
    · exact fun w s => s.head
    refine aT 0 rfl (ev_qe rfl) rfl rfl ?_ ?_ ?_ ?_; kernel_rfl; kernel_rfl; kernel_rfl
    refine aT 1 rfl (ev_load (v := .int .i64 to) rfl rfl (Rdb.ofB (n := 2) .here rfl)) rfl rfl ?_ ?_ ?_ ?_; kernel_rfl; kernel_rfl; kernel_rfl
    refine aT 2 rfl (ev_qe rfl) rfl rfl ?_ ?_ ?_ ?_; kernel_rfl; kernel_rfl; kernel_rfl
    refine aT 3 rfl (ev_load_agg (cs := [.int .i64 mk1, .int .i64 mf1, .slice ba body.length bc, .slice ta tags.length tc]) rfl rfl (Rdb.ofB (n := 13) .here rfl) rfl) rfl rfl ?_ ?_ ?_ ?_; kernel_rfl; kernel_rfl; kernel_rfl
    refine aT 4 rfl (ev_qe rfl) rfl rfl ?_ ?_ ?_ ?_; kernel_rfl; kernel_rfl; kernel_rfl
    refine aB (i := 5) (by kernel_rfl) (aN rfl (ev_store rfl rfl .int rfl rfl (.skip (.skip (.put .nil))) (ones_cons rfl ones_nil) (.there .here)) rfl (fun _ _ _ _ hq w s => by obtain ⟨e, _, e2⟩ := hq; subst e; subst e2; exact s.head) ?_)
    rintro _ _ _ _ ⟨rfl, _, rfl⟩
    refine aT 6 rfl (ev_qe rfl) rfl rfl ?_ ?_ ?_ ?_; kernel_rfl; kernel_rfl; kernel_rfl
    refine aB (i := 7) (by kernel_rfl) (aN rfl (ev_store (vs := [.int .i64 mk1, .int .i64 mf1, .slice ba body.length bc, .slice ta tags.length tc]) rfl rfl .agg rfl rfl (.skip (.skip (.skip (.skip (.skip (.skip (.skip (.skip (.skip (.skip (.skip (.skip (.skip (.put (.put (.put (.put .nil))))))))))))))))) (by (repeat (first | exact ones_nil | refine ones_cons rfl ?_))) (.there .here)) rfl (fun _ _ _ _ hq w s => by obtain ⟨e, _, e2⟩ := hq; subst e; subst e2; exact s.head) ?_)
    rintro _ _ _ _ ⟨rfl, _, rfl⟩
    refine aD (by kernel_rfl) ?_
    repeat (first|refine zJ rfl rfl ?_|refine jr rfl ?_|refine jn ?_|refine zM rfl rfl ?_|(refine zC rfl rfl ?_ rfl ?_;omega)|(refine zD rfl rfl ?_ rfl ?_;omega)|(refine zP rfl ?_ rfl ?_;omega)|refine zG rfl rfl rfl rfl ?_|(refine jdq rfl rfl ?_ ?_ ?_;kernel_rfl;kernel_rfl)|refine zB rfl rfl rfl (by repeat constructor) rfl ?_|refine zH .here rfl rfl rfl rfl ?_|refine zH (.there .here) rfl rfl rfl rfl ?_|refine zH (.there (.there .here)) rfl rfl rfl rfl ?_|refine zH (.there (.there (.there .here))) rfl rfl rfl rfl ?_|refine zH (.there (.there (.there (.there .here)))) rfl rfl rfl rfl ?_)
    show J _ _ _ _ (blk b1 31 (stC ⟨8, who, to, at_, core, orgs, blank, mk1, mf1, body, tags⟩ (.slice oa orgs.length oc) (.slice ba body.length bc) (.slice ta tags.length tc)) :: blk b4 31 (stC ⟨8, 0, to, 0, zCo, [], 0, mk1, mf1, body, tags⟩ nl (.slice ba body.length bc) (.slice ta tags.length tc)) :: blk b2 31 zStC :: X)
    have ll := spW_nums_len (l := [to, mk1, mf1]) (by simp only [List.mem_cons, List.not_mem_nil, or_false, forall_eq_or_imp, forall_eq]; exact ⟨i2, i6, i7⟩)
    refine ja F [blk b1 31 (stC ⟨8, who, to, at_, core, orgs, blank, mk1, mf1, body, tags⟩ (.slice oa orgs.length oc) (.slice ba body.length bc) (.slice ta tags.length tc))] ?_ ?_ ?_; kernel_rfl
    · exact fun w s => s.head
    refine aT 0 rfl (ev_qe rfl) rfl rfl ?_ ?_ ?_ ?_; kernel_rfl; kernel_rfl; kernel_rfl
    refine aT 1 rfl (ev_load (v := .int .i64 to) rfl rfl (Rdb.ofB (n := 2) .here rfl)) rfl rfl ?_ ?_ ?_ ?_; kernel_rfl; kernel_rfl; kernel_rfl
    refine aT 2 rfl (ev_qe rfl) rfl rfl ?_ ?_ ?_ ?_; kernel_rfl; kernel_rfl; kernel_rfl
    refine aT 3 rfl (ev_qe rfl) rfl rfl ?_ ?_ ?_ ?_; kernel_rfl; kernel_rfl; kernel_rfl
    refine aT 4 rfl (ev_load (v := .int .i64 mk1) rfl rfl (Rdb.ofB (n := 13) .here rfl)) rfl rfl ?_ ?_ ?_ ?_; kernel_rfl; kernel_rfl; kernel_rfl
    refine aT 5 rfl (ev_qe rfl) rfl rfl ?_ ?_ ?_ ?_; kernel_rfl; kernel_rfl; kernel_rfl
    refine aT 6 rfl (ev_qe rfl) rfl rfl ?_ ?_ ?_ ?_; kernel_rfl; kernel_rfl; kernel_rfl
    refine aT 7 rfl (ev_load (v := .int .i64 mf1) rfl rfl (Rdb.ofB (n := 14) .here rfl)) rfl rfl ?_ ?_ ?_ ?_; kernel_rfl; kernel_rfl; kernel_rfl
    refine aT 12 rfl (ev_qe rfl) rfl rfl ?_ ?_ ?_ ?_; kernel_rfl; kernel_rfl; kernel_rfl
    refine aT 13 rfl (ev_qe rfl) rfl rfl ?_ ?_ ?_ ?_; kernel_rfl; kernel_rfl; kernel_rfl
    refine aT 14 rfl (ev_load (v := .slice ba body.length bc) rfl rfl (Rdb.ofB (n := 15) .here rfl)) rfl rfl ?_ ?_ ?_ ?_; kernel_rfl; kernel_rfl; kernel_rfl
    refine aB (i := 8) (by kernel_rfl) (aE rfl (ev_buildSlice (E := 3) (zs := [.int .i64 0]) (r := [.int .i64 0, .int .i64 0, .int .i64 0]) (t := ints [to, mk1, mf1]) rfl rfl rfl rfl rfl rfl (.cons .int rfl (by repeat constructor) (.cons .int rfl (by repeat constructor) (.cons .int rfl (by repeat constructor) (.nil))))) rfl rfl (fun _ _ _ _ hq w s => by obtain ⟨e, _, _, e2⟩ := hq; subst e; subst e2; exact s.drop.head) ?_)
    rintro _ _ _ _ ⟨rfl, bt, rfl, rfl⟩
    refine aPersist fun hh hA hd => ?_
    have hrow : NumRow (PH.un F hh) (.slice (some ⟨bt, 0, none⟩) 3 3) [to, mk1, mf1] := NumRow.of_blk hA hd (by simp only [List.mem_cons, List.not_mem_nil, or_false, forall_eq_or_imp, forall_eq]; exact ⟨i2, i6, i7⟩)
    have hG := PH.le_l F hh
    generalize PH.un F hh = G at *
    refine aB (i := 9) (by kernel_rfl) (aP rfl (words_spec _ _ G hrow (by show 3 ≤ 10000000; decide)) Tryd.call38 rfl rfl rfl (fun _ s => Sat.mono (s.head) hG) ?_)
    refine aT 10 rfl (ev_cat (a := wForge) rfl rfl (by simp only [List.length_append, List.length_cons, List.length_nil] at *; omega)) rfl rfl ?_ ?_ ?_ ?_; kernel_rfl; kernel_rfl; kernel_rfl
    refine aT 11 rfl (ev_cat (b := [32]) rfl rfl (by simp only [List.length_append, List.length_cons, List.length_nil] at *; omega)) rfl rfl ?_ ?_ ?_ ?_; kernel_rfl; kernel_rfl; kernel_rfl
    refine aB (i := 15) (by kernel_rfl) (aP rfl (dhex_spec _ body G (SliceV.mono i9 hG) (by omega)) Tryd.call54 rfl rfl rfl (fun _ s => Sat.mono (s.head) hG) ?_)
    refine aT 16 rfl (ev_cat rfl rfl (by simp only [List.length_append, List.length_cons, List.length_nil] at *; omega)) rfl rfl ?_ ?_ ?_ ?_; kernel_rfl; kernel_rfl; kernel_rfl
    refine aT 17 rfl (ev_qe rfl) rfl rfl ?_ ?_ ?_ ?_; kernel_rfl; kernel_rfl; kernel_rfl
    refine aD (by kernel_rfl) ?_
    repeat (first|refine zJ rfl rfl ?_|refine jr rfl ?_|refine jn ?_|refine zM rfl rfl ?_|(refine zC rfl rfl ?_ rfl ?_;omega)|(refine zD rfl rfl ?_ rfl ?_;omega)|(refine zP rfl ?_ rfl ?_;omega)|refine zG rfl rfl rfl rfl ?_|(refine jdq rfl rfl ?_ ?_ ?_;kernel_rfl;kernel_rfl)|refine zB rfl rfl rfl (by repeat constructor) rfl ?_|refine zH .here rfl rfl rfl rfl ?_|refine zH (.there .here) rfl rfl rfl rfl ?_|refine zH (.there (.there .here)) rfl rfl rfl rfl ?_|refine zH (.there (.there (.there .here))) rfl rfl rfl rfl ?_|refine zH (.there (.there (.there (.there .here)))) rfl rfl rfl rfl ?_)
    have i8' := i8.mono hG
    have hu : ∀ c ∈ tags.map u8s, c.length = 32 := fun c hc => by
      obtain ⟨t, ht, rfl⟩ := List.mem_map.1 hc
      rw [u8s_len, i8.2 t ht]
    have hhl : ∀ i, (spW ((tags.take i).map hexB)).length ≤ 66 * i := fun i => by
      have : ∀ (l : List W8), (∀ t ∈ l, t.length = 32) → (spW (l.map hexB)).length ≤ 66 * l.length := by
        intro l
        induction l with
        | nil => intro _; simp [spW]
        | cons t r ih =>
          intro h
          have h1 := ih fun m hm => h m (by simp [hm])
          have h2 := hexB_len t
          have h3 := h t (by simp)
          unfold spW at h1 ⊢
          rw [List.map_cons, List.flatMap_cons, List.length_append, List.length_cons, List.length_cons]
          omega
      have h4 := this (tags.take i) fun t ht => i8.2 t (List.mem_of_mem_take ht)
      rw [List.length_take] at h4
      omega
    refine J_loop (ι := Nat × PH) (fun p => p.1 ≤ tags.length ∧ G.le p.2) (fun p => tags.length - p.1) (fun p => [(1, .pointer (some ⟨b1, 0, none⟩)), (2, .pointer (some ⟨b2, 0, none⟩)), (4, .pointer (some ⟨b4, 0, none⟩)), (6, .string (strOf ((((wForge ++ spW (nums [to, mk1, mf1])) ++ [32]) ++ hexB body) ++ spW ((tags.take p.1).map hexB)))), (115, .slice ta tags.length tc), (116, .int .i64 tags.length), (117, .int .i64 p.1)]) (fun p => p.2) (fun _ => blk b1 31 (stC ⟨8, who, to, at_, core, orgs, blank, mk1, mf1, body, tags⟩ (.slice oa orgs.length oc) (.slice ba body.length bc) (.slice ta tags.length tc)) :: blk b4 31 (stC ⟨8, 0, to, 0, zCo, [], 0, mk1, mf1, body, tags⟩ nl (.slice ba body.length bc) (.slice ta tags.length tc)) :: blk b2 31 zStC :: X) (0, G) ⟨Nat.zero_le _, PH.ler _⟩ ⟨⟨rfl, rfl, rfl, by simp [spW]; rfl, rfl, rfl, rfl, trivial⟩, fun w s => s⟩ ?_
    rintro ⟨i, G1⟩ ⟨hi, hG1⟩
    dsimp only at *
    by_cases hlt : i < tags.length
    · have hgt : tags[i]? = some tags[i] := List.getElem?_eq_getElem hlt
      have ht32 := i8.2 _ (List.getElem_mem hlt)
      obtain ⟨p1, o1, rfl, hcc⟩ := SliceV.row i8'.1 hu (i := i) (r := u8s tags[i]) (by rw [List.getElem?_map, hgt]; rfl) hlt
      have hsn : ((((wForge ++ spW (nums [to, mk1, mf1])) ++ [32]) ++ hexB body) ++ spW ((tags.take (i + 1)).map hexB)) = (((((wForge ++ spW (nums [to, mk1, mf1])) ++ [32]) ++ hexB body) ++ spW ((tags.take i).map hexB)) ++ [32]) ++ hexB tags[i] := by
        rw [List.take_add_one, hgt, Option.toList_some, List.map_append, spW_app, List.map_singleton, spW_one]
        simp only [List.append_assoc, List.singleton_append]
      have hhi := hhl i
      generalize tags[i] = t at *
      obtain ⟨acc, hacc⟩ : ∃ acc, ((((wForge ++ spW (nums [to, mk1, mf1])) ++ [32]) ++ hexB body) ++ spW ((tags.take i).map hexB)) = acc := ⟨_, rfl⟩
      have hal : acc.length ≤ 3000 := by rw [← hacc]; simp only [List.length_append, List.length_cons, List.length_nil] at *; omega
      rw [hacc] at hsn ⊢
      have hul : (u8s t).length = 32 := by rw [u8s_len]; exact ht32
      have hht := hexB_len t
      repeat (first|refine zJ rfl rfl ?_|refine jr rfl ?_|refine jn ?_|refine zM rfl rfl ?_|(refine zC rfl rfl ?_ rfl ?_;omega)|(refine zD rfl rfl ?_ rfl ?_;omega)|(refine zP rfl ?_ rfl ?_;omega)|refine zG rfl rfl rfl rfl ?_|(refine jdq rfl rfl ?_ ?_ ?_;kernel_rfl;kernel_rfl)|refine zB rfl rfl rfl (by repeat constructor) rfl ?_|refine zH .here rfl rfl rfl rfl ?_|refine zH (.there .here) rfl rfl rfl rfl ?_|refine zH (.there (.there .here)) rfl rfl rfl rfl ?_|refine zH (.there (.there (.there .here))) rfl rfl rfl rfl ?_|refine zH (.there (.there (.there (.there .here)))) rfl rfl rfl rfl ?_)
      refine oS (ev_indexAddr rfl rfl rfl hlt) rfl ?_
      refine oS (ev_load_agg rfl rfl (Rdb.ofF (hcc.mono hG1)) hul) rfl ?_
      refine oE (ev_alloc (cs := u8s z32) rfl) rfl ?_
      rintro _ _ _ _ ⟨rfl, b8, rfl, rfl⟩
      refine oN (ev_store (vs := u8s t) rfl rfl .agg rfl hul (lay_all (zs := u8s z32) (by rw [hul]; rfl)) (u8s_ones _) .here) rfl ?_
      rintro _ _ _ _ ⟨rfl, _, rfl⟩
      repeat (first|refine zJ rfl rfl ?_|refine jr rfl ?_|refine jn ?_|refine zM rfl rfl ?_|(refine zC rfl rfl ?_ rfl ?_;omega)|(refine zD rfl rfl ?_ rfl ?_;omega)|(refine zP rfl ?_ rfl ?_;omega)|refine zG rfl rfl rfl rfl ?_|(refine jdq rfl rfl ?_ ?_ ?_;kernel_rfl;kernel_rfl)|refine zB rfl rfl rfl (by repeat constructor) rfl ?_|refine zH .here rfl rfl rfl rfl ?_|refine zH (.there .here) rfl rfl rfl rfl ?_|refine zH (.there (.there .here)) rfl rfl rfl rfl ?_|refine zH (.there (.there (.there .here))) rfl rfl rfl rfl ?_|refine zH (.there (.there (.there (.there .here)))) rfl rfl rfl rfl ?_)
      refine oS (ev_load_agg (cs := u8s t) rfl rfl (Rdb.ofB (n := 0) .here (by rw [List.drop_zero, List.take_length])) hul) rfl ?_
      repeat (first|refine zJ rfl rfl ?_|refine jr rfl ?_|refine jn ?_|refine zM rfl rfl ?_|(refine zC rfl rfl ?_ rfl ?_;omega)|(refine zD rfl rfl ?_ rfl ?_;omega)|(refine zP rfl ?_ rfl ?_;omega)|refine zG rfl rfl rfl rfl ?_|(refine jdq rfl rfl ?_ ?_ ?_;kernel_rfl;kernel_rfl)|refine zB rfl rfl rfl (by repeat constructor) rfl ?_|refine zH .here rfl rfl rfl rfl ?_|refine zH (.there .here) rfl rfl rfl rfl ?_|refine zH (.there (.there .here)) rfl rfl rfl rfl ?_|refine zH (.there (.there (.there .here))) rfl rfl rfl rfl ?_|refine zH (.there (.there (.there (.there .here)))) rfl rfl rfl rfl ?_)
      refine J_own_nil 5 1 ?_
      refine J_loop (ι := Nat × Value) (fun q => q.1 ≤ 32) (fun q => 32 - q.1) (fun q => [(1, .pointer (some ⟨b1, 0, none⟩)), (2, .pointer (some ⟨b2, 0, none⟩)), (4, .pointer (some ⟨b4, 0, none⟩)), (6, .string (strOf acc)), (115, .slice (some ⟨p1, o1, none⟩) tags.length tc), (116, .int .i64 tags.length), (117, .int .i64 i), (9, q.2), (121, .agg (u8s t).toArray), (122, .int .i64 q.1)]) (fun _ => G1) (fun q => bytes q.2 (t.take q.1) :: blk b8 66 (u8s t) :: blk b1 31 (stC ⟨8, who, to, at_, core, orgs, blank, mk1, mf1, body, tags⟩ (.slice oa orgs.length oc) (.slice ba body.length bc) (.slice (some ⟨p1, o1, none⟩) tags.length tc)) :: blk b4 31 (stC ⟨8, 0, to, 0, zCo, [], 0, mk1, mf1, body, tags⟩ nl (.slice ba body.length bc) (.slice (some ⟨p1, o1, none⟩) tags.length tc)) :: blk b2 31 zStC :: X) (0, .slice none 0 0) (Nat.zero_le _) ⟨⟨rfl, rfl, rfl, rfl, rfl, rfl, rfl, rfl, rfl, rfl, trivial⟩, fun w s => s⟩ ?_
      rintro ⟨j, u⟩ hj
      dsimp only at *
      by_cases hj2 : j < 32
      · obtain ⟨x, hx⟩ : ∃ x, t[j]? = some x := ⟨_, List.getElem?_eq_getElem (by omega)⟩
        have htk : t.take (j + 1) = t.take j ++ [x] := by rw [List.take_add_one, hx]; rfl
        have htl : (t.take j).length = j := by rw [List.length_take]; omega
        repeat (first|refine zJ rfl rfl ?_|refine jr rfl ?_|refine jn ?_|refine zM rfl rfl ?_|(refine zC rfl rfl ?_ rfl ?_;omega)|(refine zD rfl rfl ?_ rfl ?_;omega)|(refine zP rfl ?_ rfl ?_;omega)|refine zG rfl rfl rfl rfl ?_|(refine jdq rfl rfl ?_ ?_ ?_;kernel_rfl;kernel_rfl)|refine zB rfl rfl rfl (by repeat constructor) rfl ?_|refine zH .here rfl rfl rfl rfl ?_|refine zH (.there .here) rfl rfl rfl rfl ?_|refine zH (.there (.there .here)) rfl rfl rfl rfl ?_|refine zH (.there (.there (.there .here))) rfl rfl rfl rfl ?_|refine zH (.there (.there (.there (.there .here)))) rfl rfl rfl rfl ?_)
        refine oS (ev_index_arr (n := 32) rfl rfl rfl rfl ht32 hx) rfl ?_
        repeat (first|refine zJ rfl rfl ?_|refine jr rfl ?_|refine jn ?_|refine zM rfl rfl ?_|(refine zC rfl rfl ?_ rfl ?_;omega)|(refine zD rfl rfl ?_ rfl ?_;omega)|(refine zP rfl ?_ rfl ?_;omega)|refine zG rfl rfl rfl rfl ?_|(refine jdq rfl rfl ?_ ?_ ?_;kernel_rfl;kernel_rfl)|refine zB rfl rfl rfl (by repeat constructor) rfl ?_|refine zH .here rfl rfl rfl rfl ?_|refine zH (.there .here) rfl rfl rfl rfl ?_|refine zH (.there (.there .here)) rfl rfl rfl rfl ?_|refine zH (.there (.there (.there .here))) rfl rfl rfl rfl ?_|refine zH (.there (.there (.there (.there .here)))) rfl rfl rfl rfl ?_)
        refine ob_push (b := x) (bs := t.take j) (K := fun v' => bytes v' (t.take j ++ [x]) :: blk b8 66 (u8s t) :: blk b1 31 (stC ⟨8, who, to, at_, core, orgs, blank, mk1, mf1, body, tags⟩ (.slice oa orgs.length oc) (.slice ba body.length bc) (.slice (some ⟨p1, o1, none⟩) tags.length tc)) :: blk b4 31 (stC ⟨8, 0, to, 0, zCo, [], 0, mk1, mf1, body, tags⟩ nl (.slice ba body.length bc) (.slice (some ⟨p1, o1, none⟩) tags.length tc)) :: blk b2 31 zStC :: X) rfl (fun _ => rfl) rfl (by omega) (fun v' => .here) rfl (fun _ => rfl) fun u2 w2 => ?_
        repeat (first|refine zJ rfl rfl ?_|refine jr rfl ?_|refine jn ?_|refine zM rfl rfl ?_|(refine zC rfl rfl ?_ rfl ?_;omega)|(refine zD rfl rfl ?_ rfl ?_;omega)|(refine zP rfl ?_ rfl ?_;omega)|refine zG rfl rfl rfl rfl ?_|(refine jdq rfl rfl ?_ ?_ ?_;kernel_rfl;kernel_rfl)|refine zB rfl rfl rfl (by repeat constructor) rfl ?_|refine zH .here rfl rfl rfl rfl ?_|refine zH (.there .here) rfl rfl rfl rfl ?_|refine zH (.there (.there .here)) rfl rfl rfl rfl ?_|refine zH (.there (.there (.there .here))) rfl rfl rfl rfl ?_|refine zH (.there (.there (.there (.there .here)))) rfl rfl rfl rfl ?_)
        exact J_again (ι := Nat × Value) (j + 1, u2) (by dsimp only; omega) (by dsimp only; omega) ⟨⟨rfl, rfl, rfl, rfl, rfl, rfl, rfl, rfl, rfl, rfl, trivial⟩, fun w s => by dsimp only; rw [htk]; exact s⟩
      · obtain rfl : j = 32 := by omega
        rw [List.take_of_length_le (by omega)]
        refine J_persist fun hh hA hd => ?_
        have hbt := own_slice hA hd
        have hG2 := PH.le_l G1 hh
        generalize G1.un hh = G2 at *
        repeat (first|refine zJ rfl rfl ?_|refine jr rfl ?_|refine jn ?_|refine zM rfl rfl ?_|(refine zC rfl rfl ?_ rfl ?_;omega)|(refine zD rfl rfl ?_ rfl ?_;omega)|(refine zP rfl ?_ rfl ?_;omega)|refine zG rfl rfl rfl rfl ?_|(refine jdq rfl rfl ?_ ?_ ?_;kernel_rfl;kernel_rfl)|refine zB rfl rfl rfl (by repeat constructor) rfl ?_|refine zH .here rfl rfl rfl rfl ?_|refine zH (.there .here) rfl rfl rfl rfl ?_|refine zH (.there (.there .here)) rfl rfl rfl rfl ?_|refine zH (.there (.there (.there .here))) rfl rfl rfl rfl ?_|refine zH (.there (.there (.there (.there .here)))) rfl rfl rfl rfl ?_)
        refine oS (ev_cat (b := [32]) rfl rfl (by simp; omega)) rfl ?_
        repeat (first|refine zJ rfl rfl ?_|refine jr rfl ?_|refine jn ?_|refine zM rfl rfl ?_|(refine zC rfl rfl ?_ rfl ?_;omega)|(refine zD rfl rfl ?_ rfl ?_;omega)|(refine zP rfl ?_ rfl ?_;omega)|refine zG rfl rfl rfl rfl ?_|(refine jdq rfl rfl ?_ ?_ ?_;kernel_rfl;kernel_rfl)|refine zB rfl rfl rfl (by repeat constructor) rfl ?_|refine zH .here rfl rfl rfl rfl ?_|refine zH (.there .here) rfl rfl rfl rfl ?_|refine zH (.there (.there .here)) rfl rfl rfl rfl ?_|refine zH (.there (.there (.there .here))) rfl rfl rfl rfl ?_|refine zH (.there (.there (.there (.there .here)))) rfl rfl rfl rfl ?_)
        refine oP (dhex_spec u t G2 hbt (by omega)) Tryd.call54 rfl rfl ?_
        refine oS (ev_cat rfl rfl (by simp; omega)) rfl ?_
        repeat (first|refine zJ rfl rfl ?_|refine jr rfl ?_|refine jn ?_|refine zM rfl rfl ?_|(refine zC rfl rfl ?_ rfl ?_;omega)|(refine zD rfl rfl ?_ rfl ?_;omega)|(refine zP rfl ?_ rfl ?_;omega)|refine zG rfl rfl rfl rfl ?_|(refine jdq rfl rfl ?_ ?_ ?_;kernel_rfl;kernel_rfl)|refine zB rfl rfl rfl (by repeat constructor) rfl ?_|refine zH .here rfl rfl rfl rfl ?_|refine zH (.there .here) rfl rfl rfl rfl ?_|refine zH (.there (.there .here)) rfl rfl rfl rfl ?_|refine zH (.there (.there (.there .here))) rfl rfl rfl rfl ?_|refine zH (.there (.there (.there (.there .here)))) rfl rfl rfl rfl ?_)
        exact J_again (ι := Nat × PH) (i + 1, G2) ⟨hlt, hG1.trans hG2⟩ (by dsimp only; omega) ⟨⟨rfl, rfl, rfl, congrArg (fun z => some (Value.string (strOf z))) hsn.symm, rfl, rfl, rfl, trivial⟩, fun w s => s.drop⟩
    · obtain rfl : i = tags.length := by omega
      rw [List.take_length]
      have hG9 := hG.trans hG1
      repeat (first|refine zJ rfl rfl ?_|refine jr rfl ?_|refine jn ?_|refine zM rfl rfl ?_|(refine zC rfl rfl ?_ rfl ?_;omega)|(refine zD rfl rfl ?_ rfl ?_;omega)|(refine zP rfl ?_ rfl ?_;omega)|refine zG rfl rfl rfl rfl ?_|(refine jdq rfl rfl ?_ ?_ ?_;kernel_rfl;kernel_rfl)|refine zB rfl rfl rfl (by repeat constructor) rfl ?_|refine zH .here rfl rfl rfl rfl ?_|refine zH (.there .here) rfl rfl rfl rfl ?_|refine zH (.there (.there .here)) rfl rfl rfl rfl ?_|refine zH (.there (.there (.there .here))) rfl rfl rfl rfl ?_|refine zH (.there (.there (.there (.there .here)))) rfl rfl rfl rfl ?_)
      refine oS (ev_load_agg (cs := stC ⟨8, 0, to, 0, zCo, [], 0, mk1, mf1, body, tags⟩ nl (.slice ba body.length bc) (.slice ta tags.length tc)) rfl rfl (Rdb.ofB (n := 0) (.there .here) rfl) rfl) rfl ?_
      repeat (first|refine zJ rfl rfl ?_|refine jr rfl ?_|refine jn ?_|refine zM rfl rfl ?_|(refine zC rfl rfl ?_ rfl ?_;omega)|(refine zD rfl rfl ?_ rfl ?_;omega)|(refine zP rfl ?_ rfl ?_;omega)|refine zG rfl rfl rfl rfl ?_|(refine jdq rfl rfl ?_ ?_ ?_;kernel_rfl;kernel_rfl)|refine zB rfl rfl rfl (by repeat constructor) rfl ?_|refine zH .here rfl rfl rfl rfl ?_|refine zH (.there .here) rfl rfl rfl rfl ?_|refine zH (.there (.there .here)) rfl rfl rfl rfl ?_|refine zH (.there (.there (.there .here))) rfl rfl rfl rfl ?_|refine zH (.there (.there (.there (.there .here)))) rfl rfl rfl rfl ?_)
      refine oN (ev_store (vs := stC ⟨8, 0, to, 0, zCo, [], 0, mk1, mf1, body, tags⟩ nl (.slice ba body.length bc) (.slice ta tags.length tc)) rfl rfl .agg rfl rfl (lay_all (zs := zStC) rfl) (by unfold stC nl; (repeat (first | exact ones_nil | refine ones_cons rfl ?_))) (.there (.there .here))) rfl ?_
      rintro _ _ _ _ ⟨rfl, _, rfl⟩
      repeat (first|refine zJ rfl rfl ?_|refine jr rfl ?_|refine jn ?_|refine zM rfl rfl ?_|(refine zC rfl rfl ?_ rfl ?_;omega)|(refine zD rfl rfl ?_ rfl ?_;omega)|(refine zP rfl ?_ rfl ?_;omega)|refine zG rfl rfl rfl rfl ?_|(refine jdq rfl rfl ?_ ?_ ?_;kernel_rfl;kernel_rfl)|refine zB rfl rfl rfl (by repeat constructor) rfl ?_|refine zH .here rfl rfl rfl rfl ?_|refine zH (.there .here) rfl rfl rfl rfl ?_|refine zH (.there (.there .here)) rfl rfl rfl rfl ?_|refine zH (.there (.there (.there .here))) rfl rfl rfl rfl ?_|refine zH (.there (.there (.there (.there .here)))) rfl rfl rfl rfl ?_)
      have hl9 : lineB ⟨8, who, to, at_, core, orgs, blank, mk1, mf1, body, tags⟩ = ((((wForge ++ spW (nums [to, mk1, mf1])) ++ [32]) ++ hexB body) ++ spW (tags.map hexB)) := by
        show wForge ++ spW (nums [to, mk1, mf1] ++ [hexB body] ++ tags.map hexB) = _
        rw [spW_app, spW_app, spW_one]
        simp
      exact J_retv (vs := [.agg (stC ⟨8, 0, to, 0, zCo, [], 0, mk1, mf1, body, tags⟩ nl (.slice ba body.length bc) (.slice ta tags.length tc)).toArray, .string (strOf (((((wForge ++ spW (nums [to, mk1, mf1])) ++ [32]) ++ hexB body) ++ spW (tags.map hexB))))]) rfl (.agg rfl rfl (Rdb.ofB (n := 0) (.there (.there .here)) rfl) rfl (.tmp rfl .nil)) [] (fun w s => s.drop.drop.drop) hG9 ⟨rfl, _, _, _, (by rw [hl9]; try rfl), ⟨ik, inI0, i2, inI0, zCo_in, NumRow.nil _, Int.le_refl 0, by show (0 : Int) ≤ 4294967295; decide, i6, i7, SliceV.mono i9 hG9, i8.mono hG9⟩⟩
end Go.Proofs.YtekdmpbkcjjllaaDoor
