/-
  The line of a step, in the program. Conditions are typed with each.
-/
import Derived.Test.YtekdmpbkcjjllaaDoorPn
namespace Go.Proofs.YtekdmpbkcjjllaaDoor
open Go.RowKit
set_option maxRecDepth 100000
def nameK (k : Int) : Option W8 := if k = 2 then some wAgain else if k = 6 then some wTick else if k = 3 then some wDeliver else if k = 4 then some wTwice else if k = 5 then some wLose else none
/-- The words of a step's line: the first, and the others. -/
def lineW (x : St) : Option (W8 × List W8) := match nameK x.kind with
  | some nm => some (nm, nums [if whoK x.kind then x.who else x.at_])
  | none => if x.kind = 1 then some (wAsk, nums [x.who] ++ coW x.core ++ nums x.orgs)
    else if x.kind = 7 then if x.mk1 = 1 then some (wRequest, nums [x.who, x.to, x.blank, x.core.client] ++ nums [x.core.stamp] ++ coW x.core ++ nums x.orgs) else some (wLie, nums [x.who, x.to, x.mk1] ++ [hexB x.body])
    else if x.kind = 8 then some (wForge, nums [x.to, x.mk1, x.mf1] ++ [hexB x.body] ++ x.tags.map hexB)
    else none
def lineB (x : St) : W8 := match lineW x with
  | some (n, ws) => n ++ spW ws
  | none => []
noncomputable def okL (x : St) : Bool := match parseP (splW 32 (lineB x)) with
  | some y => sameB x y
  | none => false
structure FewSt (x : St) : Prop where
  letter : x.core.letter.length ≤ 100
  text : x.core.text.length ≤ 300
  orgs : x.orgs.length ≤ 20
  body : x.body.length ≤ 500
  tags : x.tags.length ≤ 10
def nmG (k : Int) : Value := match nameK k with | some w => nmS w | none => nmS []
theorem nm_get (k : Int) : (getK nmM k).getD (nmS []) = nmG k := by
  unfold nmM nmG nameK
  rw [getK_cons, getK_cons, getK_cons, getK_cons, getK_cons, getK_nil]
  by_cases h2 : k = 2
  · rw [if_pos h2, if_pos h2]; rfl
  by_cases h6 : k = 6
  · rw [if_neg h2, if_neg h2, if_pos h6, if_pos h6]; rfl
  by_cases h3 : k = 3
  · rw [if_neg h2, if_neg h2, if_neg h6, if_neg h6, if_pos h3, if_pos h3]; rfl
  by_cases h4 : k = 4
  · rw [if_neg h2, if_neg h2, if_neg h6, if_neg h6, if_neg h3, if_neg h3, if_pos h4, if_pos h4]; rfl
  by_cases h5 : k = 5
  · rw [if_neg h2, if_neg h2, if_neg h6, if_neg h6, if_neg h3, if_neg h3, if_neg h4, if_neg h4, if_pos h5, if_pos h5]; rfl
  · rw [if_neg h2, if_neg h2, if_neg h6, if_neg h6, if_neg h3, if_neg h3, if_neg h4, if_neg h4, if_neg h5, if_neg h5]; rfl
theorem nameK_ne {k : Int} {w : W8} (h : nameK k = some w) : w ≠ [] ∧ w.length ≤ 7 ∧ oneK w = some k ∧ 32 ∉ w := by
  unfold nameK at h
  split at h
  · rename_i e; cases h; subst e; decide
  split at h
  · rename_i e; cases h; subst e; decide
  split at h
  · rename_i e; cases h; subst e; decide
  split at h
  · rename_i e; cases h; subst e; decide
  split at h
  · rename_i e; cases h; subst e; decide
  · cases h
theorem coW_len {c : Co} (h : CoIn c) (h1 : c.letter.length ≤ 100) (h2 : c.text.length ≤ 300) : (spW (coW c)).length ≤ 800 := by
  have i1 := itoa_len h.op
  have i2 := itoa_len h.a
  have i3 := itoa_len h.b
  have i4 := hexB_len c.text
  unfold spW coW
  simp only [List.flatMap_cons, List.flatMap_nil, List.length_append, List.length_cons, List.length_nil]
  omega
theorem hexs_len : ∀ (l : List W8), (∀ t ∈ l, t.length = 32) → (spW (l.map hexB)).length ≤ 66 * l.length
  | [], _ => by simp [spW]
  | t :: r, h => by
    have h1 := hexs_len r fun q hq => h q (List.mem_cons_of_mem _ hq)
    have h2 := hexB_len t
    have h3 := h t List.mem_cons_self
    unfold spW at h1 ⊢
    rw [List.map_cons, List.flatMap_cons, List.length_append, List.length_cons, List.length_cons]
    omega
theorem lineB_len {F : PH} {x : St} {vo vb vt : Value} (hx : StOk F x vo vb vt) (hf : FewSt x) : (lineB x).length ≤ 100000 := by
  have f1 := hf.letter
  have f2 := hf.text
  have f3 := hf.orgs
  have f4 := hf.body
  have f5 := hf.tags
  have hc := coW_len hx.core f1 f2
  have ho := spW_nums_len hx.orgs.2
  have hh := hexs_len x.tags hx.tags.2
  have hb := hexB_len x.body
  have i1 := itoa_len hx.who
  have i2 := itoa_len hx.to
  have i3 := itoa_len hx.at_
  have i4 := itoa_len hx.mk1
  have i5 := itoa_len hx.mf1
  have i6 := itoa_len hx.core.client
  have i7 := itoa_len hx.core.stamp
  have i8 := itoa_len (n := x.blank) ⟨by have := hx.b0; omega, by have := hx.b1; omega⟩
  have e1 : ∀ (a b : List W8), (spW (a ++ b)).length = (spW a).length + (spW b).length := fun a b => by rw [spW_app, List.length_append]
  unfold lineB lineW
  cases hn : nameK x.kind with
  | some nm =>
    have := (nameK_ne hn).2.1
    show (nm ++ spW (nums [if whoK x.kind = true then x.who else x.at_])).length ≤ 100000
    cases whoK x.kind <;> simp [spW, nums] <;> omega
  | none =>
    dsimp only
    by_cases k1 : x.kind = 1
    · rw [if_pos k1]
      dsimp only
      rw [List.length_append, e1, e1]
      simp only [spW, nums, List.map_cons, List.map_nil, List.flatMap_cons, List.flatMap_nil, List.append_nil, List.length_cons, List.length_append, List.length_nil, wAsk, wRequest, wLie, wForge] at *
      omega
    rw [if_neg k1]
    by_cases k7 : x.kind = 7
    · rw [if_pos k7]
      by_cases m1 : x.mk1 = 1
      · rw [if_pos m1]
        dsimp only
        rw [List.length_append, e1, e1, e1]
        simp only [spW, nums, List.map_cons, List.map_nil, List.flatMap_cons, List.flatMap_nil, List.append_nil, List.length_cons, List.length_append, List.length_nil, wAsk, wRequest, wLie, wForge] at *
        omega
      · rw [if_neg m1]
        dsimp only
        rw [List.length_append, e1]
        simp only [spW, nums, List.map_cons, List.map_nil, List.flatMap_cons, List.flatMap_nil, List.append_nil, List.length_cons, List.length_append, List.length_nil, wAsk, wRequest, wLie, wForge] at *
        omega
    rw [if_neg k7]
    by_cases k8 : x.kind = 8
    · rw [if_pos k8]
      dsimp only
      rw [List.length_append, e1, e1]
      simp only [spW, nums, List.map_cons, List.map_nil, List.flatMap_cons, List.flatMap_nil, List.append_nil, List.length_cons, List.length_append, List.length_nil, wAsk, wRequest, wLie, wForge] at *
      omega
    · rw [if_neg k8]
      simp
set_option maxHeartbeats 64000000 in
theorem line_spec (x : St) (vo vb vt : Value) (F : PH) (hF : LibF F) (hx : StOk F x vo vb vt) (hf : FewSt x) : Spec Tryd.prog 8 [.agg (stC x vo vb vt).toArray] F [] fun u _ H' => H' = [] ∧ u = .tuple #[.string (strOf (if okL x then lineB x else [])), .bool (okL x)] := by
  refine Spec.of1 Tryd.func8 rfl rfl fun X w0 => ?_
  obtain ⟨_, oa, oc, rfl, _, _⟩ := slice1 hx.orgs.1
  obtain ⟨_, ab, cb, rfl, _, _⟩ := slice1 hx.body
  obtain ⟨ta, tc, rfl⟩ : ∃ ta tc, vt = .slice ta x.tags.length tc := by
    obtain ⟨⟨_, a, c, e, _, _⟩, _⟩ := hx.tags
    exact ⟨a, c, e⟩
  have f1 := hf.letter
  have f2 := hf.text
  have f3 := hf.orgs
  have f4 := hf.body
  have f5 := hf.tags
  have hT := hF.tab
  have hb0 := hx.b0
  have hb1 := hx.b1
  repeat (first|refine zJ rfl rfl ?_|refine jr rfl ?_|refine jn ?_|refine zM rfl rfl ?_|(refine zC rfl rfl ?_ rfl ?_;omega)|(refine zD rfl rfl ?_ rfl ?_;omega)|(refine zP rfl ?_ rfl ?_;omega)|refine zG rfl rfl rfl rfl ?_|(refine jdq rfl rfl ?_ ?_ ?_;kernel_rfl;kernel_rfl)|refine zB rfl rfl rfl (by repeat constructor) rfl ?_|refine zH .here rfl rfl rfl rfl ?_|refine zH (.there .here) rfl rfl rfl rfl ?_|refine zH (.there (.there .here)) rfl rfl rfl rfl ?_|refine zH (.there (.there (.there .here))) rfl rfl rfl rfl ?_|refine zH (.there (.there (.there (.there .here)))) rfl rfl rfl rfl ?_)
  refine oE (ev_box rfl .agg) rfl ?_; rintro _ _ _ _ ⟨rfl, b1, rfl, rfl⟩
  repeat (first|refine zJ rfl rfl ?_|refine jr rfl ?_|refine jn ?_|refine zM rfl rfl ?_|(refine zC rfl rfl ?_ rfl ?_;omega)|(refine zD rfl rfl ?_ rfl ?_;omega)|(refine zP rfl ?_ rfl ?_;omega)|refine zG rfl rfl rfl rfl ?_|(refine jdq rfl rfl ?_ ?_ ?_;kernel_rfl;kernel_rfl)|refine zB rfl rfl rfl (by repeat constructor) rfl ?_|refine zH .here rfl rfl rfl rfl ?_|refine zH (.there .here) rfl rfl rfl rfl ?_|refine zH (.there (.there .here)) rfl rfl rfl rfl ?_|refine zH (.there (.there (.there .here))) rfl rfl rfl rfl ?_|refine zH (.there (.there (.there (.there .here)))) rfl rfl rfl rfl ?_)
  refine oE (ev_box rfl .agg) rfl ?_; rintro _ _ _ _ ⟨rfl, b, rfl, rfl⟩
  repeat (first|refine zJ rfl rfl ?_|refine jr rfl ?_|refine jn ?_|refine zM rfl rfl ?_|(refine zC rfl rfl ?_ rfl ?_;omega)|(refine zD rfl rfl ?_ rfl ?_;omega)|(refine zP rfl ?_ rfl ?_;omega)|refine zG rfl rfl rfl rfl ?_|(refine jdq rfl rfl ?_ ?_ ?_;kernel_rfl;kernel_rfl)|refine zB rfl rfl rfl (by repeat constructor) rfl ?_|refine zH .here rfl rfl rfl rfl ?_|refine zH (.there .here) rfl rfl rfl rfl ?_|refine zH (.there (.there .here)) rfl rfl rfl rfl ?_|refine zH (.there (.there (.there .here))) rfl rfl rfl rfl ?_|refine zH (.there (.there (.there (.there .here)))) rfl rfl rfl rfl ?_)
  refine J_own_nil 5 1 ?_
  refine J_pick (.there .here) ?_
  have hbo0 : BldOk b (.pointer none) nl [] := ⟨.inl rfl, fun _ => rfl⟩
  refine J_join (ι := Value × Value × PH) [_, _, _] (fun p => F.le p.2.2 ∧ BldOk b p.1 p.2.1 (lineB x)) (fun _ => [(1, .pointer (some ⟨b1, 0, none⟩)), (4, pW b)]) (fun p => p.2.2) (fun p => bld b p.1 p.2.1 (lineB x) ++ (blk b1 31 (stC x (.slice oa x.orgs.length oc) (.slice ab x.body.length cb) (.slice ta x.tags.length tc)) :: X)) ?_ ?_
  · show J _ (_ :: _ :: _ :: _) _ _ _
    cases hn : nameK x.kind with
    | some nm =>
      have hg : nmG x.kind = nmS nm := by unfold nmG; rw [hn]
      have hnm := nameK_ne hn
      have hline : lineB x = nm ++ spW (nums [if whoK x.kind then x.who else x.at_]) := by unfold lineB lineW; rw [hn]
      refine ja F [blk b1 31 (stC x (.slice oa x.orgs.length oc) (.slice ab x.body.length cb) (.slice ta x.tags.length tc))] ?_ ?_ ?_; kernel_rfl
      · exact fun w s => s.drop.drop.head
      refine aT 1 rfl (ev_qe rfl) rfl rfl ?_ ?_ ?_ ?_; kernel_rfl; kernel_rfl; kernel_rfl
      refine aT 2 rfl (ev_load (v := .int .i64 x.kind) rfl rfl (Rdb.ofB (n := 0) .here rfl)) rfl rfl ?_ ?_ ?_ ?_; kernel_rfl; kernel_rfl; kernel_rfl
      refine aB (i := 0) (by kernel_rfl) (aC (Hc := []) (Hr := blk b 56 [.pointer none, nl] :: bytes nl [] :: blk b1 31 (stC x (.slice oa x.orgs.length oc) (.slice ab x.body.length cb) (.slice ta x.tags.length tc)) :: X) rfl (names_spec F) Tryd.call18 rfl rfl rfl (fun _ s => s) (fun _ _ _ hF hq w s => by obtain ⟨bm, _, rfl⟩ := hq; exact (s.drop.drop.drop.head).mono hF) ?_)
      rintro _ F1 _ hF1 ⟨bm, rfl, rfl⟩
      refine aB (i := 3) (by kernel_rfl) (aV rfl (ev_lookup (K := keyI) (a := x.kind) (zv := nmS []) (r := nmS nm) rfl rfl rfl rfl .here (by rw [nm_get]; exact hg.symm)) rfl rfl ?_)
      refine aT 4 rfl (ev_sneq (bs := nm) (cs := []) (r := true) rfl rfl (by simp [hnm.1])) rfl rfl ?_ ?_ ?_ ?_; kernel_rfl; kernel_rfl; kernel_rfl
      refine aT 5 rfl (ev_qe rfl) rfl rfl ?_ ?_ ?_ ?_; kernel_rfl; kernel_rfl; kernel_rfl
      refine aD (by kernel_rfl) ?_
      repeat (first|refine zJ rfl rfl ?_|refine jr rfl ?_|refine jn ?_|refine zM rfl rfl ?_|(refine zC rfl rfl ?_ rfl ?_;omega)|(refine zD rfl rfl ?_ rfl ?_;omega)|(refine zP rfl ?_ rfl ?_;omega)|refine zG rfl rfl rfl rfl ?_|(refine jdq rfl rfl ?_ ?_ ?_;kernel_rfl;kernel_rfl)|refine zB rfl rfl rfl (by repeat constructor) rfl ?_|refine zH .here rfl rfl rfl rfl ?_|refine zH (.there .here) rfl rfl rfl rfl ?_|refine zH (.there (.there .here)) rfl rfl rfl rfl ?_|refine zH (.there (.there (.there .here))) rfl rfl rfl rfl ?_|refine zH (.there (.there (.there (.there .here)))) rfl rfl rfl rfl ?_)
      refine ja F1 [blk b1 31 (stC x (.slice oa x.orgs.length oc) (.slice ab x.body.length cb) (.slice ta x.tags.length tc))] ?_ ?_ ?_; kernel_rfl
      · exact fun w s => s.drop.drop.drop.head
      refine aT 0 rfl (ev_qe rfl) rfl rfl ?_ ?_ ?_ ?_; kernel_rfl; kernel_rfl; kernel_rfl
      refine aT 2 rfl (ev_qe rfl) rfl rfl ?_ ?_ ?_ ?_; kernel_rfl; kernel_rfl; kernel_rfl
      refine aT 3 rfl (ev_load (v := .int .i64 x.kind) rfl rfl (Rdb.ofB (n := 0) .here rfl)) rfl rfl ?_ ?_ ?_ ?_; kernel_rfl; kernel_rfl; kernel_rfl
      refine aB (i := 1) (by kernel_rfl) (aC (Hc := []) (Hr := _ :: _ :: _ :: _ :: X) rfl (names_spec F1) Tryd.call18 rfl rfl rfl (fun _ s => s) (fun _ _ _ hF hq w s => by obtain ⟨bm2, _, rfl⟩ := hq; exact (s.drop.drop.drop.drop.head).mono hF) ?_)
      rintro _ F2 _ hF2 ⟨bm2, rfl, rfl⟩
      refine aB (i := 4) (by kernel_rfl) (aV rfl (ev_lookup (K := keyI) (a := x.kind) (zv := nmS []) (r := nmS nm) rfl rfl rfl rfl .here (by rw [nm_get]; exact hg.symm)) rfl rfl ?_)
      refine aB (i := 5) (by kernel_rfl) (aC (Hc := bld b (.pointer none) nl []) (Hr := blk b1 31 (stC x (.slice oa x.orgs.length oc) (.slice ab x.body.length cb) (.slice ta x.tags.length tc)) :: X) rfl (word_spec b (.pointer none) nl [] nm F2 hbo0 (by simp; omega)) Tryd.call19 rfl rfl rfl (fun _ s => s.drop.drop) (fun _ _ _ hF hq w s => by obtain ⟨v3, rfl, _⟩ := hq; exact (s.drop.drop.head).mono (hF2.trans hF)) ?_)
      rintro u3 F3 _ hF3 ⟨v3, rfl, hb3⟩
      rw [addW_nil] at hb3 ⊢
      refine aD (by kernel_rfl) ?_
      have hlF := hF1.trans (hF2.trans hF3)
      have hbw := byWho_spec x.kind F3
      have hnn := hnm.1
      have hnl := hnm.2.1
      cases hw : whoK x.kind with
      | true =>
        rw [hw] at hbw
        rw [hw, if_pos rfl] at hline
        repeat (first|refine zJ rfl rfl ?_|refine jr rfl ?_|refine jn ?_|refine zM rfl rfl ?_|(refine zC rfl rfl ?_ rfl ?_;omega)|(refine zD rfl rfl ?_ rfl ?_;omega)|(refine zP rfl ?_ rfl ?_;omega)|refine zG rfl rfl rfl rfl ?_|(refine jdq rfl rfl ?_ ?_ ?_;kernel_rfl;kernel_rfl)|refine zB rfl rfl rfl (by repeat constructor) rfl ?_|refine zH .here rfl rfl rfl rfl ?_|refine zH (.there .here) rfl rfl rfl rfl ?_|refine zH (.there (.there .here)) rfl rfl rfl rfl ?_|refine zH (.there (.there (.there .here))) rfl rfl rfl rfl ?_|refine zH (.there (.there (.there (.there .here)))) rfl rfl rfl rfl ?_)
        refine oP (hbw) Tryd.call20 rfl rfl ?_
        repeat (first|refine zJ rfl rfl ?_|refine jr rfl ?_|refine jn ?_|refine zM rfl rfl ?_|(refine zC rfl rfl ?_ rfl ?_;omega)|(refine zD rfl rfl ?_ rfl ?_;omega)|(refine zP rfl ?_ rfl ?_;omega)|refine zG rfl rfl rfl rfl ?_|(refine jdq rfl rfl ?_ ?_ ?_;kernel_rfl;kernel_rfl)|refine zB rfl rfl rfl (by repeat constructor) rfl ?_|refine zH .here rfl rfl rfl rfl ?_|refine zH (.there .here) rfl rfl rfl rfl ?_|refine zH (.there (.there .here)) rfl rfl rfl rfl ?_|refine zH (.there (.there (.there .here))) rfl rfl rfl rfl ?_|refine zH (.there (.there (.there (.there .here)))) rfl rfl rfl rfl ?_)
        refine oE (ev_buildSlice (E := 3) (zs := [.int .i64 0]) (r := [.int .i64 0]) (t := ints [x.who]) rfl rfl rfl rfl rfl rfl (.cons .int rfl (by repeat constructor) (.nil))) rfl ?_
        rintro _ _ _ _ ⟨rfl, bt1, rfl, rfl⟩
        refine oPersist fun hh hA hd => ?_
        have hrow : NumRow (PH.un F3 hh) (.slice (some ⟨bt1, 0, none⟩) 1 1) [x.who] := NumRow.of_blk hA hd (by simp only [List.mem_cons, List.not_mem_nil, or_false, forall_eq_or_imp, forall_eq]; exact hx.who)
        have hle9 := hlF.trans (PH.le_l F3 hh)
        generalize PH.un F3 hh = Z1 at *
        refine oC (Hc := bld b (pW b) v3 (nm)) (Hr := blk b1 31 (stC x (.slice oa x.orgs.length oc) (.slice ab x.body.length cb) (.slice ta x.tags.length tc)) :: X) (wints_spec b v3 _ (nm) [x.who] Z1 (hT.mono hle9) hb3 hnn hrow (by simp) (by simp only [List.length_cons, List.length_nil]; omega)) Tryd.call21 rfl rfl (fun _ s => s) ?_
        rintro _ W1 _ hW1 ⟨y1, rfl, hy1⟩
        have n1 : nm ++ spW (nums [x.who]) ≠ [] := by simp [hnn]
        have l1 : (nm ++ spW (nums [x.who])).length ≤ 100 := by rw [List.length_append]; have := spW_nums_len (l := [x.who]) (by simp only [List.mem_cons, List.not_mem_nil, or_false, forall_eq_or_imp, forall_eq]; exact hx.who); simp only [List.length_cons, List.length_nil] at this ⊢; omega
        obtain ⟨bs1, e1⟩ : ∃ q, nm ++ spW (nums [x.who]) = q := ⟨_, rfl⟩
        rw [e1] at n1 l1 hy1 ⊢
        have le1 := hle9.trans hW1
        have hT1 := hT.mono le1
        repeat (first|refine zJ rfl rfl ?_|refine jr rfl ?_|refine jn ?_|refine zM rfl rfl ?_|(refine zC rfl rfl ?_ rfl ?_;omega)|(refine zD rfl rfl ?_ rfl ?_;omega)|(refine zP rfl ?_ rfl ?_;omega)|refine zG rfl rfl rfl rfl ?_|(refine jdq rfl rfl ?_ ?_ ?_;kernel_rfl;kernel_rfl)|refine zB rfl rfl rfl (by repeat constructor) rfl ?_|refine zH .here rfl rfl rfl rfl ?_|refine zH (.there .here) rfl rfl rfl rfl ?_|refine zH (.there (.there .here)) rfl rfl rfl rfl ?_|refine zH (.there (.there (.there .here))) rfl rfl rfl rfl ?_|refine zH (.there (.there (.there (.there .here)))) rfl rfl rfl rfl ?_)
        have hend : bs1 = lineB x := by rw [hline, ← e1]; first | done | simp [spW_app]
        rw [hend] at hy1 ⊢
        exact J_joined (ι := Value × Value × PH) (pW b, y1, W1) ⟨le1, hy1⟩ ⟨⟨rfl, rfl, trivial⟩, fun w s => s⟩
      | false =>
        rw [hw] at hbw
        rw [hw, if_neg (by decide)] at hline
        repeat (first|refine zJ rfl rfl ?_|refine jr rfl ?_|refine jn ?_|refine zM rfl rfl ?_|(refine zC rfl rfl ?_ rfl ?_;omega)|(refine zD rfl rfl ?_ rfl ?_;omega)|(refine zP rfl ?_ rfl ?_;omega)|refine zG rfl rfl rfl rfl ?_|(refine jdq rfl rfl ?_ ?_ ?_;kernel_rfl;kernel_rfl)|refine zB rfl rfl rfl (by repeat constructor) rfl ?_|refine zH .here rfl rfl rfl rfl ?_|refine zH (.there .here) rfl rfl rfl rfl ?_|refine zH (.there (.there .here)) rfl rfl rfl rfl ?_|refine zH (.there (.there (.there .here))) rfl rfl rfl rfl ?_|refine zH (.there (.there (.there (.there .here)))) rfl rfl rfl rfl ?_)
        refine oP (hbw) Tryd.call20 rfl rfl ?_
        repeat (first|refine zJ rfl rfl ?_|refine jr rfl ?_|refine jn ?_|refine zM rfl rfl ?_|(refine zC rfl rfl ?_ rfl ?_;omega)|(refine zD rfl rfl ?_ rfl ?_;omega)|(refine zP rfl ?_ rfl ?_;omega)|refine zG rfl rfl rfl rfl ?_|(refine jdq rfl rfl ?_ ?_ ?_;kernel_rfl;kernel_rfl)|refine zB rfl rfl rfl (by repeat constructor) rfl ?_|refine zH .here rfl rfl rfl rfl ?_|refine zH (.there .here) rfl rfl rfl rfl ?_|refine zH (.there (.there .here)) rfl rfl rfl rfl ?_|refine zH (.there (.there (.there .here))) rfl rfl rfl rfl ?_|refine zH (.there (.there (.there (.there .here)))) rfl rfl rfl rfl ?_)
        refine oE (ev_buildSlice (E := 3) (zs := [.int .i64 0]) (r := [.int .i64 0]) (t := ints [x.at_]) rfl rfl rfl rfl rfl rfl (.cons .int rfl (by repeat constructor) (.nil))) rfl ?_
        rintro _ _ _ _ ⟨rfl, bt1, rfl, rfl⟩
        refine oPersist fun hh hA hd => ?_
        have hrow : NumRow (PH.un F3 hh) (.slice (some ⟨bt1, 0, none⟩) 1 1) [x.at_] := NumRow.of_blk hA hd (by simp only [List.mem_cons, List.not_mem_nil, or_false, forall_eq_or_imp, forall_eq]; exact hx.at_)
        have hle9 := hlF.trans (PH.le_l F3 hh)
        generalize PH.un F3 hh = Z1 at *
        refine oC (Hc := bld b (pW b) v3 (nm)) (Hr := blk b1 31 (stC x (.slice oa x.orgs.length oc) (.slice ab x.body.length cb) (.slice ta x.tags.length tc)) :: X) (wints_spec b v3 _ (nm) [x.at_] Z1 (hT.mono hle9) hb3 hnn hrow (by simp) (by simp only [List.length_cons, List.length_nil]; omega)) Tryd.call21 rfl rfl (fun _ s => s) ?_
        rintro _ W1 _ hW1 ⟨y1, rfl, hy1⟩
        have n1 : nm ++ spW (nums [x.at_]) ≠ [] := by simp [hnn]
        have l1 : (nm ++ spW (nums [x.at_])).length ≤ 100 := by rw [List.length_append]; have := spW_nums_len (l := [x.at_]) (by simp only [List.mem_cons, List.not_mem_nil, or_false, forall_eq_or_imp, forall_eq]; exact hx.at_); simp only [List.length_cons, List.length_nil] at this ⊢; omega
        obtain ⟨bs1, e1⟩ : ∃ q, nm ++ spW (nums [x.at_]) = q := ⟨_, rfl⟩
        rw [e1] at n1 l1 hy1 ⊢
        have le1 := hle9.trans hW1
        have hT1 := hT.mono le1
        repeat (first|refine zJ rfl rfl ?_|refine jr rfl ?_|refine jn ?_|refine zM rfl rfl ?_|(refine zC rfl rfl ?_ rfl ?_;omega)|(refine zD rfl rfl ?_ rfl ?_;omega)|(refine zP rfl ?_ rfl ?_;omega)|refine zG rfl rfl rfl rfl ?_|(refine jdq rfl rfl ?_ ?_ ?_;kernel_rfl;kernel_rfl)|refine zB rfl rfl rfl (by repeat constructor) rfl ?_|refine zH .here rfl rfl rfl rfl ?_|refine zH (.there .here) rfl rfl rfl rfl ?_|refine zH (.there (.there .here)) rfl rfl rfl rfl ?_|refine zH (.there (.there (.there .here))) rfl rfl rfl rfl ?_|refine zH (.there (.there (.there (.there .here)))) rfl rfl rfl rfl ?_)
        have hend : bs1 = lineB x := by rw [hline, ← e1]; first | done | simp [spW_app]
        rw [hend] at hy1 ⊢
        exact J_joined (ι := Value × Value × PH) (pW b, y1, W1) ⟨le1, hy1⟩ ⟨⟨rfl, rfl, trivial⟩, fun w s => s⟩
    | none =>
      have hg : nmG x.kind = nmS [] := by unfold nmG; rw [hn]
      refine ja F [blk b1 31 (stC x (.slice oa x.orgs.length oc) (.slice ab x.body.length cb) (.slice ta x.tags.length tc))] ?_ ?_ ?_; kernel_rfl
      · exact fun w s => s.drop.drop.head
      refine aT 1 rfl (ev_qe rfl) rfl rfl ?_ ?_ ?_ ?_; kernel_rfl; kernel_rfl; kernel_rfl
      refine aT 2 rfl (ev_load (v := .int .i64 x.kind) rfl rfl (Rdb.ofB (n := 0) .here rfl)) rfl rfl ?_ ?_ ?_ ?_; kernel_rfl; kernel_rfl; kernel_rfl
      refine aB (i := 0) (by kernel_rfl) (aC (Hc := []) (Hr := blk b 56 [.pointer none, nl] :: bytes nl [] :: blk b1 31 (stC x (.slice oa x.orgs.length oc) (.slice ab x.body.length cb) (.slice ta x.tags.length tc)) :: X) rfl (names_spec F) Tryd.call18 rfl rfl rfl (fun _ s => s) (fun _ _ _ hF hq w s => by obtain ⟨bm, _, rfl⟩ := hq; exact (s.drop.drop.drop.head).mono hF) ?_)
      rintro _ F1 _ hF1 ⟨bm, rfl, rfl⟩
      refine aB (i := 3) (by kernel_rfl) (aV rfl (ev_lookup (K := keyI) (a := x.kind) (zv := nmS []) (r := nmS []) rfl rfl rfl rfl .here (by rw [nm_get]; exact hg.symm)) rfl rfl ?_)
      refine aT 4 rfl (ev_sneq (bs := []) (cs := []) (r := false) rfl rfl (by decide)) rfl rfl ?_ ?_ ?_ ?_; kernel_rfl; kernel_rfl; kernel_rfl
      refine aT 5 rfl (ev_qe rfl) rfl rfl ?_ ?_ ?_ ?_; kernel_rfl; kernel_rfl; kernel_rfl
      refine aD (by kernel_rfl) ?_
      refine J_drop ?_
      by_cases k1 : x.kind = 1
      · have hline : lineB x = wAsk ++ spW (nums [x.who] ++ coW x.core ++ nums x.orgs) := by unfold lineB lineW; rw [hn]; dsimp only; rw [if_pos k1]
        repeat (first|refine zJ rfl rfl ?_|refine jr rfl ?_|refine jn ?_|refine zM rfl rfl ?_|(refine zC rfl rfl ?_ rfl ?_;omega)|(refine zD rfl rfl ?_ rfl ?_;omega)|(refine zP rfl ?_ rfl ?_;omega)|refine zG rfl rfl rfl rfl ?_|(refine jdq rfl rfl ?_ ?_ ?_;kernel_rfl;kernel_rfl)|refine zB rfl rfl rfl (by repeat constructor) rfl ?_|refine zH .here rfl rfl rfl rfl ?_|refine zH (.there .here) rfl rfl rfl rfl ?_|refine zH (.there (.there .here)) rfl rfl rfl rfl ?_|refine zH (.there (.there (.there .here))) rfl rfl rfl rfl ?_|refine zH (.there (.there (.there (.there .here)))) rfl rfl rfl rfl ?_)
        refine oC (Hc := bld b (.pointer none) nl []) (Hr := blk b1 31 (stC x (.slice oa x.orgs.length oc) (.slice ab x.body.length cb) (.slice ta x.tags.length tc)) :: X) (word_spec b (.pointer none) nl [] wAsk F1 hbo0 (by decide)) Tryd.call19 rfl rfl (fun _ s => s) ?_
        rintro _ F3 _ hF3 ⟨v3, rfl, hb3⟩
        rw [addW_nil] at hb3 ⊢
        have hlF := hF1.trans hF3
        have hnn : wAsk ≠ [] := by decide
        have hnl : wAsk.length ≤ 7 := by decide
        repeat (first|refine zJ rfl rfl ?_|refine jr rfl ?_|refine jn ?_|refine zM rfl rfl ?_|(refine zC rfl rfl ?_ rfl ?_;omega)|(refine zD rfl rfl ?_ rfl ?_;omega)|(refine zP rfl ?_ rfl ?_;omega)|refine zG rfl rfl rfl rfl ?_|(refine jdq rfl rfl ?_ ?_ ?_;kernel_rfl;kernel_rfl)|refine zB rfl rfl rfl (by repeat constructor) rfl ?_|refine zH .here rfl rfl rfl rfl ?_|refine zH (.there .here) rfl rfl rfl rfl ?_|refine zH (.there (.there .here)) rfl rfl rfl rfl ?_|refine zH (.there (.there (.there .here))) rfl rfl rfl rfl ?_|refine zH (.there (.there (.there (.there .here)))) rfl rfl rfl rfl ?_)
        refine oE (ev_buildSlice (E := 3) (zs := [.int .i64 0]) (r := [.int .i64 0]) (t := ints [x.who]) rfl rfl rfl rfl rfl rfl (.cons .int rfl (by repeat constructor) (.nil))) rfl ?_
        rintro _ _ _ _ ⟨rfl, bt1, rfl, rfl⟩
        refine oPersist fun hh hA hd => ?_
        have hrow : NumRow (PH.un F3 hh) (.slice (some ⟨bt1, 0, none⟩) 1 1) [x.who] := NumRow.of_blk hA hd (by simp only [List.mem_cons, List.not_mem_nil, or_false, forall_eq_or_imp, forall_eq]; exact hx.who)
        have hle9 := hlF.trans (PH.le_l F3 hh)
        generalize PH.un F3 hh = Z1 at *
        refine oC (Hc := bld b (pW b) v3 (wAsk)) (Hr := blk b1 31 (stC x (.slice oa x.orgs.length oc) (.slice ab x.body.length cb) (.slice ta x.tags.length tc)) :: X) (wints_spec b v3 _ (wAsk) [x.who] Z1 (hT.mono hle9) hb3 hnn hrow (by simp) (by simp only [List.length_cons, List.length_nil]; omega)) Tryd.call21 rfl rfl (fun _ s => s) ?_
        rintro _ W1 _ hW1 ⟨y1, rfl, hy1⟩
        have n1 : wAsk ++ spW (nums [x.who]) ≠ [] := by simp [hnn]
        have l1 : (wAsk ++ spW (nums [x.who])).length ≤ 100 := by rw [List.length_append]; have := spW_nums_len (l := [x.who]) (by simp only [List.mem_cons, List.not_mem_nil, or_false, forall_eq_or_imp, forall_eq]; exact hx.who); simp only [List.length_cons, List.length_nil] at this ⊢; omega
        obtain ⟨bs1, e1⟩ : ∃ q, wAsk ++ spW (nums [x.who]) = q := ⟨_, rfl⟩
        rw [e1] at n1 l1 hy1 ⊢
        have le1 := hle9.trans hW1
        have hT1 := hT.mono le1
        repeat (first|refine zJ rfl rfl ?_|refine jr rfl ?_|refine jn ?_|refine zM rfl rfl ?_|(refine zC rfl rfl ?_ rfl ?_;omega)|(refine zD rfl rfl ?_ rfl ?_;omega)|(refine zP rfl ?_ rfl ?_;omega)|refine zG rfl rfl rfl rfl ?_|(refine jdq rfl rfl ?_ ?_ ?_;kernel_rfl;kernel_rfl)|refine zB rfl rfl rfl (by repeat constructor) rfl ?_|refine zH .here rfl rfl rfl rfl ?_|refine zH (.there .here) rfl rfl rfl rfl ?_|refine zH (.there (.there .here)) rfl rfl rfl rfl ?_|refine zH (.there (.there (.there .here))) rfl rfl rfl rfl ?_|refine zH (.there (.there (.there (.there .here)))) rfl rfl rfl rfl ?_)
        refine oS (ev_load_agg (cs := coC x.core) rfl rfl (Rdb.ofB (n := 4) (.there (.there .here)) rfl) rfl) rfl ?_
        refine oC (Hc := bld b (pW b) y1 (bs1)) (Hr := blk b1 31 (stC x (.slice oa x.orgs.length oc) (.slice ab x.body.length cb) (.slice ta x.tags.length tc)) :: X) (wcore_spec b y1 (bs1) x.core W1 (hT.mono le1) hx.core hy1 n1 (by omega) (by omega) (by omega)) Tryd.call22 rfl rfl (fun _ s => s) ?_
        rintro _ W2 _ hW2 ⟨y2, rfl, hy2⟩
        have n2 : bs1 ++ spW (coW x.core) ≠ [] := by simp [n1]
        have l2 : (bs1 ++ spW (coW x.core)).length ≤ 1000 := by rw [List.length_append]; have := coW_len hx.core f1 f2; omega
        obtain ⟨bs2, e2⟩ : ∃ q, bs1 ++ spW (coW x.core) = q := ⟨_, rfl⟩
        rw [e2] at n2 l2 hy2 ⊢
        have le2 := le1.trans hW2
        have hT2 := hT.mono le2
        repeat (first|refine zJ rfl rfl ?_|refine jr rfl ?_|refine jn ?_|refine zM rfl rfl ?_|(refine zC rfl rfl ?_ rfl ?_;omega)|(refine zD rfl rfl ?_ rfl ?_;omega)|(refine zP rfl ?_ rfl ?_;omega)|refine zG rfl rfl rfl rfl ?_|(refine jdq rfl rfl ?_ ?_ ?_;kernel_rfl;kernel_rfl)|refine zB rfl rfl rfl (by repeat constructor) rfl ?_|refine zH .here rfl rfl rfl rfl ?_|refine zH (.there .here) rfl rfl rfl rfl ?_|refine zH (.there (.there .here)) rfl rfl rfl rfl ?_|refine zH (.there (.there (.there .here))) rfl rfl rfl rfl ?_|refine zH (.there (.there (.there (.there .here)))) rfl rfl rfl rfl ?_)
        refine oC (Hc := bld b (pW b) y2 (bs2)) (Hr := blk b1 31 (stC x (.slice oa x.orgs.length oc) (.slice ab x.body.length cb) (.slice ta x.tags.length tc)) :: X) (wints_spec b y2 _ (bs2) x.orgs W2 (hT.mono le2) hy2 n2 (hx.orgs.mono le2) (by omega) (by omega)) Tryd.call21 rfl rfl (fun _ s => s) ?_
        rintro _ W3 _ hW3 ⟨y3, rfl, hy3⟩
        have n3 : bs2 ++ spW (nums x.orgs) ≠ [] := by simp [n2]
        have l3 : (bs2 ++ spW (nums x.orgs)).length ≤ 2000 := by rw [List.length_append]; have := spW_nums_len (l := x.orgs) hx.orgs.2; omega
        obtain ⟨bs3, e3⟩ : ∃ q, bs2 ++ spW (nums x.orgs) = q := ⟨_, rfl⟩
        rw [e3] at n3 l3 hy3 ⊢
        have le3 := le2.trans hW3
        have hT3 := hT.mono le3
        repeat (first|refine zJ rfl rfl ?_|refine jr rfl ?_|refine jn ?_|refine zM rfl rfl ?_|(refine zC rfl rfl ?_ rfl ?_;omega)|(refine zD rfl rfl ?_ rfl ?_;omega)|(refine zP rfl ?_ rfl ?_;omega)|refine zG rfl rfl rfl rfl ?_|(refine jdq rfl rfl ?_ ?_ ?_;kernel_rfl;kernel_rfl)|refine zB rfl rfl rfl (by repeat constructor) rfl ?_|refine zH .here rfl rfl rfl rfl ?_|refine zH (.there .here) rfl rfl rfl rfl ?_|refine zH (.there (.there .here)) rfl rfl rfl rfl ?_|refine zH (.there (.there (.there .here))) rfl rfl rfl rfl ?_|refine zH (.there (.there (.there (.there .here)))) rfl rfl rfl rfl ?_)
        have hend : bs3 = lineB x := by rw [hline, ← e3, ← e2, ← e1]; first | done | simp [spW_app]
        rw [hend] at hy3 ⊢
        exact J_joined (ι := Value × Value × PH) (pW b, y3, W3) ⟨le3, hy3⟩ ⟨⟨rfl, rfl, trivial⟩, fun w s => s⟩
      by_cases k7 : x.kind = 7
      · by_cases m1 : x.mk1 = 1
        · have hline : lineB x = wRequest ++ spW (nums [x.who, x.to, x.blank, x.core.client] ++ nums [x.core.stamp] ++ coW x.core ++ nums x.orgs) := by unfold lineB lineW; rw [hn]; dsimp only; rw [if_neg k1, if_pos k7, if_pos m1]
          have hbl : InI x.blank := ⟨by omega, by omega⟩
          repeat (first|refine zJ rfl rfl ?_|refine jr rfl ?_|refine jn ?_|refine zM rfl rfl ?_|(refine zC rfl rfl ?_ rfl ?_;omega)|(refine zD rfl rfl ?_ rfl ?_;omega)|(refine zP rfl ?_ rfl ?_;omega)|refine zG rfl rfl rfl rfl ?_|(refine jdq rfl rfl ?_ ?_ ?_;kernel_rfl;kernel_rfl)|refine zB rfl rfl rfl (by repeat constructor) rfl ?_|refine zH .here rfl rfl rfl rfl ?_|refine zH (.there .here) rfl rfl rfl rfl ?_|refine zH (.there (.there .here)) rfl rfl rfl rfl ?_|refine zH (.there (.there (.there .here))) rfl rfl rfl rfl ?_|refine zH (.there (.there (.there (.there .here)))) rfl rfl rfl rfl ?_)
          refine oC (Hc := bld b (.pointer none) nl []) (Hr := blk b1 31 (stC x (.slice oa x.orgs.length oc) (.slice ab x.body.length cb) (.slice ta x.tags.length tc)) :: X) (word_spec b (.pointer none) nl [] wRequest F1 hbo0 (by decide)) Tryd.call19 rfl rfl (fun _ s => s) ?_
          rintro _ F3 _ hF3 ⟨v3, rfl, hb3⟩
          rw [addW_nil] at hb3 ⊢
          have hlF := hF1.trans hF3
          have hnn : wRequest ≠ [] := by decide
          have hnl : wRequest.length ≤ 7 := by decide
          repeat (first|refine zJ rfl rfl ?_|refine jr rfl ?_|refine jn ?_|refine zM rfl rfl ?_|(refine zC rfl rfl ?_ rfl ?_;omega)|(refine zD rfl rfl ?_ rfl ?_;omega)|(refine zP rfl ?_ rfl ?_;omega)|refine zG rfl rfl rfl rfl ?_|(refine jdq rfl rfl ?_ ?_ ?_;kernel_rfl;kernel_rfl)|refine zB rfl rfl rfl (by repeat constructor) rfl ?_|refine zH .here rfl rfl rfl rfl ?_|refine zH (.there .here) rfl rfl rfl rfl ?_|refine zH (.there (.there .here)) rfl rfl rfl rfl ?_|refine zH (.there (.there (.there .here))) rfl rfl rfl rfl ?_|refine zH (.there (.there (.there (.there .here)))) rfl rfl rfl rfl ?_)
          refine oE (ev_buildSlice (E := 3) (zs := [.int .i64 0]) (r := [.int .i64 0, .int .i64 0, .int .i64 0, .int .i64 0]) (t := ints [x.who, x.to, x.blank, x.core.client]) rfl rfl rfl rfl rfl rfl (.cons .int rfl (by repeat constructor) (.cons .int rfl (by repeat constructor) (.cons .int rfl (by repeat constructor) (.cons .int rfl (by repeat constructor) (.nil)))))) rfl ?_
          rintro _ _ _ _ ⟨rfl, bt1, rfl, rfl⟩
          refine oPersist fun hh hA hd => ?_
          have hrow : NumRow (PH.un F3 hh) (.slice (some ⟨bt1, 0, none⟩) 4 4) [x.who, x.to, x.blank, x.core.client] := NumRow.of_blk hA hd (by simp only [List.mem_cons, List.not_mem_nil, or_false, forall_eq_or_imp, forall_eq]; exact ⟨hx.who, hx.to, hbl, hx.core.client⟩)
          have hle9 := hlF.trans (PH.le_l F3 hh)
          generalize PH.un F3 hh = Z1 at *
          refine oC (Hc := bld b (pW b) v3 (wRequest)) (Hr := blk b1 31 (stC x (.slice oa x.orgs.length oc) (.slice ab x.body.length cb) (.slice ta x.tags.length tc)) :: X) (wints_spec b v3 _ (wRequest) [x.who, x.to, x.blank, x.core.client] Z1 (hT.mono hle9) hb3 hnn hrow (by simp) (by simp only [List.length_cons, List.length_nil]; omega)) Tryd.call21 rfl rfl (fun _ s => s) ?_
          rintro _ W1 _ hW1 ⟨y1, rfl, hy1⟩
          have n1 : wRequest ++ spW (nums [x.who, x.to, x.blank, x.core.client]) ≠ [] := by simp [hnn]
          have l1 : (wRequest ++ spW (nums [x.who, x.to, x.blank, x.core.client])).length ≤ 200 := by rw [List.length_append]; have := spW_nums_len (l := [x.who, x.to, x.blank, x.core.client]) (by simp only [List.mem_cons, List.not_mem_nil, or_false, forall_eq_or_imp, forall_eq]; exact ⟨hx.who, hx.to, hbl, hx.core.client⟩); simp only [List.length_cons, List.length_nil] at this ⊢; omega
          obtain ⟨bs1, e1⟩ : ∃ q, wRequest ++ spW (nums [x.who, x.to, x.blank, x.core.client]) = q := ⟨_, rfl⟩
          rw [e1] at n1 l1 hy1 ⊢
          have le1 := hle9.trans hW1
          have hT1 := hT.mono le1
          repeat (first|refine zJ rfl rfl ?_|refine jr rfl ?_|refine jn ?_|refine zM rfl rfl ?_|(refine zC rfl rfl ?_ rfl ?_;omega)|(refine zD rfl rfl ?_ rfl ?_;omega)|(refine zP rfl ?_ rfl ?_;omega)|refine zG rfl rfl rfl rfl ?_|(refine jdq rfl rfl ?_ ?_ ?_;kernel_rfl;kernel_rfl)|refine zB rfl rfl rfl (by repeat constructor) rfl ?_|refine zH .here rfl rfl rfl rfl ?_|refine zH (.there .here) rfl rfl rfl rfl ?_|refine zH (.there (.there .here)) rfl rfl rfl rfl ?_|refine zH (.there (.there (.there .here))) rfl rfl rfl rfl ?_|refine zH (.there (.there (.there (.there .here)))) rfl rfl rfl rfl ?_)
          refine oE (ev_buildSlice (E := 2) (zs := [.int .i64 0]) (r := [.int .i64 0]) (t := ints [x.core.stamp]) rfl rfl rfl rfl rfl rfl (.cons .int rfl (by repeat constructor) (.nil))) rfl ?_
          rintro _ _ _ _ ⟨rfl, bt2, rfl, rfl⟩
          refine oPersist fun hh hA hd => ?_
          have hrow : NumRow (PH.un W1 hh) (.slice (some ⟨bt2, 0, none⟩) 1 1) [x.core.stamp] := NumRow.of_blk hA hd (by simp only [List.mem_cons, List.not_mem_nil, or_false, forall_eq_or_imp, forall_eq]; exact hx.core.stamp)
          have hle9 := le1.trans (PH.le_l W1 hh)
          generalize PH.un W1 hh = Z2 at *
          refine oC (Hc := bld b (pW b) y1 (bs1)) (Hr := blk b1 31 (stC x (.slice oa x.orgs.length oc) (.slice ab x.body.length cb) (.slice ta x.tags.length tc)) :: X) (numbers_spec b y1 _ (bs1) [x.core.stamp] Z2 (hT.mono hle9) hy1 n1 hrow (by simp) (by simp only [List.length_cons, List.length_nil]; omega)) Tryd.call23 rfl rfl (fun _ s => s) ?_
          rintro _ W2 _ hW2 ⟨y2, rfl, hy2⟩
          have n2 : bs1 ++ spW (nums [x.core.stamp]) ≠ [] := by simp [n1]
          have l2 : (bs1 ++ spW (nums [x.core.stamp])).length ≤ 300 := by rw [List.length_append]; have := spW_nums_len (l := [x.core.stamp]) (by simp only [List.mem_cons, List.not_mem_nil, or_false, forall_eq_or_imp, forall_eq]; exact hx.core.stamp); simp only [List.length_cons, List.length_nil] at this ⊢; omega
          obtain ⟨bs2, e2⟩ : ∃ q, bs1 ++ spW (nums [x.core.stamp]) = q := ⟨_, rfl⟩
          rw [e2] at n2 l2 hy2 ⊢
          have le2 := hle9.trans hW2
          have hT2 := hT.mono le2
          repeat (first|refine zJ rfl rfl ?_|refine jr rfl ?_|refine jn ?_|refine zM rfl rfl ?_|(refine zC rfl rfl ?_ rfl ?_;omega)|(refine zD rfl rfl ?_ rfl ?_;omega)|(refine zP rfl ?_ rfl ?_;omega)|refine zG rfl rfl rfl rfl ?_|(refine jdq rfl rfl ?_ ?_ ?_;kernel_rfl;kernel_rfl)|refine zB rfl rfl rfl (by repeat constructor) rfl ?_|refine zH .here rfl rfl rfl rfl ?_|refine zH (.there .here) rfl rfl rfl rfl ?_|refine zH (.there (.there .here)) rfl rfl rfl rfl ?_|refine zH (.there (.there (.there .here))) rfl rfl rfl rfl ?_|refine zH (.there (.there (.there (.there .here)))) rfl rfl rfl rfl ?_)
          refine oS (ev_load_agg (cs := coC x.core) rfl rfl (Rdb.ofB (n := 4) (.there (.there .here)) rfl) rfl) rfl ?_
          refine oC (Hc := bld b (pW b) y2 (bs2)) (Hr := blk b1 31 (stC x (.slice oa x.orgs.length oc) (.slice ab x.body.length cb) (.slice ta x.tags.length tc)) :: X) (wcore_spec b y2 (bs2) x.core W2 (hT.mono le2) hx.core hy2 n2 (by omega) (by omega) (by omega)) Tryd.call22 rfl rfl (fun _ s => s) ?_
          rintro _ W3 _ hW3 ⟨y3, rfl, hy3⟩
          have n3 : bs2 ++ spW (coW x.core) ≠ [] := by simp [n2]
          have l3 : (bs2 ++ spW (coW x.core)).length ≤ 1500 := by rw [List.length_append]; have := coW_len hx.core f1 f2; omega
          obtain ⟨bs3, e3⟩ : ∃ q, bs2 ++ spW (coW x.core) = q := ⟨_, rfl⟩
          rw [e3] at n3 l3 hy3 ⊢
          have le3 := le2.trans hW3
          have hT3 := hT.mono le3
          repeat (first|refine zJ rfl rfl ?_|refine jr rfl ?_|refine jn ?_|refine zM rfl rfl ?_|(refine zC rfl rfl ?_ rfl ?_;omega)|(refine zD rfl rfl ?_ rfl ?_;omega)|(refine zP rfl ?_ rfl ?_;omega)|refine zG rfl rfl rfl rfl ?_|(refine jdq rfl rfl ?_ ?_ ?_;kernel_rfl;kernel_rfl)|refine zB rfl rfl rfl (by repeat constructor) rfl ?_|refine zH .here rfl rfl rfl rfl ?_|refine zH (.there .here) rfl rfl rfl rfl ?_|refine zH (.there (.there .here)) rfl rfl rfl rfl ?_|refine zH (.there (.there (.there .here))) rfl rfl rfl rfl ?_|refine zH (.there (.there (.there (.there .here)))) rfl rfl rfl rfl ?_)
          refine oC (Hc := bld b (pW b) y3 (bs3)) (Hr := blk b1 31 (stC x (.slice oa x.orgs.length oc) (.slice ab x.body.length cb) (.slice ta x.tags.length tc)) :: X) (wints_spec b y3 _ (bs3) x.orgs W3 (hT.mono le3) hy3 n3 (hx.orgs.mono le3) (by omega) (by omega)) Tryd.call21 rfl rfl (fun _ s => s) ?_
          rintro _ W4 _ hW4 ⟨y4, rfl, hy4⟩
          have n4 : bs3 ++ spW (nums x.orgs) ≠ [] := by simp [n3]
          have l4 : (bs3 ++ spW (nums x.orgs)).length ≤ 2500 := by rw [List.length_append]; have := spW_nums_len (l := x.orgs) hx.orgs.2; omega
          obtain ⟨bs4, e4⟩ : ∃ q, bs3 ++ spW (nums x.orgs) = q := ⟨_, rfl⟩
          rw [e4] at n4 l4 hy4 ⊢
          have le4 := le3.trans hW4
          have hT4 := hT.mono le4
          repeat (first|refine zJ rfl rfl ?_|refine jr rfl ?_|refine jn ?_|refine zM rfl rfl ?_|(refine zC rfl rfl ?_ rfl ?_;omega)|(refine zD rfl rfl ?_ rfl ?_;omega)|(refine zP rfl ?_ rfl ?_;omega)|refine zG rfl rfl rfl rfl ?_|(refine jdq rfl rfl ?_ ?_ ?_;kernel_rfl;kernel_rfl)|refine zB rfl rfl rfl (by repeat constructor) rfl ?_|refine zH .here rfl rfl rfl rfl ?_|refine zH (.there .here) rfl rfl rfl rfl ?_|refine zH (.there (.there .here)) rfl rfl rfl rfl ?_|refine zH (.there (.there (.there .here))) rfl rfl rfl rfl ?_|refine zH (.there (.there (.there (.there .here)))) rfl rfl rfl rfl ?_)
          have hend : bs4 = lineB x := by rw [hline, ← e4, ← e3, ← e2, ← e1]; first | done | simp [spW_app]
          rw [hend] at hy4 ⊢
          exact J_joined (ι := Value × Value × PH) (pW b, y4, W4) ⟨le4, hy4⟩ ⟨⟨rfl, rfl, trivial⟩, fun w s => s⟩
        · have hline : lineB x = wLie ++ spW (nums [x.who, x.to, x.mk1] ++ [hexB x.body]) := by unfold lineB lineW; rw [hn]; dsimp only; rw [if_neg k1, if_pos k7, if_neg m1]
          repeat (first|refine zJ rfl rfl ?_|refine jr rfl ?_|refine jn ?_|refine zM rfl rfl ?_|(refine zC rfl rfl ?_ rfl ?_;omega)|(refine zD rfl rfl ?_ rfl ?_;omega)|(refine zP rfl ?_ rfl ?_;omega)|refine zG rfl rfl rfl rfl ?_|(refine jdq rfl rfl ?_ ?_ ?_;kernel_rfl;kernel_rfl)|refine zB rfl rfl rfl (by repeat constructor) rfl ?_|refine zH .here rfl rfl rfl rfl ?_|refine zH (.there .here) rfl rfl rfl rfl ?_|refine zH (.there (.there .here)) rfl rfl rfl rfl ?_|refine zH (.there (.there (.there .here))) rfl rfl rfl rfl ?_|refine zH (.there (.there (.there (.there .here)))) rfl rfl rfl rfl ?_)
          refine oC (Hc := bld b (.pointer none) nl []) (Hr := blk b1 31 (stC x (.slice oa x.orgs.length oc) (.slice ab x.body.length cb) (.slice ta x.tags.length tc)) :: X) (word_spec b (.pointer none) nl [] wLie F1 hbo0 (by decide)) Tryd.call19 rfl rfl (fun _ s => s) ?_
          rintro _ F3 _ hF3 ⟨v3, rfl, hb3⟩
          rw [addW_nil] at hb3 ⊢
          have hlF := hF1.trans hF3
          have hnn : wLie ≠ [] := by decide
          have hnl : wLie.length ≤ 7 := by decide
          repeat (first|refine zJ rfl rfl ?_|refine jr rfl ?_|refine jn ?_|refine zM rfl rfl ?_|(refine zC rfl rfl ?_ rfl ?_;omega)|(refine zD rfl rfl ?_ rfl ?_;omega)|(refine zP rfl ?_ rfl ?_;omega)|refine zG rfl rfl rfl rfl ?_|(refine jdq rfl rfl ?_ ?_ ?_;kernel_rfl;kernel_rfl)|refine zB rfl rfl rfl (by repeat constructor) rfl ?_|refine zH .here rfl rfl rfl rfl ?_|refine zH (.there .here) rfl rfl rfl rfl ?_|refine zH (.there (.there .here)) rfl rfl rfl rfl ?_|refine zH (.there (.there (.there .here))) rfl rfl rfl rfl ?_|refine zH (.there (.there (.there (.there .here)))) rfl rfl rfl rfl ?_)
          refine oE (ev_buildSlice (E := 3) (zs := [.int .i64 0]) (r := [.int .i64 0, .int .i64 0, .int .i64 0]) (t := ints [x.who, x.to, x.mk1]) rfl rfl rfl rfl rfl rfl (.cons .int rfl (by repeat constructor) (.cons .int rfl (by repeat constructor) (.cons .int rfl (by repeat constructor) (.nil))))) rfl ?_
          rintro _ _ _ _ ⟨rfl, bt1, rfl, rfl⟩
          refine oPersist fun hh hA hd => ?_
          have hrow : NumRow (PH.un F3 hh) (.slice (some ⟨bt1, 0, none⟩) 3 3) [x.who, x.to, x.mk1] := NumRow.of_blk hA hd (by simp only [List.mem_cons, List.not_mem_nil, or_false, forall_eq_or_imp, forall_eq]; exact ⟨hx.who, hx.to, hx.mk1⟩)
          have hle9 := hlF.trans (PH.le_l F3 hh)
          generalize PH.un F3 hh = Z1 at *
          refine oC (Hc := bld b (pW b) v3 (wLie)) (Hr := blk b1 31 (stC x (.slice oa x.orgs.length oc) (.slice ab x.body.length cb) (.slice ta x.tags.length tc)) :: X) (wints_spec b v3 _ (wLie) [x.who, x.to, x.mk1] Z1 (hT.mono hle9) hb3 hnn hrow (by simp) (by simp only [List.length_cons, List.length_nil]; omega)) Tryd.call21 rfl rfl (fun _ s => s) ?_
          rintro _ W1 _ hW1 ⟨y1, rfl, hy1⟩
          have n1 : wLie ++ spW (nums [x.who, x.to, x.mk1]) ≠ [] := by simp [hnn]
          have l1 : (wLie ++ spW (nums [x.who, x.to, x.mk1])).length ≤ 200 := by rw [List.length_append]; have := spW_nums_len (l := [x.who, x.to, x.mk1]) (by simp only [List.mem_cons, List.not_mem_nil, or_false, forall_eq_or_imp, forall_eq]; exact ⟨hx.who, hx.to, hx.mk1⟩); simp only [List.length_cons, List.length_nil] at this ⊢; omega
          obtain ⟨bs1, e1⟩ : ∃ q, wLie ++ spW (nums [x.who, x.to, x.mk1]) = q := ⟨_, rfl⟩
          rw [e1] at n1 l1 hy1 ⊢
          have le1 := hle9.trans hW1
          have hT1 := hT.mono le1
          repeat (first|refine zJ rfl rfl ?_|refine jr rfl ?_|refine jn ?_|refine zM rfl rfl ?_|(refine zC rfl rfl ?_ rfl ?_;omega)|(refine zD rfl rfl ?_ rfl ?_;omega)|(refine zP rfl ?_ rfl ?_;omega)|refine zG rfl rfl rfl rfl ?_|(refine jdq rfl rfl ?_ ?_ ?_;kernel_rfl;kernel_rfl)|refine zB rfl rfl rfl (by repeat constructor) rfl ?_|refine zH .here rfl rfl rfl rfl ?_|refine zH (.there .here) rfl rfl rfl rfl ?_|refine zH (.there (.there .here)) rfl rfl rfl rfl ?_|refine zH (.there (.there (.there .here))) rfl rfl rfl rfl ?_|refine zH (.there (.there (.there (.there .here)))) rfl rfl rfl rfl ?_)
          refine oC (Hc := bld b (pW b) y1 (bs1)) (Hr := blk b1 31 (stC x (.slice oa x.orgs.length oc) (.slice ab x.body.length cb) (.slice ta x.tags.length tc)) :: X) (wbytes_spec b y1 _ (bs1) x.body W1 hy1 n1 (SliceV.mono hx.body le1) (by omega) (by omega)) Tryd.call24 rfl rfl (fun _ s => s) ?_
          rintro _ W2 _ hW2 ⟨y2, rfl, hy2⟩
          have n2 : bs1 ++ spW [hexB x.body] ≠ [] := by simp [n1]
          have l2 : (bs1 ++ spW [hexB x.body]).length ≤ 2000 := by rw [List.length_append]; have := hexB_len x.body; rw [spW_one, List.length_cons]; omega
          obtain ⟨bs2, e2⟩ : ∃ q, bs1 ++ spW [hexB x.body] = q := ⟨_, rfl⟩
          rw [e2] at n2 l2 hy2 ⊢
          have le2 := le1.trans hW2
          have hT2 := hT.mono le2
          repeat (first|refine zJ rfl rfl ?_|refine jr rfl ?_|refine jn ?_|refine zM rfl rfl ?_|(refine zC rfl rfl ?_ rfl ?_;omega)|(refine zD rfl rfl ?_ rfl ?_;omega)|(refine zP rfl ?_ rfl ?_;omega)|refine zG rfl rfl rfl rfl ?_|(refine jdq rfl rfl ?_ ?_ ?_;kernel_rfl;kernel_rfl)|refine zB rfl rfl rfl (by repeat constructor) rfl ?_|refine zH .here rfl rfl rfl rfl ?_|refine zH (.there .here) rfl rfl rfl rfl ?_|refine zH (.there (.there .here)) rfl rfl rfl rfl ?_|refine zH (.there (.there (.there .here))) rfl rfl rfl rfl ?_|refine zH (.there (.there (.there (.there .here)))) rfl rfl rfl rfl ?_)
          have hend : bs2 = lineB x := by rw [hline, ← e2, ← e1]; first | done | simp [spW_app]
          rw [hend] at hy2 ⊢
          exact J_joined (ι := Value × Value × PH) (pW b, y2, W2) ⟨le2, hy2⟩ ⟨⟨rfl, rfl, trivial⟩, fun w s => s⟩
      by_cases k8 : x.kind = 8
      · have hline : lineB x = wForge ++ spW (nums [x.to, x.mk1, x.mf1] ++ [hexB x.body] ++ x.tags.map hexB) := by unfold lineB lineW; rw [hn]; dsimp only; rw [if_neg k1, if_neg k7, if_pos k8]
        repeat (first|refine zJ rfl rfl ?_|refine jr rfl ?_|refine jn ?_|refine zM rfl rfl ?_|(refine zC rfl rfl ?_ rfl ?_;omega)|(refine zD rfl rfl ?_ rfl ?_;omega)|(refine zP rfl ?_ rfl ?_;omega)|refine zG rfl rfl rfl rfl ?_|(refine jdq rfl rfl ?_ ?_ ?_;kernel_rfl;kernel_rfl)|refine zB rfl rfl rfl (by repeat constructor) rfl ?_|refine zH .here rfl rfl rfl rfl ?_|refine zH (.there .here) rfl rfl rfl rfl ?_|refine zH (.there (.there .here)) rfl rfl rfl rfl ?_|refine zH (.there (.there (.there .here))) rfl rfl rfl rfl ?_|refine zH (.there (.there (.there (.there .here)))) rfl rfl rfl rfl ?_)
        refine oC (Hc := bld b (.pointer none) nl []) (Hr := blk b1 31 (stC x (.slice oa x.orgs.length oc) (.slice ab x.body.length cb) (.slice ta x.tags.length tc)) :: X) (word_spec b (.pointer none) nl [] wForge F1 hbo0 (by decide)) Tryd.call19 rfl rfl (fun _ s => s) ?_
        rintro _ F3 _ hF3 ⟨v3, rfl, hb3⟩
        rw [addW_nil] at hb3 ⊢
        have hlF := hF1.trans hF3
        have hnn : wForge ≠ [] := by decide
        have hnl : wForge.length ≤ 7 := by decide
        repeat (first|refine zJ rfl rfl ?_|refine jr rfl ?_|refine jn ?_|refine zM rfl rfl ?_|(refine zC rfl rfl ?_ rfl ?_;omega)|(refine zD rfl rfl ?_ rfl ?_;omega)|(refine zP rfl ?_ rfl ?_;omega)|refine zG rfl rfl rfl rfl ?_|(refine jdq rfl rfl ?_ ?_ ?_;kernel_rfl;kernel_rfl)|refine zB rfl rfl rfl (by repeat constructor) rfl ?_|refine zH .here rfl rfl rfl rfl ?_|refine zH (.there .here) rfl rfl rfl rfl ?_|refine zH (.there (.there .here)) rfl rfl rfl rfl ?_|refine zH (.there (.there (.there .here))) rfl rfl rfl rfl ?_|refine zH (.there (.there (.there (.there .here)))) rfl rfl rfl rfl ?_)
        refine oE (ev_buildSlice (E := 3) (zs := [.int .i64 0]) (r := [.int .i64 0, .int .i64 0, .int .i64 0]) (t := ints [x.to, x.mk1, x.mf1]) rfl rfl rfl rfl rfl rfl (.cons .int rfl (by repeat constructor) (.cons .int rfl (by repeat constructor) (.cons .int rfl (by repeat constructor) (.nil))))) rfl ?_
        rintro _ _ _ _ ⟨rfl, bt1, rfl, rfl⟩
        refine oPersist fun hh hA hd => ?_
        have hrow : NumRow (PH.un F3 hh) (.slice (some ⟨bt1, 0, none⟩) 3 3) [x.to, x.mk1, x.mf1] := NumRow.of_blk hA hd (by simp only [List.mem_cons, List.not_mem_nil, or_false, forall_eq_or_imp, forall_eq]; exact ⟨hx.to, hx.mk1, hx.mf1⟩)
        have hle9 := hlF.trans (PH.le_l F3 hh)
        generalize PH.un F3 hh = Z1 at *
        refine oC (Hc := bld b (pW b) v3 (wForge)) (Hr := blk b1 31 (stC x (.slice oa x.orgs.length oc) (.slice ab x.body.length cb) (.slice ta x.tags.length tc)) :: X) (wints_spec b v3 _ (wForge) [x.to, x.mk1, x.mf1] Z1 (hT.mono hle9) hb3 hnn hrow (by simp) (by simp only [List.length_cons, List.length_nil]; omega)) Tryd.call21 rfl rfl (fun _ s => s) ?_
        rintro _ W1 _ hW1 ⟨y1, rfl, hy1⟩
        have n1 : wForge ++ spW (nums [x.to, x.mk1, x.mf1]) ≠ [] := by simp [hnn]
        have l1 : (wForge ++ spW (nums [x.to, x.mk1, x.mf1])).length ≤ 200 := by rw [List.length_append]; have := spW_nums_len (l := [x.to, x.mk1, x.mf1]) (by simp only [List.mem_cons, List.not_mem_nil, or_false, forall_eq_or_imp, forall_eq]; exact ⟨hx.to, hx.mk1, hx.mf1⟩); simp only [List.length_cons, List.length_nil] at this ⊢; omega
        obtain ⟨bs1, e1⟩ : ∃ q, wForge ++ spW (nums [x.to, x.mk1, x.mf1]) = q := ⟨_, rfl⟩
        rw [e1] at n1 l1 hy1 ⊢
        have le1 := hle9.trans hW1
        have hT1 := hT.mono le1
        repeat (first|refine zJ rfl rfl ?_|refine jr rfl ?_|refine jn ?_|refine zM rfl rfl ?_|(refine zC rfl rfl ?_ rfl ?_;omega)|(refine zD rfl rfl ?_ rfl ?_;omega)|(refine zP rfl ?_ rfl ?_;omega)|refine zG rfl rfl rfl rfl ?_|(refine jdq rfl rfl ?_ ?_ ?_;kernel_rfl;kernel_rfl)|refine zB rfl rfl rfl (by repeat constructor) rfl ?_|refine zH .here rfl rfl rfl rfl ?_|refine zH (.there .here) rfl rfl rfl rfl ?_|refine zH (.there (.there .here)) rfl rfl rfl rfl ?_|refine zH (.there (.there (.there .here))) rfl rfl rfl rfl ?_|refine zH (.there (.there (.there (.there .here)))) rfl rfl rfl rfl ?_)
        refine oC (Hc := bld b (pW b) y1 (bs1)) (Hr := blk b1 31 (stC x (.slice oa x.orgs.length oc) (.slice ab x.body.length cb) (.slice ta x.tags.length tc)) :: X) (wbytes_spec b y1 _ (bs1) x.body W1 hy1 n1 (SliceV.mono hx.body le1) (by omega) (by omega)) Tryd.call24 rfl rfl (fun _ s => s) ?_
        rintro _ W2 _ hW2 ⟨y2, rfl, hy2⟩
        have n2 : bs1 ++ spW [hexB x.body] ≠ [] := by simp [n1]
        have l2 : (bs1 ++ spW [hexB x.body]).length ≤ 2000 := by rw [List.length_append]; have := hexB_len x.body; rw [spW_one, List.length_cons]; omega
        obtain ⟨bs2, e2⟩ : ∃ q, bs1 ++ spW [hexB x.body] = q := ⟨_, rfl⟩
        rw [e2] at n2 l2 hy2 ⊢
        have le2 := le1.trans hW2
        have hT2 := hT.mono le2
        repeat (first|refine zJ rfl rfl ?_|refine jr rfl ?_|refine jn ?_|refine zM rfl rfl ?_|(refine zC rfl rfl ?_ rfl ?_;omega)|(refine zD rfl rfl ?_ rfl ?_;omega)|(refine zP rfl ?_ rfl ?_;omega)|refine zG rfl rfl rfl rfl ?_|(refine jdq rfl rfl ?_ ?_ ?_;kernel_rfl;kernel_rfl)|refine zB rfl rfl rfl (by repeat constructor) rfl ?_|refine zH .here rfl rfl rfl rfl ?_|refine zH (.there .here) rfl rfl rfl rfl ?_|refine zH (.there (.there .here)) rfl rfl rfl rfl ?_|refine zH (.there (.there (.there .here))) rfl rfl rfl rfl ?_|refine zH (.there (.there (.there (.there .here)))) rfl rfl rfl rfl ?_)
        obtain ⟨htg, htl⟩ := hx.tags
        have hu32 : ∀ c ∈ x.tags.map u8s, c.length = 32 := fun c hc => by
          obtain ⟨t, ht, rfl⟩ := List.mem_map.1 hc
          rw [u8s_len, htl t ht]
        refine J_loop (ι := Nat × Value × PH) (fun p => p.1 ≤ x.tags.length ∧ F.le p.2.2 ∧ BldOk b (pW b) p.2.1 (bs2 ++ spW ((x.tags.take p.1).map hexB))) (fun p => x.tags.length - p.1) (fun p => [(1, .pointer (some ⟨b1, 0, none⟩)), (4, pW b), (139, .slice ta x.tags.length tc), (140, .int .i64 x.tags.length), (141, .int .i64 p.1)]) (fun p => p.2.2)
          (fun p => bld b (pW b) p.2.1 (bs2 ++ spW ((x.tags.take p.1).map hexB)) ++ (blk b1 31 (stC x (.slice oa x.orgs.length oc) (.slice ab x.body.length cb) (.slice ta x.tags.length tc)) :: X)) (0, y2, W2) ⟨Nat.zero_le _, le2, by simpa [spW] using hy2⟩ ⟨⟨rfl, rfl, rfl, rfl, rfl, trivial⟩, fun w s => by simpa [spW] using s⟩ ?_
        rintro ⟨i, v5, G⟩ ⟨hi, hG, hv5⟩
        dsimp only at *
        by_cases hlt : i < x.tags.length
        · have hgi : x.tags[i]? = some x.tags[i] := List.getElem?_eq_getElem hlt
          have ht32 := htl _ (List.getElem_mem hlt)
          obtain ⟨tb, to_, rfl, htc⟩ := SliceV.row htg hu32 (i := i) (r := u8s x.tags[i]) (by rw [List.getElem?_map, hgi]; rfl) hlt
          have hsn : bs2 ++ spW ((x.tags.take (i + 1)).map hexB) = (bs2 ++ spW ((x.tags.take i).map hexB)) ++ spW [hexB x.tags[i]] := by
            rw [List.take_add_one, hgi, Option.toList_some, List.map_append, spW_app, List.append_assoc]; rfl
          have hbl5 : (spW ((x.tags.take i).map hexB)).length ≤ 1000 := by
            have hq : ∀ l : List W8, (∀ t ∈ l, t.length = 32) → (spW (l.map hexB)).length ≤ 66 * l.length := fun l => by
              induction l with
              | nil => intro _; simp [spW]
              | cons t r ih =>
                intro h
                have h1 := ih fun q hq => h q (List.mem_cons_of_mem _ hq)
                have h2 := hexB_len t
                have h3 := h t List.mem_cons_self
                unfold spW at h1 ⊢
                rw [List.map_cons, List.flatMap_cons, List.length_append, List.length_cons, List.length_cons]
                omega
            have := hq (x.tags.take i) fun t ht => htl t (List.mem_of_mem_take ht)
            rw [List.length_take, Nat.min_eq_left hi] at this
            omega
          have hn5 : bs2 ++ spW ((x.tags.take i).map hexB) ≠ [] := by simp [n2]
          have hl5 : (bs2 ++ spW ((x.tags.take i).map hexB)).length ≤ 4000 := by rw [List.length_append]; omega
          generalize bs2 ++ spW ((x.tags.take i).map hexB) = bs5 at *
          generalize x.tags[i] = t at *
          have hul : (u8s t).length = 32 := by rw [u8s_len]; exact ht32
          repeat (first|refine zJ rfl rfl ?_|refine jr rfl ?_|refine jn ?_|refine zM rfl rfl ?_|(refine zC rfl rfl ?_ rfl ?_;omega)|(refine zD rfl rfl ?_ rfl ?_;omega)|(refine zP rfl ?_ rfl ?_;omega)|refine zG rfl rfl rfl rfl ?_|(refine jdq rfl rfl ?_ ?_ ?_;kernel_rfl;kernel_rfl)|refine zB rfl rfl rfl (by repeat constructor) rfl ?_|refine zH .here rfl rfl rfl rfl ?_|refine zH (.there .here) rfl rfl rfl rfl ?_|refine zH (.there (.there .here)) rfl rfl rfl rfl ?_|refine zH (.there (.there (.there .here))) rfl rfl rfl rfl ?_|refine zH (.there (.there (.there (.there .here)))) rfl rfl rfl rfl ?_)
          refine oS (ev_indexAddr rfl rfl rfl hlt) rfl ?_
          refine oS (ev_load_agg (cs := u8s t) rfl rfl (Rdb.ofF (htc.mono hG)) hul) rfl ?_
          refine oE (ev_alloc (cs := List.replicate 32 (.int .u8 0)) rfl) rfl ?_
          rintro _ _ _ _ ⟨rfl, b6, rfl, rfl⟩
          refine oN (ev_store rfl rfl .agg rfl hul (lay_all (zs := List.replicate 32 (.int .u8 0)) hul) (u8s_ones t) .here) rfl ?_
          rintro _ _ _ _ ⟨rfl, _, rfl⟩
          refine oPersist fun hh hA hd => ?_
          have hbt : Byt (PH.un G hh) (.slice (some ⟨b6, 0, none⟩) 32 32) t := by
            refine ⟨by rw [u8s_len, Nat.mul_one], some ⟨b6, 0, none⟩, 32, ?_, ?_, fun _ => ⟨b6, 0, rfl, blk_cells hA hd⟩⟩
            · rw [ht32]
            · omega
          have hG5 := PH.le_l G hh
          generalize PH.un G hh = G5 at *
          repeat (first|refine zJ rfl rfl ?_|refine jr rfl ?_|refine jn ?_|refine zM rfl rfl ?_|(refine zC rfl rfl ?_ rfl ?_;omega)|(refine zD rfl rfl ?_ rfl ?_;omega)|(refine zP rfl ?_ rfl ?_;omega)|refine zG rfl rfl rfl rfl ?_|(refine jdq rfl rfl ?_ ?_ ?_;kernel_rfl;kernel_rfl)|refine zB rfl rfl rfl (by repeat constructor) rfl ?_|refine zH .here rfl rfl rfl rfl ?_|refine zH (.there .here) rfl rfl rfl rfl ?_|refine zH (.there (.there .here)) rfl rfl rfl rfl ?_|refine zH (.there (.there (.there .here))) rfl rfl rfl rfl ?_|refine zH (.there (.there (.there (.there .here)))) rfl rfl rfl rfl ?_)
          refine oS (ev_slice_arr (len := 32) rfl rfl) rfl ?_
          refine oC (Hc := bld b (pW b) v5 bs5) (Hr := _ :: X) (wbytes_spec b v5 _ bs5 t G5 hv5 hn5 hbt (by omega) (by omega)) Tryd.call24 rfl rfl (fun _ s => s) ?_
          rintro _ G6 _ hG6 ⟨v6, rfl, hv6⟩
          repeat (first|refine zJ rfl rfl ?_|refine jr rfl ?_|refine jn ?_|refine zM rfl rfl ?_|(refine zC rfl rfl ?_ rfl ?_;omega)|(refine zD rfl rfl ?_ rfl ?_;omega)|(refine zP rfl ?_ rfl ?_;omega)|refine zG rfl rfl rfl rfl ?_|(refine jdq rfl rfl ?_ ?_ ?_;kernel_rfl;kernel_rfl)|refine zB rfl rfl rfl (by repeat constructor) rfl ?_|refine zH .here rfl rfl rfl rfl ?_|refine zH (.there .here) rfl rfl rfl rfl ?_|refine zH (.there (.there .here)) rfl rfl rfl rfl ?_|refine zH (.there (.there (.there .here))) rfl rfl rfl rfl ?_|refine zH (.there (.there (.there (.there .here)))) rfl rfl rfl rfl ?_)
          refine J_again (ι := Nat × Value × PH) (i + 1, v6, G6) ⟨hlt, hG.trans (hG5.trans hG6), by dsimp only; rw [hsn]; exact hv6⟩ (by dsimp only; omega) ⟨⟨rfl, rfl, rfl, rfl, rfl, trivial⟩, fun w s => by dsimp only; rw [hsn]; exact s⟩
        · obtain rfl : i = x.tags.length := by omega
          rw [List.take_length] at hv5 ⊢
          have hend : bs2 ++ spW (x.tags.map hexB) = lineB x := by rw [hline, ← e2, ← e1]; simp [spW]
          rw [hend] at hv5 ⊢
          repeat (first|refine zJ rfl rfl ?_|refine jr rfl ?_|refine jn ?_|refine zM rfl rfl ?_|(refine zC rfl rfl ?_ rfl ?_;omega)|(refine zD rfl rfl ?_ rfl ?_;omega)|(refine zP rfl ?_ rfl ?_;omega)|refine zG rfl rfl rfl rfl ?_|(refine jdq rfl rfl ?_ ?_ ?_;kernel_rfl;kernel_rfl)|refine zB rfl rfl rfl (by repeat constructor) rfl ?_|refine zH .here rfl rfl rfl rfl ?_|refine zH (.there .here) rfl rfl rfl rfl ?_|refine zH (.there (.there .here)) rfl rfl rfl rfl ?_|refine zH (.there (.there (.there .here))) rfl rfl rfl rfl ?_|refine zH (.there (.there (.there (.there .here)))) rfl rfl rfl rfl ?_)
          exact J_joined (ι := Value × Value × PH) (pW b, v5, G) ⟨hG, hv5⟩ ⟨⟨rfl, rfl, trivial⟩, fun w s => s⟩
      have hline : lineB x = [] := by unfold lineB lineW; rw [hn]; dsimp only; rw [if_neg k1, if_neg k7, if_neg k8]
      repeat (first|refine zJ rfl rfl ?_|refine jr rfl ?_|refine jn ?_|refine zM rfl rfl ?_|(refine zC rfl rfl ?_ rfl ?_;omega)|(refine zD rfl rfl ?_ rfl ?_;omega)|(refine zP rfl ?_ rfl ?_;omega)|refine zG rfl rfl rfl rfl ?_|(refine jdq rfl rfl ?_ ?_ ?_;kernel_rfl;kernel_rfl)|refine zB rfl rfl rfl (by repeat constructor) rfl ?_|refine zH .here rfl rfl rfl rfl ?_|refine zH (.there .here) rfl rfl rfl rfl ?_|refine zH (.there (.there .here)) rfl rfl rfl rfl ?_|refine zH (.there (.there (.there .here))) rfl rfl rfl rfl ?_|refine zH (.there (.there (.there (.there .here)))) rfl rfl rfl rfl ?_)
      exact J_joined (ι := Value × Value × PH) (.pointer none, nl, F1) ⟨hF1, by rw [hline]; exact hbo0⟩ ⟨⟨rfl, rfl, trivial⟩, fun w s => by rw [hline]; exact s⟩
  rintro ⟨p, v, G⟩ ⟨hG, hbo⟩
  dsimp only at *
  refine J_weak (F' := G) (H' := bldZ b p v (lineB x) ++ (blk b1 31 (stC x (.slice oa x.orgs.length oc) (.slice ab x.body.length cb) (.slice ta x.tags.length tc)) :: X)) ?_ (fun w s => bld_Z s)
  have hlen : (lineB x).length ≤ 100000 := lineB_len hx hf
  repeat (first|refine zJ rfl rfl ?_|refine jr rfl ?_|refine jn ?_|refine zM rfl rfl ?_|(refine zC rfl rfl ?_ rfl ?_;omega)|(refine zD rfl rfl ?_ rfl ?_;omega)|(refine zP rfl ?_ rfl ?_;omega)|refine zG rfl rfl rfl rfl ?_|(refine jdq rfl rfl ?_ ?_ ?_;kernel_rfl;kernel_rfl)|refine zB rfl rfl rfl (by repeat constructor) rfl ?_|refine zH .here rfl rfl rfl rfl ?_|refine zH (.there .here) rfl rfl rfl rfl ?_|refine zH (.there (.there .here)) rfl rfl rfl rfl ?_|refine zH (.there (.there (.there .here))) rfl rfl rfl rfl ?_|refine zH (.there (.there (.there (.there .here)))) rfl rfl rfl rfl ?_)
  refine oC (Hc := bldZ b p v (lineB x)) (Hr := blk b1 31 (stC x (.slice oa x.orgs.length oc) (.slice ab x.body.length cb) (.slice ta x.tags.length tc)) :: X) (bString_spec b p v (lineB x) G hbo) Tryd.call25 rfl rfl (fun _ s => s) ?_
  rintro _ G1 _ hG1 ⟨rfl, rfl⟩
  have hL1 := hF.mono (hG.trans hG1)
  repeat (first|refine zJ rfl rfl ?_|refine jr rfl ?_|refine jn ?_|refine zM rfl rfl ?_|(refine zC rfl rfl ?_ rfl ?_;omega)|(refine zD rfl rfl ?_ rfl ?_;omega)|(refine zP rfl ?_ rfl ?_;omega)|refine zG rfl rfl rfl rfl ?_|(refine jdq rfl rfl ?_ ?_ ?_;kernel_rfl;kernel_rfl)|refine zB rfl rfl rfl (by repeat constructor) rfl ?_|refine zH .here rfl rfl rfl rfl ?_|refine zH (.there .here) rfl rfl rfl rfl ?_|refine zH (.there (.there .here)) rfl rfl rfl rfl ?_|refine zH (.there (.there (.there .here))) rfl rfl rfl rfl ?_|refine zH (.there (.there (.there (.there .here)))) rfl rfl rfl rfl ?_)
  refine oC (Hc := []) (Hr := bldZ b p v (lineB x) ++ (blk b1 31 (stC x (.slice oa x.orgs.length oc) (.slice ab x.body.length cb) (.slice ta x.tags.length tc)) :: X)) (parseLine_spec (lineB x) (by omega) G1 hL1) Tryd.call10 rfl rfl (fun _ s => s) ?_
  rintro _ G2 _ hG2 ⟨rfl, y, yo, yb, yt, ok, rfl, hy, hyl, hm⟩
  repeat (first|refine zJ rfl rfl ?_|refine jr rfl ?_|refine jn ?_|refine zM rfl rfl ?_|(refine zC rfl rfl ?_ rfl ?_;omega)|(refine zD rfl rfl ?_ rfl ?_;omega)|(refine zP rfl ?_ rfl ?_;omega)|refine zG rfl rfl rfl rfl ?_|(refine jdq rfl rfl ?_ ?_ ?_;kernel_rfl;kernel_rfl)|refine zB rfl rfl rfl (by repeat constructor) rfl ?_|refine zH .here rfl rfl rfl rfl ?_|refine zH (.there .here) rfl rfl rfl rfl ?_|refine zH (.there (.there .here)) rfl rfl rfl rfl ?_|refine zH (.there (.there (.there .here))) rfl rfl rfl rfl ?_|refine zH (.there (.there (.there (.there .here)))) rfl rfl rfl rfl ?_)
  refine oE (ev_alloc (cs := zStC) rfl) rfl ?_
  rintro _ _ _ _ ⟨rfl, b7, rfl, rfl⟩
  refine oN (ev_store (vs := stC y yo yb yt) rfl rfl .agg rfl rfl (lay_all (zs := zStC) rfl) hy.ones .here) rfl ?_
  rintro _ _ _ _ ⟨rfl, _, rfl⟩
  have hGG := hG.trans (hG1.trans hG2)
  have hgood : okL x = (ok && sameB x y) := by
    unfold okL
    cases e : parseP (splW 32 (lineB x)) with
    | none => rw [e] at hm; rw [hm.1]; rfl
    | some z => rw [e] at hm; obtain ⟨h1, h2⟩ := hm; subst h1 h2; rfl
  have hsame := same_spec x y _ _ _ _ _ _ G2 (hx.mono hGG) hy (by omega) (by omega)
  cases ok with
  | false =>
    rw [hgood]
    repeat (first|refine zJ rfl rfl ?_|refine jr rfl ?_|refine jn ?_|refine zM rfl rfl ?_|(refine zC rfl rfl ?_ rfl ?_;omega)|(refine zD rfl rfl ?_ rfl ?_;omega)|(refine zP rfl ?_ rfl ?_;omega)|refine zG rfl rfl rfl rfl ?_|(refine jdq rfl rfl ?_ ?_ ?_;kernel_rfl;kernel_rfl)|refine zB rfl rfl rfl (by repeat constructor) rfl ?_|refine zH .here rfl rfl rfl rfl ?_|refine zH (.there .here) rfl rfl rfl rfl ?_|refine zH (.there (.there .here)) rfl rfl rfl rfl ?_|refine zH (.there (.there (.there .here))) rfl rfl rfl rfl ?_|refine zH (.there (.there (.there (.there .here)))) rfl rfl rfl rfl ?_)
    exact J_retv (vs := [.string (strOf []), .bool false]) rfl (.tmp rfl (.tmp rfl .nil)) [] (fun w s => s.drop.drop.drop.drop) hGG ⟨rfl, rfl⟩
  | true =>
    rw [Bool.true_and] at hgood
    repeat (first|refine zJ rfl rfl ?_|refine jr rfl ?_|refine jn ?_|refine zM rfl rfl ?_|(refine zC rfl rfl ?_ rfl ?_;omega)|(refine zD rfl rfl ?_ rfl ?_;omega)|(refine zP rfl ?_ rfl ?_;omega)|refine zG rfl rfl rfl rfl ?_|(refine jdq rfl rfl ?_ ?_ ?_;kernel_rfl;kernel_rfl)|refine zB rfl rfl rfl (by repeat constructor) rfl ?_|refine zH .here rfl rfl rfl rfl ?_|refine zH (.there .here) rfl rfl rfl rfl ?_|refine zH (.there (.there .here)) rfl rfl rfl rfl ?_|refine zH (.there (.there (.there .here))) rfl rfl rfl rfl ?_|refine zH (.there (.there (.there (.there .here)))) rfl rfl rfl rfl ?_)
    refine oS (ev_load_agg (cs := (stC x (.slice oa x.orgs.length oc) (.slice ab x.body.length cb) (.slice ta x.tags.length tc))) rfl rfl (Rdb.ofB (n := 0) (.there (.there (.there .here))) rfl) rfl) rfl ?_
    refine oS (ev_load_agg (cs := stC y yo yb yt) rfl rfl (Rdb.ofB (n := 0) .here rfl) rfl) rfl ?_
    refine oP (hsame) Tryd.call26 rfl rfl ?_
    rw [hgood]
    cases hs : sameB x y with
    | false =>
      repeat (first|refine zJ rfl rfl ?_|refine jr rfl ?_|refine jn ?_|refine zM rfl rfl ?_|(refine zC rfl rfl ?_ rfl ?_;omega)|(refine zD rfl rfl ?_ rfl ?_;omega)|(refine zP rfl ?_ rfl ?_;omega)|refine zG rfl rfl rfl rfl ?_|(refine jdq rfl rfl ?_ ?_ ?_;kernel_rfl;kernel_rfl)|refine zB rfl rfl rfl (by repeat constructor) rfl ?_|refine zH .here rfl rfl rfl rfl ?_|refine zH (.there .here) rfl rfl rfl rfl ?_|refine zH (.there (.there .here)) rfl rfl rfl rfl ?_|refine zH (.there (.there (.there .here))) rfl rfl rfl rfl ?_|refine zH (.there (.there (.there (.there .here)))) rfl rfl rfl rfl ?_)
      exact J_retv (vs := [.string (strOf []), .bool false]) rfl (.tmp rfl (.tmp rfl .nil)) [] (fun w s => s.drop.drop.drop.drop) hGG ⟨rfl, rfl⟩
    | true =>
      repeat (first|refine zJ rfl rfl ?_|refine jr rfl ?_|refine jn ?_|refine zM rfl rfl ?_|(refine zC rfl rfl ?_ rfl ?_;omega)|(refine zD rfl rfl ?_ rfl ?_;omega)|(refine zP rfl ?_ rfl ?_;omega)|refine zG rfl rfl rfl rfl ?_|(refine jdq rfl rfl ?_ ?_ ?_;kernel_rfl;kernel_rfl)|refine zB rfl rfl rfl (by repeat constructor) rfl ?_|refine zH .here rfl rfl rfl rfl ?_|refine zH (.there .here) rfl rfl rfl rfl ?_|refine zH (.there (.there .here)) rfl rfl rfl rfl ?_|refine zH (.there (.there (.there .here))) rfl rfl rfl rfl ?_|refine zH (.there (.there (.there (.there .here)))) rfl rfl rfl rfl ?_)
      refine oC (Hc := bldZ b p v (lineB x)) (Hr := _ :: blk b1 31 (stC x (.slice oa x.orgs.length oc) (.slice ab x.body.length cb) (.slice ta x.tags.length tc)) :: X) (bString_spec b p v (lineB x) G2 hbo) Tryd.call25 rfl rfl (fun _ s => Sat.front (A := [_]) s) ?_
      rintro _ G3 _ hG3 ⟨rfl, rfl⟩
      repeat (first|refine zJ rfl rfl ?_|refine jr rfl ?_|refine jn ?_|refine zM rfl rfl ?_|(refine zC rfl rfl ?_ rfl ?_;omega)|(refine zD rfl rfl ?_ rfl ?_;omega)|(refine zP rfl ?_ rfl ?_;omega)|refine zG rfl rfl rfl rfl ?_|(refine jdq rfl rfl ?_ ?_ ?_;kernel_rfl;kernel_rfl)|refine zB rfl rfl rfl (by repeat constructor) rfl ?_|refine zH .here rfl rfl rfl rfl ?_|refine zH (.there .here) rfl rfl rfl rfl ?_|refine zH (.there (.there .here)) rfl rfl rfl rfl ?_|refine zH (.there (.there (.there .here))) rfl rfl rfl rfl ?_|refine zH (.there (.there (.there (.there .here)))) rfl rfl rfl rfl ?_)
      exact J_retv (vs := [.string (strOf (lineB x)), .bool true]) rfl (.tmp rfl (.tmp rfl .nil)) [] (fun w s => s.drop.drop.drop.drop) (hGG.trans hG3) ⟨rfl, rfl⟩
end Go.Proofs.YtekdmpbkcjjllaaDoor
