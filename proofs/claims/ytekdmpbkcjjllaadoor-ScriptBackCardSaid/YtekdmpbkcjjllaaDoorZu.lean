/-
  The document's line; which steps are asked about.
  Steps and openings that come in, read by their types.
-/
import Derived.Test.YtekdmpbkcjjllaaDoorZt
namespace Go.Proofs.YtekdmpbkcjjllaaDoor
open Go.RowKit
set_option maxRecDepth 100000
theorem told_orgs (x : St) : (toldP x).orgs = x.orgs ∨ (toldP x).orgs = [] := by
  unfold toldP
  split
  · exact .inl rfl
  split
  · exact .inr rfl
  split
  · exact .inr rfl
  split
  · exact .inr rfl
  split
  · exact .inl rfl
  · exact .inr rfl
set_option maxHeartbeats 32000000 in
theorem dline_spec (x : St) (vo vb vt : Value) (F : PH) (hx : StOk F x vo vb vt) (hf : FewSt x) : Spec Tryd.prog 9 [.agg (stC x vo vb vt).toArray] F [] fun u _ H' => H' = [] ∧ u = .tuple #[.string (strOf (if docOk x then lineB x else [])), .bool (docOk x)] := by
  have htold := dtold_spec x vo vb vt F hx hf
  obtain ⟨oa, oc, rfl, _, _⟩ := hx.orgs.at1
  obtain ⟨_, ba, bc, rfl, _, _⟩ := slice1 hx.body
  obtain ⟨ta, tc, rfl⟩ : ∃ ta tc, vt = .slice ta x.tags.length tc := by
    obtain ⟨⟨_, a, c, e, _, _⟩, _⟩ := hx.tags
    exact ⟨a, c, e⟩
  have f1 := hf.letter
  have f3 := hf.orgs
  have f5 := hf.tags
  refine Spec.of1 Tryd.func9 rfl rfl fun X w0 => ?_
  repeat (first|refine zJ rfl rfl ?_|refine jr rfl ?_|refine jn ?_|refine zM rfl rfl ?_|(refine zC rfl rfl ?_ rfl ?_;omega)|(refine zD rfl rfl ?_ rfl ?_;omega)|(refine zP rfl ?_ rfl ?_;omega)|refine zG rfl rfl rfl rfl ?_|(refine jdq rfl rfl ?_ ?_ ?_;kernel_rfl;kernel_rfl)|refine zB rfl rfl rfl (by repeat constructor) rfl ?_|refine zH .here rfl rfl rfl rfl ?_|refine zH (.there .here) rfl rfl rfl rfl ?_|refine zH (.there (.there .here)) rfl rfl rfl rfl ?_|refine zH (.there (.there (.there .here))) rfl rfl rfl rfl ?_|refine zH (.there (.there (.there (.there .here)))) rfl rfl rfl rfl ?_)
  refine oE (ev_box rfl .agg) rfl ?_; rintro _ _ _ _ ⟨rfl, b1, rfl, rfl⟩
  by_cases hk1 : x.kind < 1
  · have hd : docOk x = false := by unfold docOk; rw [decide_eq_false (by omega)]; rfl
    rw [hd]
    repeat (first|refine zJ rfl rfl ?_|refine jr rfl ?_|refine jn ?_|refine zM rfl rfl ?_|(refine zC rfl rfl ?_ rfl ?_;omega)|(refine zD rfl rfl ?_ rfl ?_;omega)|(refine zP rfl ?_ rfl ?_;omega)|refine zG rfl rfl rfl rfl ?_|(refine jdq rfl rfl ?_ ?_ ?_;kernel_rfl;kernel_rfl)|refine zB rfl rfl rfl (by repeat constructor) rfl ?_|refine zH .here rfl rfl rfl rfl ?_|refine zH (.there .here) rfl rfl rfl rfl ?_|refine zH (.there (.there .here)) rfl rfl rfl rfl ?_|refine zH (.there (.there (.there .here))) rfl rfl rfl rfl ?_|refine zH (.there (.there (.there (.there .here)))) rfl rfl rfl rfl ?_)
    exact J_retv (vs := [.string (strOf []), .bool false]) rfl (.tmp rfl (.tmp rfl .nil)) [] (fun w s => s.drop) (PH.ler _) ⟨rfl, rfl⟩
  by_cases hk8 : 8 < x.kind
  · have hd : docOk x = false := by unfold docOk; rw [decide_eq_false (by omega)]; rfl
    rw [hd]
    repeat (first|refine zJ rfl rfl ?_|refine jr rfl ?_|refine jn ?_|refine zM rfl rfl ?_|(refine zC rfl rfl ?_ rfl ?_;omega)|(refine zD rfl rfl ?_ rfl ?_;omega)|(refine zP rfl ?_ rfl ?_;omega)|refine zG rfl rfl rfl rfl ?_|(refine jdq rfl rfl ?_ ?_ ?_;kernel_rfl;kernel_rfl)|refine zB rfl rfl rfl (by repeat constructor) rfl ?_|refine zH .here rfl rfl rfl rfl ?_|refine zH (.there .here) rfl rfl rfl rfl ?_|refine zH (.there (.there .here)) rfl rfl rfl rfl ?_|refine zH (.there (.there (.there .here))) rfl rfl rfl rfl ?_|refine zH (.there (.there (.there (.there .here)))) rfl rfl rfl rfl ?_)
    exact J_retv (vs := [.string (strOf []), .bool false]) rfl (.tmp rfl (.tmp rfl .nil)) [] (fun w s => s.drop) (PH.ler _) ⟨rfl, rfl⟩
  have hk : 1 ≤ x.kind ∧ x.kind ≤ 8 := by omega
  have hd0 : docOk x = (sameB x (toldP x) && (!withB x || letterB x.core.letter)) := by unfold docOk; rw [decide_eq_true hk]; rfl
  repeat (first|refine zJ rfl rfl ?_|refine jr rfl ?_|refine jn ?_|refine zM rfl rfl ?_|(refine zC rfl rfl ?_ rfl ?_;omega)|(refine zD rfl rfl ?_ rfl ?_;omega)|(refine zP rfl ?_ rfl ?_;omega)|refine zG rfl rfl rfl rfl ?_|(refine jdq rfl rfl ?_ ?_ ?_;kernel_rfl;kernel_rfl)|refine zB rfl rfl rfl (by repeat constructor) rfl ?_|refine zH .here rfl rfl rfl rfl ?_|refine zH (.there .here) rfl rfl rfl rfl ?_|refine zH (.there (.there .here)) rfl rfl rfl rfl ?_|refine zH (.there (.there (.there .here))) rfl rfl rfl rfl ?_|refine zH (.there (.there (.there (.there .here)))) rfl rfl rfl rfl ?_)
  refine oS (ev_load_agg (cs := stC x (.slice oa x.orgs.length oc) (.slice ba x.body.length bc) (.slice ta x.tags.length tc)) rfl rfl (Rdb.ofB (n := 0) .here rfl) rfl) rfl ?_
  refine oC (Hc := []) (Hr := blk b1 31 (stC x (.slice oa x.orgs.length oc) (.slice ba x.body.length bc) (.slice ta x.tags.length tc)) :: X) (htold hk) Tryd.call27 rfl rfl (fun _ s => s) ?_
  rintro _ F1 _ hF1 ⟨rfl, wo, wb, wt, rfl, hst⟩
  have hto : (toldP x).orgs.length ≤ 20 := by rcases told_orgs x with h | h <;> rw [h]; exact f3; simp
  have hsame := dsame_spec x (toldP x) _ _ _ wo wb wt F1 (hx.mono hF1) hst (by omega) (by omega) (by omega)
  have hones := hst.ones
  repeat (first|refine zJ rfl rfl ?_|refine jr rfl ?_|refine jn ?_|refine zM rfl rfl ?_|(refine zC rfl rfl ?_ rfl ?_;omega)|(refine zD rfl rfl ?_ rfl ?_;omega)|(refine zP rfl ?_ rfl ?_;omega)|refine zG rfl rfl rfl rfl ?_|(refine jdq rfl rfl ?_ ?_ ?_;kernel_rfl;kernel_rfl)|refine zB rfl rfl rfl (by repeat constructor) rfl ?_|refine zH .here rfl rfl rfl rfl ?_|refine zH (.there .here) rfl rfl rfl rfl ?_|refine zH (.there (.there .here)) rfl rfl rfl rfl ?_|refine zH (.there (.there (.there .here))) rfl rfl rfl rfl ?_|refine zH (.there (.there (.there (.there .here)))) rfl rfl rfl rfl ?_)
  refine oE (ev_alloc (cs := zStC) rfl) rfl ?_
  rintro _ _ _ _ ⟨rfl, b4, rfl, rfl⟩
  refine oN (ev_store (vs := stC (toldP x) wo wb wt) rfl rfl .agg rfl rfl (lay_all (zs := zStC) rfl) hones .here) rfl ?_
  rintro _ _ _ _ ⟨rfl, _, rfl⟩
  by_cases h1 : x.kind = 1
  · have hw : withB x = true := by unfold withB; simp [h1]
    rw [hw] at hd0
    repeat (first|refine zJ rfl rfl ?_|refine jr rfl ?_|refine jn ?_|refine zM rfl rfl ?_|(refine zC rfl rfl ?_ rfl ?_;omega)|(refine zD rfl rfl ?_ rfl ?_;omega)|(refine zP rfl ?_ rfl ?_;omega)|refine zG rfl rfl rfl rfl ?_|(refine jdq rfl rfl ?_ ?_ ?_;kernel_rfl;kernel_rfl)|refine zB rfl rfl rfl (by repeat constructor) rfl ?_|refine zH .here rfl rfl rfl rfl ?_|refine zH (.there .here) rfl rfl rfl rfl ?_|refine zH (.there (.there .here)) rfl rfl rfl rfl ?_|refine zH (.there (.there (.there .here))) rfl rfl rfl rfl ?_|refine zH (.there (.there (.there (.there .here)))) rfl rfl rfl rfl ?_)
    refine oS (ev_load_agg (cs := stC x (.slice oa x.orgs.length oc) (.slice ba x.body.length bc) (.slice ta x.tags.length tc)) rfl rfl (Rdb.ofB (n := 0) (.there .here) rfl) rfl) rfl ?_
    repeat (first|refine zJ rfl rfl ?_|refine jr rfl ?_|refine jn ?_|refine zM rfl rfl ?_|(refine zC rfl rfl ?_ rfl ?_;omega)|(refine zD rfl rfl ?_ rfl ?_;omega)|(refine zP rfl ?_ rfl ?_;omega)|refine zG rfl rfl rfl rfl ?_|(refine jdq rfl rfl ?_ ?_ ?_;kernel_rfl;kernel_rfl)|refine zB rfl rfl rfl (by repeat constructor) rfl ?_|refine zH .here rfl rfl rfl rfl ?_|refine zH (.there .here) rfl rfl rfl rfl ?_|refine zH (.there (.there .here)) rfl rfl rfl rfl ?_|refine zH (.there (.there (.there .here))) rfl rfl rfl rfl ?_|refine zH (.there (.there (.there (.there .here)))) rfl rfl rfl rfl ?_)
    refine oS (ev_load_agg (cs := stC (toldP x) wo wb wt) rfl rfl (Rdb.ofB (n := 0) .here rfl) rfl) rfl ?_
    refine oP (hsame) Tryd.call11 rfl rfl ?_
    cases hs : sameB x (toldP x) with
    | false =>
      have hd : docOk x = false := by rw [hd0, hs]; rfl
      rw [hd]
      repeat (first|refine zJ rfl rfl ?_|refine jr rfl ?_|refine jn ?_|refine zM rfl rfl ?_|(refine zC rfl rfl ?_ rfl ?_;omega)|(refine zD rfl rfl ?_ rfl ?_;omega)|(refine zP rfl ?_ rfl ?_;omega)|refine zG rfl rfl rfl rfl ?_|(refine jdq rfl rfl ?_ ?_ ?_;kernel_rfl;kernel_rfl)|refine zB rfl rfl rfl (by repeat constructor) rfl ?_|refine zH .here rfl rfl rfl rfl ?_|refine zH (.there .here) rfl rfl rfl rfl ?_|refine zH (.there (.there .here)) rfl rfl rfl rfl ?_|refine zH (.there (.there (.there .here))) rfl rfl rfl rfl ?_|refine zH (.there (.there (.there (.there .here)))) rfl rfl rfl rfl ?_)
      exact J_retv (vs := [.string (strOf []), .bool false]) rfl (.tmp rfl (.tmp rfl .nil)) [] (fun w s => s.drop.drop) hF1 ⟨rfl, rfl⟩
    | true =>
      repeat (first|refine zJ rfl rfl ?_|refine jr rfl ?_|refine jn ?_|refine zM rfl rfl ?_|(refine zC rfl rfl ?_ rfl ?_;omega)|(refine zD rfl rfl ?_ rfl ?_;omega)|(refine zP rfl ?_ rfl ?_;omega)|refine zG rfl rfl rfl rfl ?_|(refine jdq rfl rfl ?_ ?_ ?_;kernel_rfl;kernel_rfl)|refine zB rfl rfl rfl (by repeat constructor) rfl ?_|refine zH .here rfl rfl rfl rfl ?_|refine zH (.there .here) rfl rfl rfl rfl ?_|refine zH (.there (.there .here)) rfl rfl rfl rfl ?_|refine zH (.there (.there (.there .here))) rfl rfl rfl rfl ?_|refine zH (.there (.there (.there (.there .here)))) rfl rfl rfl rfl ?_)
      refine oP (dletter_spec x.core.letter F1 (by omega)) Tryd.call28 rfl rfl ?_
      cases hl : letterB x.core.letter with
      | false =>
        have hd : docOk x = false := by rw [hd0, hs, hl]; rfl
        rw [hd]
        repeat (first|refine zJ rfl rfl ?_|refine jr rfl ?_|refine jn ?_|refine zM rfl rfl ?_|(refine zC rfl rfl ?_ rfl ?_;omega)|(refine zD rfl rfl ?_ rfl ?_;omega)|(refine zP rfl ?_ rfl ?_;omega)|refine zG rfl rfl rfl rfl ?_|(refine jdq rfl rfl ?_ ?_ ?_;kernel_rfl;kernel_rfl)|refine zB rfl rfl rfl (by repeat constructor) rfl ?_|refine zH .here rfl rfl rfl rfl ?_|refine zH (.there .here) rfl rfl rfl rfl ?_|refine zH (.there (.there .here)) rfl rfl rfl rfl ?_|refine zH (.there (.there (.there .here))) rfl rfl rfl rfl ?_|refine zH (.there (.there (.there (.there .here)))) rfl rfl rfl rfl ?_)
        exact J_retv (vs := [.string (strOf []), .bool false]) rfl (.tmp rfl (.tmp rfl .nil)) [] (fun w s => s.drop.drop) hF1 ⟨rfl, rfl⟩
      | true =>
        have hd : docOk x = true := by rw [hd0, hs, hl]; rfl
        rw [hd]
        repeat (first|refine zJ rfl rfl ?_|refine jr rfl ?_|refine jn ?_|refine zM rfl rfl ?_|(refine zC rfl rfl ?_ rfl ?_;omega)|(refine zD rfl rfl ?_ rfl ?_;omega)|(refine zP rfl ?_ rfl ?_;omega)|refine zG rfl rfl rfl rfl ?_|(refine jdq rfl rfl ?_ ?_ ?_;kernel_rfl;kernel_rfl)|refine zB rfl rfl rfl (by repeat constructor) rfl ?_|refine zH .here rfl rfl rfl rfl ?_|refine zH (.there .here) rfl rfl rfl rfl ?_|refine zH (.there (.there .here)) rfl rfl rfl rfl ?_|refine zH (.there (.there (.there .here))) rfl rfl rfl rfl ?_|refine zH (.there (.there (.there (.there .here)))) rfl rfl rfl rfl ?_)
        exact J_retv (vs := [.string (strOf (lineB x)), .bool true]) rfl (.tmp rfl (.tmp rfl .nil)) [] (fun w s => s.drop.drop) hF1 ⟨rfl, rfl⟩
  by_cases h7 : x.kind = 7
  · by_cases hm : x.mk1 = 1
    · have hw : withB x = true := by unfold withB; simp [h7, hm]
      rw [hw] at hd0
      repeat (first|refine zJ rfl rfl ?_|refine jr rfl ?_|refine jn ?_|refine zM rfl rfl ?_|(refine zC rfl rfl ?_ rfl ?_;omega)|(refine zD rfl rfl ?_ rfl ?_;omega)|(refine zP rfl ?_ rfl ?_;omega)|refine zG rfl rfl rfl rfl ?_|(refine jdq rfl rfl ?_ ?_ ?_;kernel_rfl;kernel_rfl)|refine zB rfl rfl rfl (by repeat constructor) rfl ?_|refine zH .here rfl rfl rfl rfl ?_|refine zH (.there .here) rfl rfl rfl rfl ?_|refine zH (.there (.there .here)) rfl rfl rfl rfl ?_|refine zH (.there (.there (.there .here))) rfl rfl rfl rfl ?_|refine zH (.there (.there (.there (.there .here)))) rfl rfl rfl rfl ?_)
      refine oS (ev_load_agg (cs := stC x (.slice oa x.orgs.length oc) (.slice ba x.body.length bc) (.slice ta x.tags.length tc)) rfl rfl (Rdb.ofB (n := 0) (.there .here) rfl) rfl) rfl ?_
      repeat (first|refine zJ rfl rfl ?_|refine jr rfl ?_|refine jn ?_|refine zM rfl rfl ?_|(refine zC rfl rfl ?_ rfl ?_;omega)|(refine zD rfl rfl ?_ rfl ?_;omega)|(refine zP rfl ?_ rfl ?_;omega)|refine zG rfl rfl rfl rfl ?_|(refine jdq rfl rfl ?_ ?_ ?_;kernel_rfl;kernel_rfl)|refine zB rfl rfl rfl (by repeat constructor) rfl ?_|refine zH .here rfl rfl rfl rfl ?_|refine zH (.there .here) rfl rfl rfl rfl ?_|refine zH (.there (.there .here)) rfl rfl rfl rfl ?_|refine zH (.there (.there (.there .here))) rfl rfl rfl rfl ?_|refine zH (.there (.there (.there (.there .here)))) rfl rfl rfl rfl ?_)
      refine oS (ev_load_agg (cs := stC (toldP x) wo wb wt) rfl rfl (Rdb.ofB (n := 0) .here rfl) rfl) rfl ?_
      refine oP (hsame) Tryd.call11 rfl rfl ?_
      cases hs : sameB x (toldP x) with
      | false =>
        have hd : docOk x = false := by rw [hd0, hs]; rfl
        rw [hd]
        repeat (first|refine zJ rfl rfl ?_|refine jr rfl ?_|refine jn ?_|refine zM rfl rfl ?_|(refine zC rfl rfl ?_ rfl ?_;omega)|(refine zD rfl rfl ?_ rfl ?_;omega)|(refine zP rfl ?_ rfl ?_;omega)|refine zG rfl rfl rfl rfl ?_|(refine jdq rfl rfl ?_ ?_ ?_;kernel_rfl;kernel_rfl)|refine zB rfl rfl rfl (by repeat constructor) rfl ?_|refine zH .here rfl rfl rfl rfl ?_|refine zH (.there .here) rfl rfl rfl rfl ?_|refine zH (.there (.there .here)) rfl rfl rfl rfl ?_|refine zH (.there (.there (.there .here))) rfl rfl rfl rfl ?_|refine zH (.there (.there (.there (.there .here)))) rfl rfl rfl rfl ?_)
        exact J_retv (vs := [.string (strOf []), .bool false]) rfl (.tmp rfl (.tmp rfl .nil)) [] (fun w s => s.drop.drop) hF1 ⟨rfl, rfl⟩
      | true =>
        repeat (first|refine zJ rfl rfl ?_|refine jr rfl ?_|refine jn ?_|refine zM rfl rfl ?_|(refine zC rfl rfl ?_ rfl ?_;omega)|(refine zD rfl rfl ?_ rfl ?_;omega)|(refine zP rfl ?_ rfl ?_;omega)|refine zG rfl rfl rfl rfl ?_|(refine jdq rfl rfl ?_ ?_ ?_;kernel_rfl;kernel_rfl)|refine zB rfl rfl rfl (by repeat constructor) rfl ?_|refine zH .here rfl rfl rfl rfl ?_|refine zH (.there .here) rfl rfl rfl rfl ?_|refine zH (.there (.there .here)) rfl rfl rfl rfl ?_|refine zH (.there (.there (.there .here))) rfl rfl rfl rfl ?_|refine zH (.there (.there (.there (.there .here)))) rfl rfl rfl rfl ?_)
        refine oP (dletter_spec x.core.letter F1 (by omega)) Tryd.call28 rfl rfl ?_
        cases hl : letterB x.core.letter with
        | false =>
          have hd : docOk x = false := by rw [hd0, hs, hl]; rfl
          rw [hd]
          repeat (first|refine zJ rfl rfl ?_|refine jr rfl ?_|refine jn ?_|refine zM rfl rfl ?_|(refine zC rfl rfl ?_ rfl ?_;omega)|(refine zD rfl rfl ?_ rfl ?_;omega)|(refine zP rfl ?_ rfl ?_;omega)|refine zG rfl rfl rfl rfl ?_|(refine jdq rfl rfl ?_ ?_ ?_;kernel_rfl;kernel_rfl)|refine zB rfl rfl rfl (by repeat constructor) rfl ?_|refine zH .here rfl rfl rfl rfl ?_|refine zH (.there .here) rfl rfl rfl rfl ?_|refine zH (.there (.there .here)) rfl rfl rfl rfl ?_|refine zH (.there (.there (.there .here))) rfl rfl rfl rfl ?_|refine zH (.there (.there (.there (.there .here)))) rfl rfl rfl rfl ?_)
          exact J_retv (vs := [.string (strOf []), .bool false]) rfl (.tmp rfl (.tmp rfl .nil)) [] (fun w s => s.drop.drop) hF1 ⟨rfl, rfl⟩
        | true =>
          have hd : docOk x = true := by rw [hd0, hs, hl]; rfl
          rw [hd]
          repeat (first|refine zJ rfl rfl ?_|refine jr rfl ?_|refine jn ?_|refine zM rfl rfl ?_|(refine zC rfl rfl ?_ rfl ?_;omega)|(refine zD rfl rfl ?_ rfl ?_;omega)|(refine zP rfl ?_ rfl ?_;omega)|refine zG rfl rfl rfl rfl ?_|(refine jdq rfl rfl ?_ ?_ ?_;kernel_rfl;kernel_rfl)|refine zB rfl rfl rfl (by repeat constructor) rfl ?_|refine zH .here rfl rfl rfl rfl ?_|refine zH (.there .here) rfl rfl rfl rfl ?_|refine zH (.there (.there .here)) rfl rfl rfl rfl ?_|refine zH (.there (.there (.there .here))) rfl rfl rfl rfl ?_|refine zH (.there (.there (.there (.there .here)))) rfl rfl rfl rfl ?_)
          exact J_retv (vs := [.string (strOf (lineB x)), .bool true]) rfl (.tmp rfl (.tmp rfl .nil)) [] (fun w s => s.drop.drop) hF1 ⟨rfl, rfl⟩
    · have hw : withB x = false := by unfold withB; simp [h1, hm]
      rw [hw] at hd0
      repeat (first|refine zJ rfl rfl ?_|refine jr rfl ?_|refine jn ?_|refine zM rfl rfl ?_|(refine zC rfl rfl ?_ rfl ?_;omega)|(refine zD rfl rfl ?_ rfl ?_;omega)|(refine zP rfl ?_ rfl ?_;omega)|refine zG rfl rfl rfl rfl ?_|(refine jdq rfl rfl ?_ ?_ ?_;kernel_rfl;kernel_rfl)|refine zB rfl rfl rfl (by repeat constructor) rfl ?_|refine zH .here rfl rfl rfl rfl ?_|refine zH (.there .here) rfl rfl rfl rfl ?_|refine zH (.there (.there .here)) rfl rfl rfl rfl ?_|refine zH (.there (.there (.there .here))) rfl rfl rfl rfl ?_|refine zH (.there (.there (.there (.there .here)))) rfl rfl rfl rfl ?_)
      refine oS (ev_load_agg (cs := stC x (.slice oa x.orgs.length oc) (.slice ba x.body.length bc) (.slice ta x.tags.length tc)) rfl rfl (Rdb.ofB (n := 0) (.there .here) rfl) rfl) rfl ?_
      repeat (first|refine zJ rfl rfl ?_|refine jr rfl ?_|refine jn ?_|refine zM rfl rfl ?_|(refine zC rfl rfl ?_ rfl ?_;omega)|(refine zD rfl rfl ?_ rfl ?_;omega)|(refine zP rfl ?_ rfl ?_;omega)|refine zG rfl rfl rfl rfl ?_|(refine jdq rfl rfl ?_ ?_ ?_;kernel_rfl;kernel_rfl)|refine zB rfl rfl rfl (by repeat constructor) rfl ?_|refine zH .here rfl rfl rfl rfl ?_|refine zH (.there .here) rfl rfl rfl rfl ?_|refine zH (.there (.there .here)) rfl rfl rfl rfl ?_|refine zH (.there (.there (.there .here))) rfl rfl rfl rfl ?_|refine zH (.there (.there (.there (.there .here)))) rfl rfl rfl rfl ?_)
      refine oS (ev_load_agg (cs := stC (toldP x) wo wb wt) rfl rfl (Rdb.ofB (n := 0) .here rfl) rfl) rfl ?_
      refine oP (hsame) Tryd.call11 rfl rfl ?_
      cases hs : sameB x (toldP x) with
      | false =>
        have hd : docOk x = false := by rw [hd0, hs]; rfl
        rw [hd]
        repeat (first|refine zJ rfl rfl ?_|refine jr rfl ?_|refine jn ?_|refine zM rfl rfl ?_|(refine zC rfl rfl ?_ rfl ?_;omega)|(refine zD rfl rfl ?_ rfl ?_;omega)|(refine zP rfl ?_ rfl ?_;omega)|refine zG rfl rfl rfl rfl ?_|(refine jdq rfl rfl ?_ ?_ ?_;kernel_rfl;kernel_rfl)|refine zB rfl rfl rfl (by repeat constructor) rfl ?_|refine zH .here rfl rfl rfl rfl ?_|refine zH (.there .here) rfl rfl rfl rfl ?_|refine zH (.there (.there .here)) rfl rfl rfl rfl ?_|refine zH (.there (.there (.there .here))) rfl rfl rfl rfl ?_|refine zH (.there (.there (.there (.there .here)))) rfl rfl rfl rfl ?_)
        exact J_retv (vs := [.string (strOf []), .bool false]) rfl (.tmp rfl (.tmp rfl .nil)) [] (fun w s => s.drop.drop) hF1 ⟨rfl, rfl⟩
      | true =>
        have hd : docOk x = true := by rw [hd0, hs]; rfl
        rw [hd]
        repeat (first|refine zJ rfl rfl ?_|refine jr rfl ?_|refine jn ?_|refine zM rfl rfl ?_|(refine zC rfl rfl ?_ rfl ?_;omega)|(refine zD rfl rfl ?_ rfl ?_;omega)|(refine zP rfl ?_ rfl ?_;omega)|refine zG rfl rfl rfl rfl ?_|(refine jdq rfl rfl ?_ ?_ ?_;kernel_rfl;kernel_rfl)|refine zB rfl rfl rfl (by repeat constructor) rfl ?_|refine zH .here rfl rfl rfl rfl ?_|refine zH (.there .here) rfl rfl rfl rfl ?_|refine zH (.there (.there .here)) rfl rfl rfl rfl ?_|refine zH (.there (.there (.there .here))) rfl rfl rfl rfl ?_|refine zH (.there (.there (.there (.there .here)))) rfl rfl rfl rfl ?_)
        exact J_retv (vs := [.string (strOf (lineB x)), .bool true]) rfl (.tmp rfl (.tmp rfl .nil)) [] (fun w s => s.drop.drop) hF1 ⟨rfl, rfl⟩
  · have hw : withB x = false := by unfold withB; simp [h1, h7]
    rw [hw] at hd0
    repeat (first|refine zJ rfl rfl ?_|refine jr rfl ?_|refine jn ?_|refine zM rfl rfl ?_|(refine zC rfl rfl ?_ rfl ?_;omega)|(refine zD rfl rfl ?_ rfl ?_;omega)|(refine zP rfl ?_ rfl ?_;omega)|refine zG rfl rfl rfl rfl ?_|(refine jdq rfl rfl ?_ ?_ ?_;kernel_rfl;kernel_rfl)|refine zB rfl rfl rfl (by repeat constructor) rfl ?_|refine zH .here rfl rfl rfl rfl ?_|refine zH (.there .here) rfl rfl rfl rfl ?_|refine zH (.there (.there .here)) rfl rfl rfl rfl ?_|refine zH (.there (.there (.there .here))) rfl rfl rfl rfl ?_|refine zH (.there (.there (.there (.there .here)))) rfl rfl rfl rfl ?_)
    refine oS (ev_load_agg (cs := stC x (.slice oa x.orgs.length oc) (.slice ba x.body.length bc) (.slice ta x.tags.length tc)) rfl rfl (Rdb.ofB (n := 0) (.there .here) rfl) rfl) rfl ?_
    repeat (first|refine zJ rfl rfl ?_|refine jr rfl ?_|refine jn ?_|refine zM rfl rfl ?_|(refine zC rfl rfl ?_ rfl ?_;omega)|(refine zD rfl rfl ?_ rfl ?_;omega)|(refine zP rfl ?_ rfl ?_;omega)|refine zG rfl rfl rfl rfl ?_|(refine jdq rfl rfl ?_ ?_ ?_;kernel_rfl;kernel_rfl)|refine zB rfl rfl rfl (by repeat constructor) rfl ?_|refine zH .here rfl rfl rfl rfl ?_|refine zH (.there .here) rfl rfl rfl rfl ?_|refine zH (.there (.there .here)) rfl rfl rfl rfl ?_|refine zH (.there (.there (.there .here))) rfl rfl rfl rfl ?_|refine zH (.there (.there (.there (.there .here)))) rfl rfl rfl rfl ?_)
    refine oS (ev_load_agg (cs := stC (toldP x) wo wb wt) rfl rfl (Rdb.ofB (n := 0) .here rfl) rfl) rfl ?_
    refine oP (hsame) Tryd.call11 rfl rfl ?_
    cases hs : sameB x (toldP x) with
    | false =>
      have hd : docOk x = false := by rw [hd0, hs]; rfl
      rw [hd]
      repeat (first|refine zJ rfl rfl ?_|refine jr rfl ?_|refine jn ?_|refine zM rfl rfl ?_|(refine zC rfl rfl ?_ rfl ?_;omega)|(refine zD rfl rfl ?_ rfl ?_;omega)|(refine zP rfl ?_ rfl ?_;omega)|refine zG rfl rfl rfl rfl ?_|(refine jdq rfl rfl ?_ ?_ ?_;kernel_rfl;kernel_rfl)|refine zB rfl rfl rfl (by repeat constructor) rfl ?_|refine zH .here rfl rfl rfl rfl ?_|refine zH (.there .here) rfl rfl rfl rfl ?_|refine zH (.there (.there .here)) rfl rfl rfl rfl ?_|refine zH (.there (.there (.there .here))) rfl rfl rfl rfl ?_|refine zH (.there (.there (.there (.there .here)))) rfl rfl rfl rfl ?_)
      exact J_retv (vs := [.string (strOf []), .bool false]) rfl (.tmp rfl (.tmp rfl .nil)) [] (fun w s => s.drop.drop) hF1 ⟨rfl, rfl⟩
    | true =>
      have hd : docOk x = true := by rw [hd0, hs]; rfl
      rw [hd]
      repeat (first|refine zJ rfl rfl ?_|refine jr rfl ?_|refine jn ?_|refine zM rfl rfl ?_|(refine zC rfl rfl ?_ rfl ?_;omega)|(refine zD rfl rfl ?_ rfl ?_;omega)|(refine zP rfl ?_ rfl ?_;omega)|refine zG rfl rfl rfl rfl ?_|(refine jdq rfl rfl ?_ ?_ ?_;kernel_rfl;kernel_rfl)|refine zB rfl rfl rfl (by repeat constructor) rfl ?_|refine zH .here rfl rfl rfl rfl ?_|refine zH (.there .here) rfl rfl rfl rfl ?_|refine zH (.there (.there .here)) rfl rfl rfl rfl ?_|refine zH (.there (.there (.there .here))) rfl rfl rfl rfl ?_|refine zH (.there (.there (.there (.there .here)))) rfl rfl rfl rfl ?_)
      exact J_retv (vs := [.string (strOf (lineB x)), .bool true]) rfl (.tmp rfl (.tmp rfl .nil)) [] (fun w s => s.drop.drop) hF1 ⟨rfl, rfl⟩
set_option maxHeartbeats 8000000 in
theorem few_spec (x : St) (vo vb vt : Value) (F : PH) (hx : StOk F x vo vb vt) : Pure Tryd.prog 7 [.agg (stC x vo vb vt).toArray] F (.bool (decide (x.core.letter.length ≤ 100 ∧ x.core.text.length ≤ 300 ∧ x.orgs.length ≤ 20 ∧ x.body.length ≤ 500 ∧ x.tags.length ≤ 10))) := by
  obtain ⟨oa, oc, rfl, _, _⟩ := hx.orgs.at1
  obtain ⟨_, ba, bc, rfl, _, _⟩ := slice1 hx.body
  obtain ⟨ta, tc, rfl⟩ : ∃ ta tc, vt = .slice ta x.tags.length tc := by
    obtain ⟨⟨_, a, c, e, _, _⟩, _⟩ := hx.tags
    exact ⟨a, c, e⟩
  refine Spec.of1 Tryd.func7 rfl rfl fun X w0 => ?_
  have z1 := strOf_size x.core.letter
  have z2 := strOf_size x.core.text
  repeat (first|refine zJ rfl rfl ?_|refine jr rfl ?_|refine jn ?_|refine zM rfl rfl ?_|(refine zC rfl rfl ?_ rfl ?_;omega)|(refine zD rfl rfl ?_ rfl ?_;omega)|(refine zP rfl ?_ rfl ?_;omega)|refine zG rfl rfl rfl rfl ?_|(refine jdq rfl rfl ?_ ?_ ?_;kernel_rfl;kernel_rfl)|refine zB rfl rfl rfl (by repeat constructor) rfl ?_|refine zH .here rfl rfl rfl rfl ?_|refine zH (.there .here) rfl rfl rfl rfl ?_|refine zH (.there (.there .here)) rfl rfl rfl rfl ?_|refine zH (.there (.there (.there .here))) rfl rfl rfl rfl ?_|refine zH (.there (.there (.there (.there .here)))) rfl rfl rfl rfl ?_)
  refine oE (ev_box rfl .agg) rfl ?_; rintro _ _ _ _ ⟨rfl, b1, rfl, rfl⟩
  by_cases g0 : x.core.letter.length ≤ 100
  rotate_left
  · rw [decide_eq_false (fun h => g0 h.1)]
    repeat (first|refine zJ rfl rfl ?_|refine jr rfl ?_|refine jn ?_|refine zM rfl rfl ?_|(refine zC rfl rfl ?_ rfl ?_;omega)|(refine zD rfl rfl ?_ rfl ?_;omega)|(refine zP rfl ?_ rfl ?_;omega)|refine zG rfl rfl rfl rfl ?_|(refine jdq rfl rfl ?_ ?_ ?_;kernel_rfl;kernel_rfl)|refine zB rfl rfl rfl (by repeat constructor) rfl ?_|refine zH .here rfl rfl rfl rfl ?_|refine zH (.there .here) rfl rfl rfl rfl ?_|refine zH (.there (.there .here)) rfl rfl rfl rfl ?_|refine zH (.there (.there (.there .here))) rfl rfl rfl rfl ?_|refine zH (.there (.there (.there (.there .here)))) rfl rfl rfl rfl ?_)
    exact J_retv rfl (.tmp rfl .nil) [] (fun w s => s.drop) (PH.ler _) ⟨rfl, rfl⟩
  by_cases g1 : x.core.text.length ≤ 300
  rotate_left
  · rw [decide_eq_false (fun h => g1 h.2.1)]
    repeat (first|refine zJ rfl rfl ?_|refine jr rfl ?_|refine jn ?_|refine zM rfl rfl ?_|(refine zC rfl rfl ?_ rfl ?_;omega)|(refine zD rfl rfl ?_ rfl ?_;omega)|(refine zP rfl ?_ rfl ?_;omega)|refine zG rfl rfl rfl rfl ?_|(refine jdq rfl rfl ?_ ?_ ?_;kernel_rfl;kernel_rfl)|refine zB rfl rfl rfl (by repeat constructor) rfl ?_|refine zH .here rfl rfl rfl rfl ?_|refine zH (.there .here) rfl rfl rfl rfl ?_|refine zH (.there (.there .here)) rfl rfl rfl rfl ?_|refine zH (.there (.there (.there .here))) rfl rfl rfl rfl ?_|refine zH (.there (.there (.there (.there .here)))) rfl rfl rfl rfl ?_)
    exact J_retv rfl (.tmp rfl .nil) [] (fun w s => s.drop) (PH.ler _) ⟨rfl, rfl⟩
  by_cases g2 : x.orgs.length ≤ 20
  rotate_left
  · rw [decide_eq_false (fun h => g2 h.2.2.1)]
    repeat (first|refine zJ rfl rfl ?_|refine jr rfl ?_|refine jn ?_|refine zM rfl rfl ?_|(refine zC rfl rfl ?_ rfl ?_;omega)|(refine zD rfl rfl ?_ rfl ?_;omega)|(refine zP rfl ?_ rfl ?_;omega)|refine zG rfl rfl rfl rfl ?_|(refine jdq rfl rfl ?_ ?_ ?_;kernel_rfl;kernel_rfl)|refine zB rfl rfl rfl (by repeat constructor) rfl ?_|refine zH .here rfl rfl rfl rfl ?_|refine zH (.there .here) rfl rfl rfl rfl ?_|refine zH (.there (.there .here)) rfl rfl rfl rfl ?_|refine zH (.there (.there (.there .here))) rfl rfl rfl rfl ?_|refine zH (.there (.there (.there (.there .here)))) rfl rfl rfl rfl ?_)
    exact J_retv rfl (.tmp rfl .nil) [] (fun w s => s.drop) (PH.ler _) ⟨rfl, rfl⟩
  by_cases g3 : x.body.length ≤ 500
  rotate_left
  · rw [decide_eq_false (fun h => g3 h.2.2.2.1)]
    repeat (first|refine zJ rfl rfl ?_|refine jr rfl ?_|refine jn ?_|refine zM rfl rfl ?_|(refine zC rfl rfl ?_ rfl ?_;omega)|(refine zD rfl rfl ?_ rfl ?_;omega)|(refine zP rfl ?_ rfl ?_;omega)|refine zG rfl rfl rfl rfl ?_|(refine jdq rfl rfl ?_ ?_ ?_;kernel_rfl;kernel_rfl)|refine zB rfl rfl rfl (by repeat constructor) rfl ?_|refine zH .here rfl rfl rfl rfl ?_|refine zH (.there .here) rfl rfl rfl rfl ?_|refine zH (.there (.there .here)) rfl rfl rfl rfl ?_|refine zH (.there (.there (.there .here))) rfl rfl rfl rfl ?_|refine zH (.there (.there (.there (.there .here)))) rfl rfl rfl rfl ?_)
    exact J_retv rfl (.tmp rfl .nil) [] (fun w s => s.drop) (PH.ler _) ⟨rfl, rfl⟩
  by_cases g4 : x.tags.length ≤ 10
  rotate_left
  · rw [decide_eq_false (fun h => g4 h.2.2.2.2)]
    repeat (first|refine zJ rfl rfl ?_|refine jr rfl ?_|refine jn ?_|refine zM rfl rfl ?_|(refine zC rfl rfl ?_ rfl ?_;omega)|(refine zD rfl rfl ?_ rfl ?_;omega)|(refine zP rfl ?_ rfl ?_;omega)|refine zG rfl rfl rfl rfl ?_|(refine jdq rfl rfl ?_ ?_ ?_;kernel_rfl;kernel_rfl)|refine zB rfl rfl rfl (by repeat constructor) rfl ?_|refine zH .here rfl rfl rfl rfl ?_|refine zH (.there .here) rfl rfl rfl rfl ?_|refine zH (.there (.there .here)) rfl rfl rfl rfl ?_|refine zH (.there (.there (.there .here))) rfl rfl rfl rfl ?_|refine zH (.there (.there (.there (.there .here)))) rfl rfl rfl rfl ?_)
    exact J_retv rfl (.tmp rfl .nil) [] (fun w s => s.drop) (PH.ler _) ⟨rfl, rfl⟩
  rw [decide_eq_true ⟨g0, g1, g2, g3, g4⟩]
  repeat (first|refine zJ rfl rfl ?_|refine jr rfl ?_|refine jn ?_|refine zM rfl rfl ?_|(refine zC rfl rfl ?_ rfl ?_;omega)|(refine zD rfl rfl ?_ rfl ?_;omega)|(refine zP rfl ?_ rfl ?_;omega)|refine zG rfl rfl rfl rfl ?_|(refine jdq rfl rfl ?_ ?_ ?_;kernel_rfl;kernel_rfl)|refine zB rfl rfl rfl (by repeat constructor) rfl ?_|refine zH .here rfl rfl rfl rfl ?_|refine zH (.there .here) rfl rfl rfl rfl ?_|refine zH (.there (.there .here)) rfl rfl rfl rfl ?_|refine zH (.there (.there (.there .here))) rfl rfl rfl rfl ?_|refine zH (.there (.there (.there (.there .here)))) rfl rfl rfl rfl ?_)
  exact J_retv rfl (.tmp rfl .nil) [] (fun w s => s.drop) (PH.ler _) ⟨rfl, rfl⟩
end Go.Proofs.YtekdmpbkcjjllaaDoor
namespace Go.Proofs.YtekdmpbkcjjllaaDoor
open Go.RowKit
set_option maxRecDepth 100000
def sN : Ty Tryd.prog 3 Int := tyInt Tryd.underlying3
def sL : Ty Tryd.prog 2 Int := tyInt Tryd.underlying2
def sU : Ty Tryd.prog 25 Int := tyInt Tryd.underlying25
def sS : Ty Tryd.prog 9 W8 := tyStr Tryd.underlying9
def sB : Ty Tryd.prog 26 W8 := tyBytes Tryd.underlying26 Tryd.underlying5 (by kernel_rfl)
def sT : Ty Tryd.prog 66 W8 := tyArr Tryd.underlying66 Tryd.underlying5 (by kernel_rfl) (by kernel_rfl)
def sTs : Ty Tryd.prog 27 (List W8) := tySlice sT Tryd.underlying27 (by kernel_rfl) (by decide)
def sNs : Ty Tryd.prog 24 (List Int) := tySlice sN Tryd.underlying24 (by kernel_rfl) (by decide)
def sCo : Ty Tryd.prog 23 (Int × Int × Int × W8 × Int × Int × W8 × Unit) := tyStruct Tryd.underlying23 (fsCons sN (fsCons sL (fsCons sN (fsCons sS (fsCons sL (fsCons sL (fsCons sS (fsNil _) rfl (by kernel_rfl)) rfl (by kernel_rfl)) rfl (by kernel_rfl)) rfl (by kernel_rfl)) rfl (by kernel_rfl)) rfl (by kernel_rfl)) rfl (by kernel_rfl)) (by kernel_rfl)
def sMs : Ty Tryd.prog 29 (Int × Int × W8 × List W8 × Unit) := tyStruct Tryd.underlying29 (fsCons sN (fsCons sN (fsCons sB (fsCons sTs (fsNil _) rfl (by kernel_rfl)) rfl (by kernel_rfl)) rfl (by kernel_rfl)) rfl (by kernel_rfl)) (by kernel_rfl)
abbrev StX := Int × Int × Int × Int × (Int × Int × Int × W8 × Int × Int × W8 × Unit) × List Int × Int × (Int × Int × W8 × List W8 × Unit) × Unit
def sSt : Ty Tryd.prog 31 StX := tyStruct Tryd.underlying31 (fsCons sN (fsCons sN (fsCons sN (fsCons sN (fsCons sCo (fsCons sNs (fsCons sU (fsCons sMs (fsNil _) rfl (by kernel_rfl)) rfl (by kernel_rfl)) rfl (by kernel_rfl)) rfl (by kernel_rfl)) rfl (by kernel_rfl)) rfl (by kernel_rfl)) rfl (by kernel_rfl)) rfl (by kernel_rfl)) (by kernel_rfl)
theorem ini_of {n : Int} (h : InK .i64 n) : InI n := by
  simp only [InK] at h
  exact ⟨by omega, by omega⟩
theorem nums_of {F : PH} {v : Value} {l : List Int} (h : RowV sN F v l) : NumRow F v l := by
  obtain ⟨css, h1, h2⟩ := h
  have key : css.flatten = ints l ∧ ∀ n ∈ l, InI n := by
    clear h1
    induction h2 with
    | nil => exact ⟨rfl, by simp⟩
    | cons h t ih =>
      obtain ⟨rfl, hk⟩ : _ = [Value.int .i64 _] ∧ InK .i64 _ := h
      refine ⟨by rw [List.flatten_cons, ih.1]; rfl, fun n hn => ?_⟩
      rcases List.mem_cons.1 hn with rfl | hn
      · exact ini_of hk
      · exact ih.2 n hn
  rw [key.1] at h1
  exact ⟨h1, key.2⟩
theorem tags_of {F : PH} {v : Value} {l : List W8} (h : RowV sT F v l) : TagRow F v l := by
  obtain ⟨css, h1, h2⟩ := h
  have key : css = l.map u8s ∧ ∀ t ∈ l, t.length = 32 := by
    clear h1
    induction h2 with
    | nil => exact ⟨rfl, by simp⟩
    | cons h t ih =>
      obtain ⟨rfl, hk⟩ := h
      refine ⟨by rw [ih.1]; rfl, fun n hn => ?_⟩
      rcases List.mem_cons.1 hn with rfl | hn
      · exact hk
      · exact ih.2 n hn
  rw [key.1] at h1
  exact ⟨h1, key.2⟩
theorem step_of {F : PH} {x : StX} {cs : List Value} (h : sSt.rep F x cs) : ∃ (y : St) (vo vb vt : Value), cs = stC y vo vb vt ∧ StOk F y vo vb vt := by
  obtain ⟨_, _, rfl, ⟨rfl, k1⟩, _, _, rfl, ⟨rfl, k2⟩, _, _, rfl, ⟨rfl, k3⟩, _, _, rfl, ⟨rfl, k4⟩, _, _, rfl, ⟨_, _, rfl, ⟨rfl, c1⟩, _, _, rfl, ⟨rfl, c2⟩, _, _, rfl, ⟨rfl, c3⟩, _, _, rfl, ⟨rfl, c4⟩, _, _, rfl, ⟨rfl, c5⟩, _, _, rfl, ⟨rfl, c6⟩, _, _, rfl, ⟨rfl, c7⟩, rfl⟩, _, _, rfl, ⟨vo, rfl, ho⟩, _, _, rfl, ⟨rfl, k5⟩, _, _, rfl, ⟨_, _, rfl, ⟨rfl, m1⟩, _, _, rfl, ⟨rfl, m2⟩, _, _, rfl, ⟨vb, rfl, hb⟩, _, _, rfl, ⟨vt, rfl, ht⟩, rfl⟩, rfl⟩ := h
  exact ⟨⟨x.1, x.2.1, x.2.2.1, x.2.2.2.1, ⟨x.2.2.2.2.1.1, x.2.2.2.2.1.2.1, x.2.2.2.2.1.2.2.1, x.2.2.2.2.1.2.2.2.1, x.2.2.2.2.1.2.2.2.2.1, x.2.2.2.2.1.2.2.2.2.2.1, x.2.2.2.2.1.2.2.2.2.2.2.1⟩, x.2.2.2.2.2.1, x.2.2.2.2.2.2.1, x.2.2.2.2.2.2.2.1.1, x.2.2.2.2.2.2.2.1.2.1, x.2.2.2.2.2.2.2.1.2.2.1, x.2.2.2.2.2.2.2.1.2.2.2.1⟩, vo, vb, vt, rfl, ⟨ini_of k1, ini_of k2, ini_of k3, ini_of k4, ⟨ini_of c1, ini_of c2, ini_of c3, ini_of c5, ini_of c6⟩, nums_of ho, k5.1, k5.2, ini_of m1, ini_of m2, hb, tags_of ht⟩⟩
end Go.Proofs.YtekdmpbkcjjllaaDoor
