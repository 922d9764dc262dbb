/-
  Which script any text tells is what the document says, or why none (ScriptParses). No condition beyond the row's own.
-/
import Derived.Test.YtekdmpbkcjjllaaGreatDoorZp
namespace Go.Proofs.YtekdmpbkcjjllaaGreatDoor
open Go.RowKit
set_option maxRecDepth 100000
set_option maxHeartbeats 16000000 in
theorem ScriptParses_walk (t : W8) (F : PH) (hF : LibF F) (hm : t.length ≤ maxLen) : Pure Tryz.prog 3 [.string (strOf t)] F (.bool true) := by
  refine Spec.of1 Tryz.func3 rfl rfl fun X w0 => ?_
  have hsz := strOf_size t
  repeat (first|refine zJ rfl rfl ?_|refine jr rfl ?_|refine jn ?_|refine zM rfl rfl ?_|(refine zC rfl rfl ?_ rfl ?_;omega)|(refine zD rfl rfl ?_ rfl ?_;omega)|(refine zP rfl ?_ rfl ?_;omega)|refine zG rfl rfl rfl rfl ?_|(refine jdq rfl rfl ?_ ?_ ?_;kernel_rfl;kernel_rfl)|refine zB rfl rfl rfl (by repeat constructor) rfl ?_|refine zH .here rfl rfl rfl rfl ?_|refine zH (.there .here) rfl rfl rfl rfl ?_|refine zH (.there (.there .here)) rfl rfl rfl rfl ?_|refine zH (.there (.there (.there .here))) rfl rfl rfl rfl ?_|refine zH (.there (.there (.there (.there .here)))) rfl rfl rfl rfl ?_)
  refine oC (Hc := []) (Hr := X) (fixed_spec F hF) Tryz.call4 rfl rfl (fun _ s => s) ?_
  rintro _ F1 _ hF1 ⟨rfl, rfl⟩
  have hL1 := hF.mono hF1
  by_cases hlong : 1500 < t.length
  · repeat (first|refine zJ rfl rfl ?_|refine jr rfl ?_|refine jn ?_|refine zM rfl rfl ?_|(refine zC rfl rfl ?_ rfl ?_;omega)|(refine zD rfl rfl ?_ rfl ?_;omega)|(refine zP rfl ?_ rfl ?_;omega)|refine zG rfl rfl rfl rfl ?_|(refine jdq rfl rfl ?_ ?_ ?_;kernel_rfl;kernel_rfl)|refine zB rfl rfl rfl (by repeat constructor) rfl ?_|refine zH .here rfl rfl rfl rfl ?_|refine zH (.there .here) rfl rfl rfl rfl ?_|refine zH (.there (.there .here)) rfl rfl rfl rfl ?_|refine zH (.there (.there (.there .here))) rfl rfl rfl rfl ?_|refine zH (.there (.there (.there (.there .here)))) rfl rfl rfl rfl ?_)
    exact J_retv rfl (.tmp rfl .nil) [] (fun w s => s) hF1 ⟨rfl, rfl⟩
  have hcl : t.count 10 ≤ t.length := List.count_le_length
  repeat (first|refine zJ rfl rfl ?_|refine jr rfl ?_|refine jn ?_|refine zM rfl rfl ?_|(refine zC rfl rfl ?_ rfl ?_;omega)|(refine zD rfl rfl ?_ rfl ?_;omega)|(refine zP rfl ?_ rfl ?_;omega)|refine zG rfl rfl rfl rfl ?_|(refine jdq rfl rfl ?_ ?_ ?_;kernel_rfl;kernel_rfl)|refine zB rfl rfl rfl (by repeat constructor) rfl ?_|refine zH .here rfl rfl rfl rfl ?_|refine zH (.there .here) rfl rfl rfl rfl ?_|refine zH (.there (.there .here)) rfl rfl rfl rfl ?_|refine zH (.there (.there (.there .here))) rfl rfl rfl rfl ?_|refine zH (.there (.there (.there (.there .here)))) rfl rfl rfl rfl ?_)
  refine oC (Hc := []) (Hr := X) (parse_spec t (by omega) F1 hL1) Tryz.call5 rfl rfl (fun _ s => s) ?_
  rintro _ F2 _ hF2 ⟨rfl, x, vl, l, vs, e, rfl, hx, hrow, hcase⟩
  obtain ⟨lia, lic, rfl, _, _⟩ := hx.liars.at1
  repeat (first|refine zJ rfl rfl ?_|refine jr rfl ?_|refine jn ?_|refine zM rfl rfl ?_|(refine zC rfl rfl ?_ rfl ?_;omega)|(refine zD rfl rfl ?_ rfl ?_;omega)|(refine zP rfl ?_ rfl ?_;omega)|refine zG rfl rfl rfl rfl ?_|(refine jdq rfl rfl ?_ ?_ ?_;kernel_rfl;kernel_rfl)|refine zB rfl rfl rfl (by repeat constructor) rfl ?_|refine zH .here rfl rfl rfl rfl ?_|refine zH (.there .here) rfl rfl rfl rfl ?_|refine zH (.there (.there .here)) rfl rfl rfl rfl ?_|refine zH (.there (.there (.there .here))) rfl rfl rfl rfl ?_|refine zH (.there (.there (.there (.there .here)))) rfl rfl rfl rfl ?_)
  refine oE (ev_alloc (cs := suC zSu nl) rfl) rfl ?_
  rintro _ _ _ _ ⟨rfl, b3, rfl, rfl⟩
  refine oN (ev_store (vs := suC x (.slice lia x.liars.length lic)) rfl rfl .agg rfl rfl (lay_all (zs := suC zSu nl) rfl) (by unfold suC; (repeat (first | exact ones_nil | refine ones_cons rfl ?_))) .here) rfl ?_
  rintro _ _ _ _ ⟨rfl, _, rfl⟩
  repeat (first|refine zJ rfl rfl ?_|refine jr rfl ?_|refine jn ?_|refine zM rfl rfl ?_|(refine zC rfl rfl ?_ rfl ?_;omega)|(refine zD rfl rfl ?_ rfl ?_;omega)|(refine zP rfl ?_ rfl ?_;omega)|refine zG rfl rfl rfl rfl ?_|(refine jdq rfl rfl ?_ ?_ ?_;kernel_rfl;kernel_rfl)|refine zB rfl rfl rfl (by repeat constructor) rfl ?_|refine zH .here rfl rfl rfl rfl ?_|refine zH (.there .here) rfl rfl rfl rfl ?_|refine zH (.there (.there .here)) rfl rfl rfl rfl ?_|refine zH (.there (.there (.there .here))) rfl rfl rfl rfl ?_|refine zH (.there (.there (.there (.there .here)))) rfl rfl rfl rfl ?_)
  refine oC (Hc := []) (Hr := blk b3 25 (suC x (.slice lia x.liars.length lic)) :: X) (dParse_spec t (by omega) F2) Tryz.call6 rfl rfl (fun _ s => s) ?_
  rintro _ F3 _ hF3 ⟨rfl, y, wl, m, ws, f, rfl, hy, hrow2, hcase2⟩
  have hall : x = y ∧ l = m ∧ e = f ∧ (e = 0 ∨ e = 2) ∧ x.liars.length ≤ 1501 ∧ l.length ≤ 1501 ∧ ∀ z ∈ l, z.orgs.length ≤ 1501 ∧ z.tags.length ≤ 1501 := by
    rcases hcase with ⟨h, _⟩ | ⟨_, h, _⟩ | ⟨_, _, h⟩
    · omega
    · omega
    rcases h with ⟨h, rfl, rfl, rfl⟩ | ⟨h, rfl⟩
    · rw [h] at hcase2
      rcases hcase2 with ⟨_, rfl, rfl, rfl⟩ | ⟨h2, _⟩
      · exact ⟨rfl, rfl, rfl,   .inr rfl, Nat.zero_le _, Nat.zero_le _, fun z hz => by cases hz⟩
      · cases h2
    · rw [h] at hcase2
      have hlen := parseT_len h
      have hcnt := parseT_cnt h
      rcases hcase2 with ⟨h2, _⟩ | ⟨h2, rfl⟩
      · cases h2
      · obtain ⟨rfl, rfl⟩ : x = y ∧ l = m := by
          have := Option.some.inj h2
          exact ⟨congrArg Prod.fst this, congrArg Prod.snd this⟩
        exact ⟨rfl, rfl, rfl, .inl rfl, by omega, by omega, fun z hz => by have := hlen.2 z hz; omega⟩
  obtain ⟨rfl, rfl, rfl, he, hli, hln, hst⟩ := hall
  clear hcase hcase2
  obtain ⟨mia, mic, rfl, _, _⟩ := hy.liars.at1
  have hsu := dsetup_spec x x _ _ F3 (hx.mono hF3) hy (by omega) (by omega)
  rw [decide_eq_true rfl] at hsu
  obtain ⟨css, ⟨_, sa, sc, rfl, _, _⟩, _⟩ := id hrow
  obtain ⟨dss, ⟨_, ta, tc, rfl, _, _⟩, _⟩ := id hrow2
  have hc1 := hrow.cells.2
  have hc2 := hrow2.cells.2
  have hle := hF1.trans (hF2.trans hF3)
  repeat (first|refine zJ rfl rfl ?_|refine jr rfl ?_|refine jn ?_|refine zM rfl rfl ?_|(refine zC rfl rfl ?_ rfl ?_;omega)|(refine zD rfl rfl ?_ rfl ?_;omega)|(refine zP rfl ?_ rfl ?_;omega)|refine zG rfl rfl rfl rfl ?_|(refine jdq rfl rfl ?_ ?_ ?_;kernel_rfl;kernel_rfl)|refine zB rfl rfl rfl (by repeat constructor) rfl ?_|refine zH .here rfl rfl rfl rfl ?_|refine zH (.there .here) rfl rfl rfl rfl ?_|refine zH (.there (.there .here)) rfl rfl rfl rfl ?_|refine zH (.there (.there (.there .here))) rfl rfl rfl rfl ?_|refine zH (.there (.there (.there (.there .here)))) rfl rfl rfl rfl ?_)
  refine oE (ev_alloc (cs := suC zSu nl) rfl) rfl ?_
  rintro _ _ _ _ ⟨rfl, b6, rfl, rfl⟩
  refine oN (ev_store (vs := suC x (.slice mia x.liars.length mic)) rfl rfl .agg rfl rfl (lay_all (zs := suC zSu nl) rfl) (by unfold suC; (repeat (first | exact ones_nil | refine ones_cons rfl ?_))) .here) rfl ?_
  rintro _ _ _ _ ⟨rfl, _, rfl⟩
  rcases he with rfl | rfl
  all_goals
    repeat (first|refine zJ rfl rfl ?_|refine jr rfl ?_|refine jn ?_|refine zM rfl rfl ?_|(refine zC rfl rfl ?_ rfl ?_;omega)|(refine zD rfl rfl ?_ rfl ?_;omega)|(refine zP rfl ?_ rfl ?_;omega)|refine zG rfl rfl rfl rfl ?_|(refine jdq rfl rfl ?_ ?_ ?_;kernel_rfl;kernel_rfl)|refine zB rfl rfl rfl (by repeat constructor) rfl ?_|refine zH .here rfl rfl rfl rfl ?_|refine zH (.there .here) rfl rfl rfl rfl ?_|refine zH (.there (.there .here)) rfl rfl rfl rfl ?_|refine zH (.there (.there (.there .here))) rfl rfl rfl rfl ?_|refine zH (.there (.there (.there (.there .here)))) rfl rfl rfl rfl ?_)
    refine oS (ev_load_agg (cs := suC x (.slice lia x.liars.length lic)) rfl rfl (Rdb.ofB (n := 0) (.there .here) rfl) rfl) rfl ?_
    repeat (first|refine zJ rfl rfl ?_|refine jr rfl ?_|refine jn ?_|refine zM rfl rfl ?_|(refine zC rfl rfl ?_ rfl ?_;omega)|(refine zD rfl rfl ?_ rfl ?_;omega)|(refine zP rfl ?_ rfl ?_;omega)|refine zG rfl rfl rfl rfl ?_|(refine jdq rfl rfl ?_ ?_ ?_;kernel_rfl;kernel_rfl)|refine zB rfl rfl rfl (by repeat constructor) rfl ?_|refine zH .here rfl rfl rfl rfl ?_|refine zH (.there .here) rfl rfl rfl rfl ?_|refine zH (.there (.there .here)) rfl rfl rfl rfl ?_|refine zH (.there (.there (.there .here))) rfl rfl rfl rfl ?_|refine zH (.there (.there (.there (.there .here)))) rfl rfl rfl rfl ?_)
    refine oS (ev_load_agg (cs := suC x (.slice mia x.liars.length mic)) rfl rfl (Rdb.ofB (n := 0) .here rfl) rfl) rfl ?_
    refine oP (hsu) Tryz.call7 rfl rfl ?_
    repeat (first|refine zJ rfl rfl ?_|refine jr rfl ?_|refine jn ?_|refine zM rfl rfl ?_|(refine zC rfl rfl ?_ rfl ?_;omega)|(refine zD rfl rfl ?_ rfl ?_;omega)|(refine zP rfl ?_ rfl ?_;omega)|refine zG rfl rfl rfl rfl ?_|(refine jdq rfl rfl ?_ ?_ ?_;kernel_rfl;kernel_rfl)|refine zB rfl rfl rfl (by repeat constructor) rfl ?_|refine zH .here rfl rfl rfl rfl ?_|refine zH (.there .here) rfl rfl rfl rfl ?_|refine zH (.there (.there .here)) rfl rfl rfl rfl ?_|refine zH (.there (.there (.there .here))) rfl rfl rfl rfl ?_|refine zH (.there (.there (.there (.there .here)))) rfl rfl rfl rfl ?_)
    refine J_loop (ι := Nat) (fun i => i ≤ l.length) (fun i => l.length - i) (fun i => [(4, .slice sa l.length sc), (7, .slice ta l.length tc), (44, .int .i64 l.length), (45, .int .i64 i)]) (fun _ => F3) (fun _ => blk b6 25 (suC x (.slice mia x.liars.length mic)) :: blk b3 25 (suC x (.slice lia x.liars.length lic)) :: X) 0 (Nat.zero_le _) ⟨⟨rfl, rfl, rfl, rfl, trivial⟩, fun w s => s⟩ ?_
    intro i hi
    by_cases hlt : i < l.length
    · obtain ⟨z, hz⟩ : ∃ z, l[i]? = some z := ⟨_, List.getElem?_eq_getElem hlt⟩
      obtain ⟨p1, o1, vo, vb, vt, rfl, hz1, hs1⟩ := hc1 i z hz
      obtain ⟨p2, o2, wo, wb, wt, rfl, hz2, hs2⟩ := hc2 i z hz
      have hzz := hst z (List.mem_of_getElem? hz)
      have hsame := dsame_spec z z vo vb vt wo wb wt F3 (hs1.mono hF3) hs2 (by omega) (by omega) (by omega)
      rw [(sameB_iff z z).2 rfl] at hsame
      repeat (first|refine zJ rfl rfl ?_|refine jr rfl ?_|refine jn ?_|refine zM rfl rfl ?_|(refine zC rfl rfl ?_ rfl ?_;omega)|(refine zD rfl rfl ?_ rfl ?_;omega)|(refine zP rfl ?_ rfl ?_;omega)|refine zG rfl rfl rfl rfl ?_|(refine jdq rfl rfl ?_ ?_ ?_;kernel_rfl;kernel_rfl)|refine zB rfl rfl rfl (by repeat constructor) rfl ?_|refine zH .here rfl rfl rfl rfl ?_|refine zH (.there .here) rfl rfl rfl rfl ?_|refine zH (.there (.there .here)) rfl rfl rfl rfl ?_|refine zH (.there (.there (.there .here))) rfl rfl rfl rfl ?_|refine zH (.there (.there (.there (.there .here)))) rfl rfl rfl rfl ?_)
      refine jd rfl ?_ ?_ ?_; kernel_rfl; kernel_rfl
      repeat (first|refine zJ rfl rfl ?_|refine jr rfl ?_|refine jn ?_|refine zM rfl rfl ?_|(refine zC rfl rfl ?_ rfl ?_;omega)|(refine zD rfl rfl ?_ rfl ?_;omega)|(refine zP rfl ?_ rfl ?_;omega)|refine zG rfl rfl rfl rfl ?_|(refine jdq rfl rfl ?_ ?_ ?_;kernel_rfl;kernel_rfl)|refine zB rfl rfl rfl (by repeat constructor) rfl ?_|refine zH .here rfl rfl rfl rfl ?_|refine zH (.there .here) rfl rfl rfl rfl ?_|refine zH (.there (.there .here)) rfl rfl rfl rfl ?_|refine zH (.there (.there (.there .here))) rfl rfl rfl rfl ?_|refine zH (.there (.there (.there (.there .here)))) rfl rfl rfl rfl ?_)
      refine oS (ev_indexAddr rfl rfl rfl hlt) rfl ?_
      refine oS (ev_load_agg (cs := stC z vo vb vt) rfl rfl (Rdb.ofF (hz1.mono hF3)) rfl) rfl ?_
      repeat (first|refine zJ rfl rfl ?_|refine jr rfl ?_|refine jn ?_|refine zM rfl rfl ?_|(refine zC rfl rfl ?_ rfl ?_;omega)|(refine zD rfl rfl ?_ rfl ?_;omega)|(refine zP rfl ?_ rfl ?_;omega)|refine zG rfl rfl rfl rfl ?_|(refine jdq rfl rfl ?_ ?_ ?_;kernel_rfl;kernel_rfl)|refine zB rfl rfl rfl (by repeat constructor) rfl ?_|refine zH .here rfl rfl rfl rfl ?_|refine zH (.there .here) rfl rfl rfl rfl ?_|refine zH (.there (.there .here)) rfl rfl rfl rfl ?_|refine zH (.there (.there (.there .here))) rfl rfl rfl rfl ?_|refine zH (.there (.there (.there (.there .here)))) rfl rfl rfl rfl ?_)
      refine oS (ev_indexAddr rfl rfl rfl hlt) rfl ?_
      refine oS (ev_load_agg (cs := stC z wo wb wt) rfl rfl (Rdb.ofF hz2) rfl) rfl ?_
      refine oP (hsame) Tryz.call8 rfl rfl ?_
      repeat (first|refine zJ rfl rfl ?_|refine jr rfl ?_|refine jn ?_|refine zM rfl rfl ?_|(refine zC rfl rfl ?_ rfl ?_;omega)|(refine zD rfl rfl ?_ rfl ?_;omega)|(refine zP rfl ?_ rfl ?_;omega)|refine zG rfl rfl rfl rfl ?_|(refine jdq rfl rfl ?_ ?_ ?_;kernel_rfl;kernel_rfl)|refine zB rfl rfl rfl (by repeat constructor) rfl ?_|refine zH .here rfl rfl rfl rfl ?_|refine zH (.there .here) rfl rfl rfl rfl ?_|refine zH (.there (.there .here)) rfl rfl rfl rfl ?_|refine zH (.there (.there (.there .here))) rfl rfl rfl rfl ?_|refine zH (.there (.there (.there (.there .here)))) rfl rfl rfl rfl ?_)
      exact J_again (ι := Nat) (i + 1) hlt (by omega) ⟨⟨rfl, rfl, rfl, rfl, trivial⟩, fun w s => s⟩
    · obtain rfl : i = l.length := by omega
      repeat (first|refine zJ rfl rfl ?_|refine jr rfl ?_|refine jn ?_|refine zM rfl rfl ?_|(refine zC rfl rfl ?_ rfl ?_;omega)|(refine zD rfl rfl ?_ rfl ?_;omega)|(refine zP rfl ?_ rfl ?_;omega)|refine zG rfl rfl rfl rfl ?_|(refine jdq rfl rfl ?_ ?_ ?_;kernel_rfl;kernel_rfl)|refine zB rfl rfl rfl (by repeat constructor) rfl ?_|refine zH .here rfl rfl rfl rfl ?_|refine zH (.there .here) rfl rfl rfl rfl ?_|refine zH (.there (.there .here)) rfl rfl rfl rfl ?_|refine zH (.there (.there (.there .here))) rfl rfl rfl rfl ?_|refine zH (.there (.there (.there (.there .here)))) rfl rfl rfl rfl ?_)
      exact J_retv rfl (.tmp rfl .nil) [] (fun w s => s.drop.drop) hle ⟨rfl, rfl⟩
open Go.ChangeShapes Go.WideShapes Go.ChangeAt
set_option maxRecDepth 100000 in theorem ScriptParses_lifted (os : Os) (started : os.Started) (H : Type) (enc : TypeId × Value → H) : ReturnsInHanded {} Tryz.checked os 3 .any (fun w args => (Rows.scriptParsesSpec.pre enc Tryz.prog Tryz.f3 [] false w args ∧ laidMetH Tryz.prog Rows.scriptParsesRow.laid w) ∧ sizedMet enc Tryz.prog Tryz.f3 (OpenSpec.ofChange Rows.scriptParsesSpec) false w args) (Rows.scriptParsesSpec.post enc Tryz.prog Tryz.f3 false true false false) := by 
  refine returnsInHanded_of_change_and (C := Tryz.checked) (X := fun w _ => laidMetH Tryz.prog Rows.scriptParsesRow.laid w) (fun _ _ _ hh h => h.of_heap hh) own_knob started (by kernel_rfl) Tryz.func3 (ChangeSpec.witness_shaped (enc := enc) (C := Tryz.checked) (os := os) (X := fun w _ => laidMetH Tryz.prog Rows.scriptParsesRow.laid w) false (World.laidAll Tryz.prog os laidL) #[.string ⟨#[]⟩] 8 (World.laidAll_os _ _ _) (World.shaped_of_ZipB (by kernel_rfl) (by kernel_rfl)) (by kernel_rfl) (by kernel_rfl) (by kernel_rfl) (laid_met os _)) ?_; intro W base args ds gs before hval0 hW hcnd _ hL _; have hval : ∀ (j : Nat) t v, Tryz.f3.params[j]? = some t → args[j]? = some v → Value.okWide Tryz.prog W .any base t v := hval0; have hW' := hW; obtain ⟨p, q, hA0, hV, hp, hfz, hnd⟩ := hW; have hA : DataW.TrodAll enc Tryz.prog W 0 (fun _ => true) true Tryz.f3.params.toList args.toList ds p := hA0; obtain ⟨rfl, rfl⟩ := trodVars_none hV; rw [List.append_nil] at hp; have hA' := hA; rw [Tryz.params3] at hA hval
  obtain ⟨v0, vs0, d0, ds0, p0, q0, hargs, rfl, rfl, h0, r0⟩ := trodAll_cons hA; obtain ⟨rfl, rfl, rfl⟩ := trodAll_nil r0; obtain rfl : args = #[v0] := by cases args; simp_all
  obtain ⟨t, rfl, hm⟩ := open_text Tryz.underlying9 (hval 0 9 v0 rfl rfl) h0
  refine (law_walk (ScriptParses_walk t (ph W) (libF_of_laid hL) hm)).mono fun e W' ⟨he, hb⟩ => ?_
  subst he
  exact ⟨_, rfl, law_post laid_out (by kernel_rfl) rfl rfl Tryz.underlying4 hW' hA' hp rfl hb⟩
theorem ScriptParses_row : Rows.ScriptParsesSaid := OpenClaim.holds_of_wide 3 Tryz.f3 rfl rfl rfl rfl rfl rfl rfl ⟨rfl, rfl, rfl, rfl, rfl⟩ rfl rfl rfl rfl rfl (by kernel_rfl) Tryz.func3 (by kernel_rfl) (of_decide_eq_true (by kernel_rfl)) (by unfold Func.isWrapper; first | (rw [if_pos (by decide +kernel)]; kernel_rfl) | (rw [if_neg (by decide +kernel)]; exact ⟨rfl, rfl⟩)) (fun os started H enc _ => ScriptParses_lifted os started H enc)
theorem ScriptParses_holds : Rows.ScriptParsesCardSaid :=
  Claim7.holds_tied_plain_at .later [] [.data, .data, .data, .data, .sentinel, .sentinel, .pinned] true Rows.scriptParsesCard.stood.harness true
    ScriptParses_row (fun _ h => by cases h) (by kernel_rfl) (fun _ h => by cases h) scriptParses_row_tie rfl ⟨rfl, rfl⟩ (by kernel_rfl) rfl
    (fun f fn hf hfn => by
      obtain rfl : f = 3 := Option.some.inj ((show Tryz.prog.funcNamed Rows.scriptParsesRow.func = some 3 by kernel_rfl).symm.trans hf) |>.symm
      obtain rfl : fn = Tryz.f3 := (Option.some.inj (Tryz.func3.symm.trans hfn)).symm
      exact ⟨by kernel_rfl, fun j t ht => by
        rw [Tryz.params3] at ht
        have hm : t ∈ [9] := by simpa using Array.mem_of_getElem? ht
        have hall : ([9].all fun u => !Tryz.prog.wantsStandIn u) = true := by kernel_rfl
        exact (show Tryz.prog.wantsStandIn t = false by simpa using List.all_eq_true.1 hall t hm)⟩)
    (by kernel_rfl)
#print axioms ScriptParses_holds
end Go.Proofs.YtekdmpbkcjjllaaGreatDoor
