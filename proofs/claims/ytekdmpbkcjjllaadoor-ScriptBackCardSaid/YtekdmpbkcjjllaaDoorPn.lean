/-
  The program's reader of a script, walked. Conditions are typed with each.
  The program's reader of a script, walked. Conditions are typed with each.
  Whether steps are the same, in the program. Conditions are typed with each.
-/
import Derived.Test.YtekdmpbkcjjllaaDoorPk
import Derived.Test.YtekdmpbkcjjllaaDoorLg
namespace Go.Proofs.YtekdmpbkcjjllaaDoor
open Go.RowKit
set_option maxRecDepth 100000
structure Su where
  f : Int
  liars : List Int
  clients : Int
def suC (x : Su) (vl : Value) : List Value := [.int .i64 x.f, vl, .int .i64 x.clients]
def zSu : Su := ⟨0, [], 0⟩
structure SuOk (F : PH) (x : Su) (vl : Value) : Prop where
  f : InI x.f
  clients : InI x.clients
  liars : NumRow F vl x.liars
theorem SuOk.mono {F G : PH} {x : Su} {vl : Value} (h : SuOk F x vl) (hl : F.le G) : SuOk G x vl := ⟨h.f, h.clients, h.liars.mono hl⟩
theorem zSu_ok (F : PH) : SuOk F zSu nl := ⟨inI0, inI0, NumRow.nil F⟩
noncomputable def firstN (r : List W8) : Option Su := (tk1 numW r).bind fun f => (tk1 numW (r.drop 1)).bind fun c => (allW numW (r.drop 2)).map fun l => ⟨f, l, c⟩
noncomputable def firstR (ws : List W8) : Option Su := if ws.headD [] = wCluster then firstN ws.tail else none
set_option maxHeartbeats 8000000 in
theorem first_spec (t : W8) (ht : t.length ≤ 2000000) (F : PH) (hF : LibF F) : Spec Tryd.prog 45 [.string (strOf t)] F [] fun u F' H' => H' = [] ∧ ∃ x vl ok, u = .tuple #[.agg (suC x vl).toArray, .bool ok] ∧ SuOk F' x vl ∧ ((ok = true ∧ firstR (splW 32 t) = some x) ∨ (ok = false ∧ firstR (splW 32 t) = none)) := by
  refine Spec.of1 Tryd.func45 rfl rfl fun X w0 => ?_
  have hm := splW_mem 32 t
  have hl := splW_len_le 32 t
  have hne := splW_ne 32 t
  repeat (first|refine zJ rfl rfl ?_|refine jr rfl ?_|refine jn ?_|refine zM rfl rfl ?_|(refine zC rfl rfl ?_ rfl ?_;omega)|(refine zD rfl rfl ?_ rfl ?_;omega)|(refine zP rfl ?_ rfl ?_;omega)|refine zG rfl rfl rfl rfl ?_|(refine jdq rfl rfl ?_ ?_ ?_;kernel_rfl;kernel_rfl)|refine zB rfl rfl rfl (by repeat constructor) rfl ?_|refine zH .here rfl rfl rfl rfl ?_|refine zH (.there .here) rfl rfl rfl rfl ?_|refine zH (.there (.there .here)) rfl rfl rfl rfl ?_|refine zH (.there (.there (.there .here))) rfl rfl rfl rfl ?_|refine zH (.there (.there (.there (.there .here)))) rfl rfl rfl rfl ?_)
  refine oE (ev_alloc (cs := suC zSu nl) rfl) rfl ?_
  rintro _ _ _ _ ⟨rfl, b2, rfl, rfl⟩
  repeat (first|refine zJ rfl rfl ?_|refine jr rfl ?_|refine jn ?_|refine zM rfl rfl ?_|(refine zC rfl rfl ?_ rfl ?_;omega)|(refine zD rfl rfl ?_ rfl ?_;omega)|(refine zP rfl ?_ rfl ?_;omega)|refine zG rfl rfl rfl rfl ?_|(refine jdq rfl rfl ?_ ?_ ?_;kernel_rfl;kernel_rfl)|refine zB rfl rfl rfl (by repeat constructor) rfl ?_|refine zH .here rfl rfl rfl rfl ?_|refine zH (.there .here) rfl rfl rfl rfl ?_|refine zH (.there (.there .here)) rfl rfl rfl rfl ?_|refine zH (.there (.there (.there .here))) rfl rfl rfl rfl ?_|refine zH (.there (.there (.there (.there .here)))) rfl rfl rfl rfl ?_)
  refine oC (Hc := []) (Hr := _ :: X) (split_spec t 32 (by omega) F) Tryd.call29 rfl rfl (fun _ s => s) ?_
  rintro _ F0 _ hF0 ⟨bs, rfl, rfl⟩
  generalize splW 32 t = ws at *
  refine oPersist fun hh hA hd => ?_
  have hrow := WRow.of_blk hA hd (fun w hw => Nat.le_trans (hm w hw) ht)
  have hF1 := hF0.trans (PH.le_l F0 hh)
  generalize F0.un hh = F1 at *
  repeat (first|refine zJ rfl rfl ?_|refine jr rfl ?_|refine jn ?_|refine zM rfl rfl ?_|(refine zC rfl rfl ?_ rfl ?_;omega)|(refine zD rfl rfl ?_ rfl ?_;omega)|(refine zP rfl ?_ rfl ?_;omega)|refine zG rfl rfl rfl rfl ?_|(refine jdq rfl rfl ?_ ?_ ?_;kernel_rfl;kernel_rfl)|refine zB rfl rfl rfl (by repeat constructor) rfl ?_|refine zH .here rfl rfl rfl rfl ?_|refine zH (.there .here) rfl rfl rfl rfl ?_|refine zH (.there (.there .here)) rfl rfl rfl rfl ?_|refine zH (.there (.there (.there .here))) rfl rfl rfl rfl ?_|refine zH (.there (.there (.there (.there .here)))) rfl rfl rfl rfl ?_)
  refine oE (ev_box rfl .agg) rfl ?_; rintro _ _ _ _ ⟨rfl, b, rfl, rfl⟩
  repeat (first|refine zJ rfl rfl ?_|refine jr rfl ?_|refine jn ?_|refine zM rfl rfl ?_|(refine zC rfl rfl ?_ rfl ?_;omega)|(refine zD rfl rfl ?_ rfl ?_;omega)|(refine zP rfl ?_ rfl ?_;omega)|refine zG rfl rfl rfl rfl ?_|(refine jdq rfl rfl ?_ ?_ ?_;kernel_rfl;kernel_rfl)|refine zB rfl rfl rfl (by repeat constructor) rfl ?_|refine zH .here rfl rfl rfl rfl ?_|refine zH (.there .here) rfl rfl rfl rfl ?_|refine zH (.there (.there .here)) rfl rfl rfl rfl ?_|refine zH (.there (.there (.there .here))) rfl rfl rfl rfl ?_|refine zH (.there (.there (.there (.there .here)))) rfl rfl rfl rfl ?_)
  refine oC (Hc := [wd b (.slice (some ⟨bs, 0, none⟩) ws.length ws.length) false]) (Hr := _ :: X) (next_spec b _ ws false F1 hrow) Tryd.call30 rfl rfl (fun _ s => s) ?_
  rintro _ F2 _ hF2 ⟨v2, rfl, rfl, hv2⟩
  have hL2 := (hF.mono hF1).mono hF2
  have hem : (false || ws.isEmpty) = false := by cases ws <;> simp_all
  rw [hem]
  by_cases hc : ws.headD [] = wCluster
  · have hP : firstR ws = firstN ws.tail := if_pos hc
    have hRl : ws.tail.length ≤ 2000001 := by rw [List.length_tail]; omega
    generalize ws.tail = R at *
    refine oS (ev_sneq (cs := wCluster) (r := false) rfl rfl (by rw [hc]; rfl)) rfl ?_
    repeat (first|refine zJ rfl rfl ?_|refine jr rfl ?_|refine jn ?_|refine zM rfl rfl ?_|(refine zC rfl rfl ?_ rfl ?_;omega)|(refine zD rfl rfl ?_ rfl ?_;omega)|(refine zP rfl ?_ rfl ?_;omega)|refine zG rfl rfl rfl rfl ?_|(refine jdq rfl rfl ?_ ?_ ?_;kernel_rfl;kernel_rfl)|refine zB rfl rfl rfl (by repeat constructor) rfl ?_|refine zH .here rfl rfl rfl rfl ?_|refine zH (.there .here) rfl rfl rfl rfl ?_|refine zH (.there (.there .here)) rfl rfl rfl rfl ?_|refine zH (.there (.there (.there .here))) rfl rfl rfl rfl ?_|refine zH (.there (.there (.there (.there .here)))) rfl rfl rfl rfl ?_)
    refine oC (Hc := [wd b v2 false]) (Hr := _ :: X) (int_spec b v2 R false F2 hL2 hv2) Tryd.call32 rfl rfl (fun _ s => s) ?_
    rintro _ G1 _ hG1 ⟨f, v4, odd4, ⟨rfl, hf⟩, rfl, hv4, r1⟩
    rw [tail_1] at hv4
    have hM1 := hL2.mono hG1
    repeat (first|refine zJ rfl rfl ?_|refine jr rfl ?_|refine jn ?_|refine zM rfl rfl ?_|(refine zC rfl rfl ?_ rfl ?_;omega)|(refine zD rfl rfl ?_ rfl ?_;omega)|(refine zP rfl ?_ rfl ?_;omega)|refine zG rfl rfl rfl rfl ?_|(refine jdq rfl rfl ?_ ?_ ?_;kernel_rfl;kernel_rfl)|refine zB rfl rfl rfl (by repeat constructor) rfl ?_|refine zH .here rfl rfl rfl rfl ?_|refine zH (.there .here) rfl rfl rfl rfl ?_|refine zH (.there (.there .here)) rfl rfl rfl rfl ?_|refine zH (.there (.there (.there .here))) rfl rfl rfl rfl ?_|refine zH (.there (.there (.there (.there .here)))) rfl rfl rfl rfl ?_)
    refine oC (Hc := [wd b v4 odd4]) (Hr := _ :: X) (int_spec b v4 _ odd4 G1 hM1 hv4) Tryd.call32 rfl rfl (fun _ s => s) ?_
    rintro _ G2 _ hG2 ⟨cl, v5, odd5, ⟨rfl, hcl⟩, rfl, hv5, r2⟩
    rw [tail_d] at hv5
    have hM2 := hM1.mono hG2
    repeat (first|refine zJ rfl rfl ?_|refine jr rfl ?_|refine jn ?_|refine zM rfl rfl ?_|(refine zC rfl rfl ?_ rfl ?_;omega)|(refine zD rfl rfl ?_ rfl ?_;omega)|(refine zP rfl ?_ rfl ?_;omega)|refine zG rfl rfl rfl rfl ?_|(refine jdq rfl rfl ?_ ?_ ?_;kernel_rfl;kernel_rfl)|refine zB rfl rfl rfl (by repeat constructor) rfl ?_|refine zH .here rfl rfl rfl rfl ?_|refine zH (.there .here) rfl rfl rfl rfl ?_|refine zH (.there (.there .here)) rfl rfl rfl rfl ?_|refine zH (.there (.there (.there .here))) rfl rfl rfl rfl ?_|refine zH (.there (.there (.there (.there .here)))) rfl rfl rfl rfl ?_)
    refine oE (ev_alloc (cs := suC zSu nl) rfl) rfl ?_
    rintro _ _ _ _ ⟨rfl, b5, rfl, rfl⟩
    refine oN (ev_store (vs := suC ⟨f, [], cl⟩ nl) rfl rfl .agg rfl rfl (lay_all (zs := suC zSu nl) rfl) (by unfold suC; (repeat (first | exact ones_nil | refine ones_cons rfl ?_))) .here) rfl ?_
    rintro _ _ _ _ ⟨rfl, _, rfl⟩
    repeat (first|refine zJ rfl rfl ?_|refine jr rfl ?_|refine jn ?_|refine zM rfl rfl ?_|(refine zC rfl rfl ?_ rfl ?_;omega)|(refine zD rfl rfl ?_ rfl ?_;omega)|(refine zP rfl ?_ rfl ?_;omega)|refine zG rfl rfl rfl rfl ?_|(refine jdq rfl rfl ?_ ?_ ?_;kernel_rfl;kernel_rfl)|refine zB rfl rfl rfl (by repeat constructor) rfl ?_|refine zH .here rfl rfl rfl rfl ?_|refine zH (.there .here) rfl rfl rfl rfl ?_|refine zH (.there (.there .here)) rfl rfl rfl rfl ?_|refine zH (.there (.there (.there .here))) rfl rfl rfl rfl ?_|refine zH (.there (.there (.there (.there .here)))) rfl rfl rfl rfl ?_)
    refine oC (Hc := [wd b v5 odd5]) (Hr := _ :: _ :: X) (rints_spec b v5 _ odd5 G2 hM2 hv5 (by rw [List.length_drop]; omega)) Tryd.call34 rfl rfl (fun _ s => s.pick (.there .here)) ?_
    rintro vo G3 _ hG3 ⟨os, v6, odd6, ws6, hos, rfl, hv6, r3⟩
    obtain ⟨_, oa, oc, rfl, _, _⟩ := slice1 hos.1
    repeat (first|refine zJ rfl rfl ?_|refine jr rfl ?_|refine jn ?_|refine zM rfl rfl ?_|(refine zC rfl rfl ?_ rfl ?_;omega)|(refine zD rfl rfl ?_ rfl ?_;omega)|(refine zP rfl ?_ rfl ?_;omega)|refine zG rfl rfl rfl rfl ?_|(refine jdq rfl rfl ?_ ?_ ?_;kernel_rfl;kernel_rfl)|refine zB rfl rfl rfl (by repeat constructor) rfl ?_|refine zH .here rfl rfl rfl rfl ?_|refine zH (.there .here) rfl rfl rfl rfl ?_|refine zH (.there (.there .here)) rfl rfl rfl rfl ?_|refine zH (.there (.there (.there .here))) rfl rfl rfl rfl ?_|refine zH (.there (.there (.there (.there .here)))) rfl rfl rfl rfl ?_)
    refine oN (ev_store rfl rfl .slice rfl rfl (.skip (.put .nil)) (ones_cons rfl ones_nil) (.there .here)) rfl ?_
    rintro _ _ _ _ ⟨rfl, _, rfl⟩
    repeat (first|refine zJ rfl rfl ?_|refine jr rfl ?_|refine jn ?_|refine zM rfl rfl ?_|(refine zC rfl rfl ?_ rfl ?_;omega)|(refine zD rfl rfl ?_ rfl ?_;omega)|(refine zP rfl ?_ rfl ?_;omega)|refine zG rfl rfl rfl rfl ?_|(refine jdq rfl rfl ?_ ?_ ?_;kernel_rfl;kernel_rfl)|refine zB rfl rfl rfl (by repeat constructor) rfl ?_|refine zH .here rfl rfl rfl rfl ?_|refine zH (.there .here) rfl rfl rfl rfl ?_|refine zH (.there (.there .here)) rfl rfl rfl rfl ?_|refine zH (.there (.there (.there .here))) rfl rfl rfl rfl ?_|refine zH (.there (.there (.there (.there .here)))) rfl rfl rfl rfl ?_)
    show J _ _ _ _ (blk b 74 [v6, .bool odd6] :: blk b5 41 (suC ⟨f, os, cl⟩ (.slice oa os.length oc)) :: blk b2 41 (suC zSu nl) :: X)
    refine ja G3 [blk b 74 [v6, .bool odd6], blk b5 41 (suC ⟨f, os, cl⟩ (.slice oa os.length oc))] ?_ ?_ ?_; kernel_rfl
    · exact fun w s => Sat.left (A := [_, _]) s
    refine aT 0 rfl (ev_load_agg (cs := suC ⟨f, os, cl⟩ (.slice oa os.length oc)) rfl rfl (Rdb.ofB (n := 0) (.there .here) rfl) rfl) rfl rfl ?_ ?_ ?_ ?_; kernel_rfl; kernel_rfl; kernel_rfl
    refine aT 1 rfl (ev_qe rfl) rfl rfl ?_ ?_ ?_ ?_; kernel_rfl; kernel_rfl; kernel_rfl
    refine aT 2 rfl (ev_qe rfl) rfl rfl ?_ ?_ ?_ ?_; kernel_rfl; kernel_rfl; kernel_rfl
    refine aT 3 rfl (ev_qe rfl) rfl rfl ?_ ?_ ?_ ?_; kernel_rfl; kernel_rfl; kernel_rfl
    refine aT 4 rfl (ev_load (v := .bool odd6) rfl rfl (Rdb.ofB (n := 0) .here rfl)) rfl rfl ?_ ?_ ?_ ?_; kernel_rfl; kernel_rfl; kernel_rfl
    refine aT 5 rfl (ev_qe rfl) rfl rfl ?_ ?_ ?_ ?_; kernel_rfl; kernel_rfl; kernel_rfl
    refine aB (i := 6) (by kernel_rfl) (aN rfl (ev_store rfl rfl .agg rfl rfl (lay_all (zs := suC zSu nl) rfl) (by unfold suC; (repeat (first | exact ones_nil | refine ones_cons rfl ?_))) (.there (.there .here))) rfl (fun _ _ _ _ hq w s => by obtain ⟨rfl, _, rfl⟩ := hq; exact Sat.left (A := [_, _]) s) ?_)
    rintro _ _ _ _ ⟨rfl, _, rfl⟩
    refine aT 7 rfl (ev_qe rfl) rfl rfl ?_ ?_ ?_ ?_; kernel_rfl; kernel_rfl; kernel_rfl
    refine aD (by kernel_rfl) ?_
    repeat (first|refine zJ rfl rfl ?_|refine jr rfl ?_|refine jn ?_|refine zM rfl rfl ?_|(refine zC rfl rfl ?_ rfl ?_;omega)|(refine zD rfl rfl ?_ rfl ?_;omega)|(refine zP rfl ?_ rfl ?_;omega)|refine zG rfl rfl rfl rfl ?_|(refine jdq rfl rfl ?_ ?_ ?_;kernel_rfl;kernel_rfl)|refine zB rfl rfl rfl (by repeat constructor) rfl ?_|refine zH .here rfl rfl rfl rfl ?_|refine zH (.there .here) rfl rfl rfl rfl ?_|refine zH (.there (.there .here)) rfl rfl rfl rfl ?_|refine zH (.there (.there (.there .here))) rfl rfl rfl rfl ?_|refine zH (.there (.there (.there (.there .here)))) rfl rfl rfl rfl ?_)
    have hE : RdE false (firstN R) ⟨f, os, cl⟩ ws6 odd6 := r1.bindE (r2.bindE (r3.e.map fun l => (⟨f, l, cl⟩ : Su)))
    refine J_retv (vs := [.agg (suC ⟨f, os, cl⟩ (.slice oa os.length oc)).toArray, .bool (!odd6)]) rfl (.agg rfl rfl (Rdb.ofB (n := 0) (.there (.there .here)) rfl) rfl (.tmp rfl .nil)) [] (fun w s => s.drop.drop.drop) (hF1.trans (hF2.trans (hG1.trans (hG2.trans hG3)))) ⟨rfl, ⟨f, os, cl⟩, _, !odd6, rfl, ⟨hf, hcl, hos⟩, ?_⟩
    rw [hP]
    cases odd6 with
    | false => exact .inl ⟨rfl, (hE.1 rfl).2.2⟩
    | true =>
      refine .inr ⟨rfl, ?_⟩
      cases e : firstN R with
      | none => rfl
      | some y => exact absurd (hE.2 rfl (by rw [e]; simp)) (by simp)
  · have hP : firstR ws = none := if_neg hc
    refine oS (ev_sneq (cs := wCluster) (r := true) rfl rfl (by simp only [Bool.not_true, decide_eq_false_iff_not]; exact hc)) rfl ?_
    repeat (first|refine zJ rfl rfl ?_|refine jr rfl ?_|refine jn ?_|refine zM rfl rfl ?_|(refine zC rfl rfl ?_ rfl ?_;omega)|(refine zD rfl rfl ?_ rfl ?_;omega)|(refine zP rfl ?_ rfl ?_;omega)|refine zG rfl rfl rfl rfl ?_|(refine jdq rfl rfl ?_ ?_ ?_;kernel_rfl;kernel_rfl)|refine zB rfl rfl rfl (by repeat constructor) rfl ?_|refine zH .here rfl rfl rfl rfl ?_|refine zH (.there .here) rfl rfl rfl rfl ?_|refine zH (.there (.there .here)) rfl rfl rfl rfl ?_|refine zH (.there (.there (.there .here))) rfl rfl rfl rfl ?_|refine zH (.there (.there (.there (.there .here)))) rfl rfl rfl rfl ?_)
    refine oN (ev_store (vs := suC zSu nl) rfl rfl .agg rfl rfl (lay_all (zs := suC zSu nl) rfl) (by unfold suC nl; (repeat (first | exact ones_nil | refine ones_cons rfl ?_))) (.there .here)) rfl ?_
    rintro _ _ _ _ ⟨rfl, _, rfl⟩
    repeat (first|refine zJ rfl rfl ?_|refine jr rfl ?_|refine jn ?_|refine zM rfl rfl ?_|(refine zC rfl rfl ?_ rfl ?_;omega)|(refine zD rfl rfl ?_ rfl ?_;omega)|(refine zP rfl ?_ rfl ?_;omega)|refine zG rfl rfl rfl rfl ?_|(refine jdq rfl rfl ?_ ?_ ?_;kernel_rfl;kernel_rfl)|refine zB rfl rfl rfl (by repeat constructor) rfl ?_|refine zH .here rfl rfl rfl rfl ?_|refine zH (.there .here) rfl rfl rfl rfl ?_|refine zH (.there (.there .here)) rfl rfl rfl rfl ?_|refine zH (.there (.there (.there .here))) rfl rfl rfl rfl ?_|refine zH (.there (.there (.there (.there .here)))) rfl rfl rfl rfl ?_)
    exact J_retv (vs := [.agg (suC zSu nl).toArray, .bool false]) rfl (.agg rfl rfl (Rdb.ofB (n := 0) (.there .here) rfl) rfl (.tmp rfl .nil)) [] (fun w s => s.drop.drop) (hF1.trans hF2) ⟨rfl, zSu, nl, false, rfl, zSu_ok F2, .inr ⟨rfl, hP⟩⟩
/-! ### lines -/
theorem splA_at (c : UInt8) : ∀ (s : W8) (i : Nat), (splA c s)[i]? = if i + 1 < (splW c s).length then ((splW c s)[i]?).map (· ++ [c]) else (splW c s)[i]?
  | [], i => by simp [splA, splW]
  | b :: r, i => by
    have ih := splA_at c r
    have hl := splW_len c r
    have hla := splA_len c r
    unfold splA splW
    by_cases h : b = c
    · rw [if_pos h, if_pos h]
      cases i with
      | zero => simp [hl, h]
      | succ i =>
        have := ih i
        simp only [List.getElem?_cons_succ, List.length_cons]
        rw [this]
        by_cases h2 : i + 1 < (splW c r).length
        · rw [if_pos h2, if_pos (by omega)]
        · rw [if_neg h2, if_neg (by omega)]
    · rw [if_neg h, if_neg h]
      cases eA : splA c r with
      | nil => exact absurd eA (splA_ne c r)
      | cons a ar =>
        cases eW : splW c r with
        | nil => exact absurd eW (splW_ne c r)
        | cons w ws =>
          rw [eA, eW] at ih
          dsimp only
          cases i with
          | zero =>
            have h0 := ih 0
            simp only [List.getElem?_cons_zero, List.length_cons, Option.map_some] at h0 ⊢
            split at h0
            · rename_i h2
              rw [if_pos h2]
              injection h0 with h0
              rw [h0]
              simp
            · rename_i h2
              rw [if_neg h2]
              injection h0 with h0
              rw [h0]
          | succ i =>
            have h1 := ih (i + 1)
            simpa using h1
theorem splW_no (c : UInt8) : ∀ (s : W8), ∀ w ∈ splW c s, c ∉ w
  | [], w, h => by simp [splW] at h; subst h; simp
  | b :: r, w, h => by
    have ih := splW_no c r
    unfold splW at h
    split at h
    · rcases List.mem_cons.1 h with rfl | h
      · simp
      · exact ih w h
    · rename_i hb
      cases e : splW c r with
      | nil => exact absurd e (splW_ne c r)
      | cons w1 ws1 =>
        rw [e] at h ih
        rcases List.mem_cons.1 h with rfl | h
        · intro hc
          rcases List.mem_cons.1 hc with rfl | hc
          · exact hb rfl
          · exact ih w1 (by simp) hc
        · exact ih w (by simp [h])
theorem trim_yes (w : W8) (c : UInt8) : Lib.trimSuffix (w ++ [c]) [c] = w := by
  unfold Lib.trimSuffix Lib.hasSuffix
  rw [if_pos (List.isSuffixOf_iff_suffix.2 (List.suffix_append w [c]))]
  simp
theorem trim_no {w : W8} {c : UInt8} (h : c ∉ w) : Lib.trimSuffix w [c] = w := by
  unfold Lib.trimSuffix Lib.hasSuffix
  rw [if_neg]
  intro hs
  obtain ⟨t, rfl⟩ := List.isSuffixOf_iff_suffix.1 hs
  exact h (by simp)
theorem trim_at {c : UInt8} {s : W8} {i : Nat} {w : W8} (h : (splA c s)[i]? = some w) : (splW c s)[i]? = some (Lib.trimSuffix w [c]) := by
  rw [splA_at] at h
  split at h
  · cases e : (splW c s)[i]? with
    | none => rw [e] at h; cases h
    | some v =>
      rw [e] at h
      simp only [Option.map_some, Option.some.injEq] at h
      rw [← h, trim_yes]
  · rw [h, trim_no (splW_no c s w (List.mem_of_getElem? h))]
theorem splA_mem (c : UInt8) (s : W8) : ∀ w ∈ splA c s, w.length ≤ s.length + 1 := fun w hw => by
  obtain ⟨i, hi⟩ := List.mem_iff_getElem?.1 hw
  rw [splA_at] at hi
  split at hi
  · cases e : (splW c s)[i]? with
    | none => rw [e] at hi; cases hi
    | some v =>
      rw [e] at hi
      simp only [Option.map_some, Option.some.injEq] at hi
      have := splW_mem c s v (List.mem_of_getElem? e)
      rw [← hi, List.length_append, List.length_singleton]
      omega
  · have := splW_mem c s w (List.mem_of_getElem? hi)
    omega
/-- Steps, one behind the other. -/
noncomputable def parseAll : List W8 → Option (List St)
  | [] => some []
  | t :: r => (parseP (splW 32 t)).bind fun x => (parseAll r).map fun l => x :: l
/-- What a script's text tells. -/
noncomputable def parseT (t : W8) : Option (Su × List St) := if 2 ≤ (splW 10 t).length ∧ (splW 10 t).getLast? = some [] then (firstR (splW 32 ((splW 10 t).headD []))).bind fun x => (parseAll ((splW 10 t).tail.dropLast)).map fun l => (x, l) else none
def StRow (F : PH) (v : Value) (l : List St) : Prop := ∃ css : List (List Value), SliceV F 17 v l.length css.flatten ∧ All2 (fun y c => ∃ vo vb vt, c = stC y vo vb vt ∧ StOk F y vo vb vt ∧ y.core.letter.length ≤ 2000000) l css
end Go.Proofs.YtekdmpbkcjjllaaDoor
namespace Go.Proofs.YtekdmpbkcjjllaaDoor
open Go.RowKit
set_option maxRecDepth 100000
theorem stC_len (x : St) (vo vb vt : Value) : (stC x vo vb vt).length = 17 := rfl
theorem elSt : Elem Tryd.prog 42 31 17 200 (.agg zStC.toArray) := ⟨rfl, ⟨_, rfl, rfl, rfl, rfl, rfl, by decide⟩, rfl, rfl⟩
theorem StOk.ones {F : PH} {x : St} {vo vb vt : Value} (h : StOk F x vo vb vt) : Ones (stC x vo vb vt) := by
  obtain ⟨_, oa, oc, rfl, _, _⟩ := slice1 h.orgs.1
  obtain ⟨_, ab, cb, rfl, _, _⟩ := slice1 h.body
  obtain ⟨ta, tc, rfl⟩ : ∃ ta tc, vt = .slice ta x.tags.length tc := by
    obtain ⟨⟨_, a, c, e, _, _⟩, _⟩ := h.tags
    exact ⟨a, c, e⟩
  unfold stC
  (repeat (first | exact ones_nil | refine ones_cons rfl ?_))
def StCell (F : PH) (y : St) (c : List Value) : Prop := ∃ vo vb vt, c = stC y vo vb vt ∧ StOk F y vo vb vt ∧ y.core.letter.length ≤ 2000000
theorem StCell.mono {F G : PH} {y : St} {c : List Value} (h : StCell F y c) (hl : F.le G) : StCell G y c := by
  obtain ⟨vo, vb, vt, e, h1, h2⟩ := h
  exact ⟨vo, vb, vt, e, h1.mono hl, h2⟩
theorem All2.snoc1 {α β : Type} {R : α → β → Prop} {xs : List α} {ys : List β} {x : α} {y : β} (h : All2 R xs ys) (h1 : R x y) : All2 R (xs ++ [x]) (ys ++ [y]) := by
  induction h with
  | nil => exact .cons h1 .nil
  | cons h _ ih => exact .cons h ih
theorem parseAll_cons (t : W8) (r : List W8) : parseAll (t :: r) = (parseP (splW 32 t)).bind fun x => (parseAll r).map fun l => x :: l := rfl
theorem parseAll_snoc : ∀ (K : List W8) (t : W8), parseAll (K ++ [t]) = (parseAll K).bind fun l => (parseP (splW 32 t)).map fun x => l ++ [x]
  | [], t => by
    rw [List.nil_append, parseAll_cons]
    cases parseP (splW 32 t) <;> simp [parseAll]
  | k :: K, t => by
    rw [List.cons_append, parseAll_cons, parseAll_cons, parseAll_snoc K t]
    cases parseP (splW 32 k) with
    | none => rfl
    | some x =>
      cases parseAll K with
      | none => rfl
      | some l => cases parseP (splW 32 t) <;> simp
theorem parseAll_bad : ∀ (K : List W8) (j : Nat) (t : W8), K[j]? = some t → parseP (splW 32 t) = none → parseAll K = none
  | [], j, t, h, _ => by simp at h
  | k :: K, 0, t, h, h2 => by
    simp at h; subst h
    rw [parseAll_cons, h2]; rfl
  | k :: K, j + 1, t, h, h2 => by
    rw [parseAll_cons, parseAll_bad K j t (by simpa using h) h2]
    cases parseP (splW 32 k) <;> rfl
/-- What Parse hands back. -/
def ParseQ (t : W8) (u : Value) (F' : PH) : Prop := ∃ x vl l vs e, u = .tuple #[.agg (suC x vl).toArray, vs, .int .i64 e] ∧ SuOk F' x vl ∧ StRow F' vs l ∧
  ((t.length > 1048576 ∧ e = 3 ∧ x = zSu ∧ l = []) ∨ (t.length ≤ 1048576 ∧ 4097 < t.count 10 ∧ e = 4 ∧ x = zSu ∧ l = []) ∨
   (t.length ≤ 1048576 ∧ t.count 10 ≤ 4097 ∧ ((parseT t = none ∧ e = 2 ∧ x = zSu ∧ l = []) ∨ (parseT t = some (x, l) ∧ e = 0))))
theorem StRow.nil (F : PH) : StRow F nl [] := ⟨[], SliceV.nil F 17, .nil⟩
set_option maxHeartbeats 32000000 in
theorem parse_spec (t : W8) (ht : t.length ≤ 1900000) (F : PH) (hF : LibF F) : Spec Tryd.prog 15 [.string (strOf t)] F [] fun u F' H' => H' = [] ∧ ParseQ t u F' := by
  refine Spec.of1 Tryd.func15 rfl rfl fun X w0 => ?_
  have hsz := strOf_size t
  have hcl : t.count 10 ≤ t.length := List.count_le_length
  repeat (first|refine zJ rfl rfl ?_|refine jr rfl ?_|refine jn ?_|refine zM rfl rfl ?_|(refine zC rfl rfl ?_ rfl ?_;omega)|(refine zD rfl rfl ?_ rfl ?_;omega)|(refine zP rfl ?_ rfl ?_;omega)|refine zG rfl rfl rfl rfl ?_|(refine jdq rfl rfl ?_ ?_ ?_;kernel_rfl;kernel_rfl)|refine zB rfl rfl rfl (by repeat constructor) rfl ?_|refine zH .here rfl rfl rfl rfl ?_|refine zH (.there .here) rfl rfl rfl rfl ?_|refine zH (.there (.there .here)) rfl rfl rfl rfl ?_|refine zH (.there (.there (.there .here))) rfl rfl rfl rfl ?_|refine zH (.there (.there (.there (.there .here)))) rfl rfl rfl rfl ?_)
  refine oE (ev_alloc (cs := suC zSu nl) rfl) rfl ?_
  rintro _ _ _ _ ⟨rfl, b2, rfl, rfl⟩
  by_cases h1 : 1048576 < t.length
  · repeat (first|refine zJ rfl rfl ?_|refine jr rfl ?_|refine jn ?_|refine zM rfl rfl ?_|(refine zC rfl rfl ?_ rfl ?_;omega)|(refine zD rfl rfl ?_ rfl ?_;omega)|(refine zP rfl ?_ rfl ?_;omega)|refine zG rfl rfl rfl rfl ?_|(refine jdq rfl rfl ?_ ?_ ?_;kernel_rfl;kernel_rfl)|refine zB rfl rfl rfl (by repeat constructor) rfl ?_|refine zH .here rfl rfl rfl rfl ?_|refine zH (.there .here) rfl rfl rfl rfl ?_|refine zH (.there (.there .here)) rfl rfl rfl rfl ?_|refine zH (.there (.there (.there .here))) rfl rfl rfl rfl ?_|refine zH (.there (.there (.there (.there .here)))) rfl rfl rfl rfl ?_)
    refine oN (ev_store (vs := suC zSu nl) rfl rfl .agg rfl rfl (lay_all (zs := suC zSu nl) rfl) (by unfold suC nl; (repeat (first | exact ones_nil | refine ones_cons rfl ?_))) .here) rfl ?_
    rintro _ _ _ _ ⟨rfl, _, rfl⟩
    repeat (first|refine zJ rfl rfl ?_|refine jr rfl ?_|refine jn ?_|refine zM rfl rfl ?_|(refine zC rfl rfl ?_ rfl ?_;omega)|(refine zD rfl rfl ?_ rfl ?_;omega)|(refine zP rfl ?_ rfl ?_;omega)|refine zG rfl rfl rfl rfl ?_|(refine jdq rfl rfl ?_ ?_ ?_;kernel_rfl;kernel_rfl)|refine zB rfl rfl rfl (by repeat constructor) rfl ?_|refine zH .here rfl rfl rfl rfl ?_|refine zH (.there .here) rfl rfl rfl rfl ?_|refine zH (.there (.there .here)) rfl rfl rfl rfl ?_|refine zH (.there (.there (.there .here))) rfl rfl rfl rfl ?_|refine zH (.there (.there (.there (.there .here)))) rfl rfl rfl rfl ?_)
    exact J_retv (vs := [.agg (suC zSu nl).toArray, nl, .int .i64 3]) rfl (.agg rfl rfl (Rdb.ofB (n := 0) .here rfl) rfl (.tmp rfl (.tmp rfl .nil))) [] (fun w s => s.drop) (PH.ler _) ⟨rfl, zSu, nl, [], nl, 3, rfl, zSu_ok F, StRow.nil F, .inl ⟨h1, rfl, rfl, rfl⟩⟩
  have hcnt := count_spec t 10 F
  by_cases h2 : 4097 < t.count 10
  · repeat (first|refine zJ rfl rfl ?_|refine jr rfl ?_|refine jn ?_|refine zM rfl rfl ?_|(refine zC rfl rfl ?_ rfl ?_;omega)|(refine zD rfl rfl ?_ rfl ?_;omega)|(refine zP rfl ?_ rfl ?_;omega)|refine zG rfl rfl rfl rfl ?_|(refine jdq rfl rfl ?_ ?_ ?_;kernel_rfl;kernel_rfl)|refine zB rfl rfl rfl (by repeat constructor) rfl ?_|refine zH .here rfl rfl rfl rfl ?_|refine zH (.there .here) rfl rfl rfl rfl ?_|refine zH (.there (.there .here)) rfl rfl rfl rfl ?_|refine zH (.there (.there (.there .here))) rfl rfl rfl rfl ?_|refine zH (.there (.there (.there (.there .here)))) rfl rfl rfl rfl ?_)
    refine oP (hcnt) Tryd.call43 rfl rfl ?_
    repeat (first|refine zJ rfl rfl ?_|refine jr rfl ?_|refine jn ?_|refine zM rfl rfl ?_|(refine zC rfl rfl ?_ rfl ?_;omega)|(refine zD rfl rfl ?_ rfl ?_;omega)|(refine zP rfl ?_ rfl ?_;omega)|refine zG rfl rfl rfl rfl ?_|(refine jdq rfl rfl ?_ ?_ ?_;kernel_rfl;kernel_rfl)|refine zB rfl rfl rfl (by repeat constructor) rfl ?_|refine zH .here rfl rfl rfl rfl ?_|refine zH (.there .here) rfl rfl rfl rfl ?_|refine zH (.there (.there .here)) rfl rfl rfl rfl ?_|refine zH (.there (.there (.there .here))) rfl rfl rfl rfl ?_|refine zH (.there (.there (.there (.there .here)))) rfl rfl rfl rfl ?_)
    refine oN (ev_store (vs := suC zSu nl) rfl rfl .agg rfl rfl (lay_all (zs := suC zSu nl) rfl) (by unfold suC nl; (repeat (first | exact ones_nil | refine ones_cons rfl ?_))) .here) rfl ?_
    rintro _ _ _ _ ⟨rfl, _, rfl⟩
    repeat (first|refine zJ rfl rfl ?_|refine jr rfl ?_|refine jn ?_|refine zM rfl rfl ?_|(refine zC rfl rfl ?_ rfl ?_;omega)|(refine zD rfl rfl ?_ rfl ?_;omega)|(refine zP rfl ?_ rfl ?_;omega)|refine zG rfl rfl rfl rfl ?_|(refine jdq rfl rfl ?_ ?_ ?_;kernel_rfl;kernel_rfl)|refine zB rfl rfl rfl (by repeat constructor) rfl ?_|refine zH .here rfl rfl rfl rfl ?_|refine zH (.there .here) rfl rfl rfl rfl ?_|refine zH (.there (.there .here)) rfl rfl rfl rfl ?_|refine zH (.there (.there (.there .here))) rfl rfl rfl rfl ?_|refine zH (.there (.there (.there (.there .here)))) rfl rfl rfl rfl ?_)
    exact J_retv (vs := [.agg (suC zSu nl).toArray, nl, .int .i64 4]) rfl (.agg rfl rfl (Rdb.ofB (n := 0) .here rfl) rfl (.tmp rfl (.tmp rfl .nil))) [] (fun w s => s.drop) (PH.ler _) ⟨rfl, zSu, nl, [], nl, 4, rfl, zSu_ok F, StRow.nil F, .inr (.inl ⟨by omega, h2, rfl, rfl, rfl⟩)⟩
  repeat (first|refine zJ rfl rfl ?_|refine jr rfl ?_|refine jn ?_|refine zM rfl rfl ?_|(refine zC rfl rfl ?_ rfl ?_;omega)|(refine zD rfl rfl ?_ rfl ?_;omega)|(refine zP rfl ?_ rfl ?_;omega)|refine zG rfl rfl rfl rfl ?_|(refine jdq rfl rfl ?_ ?_ ?_;kernel_rfl;kernel_rfl)|refine zB rfl rfl rfl (by repeat constructor) rfl ?_|refine zH .here rfl rfl rfl rfl ?_|refine zH (.there .here) rfl rfl rfl rfl ?_|refine zH (.there (.there .here)) rfl rfl rfl rfl ?_|refine zH (.there (.there (.there .here))) rfl rfl rfl rfl ?_|refine zH (.there (.there (.there (.there .here)))) rfl rfl rfl rfl ?_)
  refine oP (hcnt) Tryd.call43 rfl rfl ?_
  repeat (first|refine zJ rfl rfl ?_|refine jr rfl ?_|refine jn ?_|refine zM rfl rfl ?_|(refine zC rfl rfl ?_ rfl ?_;omega)|(refine zD rfl rfl ?_ rfl ?_;omega)|(refine zP rfl ?_ rfl ?_;omega)|refine zG rfl rfl rfl rfl ?_|(refine jdq rfl rfl ?_ ?_ ?_;kernel_rfl;kernel_rfl)|refine zB rfl rfl rfl (by repeat constructor) rfl ?_|refine zH .here rfl rfl rfl rfl ?_|refine zH (.there .here) rfl rfl rfl rfl ?_|refine zH (.there (.there .here)) rfl rfl rfl rfl ?_|refine zH (.there (.there (.there .here))) rfl rfl rfl rfl ?_|refine zH (.there (.there (.there (.there .here)))) rfl rfl rfl rfl ?_)
  refine oC (Hc := []) (Hr := _ :: X) (splitAfter_spec t 10 (by omega) F) Tryd.call44 rfl rfl (fun _ s => s) ?_
  rintro _ F0 _ hF0 ⟨bs, rfl, rfl⟩
  have hAl := splA_len 10 t
  have hWl := splW_len 10 t
  have hmA := splA_mem 10 t
  have hat := fun i w => trim_at (c := 10) (s := t) (i := i) (w := w)
  have hlast : ∀ w, (splA 10 t)[t.count 10]? = some w → (splW 10 t)[t.count 10]? = some w := fun w hw => by rw [splA_at, if_neg (by omega)] at hw; exact hw
  obtain ⟨L, hL⟩ : ∃ L, splW 10 t = L := ⟨_, rfl⟩
  have hPT : parseT t = if 2 ≤ L.length ∧ L.getLast? = some [] then (firstR (splW 32 (L.headD []))).bind fun x => (parseAll (L.tail.dropLast)).map fun l => (x, l) else none := by unfold parseT; rw [hL]
  rw [hL] at hWl hat hlast
  generalize splA 10 t = A at *
  refine oPersist fun hh hA hd => ?_
  have hrow : WRow (F0.un hh) (.slice (some ⟨bs, 0, none⟩) A.length A.length) A := WRow.of_blk hA hd (fun w hw => by have := hmA w hw; omega)
  have hF1 := hF0.trans (PH.le_l F0 hh)
  generalize F0.un hh = F1 at *
  generalize hn : t.count 10 = n at *
  obtain ⟨a0, ha0⟩ : ∃ a0, A[0]? = some a0 := ⟨_, List.getElem?_eq_getElem (by omega)⟩
  have hw0 := hat 0 a0 ha0
  have hla0 : a0.length ≤ 1900001 := by have := hmA a0 (List.mem_of_getElem? ha0); omega
  obtain ⟨_, aa, ac, e, _, hcell⟩ := slice1 hrow.1
  injection e with e1 e2 e3
  subst e1 e3
  obtain ⟨b0, o0, e0, hc0⟩ := hcell 0 a0 ha0
  cases e0
  repeat (first|refine zJ rfl rfl ?_|refine jr rfl ?_|refine jn ?_|refine zM rfl rfl ?_|(refine zC rfl rfl ?_ rfl ?_;omega)|(refine zD rfl rfl ?_ rfl ?_;omega)|(refine zP rfl ?_ rfl ?_;omega)|refine zG rfl rfl rfl rfl ?_|(refine jdq rfl rfl ?_ ?_ ?_;kernel_rfl;kernel_rfl)|refine zB rfl rfl rfl (by repeat constructor) rfl ?_|refine zH .here rfl rfl rfl rfl ?_|refine zH (.there .here) rfl rfl rfl rfl ?_|refine zH (.there (.there .here)) rfl rfl rfl rfl ?_|refine zH (.there (.there (.there .here))) rfl rfl rfl rfl ?_|refine zH (.there (.there (.there (.there .here)))) rfl rfl rfl rfl ?_)
  refine oS (ev_indexAddr (i := 0) rfl rfl rfl (by omega)) rfl ?_
  refine oS (ev_load rfl rfl (Rdb.ofF hc0)) rfl ?_
  refine oP (trim_spec a0 [10] (by omega) F1) Tryd.call46 rfl rfl ?_
  generalize hl0 : Lib.trimSuffix a0 [10] = l0 at *
  have hl0l : l0.length ≤ 2000000 := by
    have := splW_mem 10 t l0 (by rw [hL]; exact List.mem_of_getElem? hw0)
    omega
  refine oC (Hc := []) (Hr := _ :: X) (first_spec l0 hl0l F1 (hF.mono hF1)) Tryd.call45 rfl rfl (fun _ s => s) ?_
  rintro _ F2 _ hF2 ⟨rfl, su, vl, ok, rfl, hsu, hfr⟩
  have hF02 := hF1.trans hF2
  have hL2 := hF.mono hF02
  obtain ⟨_, la, lc, rfl, _, _⟩ := slice1 hsu.liars.1
  repeat (first|refine zJ rfl rfl ?_|refine jr rfl ?_|refine jn ?_|refine zM rfl rfl ?_|(refine zC rfl rfl ?_ rfl ?_;omega)|(refine zD rfl rfl ?_ rfl ?_;omega)|(refine zP rfl ?_ rfl ?_;omega)|refine zG rfl rfl rfl rfl ?_|(refine jdq rfl rfl ?_ ?_ ?_;kernel_rfl;kernel_rfl)|refine zB rfl rfl rfl (by repeat constructor) rfl ?_|refine zH .here rfl rfl rfl rfl ?_|refine zH (.there .here) rfl rfl rfl rfl ?_|refine zH (.there (.there .here)) rfl rfl rfl rfl ?_|refine zH (.there (.there (.there .here))) rfl rfl rfl rfl ?_|refine zH (.there (.there (.there (.there .here)))) rfl rfl rfl rfl ?_)
  refine oE (ev_alloc (cs := suC zSu nl) rfl) rfl ?_
  rintro _ _ _ _ ⟨rfl, b7, rfl, rfl⟩
  refine oN (ev_store (vs := suC su (.slice la su.liars.length lc)) rfl rfl .agg rfl rfl (lay_all (zs := suC zSu nl) rfl) (by unfold suC; (repeat (first | exact ones_nil | refine ones_cons rfl ?_))) .here) rfl ?_
  rintro _ _ _ _ ⟨rfl, _, rfl⟩
  have hhd : L.headD [] = l0 := by
    cases L with
    | nil => simp at hw0
    | cons x r => simpa using hw0
  rw [hhd] at hPT
  have hlg : L.getLast? = L[n]? := by rw [List.getLast?_eq_getElem?, hWl]; rfl
  have hnone : (ok = false ∨ n < 1 ∨ (∃ w, L[n]? = some w ∧ w ≠ [])) → parseT t = none := fun hh => by
    rw [hPT]
    rcases hh with h | h | ⟨w, h, h0⟩
    · have : firstR (splW 32 l0) = none := by
        rcases hfr with ⟨e, _⟩ | ⟨_, e⟩
        · rw [e] at h; cases h
        · exact e
      rw [this]
      split <;> rfl
    · rw [if_neg (by omega)]
    · rw [if_neg]
      rintro ⟨_, e⟩
      rw [hlg, h] at e
      exact h0 (Option.some.inj e)
  cases ok with
  | false =>
    repeat (first|refine zJ rfl rfl ?_|refine jr rfl ?_|refine jn ?_|refine zM rfl rfl ?_|(refine zC rfl rfl ?_ rfl ?_;omega)|(refine zD rfl rfl ?_ rfl ?_;omega)|(refine zP rfl ?_ rfl ?_;omega)|refine zG rfl rfl rfl rfl ?_|(refine jdq rfl rfl ?_ ?_ ?_;kernel_rfl;kernel_rfl)|refine zB rfl rfl rfl (by repeat constructor) rfl ?_|refine zH .here rfl rfl rfl rfl ?_|refine zH (.there .here) rfl rfl rfl rfl ?_|refine zH (.there (.there .here)) rfl rfl rfl rfl ?_|refine zH (.there (.there (.there .here))) rfl rfl rfl rfl ?_|refine zH (.there (.there (.there (.there .here)))) rfl rfl rfl rfl ?_)
    refine oN (ev_store (vs := suC zSu nl) rfl rfl .agg rfl rfl (lay_all (zs := suC zSu nl) rfl) (by unfold suC nl; (repeat (first | exact ones_nil | refine ones_cons rfl ?_))) (.there .here)) rfl ?_
    rintro _ _ _ _ ⟨rfl, _, rfl⟩
    repeat (first|refine zJ rfl rfl ?_|refine jr rfl ?_|refine jn ?_|refine zM rfl rfl ?_|(refine zC rfl rfl ?_ rfl ?_;omega)|(refine zD rfl rfl ?_ rfl ?_;omega)|(refine zP rfl ?_ rfl ?_;omega)|refine zG rfl rfl rfl rfl ?_|(refine jdq rfl rfl ?_ ?_ ?_;kernel_rfl;kernel_rfl)|refine zB rfl rfl rfl (by repeat constructor) rfl ?_|refine zH .here rfl rfl rfl rfl ?_|refine zH (.there .here) rfl rfl rfl rfl ?_|refine zH (.there (.there .here)) rfl rfl rfl rfl ?_|refine zH (.there (.there (.there .here))) rfl rfl rfl rfl ?_|refine zH (.there (.there (.there (.there .here)))) rfl rfl rfl rfl ?_)
    exact J_retv (vs := [.agg (suC zSu nl).toArray, nl, .int .i64 2]) rfl (.agg rfl rfl (Rdb.ofB (n := 0) (.there .here) rfl) rfl (.tmp rfl (.tmp rfl .nil))) [] (fun w s => s.drop.drop) hF02 ⟨rfl, zSu, nl, [], nl, 2, rfl, zSu_ok F2, StRow.nil F2, .inr (.inr ⟨by omega, by omega, .inl ⟨hnone (.inl rfl), rfl, rfl, rfl⟩⟩)⟩
  | true =>
    have hsu1 : firstR (splW 32 l0) = some su := by
      rcases hfr with ⟨_, e⟩ | ⟨e, _⟩
      · exact e
      · cases e
    by_cases hn1 : n < 1
    · repeat (first|refine zJ rfl rfl ?_|refine jr rfl ?_|refine jn ?_|refine zM rfl rfl ?_|(refine zC rfl rfl ?_ rfl ?_;omega)|(refine zD rfl rfl ?_ rfl ?_;omega)|(refine zP rfl ?_ rfl ?_;omega)|refine zG rfl rfl rfl rfl ?_|(refine jdq rfl rfl ?_ ?_ ?_;kernel_rfl;kernel_rfl)|refine zB rfl rfl rfl (by repeat constructor) rfl ?_|refine zH .here rfl rfl rfl rfl ?_|refine zH (.there .here) rfl rfl rfl rfl ?_|refine zH (.there (.there .here)) rfl rfl rfl rfl ?_|refine zH (.there (.there (.there .here))) rfl rfl rfl rfl ?_|refine zH (.there (.there (.there (.there .here)))) rfl rfl rfl rfl ?_)
      refine oN (ev_store (vs := suC zSu nl) rfl rfl .agg rfl rfl (lay_all (zs := suC zSu nl) rfl) (by unfold suC nl; (repeat (first | exact ones_nil | refine ones_cons rfl ?_))) (.there .here)) rfl ?_
      rintro _ _ _ _ ⟨rfl, _, rfl⟩
      repeat (first|refine zJ rfl rfl ?_|refine jr rfl ?_|refine jn ?_|refine zM rfl rfl ?_|(refine zC rfl rfl ?_ rfl ?_;omega)|(refine zD rfl rfl ?_ rfl ?_;omega)|(refine zP rfl ?_ rfl ?_;omega)|refine zG rfl rfl rfl rfl ?_|(refine jdq rfl rfl ?_ ?_ ?_;kernel_rfl;kernel_rfl)|refine zB rfl rfl rfl (by repeat constructor) rfl ?_|refine zH .here rfl rfl rfl rfl ?_|refine zH (.there .here) rfl rfl rfl rfl ?_|refine zH (.there (.there .here)) rfl rfl rfl rfl ?_|refine zH (.there (.there (.there .here))) rfl rfl rfl rfl ?_|refine zH (.there (.there (.there (.there .here)))) rfl rfl rfl rfl ?_)
      exact J_retv (vs := [.agg (suC zSu nl).toArray, nl, .int .i64 2]) rfl (.agg rfl rfl (Rdb.ofB (n := 0) (.there .here) rfl) rfl (.tmp rfl (.tmp rfl .nil))) [] (fun w s => s.drop.drop) hF02 ⟨rfl, zSu, nl, [], nl, 2, rfl, zSu_ok F2, StRow.nil F2, .inr (.inr ⟨by omega, by omega, .inl ⟨hnone (.inr (.inl hn1)), rfl, rfl, rfl⟩⟩)⟩
    obtain ⟨wl, hwl⟩ : ∃ wl, A[n]? = some wl := ⟨_, List.getElem?_eq_getElem (by omega)⟩
    have hLn := hlast wl hwl
    obtain ⟨b9, o9, e9, hc9⟩ := hcell n wl hwl
    cases e9
    repeat (first|refine zJ rfl rfl ?_|refine jr rfl ?_|refine jn ?_|refine zM rfl rfl ?_|(refine zC rfl rfl ?_ rfl ?_;omega)|(refine zD rfl rfl ?_ rfl ?_;omega)|(refine zP rfl ?_ rfl ?_;omega)|refine zG rfl rfl rfl rfl ?_|(refine jdq rfl rfl ?_ ?_ ?_;kernel_rfl;kernel_rfl)|refine zB rfl rfl rfl (by repeat constructor) rfl ?_|refine zH .here rfl rfl rfl rfl ?_|refine zH (.there .here) rfl rfl rfl rfl ?_|refine zH (.there (.there .here)) rfl rfl rfl rfl ?_|refine zH (.there (.there (.there .here))) rfl rfl rfl rfl ?_|refine zH (.there (.there (.there (.there .here)))) rfl rfl rfl rfl ?_)
    refine oS (ev_indexAddr (i := n) rfl (show opv _ _ = _ from congrArg (fun z : Int => some (Value.int .i64 z)) (by omega)) rfl (by omega)) rfl ?_
    refine oS (ev_load rfl rfl (Rdb.ofF (hc9.mono hF2))) rfl ?_
    by_cases hw0 : wl = []
    rotate_left
    · refine oS (ev_sneq (cs := []) (r := true) rfl rfl (by simpa using hw0)) rfl ?_
      repeat (first|refine zJ rfl rfl ?_|refine jr rfl ?_|refine jn ?_|refine zM rfl rfl ?_|(refine zC rfl rfl ?_ rfl ?_;omega)|(refine zD rfl rfl ?_ rfl ?_;omega)|(refine zP rfl ?_ rfl ?_;omega)|refine zG rfl rfl rfl rfl ?_|(refine jdq rfl rfl ?_ ?_ ?_;kernel_rfl;kernel_rfl)|refine zB rfl rfl rfl (by repeat constructor) rfl ?_|refine zH .here rfl rfl rfl rfl ?_|refine zH (.there .here) rfl rfl rfl rfl ?_|refine zH (.there (.there .here)) rfl rfl rfl rfl ?_|refine zH (.there (.there (.there .here))) rfl rfl rfl rfl ?_|refine zH (.there (.there (.there (.there .here)))) rfl rfl rfl rfl ?_)
      refine oN (ev_store (vs := suC zSu nl) rfl rfl .agg rfl rfl (lay_all (zs := suC zSu nl) rfl) (by unfold suC nl; (repeat (first | exact ones_nil | refine ones_cons rfl ?_))) (.there .here)) rfl ?_
      rintro _ _ _ _ ⟨rfl, _, rfl⟩
      repeat (first|refine zJ rfl rfl ?_|refine jr rfl ?_|refine jn ?_|refine zM rfl rfl ?_|(refine zC rfl rfl ?_ rfl ?_;omega)|(refine zD rfl rfl ?_ rfl ?_;omega)|(refine zP rfl ?_ rfl ?_;omega)|refine zG rfl rfl rfl rfl ?_|(refine jdq rfl rfl ?_ ?_ ?_;kernel_rfl;kernel_rfl)|refine zB rfl rfl rfl (by repeat constructor) rfl ?_|refine zH .here rfl rfl rfl rfl ?_|refine zH (.there .here) rfl rfl rfl rfl ?_|refine zH (.there (.there .here)) rfl rfl rfl rfl ?_|refine zH (.there (.there (.there .here))) rfl rfl rfl rfl ?_|refine zH (.there (.there (.there (.there .here)))) rfl rfl rfl rfl ?_)
      exact J_retv (vs := [.agg (suC zSu nl).toArray, nl, .int .i64 2]) rfl (.agg rfl rfl (Rdb.ofB (n := 0) (.there .here) rfl) rfl (.tmp rfl (.tmp rfl .nil))) [] (fun w s => s.drop.drop) hF02 ⟨rfl, zSu, nl, [], nl, 2, rfl, zSu_ok F2, StRow.nil F2, .inr (.inr ⟨by omega, by omega, .inl ⟨hnone (.inr (.inr ⟨wl, hLn, hw0⟩)), rfl, rfl, rfl⟩⟩)⟩
    subst hw0
    refine oS (ev_sneq (bs := []) (cs := []) (r := false) rfl rfl (by decide)) rfl ?_
    have hPT2 : parseT t = (parseAll (L.tail.dropLast)).map fun l => (su, l) := by
      rw [hPT, if_pos ⟨by omega, by rw [hlg, hLn]⟩, hsu1, Option.bind_some]
    generalize hK : L.tail.dropLast = K at *
    have hKl : K.length = n - 1 := by rw [← hK]; simp; omega
    have hcut := SliceV.cut hrow.1 (lo := 1) (hi := n) (m := A.length) (by omega) (by omega) (by omega)
    obtain ⟨M, hM⟩ : ∃ M, (A.drop 1).take (n - 1) = M := ⟨_, rfl⟩
    have hMl : M.length = n - 1 := by rw [← hM]; simp; omega
    have hcs : ((strC A).drop (1 * 1)).take ((n - 1) * 1) = strC M := by rw [← hM]; unfold strC; simp
    rw [hcs] at hcut
    have hMK : ∀ j w, M[j]? = some w → K[j]? = some (Lib.trimSuffix w [10]) ∧ w.length ≤ 1900001 ∧ (Lib.trimSuffix w [10]).length ≤ 1900000 := fun j w hj => by
      have hjl : j < n - 1 := by have := (List.getElem?_eq_some_iff.1 hj).1; omega
      rw [← hM, List.getElem?_take, if_pos hjl, List.getElem?_drop, Nat.add_comm] at hj
      have h1 := hat (j + 1) w hj
      have h3 := splW_mem 10 t (Lib.trimSuffix w [10]) (by rw [hL]; exact List.mem_of_getElem? h1)
      have h4 := hmA w (List.mem_of_getElem? hj)
      refine ⟨?_, by omega, by omega⟩
      rw [← hK, List.getElem?_dropLast, if_pos (by rw [List.length_tail]; omega), List.getElem?_tail]
      exact h1
    repeat (first|refine zJ rfl rfl ?_|refine jr rfl ?_|refine jn ?_|refine zM rfl rfl ?_|(refine zC rfl rfl ?_ rfl ?_;omega)|(refine zD rfl rfl ?_ rfl ?_;omega)|(refine zP rfl ?_ rfl ?_;omega)|refine zG rfl rfl rfl rfl ?_|(refine jdq rfl rfl ?_ ?_ ?_;kernel_rfl;kernel_rfl)|refine zB rfl rfl rfl (by repeat constructor) rfl ?_|refine zH .here rfl rfl rfl rfl ?_|refine zH (.there .here) rfl rfl rfl rfl ?_|refine zH (.there (.there .here)) rfl rfl rfl rfl ?_|refine zH (.there (.there (.there .here))) rfl rfl rfl rfl ?_|refine zH (.there (.there (.there (.there .here)))) rfl rfl rfl rfl ?_)
    refine oS (ev_slice_lohi (lo := 1) (hi := n) rfl rfl (show opv _ _ = _ from congrArg (fun z : Int => some (Value.int .i64 z)) (by omega)) rfl (by omega) (by omega)) rfl ?_
    generalize cutV (some ⟨bs, 0, none⟩) 1 A.length 1 n A.length = vM at *
    rw [← hMl] at hcut
    obtain ⟨_, ma, mc, rfl, _, hmat⟩ := slice1 hcut
    repeat (first|refine zJ rfl rfl ?_|refine jr rfl ?_|refine jn ?_|refine zM rfl rfl ?_|(refine zC rfl rfl ?_ rfl ?_;omega)|(refine zD rfl rfl ?_ rfl ?_;omega)|(refine zP rfl ?_ rfl ?_;omega)|refine zG rfl rfl rfl rfl ?_|(refine jdq rfl rfl ?_ ?_ ?_;kernel_rfl;kernel_rfl)|refine zB rfl rfl rfl (by repeat constructor) rfl ?_|refine zH .here rfl rfl rfl rfl ?_|refine zH (.there .here) rfl rfl rfl rfl ?_|refine zH (.there (.there .here)) rfl rfl rfl rfl ?_|refine zH (.there (.there (.there .here))) rfl rfl rfl rfl ?_|refine zH (.there (.there (.there (.there .here)))) rfl rfl rfl rfl ?_)
    refine J_own_nil 31 17 ?_
    refine J_loop (ι := Nat × Value × List St × List (List Value) × PH) (fun p => p.1 ≤ M.length ∧ F2.le p.2.2.2.2 ∧ p.2.2.1.length = p.1 ∧ All2 (StCell p.2.2.2.2) p.2.2.1 p.2.2.2.1 ∧ parseAll (K.take p.1) = some p.2.2.1) (fun p => M.length - p.1) (fun p => [(2, .pointer (some ⟨b2, 0, none⟩)), (7, .pointer (some ⟨b7, 0, none⟩)), (9, p.2.1), (53, .slice ma M.length mc), (54, .int .i64 M.length), (55, .int .i64 p.1)]) (fun p => p.2.2.2.2)
      (fun p => own p.2.1 31 17 p.1 p.2.2.2.1.flatten :: blk b7 41 (suC su (.slice la su.liars.length lc)) :: blk b2 41 (suC zSu nl) :: X) (0, .slice none 0 0, [], [], F2) ⟨Nat.zero_le _, PH.ler _, rfl, .nil, rfl⟩ ⟨⟨rfl, rfl, rfl, rfl, rfl, rfl, trivial⟩, fun w s => s⟩ ?_
    rintro ⟨j, u, l, css, G⟩ ⟨hj, hG, hll, hal, hpl⟩
    dsimp only at *
    by_cases hlt : j < M.length
    · obtain ⟨w, hw⟩ : ∃ w, M[j]? = some w := ⟨_, List.getElem?_eq_getElem hlt⟩
      obtain ⟨hkw, hwl1, htl⟩ := hMK j w hw
      obtain ⟨bj, oj, rfl, hcj⟩ := hmat j w hw
      repeat (first|refine zJ rfl rfl ?_|refine jr rfl ?_|refine jn ?_|refine zM rfl rfl ?_|(refine zC rfl rfl ?_ rfl ?_;omega)|(refine zD rfl rfl ?_ rfl ?_;omega)|(refine zP rfl ?_ rfl ?_;omega)|refine zG rfl rfl rfl rfl ?_|(refine jdq rfl rfl ?_ ?_ ?_;kernel_rfl;kernel_rfl)|refine zB rfl rfl rfl (by repeat constructor) rfl ?_|refine zH .here rfl rfl rfl rfl ?_|refine zH (.there .here) rfl rfl rfl rfl ?_|refine zH (.there (.there .here)) rfl rfl rfl rfl ?_|refine zH (.there (.there (.there .here))) rfl rfl rfl rfl ?_|refine zH (.there (.there (.there (.there .here)))) rfl rfl rfl rfl ?_)
      refine oS (ev_indexAddr rfl rfl rfl hlt) rfl ?_
      refine oS (ev_load rfl rfl (Rdb.ofF (hcj.mono (hF2.trans hG)))) rfl ?_
      repeat (first|refine zJ rfl rfl ?_|refine jr rfl ?_|refine jn ?_|refine zM rfl rfl ?_|(refine zC rfl rfl ?_ rfl ?_;omega)|(refine zD rfl rfl ?_ rfl ?_;omega)|(refine zP rfl ?_ rfl ?_;omega)|refine zG rfl rfl rfl rfl ?_|(refine jdq rfl rfl ?_ ?_ ?_;kernel_rfl;kernel_rfl)|refine zB rfl rfl rfl (by repeat constructor) rfl ?_|refine zH .here rfl rfl rfl rfl ?_|refine zH (.there .here) rfl rfl rfl rfl ?_|refine zH (.there (.there .here)) rfl rfl rfl rfl ?_|refine zH (.there (.there (.there .here))) rfl rfl rfl rfl ?_|refine zH (.there (.there (.there (.there .here)))) rfl rfl rfl rfl ?_)
      refine oP (trim_spec w [10] (by omega) G) Tryd.call46 rfl rfl ?_
      generalize Lib.trimSuffix w [10] = ln at *
      refine oC (Hc := []) (Hr := _ :: _ :: _ :: X) (parseLine_spec ln (by omega) G (hL2.mono hG)) Tryd.call10 rfl rfl (fun _ s => s) ?_
      rintro _ G1 _ hG1 ⟨rfl, y, vo, vb, vt, ok2, rfl, hy, hyl, hmatch⟩
      have hones := hy.ones
      repeat (first|refine zJ rfl rfl ?_|refine jr rfl ?_|refine jn ?_|refine zM rfl rfl ?_|(refine zC rfl rfl ?_ rfl ?_;omega)|(refine zD rfl rfl ?_ rfl ?_;omega)|(refine zP rfl ?_ rfl ?_;omega)|refine zG rfl rfl rfl rfl ?_|(refine jdq rfl rfl ?_ ?_ ?_;kernel_rfl;kernel_rfl)|refine zB rfl rfl rfl (by repeat constructor) rfl ?_|refine zH .here rfl rfl rfl rfl ?_|refine zH (.there .here) rfl rfl rfl rfl ?_|refine zH (.there (.there .here)) rfl rfl rfl rfl ?_|refine zH (.there (.there (.there .here))) rfl rfl rfl rfl ?_|refine zH (.there (.there (.there (.there .here)))) rfl rfl rfl rfl ?_)
      refine oE (ev_alloc (cs := zStC) rfl) rfl ?_
      rintro _ _ _ _ ⟨rfl, b12, rfl, rfl⟩
      refine oN (ev_store (vs := stC y vo vb vt) rfl rfl .agg rfl rfl (lay_all (zs := zStC) rfl) hones .here) rfl ?_
      rintro _ _ _ _ ⟨rfl, _, rfl⟩
      cases hp : parseP (splW 32 ln) with
      | none =>
        rw [hp] at hmatch
        obtain ⟨rfl, rfl⟩ := hmatch
        repeat (first|refine zJ rfl rfl ?_|refine jr rfl ?_|refine jn ?_|refine zM rfl rfl ?_|(refine zC rfl rfl ?_ rfl ?_;omega)|(refine zD rfl rfl ?_ rfl ?_;omega)|(refine zP rfl ?_ rfl ?_;omega)|refine zG rfl rfl rfl rfl ?_|(refine jdq rfl rfl ?_ ?_ ?_;kernel_rfl;kernel_rfl)|refine zB rfl rfl rfl (by repeat constructor) rfl ?_|refine zH .here rfl rfl rfl rfl ?_|refine zH (.there .here) rfl rfl rfl rfl ?_|refine zH (.there (.there .here)) rfl rfl rfl rfl ?_|refine zH (.there (.there (.there .here))) rfl rfl rfl rfl ?_|refine zH (.there (.there (.there (.there .here)))) rfl rfl rfl rfl ?_)
        refine oN (ev_store (vs := suC zSu nl) rfl rfl .agg rfl rfl (lay_all (zs := suC zSu nl) rfl) (by unfold suC nl; (repeat (first | exact ones_nil | refine ones_cons rfl ?_))) (.there (.there (.there .here)))) rfl ?_
        rintro _ _ _ _ ⟨rfl, _, rfl⟩
        repeat (first|refine zJ rfl rfl ?_|refine jr rfl ?_|refine jn ?_|refine zM rfl rfl ?_|(refine zC rfl rfl ?_ rfl ?_;omega)|(refine zD rfl rfl ?_ rfl ?_;omega)|(refine zP rfl ?_ rfl ?_;omega)|refine zG rfl rfl rfl rfl ?_|(refine jdq rfl rfl ?_ ?_ ?_;kernel_rfl;kernel_rfl)|refine zB rfl rfl rfl (by repeat constructor) rfl ?_|refine zH .here rfl rfl rfl rfl ?_|refine zH (.there .here) rfl rfl rfl rfl ?_|refine zH (.there (.there .here)) rfl rfl rfl rfl ?_|refine zH (.there (.there (.there .here))) rfl rfl rfl rfl ?_|refine zH (.there (.there (.there (.there .here)))) rfl rfl rfl rfl ?_)
        refine J_retv (vs := [.agg (suC zSu nl).toArray, nl, .int .i64 2]) rfl (.agg rfl rfl (Rdb.ofB (n := 0) (.there (.there (.there .here))) rfl) rfl (.tmp rfl (.tmp rfl .nil))) [] (fun w s => s.drop.drop.drop.drop) (hF02.trans (hG.trans hG1)) ⟨rfl, zSu, nl, [], nl, 2, rfl, zSu_ok G1, StRow.nil G1, .inr (.inr ⟨by omega, by omega, .inl ⟨?_, rfl, rfl, rfl⟩⟩)⟩
        rw [hPT2, parseAll_bad K j ln hkw hp]
        rfl
      | some z =>
        rw [hp] at hmatch
        obtain ⟨rfl, rfl⟩ := hmatch
        repeat (first|refine zJ rfl rfl ?_|refine jr rfl ?_|refine jn ?_|refine zM rfl rfl ?_|(refine zC rfl rfl ?_ rfl ?_;omega)|(refine zD rfl rfl ?_ rfl ?_;omega)|(refine zP rfl ?_ rfl ?_;omega)|refine zG rfl rfl rfl rfl ?_|(refine jdq rfl rfl ?_ ?_ ?_;kernel_rfl;kernel_rfl)|refine zB rfl rfl rfl (by repeat constructor) rfl ?_|refine zH .here rfl rfl rfl rfl ?_|refine zH (.there .here) rfl rfl rfl rfl ?_|refine zH (.there (.there .here)) rfl rfl rfl rfl ?_|refine zH (.there (.there (.there .here))) rfl rfl rfl rfl ?_|refine zH (.there (.there (.there (.there .here)))) rfl rfl rfl rfl ?_)
        refine oS (ev_load_agg (cs := stC y vo vb vt) rfl rfl (Rdb.ofB (n := 0) .here rfl) rfl) rfl ?_
        refine oA (size := 17) (bytes := 200) (vs := stC y vo vb vt) (n := j) (xs := css.flatten) (K := fun v' => blk b12 31 (stC y vo vb vt) :: own v' 31 17 (j + 1) (css.flatten ++ stC y vo vb vt) :: blk b7 41 (suC su (.slice la su.liars.length lc)) :: blk b2 41 (suC zSu nl) :: X) (fun _ => rfl) rfl .agg rfl elSt hones (by omega) (fun v' => .there .here) rfl (fun _ => rfl) fun u2 w2 => ?_
        repeat (first|refine zJ rfl rfl ?_|refine jr rfl ?_|refine jn ?_|refine zM rfl rfl ?_|(refine zC rfl rfl ?_ rfl ?_;omega)|(refine zD rfl rfl ?_ rfl ?_;omega)|(refine zP rfl ?_ rfl ?_;omega)|refine zG rfl rfl rfl rfl ?_|(refine jdq rfl rfl ?_ ?_ ?_;kernel_rfl;kernel_rfl)|refine zB rfl rfl rfl (by repeat constructor) rfl ?_|refine zH .here rfl rfl rfl rfl ?_|refine zH (.there .here) rfl rfl rfl rfl ?_|refine zH (.there (.there .here)) rfl rfl rfl rfl ?_|refine zH (.there (.there (.there .here))) rfl rfl rfl rfl ?_|refine zH (.there (.there (.there (.there .here)))) rfl rfl rfl rfl ?_)
        refine J_again (ι := Nat × Value × List St × List (List Value) × PH) (j + 1, u2, l ++ [y], css ++ [stC y vo vb vt], G1) ⟨hlt, hG.trans hG1, by simp [hll], (hal.mono fun _ _ h => StCell.mono h hG1).snoc1 ⟨vo, vb, vt, rfl, hy, hyl⟩, ?_⟩ (by dsimp only; omega) ⟨⟨rfl, rfl, rfl, rfl, rfl, rfl, trivial⟩, fun w s => ?_⟩
        · dsimp only
          rw [List.take_add_one, hkw, Option.toList_some, parseAll_snoc, hpl, Option.bind_some, hp]
          rfl
        · dsimp only
          rw [List.flatten_append, List.flatten_singleton]
          exact s.drop
    · obtain rfl : j = M.length := by omega
      have hKt : K.take M.length = K := List.take_of_length_le (by omega)
      rw [hKt] at hpl
      refine J_persist fun hh hA hd => ?_
      have hos := own_slice hA hd
      have hG9 := PH.le_l G hh
      generalize G.un hh = G9 at *
      have hrowS : StRow G9 u l := ⟨css, by rw [hll]; exact hos, hal.mono fun _ _ h => StCell.mono h hG9⟩
      repeat (first|refine zJ rfl rfl ?_|refine jr rfl ?_|refine jn ?_|refine zM rfl rfl ?_|(refine zC rfl rfl ?_ rfl ?_;omega)|(refine zD rfl rfl ?_ rfl ?_;omega)|(refine zP rfl ?_ rfl ?_;omega)|refine zG rfl rfl rfl rfl ?_|(refine jdq rfl rfl ?_ ?_ ?_;kernel_rfl;kernel_rfl)|refine zB rfl rfl rfl (by repeat constructor) rfl ?_|refine zH .here rfl rfl rfl rfl ?_|refine zH (.there .here) rfl rfl rfl rfl ?_|refine zH (.there (.there .here)) rfl rfl rfl rfl ?_|refine zH (.there (.there (.there .here))) rfl rfl rfl rfl ?_|refine zH (.there (.there (.there (.there .here)))) rfl rfl rfl rfl ?_)
      refine oS (ev_load_agg (cs := suC su (.slice la su.liars.length lc)) rfl rfl (Rdb.ofB (n := 0) .here rfl) rfl) rfl ?_
      repeat (first|refine zJ rfl rfl ?_|refine jr rfl ?_|refine jn ?_|refine zM rfl rfl ?_|(refine zC rfl rfl ?_ rfl ?_;omega)|(refine zD rfl rfl ?_ rfl ?_;omega)|(refine zP rfl ?_ rfl ?_;omega)|refine zG rfl rfl rfl rfl ?_|(refine jdq rfl rfl ?_ ?_ ?_;kernel_rfl;kernel_rfl)|refine zB rfl rfl rfl (by repeat constructor) rfl ?_|refine zH .here rfl rfl rfl rfl ?_|refine zH (.there .here) rfl rfl rfl rfl ?_|refine zH (.there (.there .here)) rfl rfl rfl rfl ?_|refine zH (.there (.there (.there .here))) rfl rfl rfl rfl ?_|refine zH (.there (.there (.there (.there .here)))) rfl rfl rfl rfl ?_)
      refine oN (ev_store rfl rfl .agg rfl rfl (lay_all (zs := suC zSu nl) rfl) (by unfold suC; (repeat (first | exact ones_nil | refine ones_cons rfl ?_))) (.there .here)) rfl ?_
      rintro _ _ _ _ ⟨rfl, _, rfl⟩
      repeat (first|refine zJ rfl rfl ?_|refine jr rfl ?_|refine jn ?_|refine zM rfl rfl ?_|(refine zC rfl rfl ?_ rfl ?_;omega)|(refine zD rfl rfl ?_ rfl ?_;omega)|(refine zP rfl ?_ rfl ?_;omega)|refine zG rfl rfl rfl rfl ?_|(refine jdq rfl rfl ?_ ?_ ?_;kernel_rfl;kernel_rfl)|refine zB rfl rfl rfl (by repeat constructor) rfl ?_|refine zH .here rfl rfl rfl rfl ?_|refine zH (.there .here) rfl rfl rfl rfl ?_|refine zH (.there (.there .here)) rfl rfl rfl rfl ?_|refine zH (.there (.there (.there .here))) rfl rfl rfl rfl ?_|refine zH (.there (.there (.there (.there .here)))) rfl rfl rfl rfl ?_)
      refine J_retv (vs := [.agg (suC su (.slice la su.liars.length lc)).toArray, u, .int .i64 0]) rfl (.agg rfl rfl (Rdb.ofB (n := 0) (.there .here) rfl) rfl (.tmp rfl (.tmp rfl .nil))) [] (fun w s => s.drop.drop) (hF02.trans (hG.trans hG9)) ⟨rfl, su, _, l, u, 0, rfl, hsu.mono (hG.trans hG9), hrowS, .inr (.inr ⟨by omega, by omega, .inr ⟨?_, rfl⟩⟩)⟩
      rw [hPT2, hpl]
      rfl
end Go.Proofs.YtekdmpbkcjjllaaDoor
namespace Go.Proofs.YtekdmpbkcjjllaaDoor
open Go.RowKit
set_option maxRecDepth 100000
theorem coB_eq (a b : Co) : EqC Tryd.prog 9999 0 (coC a) (coC b) (Tryd.prog.fieldsOf 23).toList (decide (a.client = b.client) && (decide (a.stamp = b.stamp) && (decide (a.op = b.op) && (decide ((strOf a.letter).toList = (strOf b.letter).toList) && (decide (a.a = b.a) && (decide (a.b = b.b) && (decide ((strOf a.text).toList = (strOf b.text).toList) && true))))))) :=
  .int (by decide) rfl Tryd.underlying3 (.int (by decide) rfl Tryd.underlying2 (.int (by decide) rfl Tryd.underlying3 (.str (by decide) rfl Tryd.underlying9 (.int (by decide) rfl Tryd.underlying2 (.int (by decide) rfl Tryd.underlying2 (.str (by decide) rfl Tryd.underlying9 .nil))))))
set_option maxHeartbeats 2000000 in
theorem eqInts_spec (v1 v2 : Value) (l1 l2 : List Int) (F : PH) (h1 : NumRow F v1 l1) (h2 : NumRow F v2 l2) (hl : l1.length ≤ 1000000000) : Pure Tryd.prog 51 [v1, v2] F (.bool (decide (l1 = l2))) := by
  obtain ⟨_, a1, c1, rfl, hc1, hat1⟩ := slice1 h1.1
  obtain ⟨_, a2, c2, rfl, hc2, hat2⟩ := slice1 h2.1
  refine Spec.of2 Tryd.func51 rfl rfl fun X w0 => ?_
  by_cases hne : l1.length = l2.length
  rotate_left
  · rw [decide_eq_false (fun e => hne (by rw [e]))]
    repeat (first|refine zJ rfl rfl ?_|refine jr rfl ?_|refine jn ?_|refine zM rfl rfl ?_|(refine zC rfl rfl ?_ rfl ?_;omega)|(refine zD rfl rfl ?_ rfl ?_;omega)|(refine zP rfl ?_ rfl ?_;omega)|refine zG rfl rfl rfl rfl ?_|(refine jdq rfl rfl ?_ ?_ ?_;kernel_rfl;kernel_rfl)|refine zB rfl rfl rfl (by repeat constructor) rfl ?_|refine zH .here rfl rfl rfl rfl ?_|refine zH (.there .here) rfl rfl rfl rfl ?_|refine zH (.there (.there .here)) rfl rfl rfl rfl ?_|refine zH (.there (.there (.there .here))) rfl rfl rfl rfl ?_|refine zH (.there (.there (.there (.there .here)))) rfl rfl rfl rfl ?_)
    exact J_ret1 rfl rfl [] rfl (PH.ler _) ⟨rfl, rfl⟩
  repeat (first|refine zJ rfl rfl ?_|refine jr rfl ?_|refine jn ?_|refine zM rfl rfl ?_|(refine zC rfl rfl ?_ rfl ?_;omega)|(refine zD rfl rfl ?_ rfl ?_;omega)|(refine zP rfl ?_ rfl ?_;omega)|refine zG rfl rfl rfl rfl ?_|(refine jdq rfl rfl ?_ ?_ ?_;kernel_rfl;kernel_rfl)|refine zB rfl rfl rfl (by repeat constructor) rfl ?_|refine zH .here rfl rfl rfl rfl ?_|refine zH (.there .here) rfl rfl rfl rfl ?_|refine zH (.there (.there .here)) rfl rfl rfl rfl ?_|refine zH (.there (.there (.there .here))) rfl rfl rfl rfl ?_|refine zH (.there (.there (.there (.there .here)))) rfl rfl rfl rfl ?_)
  refine J_loop (ι := Nat) (fun i => i ≤ l1.length ∧ l1.take i = l2.take i) (fun i => l1.length - i) (fun i => [(0, .slice a1 l1.length c1), (1, .slice a2 l2.length c2), (12, .int .i64 l1.length), (13, .int .i64 i)]) (fun _ => F) (fun _ => X) 0 ⟨Nat.zero_le _, rfl⟩ ⟨⟨rfl, rfl, rfl, rfl, trivial⟩, fun w s => s⟩ ?_
  rintro i ⟨hi, he⟩
  by_cases hlt : i < l1.length
  · have hlt2 : i < l2.length := by omega
    have hg1 : l1[i]? = some l1[i] := List.getElem?_eq_getElem hlt
    have hg2 : l2[i]? = some l2[i] := List.getElem?_eq_getElem hlt2
    obtain ⟨b1, o1, rfl, hcc1⟩ := hat1 i _ hg1
    obtain ⟨b2, o2, rfl, hcc2⟩ := hat2 i _ hg2
    generalize hx : l1[i] = x at *
    generalize hy : l2[i] = y at *
    repeat (first|refine zJ rfl rfl ?_|refine jr rfl ?_|refine jn ?_|refine zM rfl rfl ?_|(refine zC rfl rfl ?_ rfl ?_;omega)|(refine zD rfl rfl ?_ rfl ?_;omega)|(refine zP rfl ?_ rfl ?_;omega)|refine zG rfl rfl rfl rfl ?_|(refine jdq rfl rfl ?_ ?_ ?_;kernel_rfl;kernel_rfl)|refine zB rfl rfl rfl (by repeat constructor) rfl ?_|refine zH .here rfl rfl rfl rfl ?_|refine zH (.there .here) rfl rfl rfl rfl ?_|refine zH (.there (.there .here)) rfl rfl rfl rfl ?_|refine zH (.there (.there (.there .here))) rfl rfl rfl rfl ?_|refine zH (.there (.there (.there (.there .here)))) rfl rfl rfl rfl ?_)
    refine oS (ev_indexAddr rfl rfl rfl hlt) rfl ?_
    refine oS (ev_load rfl rfl (Rdb.ofF hcc1)) rfl ?_
    repeat (first|refine zJ rfl rfl ?_|refine jr rfl ?_|refine jn ?_|refine zM rfl rfl ?_|(refine zC rfl rfl ?_ rfl ?_;omega)|(refine zD rfl rfl ?_ rfl ?_;omega)|(refine zP rfl ?_ rfl ?_;omega)|refine zG rfl rfl rfl rfl ?_|(refine jdq rfl rfl ?_ ?_ ?_;kernel_rfl;kernel_rfl)|refine zB rfl rfl rfl (by repeat constructor) rfl ?_|refine zH .here rfl rfl rfl rfl ?_|refine zH (.there .here) rfl rfl rfl rfl ?_|refine zH (.there (.there .here)) rfl rfl rfl rfl ?_|refine zH (.there (.there (.there .here))) rfl rfl rfl rfl ?_|refine zH (.there (.there (.there (.there .here)))) rfl rfl rfl rfl ?_)
    refine oS (ev_indexAddr rfl rfl rfl hlt2) rfl ?_
    refine oS (ev_load rfl rfl (Rdb.ofF hcc2)) rfl ?_
    by_cases hxy : x = y
    · subst hxy
      repeat (first|refine zJ rfl rfl ?_|refine jr rfl ?_|refine jn ?_|refine zM rfl rfl ?_|(refine zC rfl rfl ?_ rfl ?_;omega)|(refine zD rfl rfl ?_ rfl ?_;omega)|(refine zP rfl ?_ rfl ?_;omega)|refine zG rfl rfl rfl rfl ?_|(refine jdq rfl rfl ?_ ?_ ?_;kernel_rfl;kernel_rfl)|refine zB rfl rfl rfl (by repeat constructor) rfl ?_|refine zH .here rfl rfl rfl rfl ?_|refine zH (.there .here) rfl rfl rfl rfl ?_|refine zH (.there (.there .here)) rfl rfl rfl rfl ?_|refine zH (.there (.there (.there .here))) rfl rfl rfl rfl ?_|refine zH (.there (.there (.there (.there .here)))) rfl rfl rfl rfl ?_)
      refine J_again (i + 1) ⟨hlt, ?_⟩ (by omega) ⟨⟨rfl, rfl, rfl, rfl, trivial⟩, fun w s => s⟩
      rw [List.take_add_one, List.take_add_one, he, hg1, hg2]
    · rw [decide_eq_false (fun e => hxy (by subst e; rw [hg1] at hg2; exact Option.some.inj hg2))]
      repeat (first|refine zJ rfl rfl ?_|refine jr rfl ?_|refine jn ?_|refine zM rfl rfl ?_|(refine zC rfl rfl ?_ rfl ?_;omega)|(refine zD rfl rfl ?_ rfl ?_;omega)|(refine zP rfl ?_ rfl ?_;omega)|refine zG rfl rfl rfl rfl ?_|(refine jdq rfl rfl ?_ ?_ ?_;kernel_rfl;kernel_rfl)|refine zB rfl rfl rfl (by repeat constructor) rfl ?_|refine zH .here rfl rfl rfl rfl ?_|refine zH (.there .here) rfl rfl rfl rfl ?_|refine zH (.there (.there .here)) rfl rfl rfl rfl ?_|refine zH (.there (.there (.there .here))) rfl rfl rfl rfl ?_|refine zH (.there (.there (.there (.there .here)))) rfl rfl rfl rfl ?_)
      exact J_ret1 rfl rfl [] rfl (PH.ler _) ⟨rfl, rfl⟩
  · obtain rfl : i = l1.length := by omega
    rw [List.take_length, hne, List.take_length] at he
    rw [decide_eq_true he]
    repeat (first|refine zJ rfl rfl ?_|refine jr rfl ?_|refine jn ?_|refine zM rfl rfl ?_|(refine zC rfl rfl ?_ rfl ?_;omega)|(refine zD rfl rfl ?_ rfl ?_;omega)|(refine zP rfl ?_ rfl ?_;omega)|refine zG rfl rfl rfl rfl ?_|(refine jdq rfl rfl ?_ ?_ ?_;kernel_rfl;kernel_rfl)|refine zB rfl rfl rfl (by repeat constructor) rfl ?_|refine zH .here rfl rfl rfl rfl ?_|refine zH (.there .here) rfl rfl rfl rfl ?_|refine zH (.there (.there .here)) rfl rfl rfl rfl ?_|refine zH (.there (.there (.there .here))) rfl rfl rfl rfl ?_|refine zH (.there (.there (.there (.there .here)))) rfl rfl rfl rfl ?_)
    exact J_ret1 rfl rfl [] rfl (PH.ler _) ⟨rfl, rfl⟩
set_option maxHeartbeats 2000000 in
theorem eqTags_spec (v1 v2 : Value) (l1 l2 : List W8) (F : PH) (h1 : TagRow F v1 l1) (h2 : TagRow F v2 l2) (hl : l1.length ≤ 1000000000) : Pure Tryd.prog 52 [v1, v2] F (.bool (decide (l1 = l2))) := by
  have hu : ∀ {l : List W8}, (∀ t ∈ l, t.length = 32) → ∀ c ∈ l.map u8s, c.length = 32 := fun h c hc => by
    obtain ⟨t, ht, rfl⟩ := List.mem_map.1 hc
    rw [u8s_len, h t ht]
  obtain ⟨⟨_, a1, c1, rfl, hc1, _⟩, t1⟩ := id h1
  obtain ⟨⟨_, a2, c2, rfl, hc2, _⟩, t2⟩ := id h2
  refine Spec.of2 Tryd.func52 rfl rfl fun X w0 => ?_
  by_cases hne : l1.length = l2.length
  rotate_left
  · rw [decide_eq_false (fun e => hne (by rw [e]))]
    repeat (first|refine zJ rfl rfl ?_|refine jr rfl ?_|refine jn ?_|refine zM rfl rfl ?_|(refine zC rfl rfl ?_ rfl ?_;omega)|(refine zD rfl rfl ?_ rfl ?_;omega)|(refine zP rfl ?_ rfl ?_;omega)|refine zG rfl rfl rfl rfl ?_|(refine jdq rfl rfl ?_ ?_ ?_;kernel_rfl;kernel_rfl)|refine zB rfl rfl rfl (by repeat constructor) rfl ?_|refine zH .here rfl rfl rfl rfl ?_|refine zH (.there .here) rfl rfl rfl rfl ?_|refine zH (.there (.there .here)) rfl rfl rfl rfl ?_|refine zH (.there (.there (.there .here))) rfl rfl rfl rfl ?_|refine zH (.there (.there (.there (.there .here)))) rfl rfl rfl rfl ?_)
    exact J_ret1 rfl rfl [] rfl (PH.ler _) ⟨rfl, rfl⟩
  repeat (first|refine zJ rfl rfl ?_|refine jr rfl ?_|refine jn ?_|refine zM rfl rfl ?_|(refine zC rfl rfl ?_ rfl ?_;omega)|(refine zD rfl rfl ?_ rfl ?_;omega)|(refine zP rfl ?_ rfl ?_;omega)|refine zG rfl rfl rfl rfl ?_|(refine jdq rfl rfl ?_ ?_ ?_;kernel_rfl;kernel_rfl)|refine zB rfl rfl rfl (by repeat constructor) rfl ?_|refine zH .here rfl rfl rfl rfl ?_|refine zH (.there .here) rfl rfl rfl rfl ?_|refine zH (.there (.there .here)) rfl rfl rfl rfl ?_|refine zH (.there (.there (.there .here))) rfl rfl rfl rfl ?_|refine zH (.there (.there (.there (.there .here)))) rfl rfl rfl rfl ?_)
  refine J_loop (ι := Nat) (fun i => i ≤ l1.length ∧ l1.take i = l2.take i) (fun i => l1.length - i) (fun i => [(0, .slice a1 l1.length c1), (1, .slice a2 l2.length c2), (12, .int .i64 l1.length), (13, .int .i64 i)]) (fun _ => F) (fun _ => X) 0 ⟨Nat.zero_le _, rfl⟩ ⟨⟨rfl, rfl, rfl, rfl, trivial⟩, fun w s => s⟩ ?_
  rintro i ⟨hi, he⟩
  by_cases hlt : i < l1.length
  · have hlt2 : i < l2.length := by omega
    have hg1 : l1[i]? = some l1[i] := List.getElem?_eq_getElem hlt
    have hg2 : l2[i]? = some l2[i] := List.getElem?_eq_getElem hlt2
    have q1 := t1 _ (List.getElem_mem hlt)
    have q2 := t2 _ (List.getElem_mem hlt2)
    obtain ⟨b1, o1, rfl, hcc1⟩ := SliceV.row h1.1 (hu t1) (i := i) (r := u8s l1[i]) (by rw [List.getElem?_map, hg1]; rfl) hlt
    obtain ⟨b2, o2, rfl, hcc2⟩ := SliceV.row h2.1 (hu t2) (i := i) (r := u8s l2[i]) (by rw [List.getElem?_map, hg2]; rfl) hlt2
    generalize hx : l1[i] = x at *
    generalize hy : l2[i] = y at *
    repeat (first|refine zJ rfl rfl ?_|refine jr rfl ?_|refine jn ?_|refine zM rfl rfl ?_|(refine zC rfl rfl ?_ rfl ?_;omega)|(refine zD rfl rfl ?_ rfl ?_;omega)|(refine zP rfl ?_ rfl ?_;omega)|refine zG rfl rfl rfl rfl ?_|(refine jdq rfl rfl ?_ ?_ ?_;kernel_rfl;kernel_rfl)|refine zB rfl rfl rfl (by repeat constructor) rfl ?_|refine zH .here rfl rfl rfl rfl ?_|refine zH (.there .here) rfl rfl rfl rfl ?_|refine zH (.there (.there .here)) rfl rfl rfl rfl ?_|refine zH (.there (.there (.there .here))) rfl rfl rfl rfl ?_|refine zH (.there (.there (.there (.there .here)))) rfl rfl rfl rfl ?_)
    refine oS (ev_indexAddr rfl rfl rfl hlt) rfl ?_
    refine oS (ev_load_agg rfl rfl (Rdb.ofF hcc1) (by rw [u8s_len]; exact q1)) rfl ?_
    repeat (first|refine zJ rfl rfl ?_|refine jr rfl ?_|refine jn ?_|refine zM rfl rfl ?_|(refine zC rfl rfl ?_ rfl ?_;omega)|(refine zD rfl rfl ?_ rfl ?_;omega)|(refine zP rfl ?_ rfl ?_;omega)|refine zG rfl rfl rfl rfl ?_|(refine jdq rfl rfl ?_ ?_ ?_;kernel_rfl;kernel_rfl)|refine zB rfl rfl rfl (by repeat constructor) rfl ?_|refine zH .here rfl rfl rfl rfl ?_|refine zH (.there .here) rfl rfl rfl rfl ?_|refine zH (.there (.there .here)) rfl rfl rfl rfl ?_|refine zH (.there (.there (.there .here))) rfl rfl rfl rfl ?_|refine zH (.there (.there (.there (.there .here)))) rfl rfl rfl rfl ?_)
    refine oS (ev_indexAddr rfl rfl rfl hlt2) rfl ?_
    refine oS (ev_load_agg rfl rfl (Rdb.ofF hcc2) (by rw [u8s_len]; exact q2)) rfl ?_
    refine oS (ev_arr_neq (n := 32) rfl rfl rfl rfl q1 q2 (by kernel_rfl)) rfl ?_
    by_cases hxy : x = y
    · subst hxy
      rw [show (x == x) = true from by simp]
      repeat (first|refine zJ rfl rfl ?_|refine jr rfl ?_|refine jn ?_|refine zM rfl rfl ?_|(refine zC rfl rfl ?_ rfl ?_;omega)|(refine zD rfl rfl ?_ rfl ?_;omega)|(refine zP rfl ?_ rfl ?_;omega)|refine zG rfl rfl rfl rfl ?_|(refine jdq rfl rfl ?_ ?_ ?_;kernel_rfl;kernel_rfl)|refine zB rfl rfl rfl (by repeat constructor) rfl ?_|refine zH .here rfl rfl rfl rfl ?_|refine zH (.there .here) rfl rfl rfl rfl ?_|refine zH (.there (.there .here)) rfl rfl rfl rfl ?_|refine zH (.there (.there (.there .here))) rfl rfl rfl rfl ?_|refine zH (.there (.there (.there (.there .here)))) rfl rfl rfl rfl ?_)
      refine J_again (i + 1) ⟨hlt, ?_⟩ (by omega) ⟨⟨rfl, rfl, rfl, rfl, trivial⟩, fun w s => s⟩
      rw [List.take_add_one, List.take_add_one, he, hg1, hg2]
    · rw [decide_eq_false (fun e => hxy (by subst e; rw [hg1] at hg2; exact Option.some.inj hg2)), show (x == y) = false from by simpa using hxy]
      repeat (first|refine zJ rfl rfl ?_|refine jr rfl ?_|refine jn ?_|refine zM rfl rfl ?_|(refine zC rfl rfl ?_ rfl ?_;omega)|(refine zD rfl rfl ?_ rfl ?_;omega)|(refine zP rfl ?_ rfl ?_;omega)|refine zG rfl rfl rfl rfl ?_|(refine jdq rfl rfl ?_ ?_ ?_;kernel_rfl;kernel_rfl)|refine zB rfl rfl rfl (by repeat constructor) rfl ?_|refine zH .here rfl rfl rfl rfl ?_|refine zH (.there .here) rfl rfl rfl rfl ?_|refine zH (.there (.there .here)) rfl rfl rfl rfl ?_|refine zH (.there (.there (.there .here))) rfl rfl rfl rfl ?_|refine zH (.there (.there (.there (.there .here)))) rfl rfl rfl rfl ?_)
      exact J_ret1 rfl rfl [] rfl (PH.ler _) ⟨rfl, rfl⟩
  · obtain rfl : i = l1.length := by omega
    rw [List.take_length, hne, List.take_length] at he
    rw [decide_eq_true he]
    repeat (first|refine zJ rfl rfl ?_|refine jr rfl ?_|refine jn ?_|refine zM rfl rfl ?_|(refine zC rfl rfl ?_ rfl ?_;omega)|(refine zD rfl rfl ?_ rfl ?_;omega)|(refine zP rfl ?_ rfl ?_;omega)|refine zG rfl rfl rfl rfl ?_|(refine jdq rfl rfl ?_ ?_ ?_;kernel_rfl;kernel_rfl)|refine zB rfl rfl rfl (by repeat constructor) rfl ?_|refine zH .here rfl rfl rfl rfl ?_|refine zH (.there .here) rfl rfl rfl rfl ?_|refine zH (.there (.there .here)) rfl rfl rfl rfl ?_|refine zH (.there (.there (.there .here))) rfl rfl rfl rfl ?_|refine zH (.there (.there (.there (.there .here)))) rfl rfl rfl rfl ?_)
    exact J_ret1 rfl rfl [] rfl (PH.ler _) ⟨rfl, rfl⟩
def coB (a b : Co) : Bool := decide (a.client = b.client) && (decide (a.stamp = b.stamp) && (decide (a.op = b.op) && (decide ((strOf a.letter).toList = (strOf b.letter).toList) && (decide (a.a = b.a) && (decide (a.b = b.b) && (decide ((strOf a.text).toList = (strOf b.text).toList) && true))))))
theorem coB_iff (a b : Co) : coB a b = true ↔ a = b := by
  obtain ⟨a1, a2, a3, a4, a5, a6, a7⟩ := a
  obtain ⟨b1, b2, b3, b4, b5, b6, b7⟩ := b
  unfold coB
  simp only [strOf_toList, Bool.and_eq_true, decide_eq_true_eq, and_true, Co.mk.injEq]
def sameB (a b : St) : Bool := decide (a.kind = b.kind) && (decide (a.who = b.who) && (decide (a.to = b.to) && (decide (a.at_ = b.at_) && (coB a.core b.core && (decide (a.blank = b.blank) && (decide (a.orgs = b.orgs) && (decide (a.mk1 = b.mk1) && (decide (a.mf1 = b.mf1) && (decide (a.body = b.body) && decide (a.tags = b.tags))))))))))
theorem sameB_iff (a b : St) : sameB a b = true ↔ a = b := by
  obtain ⟨a1, a2, a3, a4, a5, a6, a7, a8, a9, a10, a11⟩ := a
  obtain ⟨b1, b2, b3, b4, b5, b6, b7, b8, b9, b10, b11⟩ := b
  unfold sameB
  simp only [Bool.and_eq_true, decide_eq_true_eq, coB_iff, St.mk.injEq]
  exact ⟨fun ⟨h1, h2, h3, h4, h5, h6, h7, h⟩ => ⟨h1, h2, h3, h4, h5, h7, h6, h⟩, fun ⟨h1, h2, h3, h4, h5, h6, h7, h⟩ => ⟨h1, h2, h3, h4, h5, h7, h6, h⟩⟩
def msC (x : St) (vb vt : Value) : List Value := [.int .i64 x.mk1, .int .i64 x.mf1, vb, vt]
set_option maxHeartbeats 32000000 in
theorem same_spec (a b : St) (va1 va2 va3 vb1 vb2 vb3 : Value) (F : PH) (ha : StOk F a va1 va2 va3) (hb : StOk F b vb1 vb2 vb3) (hol : a.orgs.length ≤ 1000000000) (htl : a.tags.length ≤ 1000000000) : Pure Tryd.prog 26 [.agg (stC a va1 va2 va3).toArray, .agg (stC b vb1 vb2 vb3).toArray] F (.bool (sameB a b)) := by
  refine Spec.of2 Tryd.func26 rfl rfl fun X w0 => ?_
  obtain ⟨_, aoa, aoc, rfl, _, _⟩ := slice1 ha.orgs.1
  obtain ⟨_, boa, boc, rfl, _, _⟩ := slice1 hb.orgs.1
  obtain ⟨_, aba, abc, rfl, _, _⟩ := slice1 ha.body
  obtain ⟨_, bba, bbc, rfl, _, _⟩ := slice1 hb.body
  obtain ⟨ata, atc, rfl⟩ : ∃ ta tc, va3 = .slice ta a.tags.length tc := by
    obtain ⟨⟨_, a, c, e, _, _⟩, _⟩ := ha.tags
    exact ⟨a, c, e⟩
  obtain ⟨bta, btc, rfl⟩ : ∃ ta tc, vb3 = .slice ta b.tags.length tc := by
    obtain ⟨⟨_, a, c, e, _, _⟩, _⟩ := hb.tags
    exact ⟨a, c, e⟩
  have heq := eqInts_spec _ _ _ _ F ha.orgs hb.orgs hol
  have htq := eqTags_spec _ _ _ _ F ha.tags hb.tags htl
  have hba := ha.body
  have hbb := hb.body
  clear ha hb
  repeat (first|refine zJ rfl rfl ?_|refine jr rfl ?_|refine jn ?_|refine zM rfl rfl ?_|(refine zC rfl rfl ?_ rfl ?_;omega)|(refine zD rfl rfl ?_ rfl ?_;omega)|(refine zP rfl ?_ rfl ?_;omega)|refine zG rfl rfl rfl rfl ?_|(refine jdq rfl rfl ?_ ?_ ?_;kernel_rfl;kernel_rfl)|refine zB rfl rfl rfl (by repeat constructor) rfl ?_|refine zH .here rfl rfl rfl rfl ?_|refine zH (.there .here) rfl rfl rfl rfl ?_|refine zH (.there (.there .here)) rfl rfl rfl rfl ?_|refine zH (.there (.there (.there .here))) rfl rfl rfl rfl ?_|refine zH (.there (.there (.there (.there .here)))) rfl rfl rfl rfl ?_)
  refine oE (ev_box rfl .agg) rfl ?_; rintro _ _ _ _ ⟨rfl, b2, rfl, rfl⟩
  refine oE (ev_box rfl .agg) rfl ?_; rintro _ _ _ _ ⟨rfl, b3, rfl, rfl⟩
  repeat (first|refine zJ rfl rfl ?_|refine jr rfl ?_|refine jn ?_|refine zM rfl rfl ?_|(refine zC rfl rfl ?_ rfl ?_;omega)|(refine zD rfl rfl ?_ rfl ?_;omega)|(refine zP rfl ?_ rfl ?_;omega)|refine zG rfl rfl rfl rfl ?_|(refine jdq rfl rfl ?_ ?_ ?_;kernel_rfl;kernel_rfl)|refine zB rfl rfl rfl (by repeat constructor) rfl ?_|refine zH .here rfl rfl rfl rfl ?_|refine zH (.there .here) rfl rfl rfl rfl ?_|refine zH (.there (.there .here)) rfl rfl rfl rfl ?_|refine zH (.there (.there (.there .here))) rfl rfl rfl rfl ?_|refine zH (.there (.there (.there (.there .here)))) rfl rfl rfl rfl ?_)
  refine J_join (ι := Nat × Nat) [_] (fun _ => True) (fun p => [(2, .pointer (some ⟨b2, 0, none⟩)), (3, .pointer (some ⟨b3, 0, none⟩)), (5, .pointer (some ⟨p.1, 0, none⟩)), (6, .pointer (some ⟨p.2, 0, none⟩))]) (fun _ => F) (fun p => blk p.1 29 (msC a (.slice aba a.body.length abc) (.slice ata a.tags.length atc)) :: blk p.2 29 (msC b (.slice bba b.body.length bbc) (.slice bta b.tags.length btc)) :: blk b3 31 (stC b (.slice boa b.orgs.length boc) (.slice bba b.body.length bbc) (.slice bta b.tags.length btc)) :: blk b2 31 (stC a (.slice aoa a.orgs.length aoc) (.slice aba a.body.length abc) (.slice ata a.tags.length atc)) :: X) ?_ ?_
  · show J _ (_ :: _) _ _ _
    refine ja F [blk b3 31 (stC b (.slice boa b.orgs.length boc) (.slice bba b.body.length bbc) (.slice bta b.tags.length btc)), blk b2 31 (stC a (.slice aoa a.orgs.length aoc) (.slice aba a.body.length abc) (.slice ata a.tags.length atc))] ?_ ?_ ?_; kernel_rfl
    · exact fun w s => Sat.left (A := [_, _]) s
    refine aT 0 rfl (ev_qe rfl) rfl rfl ?_ ?_ ?_ ?_; kernel_rfl; kernel_rfl; kernel_rfl
    refine aT 1 rfl (ev_load_agg (cs := msC a (.slice aba a.body.length abc) (.slice ata a.tags.length atc)) rfl rfl (Rdb.ofB (n := 0) (.there .here) rfl) rfl) rfl rfl ?_ ?_ ?_ ?_; kernel_rfl; kernel_rfl; kernel_rfl
    refine aT 2 rfl (ev_qe rfl) rfl rfl ?_ ?_ ?_ ?_; kernel_rfl; kernel_rfl; kernel_rfl
    refine aT 3 rfl (ev_load_agg (cs := msC b (.slice bba b.body.length bbc) (.slice bta b.tags.length btc)) rfl rfl (Rdb.ofB (n := 0) .here rfl) rfl) rfl rfl ?_ ?_ ?_ ?_; kernel_rfl; kernel_rfl; kernel_rfl
    refine aB2 (i := 4) (i' := 5) (by kernel_rfl) ?_ ?_
    · refine aE rfl (ev_alloc (cs := msC zSt nl nl) rfl) rfl rfl (fun _ _ _ _ hq w s => by obtain ⟨rfl, b9, _, rfl⟩ := hq; exact Sat.left (A := [_, _]) s.drop) ?_
      rintro _ _ _ _ ⟨rfl, b5, rfl, rfl⟩
      refine aB (i := 5) (by kernel_rfl) (aE rfl (ev_alloc (cs := msC zSt nl nl) rfl) rfl rfl (fun _ _ _ _ hq w s => by obtain ⟨rfl, b9, _, rfl⟩ := hq; exact Sat.left (A := [_, _]) s.drop.drop) ?_)
      rintro _ _ _ _ ⟨rfl, b6, rfl, rfl⟩
      refine aB (i := 6) (by kernel_rfl) (aN rfl (ev_store rfl rfl .agg rfl rfl (lay_all (zs := msC zSt nl nl) rfl) (by unfold msC; (repeat (first | exact ones_nil | refine ones_cons rfl ?_))) (.there .here)) rfl (fun _ _ _ _ hq w s => by obtain ⟨rfl, _, rfl⟩ := hq; exact Sat.left (A := [_, _]) s.drop.drop) ?_)
      rintro _ _ _ _ ⟨rfl, _, rfl⟩
      refine aB (i := 7) (by kernel_rfl) (aN rfl (ev_store rfl rfl .agg rfl rfl (lay_all (zs := msC zSt nl nl) rfl) (by unfold msC; (repeat (first | exact ones_nil | refine ones_cons rfl ?_))) .here) rfl (fun _ _ _ _ hq w s => by obtain ⟨rfl, _, rfl⟩ := hq; exact Sat.left (A := [_, _]) s.drop.drop) ?_)
      rintro _ _ _ _ ⟨rfl, _, rfl⟩
      refine aD (by kernel_rfl) ?_
      exact J_joined (ι := Nat × Nat) (b5, b6) trivial ⟨⟨rfl, rfl, rfl, rfl, trivial⟩, fun w s => s.pick (.there .here)⟩
    · refine aE rfl (ev_alloc (cs := msC zSt nl nl) rfl) rfl rfl (fun _ _ _ _ hq w s => by obtain ⟨rfl, b9, _, rfl⟩ := hq; exact Sat.left (A := [_, _]) s.drop) ?_
      rintro _ _ _ _ ⟨rfl, b6, rfl, rfl⟩
      refine aB (i := 4) (by kernel_rfl) (aE rfl (ev_alloc (cs := msC zSt nl nl) rfl) rfl rfl (fun _ _ _ _ hq w s => by obtain ⟨rfl, b9, _, rfl⟩ := hq; exact Sat.left (A := [_, _]) s.drop.drop) ?_)
      rintro _ _ _ _ ⟨rfl, b5, rfl, rfl⟩
      refine aB (i := 6) (by kernel_rfl) (aN rfl (ev_store rfl rfl .agg rfl rfl (lay_all (zs := msC zSt nl nl) rfl) (by unfold msC; (repeat (first | exact ones_nil | refine ones_cons rfl ?_))) .here) rfl (fun _ _ _ _ hq w s => by obtain ⟨rfl, _, rfl⟩ := hq; exact Sat.left (A := [_, _]) s.drop.drop) ?_)
      rintro _ _ _ _ ⟨rfl, _, rfl⟩
      refine aB (i := 7) (by kernel_rfl) (aN rfl (ev_store rfl rfl .agg rfl rfl (lay_all (zs := msC zSt nl nl) rfl) (by unfold msC; (repeat (first | exact ones_nil | refine ones_cons rfl ?_))) (.there .here)) rfl (fun _ _ _ _ hq w s => by obtain ⟨rfl, _, rfl⟩ := hq; exact Sat.left (A := [_, _]) s.drop.drop) ?_)
      rintro _ _ _ _ ⟨rfl, _, rfl⟩
      refine aD (by kernel_rfl) ?_
      exact J_joined (ι := Nat × Nat) (b5, b6) trivial ⟨⟨rfl, rfl, rfl, rfl, trivial⟩, fun w s => s⟩
  rintro ⟨b5, b6⟩ _
  dsimp only
  have hno : a ≠ b → sameB a b = false := fun h => by
    cases e : sameB a b with
    | false => rfl
    | true => exact absurd ((sameB_iff a b).1 e) h
  by_cases h1 : a.kind = b.kind
  rotate_left
  · rw [hno fun e => h1 (by rw [e])]
    repeat (first|refine zJ rfl rfl ?_|refine jr rfl ?_|refine jn ?_|refine zM rfl rfl ?_|(refine zC rfl rfl ?_ rfl ?_;omega)|(refine zD rfl rfl ?_ rfl ?_;omega)|(refine zP rfl ?_ rfl ?_;omega)|refine zG rfl rfl rfl rfl ?_|(refine jdq rfl rfl ?_ ?_ ?_;kernel_rfl;kernel_rfl)|refine zB rfl rfl rfl (by repeat constructor) rfl ?_|refine zH .here rfl rfl rfl rfl ?_|refine zH (.there .here) rfl rfl rfl rfl ?_|refine zH (.there (.there .here)) rfl rfl rfl rfl ?_|refine zH (.there (.there (.there .here))) rfl rfl rfl rfl ?_|refine zH (.there (.there (.there (.there .here)))) rfl rfl rfl rfl ?_)
    exact J_retv rfl (.tmp rfl .nil) [] (fun w s => s.drop.drop.drop.drop) (PH.ler _) ⟨rfl, rfl⟩
  by_cases h2 : a.who = b.who
  rotate_left
  · rw [hno fun e => h2 (by rw [e])]
    repeat (first|refine zJ rfl rfl ?_|refine jr rfl ?_|refine jn ?_|refine zM rfl rfl ?_|(refine zC rfl rfl ?_ rfl ?_;omega)|(refine zD rfl rfl ?_ rfl ?_;omega)|(refine zP rfl ?_ rfl ?_;omega)|refine zG rfl rfl rfl rfl ?_|(refine jdq rfl rfl ?_ ?_ ?_;kernel_rfl;kernel_rfl)|refine zB rfl rfl rfl (by repeat constructor) rfl ?_|refine zH .here rfl rfl rfl rfl ?_|refine zH (.there .here) rfl rfl rfl rfl ?_|refine zH (.there (.there .here)) rfl rfl rfl rfl ?_|refine zH (.there (.there (.there .here))) rfl rfl rfl rfl ?_|refine zH (.there (.there (.there (.there .here)))) rfl rfl rfl rfl ?_)
    exact J_retv rfl (.tmp rfl .nil) [] (fun w s => s.drop.drop.drop.drop) (PH.ler _) ⟨rfl, rfl⟩
  by_cases h3 : a.to = b.to
  rotate_left
  · rw [hno fun e => h3 (by rw [e])]
    repeat (first|refine zJ rfl rfl ?_|refine jr rfl ?_|refine jn ?_|refine zM rfl rfl ?_|(refine zC rfl rfl ?_ rfl ?_;omega)|(refine zD rfl rfl ?_ rfl ?_;omega)|(refine zP rfl ?_ rfl ?_;omega)|refine zG rfl rfl rfl rfl ?_|(refine jdq rfl rfl ?_ ?_ ?_;kernel_rfl;kernel_rfl)|refine zB rfl rfl rfl (by repeat constructor) rfl ?_|refine zH .here rfl rfl rfl rfl ?_|refine zH (.there .here) rfl rfl rfl rfl ?_|refine zH (.there (.there .here)) rfl rfl rfl rfl ?_|refine zH (.there (.there (.there .here))) rfl rfl rfl rfl ?_|refine zH (.there (.there (.there (.there .here)))) rfl rfl rfl rfl ?_)
    exact J_retv rfl (.tmp rfl .nil) [] (fun w s => s.drop.drop.drop.drop) (PH.ler _) ⟨rfl, rfl⟩
  by_cases h4 : a.at_ = b.at_
  rotate_left
  · rw [hno fun e => h4 (by rw [e])]
    repeat (first|refine zJ rfl rfl ?_|refine jr rfl ?_|refine jn ?_|refine zM rfl rfl ?_|(refine zC rfl rfl ?_ rfl ?_;omega)|(refine zD rfl rfl ?_ rfl ?_;omega)|(refine zP rfl ?_ rfl ?_;omega)|refine zG rfl rfl rfl rfl ?_|(refine jdq rfl rfl ?_ ?_ ?_;kernel_rfl;kernel_rfl)|refine zB rfl rfl rfl (by repeat constructor) rfl ?_|refine zH .here rfl rfl rfl rfl ?_|refine zH (.there .here) rfl rfl rfl rfl ?_|refine zH (.there (.there .here)) rfl rfl rfl rfl ?_|refine zH (.there (.there (.there .here))) rfl rfl rfl rfl ?_|refine zH (.there (.there (.there (.there .here)))) rfl rfl rfl rfl ?_)
    exact J_retv rfl (.tmp rfl .nil) [] (fun w s => s.drop.drop.drop.drop) (PH.ler _) ⟨rfl, rfl⟩
  repeat (first|refine zJ rfl rfl ?_|refine jr rfl ?_|refine jn ?_|refine zM rfl rfl ?_|(refine zC rfl rfl ?_ rfl ?_;omega)|(refine zD rfl rfl ?_ rfl ?_;omega)|(refine zP rfl ?_ rfl ?_;omega)|refine zG rfl rfl rfl rfl ?_|(refine jdq rfl rfl ?_ ?_ ?_;kernel_rfl;kernel_rfl)|refine zB rfl rfl rfl (by repeat constructor) rfl ?_|refine zH .here rfl rfl rfl rfl ?_|refine zH (.there .here) rfl rfl rfl rfl ?_|refine zH (.there (.there .here)) rfl rfl rfl rfl ?_|refine zH (.there (.there (.there .here))) rfl rfl rfl rfl ?_|refine zH (.there (.there (.there (.there .here)))) rfl rfl rfl rfl ?_)
  refine oS (ev_load_agg (cs := coC a.core) rfl rfl (Rdb.ofB (n := 4) (.there (.there (.there .here))) rfl) rfl) rfl ?_
  repeat (first|refine zJ rfl rfl ?_|refine jr rfl ?_|refine jn ?_|refine zM rfl rfl ?_|(refine zC rfl rfl ?_ rfl ?_;omega)|(refine zD rfl rfl ?_ rfl ?_;omega)|(refine zP rfl ?_ rfl ?_;omega)|refine zG rfl rfl rfl rfl ?_|(refine jdq rfl rfl ?_ ?_ ?_;kernel_rfl;kernel_rfl)|refine zB rfl rfl rfl (by repeat constructor) rfl ?_|refine zH .here rfl rfl rfl rfl ?_|refine zH (.there .here) rfl rfl rfl rfl ?_|refine zH (.there (.there .here)) rfl rfl rfl rfl ?_|refine zH (.there (.there (.there .here))) rfl rfl rfl rfl ?_|refine zH (.there (.there (.there (.there .here)))) rfl rfl rfl rfl ?_)
  refine oS (ev_load_agg (cs := coC b.core) rfl rfl (Rdb.ofB (n := 4) (.there (.there .here)) rfl) rfl) rfl ?_
  refine oS (ev_st_eql (r := coB a.core b.core) rfl rfl (by kernel_rfl) (by kernel_rfl) (by kernel_rfl) (coB_eq a.core b.core)) rfl ?_
  cases h5 : coB a.core b.core with
  | false =>
    rw [hno fun e => by rw [e, (coB_iff b.core b.core).2 rfl] at h5; cases h5]
    repeat (first|refine zJ rfl rfl ?_|refine jr rfl ?_|refine jn ?_|refine zM rfl rfl ?_|(refine zC rfl rfl ?_ rfl ?_;omega)|(refine zD rfl rfl ?_ rfl ?_;omega)|(refine zP rfl ?_ rfl ?_;omega)|refine zG rfl rfl rfl rfl ?_|(refine jdq rfl rfl ?_ ?_ ?_;kernel_rfl;kernel_rfl)|refine zB rfl rfl rfl (by repeat constructor) rfl ?_|refine zH .here rfl rfl rfl rfl ?_|refine zH (.there .here) rfl rfl rfl rfl ?_|refine zH (.there (.there .here)) rfl rfl rfl rfl ?_|refine zH (.there (.there (.there .here))) rfl rfl rfl rfl ?_|refine zH (.there (.there (.there (.there .here)))) rfl rfl rfl rfl ?_)
    exact J_retv rfl (.tmp rfl .nil) [] (fun w s => s.drop.drop.drop.drop) (PH.ler _) ⟨rfl, rfl⟩
  | true =>
  by_cases h6 : a.blank = b.blank
  rotate_left
  · rw [hno fun e => h6 (by rw [e])]
    repeat (first|refine zJ rfl rfl ?_|refine jr rfl ?_|refine jn ?_|refine zM rfl rfl ?_|(refine zC rfl rfl ?_ rfl ?_;omega)|(refine zD rfl rfl ?_ rfl ?_;omega)|(refine zP rfl ?_ rfl ?_;omega)|refine zG rfl rfl rfl rfl ?_|(refine jdq rfl rfl ?_ ?_ ?_;kernel_rfl;kernel_rfl)|refine zB rfl rfl rfl (by repeat constructor) rfl ?_|refine zH .here rfl rfl rfl rfl ?_|refine zH (.there .here) rfl rfl rfl rfl ?_|refine zH (.there (.there .here)) rfl rfl rfl rfl ?_|refine zH (.there (.there (.there .here))) rfl rfl rfl rfl ?_|refine zH (.there (.there (.there (.there .here)))) rfl rfl rfl rfl ?_)
    exact J_retv rfl (.tmp rfl .nil) [] (fun w s => s.drop.drop.drop.drop) (PH.ler _) ⟨rfl, rfl⟩
  repeat (first|refine zJ rfl rfl ?_|refine jr rfl ?_|refine jn ?_|refine zM rfl rfl ?_|(refine zC rfl rfl ?_ rfl ?_;omega)|(refine zD rfl rfl ?_ rfl ?_;omega)|(refine zP rfl ?_ rfl ?_;omega)|refine zG rfl rfl rfl rfl ?_|(refine jdq rfl rfl ?_ ?_ ?_;kernel_rfl;kernel_rfl)|refine zB rfl rfl rfl (by repeat constructor) rfl ?_|refine zH .here rfl rfl rfl rfl ?_|refine zH (.there .here) rfl rfl rfl rfl ?_|refine zH (.there (.there .here)) rfl rfl rfl rfl ?_|refine zH (.there (.there (.there .here))) rfl rfl rfl rfl ?_|refine zH (.there (.there (.there (.there .here)))) rfl rfl rfl rfl ?_)
  refine oP (heq) Tryd.call51 rfl rfl ?_
  by_cases h7 : a.orgs = b.orgs
  rotate_left
  · rw [hno fun e => h7 (by rw [e]), decide_eq_false h7]
    repeat (first|refine zJ rfl rfl ?_|refine jr rfl ?_|refine jn ?_|refine zM rfl rfl ?_|(refine zC rfl rfl ?_ rfl ?_;omega)|(refine zD rfl rfl ?_ rfl ?_;omega)|(refine zP rfl ?_ rfl ?_;omega)|refine zG rfl rfl rfl rfl ?_|(refine jdq rfl rfl ?_ ?_ ?_;kernel_rfl;kernel_rfl)|refine zB rfl rfl rfl (by repeat constructor) rfl ?_|refine zH .here rfl rfl rfl rfl ?_|refine zH (.there .here) rfl rfl rfl rfl ?_|refine zH (.there (.there .here)) rfl rfl rfl rfl ?_|refine zH (.there (.there (.there .here))) rfl rfl rfl rfl ?_|refine zH (.there (.there (.there (.there .here)))) rfl rfl rfl rfl ?_)
    exact J_retv rfl (.tmp rfl .nil) [] (fun w s => s.drop.drop.drop.drop) (PH.ler _) ⟨rfl, rfl⟩
  rw [decide_eq_true h7]
  by_cases h8 : a.mk1 = b.mk1
  rotate_left
  · rw [hno fun e => h8 (by rw [e])]
    repeat (first|refine zJ rfl rfl ?_|refine jr rfl ?_|refine jn ?_|refine zM rfl rfl ?_|(refine zC rfl rfl ?_ rfl ?_;omega)|(refine zD rfl rfl ?_ rfl ?_;omega)|(refine zP rfl ?_ rfl ?_;omega)|refine zG rfl rfl rfl rfl ?_|(refine jdq rfl rfl ?_ ?_ ?_;kernel_rfl;kernel_rfl)|refine zB rfl rfl rfl (by repeat constructor) rfl ?_|refine zH .here rfl rfl rfl rfl ?_|refine zH (.there .here) rfl rfl rfl rfl ?_|refine zH (.there (.there .here)) rfl rfl rfl rfl ?_|refine zH (.there (.there (.there .here))) rfl rfl rfl rfl ?_|refine zH (.there (.there (.there (.there .here)))) rfl rfl rfl rfl ?_)
    exact J_retv rfl (.tmp rfl .nil) [] (fun w s => s.drop.drop.drop.drop) (PH.ler _) ⟨rfl, rfl⟩
  by_cases h9 : a.mf1 = b.mf1
  rotate_left
  · rw [hno fun e => h9 (by rw [e])]
    repeat (first|refine zJ rfl rfl ?_|refine jr rfl ?_|refine jn ?_|refine zM rfl rfl ?_|(refine zC rfl rfl ?_ rfl ?_;omega)|(refine zD rfl rfl ?_ rfl ?_;omega)|(refine zP rfl ?_ rfl ?_;omega)|refine zG rfl rfl rfl rfl ?_|(refine jdq rfl rfl ?_ ?_ ?_;kernel_rfl;kernel_rfl)|refine zB rfl rfl rfl (by repeat constructor) rfl ?_|refine zH .here rfl rfl rfl rfl ?_|refine zH (.there .here) rfl rfl rfl rfl ?_|refine zH (.there (.there .here)) rfl rfl rfl rfl ?_|refine zH (.there (.there (.there .here))) rfl rfl rfl rfl ?_|refine zH (.there (.there (.there (.there .here)))) rfl rfl rfl rfl ?_)
    exact J_retv rfl (.tmp rfl .nil) [] (fun w s => s.drop.drop.drop.drop) (PH.ler _) ⟨rfl, rfl⟩
  repeat (first|refine zJ rfl rfl ?_|refine jr rfl ?_|refine jn ?_|refine zM rfl rfl ?_|(refine zC rfl rfl ?_ rfl ?_;omega)|(refine zD rfl rfl ?_ rfl ?_;omega)|(refine zP rfl ?_ rfl ?_;omega)|refine zG rfl rfl rfl rfl ?_|(refine jdq rfl rfl ?_ ?_ ?_;kernel_rfl;kernel_rfl)|refine zB rfl rfl rfl (by repeat constructor) rfl ?_|refine zH .here rfl rfl rfl rfl ?_|refine zH (.there .here) rfl rfl rfl rfl ?_|refine zH (.there (.there .here)) rfl rfl rfl rfl ?_|refine zH (.there (.there (.there .here))) rfl rfl rfl rfl ?_|refine zH (.there (.there (.there (.there .here)))) rfl rfl rfl rfl ?_)
  refine oS (eb_string rfl (SliceV.rds hba)) rfl ?_
  repeat (first|refine zJ rfl rfl ?_|refine jr rfl ?_|refine jn ?_|refine zM rfl rfl ?_|(refine zC rfl rfl ?_ rfl ?_;omega)|(refine zD rfl rfl ?_ rfl ?_;omega)|(refine zP rfl ?_ rfl ?_;omega)|refine zG rfl rfl rfl rfl ?_|(refine jdq rfl rfl ?_ ?_ ?_;kernel_rfl;kernel_rfl)|refine zB rfl rfl rfl (by repeat constructor) rfl ?_|refine zH .here rfl rfl rfl rfl ?_|refine zH (.there .here) rfl rfl rfl rfl ?_|refine zH (.there (.there .here)) rfl rfl rfl rfl ?_|refine zH (.there (.there (.there .here))) rfl rfl rfl rfl ?_|refine zH (.there (.there (.there (.there .here)))) rfl rfl rfl rfl ?_)
  refine oS (eb_string rfl (SliceV.rds hbb)) rfl ?_
  by_cases h10 : a.body = b.body
  rotate_left
  · rw [hno fun e => h10 (by rw [e])]
    refine oS (ev_seql (r := false) rfl rfl (decide_eq_false h10)) rfl ?_
    repeat (first|refine zJ rfl rfl ?_|refine jr rfl ?_|refine jn ?_|refine zM rfl rfl ?_|(refine zC rfl rfl ?_ rfl ?_;omega)|(refine zD rfl rfl ?_ rfl ?_;omega)|(refine zP rfl ?_ rfl ?_;omega)|refine zG rfl rfl rfl rfl ?_|(refine jdq rfl rfl ?_ ?_ ?_;kernel_rfl;kernel_rfl)|refine zB rfl rfl rfl (by repeat constructor) rfl ?_|refine zH .here rfl rfl rfl rfl ?_|refine zH (.there .here) rfl rfl rfl rfl ?_|refine zH (.there (.there .here)) rfl rfl rfl rfl ?_|refine zH (.there (.there (.there .here))) rfl rfl rfl rfl ?_|refine zH (.there (.there (.there (.there .here)))) rfl rfl rfl rfl ?_)
    exact J_retv rfl (.tmp rfl .nil) [] (fun w s => s.drop.drop.drop.drop) (PH.ler _) ⟨rfl, rfl⟩
  refine oS (ev_seql (r := true) rfl rfl (decide_eq_true h10)) rfl ?_
  repeat (first|refine zJ rfl rfl ?_|refine jr rfl ?_|refine jn ?_|refine zM rfl rfl ?_|(refine zC rfl rfl ?_ rfl ?_;omega)|(refine zD rfl rfl ?_ rfl ?_;omega)|(refine zP rfl ?_ rfl ?_;omega)|refine zG rfl rfl rfl rfl ?_|(refine jdq rfl rfl ?_ ?_ ?_;kernel_rfl;kernel_rfl)|refine zB rfl rfl rfl (by repeat constructor) rfl ?_|refine zH .here rfl rfl rfl rfl ?_|refine zH (.there .here) rfl rfl rfl rfl ?_|refine zH (.there (.there .here)) rfl rfl rfl rfl ?_|refine zH (.there (.there (.there .here))) rfl rfl rfl rfl ?_|refine zH (.there (.there (.there (.there .here)))) rfl rfl rfl rfl ?_)
  refine oP (htq) Tryd.call52 rfl rfl ?_
  by_cases h11 : a.tags = b.tags
  · have hyes : sameB a b = true := by
      unfold sameB
      simp [h1, h2, h3, h4, h5, h6, h7, h8, h9, h10, h11]
    rw [hyes, decide_eq_true h11]
    repeat (first|refine zJ rfl rfl ?_|refine jr rfl ?_|refine jn ?_|refine zM rfl rfl ?_|(refine zC rfl rfl ?_ rfl ?_;omega)|(refine zD rfl rfl ?_ rfl ?_;omega)|(refine zP rfl ?_ rfl ?_;omega)|refine zG rfl rfl rfl rfl ?_|(refine jdq rfl rfl ?_ ?_ ?_;kernel_rfl;kernel_rfl)|refine zB rfl rfl rfl (by repeat constructor) rfl ?_|refine zH .here rfl rfl rfl rfl ?_|refine zH (.there .here) rfl rfl rfl rfl ?_|refine zH (.there (.there .here)) rfl rfl rfl rfl ?_|refine zH (.there (.there (.there .here))) rfl rfl rfl rfl ?_|refine zH (.there (.there (.there (.there .here)))) rfl rfl rfl rfl ?_)
    exact J_retv rfl (.tmp rfl .nil) [] (fun w s => s.drop.drop.drop.drop) (PH.ler _) ⟨rfl, rfl⟩
  · rw [hno fun e => h11 (by rw [e]), decide_eq_false h11]
    repeat (first|refine zJ rfl rfl ?_|refine jr rfl ?_|refine jn ?_|refine zM rfl rfl ?_|(refine zC rfl rfl ?_ rfl ?_;omega)|(refine zD rfl rfl ?_ rfl ?_;omega)|(refine zP rfl ?_ rfl ?_;omega)|refine zG rfl rfl rfl rfl ?_|(refine jdq rfl rfl ?_ ?_ ?_;kernel_rfl;kernel_rfl)|refine zB rfl rfl rfl (by repeat constructor) rfl ?_|refine zH .here rfl rfl rfl rfl ?_|refine zH (.there .here) rfl rfl rfl rfl ?_|refine zH (.there (.there .here)) rfl rfl rfl rfl ?_|refine zH (.there (.there (.there .here))) rfl rfl rfl rfl ?_|refine zH (.there (.there (.there (.there .here)))) rfl rfl rfl rfl ?_)
    exact J_retv rfl (.tmp rfl .nil) [] (fun w s => s.drop.drop.drop.drop) (PH.ler _) ⟨rfl, rfl⟩
end Go.Proofs.YtekdmpbkcjjllaaDoor
