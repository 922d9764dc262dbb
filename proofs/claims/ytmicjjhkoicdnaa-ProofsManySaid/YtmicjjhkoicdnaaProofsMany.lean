/-
  Of many proposals of one number those of the latest views stay (ProofsMany). No condition.
-/
import Derived.Test.YtmicjjhkoicdnaaJp
namespace Go.Proofs.Ytmicjjhkoicdnaa
open Go.RowKit
set_option maxRecDepth 100000
theorem one_row {P : Program} {e : TypeId} {α : Type} {te : Ty P e α} {F : PH} {b : Nat} {x : α} {cs : List Value} (h : Cells F b 0 cs) (hr : te.rep F x cs) : RowB te F (.slice (some ⟨b, 0, none⟩) 1 1) [x] := by
  refine ⟨⟨[cs], ⟨?_, _, 1, rfl, Nat.le_refl _, fun _ => ⟨b, 0, rfl, ?_⟩⟩, .cons hr .nil⟩, by rw [List.length_singleton]; unfold maxLen; decide⟩
  · simp [te.len hr]
  · simpa using h
theorem en_rep {F : PH} {i : Nat} (h : i ≤ 1000) : tyEn.rep F (enM i) (enC (enM i)) := by
  refine ⟨[.int .i64 0, .int .i64 (i : Int), .int .i64 0, .string (strOf []), .int .i64 0, .int .i64 0, .string (strOf [])], [.int .u32 0], rfl, ?_, [.int .u32 0], [], rfl, ⟨rfl, (by first | exact Nat.zero_le _ | (unfold InK; dsimp only [enM]; omega))⟩, rfl⟩
  refine ⟨[_], _, rfl, ⟨rfl, (by first | exact Nat.zero_le _ | (unfold InK; dsimp only [enM]; omega))⟩, [_], _, rfl, ⟨rfl, (by first | exact Nat.zero_le _ | (unfold InK; dsimp only [enM]; omega))⟩, [_], _, rfl, ⟨rfl, (by first | exact Nat.zero_le _ | (unfold InK; dsimp only [enM]; omega))⟩, [_], _, rfl, ⟨rfl, (by first | exact Nat.zero_le _ | (unfold InK; dsimp only [enM]; omega))⟩, [_], _, rfl, ⟨rfl, (by first | exact Nat.zero_le _ | (unfold InK; dsimp only [enM]; omega))⟩, [_], _, rfl, ⟨rfl, (by first | exact Nat.zero_le _ | (unfold InK; dsimp only [enM]; omega))⟩, [_], _, rfl, ⟨rfl, (by first | exact Nat.zero_le _ | (unfold InK; dsimp only [enM]; omega))⟩, rfl⟩
set_option maxHeartbeats 16000000 in
theorem ProofsMany_walk (n : Nat) (seq : Int) (F : PH) (hn : n ≤ 255) (hq : InK .i64 seq) : Spec Try.prog 6 [.int .u8 n, .int .i64 seq] F [] fun u F' H' => u = .bool true ∧ H' = [] := by
  refine Spec.of2 Try.func6 rfl rfl fun X w0 => ?_
  obtain ⟨m, hm⟩ : ∃ m, m = n % 100 := ⟨_, rfl⟩
  have hm1 : m < 100 := by omega
  repeat (first|refine zJ rfl rfl ?_|refine jr rfl ?_|refine jn ?_|refine zM rfl rfl ?_|(refine zC rfl rfl ?_ rfl ?_;omega)|(refine zD rfl rfl ?_ rfl ?_;omega)|(refine zP rfl ?_ rfl ?_;omega)|refine zG rfl rfl rfl rfl ?_|(refine jdq rfl rfl ?_ ?_ ?_;kernel_rfl;kernel_rfl)|refine zB rfl rfl rfl (by repeat constructor) rfl ?_|refine zH .here rfl rfl rfl rfl ?_|refine zH (.there .here) rfl rfl rfl rfl ?_|refine zH (.there (.there .here)) rfl rfl rfl rfl ?_)
  refine oC (Hc := []) (Hr := X) (fixed_spec F) Try.call14 rfl rfl (fun _ s => s) ?_
  rintro _ F1 _ hF1 ⟨rfl, rfl⟩
  repeat (first|refine zJ rfl rfl ?_|refine jr rfl ?_|refine jn ?_|refine zM rfl rfl ?_|(refine zC rfl rfl ?_ rfl ?_;omega)|(refine zD rfl rfl ?_ rfl ?_;omega)|(refine zP rfl ?_ rfl ?_;omega)|refine zG rfl rfl rfl rfl ?_|(refine jdq rfl rfl ?_ ?_ ?_;kernel_rfl;kernel_rfl)|refine zB rfl rfl rfl (by repeat constructor) rfl ?_|refine zH .here rfl rfl rfl rfl ?_|refine zH (.there .here) rfl rfl rfl rfl ?_|refine zH (.there (.there .here)) rfl rfl rfl rfl ?_)
  refine oC (Hc := []) (Hr := X) (new_spec F1) Try.call15 rfl rfl (fun _ s => s) ?_
  rintro _ _ _ _ ⟨rfl, b, rfl, rfl⟩
  repeat (first|refine zJ rfl rfl ?_|refine jr rfl ?_|refine jn ?_|refine zM rfl rfl ?_|(refine zC rfl rfl ?_ rfl ?_;omega)|(refine zD rfl rfl ?_ rfl ?_;omega)|(refine zP rfl ?_ rfl ?_;omega)|refine zG rfl rfl rfl rfl ?_|(refine jdq rfl rfl ?_ ?_ ?_;kernel_rfl;kernel_rfl)|refine zB rfl rfl rfl (by repeat constructor) rfl ?_|refine zH .here rfl rfl rfl rfl ?_|refine zH (.there .here) rfl rfl rfl rfl ?_|refine zH (.there (.there .here)) rfl rfl rfl rfl ?_)
  rw [show (n : Int) % 100 = (m : Int) from by omega]
  refine J_loop (ι := Nat × List PV × Value × PH) (fun p => p.1 ≤ m ∧ F1.le p.2.2.2 ∧ (∀ y ∈ p.2.1, y.Ok p.2.2.2) ∧ p.2.1.map PV.key = mN seq p.1) (fun p => m - p.1) (fun p => [(0, .int .u8 n), (1, .int .i64 seq), (5, .pointer (some ⟨b, 0, none⟩)), (16, .int .i64 m), (17, .int .i64 p.1)]) (fun p => p.2.2.2) (fun p => blk b 66 [.slice none 0 0, p.2.2.1] :: prO p.2.2.1 p.2.1 :: X) (0, [], .slice none 0 0, F1) ⟨Nat.zero_le _, PH.ler _, (fun y h => absurd h (List.not_mem_nil)), rfl⟩
    ⟨⟨rfl, rfl, rfl, rfl, rfl, trivial⟩, fun w s => (s.pm 2 [1, 0] rfl rfl).drop⟩ ?_
  rintro ⟨i, M, v, G⟩ ⟨hi, hG, hM, hkey⟩
  dsimp only at hi hG hM hkey ⊢
  have hMl : M.length = min i 64 := by rw [← mN_len seq i, ← hkey, List.length_map]
  by_cases hlt : i < m
  · repeat (first|refine zJ rfl rfl ?_|refine jr rfl ?_|refine jn ?_|refine zM rfl rfl ?_|(refine zC rfl rfl ?_ rfl ?_;omega)|(refine zD rfl rfl ?_ rfl ?_;omega)|(refine zP rfl ?_ rfl ?_;omega)|refine zG rfl rfl rfl rfl ?_|(refine jdq rfl rfl ?_ ?_ ?_;kernel_rfl;kernel_rfl)|refine zB rfl rfl rfl (by repeat constructor) rfl ?_|refine zH .here rfl rfl rfl rfl ?_|refine zH (.there .here) rfl rfl rfl rfl ?_|refine zH (.there (.there .here)) rfl rfl rfl rfl ?_)
    refine oE (ev_one (vs := enC (enM i)) rfl .agg rfl elEt') rfl ?_
    rintro _ _ _ _ ⟨rfl, bt, rfl, rfl⟩
    refine oPersist fun hh hA hd => ?_
    have hb := blk_cells hA hd
    have hG1 := PH.le_l G hh
    generalize G.un hh = G1 at *
    have hx : (PV.mk seq (i : Int) (some ⟨bt, 0, none⟩) 1 1 [enM i]).Ok G1 := ⟨hq, (by unfold InK; dsimp only; omega), one_row hb (en_rep (by omega)), by show 1 ≤ 1000; omega⟩
    repeat (first|refine zJ rfl rfl ?_|refine jr rfl ?_|refine jn ?_|refine zM rfl rfl ?_|(refine zC rfl rfl ?_ rfl ?_;omega)|(refine zD rfl rfl ?_ rfl ?_;omega)|(refine zP rfl ?_ rfl ?_;omega)|refine zG rfl rfl rfl rfl ?_|(refine jdq rfl rfl ?_ ?_ ?_;kernel_rfl;kernel_rfl)|refine zB rfl rfl rfl (by repeat constructor) rfl ?_|refine zH .here rfl rfl rfl rfl ?_|refine zH (.there .here) rfl rfl rfl rfl ?_|refine zH (.there (.there .here)) rfl rfl rfl rfl ?_)
    refine oC (Hc := [blk b 66 [.slice none 0 0, v], prO v M]) (Hr := X) (prop_spec b _ _ M (PV.mk seq (i : Int) (some ⟨bt, 0, none⟩) 1 1 [enM i]) G1 (by omega) (fun y hy => (hM y hy).mono hG1) hx) Try.call16 rfl rfl (fun _ s => s) ?_
    rintro _ G2 _ hG2 ⟨v', M', rfl, hok, hk⟩
    rw [hkey] at hk
    have hk : M'.map PV.key = mN seq (i + 1) := hk.trans (prop_mN seq i)
    repeat (first|refine zJ rfl rfl ?_|refine jr rfl ?_|refine jn ?_|refine zM rfl rfl ?_|(refine zC rfl rfl ?_ rfl ?_;omega)|(refine zD rfl rfl ?_ rfl ?_;omega)|(refine zP rfl ?_ rfl ?_;omega)|refine zG rfl rfl rfl rfl ?_|(refine jdq rfl rfl ?_ ?_ ?_;kernel_rfl;kernel_rfl)|refine zB rfl rfl rfl (by repeat constructor) rfl ?_|refine zH .here rfl rfl rfl rfl ?_|refine zH (.there .here) rfl rfl rfl rfl ?_|refine zH (.there (.there .here)) rfl rfl rfl rfl ?_)
    exact J_again (i + 1, M', v', G2) ⟨hlt, hG.trans (hG1.trans hG2), hok, hk⟩ (by dsimp only; omega) ⟨⟨rfl, rfl, rfl, rfl, rfl, trivial⟩, fun w s => s⟩
  · obtain rfl : i = m := by omega
    repeat (first|refine zJ rfl rfl ?_|refine jr rfl ?_|refine jn ?_|refine zM rfl rfl ?_|(refine zC rfl rfl ?_ rfl ?_;omega)|(refine zD rfl rfl ?_ rfl ?_;omega)|(refine zP rfl ?_ rfl ?_;omega)|refine zG rfl rfl rfl rfl ?_|(refine jdq rfl rfl ?_ ?_ ?_;kernel_rfl;kernel_rfl)|refine zB rfl rfl rfl (by repeat constructor) rfl ?_|refine zH .here rfl rfl rfl rfl ?_|refine zH (.there .here) rfl rfl rfl rfl ?_|refine zH (.there (.there .here)) rfl rfl rfl rfl ?_)
    refine oC (Hc := [blk b 66 [.slice none 0 0, v], prO v M]) (Hr := X) (propd_spec b _ _ M G (by omega) hM) Try.call17 rfl rfl (fun _ s => s) ?_
    rintro vl G2 _ hG2 ⟨L, rfl, hok, hk⟩
    rw [hkey] at hk
    rw [sorted_mN seq i hk]
    have hLl : L.length = min i 64 := by rw [← mN_len seq i, ← hk, List.length_map]
    refine oOwnA (.there (.there .here)) fun al cl hvl hcl _ _ hal => ?_
    subst hvl
    rw [hLl]
    repeat (first|refine zJ rfl rfl ?_|refine jr rfl ?_|refine jn ?_|refine zM rfl rfl ?_|(refine zC rfl rfl ?_ rfl ?_;omega)|(refine zD rfl rfl ?_ rfl ?_;omega)|(refine zP rfl ?_ rfl ?_;omega)|refine zG rfl rfl rfl rfl ?_|(refine jdq rfl rfl ?_ ?_ ?_;kernel_rfl;kernel_rfl)|refine zB rfl rfl rfl (by repeat constructor) rfl ?_|refine zH .here rfl rfl rfl rfl ?_|refine zH (.there .here) rfl rfl rfl rfl ?_|refine zH (.there (.there .here)) rfl rfl rfl rfl ?_)
    rw [show min ((n : Int) % 100) 64 = ((min i 64 : Nat) : Int) from by omega]
    generalize hk0 : min i 64 = k at *
    refine J_loop (ι := Nat) (fun j => j ≤ k) (fun j => k - j) (fun j => [(0, .int .u8 n), (7, .slice al k cl), (8, .int .i64 k), (36, .slice al k cl), (37, .int .i64 k), (38, .int .i64 j)]) (fun _ => G2) (fun _ => own (.slice al k cl) 43 3 k (rowC PV.cs L) :: X) 0 (Nat.zero_le _) ⟨⟨rfl, rfl, rfl, rfl, rfl, rfl, trivial⟩, fun w s => by have t := s.drop.drop; unfold prO at t; rw [hLl] at t; exact t⟩ ?_
    intro j hj
    by_cases hjl : j < k
    · have g1 : L[j]? = some (L[j]'(by omega)) := List.getElem?_eq_getElem (by omega)
      have hw := view_mN hk g1
      obtain ⟨g, rfl⟩ := hal (by rw [hLl]; omega)
      generalize L[j]'(by omega) = y at *
      repeat (first|refine zJ rfl rfl ?_|refine jr rfl ?_|refine jn ?_|refine zM rfl rfl ?_|(refine zC rfl rfl ?_ rfl ?_;omega)|(refine zD rfl rfl ?_ rfl ?_;omega)|(refine zP rfl ?_ rfl ?_;omega)|refine zG rfl rfl rfl rfl ?_|(refine jdq rfl rfl ?_ ?_ ?_;kernel_rfl;kernel_rfl)|refine zB rfl rfl rfl (by repeat constructor) rfl ?_|refine zH .here rfl rfl rfl rfl ?_|refine zH (.there .here) rfl rfl rfl rfl ?_|refine zH (.there (.there .here)) rfl rfl rfl rfl ?_)
      refine oS (ev_indexAddr (i := j) rfl rfl rfl hjl) rfl ?_
      refine oS (ev_load_agg (cs := y.cs) rfl rfl (rdb_row .here PV.len g1) y.len) rfl ?_
      refine oE (ev_alloc (cs := zPf) rfl) rfl ?_
      rintro _ _ _ _ ⟨rfl, b6, rfl, rfl⟩
      repeat (first|refine zJ rfl rfl ?_|refine jr rfl ?_|refine jn ?_|refine zM rfl rfl ?_|(refine zC rfl rfl ?_ rfl ?_;omega)|(refine zD rfl rfl ?_ rfl ?_;omega)|(refine zP rfl ?_ rfl ?_;omega)|refine zG rfl rfl rfl rfl ?_|(refine jdq rfl rfl ?_ ?_ ?_;kernel_rfl;kernel_rfl)|refine zB rfl rfl rfl (by repeat constructor) rfl ?_|refine zH .here rfl rfl rfl rfl ?_|refine zH (.there .here) rfl rfl rfl rfl ?_|refine zH (.there (.there .here)) rfl rfl rfl rfl ?_)
      refine oN (ev_store (b := b6) (off := 0) rfl rfl .agg rfl y.len (lay_all (zs := zPf) rfl) y.ones .here) rfl ?_
      rintro _ _ _ _ ⟨rfl, rfl, rfl⟩
      repeat (first|refine zJ rfl rfl ?_|refine jr rfl ?_|refine jn ?_|refine zM rfl rfl ?_|(refine zC rfl rfl ?_ rfl ?_;omega)|(refine zD rfl rfl ?_ rfl ?_;omega)|(refine zP rfl ?_ rfl ?_;omega)|refine zG rfl rfl rfl rfl ?_|(refine jdq rfl rfl ?_ ?_ ?_;kernel_rfl;kernel_rfl)|refine zB rfl rfl rfl (by repeat constructor) rfl ?_|refine zH .here rfl rfl rfl rfl ?_|refine zH (.there .here) rfl rfl rfl rfl ?_|refine zH (.there (.there .here)) rfl rfl rfl rfl ?_)
      exact J_again (j + 1) hjl (by omega) ⟨⟨rfl, rfl, rfl, rfl, rfl, rfl, trivial⟩, fun w s => s.drop⟩
    · obtain rfl : j = k := by omega
      repeat (first|refine zJ rfl rfl ?_|refine jr rfl ?_|refine jn ?_|refine zM rfl rfl ?_|(refine zC rfl rfl ?_ rfl ?_;omega)|(refine zD rfl rfl ?_ rfl ?_;omega)|(refine zP rfl ?_ rfl ?_;omega)|refine zG rfl rfl rfl rfl ?_|(refine jdq rfl rfl ?_ ?_ ?_;kernel_rfl;kernel_rfl)|refine zB rfl rfl rfl (by repeat constructor) rfl ?_|refine zH .here rfl rfl rfl rfl ?_|refine zH (.there .here) rfl rfl rfl rfl ?_|refine zH (.there (.there .here)) rfl rfl rfl rfl ?_)
      exact J_retv rfl (.tmp rfl .nil) [] (fun w s => s.drop) (hF1.trans (hG.trans hG2)) ⟨rfl, rfl⟩
open Go.ChangeShapes Go.WideShapes Go.ChangeAt
theorem own_knob : ownKnob Try.prog.godebug = none := by kernel_rfl
theorem laid_out : laidOutB Try.prog = true := by kernel_rfl
set_option maxRecDepth 100000 in theorem ProofsMany_lifted (os : Os) (started : os.Started) (H : Type) (enc : TypeId × Value → H) : ReturnsInHanded {} Try.checked os 6 .any (Rows.proofsManySpec.pre6 enc Try.prog Try.f6 Rows.proofsManyRow.domain false) (Rows.proofsManySpec.post enc Try.prog Try.f6 false true false false) := by
  refine returnsInHanded_of_change (C := Try.checked) own_knob started (by kernel_rfl) Try.func6 (ChangeSpec.witness6 (enc := enc) (C := Try.checked) false ⟨#[], #[.int .u8 0, .int .i64 0], []⟩ 8 (by kernel_rfl) (by kernel_rfl) (by kernel_rfl) (by kernel_rfl)) ?_; intro W base args ds gs before hval0 hW hcnd _; have hval : ∀ (j : Nat) t v, Try.f6.params[j]? = some t → args[j]? = some v → Value.okWide Try.prog W .any base t v := hval0; have hW' := hW; obtain ⟨p, q, hA0, hV, hp, hfz, hnd⟩ := hW; have hA : DataW.TrodAll enc Try.prog W 0 (fun _ => true) true Try.f6.params.toList args.toList ds p := hA0; obtain ⟨rfl, rfl⟩ := trodVars_none hV; rw [List.append_nil] at hp; have hA' := hA; rw [Try.params6] at hA hval
  obtain ⟨v0, vs0, d0, ds0, p0, q0, hargs, rfl, rfl, h0, r0⟩ := trodAll_cons hA; obtain ⟨v1, vs1, d1, ds1, p1, q1, rfl, rfl, rfl, h1, r1⟩ := trodAll_cons r0; obtain ⟨rfl, rfl, rfl⟩ := trodAll_nil r1; obtain rfl : args = #[v0, v1] := by cases args; simp_all
  obtain ⟨x, rfl, rfl, rfl, w0⟩ := open_int Try.underlying5 (hval 0 5 v0 rfl rfl) h0
  obtain ⟨r, rfl, rfl, rfl, w1⟩ := open_int Try.underlying2 (hval 1 2 v1 rfl rfl) h1
  have w0' := bounds_u8 w0
  obtain ⟨n, rfl⟩ := Int.eq_ofNat_of_zero_le w0'.1
  refine (law_walk (ProofsMany_walk n r (ph W) (by omega) (inK_i64 w1))).mono fun e W' ⟨he, hb⟩ => ?_
  subst he
  exact ⟨_, rfl, law_post laid_out (by kernel_rfl) rfl rfl Try.underlying4 hW' hA' hp rfl hb⟩
theorem ProofsMany_holds : Rows.ProofsManySaid := OpenClaim.holds_of_wide 6 Try.f6 rfl rfl rfl rfl rfl rfl rfl ⟨rfl, rfl, rfl, rfl, rfl⟩ rfl rfl rfl rfl rfl (by kernel_rfl) Try.func6 (by kernel_rfl) (of_decide_eq_true (by kernel_rfl)) (by unfold Func.isWrapper; first | (rw [if_pos (by decide +kernel)]; kernel_rfl) | (rw [if_neg (by decide +kernel)]; exact ⟨rfl, rfl⟩)) (fun os started H enc _ => ProofsMany_lifted os started H enc)
#print axioms ProofsMany_holds
end Go.Proofs.Ytmicjjhkoicdnaa
