/-
  To which root any leaf and path lead is what the document says (AttestClimbs). No condition.
-/
import Derived.Test.YtohlmhoacjodjaaAt
namespace Go.Proofs.Ytohlmhoacjodjaa
open Go.RowKit
set_option maxRecDepth 100000
set_option maxHeartbeats 16000000 in
theorem AttestClimbs_walk (n i : Int) (leaf : List UInt8) (path : List (List UInt8)) (al ap : Option Addr) (kl kp : Nat) (F : PH) (hlv : Byt F (.slice al leaf.length kl) leaf) (hpv : DgV F (.slice ap path.length kp) path) (h32 : D32 path) : Spec Try.prog 4 [.int .i64 n, .int .i64 i, .slice al leaf.length kl, .slice ap path.length kp] F [] fun u _ H' => u = .bool true ∧ H' = [] := by
  have zz : (u8s zd32).length = 32 := rfl
  refine Spec.of4 Try.func4 rfl rfl fun X w0 => ?_
  repeat (first|refine zJ rfl rfl ?_|refine jr rfl ?_|refine jn ?_|refine zM rfl rfl ?_|(refine zC rfl rfl ?_ rfl ?_;omega)|(refine zD rfl rfl ?_ rfl ?_;omega)|(refine zP rfl ?_ rfl ?_;omega)|refine zG rfl rfl rfl rfl ?_|(refine jdq rfl rfl ?_ ?_ ?_;kernel_rfl;kernel_rfl)|refine zB rfl rfl rfl (by repeat constructor) rfl ?_|refine zH .here rfl rfl rfl rfl ?_|refine zH (.there .here) rfl rfl rfl rfl ?_|refine zH (.there (.there .here)) rfl rfl rfl rfl ?_)
  refine oC (Hc := []) (Hr := X) (fixed41 F) Try.call8 rfl rfl (fun _ s => s) ?_
  rintro _ F0 _ hF0 ⟨rfl, rfl⟩
  replace hlv := SliceV.mono hlv hF0
  replace hpv := SliceV.mono hpv hF0
  by_cases g1 : 100 < leaf.length
  · repeat (first|refine zJ rfl rfl ?_|refine jr rfl ?_|refine jn ?_|refine zM rfl rfl ?_|(refine zC rfl rfl ?_ rfl ?_;omega)|(refine zD rfl rfl ?_ rfl ?_;omega)|(refine zP rfl ?_ rfl ?_;omega)|refine zG rfl rfl rfl rfl ?_|(refine jdq rfl rfl ?_ ?_ ?_;kernel_rfl;kernel_rfl)|refine zB rfl rfl rfl (by repeat constructor) rfl ?_|refine zH .here rfl rfl rfl rfl ?_|refine zH (.there .here) rfl rfl rfl rfl ?_|refine zH (.there (.there .here)) rfl rfl rfl rfl ?_)
    exact J_retv rfl (.tmp rfl .nil) [] (fun w s => s) hF0 ⟨rfl, rfl⟩
  by_cases g2 : 60 < path.length
  · repeat (first|refine zJ rfl rfl ?_|refine jr rfl ?_|refine jn ?_|refine zM rfl rfl ?_|(refine zC rfl rfl ?_ rfl ?_;omega)|(refine zD rfl rfl ?_ rfl ?_;omega)|(refine zP rfl ?_ rfl ?_;omega)|refine zG rfl rfl rfl rfl ?_|(refine jdq rfl rfl ?_ ?_ ?_;kernel_rfl;kernel_rfl)|refine zB rfl rfl rfl (by repeat constructor) rfl ?_|refine zH .here rfl rfl rfl rfl ?_|refine zH (.there .here) rfl rfl rfl rfl ?_|refine zH (.there (.there .here)) rfl rfl rfl rfl ?_)
    exact J_retv rfl (.tmp rfl .nil) [] (fun w s => s) hF0 ⟨rfl, rfl⟩
  repeat (first|refine zJ rfl rfl ?_|refine jr rfl ?_|refine jn ?_|refine zM rfl rfl ?_|(refine zC rfl rfl ?_ rfl ?_;omega)|(refine zD rfl rfl ?_ rfl ?_;omega)|(refine zP rfl ?_ rfl ?_;omega)|refine zG rfl rfl rfl rfl ?_|(refine jdq rfl rfl ?_ ?_ ?_;kernel_rfl;kernel_rfl)|refine zB rfl rfl rfl (by repeat constructor) rfl ?_|refine zH .here rfl rfl rfl rfl ?_|refine zH (.there .here) rfl rfl rfl rfl ?_|refine zH (.there (.there .here)) rfl rfl rfl rfl ?_)
  refine oC (Hc := []) (Hr := X) (inew_spec F0) Try.call10 rfl rfl (fun _ s => s) ?_
  rintro _ _ _ _ ⟨rfl, b, m, tg, rfl, rfl⟩
  repeat (first|refine zJ rfl rfl ?_|refine jr rfl ?_|refine jn ?_|refine zM rfl rfl ?_|(refine zC rfl rfl ?_ rfl ?_;omega)|(refine zD rfl rfl ?_ rfl ?_;omega)|(refine zP rfl ?_ rfl ?_;omega)|refine zG rfl rfl rfl rfl ?_|(refine jdq rfl rfl ?_ ?_ ?_;kernel_rfl;kernel_rfl)|refine zB rfl rfl rfl (by repeat constructor) rfl ?_|refine zH .here rfl rfl rfl rfl ?_|refine zH (.there .here) rfl rfl rfl rfl ?_|refine zH (.there (.there .here)) rfl rfl rfl rfl ?_)
  refine oS (ev_makeInterface rfl (by kernel_rfl)) rfl ?_
  repeat (first|refine zJ rfl rfl ?_|refine jr rfl ?_|refine jn ?_|refine zM rfl rfl ?_|(refine zC rfl rfl ?_ rfl ?_;omega)|(refine zD rfl rfl ?_ rfl ?_;omega)|(refine zP rfl ?_ rfl ?_;omega)|refine zG rfl rfl rfl rfl ?_|(refine jdq rfl rfl ?_ ?_ ?_;kernel_rfl;kernel_rfl)|refine zB rfl rfl rfl (by repeat constructor) rfl ?_|refine zH .here rfl rfl rfl rfl ?_|refine zH (.there .here) rfl rfl rfl rfl ?_|refine zH (.there (.there .here)) rfl rfl rfl rfl ?_)
  by_cases hout : i < 0 ∨ n ≤ i ∨ 1048576 < n
  · refine oC (Hc := idealA b m tg []) (Hr := X) (climb_out (idealC b m tg) n i _ _ F0 (idealA b m tg []) hout) Try.call16 rfl rfl (fun _ s => s) ?_
    rintro _ F1 _ hF1 ⟨rfl, rfl⟩
    repeat (first|refine zJ rfl rfl ?_|refine jr rfl ?_|refine jn ?_|refine zM rfl rfl ?_|(refine zC rfl rfl ?_ rfl ?_;omega)|(refine zD rfl rfl ?_ rfl ?_;omega)|(refine zP rfl ?_ rfl ?_;omega)|refine zG rfl rfl rfl rfl ?_|(refine jdq rfl rfl ?_ ?_ ?_;kernel_rfl;kernel_rfl)|refine zB rfl rfl rfl (by repeat constructor) rfl ?_|refine zH .here rfl rfl rfl rfl ?_|refine zH (.there .here) rfl rfl rfl rfl ?_|refine zH (.there (.there .here)) rfl rfl rfl rfl ?_)
    refine oE (ev_alloc (E := 28) (cs := u8s zd32) (by kernel_rfl)) rfl ?_
    rintro _ _ _ _ ⟨rfl, b10, rfl, rfl⟩
    refine oN (ev_store (b := b10) (vs := u8s zd32) rfl rfl .agg rfl rfl (lay_all (zs := u8s zd32) rfl) (u8s_ones _) .here) rfl ?_
    rintro _ _ _ _ ⟨rfl, _, rfl⟩
    have fin : ∀ w, Sat F1 (blk b10 28 (u8s zd32) :: (idealA b m tg [] ++ X)) w → Sat F1 X w := fun w s => Sat.drop (Sat.drop (Sat.drop s))
    by_cases o1 : i < 0
    · repeat (first|refine zJ rfl rfl ?_|refine jr rfl ?_|refine jn ?_|refine zM rfl rfl ?_|(refine zC rfl rfl ?_ rfl ?_;omega)|(refine zD rfl rfl ?_ rfl ?_;omega)|(refine zP rfl ?_ rfl ?_;omega)|refine zG rfl rfl rfl rfl ?_|(refine jdq rfl rfl ?_ ?_ ?_;kernel_rfl;kernel_rfl)|refine zB rfl rfl rfl (by repeat constructor) rfl ?_|refine zH .here rfl rfl rfl rfl ?_|refine zH (.there .here) rfl rfl rfl rfl ?_|refine zH (.there (.there .here)) rfl rfl rfl rfl ?_)
      refine oS (ev_load_agg (cs := u8s zd32) rfl rfl (Rdb.ofB (n := 0) .here (by rw [List.drop_zero, List.take_length])) zz) rfl ?_
      refine oS dg_build rfl ?_
      refine oS (ev_arr_eql' (r := true) (xs := zd32) (ys := zd32) (n := 32) (e := 5) rfl rfl (by kernel_rfl) (by kernel_rfl) rfl rfl (by kernel_rfl) (by decide)) rfl ?_
      repeat (first|refine zJ rfl rfl ?_|refine jr rfl ?_|refine jn ?_|refine zM rfl rfl ?_|(refine zC rfl rfl ?_ rfl ?_;omega)|(refine zD rfl rfl ?_ rfl ?_;omega)|(refine zP rfl ?_ rfl ?_;omega)|refine zG rfl rfl rfl rfl ?_|(refine jdq rfl rfl ?_ ?_ ?_;kernel_rfl;kernel_rfl)|refine zB rfl rfl rfl (by repeat constructor) rfl ?_|refine zH .here rfl rfl rfl rfl ?_|refine zH (.there .here) rfl rfl rfl rfl ?_|refine zH (.there (.there .here)) rfl rfl rfl rfl ?_)
      exact J_retv rfl (.tmp rfl .nil) [] fin (hF0.trans hF1) ⟨rfl, rfl⟩
    by_cases o2 : n ≤ i
    · repeat (first|refine zJ rfl rfl ?_|refine jr rfl ?_|refine jn ?_|refine zM rfl rfl ?_|(refine zC rfl rfl ?_ rfl ?_;omega)|(refine zD rfl rfl ?_ rfl ?_;omega)|(refine zP rfl ?_ rfl ?_;omega)|refine zG rfl rfl rfl rfl ?_|(refine jdq rfl rfl ?_ ?_ ?_;kernel_rfl;kernel_rfl)|refine zB rfl rfl rfl (by repeat constructor) rfl ?_|refine zH .here rfl rfl rfl rfl ?_|refine zH (.there .here) rfl rfl rfl rfl ?_|refine zH (.there (.there .here)) rfl rfl rfl rfl ?_)
      refine oS (ev_load_agg (cs := u8s zd32) rfl rfl (Rdb.ofB (n := 0) .here (by rw [List.drop_zero, List.take_length])) zz) rfl ?_
      refine oS dg_build rfl ?_
      refine oS (ev_arr_eql' (r := true) (xs := zd32) (ys := zd32) (n := 32) (e := 5) rfl rfl (by kernel_rfl) (by kernel_rfl) rfl rfl (by kernel_rfl) (by decide)) rfl ?_
      repeat (first|refine zJ rfl rfl ?_|refine jr rfl ?_|refine jn ?_|refine zM rfl rfl ?_|(refine zC rfl rfl ?_ rfl ?_;omega)|(refine zD rfl rfl ?_ rfl ?_;omega)|(refine zP rfl ?_ rfl ?_;omega)|refine zG rfl rfl rfl rfl ?_|(refine jdq rfl rfl ?_ ?_ ?_;kernel_rfl;kernel_rfl)|refine zB rfl rfl rfl (by repeat constructor) rfl ?_|refine zH .here rfl rfl rfl rfl ?_|refine zH (.there .here) rfl rfl rfl rfl ?_|refine zH (.there (.there .here)) rfl rfl rfl rfl ?_)
      exact J_retv rfl (.tmp rfl .nil) [] fin (hF0.trans hF1) ⟨rfl, rfl⟩
    have o3 : 1048576 < n := by omega
    repeat (first|refine zJ rfl rfl ?_|refine jr rfl ?_|refine jn ?_|refine zM rfl rfl ?_|(refine zC rfl rfl ?_ rfl ?_;omega)|(refine zD rfl rfl ?_ rfl ?_;omega)|(refine zP rfl ?_ rfl ?_;omega)|refine zG rfl rfl rfl rfl ?_|(refine jdq rfl rfl ?_ ?_ ?_;kernel_rfl;kernel_rfl)|refine zB rfl rfl rfl (by repeat constructor) rfl ?_|refine zH .here rfl rfl rfl rfl ?_|refine zH (.there .here) rfl rfl rfl rfl ?_|refine zH (.there (.there .here)) rfl rfl rfl rfl ?_)
    refine oS (ev_load_agg (cs := u8s zd32) rfl rfl (Rdb.ofB (n := 0) .here (by rw [List.drop_zero, List.take_length])) zz) rfl ?_
    refine oS dg_build rfl ?_
    refine oS (ev_arr_eql' (r := true) (xs := zd32) (ys := zd32) (n := 32) (e := 5) rfl rfl (by kernel_rfl) (by kernel_rfl) rfl rfl (by kernel_rfl) (by decide)) rfl ?_
    repeat (first|refine zJ rfl rfl ?_|refine jr rfl ?_|refine jn ?_|refine zM rfl rfl ?_|(refine zC rfl rfl ?_ rfl ?_;omega)|(refine zD rfl rfl ?_ rfl ?_;omega)|(refine zP rfl ?_ rfl ?_;omega)|refine zG rfl rfl rfl rfl ?_|(refine jdq rfl rfl ?_ ?_ ?_;kernel_rfl;kernel_rfl)|refine zB rfl rfl rfl (by repeat constructor) rfl ?_|refine zH .here rfl rfl rfl rfl ?_|refine zH (.there .here) rfl rfl rfl rfl ?_|refine zH (.there (.there .here)) rfl rfl rfl rfl ?_)
    exact J_retv rfl (.tmp rfl .nil) [] fin (hF0.trans hF1) ⟨rfl, rfl⟩
  obtain ⟨k, rfl⟩ : ∃ k : Nat, i = k := ⟨i.toNat, by omega⟩
  obtain ⟨q, rfl⟩ : ∃ q : Nat, n = q := ⟨n.toNat, by omega⟩
  have hkq : k < q := by omega
  have hq : q ≤ 1048576 := by omega
  have hroom : (idealC b m tg).room (climbP (idealC b m tg) [] q k leaf path).2 ≤ 61 := by
    have := climb_room (idealC b m tg) [] q k leaf path
    have h0 : (idealC b m tg).room [] = 0 := rfl
    omega
  have h1l := climb_len (idealC b m tg) [] q k leaf path
  have hag := climb_again (idealL b m tg) [] (climbP (idealC b m tg) [] q k leaf path).2 q k leaf path ((idealL b m tg).refl _)
  have hsome : (climbP (idealC b m tg) [] q k leaf path).1.isSome = decide ((turnsP q k).length = path.length) := by
    unfold climbP
    by_cases hh : (turnsP q k).length = path.length
    · rw [if_pos hh, decide_eq_true hh]; rfl
    · rw [if_neg hh, decide_eq_false hh]; rfl
  refine oC (Hc := idealA b m tg []) (Hr := X) (climb_spec (idealC b m tg) [] q k leaf path _ _ F0 hq hkq (by show 0 + path.length ≤ 80000; omega) (by omega) hlv hpv h32) Try.call16 rfl rfl (fun _ s => s) ?_
  rintro _ F1 _ hF1 ⟨rfl, rfl⟩
  generalize hcl : climbP (idealC b m tg) [] q k leaf path = cp at *
  obtain ⟨co, T⟩ := cp
  dsimp only at hroom h1l hag hsome ⊢
  repeat (first|refine zJ rfl rfl ?_|refine jr rfl ?_|refine jn ?_|refine zM rfl rfl ?_|(refine zC rfl rfl ?_ rfl ?_;omega)|(refine zD rfl rfl ?_ rfl ?_;omega)|(refine zP rfl ?_ rfl ?_;omega)|refine zG rfl rfl rfl rfl ?_|(refine jdq rfl rfl ?_ ?_ ?_;kernel_rfl;kernel_rfl)|refine zB rfl rfl rfl (by repeat constructor) rfl ?_|refine zH .here rfl rfl rfl rfl ?_|refine zH (.there .here) rfl rfl rfl rfl ?_|refine zH (.there (.there .here)) rfl rfl rfl rfl ?_)
  refine oE (ev_alloc (E := 28) (cs := u8s zd32) (by kernel_rfl)) rfl ?_
  rintro _ _ _ _ ⟨rfl, b10, rfl, rfl⟩
  refine oN (ev_store (b := b10) (vs := u8s (climbV co)) rfl rfl .agg rfl h1l (lay_all (zs := u8s zd32) (by rw [h1l]; rfl)) (u8s_ones _) .here) rfl ?_
  rintro _ _ _ _ ⟨rfl, _, rfl⟩
  rw [hsome]
  repeat (first|refine zJ rfl rfl ?_|refine jr rfl ?_|refine jn ?_|refine zM rfl rfl ?_|(refine zC rfl rfl ?_ rfl ?_;omega)|(refine zD rfl rfl ?_ rfl ?_;omega)|(refine zP rfl ?_ rfl ?_;omega)|refine zG rfl rfl rfl rfl ?_|(refine jdq rfl rfl ?_ ?_ ?_;kernel_rfl;kernel_rfl)|refine zB rfl rfl rfl (by repeat constructor) rfl ?_|refine zH .here rfl rfl rfl rfl ?_|refine zH (.there .here) rfl rfl rfl rfl ?_|refine zH (.there (.there .here)) rfl rfl rfl rfl ?_)
  refine oC (Hc := (idealC b m tg).A T) (Hr := blk b10 28 (u8s (climbV co)) :: X) (iclimb_spec (idealD b m tg) leaf (by omega) path.length path T q k _ _ F1 rfl (by omega) hq hkq (by omega) (SliceV.mono hlv hF1) (SliceV.mono hpv hF1) h32) Try.call17 rfl rfl (fun w t => Sat.front (A := [_]) (B := (idealC b m tg).A T) (C := X) t) ?_
  rintro _ F2 _ hF2 ⟨d, T2, hd, rfl, rfl, _, hcm⟩
  refine oW (H' := blk b10 28 (u8s (climbV co)) :: ((idealC b m tg).A T2 ++ X)) ?_ (fun w t => Sat.bring t)
  have hd8 : (u8s d).length = 32 := by rw [u8s_len, hd]
  repeat (first|refine zJ rfl rfl ?_|refine jr rfl ?_|refine jn ?_|refine zM rfl rfl ?_|(refine zC rfl rfl ?_ rfl ?_;omega)|(refine zD rfl rfl ?_ rfl ?_;omega)|(refine zP rfl ?_ rfl ?_;omega)|refine zG rfl rfl rfl rfl ?_|(refine jdq rfl rfl ?_ ?_ ?_;kernel_rfl;kernel_rfl)|refine zB rfl rfl rfl (by repeat constructor) rfl ?_|refine zH .here rfl rfl rfl rfl ?_|refine zH (.there .here) rfl rfl rfl rfl ?_|refine zH (.there (.there .here)) rfl rfl rfl rfl ?_)
  refine oE (ev_alloc (E := 28) (cs := u8s zd32) (by kernel_rfl)) rfl ?_
  rintro _ _ _ _ ⟨rfl, b12, rfl, rfl⟩
  refine oN (ev_store (b := b12) (vs := u8s d) rfl rfl .agg rfl hd8 (lay_all (zs := u8s zd32) (by rw [hd8]; rfl)) (u8s_ones _) .here) rfl ?_
  rintro _ _ _ _ ⟨rfl, _, rfl⟩
  have fin : ∀ w, Sat F2 (blk b12 28 (u8s d) :: blk b10 28 (u8s (climbV co)) :: ((idealC b m tg).A T2 ++ X)) w → Sat F2 X w := fun w s => Sat.drop (Sat.drop (Sat.drop (Sat.drop s)))
  have hFF := hF0.trans (hF1.trans hF2)
  by_cases hok : (turnsP q k).length = path.length
  · rw [decide_eq_true hok]
    have e1 := hcm hok
    rw [hag] at e1
    have e2 : co = some d := (Prod.ext_iff.1 e1).1
    subst e2
    dsimp only [climbV]
    repeat (first|refine zJ rfl rfl ?_|refine jr rfl ?_|refine jn ?_|refine zM rfl rfl ?_|(refine zC rfl rfl ?_ rfl ?_;omega)|(refine zD rfl rfl ?_ rfl ?_;omega)|(refine zP rfl ?_ rfl ?_;omega)|refine zG rfl rfl rfl rfl ?_|(refine jdq rfl rfl ?_ ?_ ?_;kernel_rfl;kernel_rfl)|refine zB rfl rfl rfl (by repeat constructor) rfl ?_|refine zH .here rfl rfl rfl rfl ?_|refine zH (.there .here) rfl rfl rfl rfl ?_|refine zH (.there (.there .here)) rfl rfl rfl rfl ?_)
    refine oS (ev_load_agg (cs := u8s d) rfl rfl (Rdb.ofB (n := 0) (.there .here) (by rw [List.drop_zero, List.take_length])) hd8) rfl ?_
    refine oS (ev_load_agg (cs := u8s d) rfl rfl (Rdb.ofB (n := 0) .here (by rw [List.drop_zero, List.take_length])) hd8) rfl ?_
    refine oS (ev_arr_eql' (r := true) (xs := d) (ys := d) (n := 32) (e := 5) rfl rfl (by kernel_rfl) (by kernel_rfl) hd hd (by kernel_rfl) (by simp)) rfl ?_
    repeat (first|refine zJ rfl rfl ?_|refine jr rfl ?_|refine jn ?_|refine zM rfl rfl ?_|(refine zC rfl rfl ?_ rfl ?_;omega)|(refine zD rfl rfl ?_ rfl ?_;omega)|(refine zP rfl ?_ rfl ?_;omega)|refine zG rfl rfl rfl rfl ?_|(refine jdq rfl rfl ?_ ?_ ?_;kernel_rfl;kernel_rfl)|refine zB rfl rfl rfl (by repeat constructor) rfl ?_|refine zH .here rfl rfl rfl rfl ?_|refine zH (.there .here) rfl rfl rfl rfl ?_|refine zH (.there (.there .here)) rfl rfl rfl rfl ?_)
    exact J_retv rfl (.tmp rfl .nil) [] fin hFF ⟨rfl, rfl⟩
  · rw [decide_eq_false hok]
    rw [decide_eq_false hok] at hsome
    have e2 : co = none := by cases co with
      | none => rfl
      | some _ => cases hsome
    subst e2
    dsimp only [climbV]
    repeat (first|refine zJ rfl rfl ?_|refine jr rfl ?_|refine jn ?_|refine zM rfl rfl ?_|(refine zC rfl rfl ?_ rfl ?_;omega)|(refine zD rfl rfl ?_ rfl ?_;omega)|(refine zP rfl ?_ rfl ?_;omega)|refine zG rfl rfl rfl rfl ?_|(refine jdq rfl rfl ?_ ?_ ?_;kernel_rfl;kernel_rfl)|refine zB rfl rfl rfl (by repeat constructor) rfl ?_|refine zH .here rfl rfl rfl rfl ?_|refine zH (.there .here) rfl rfl rfl rfl ?_|refine zH (.there (.there .here)) rfl rfl rfl rfl ?_)
    refine oS (ev_load_agg (cs := u8s zd32) rfl rfl (Rdb.ofB (n := 0) (.there .here) (by rw [List.drop_zero, List.take_length])) zz) rfl ?_
    refine oS dg_build rfl ?_
    refine oS (ev_arr_eql' (r := true) (xs := zd32) (ys := zd32) (n := 32) (e := 5) rfl rfl (by kernel_rfl) (by kernel_rfl) rfl rfl (by kernel_rfl) (by decide)) rfl ?_
    repeat (first|refine zJ rfl rfl ?_|refine jr rfl ?_|refine jn ?_|refine zM rfl rfl ?_|(refine zC rfl rfl ?_ rfl ?_;omega)|(refine zD rfl rfl ?_ rfl ?_;omega)|(refine zP rfl ?_ rfl ?_;omega)|refine zG rfl rfl rfl rfl ?_|(refine jdq rfl rfl ?_ ?_ ?_;kernel_rfl;kernel_rfl)|refine zB rfl rfl rfl (by repeat constructor) rfl ?_|refine zH .here rfl rfl rfl rfl ?_|refine zH (.there .here) rfl rfl rfl rfl ?_|refine zH (.there (.there .here)) rfl rfl rfl rfl ?_)
    exact J_retv rfl (.tmp rfl .nil) [] fin hFF ⟨rfl, rfl⟩
open Go.ChangeShapes Go.WideShapes Go.ChangeAt
set_option maxRecDepth 100000 in theorem AttestClimbs_lifted (os : Os) (started : os.Started) (H : Type) (enc : TypeId × Value → H) : ReturnsInHanded {} Try.checked os 4 .any (Rows.attestClimbsSpec.pre6 enc Try.prog Try.f4 Rows.attestClimbsRow.domain false) (Rows.attestClimbsSpec.post enc Try.prog Try.f4 false true false false) := by
  refine returnsInHanded_of_change (C := Try.checked) own_knob started (by kernel_rfl) Try.func4 (ChangeSpec.witness6 (enc := enc) (C := Try.checked) false ⟨#[], #[.int .i64 0, .int .i64 0, .slice none 0 0, .slice none 0 0], []⟩ 8 (by kernel_rfl) (by kernel_rfl) (by kernel_rfl) (by kernel_rfl)) ?_; intro W base args ds gs before hval0 hW hcnd _; have hval : ∀ (j : Nat) t v, Try.f4.params[j]? = some t → args[j]? = some v → Value.okWide Try.prog W .any base t v := hval0; have hW' := hW; obtain ⟨p, q, hA0, hV, hp, hfz, hnd⟩ := hW; have hA : DataW.TrodAll enc Try.prog W 0 (fun _ => true) true Try.f4.params.toList args.toList ds p := hA0; obtain ⟨rfl, rfl⟩ := trodVars_none hV; rw [List.append_nil] at hp; have hA' := hA; rw [Try.params4] at hA hval
  obtain ⟨v0, vs0, d0, ds0, p0, q0, hargs, rfl, rfl, h0, r0⟩ := trodAll_cons hA; obtain ⟨v1, vs1, d1, ds1, p1, q1, rfl, rfl, rfl, h1, r1⟩ := trodAll_cons r0; obtain ⟨v2, vs2, d2, ds2, p2, q2, rfl, rfl, rfl, h2, r2⟩ := trodAll_cons r1; obtain ⟨v3, vs3, d3, ds3, p3, q3, rfl, rfl, rfl, h3, r3⟩ := trodAll_cons r2; obtain ⟨rfl, rfl, rfl⟩ := trodAll_nil r3; obtain rfl : args = #[v0, v1, v2, v3] := by cases args; simp_all
  obtain ⟨n, rfl, rfl, rfl, w0⟩ := open_int Try.underlying3 (hval 0 3 v0 rfl rfl) h0
  obtain ⟨i, rfl, rfl, rfl, w1⟩ := open_int Try.underlying3 (hval 1 3 v1 rfl rfl) h1
  obtain ⟨ab, kb, bs, rfl, _, _, hbs⟩ := open_byt Try.underlying36 Try.underlying5 (by kernel_rfl) (hval 2 36 v2 rfl rfl) h2
  obtain ⟨ds, hx, hm⟩ := open_rowB tyDg Try.underlying31 (by kernel_rfl) (by decide) (hval 3 31 v3 rfl rfl) h3
  obtain ⟨a0, c0, rfl, _⟩ := hx.form
  obtain ⟨hdg, h32⟩ := dg_row hx
  refine (law_walk (AttestClimbs_walk n i bs ds ab a0 kb c0 (ph W) hbs hdg h32)).mono fun e W' ⟨he, hb⟩ => ?_
  subst he
  exact ⟨_, rfl, law_post laid_out (by kernel_rfl) rfl rfl Try.underlying4 hW' hA' hp rfl hb⟩
theorem AttestClimbs_holds : Rows.AttestClimbsSaid := OpenClaim.holds_of_wide 4 Try.f4 rfl rfl rfl rfl rfl rfl rfl ⟨rfl, rfl, rfl, rfl, rfl⟩ rfl rfl rfl rfl rfl (by kernel_rfl) Try.func4 (by kernel_rfl) (of_decide_eq_true (by kernel_rfl)) (by unfold Func.isWrapper; first | (rw [if_pos (by decide +kernel)]; kernel_rfl) | (rw [if_neg (by decide +kernel)]; exact ⟨rfl, rfl⟩)) (fun os started H enc _ => AttestClimbs_lifted os started H enc)
#print axioms AttestClimbs_holds
end Go.Proofs.Ytohlmhoacjodjaa
