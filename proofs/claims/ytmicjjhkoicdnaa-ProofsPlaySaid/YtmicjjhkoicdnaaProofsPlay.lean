/-
  Whatever is prepared, proposed, and let go, one behind the other, both rows are the document's (ProofsPlay). No condition.
-/
import Derived.Test.YtmicjjhkoicdnaaJw
namespace Go.Proofs.Ytmicjjhkoicdnaa
open Go.RowKit
set_option maxRecDepth 100000
set_option maxHeartbeats 32000000 in
theorem ProofsPlay_walk (a : Option Addr) (c : Nat) (xs : List ActP) (F : PH) (h : RowV tyActP F (.slice a xs.length c) xs) : Spec Try.prog 7 [.slice a xs.length c] F [] fun u F' H' => u = .bool true ∧ H' = [] := by
  refine Spec.of1 Try.func7 rfl rfl fun X w0 => ?_
  repeat (first|refine zJ rfl rfl ?_|refine jr rfl ?_|refine jn ?_|refine zM rfl rfl ?_|(refine zC rfl rfl ?_ rfl ?_;omega)|(refine zD rfl rfl ?_ rfl ?_;omega)|(refine zP rfl ?_ rfl ?_;omega)|refine zG rfl rfl rfl rfl ?_|(refine jdq rfl rfl ?_ ?_ ?_;kernel_rfl;kernel_rfl)|refine zB rfl rfl rfl (by repeat constructor) rfl ?_|refine zH .here rfl rfl rfl rfl ?_|refine zH (.there .here) rfl rfl rfl rfl ?_|refine zH (.there (.there .here)) rfl rfl rfl rfl ?_)
  refine oC (Hc := []) (Hr := X) (fixed_spec F) Try.call14 rfl rfl (fun _ s => s) ?_
  rintro _ F1 _ hF1 ⟨rfl, rfl⟩
  repeat (first|refine zJ rfl rfl ?_|refine jr rfl ?_|refine jn ?_|refine zM rfl rfl ?_|(refine zC rfl rfl ?_ rfl ?_;omega)|(refine zD rfl rfl ?_ rfl ?_;omega)|(refine zP rfl ?_ rfl ?_;omega)|refine zG rfl rfl rfl rfl ?_|(refine jdq rfl rfl ?_ ?_ ?_;kernel_rfl;kernel_rfl)|refine zB rfl rfl rfl (by repeat constructor) rfl ?_|refine zH .here rfl rfl rfl rfl ?_|refine zH (.there .here) rfl rfl rfl rfl ?_|refine zH (.there (.there .here)) rfl rfl rfl rfl ?_)
  by_cases hl : 200 < xs.length
  · try rw [decide_eq_true (show (200 : Int) < xs.length by omega)]
    repeat (first|refine zJ rfl rfl ?_|refine jr rfl ?_|refine jn ?_|refine zM rfl rfl ?_|(refine zC rfl rfl ?_ rfl ?_;omega)|(refine zD rfl rfl ?_ rfl ?_;omega)|(refine zP rfl ?_ rfl ?_;omega)|refine zG rfl rfl rfl rfl ?_|(refine jdq rfl rfl ?_ ?_ ?_;kernel_rfl;kernel_rfl)|refine zB rfl rfl rfl (by repeat constructor) rfl ?_|refine zH .here rfl rfl rfl rfl ?_|refine zH (.there .here) rfl rfl rfl rfl ?_|refine zH (.there (.there .here)) rfl rfl rfl rfl ?_)
    exact J_retv rfl (.tmp rfl .nil) [] (fun w s => s) hF1 ⟨rfl, rfl⟩
  try rw [decide_eq_false (show ¬ (200 : Int) < xs.length by omega)]
  repeat (first|refine zJ rfl rfl ?_|refine jr rfl ?_|refine jn ?_|refine zM rfl rfl ?_|(refine zC rfl rfl ?_ rfl ?_;omega)|(refine zD rfl rfl ?_ rfl ?_;omega)|(refine zP rfl ?_ rfl ?_;omega)|refine zG rfl rfl rfl rfl ?_|(refine jdq rfl rfl ?_ ?_ ?_;kernel_rfl;kernel_rfl)|refine zB rfl rfl rfl (by repeat constructor) rfl ?_|refine zH .here rfl rfl rfl rfl ?_|refine zH (.there .here) rfl rfl rfl rfl ?_|refine zH (.there (.there .here)) rfl rfl rfl rfl ?_)
  refine oC (Hc := []) (Hr := X) (new_spec F1) Try.call15 rfl rfl (fun _ s => s) ?_
  rintro _ _ _ _ ⟨rfl, bp, rfl, rfl⟩
  repeat (first|refine zJ rfl rfl ?_|refine jr rfl ?_|refine jn ?_|refine zM rfl rfl ?_|(refine zC rfl rfl ?_ rfl ?_;omega)|(refine zD rfl rfl ?_ rfl ?_;omega)|(refine zP rfl ?_ rfl ?_;omega)|refine zG rfl rfl rfl rfl ?_|(refine jdq rfl rfl ?_ ?_ ?_;kernel_rfl;kernel_rfl)|refine zB rfl rfl rfl (by repeat constructor) rfl ?_|refine zH .here rfl rfl rfl rfl ?_|refine zH (.there .here) rfl rfl rfl rfl ?_|refine zH (.there (.there .here)) rfl rfl rfl rfl ?_)
  refine oE (ev_box rfl .agg) rfl ?_; rintro _ _ _ _ ⟨rfl, br, rfl, rfl⟩
  repeat (first|refine zJ rfl rfl ?_|refine jr rfl ?_|refine jn ?_|refine zM rfl rfl ?_|(refine zC rfl rfl ?_ rfl ?_;omega)|(refine zD rfl rfl ?_ rfl ?_;omega)|(refine zP rfl ?_ rfl ?_;omega)|refine zG rfl rfl rfl rfl ?_|(refine jdq rfl rfl ?_ ?_ ?_;kernel_rfl;kernel_rfl)|refine zB rfl rfl rfl (by repeat constructor) rfl ?_|refine zH .here rfl rfl rfl rfl ?_|refine zH (.there .here) rfl rfl rfl rfl ?_|refine zH (.there (.there .here)) rfl rfl rfl rfl ?_)
  refine J_loop2 (fun (i : Nat) (t : PlSt) => i ≤ xs.length ∧ PlOk F i t) (fun i _ => xs.length - i) (fun i _ => [(2, .bool false), (3, .pointer (some ⟨bp, 0, none⟩)), (4, .pointer (some ⟨br, 0, none⟩)), (16, .slice a xs.length c), (17, .int .i64 xs.length), (18, .int .i64 i)]) (fun _ t => t.G) (fun _ t => blk bp 66 [t.v1, t.v2] :: prO t.v1 t.L :: prO t.v2 t.M :: blk br 50 [t.r1, t.r2] :: X) 0 ⟨F1, .slice none 0 0, .slice none 0 0, .slice none 0 0, .slice none 0 0, [], [], [], []⟩ ⟨Nat.zero_le _, ⟨hF1, (fun y h => absurd h (List.not_mem_nil)), (fun y h => absurd h (List.not_mem_nil)), PvRow.nil _, PvRow.nil _, (fun y h => absurd h (List.not_mem_nil)), (fun y h => absurd h (List.not_mem_nil)), rfl, rfl, Nat.le_refl _, Nat.zero_le _⟩⟩ ⟨⟨rfl, rfl, rfl, rfl, rfl, rfl, trivial⟩, fun w t => t.pm 4 [1, 2, 3, 0] rfl rfl⟩ ?_
  rintro i ⟨G, v1, v2, r1, r2, L, M, L', M'⟩ ⟨hi, hG, okL, okM, rowL, rowM, okL', okM', keyL, keyM, lenL, lenM⟩
  dsimp only at hG okL okM rowL rowM okL' okM' keyL keyM lenL lenM ⊢
  by_cases hlt : i < xs.length
  · have hg : xs[i]? = some xs[i] := List.getElem?_eq_getElem hlt
    obtain ⟨b, off, acs, rfl, hcc, hrep, _⟩ := (h.mono hG).at hg
    obtain ⟨k, y, rfl, hk, hyn, hys, hyw, hyr⟩ := act_of hrep
    clear hrep hg
    have hyl : (actC k y).length = 4 := rfl
    have hyo : Ones (actC k y) := ones_cons rfl y.ones
    repeat (first|refine zJ rfl rfl ?_|refine jr rfl ?_|refine jn ?_|refine zM rfl rfl ?_|(refine zC rfl rfl ?_ rfl ?_;omega)|(refine zD rfl rfl ?_ rfl ?_;omega)|(refine zP rfl ?_ rfl ?_;omega)|refine zG rfl rfl rfl rfl ?_|(refine jdq rfl rfl ?_ ?_ ?_;kernel_rfl;kernel_rfl)|refine zB rfl rfl rfl (by repeat constructor) rfl ?_|refine zH .here rfl rfl rfl rfl ?_|refine zH (.there .here) rfl rfl rfl rfl ?_|refine zH (.there (.there .here)) rfl rfl rfl rfl ?_)
    refine oS (ev_indexAddr (i := i) rfl rfl rfl hlt) rfl ?_
    refine oS (ev_load_agg (cs := actC k y) rfl rfl (Rdb.ofF hcc) hyl) rfl ?_
    refine oE (ev_alloc (cs := [.int .u8 0, .int .i64 0, .int .i64 0, .slice none 0 0]) rfl) rfl ?_
    rintro _ _ _ _ ⟨rfl, b6, rfl, rfl⟩
    refine oN (ev_store (b := b6) (off := 0) rfl rfl .agg rfl hyl (lay_all (zs := [.int .u8 0, .int .i64 0, .int .i64 0, .slice none 0 0]) rfl) hyo .here) rfl ?_
    rintro _ _ _ _ ⟨rfl, _, rfl⟩
    repeat (first|refine zJ rfl rfl ?_|refine jr rfl ?_|refine jn ?_|refine zM rfl rfl ?_|(refine zC rfl rfl ?_ rfl ?_;omega)|(refine zD rfl rfl ?_ rfl ?_;omega)|(refine zP rfl ?_ rfl ?_;omega)|refine zG rfl rfl rfl rfl ?_|(refine jdq rfl rfl ?_ ?_ ?_;kernel_rfl;kernel_rfl)|refine zB rfl rfl rfl (by repeat constructor) rfl ?_|refine zH .here rfl rfl rfl rfl ?_|refine zH (.there .here) rfl rfl rfl rfl ?_|refine zH (.there (.there .here)) rfl rfl rfl rfl ?_)
    by_cases h10 : 10 < y.n
    · try rw [decide_eq_true (show (10 : Int) < (y.n : Int) by omega)]
      repeat (first|refine zJ rfl rfl ?_|refine jr rfl ?_|refine jn ?_|refine zM rfl rfl ?_|(refine zC rfl rfl ?_ rfl ?_;omega)|(refine zD rfl rfl ?_ rfl ?_;omega)|(refine zP rfl ?_ rfl ?_;omega)|refine zG rfl rfl rfl rfl ?_|(refine jdq rfl rfl ?_ ?_ ?_;kernel_rfl;kernel_rfl)|refine zB rfl rfl rfl (by repeat constructor) rfl ?_|refine zH .here rfl rfl rfl rfl ?_|refine zH (.there .here) rfl rfl rfl rfl ?_|refine zH (.there (.there .here)) rfl rfl rfl rfl ?_)
      exact J_retv rfl (.tmp rfl .nil) [] (fun w s => s.drop.drop.drop.drop.drop) hG ⟨rfl, rfl⟩
    try rw [decide_eq_false (show ¬ (10 : Int) < (y.n : Int) by omega)]
    refine J_cond_f rfl ?_
    refine J_skip ?_
    have hlv : y.es.length ≤ 10 := by omega
    have hyok : y.Ok G := ⟨hys, hyw, hyr, by omega⟩
    refine J_seq ?_
    refine J_join [_] (fun t : PlSt => PlOk F (i + 1) t) (fun _ => [(2, .bool false), (3, .pointer (some ⟨bp, 0, none⟩)), (4, .pointer (some ⟨br, 0, none⟩)), (16, .slice (some ⟨b, off, none⟩) xs.length c), (17, .int .i64 xs.length), (18, .int .i64 i)]) (fun t => t.G) (fun t => blk bp 66 [t.v1, t.v2] :: prO t.v1 t.L :: prO t.v2 t.M :: blk br 50 [t.r1, t.r2] :: X) ?_ ?_
    · dsimp only [InK] at hk
      have kl := key_len keyL
      have km := key_len keyM
      by_cases hk0 : k % 3 = 0
      · repeat (first|refine zJ rfl rfl ?_|refine jr rfl ?_|refine jn ?_|refine zM rfl rfl ?_|(refine zC rfl rfl ?_ rfl ?_;omega)|(refine zD rfl rfl ?_ rfl ?_;omega)|(refine zP rfl ?_ rfl ?_;omega)|refine zG rfl rfl rfl rfl ?_|(refine jdq rfl rfl ?_ ?_ ?_;kernel_rfl;kernel_rfl)|refine zB rfl rfl rfl (by repeat constructor) rfl ?_|refine zH .here rfl rfl rfl rfl ?_|refine zH (.there .here) rfl rfl rfl rfl ?_|refine zH (.there (.there .here)) rfl rfl rfl rfl ?_)
        refine oS (ev_load_agg (cs := y.cs) rfl rfl (Rdb.ofB (n := 0) .here rfl) rfl) rfl ?_
        refine oC (Hc := [blk bp 66 [v1, v2], prO v1 L]) (Hr := blk b6 52 (actC k y) :: prO v2 M :: blk br 50 [r1, r2] :: X) (prep_spec bp v1 v2 L y G (by omega) okL hyok) Try.call18 rfl rfl (fun _ s => s.pm 5 [1, 2, 0, 3, 4] rfl rfl) ?_
        rintro _ G1 _ hG1 ⟨v1', L1, rfl, ok1, key1⟩
        repeat (first|refine zJ rfl rfl ?_|refine jr rfl ?_|refine jn ?_|refine zM rfl rfl ?_|(refine zC rfl rfl ?_ rfl ?_;omega)|(refine zD rfl rfl ?_ rfl ?_;omega)|(refine zP rfl ?_ rfl ?_;omega)|refine zG rfl rfl rfl rfl ?_|(refine jdq rfl rfl ?_ ?_ ?_;kernel_rfl;kernel_rfl)|refine zB rfl rfl rfl (by repeat constructor) rfl ?_|refine zH .here rfl rfl rfl rfl ?_|refine zH (.there .here) rfl rfl rfl rfl ?_|refine zH (.there (.there .here)) rfl rfl rfl rfl ?_)
        refine oS (ev_load_agg (cs := y.cs) rfl rfl (Rdb.ofB (n := 0) (.there (.there .here)) rfl) rfl) rfl ?_
        refine oC (Hc := [blk br 50 [r1, r2]]) (Hr := blk bp 66 [v1', v2] :: prO v1' L1 :: blk b6 52 (actC k y) :: prO v2 M :: X) (rprep_spec br r1 r2 L' y G1 (by omega) (ok_mono okL' hG1) (hyok.mono hG1) (rowL.mono hG1)) Try.call19 rfl rfl (fun _ s => s.pm 5 [4, 0, 1, 2, 3] rfl rfl) ?_
        rintro _ G2 _ hG2 ⟨r1', L1', rfl, row1', ok1', key1'⟩
        have hle := hG1.trans hG2
        have hln := newerP_key_len key1
        repeat (first|refine zJ rfl rfl ?_|refine jr rfl ?_|refine jn ?_|refine zM rfl rfl ?_|(refine zC rfl rfl ?_ rfl ?_;omega)|(refine zD rfl rfl ?_ rfl ?_;omega)|(refine zP rfl ?_ rfl ?_;omega)|refine zG rfl rfl rfl rfl ?_|(refine jdq rfl rfl ?_ ?_ ?_;kernel_rfl;kernel_rfl)|refine zB rfl rfl rfl (by repeat constructor) rfl ?_|refine zH .here rfl rfl rfl rfl ?_|refine zH (.there .here) rfl rfl rfl rfl ?_|refine zH (.there (.there .here)) rfl rfl rfl rfl ?_)
        refine J_joined ⟨G2, v1', v2, r1', r2, L1, M, L1', M'⟩ ⟨hG.trans hle, ok_mono ok1 hG2, ok_mono okM hle, row1', rowM.mono hle, ok1', ok_mono okM' hle, by dsimp only; rw [key1, key1', keyL], keyM, by dsimp only; omega, lenM⟩ ⟨⟨rfl, rfl, rfl, rfl, rfl, rfl, trivial⟩, fun w t => (t.pm 5 [3, 1, 2, 4, 0] rfl rfl).drop⟩
      by_cases hk1 : k % 3 = 1
      · repeat (first|refine zJ rfl rfl ?_|refine jr rfl ?_|refine jn ?_|refine zM rfl rfl ?_|(refine zC rfl rfl ?_ rfl ?_;omega)|(refine zD rfl rfl ?_ rfl ?_;omega)|(refine zP rfl ?_ rfl ?_;omega)|refine zG rfl rfl rfl rfl ?_|(refine jdq rfl rfl ?_ ?_ ?_;kernel_rfl;kernel_rfl)|refine zB rfl rfl rfl (by repeat constructor) rfl ?_|refine zH .here rfl rfl rfl rfl ?_|refine zH (.there .here) rfl rfl rfl rfl ?_|refine zH (.there (.there .here)) rfl rfl rfl rfl ?_)
        refine oS (ev_load_agg (cs := y.cs) rfl rfl (Rdb.ofB (n := 0) .here rfl) rfl) rfl ?_
        refine oC (Hc := [blk bp 66 [v1, v2], prO v2 M]) (Hr := blk b6 52 (actC k y) :: prO v1 L :: blk br 50 [r1, r2] :: X) (prop_spec bp v1 v2 M y G (by omega) okM hyok) Try.call16 rfl rfl (fun _ s => s.pm 5 [1, 3, 0, 2, 4] rfl rfl) ?_
        rintro _ G1 _ hG1 ⟨v2', M1, rfl, ok1, key1⟩
        repeat (first|refine zJ rfl rfl ?_|refine jr rfl ?_|refine jn ?_|refine zM rfl rfl ?_|(refine zC rfl rfl ?_ rfl ?_;omega)|(refine zD rfl rfl ?_ rfl ?_;omega)|(refine zP rfl ?_ rfl ?_;omega)|refine zG rfl rfl rfl rfl ?_|(refine jdq rfl rfl ?_ ?_ ?_;kernel_rfl;kernel_rfl)|refine zB rfl rfl rfl (by repeat constructor) rfl ?_|refine zH .here rfl rfl rfl rfl ?_|refine zH (.there .here) rfl rfl rfl rfl ?_|refine zH (.there (.there .here)) rfl rfl rfl rfl ?_)
        refine oS (ev_load_agg (cs := y.cs) rfl rfl (Rdb.ofB (n := 0) (.there (.there .here)) rfl) rfl) rfl ?_
        refine oC (Hc := [blk br 50 [r1, r2]]) (Hr := blk bp 66 [v1, v2'] :: prO v2' M1 :: blk b6 52 (actC k y) :: prO v1 L :: X) (rprop_spec br r1 r2 M' y G1 (by omega) (ok_mono okM' hG1) (hyok.mono hG1) (rowM.mono hG1)) Try.call20 rfl rfl (fun _ s => s.pm 5 [4, 0, 1, 2, 3] rfl rfl) ?_
        rintro _ G2 _ hG2 ⟨r2', M1', rfl, row1', ok1', key1'⟩
        have hle := hG1.trans hG2
        have hln : M1.length ≤ 64 := by
          have := prop_len (l := M.map PV.key) (x := y.key) (by rw [List.length_map]; exact lenM)
          rw [← key1, List.length_map] at this
          exact this
        repeat (first|refine zJ rfl rfl ?_|refine jr rfl ?_|refine jn ?_|refine zM rfl rfl ?_|(refine zC rfl rfl ?_ rfl ?_;omega)|(refine zD rfl rfl ?_ rfl ?_;omega)|(refine zP rfl ?_ rfl ?_;omega)|refine zG rfl rfl rfl rfl ?_|(refine jdq rfl rfl ?_ ?_ ?_;kernel_rfl;kernel_rfl)|refine zB rfl rfl rfl (by repeat constructor) rfl ?_|refine zH .here rfl rfl rfl rfl ?_|refine zH (.there .here) rfl rfl rfl rfl ?_|refine zH (.there (.there .here)) rfl rfl rfl rfl ?_)
        refine J_joined ⟨G2, v1, v2', r1, r2', L, M1, L', M1'⟩ ⟨hG.trans hle, ok_mono okL hle, ok_mono ok1 hG2, rowL.mono hle, row1', ok_mono okL' hle, ok1', keyL, by dsimp only; rw [key1, key1', keyM], by dsimp only; omega, hln⟩ ⟨⟨rfl, rfl, rfl, rfl, rfl, rfl, trivial⟩, fun w t => (t.pm 5 [3, 1, 4, 2, 0] rfl rfl).drop⟩
      have hk2 : k % 3 = 2 := by omega
      repeat (first|refine zJ rfl rfl ?_|refine jr rfl ?_|refine jn ?_|refine zM rfl rfl ?_|(refine zC rfl rfl ?_ rfl ?_;omega)|(refine zD rfl rfl ?_ rfl ?_;omega)|(refine zP rfl ?_ rfl ?_;omega)|refine zG rfl rfl rfl rfl ?_|(refine jdq rfl rfl ?_ ?_ ?_;kernel_rfl;kernel_rfl)|refine zB rfl rfl rfl (by repeat constructor) rfl ?_|refine zH .here rfl rfl rfl rfl ?_|refine zH (.there .here) rfl rfl rfl rfl ?_|refine zH (.there (.there .here)) rfl rfl rfl rfl ?_)
      refine oC (Hc := [blk bp 66 [v1, v2], prO v1 L, prO v2 M]) (Hr := blk b6 52 (actC k y) :: blk br 50 [r1, r2] :: X) (move_spec bp v1 v2 y.s L M G (by omega) (by omega)) Try.call21 rfl rfl (fun _ s => s.pm 5 [1, 2, 3, 0, 4] rfl rfl) ?_
      rintro _ G1 _ hG1 ⟨v1', v2', rfl⟩
      repeat (first|refine zJ rfl rfl ?_|refine jr rfl ?_|refine jn ?_|refine zM rfl rfl ?_|(refine zC rfl rfl ?_ rfl ?_;omega)|(refine zD rfl rfl ?_ rfl ?_;omega)|(refine zP rfl ?_ rfl ?_;omega)|refine zG rfl rfl rfl rfl ?_|(refine jdq rfl rfl ?_ ?_ ?_;kernel_rfl;kernel_rfl)|refine zB rfl rfl rfl (by repeat constructor) rfl ?_|refine zH .here rfl rfl rfl rfl ?_|refine zH (.there .here) rfl rfl rfl rfl ?_|refine zH (.there (.there .here)) rfl rfl rfl rfl ?_)
      refine oS (ev_load (v := .int .i64 y.s) rfl rfl (Rdb.ofB (n := 0) (.there (.there (.there .here))) rfl)) rfl ?_
      refine oC (Hc := [blk br 50 [r1, r2]]) (Hr := blk bp 66 [v1', v2'] :: prO v1' (L.filter fun y' => !decide (y'.s ≤ y.s)) :: prO v2' (M.filter fun y' => !decide (y'.s ≤ y.s)) :: blk b6 52 (actC k y) :: X) (rmove_spec br r1 r2 y.s L' M' G1 (by omega) (by omega) (rowL.mono hG1) (rowM.mono hG1)) Try.call22 rfl rfl (fun _ s => s.pm 5 [4, 0, 1, 2, 3] rfl rfl) ?_
      rintro _ G2 _ hG2 ⟨r1', r2', rfl, row1', row2'⟩
      have hle := hG1.trans hG2
      have hln := List.length_filter_le (fun y' : PV => !decide (y'.s ≤ y.s)) L
      have hmn := List.length_filter_le (fun y' : PV => !decide (y'.s ≤ y.s)) M
      repeat (first|refine zJ rfl rfl ?_|refine jr rfl ?_|refine jn ?_|refine zM rfl rfl ?_|(refine zC rfl rfl ?_ rfl ?_;omega)|(refine zD rfl rfl ?_ rfl ?_;omega)|(refine zP rfl ?_ rfl ?_;omega)|refine zG rfl rfl rfl rfl ?_|(refine jdq rfl rfl ?_ ?_ ?_;kernel_rfl;kernel_rfl)|refine zB rfl rfl rfl (by repeat constructor) rfl ?_|refine zH .here rfl rfl rfl rfl ?_|refine zH (.there .here) rfl rfl rfl rfl ?_|refine zH (.there (.there .here)) rfl rfl rfl rfl ?_)
      refine J_joined ⟨G2, v1', v2', r1', r2', _, _, _, _⟩ ⟨hG.trans hle, ok_filter _ (ok_mono okL hle), ok_filter _ (ok_mono okM hle), row1', row2', ok_filter _ (ok_mono okL' hle), ok_filter _ (ok_mono okM' hle), filt_key y.s keyL, filt_key y.s keyM, by dsimp only; omega, by dsimp only; omega⟩ ⟨⟨rfl, rfl, rfl, rfl, rfl, rfl, trivial⟩, fun w t => (t.pm 5 [4, 1, 2, 3, 0] rfl rfl).drop⟩
    clear hG okL okM rowL rowM okL' okM' keyL keyM lenL lenM hyok hyr hcc
    rintro ⟨G, v1, v2, r1, r2, L, M, L', M'⟩ ⟨hG, okL, okM, rowL, rowM, okL', okM', keyL, keyM, lenL, lenM⟩
    dsimp only at hG okL okM rowL rowM okL' okM' keyL keyM lenL lenM ⊢
    have kl := key_len keyL
    have km := key_len keyM
    repeat (first|refine zJ rfl rfl ?_|refine jr rfl ?_|refine jn ?_|refine zM rfl rfl ?_|(refine zC rfl rfl ?_ rfl ?_;omega)|(refine zD rfl rfl ?_ rfl ?_;omega)|(refine zP rfl ?_ rfl ?_;omega)|refine zG rfl rfl rfl rfl ?_|(refine jdq rfl rfl ?_ ?_ ?_;kernel_rfl;kernel_rfl)|refine zB rfl rfl rfl (by repeat constructor) rfl ?_|refine zH .here rfl rfl rfl rfl ?_|refine zH (.there .here) rfl rfl rfl rfl ?_|refine zH (.there (.there .here)) rfl rfl rfl rfl ?_)
    refine ja G [blk br 50 [r1, r2]] ?_ (fun w t => (t.pm 4 [3, 0, 1, 2] rfl rfl).head) ?_; kernel_rfl
    refine aT 0 rfl (ev_qe rfl) rfl rfl ?_ ?_ ?_ ?_; kernel_rfl; kernel_rfl; kernel_rfl
    refine aT 2 rfl (ev_qe rfl) rfl rfl ?_ ?_ ?_ ?_; kernel_rfl; kernel_rfl; kernel_rfl
    refine aT 3 rfl (ev_qe rfl) rfl rfl ?_ ?_ ?_ ?_; kernel_rfl; kernel_rfl; kernel_rfl
    refine aT 4 rfl (ev_qe rfl) rfl rfl ?_ ?_ ?_ ?_; kernel_rfl; kernel_rfl; kernel_rfl
    refine aT 5 rfl (ev_load (v := r1) rfl rfl (Rdb.ofB (n := 0) .here rfl)) rfl rfl ?_ ?_ ?_ ?_; kernel_rfl; kernel_rfl; kernel_rfl
    refine aB (i := 1) (by kernel_rfl) (aC (Hc := [blk bp 66 [v1, v2], prO v1 L]) (Hr := prO v2 M :: blk br 50 [r1, r2] :: X) rfl (prepd_spec bp v1 v2 L G (by omega) okL) Try.call24 rfl rfl rfl (fun w t => t) (fun _ _ _ hF hq w t => by obtain ⟨_, rfl, _⟩ := hq; exact (t.pm 5 [4, 0, 1, 2, 3] rfl rfl).head.mono hF) ?_)
    rintro u1 G1 _ hG1 ⟨L1, rfl, ok1, key1⟩
    refine aB (i := 6) (by kernel_rfl) (aC (Hc := []) (Hr := blk bp 66 [v1, v2] :: prO v1 L :: prO u1 (isortL ltS L1) :: prO v2 M :: blk br 50 [r1, r2] :: X) rfl (rsorted_spec r1 L' G1 (by omega) (rowL.mono hG1)) Try.call25 rfl rfl rfl (fun w t => t) (fun _ _ _ hF hq w t => by obtain ⟨rfl, _⟩ := hq; exact (t.pm 5 [4, 0, 1, 2, 3] rfl rfl).head.mono (hG1.trans hF)) ?_)
    rintro u2 G2 _ hG2 ⟨rfl, row2⟩
    refine aWeak (F' := G2) (H' := prO u1 (isortL ltS L1) :: blk bp 66 [v1, v2] :: prO v1 L :: prO v2 M :: blk br 50 [r1, r2] :: X) ?_ (fun w t => (t.pm 5 [4, 0, 1, 2, 3] rfl rfl).head.mono (hG1.trans hG2)) (fun w t => t.pm 5 [2, 0, 1, 3, 4] rfl rfl)
    refine aPersist fun hh hA hd => ?_
    have row1 := PvRow.of hA hd
    have hG3 := PH.le_l G2 hh
    generalize G2.un hh = G3 at *
    have le3 := hG1.trans (hG2.trans hG3)
    have e1 := key_len key1
    refine aB (i := 7) (by kernel_rfl) (aP rfl (rsames_spec u1 u2 (isortL ltS L1) (isortL ltS L') G3 (by rw [sort_len]; omega) (ok_sort (ok_mono ok1 (hG2.trans hG3))) (ok_sort (ok_mono okL' le3)) row1 (row2.mono hG3) true ⟨fun _ => sort_key (key1.trans keyL), fun _ => rfl⟩) Try.call23 rfl rfl rfl (fun w t => (t.pm 4 [3, 0, 1, 2] rfl rfl).head.mono le3) ?_)
    refine aT 8 rfl (ev_qe rfl) rfl rfl ?_ ?_ ?_ ?_; kernel_rfl; kernel_rfl; kernel_rfl
    refine aT 9 rfl (ev_qe rfl) rfl rfl ?_ ?_ ?_ ?_; kernel_rfl; kernel_rfl; kernel_rfl
    refine aT 10 rfl (ev_qe rfl) rfl rfl ?_ ?_ ?_ ?_; kernel_rfl; kernel_rfl; kernel_rfl
    refine aT 12 rfl (ev_qe rfl) rfl rfl ?_ ?_ ?_ ?_; kernel_rfl; kernel_rfl; kernel_rfl
    refine aT 13 rfl (ev_qe rfl) rfl rfl ?_ ?_ ?_ ?_; kernel_rfl; kernel_rfl; kernel_rfl
    refine aT 14 rfl (ev_qe rfl) rfl rfl ?_ ?_ ?_ ?_; kernel_rfl; kernel_rfl; kernel_rfl
    refine aT 15 rfl (ev_load (v := r2) rfl rfl (Rdb.ofB (n := 0) .here rfl)) rfl rfl ?_ ?_ ?_ ?_; kernel_rfl; kernel_rfl; kernel_rfl
    refine aB (i := 11) (by kernel_rfl) (aC (Hc := [blk bp 66 [v1, v2], prO v2 M]) (Hr := prO v1 L :: blk br 50 [r1, r2] :: X) rfl (propd_spec bp v1 v2 M G3 (by omega) (ok_mono okM le3)) Try.call17 rfl rfl rfl (fun w t => t.pm 4 [0, 2, 1, 3] rfl rfl) (fun _ _ _ hF hq w t => by obtain ⟨_, rfl, _⟩ := hq; exact (t.pm 5 [4, 0, 1, 2, 3] rfl rfl).head.mono (le3.trans hF)) ?_)
    rintro u3 G4 _ hG4 ⟨M1, rfl, ok3, key3⟩
    refine aB (i := 16) (by kernel_rfl) (aC (Hc := []) (Hr := blk bp 66 [v1, v2] :: prO v2 M :: prO u3 (isortL ltS M1) :: prO v1 L :: blk br 50 [r1, r2] :: X) rfl (rsorted_spec r2 M' G4 (by omega) (rowM.mono (le3.trans hG4))) Try.call25 rfl rfl rfl (fun w t => t) (fun _ _ _ hF hq w t => by obtain ⟨rfl, _⟩ := hq; exact (t.pm 5 [4, 0, 1, 2, 3] rfl rfl).head.mono (le3.trans (hG4.trans hF))) ?_)
    rintro u4 G5 _ hG5 ⟨rfl, row4⟩
    refine aWeak (F' := G5) (H' := prO u3 (isortL ltS M1) :: blk bp 66 [v1, v2] :: prO v2 M :: prO v1 L :: blk br 50 [r1, r2] :: X) ?_ (fun w t => (t.pm 5 [4, 0, 1, 2, 3] rfl rfl).head.mono (le3.trans (hG4.trans hG5))) (fun w t => t.pm 5 [2, 0, 1, 3, 4] rfl rfl)
    refine aPersist fun hh hA hd => ?_
    have row3 := PvRow.of hA hd
    have hG6 := PH.le_l G5 hh
    generalize G5.un hh = G6 at *
    have le6 := le3.trans (hG4.trans (hG5.trans hG6))
    have e3 := key_len key3
    refine aB (i := 17) (by kernel_rfl) (aP rfl (rsames_spec u3 u4 (isortL ltS M1) (isortL ltS M') G6 (by rw [sort_len]; omega) (ok_sort (ok_mono ok3 (hG5.trans hG6))) (ok_sort (ok_mono okM' le6)) row3 (row4.mono hG6) true ⟨fun _ => sort_key (key3.trans keyM), fun _ => rfl⟩) Try.call23 rfl rfl rfl (fun w t => (t.pm 4 [3, 0, 1, 2] rfl rfl).head.mono le6) ?_)
    refine aT 18 rfl (ev_qe rfl) rfl rfl ?_ ?_ ?_ ?_; kernel_rfl; kernel_rfl; kernel_rfl
    refine aT 19 rfl (ev_qe rfl) rfl rfl ?_ ?_ ?_ ?_; kernel_rfl; kernel_rfl; kernel_rfl
    refine aT 20 rfl (ev_qe rfl) rfl rfl ?_ ?_ ?_ ?_; kernel_rfl; kernel_rfl; kernel_rfl
    refine aT 21 rfl (ev_qe rfl) rfl rfl ?_ ?_ ?_ ?_; kernel_rfl; kernel_rfl; kernel_rfl
    refine aB (i := 22) (by kernel_rfl) (aC (Hc := [blk bp 66 [v1, v2], prO v2 M]) (Hr := prO v1 L :: blk br 50 [r1, r2] :: X) rfl (propd_spec bp v1 v2 M G6 (by omega) (ok_mono okM le6)) Try.call17 rfl rfl rfl (fun w t => t) (fun _ _ _ hF hq w t => by obtain ⟨_, rfl, _⟩ := hq; exact (t.pm 5 [4, 0, 1, 2, 3] rfl rfl).head.mono (le6.trans hF)) ?_)
    rintro u5 G7 _ hG7 ⟨M2, rfl, ok5, key5⟩
    refine aWeak (F' := G7) (H' := prO u5 (isortL ltS M2) :: blk bp 66 [v1, v2] :: prO v1 L :: prO v2 M :: blk br 50 [r1, r2] :: X) ?_ (fun w t => (t.pm 5 [4, 0, 1, 2, 3] rfl rfl).head.mono (le6.trans hG7)) (fun w t => t.pm 5 [2, 0, 3, 1, 4] rfl rfl)
    refine aPersist fun hh hA hd => ?_
    have row5 := PvRow.of hA hd
    have hG8 := PH.le_l G7 hh
    generalize G7.un hh = G8 at *
    have le8 := le6.trans (hG7.trans hG8)
    have e5 := key_len key5
    obtain ⟨_, a5, c5, hu5, _, _⟩ := id row5
    rw [sort_len] at hu5
    subst hu5
    refine aT 23 rfl (ev_qe rfl) rfl rfl ?_ ?_ ?_ ?_; kernel_rfl; kernel_rfl; kernel_rfl
    refine aT 24 rfl (ev_cmp_f rfl rfl (by dsimp only [cmpN]; omega)) rfl rfl ?_ ?_ ?_ ?_; kernel_rfl; kernel_rfl; kernel_rfl
    refine aT 25 rfl (ev_qe rfl) rfl rfl ?_ ?_ ?_ ?_; kernel_rfl; kernel_rfl; kernel_rfl
    refine aD (by kernel_rfl) ?_
    repeat (first|refine zJ rfl rfl ?_|refine jr rfl ?_|refine jn ?_|refine zM rfl rfl ?_|(refine zC rfl rfl ?_ rfl ?_;omega)|(refine zD rfl rfl ?_ rfl ?_;omega)|(refine zP rfl ?_ rfl ?_;omega)|refine zG rfl rfl rfl rfl ?_|(refine jdq rfl rfl ?_ ?_ ?_;kernel_rfl;kernel_rfl)|refine zB rfl rfl rfl (by repeat constructor) rfl ?_|refine zH .here rfl rfl rfl rfl ?_|refine zH (.there .here) rfl rfl rfl rfl ?_|refine zH (.there (.there .here)) rfl rfl rfl rfl ?_)
    exact J_again2 (i + 1) ⟨G8, v1, v2, r1, r2, L, M, L', M'⟩ ⟨hlt, ⟨hG.trans le8, ok_mono okL le8, ok_mono okM le8, rowL.mono le8, rowM.mono le8, ok_mono okL' le8, ok_mono okM' le8, keyL, keyM, lenL, lenM⟩⟩ (by omega) ⟨⟨rfl, rfl, rfl, rfl, rfl, rfl, trivial⟩, fun w t => t⟩
  · obtain rfl : i = xs.length := by omega
    repeat (first|refine zJ rfl rfl ?_|refine jr rfl ?_|refine jn ?_|refine zM rfl rfl ?_|(refine zC rfl rfl ?_ rfl ?_;omega)|(refine zD rfl rfl ?_ rfl ?_;omega)|(refine zP rfl ?_ rfl ?_;omega)|refine zG rfl rfl rfl rfl ?_|(refine jdq rfl rfl ?_ ?_ ?_;kernel_rfl;kernel_rfl)|refine zB rfl rfl rfl (by repeat constructor) rfl ?_|refine zH .here rfl rfl rfl rfl ?_|refine zH (.there .here) rfl rfl rfl rfl ?_|refine zH (.there (.there .here)) rfl rfl rfl rfl ?_)
    refine oC (Hc := []) (Hr := blk bp 66 [v1, v2] :: prO v1 L :: prO v2 M :: blk br 50 [r1, r2] :: X) (nprep_spec G) Try.call18 rfl rfl (fun _ s => s) ?_
    rintro _ _ _ _ ⟨rfl, rfl⟩
    repeat (first|refine zJ rfl rfl ?_|refine jr rfl ?_|refine jn ?_|refine zM rfl rfl ?_|(refine zC rfl rfl ?_ rfl ?_;omega)|(refine zD rfl rfl ?_ rfl ?_;omega)|(refine zP rfl ?_ rfl ?_;omega)|refine zG rfl rfl rfl rfl ?_|(refine jdq rfl rfl ?_ ?_ ?_;kernel_rfl;kernel_rfl)|refine zB rfl rfl rfl (by repeat constructor) rfl ?_|refine zH .here rfl rfl rfl rfl ?_|refine zH (.there .here) rfl rfl rfl rfl ?_|refine zH (.there (.there .here)) rfl rfl rfl rfl ?_)
    refine oC (Hc := []) (Hr := blk bp 66 [v1, v2] :: prO v1 L :: prO v2 M :: blk br 50 [r1, r2] :: X) (nprop_spec G) Try.call16 rfl rfl (fun _ s => s) ?_
    rintro _ _ _ _ ⟨rfl, rfl⟩
    repeat (first|refine zJ rfl rfl ?_|refine jr rfl ?_|refine jn ?_|refine zM rfl rfl ?_|(refine zC rfl rfl ?_ rfl ?_;omega)|(refine zD rfl rfl ?_ rfl ?_;omega)|(refine zP rfl ?_ rfl ?_;omega)|refine zG rfl rfl rfl rfl ?_|(refine jdq rfl rfl ?_ ?_ ?_;kernel_rfl;kernel_rfl)|refine zB rfl rfl rfl (by repeat constructor) rfl ?_|refine zH .here rfl rfl rfl rfl ?_|refine zH (.there .here) rfl rfl rfl rfl ?_|refine zH (.there (.there .here)) rfl rfl rfl rfl ?_)
    refine oC (Hc := []) (Hr := blk bp 66 [v1, v2] :: prO v1 L :: prO v2 M :: blk br 50 [r1, r2] :: X) (nmove_spec 1 G) Try.call21 rfl rfl (fun _ s => s) ?_
    rintro _ _ _ _ ⟨rfl, rfl⟩
    repeat (first|refine zJ rfl rfl ?_|refine jr rfl ?_|refine jn ?_|refine zM rfl rfl ?_|(refine zC rfl rfl ?_ rfl ?_;omega)|(refine zD rfl rfl ?_ rfl ?_;omega)|(refine zP rfl ?_ rfl ?_;omega)|refine zG rfl rfl rfl rfl ?_|(refine jdq rfl rfl ?_ ?_ ?_;kernel_rfl;kernel_rfl)|refine zB rfl rfl rfl (by repeat constructor) rfl ?_|refine zH .here rfl rfl rfl rfl ?_|refine zH (.there .here) rfl rfl rfl rfl ?_|refine zH (.there (.there .here)) rfl rfl rfl rfl ?_)
    refine oP (nprepd_spec G) Try.call24 rfl rfl ?_
    repeat (first|refine zJ rfl rfl ?_|refine jr rfl ?_|refine jn ?_|refine zM rfl rfl ?_|(refine zC rfl rfl ?_ rfl ?_;omega)|(refine zD rfl rfl ?_ rfl ?_;omega)|(refine zP rfl ?_ rfl ?_;omega)|refine zG rfl rfl rfl rfl ?_|(refine jdq rfl rfl ?_ ?_ ?_;kernel_rfl;kernel_rfl)|refine zB rfl rfl rfl (by repeat constructor) rfl ?_|refine zH .here rfl rfl rfl rfl ?_|refine zH (.there .here) rfl rfl rfl rfl ?_|refine zH (.there (.there .here)) rfl rfl rfl rfl ?_)
    refine oP (npropd_spec G) Try.call17 rfl rfl ?_
    repeat (first|refine zJ rfl rfl ?_|refine jr rfl ?_|refine jn ?_|refine zM rfl rfl ?_|(refine zC rfl rfl ?_ rfl ?_;omega)|(refine zD rfl rfl ?_ rfl ?_;omega)|(refine zP rfl ?_ rfl ?_;omega)|refine zG rfl rfl rfl rfl ?_|(refine jdq rfl rfl ?_ ?_ ?_;kernel_rfl;kernel_rfl)|refine zB rfl rfl rfl (by repeat constructor) rfl ?_|refine zH .here rfl rfl rfl rfl ?_|refine zH (.there .here) rfl rfl rfl rfl ?_|refine zH (.there (.there .here)) rfl rfl rfl rfl ?_)
    exact J_retv rfl (.tmp rfl .nil) [] (fun w s => s.drop.drop.drop.drop) hG ⟨rfl, rfl⟩
open Go.ChangeShapes Go.WideShapes Go.ChangeAt
theorem own_knob : ownKnob Try.prog.godebug = none := by kernel_rfl
theorem laid_out : laidOutB Try.prog = true := by kernel_rfl
set_option maxRecDepth 100000 in theorem ProofsPlay_lifted (os : Os) (started : os.Started) (H : Type) (enc : TypeId × Value → H) : ReturnsInHanded {} Try.checked os 7 .any (Rows.proofsPlaySpec.pre6 enc Try.prog Try.f7 Rows.proofsPlayRow.domain false) (Rows.proofsPlaySpec.post enc Try.prog Try.f7 false true false false) := by
  refine returnsInHanded_of_change (C := Try.checked) own_knob started (by kernel_rfl) Try.func7 (ChangeSpec.witness6 (enc := enc) (C := Try.checked) false ⟨#[], #[.slice none 0 0], []⟩ 8 (by kernel_rfl) (by kernel_rfl) (by kernel_rfl) (by kernel_rfl)) ?_; intro W base args ds gs before hval0 hW hcnd _; have hval : ∀ (j : Nat) t v, Try.f7.params[j]? = some t → args[j]? = some v → Value.okWide Try.prog W .any base t v := hval0; have hW' := hW; obtain ⟨p, q, hA0, hV, hp, hfz, hnd⟩ := hW; have hA : DataW.TrodAll enc Try.prog W 0 (fun _ => true) true Try.f7.params.toList args.toList ds p := hA0; obtain ⟨rfl, rfl⟩ := trodVars_none hV; rw [List.append_nil] at hp; have hA' := hA; rw [Try.params7] at hA hval
  obtain ⟨v0, vs0, d0, ds0, p0, q0, hargs, rfl, rfl, h0, r0⟩ := trodAll_cons hA; obtain ⟨rfl, rfl, rfl⟩ := trodAll_nil r0; obtain rfl : args = #[v0] := by cases args; simp_all
  obtain ⟨xs, hx⟩ := open_row tyActP Try.underlying47 (by kernel_rfl) (by decide) (hval 0 47 v0 rfl rfl) h0
  obtain ⟨a, c, rfl, _⟩ := hx.form
  refine (law_walk (ProofsPlay_walk a c xs (ph W) hx)).mono fun e W' ⟨he, hb⟩ => ?_
  subst he
  exact ⟨_, rfl, law_post laid_out (by kernel_rfl) rfl rfl Try.underlying4 hW' hA' hp rfl hb⟩
theorem ProofsPlay_holds : Rows.ProofsPlaySaid := OpenClaim.holds_of_wide 7 Try.f7 rfl rfl rfl rfl rfl rfl rfl ⟨rfl, rfl, rfl, rfl, rfl⟩ rfl rfl rfl rfl rfl (by kernel_rfl) Try.func7 (by kernel_rfl) (of_decide_eq_true (by kernel_rfl)) (by unfold Func.isWrapper; first | (rw [if_pos (by decide +kernel)]; kernel_rfl) | (rw [if_neg (by decide +kernel)]; exact ⟨rfl, rfl⟩)) (fun os started H enc _ => ProofsPlay_lifted os started H enc)
#print axioms ProofsPlay_holds
end Go.Proofs.Ytmicjjhkoicdnaa
