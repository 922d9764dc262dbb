/-
  What all honest replicas tell is enough (ChooseEnough). No condition.
-/
import Derived.Test.YtdoaloimndehbaaHk
import Derived.Test.YtdoaloimndehbaaHn
import Derived.Test.YtdoaloimndehbaaKn
namespace Go.Proofs.Ytdoaloimndehbaa
open Go.RowKit
set_option maxRecDepth 100000
theorem own_knob : ownKnob Try.prog.godebug = none := by kernel_rfl
theorem laid_out : laidOutB Try.prog = true := by kernel_rfl
theorem elPr : Elem Try.prog 51 58 3 40 (.agg zPr.toArray) := ⟨rfl, ⟨_, rfl, rfl, rfl, rfl, rfl, by decide⟩, rfl, rfl⟩
abbrev zChc : List Value := [.int .i64 0, .int .i64 0, .slice none 0 0, .slice none 0 0, .slice none 0 0]
def tyB : Ty Try.prog 4 Bool := tyBool Try.underlying4
theorem preN_succ (low : Int) (vs : List Int) (nums : List (List EntX)) (i n : Nat) : preN low vs nums i (n + 1) = preN low vs nums i n ++ (if (i + n) % 2 = 0 then [numX low vs nums n] else []) := by
  unfold preN
  rw [List.range_succ, List.filter_append, List.map_append]
  by_cases h : (i + n) % 2 = 0
  · rw [if_pos h, List.filter_cons_of_pos (by simp [h])]
    rfl
  · rw [if_neg h, List.filter_cons_of_neg (by simp [h])]
    rfl
theorem proN_succ (low : Int) (vs : List Int) (nums : List (List EntX)) (i n : Nat) : proN low vs nums i (n + 1) = proN low vs nums i n ++ (if i < 2 ∨ n % 2 = 0 then [numX low vs nums n] else []) := by
  unfold proN
  rw [List.range_succ, List.filter_append, List.map_append]
  by_cases h : i < 2 ∨ n % 2 = 0
  · rw [if_pos h, List.filter_cons_of_pos (by simpa using h)]
    rfl
  · rw [if_neg h, List.filter_cons_of_neg (by simpa using h)]
    rfl
theorem preN_len (low : Int) (vs : List Int) (nums : List (List EntX)) (i n : Nat) : (preN low vs nums i n).length ≤ n := by
  unfold preN
  rw [List.length_map]
  exact Nat.le_trans (List.length_filter_le _ _) (by simp)
theorem proN_len (low : Int) (vs : List Int) (nums : List (List EntX)) (i n : Nat) : (proN low vs nums i n).length ≤ n := by
  unfold proN
  rw [List.length_map]
  exact Nat.le_trans (List.length_filter_le _ _) (by simp)
set_option maxHeartbeats 32000000 in
theorem ChooseEnough_walk (an av ag al : Option Addr) (kn kv kg kl : Nat) (nums : List (List EntX)) (vs : List Int) (gs : List Bool) (ls : List SgX) (w8 : Int) (F : PH) (hn : RowV tyEns F (.slice an nums.length kn) nums) (hv : RowV tyU8 F (.slice av vs.length kv) vs) (hg : RowV tyB F (.slice ag gs.length kg) gs) (hl : RowV tySg F (.slice al ls.length kl) ls) (hw : InK .u8 w8) :
    Spec Try.prog 6 [.int .u8 w8, .slice an nums.length kn, .slice av vs.length kv, .slice ag gs.length kg, .slice al ls.length kl] F [] fun u _ H' => u = .bool true ∧ H' = [] := by
  refine Spec.of5 Try.func6 rfl rfl fun X w0 => ?_
  repeat (first|refine zJ rfl rfl ?_|refine jr rfl ?_|refine jn ?_|refine zM rfl rfl ?_|(refine zC rfl rfl ?_ rfl ?_;omega)|(refine zD rfl rfl ?_ rfl ?_;omega)|(refine zP rfl ?_ rfl ?_;omega)|refine zG rfl rfl rfl rfl ?_|(refine jdq rfl rfl ?_ ?_ ?_;kernel_rfl;kernel_rfl)|refine zB rfl rfl rfl (by repeat constructor) rfl ?_|refine zH .here rfl rfl rfl rfl ?_|refine zH (.there .here) rfl rfl rfl rfl ?_|refine zH (.there (.there .here)) rfl rfl rfl rfl ?_)
  refine oC (Hc := []) (Hr := X) (fixed26 F) Try.call24 rfl rfl (fun _ s => s) ?_
  rintro _ F1 _ hF1 ⟨rfl, rfl⟩
  by_cases hn4 : nums.length ≤ 4
  rotate_left
  · repeat (first|refine zJ rfl rfl ?_|refine jr rfl ?_|refine jn ?_|refine zM rfl rfl ?_|(refine zC rfl rfl ?_ rfl ?_;omega)|(refine zD rfl rfl ?_ rfl ?_;omega)|(refine zP rfl ?_ rfl ?_;omega)|refine zG rfl rfl rfl rfl ?_|(refine jdq rfl rfl ?_ ?_ ?_;kernel_rfl;kernel_rfl)|refine zB rfl rfl rfl (by repeat constructor) rfl ?_|refine zH .here rfl rfl rfl rfl ?_|refine zH (.there .here) rfl rfl rfl rfl ?_|refine zH (.there (.there .here)) rfl rfl rfl rfl ?_)
    exact J_retv rfl (.tmp rfl .nil) [] (fun w s => s) hF1 ⟨rfl, rfl⟩
  by_cases hl1 : ls.length ≤ 1
  rotate_left
  · repeat (first|refine zJ rfl rfl ?_|refine jr rfl ?_|refine jn ?_|refine zM rfl rfl ?_|(refine zC rfl rfl ?_ rfl ?_;omega)|(refine zD rfl rfl ?_ rfl ?_;omega)|(refine zP rfl ?_ rfl ?_;omega)|refine zG rfl rfl rfl rfl ?_|(refine jdq rfl rfl ?_ ?_ ?_;kernel_rfl;kernel_rfl)|refine zB rfl rfl rfl (by repeat constructor) rfl ?_|refine zH .here rfl rfl rfl rfl ?_|refine zH (.there .here) rfl rfl rfl rfl ?_|refine zH (.there (.there .here)) rfl rfl rfl rfl ?_)
    exact J_retv rfl (.tmp rfl .nil) [] (fun w s => s) hF1 ⟨rfl, rfl⟩
  have hlB : RowB tySg F1 (.slice al ls.length kl) ls := ⟨hl.mono hF1, by unfold maxLen; omega⟩
  repeat (first|refine zJ rfl rfl ?_|refine jr rfl ?_|refine jn ?_|refine zM rfl rfl ?_|(refine zC rfl rfl ?_ rfl ?_;omega)|(refine zD rfl rfl ?_ rfl ?_;omega)|(refine zP rfl ?_ rfl ?_;omega)|refine zG rfl rfl rfl rfl ?_|(refine jdq rfl rfl ?_ ?_ ?_;kernel_rfl;kernel_rfl)|refine zB rfl rfl rfl (by repeat constructor) rfl ?_|refine zH .here rfl rfl rfl rfl ?_|refine zH (.there .here) rfl rfl rfl rfl ?_|refine zH (.there (.there .here)) rfl rfl rfl rfl ?_)
  refine oC (Hc := []) (Hr := X) (few_spec _ ls F1 hlB) Try.call25 rfl rfl (fun _ s => s) ?_
  rintro _ F2 _ hF2 ⟨⟨fb, rfl, hfb⟩, rfl⟩
  have hFF := hF1.trans hF2
  cases fb with
  | false =>
    repeat (first|refine zJ rfl rfl ?_|refine jr rfl ?_|refine jn ?_|refine zM rfl rfl ?_|(refine zC rfl rfl ?_ rfl ?_;omega)|(refine zD rfl rfl ?_ rfl ?_;omega)|(refine zP rfl ?_ rfl ?_;omega)|refine zG rfl rfl rfl rfl ?_|(refine jdq rfl rfl ?_ ?_ ?_;kernel_rfl;kernel_rfl)|refine zB rfl rfl rfl (by repeat constructor) rfl ?_|refine zH .here rfl rfl rfl rfl ?_|refine zH (.there .here) rfl rfl rfl rfl ?_|refine zH (.there (.there .here)) rfl rfl rfl rfl ?_)
    exact J_retv rfl (.tmp rfl .nil) [] (fun w s => s) hFF ⟨rfl, rfl⟩
  | true =>
  have hfl := hfb rfl
  clear hfb
  by_cases hg20 : gs.length ≤ 20
  rotate_left
  · repeat (first|refine zJ rfl rfl ?_|refine jr rfl ?_|refine jn ?_|refine zM rfl rfl ?_|(refine zC rfl rfl ?_ rfl ?_;omega)|(refine zD rfl rfl ?_ rfl ?_;omega)|(refine zP rfl ?_ rfl ?_;omega)|refine zG rfl rfl rfl rfl ?_|(refine jdq rfl rfl ?_ ?_ ?_;kernel_rfl;kernel_rfl)|refine zB rfl rfl rfl (by repeat constructor) rfl ?_|refine zH .here rfl rfl rfl rfl ?_|refine zH (.there .here) rfl rfl rfl rfl ?_|refine zH (.there (.there .here)) rfl rfl rfl rfl ?_)
    exact J_retv rfl (.tmp rfl .nil) [] (fun w s => s) hFF ⟨rfl, rfl⟩
  by_cases hv20 : vs.length ≤ 20
  rotate_left
  · repeat (first|refine zJ rfl rfl ?_|refine jr rfl ?_|refine jn ?_|refine zM rfl rfl ?_|(refine zC rfl rfl ?_ rfl ?_;omega)|(refine zD rfl rfl ?_ rfl ?_;omega)|(refine zP rfl ?_ rfl ?_;omega)|refine zG rfl rfl rfl rfl ?_|(refine jdq rfl rfl ?_ ?_ ?_;kernel_rfl;kernel_rfl)|refine zB rfl rfl rfl (by repeat constructor) rfl ?_|refine zH .here rfl rfl rfl rfl ?_|refine zH (.there .here) rfl rfl rfl rfl ?_|refine zH (.there (.there .here)) rfl rfl rfl rfl ?_)
    exact J_retv rfl (.tmp rfl .nil) [] (fun w s => s) hFF ⟨rfl, rfl⟩
  dsimp only [InK] at hw
  have hn2 := hn.mono hFF
  have hv2 := hv.mono hFF
  have hg2 := hg.mono hFF
  have hl2 := hlB.mono hF2
  obtain ⟨low, hlow⟩ : ∃ low : Int, low = w8 % 3 * 4 := ⟨_, rfl⟩
  have hlow8 : 0 ≤ low ∧ low ≤ 8 := by omega
  have hgd : gs.getD 0 false = match gs[0]? with | some b => b | none => false := by rw [List.getD_eq_getElem?_getD]; cases gs[0]? <;> rfl
  repeat (first|refine zJ rfl rfl ?_|refine jr rfl ?_|refine jn ?_|refine zM rfl rfl ?_|(refine zC rfl rfl ?_ rfl ?_;omega)|(refine zD rfl rfl ?_ rfl ?_;omega)|(refine zP rfl ?_ rfl ?_;omega)|refine zG rfl rfl rfl rfl ?_|(refine jdq rfl rfl ?_ ?_ ?_;kernel_rfl;kernel_rfl)|refine zB rfl rfl rfl (by repeat constructor) rfl ?_|refine zH .here rfl rfl rfl rfl ?_|refine zH (.there .here) rfl rfl rfl rfl ?_|refine zH (.there (.there .here)) rfl rfl rfl rfl ?_)
  rw [← hlow]
  refine J_own_nil 55 6 ?_
  refine J_loop4 (fun (i : Nat) (G : PH) (lv : Value) (css : List (List Value)) => i ≤ 3 ∧ F2.le G ∧ All2 (tySg.rep G) ((List.range i).map (hSg low (gs.getD 0 false) vs nums)) css ∧ (0 < i → ∀ b ∈ nums, b.length ≤ 10)) (fun i _ _ _ => 3 - i) (fun i _ lv _ => [(1, .slice an nums.length kn), (2, .slice av vs.length kv), (3, .slice ag gs.length kg), (4, .slice al ls.length kl), (11, .int .i64 low), (12, lv), (51, .int .i64 i)]) (fun _ G _ _ => G) (fun i _ lv css => own lv 55 6 i css.flatten :: X) 0 F2 (.slice none 0 0) []
    ⟨by omega, PH.ler _, .nil, fun h => absurd h (Nat.lt_irrefl 0)⟩ ⟨⟨rfl, rfl, rfl, rfl, rfl, rfl, rfl, trivial⟩, fun _ h => h⟩ ?_
  rintro i G lv css ⟨hi, hG, hall, hbl⟩
  by_cases hi3 : i < 3
  · refine jOwn .here fun a2 k2 hlv _ _ _ => ?_
    subst hlv
    repeat (first|refine zJ rfl rfl ?_|refine jr rfl ?_|refine jn ?_|refine zM rfl rfl ?_|(refine zC rfl rfl ?_ rfl ?_;omega)|(refine zD rfl rfl ?_ rfl ?_;omega)|(refine zP rfl ?_ rfl ?_;omega)|refine zG rfl rfl rfl rfl ?_|(refine jdq rfl rfl ?_ ?_ ?_;kernel_rfl;kernel_rfl)|refine zB rfl rfl rfl (by repeat constructor) rfl ?_|refine zH .here rfl rfl rfl rfl ?_|refine zH (.there .here) rfl rfl rfl rfl ?_|refine zH (.there (.there .here)) rfl rfl rfl rfl ?_)
    refine oE (ev_buildSlice (E := 60) (zs := ptC 0 z32) (t := ptC low z32) rfl rfl rfl rfl rfl rfl (.cons .agg rfl (lay_all (vs := ptC low z32) (zs := ptC 0 z32) rfl) .nil)) rfl ?_
    rintro _ _ _ _ ⟨rfl, bp, rfl, rfl⟩
    refine oPersist fun hh hA hd => ?_
    have hpc := blk_cells hA hd
    have hF3 := PH.le_l G hh
    generalize G.un hh = G1 at *
    have hp := row_one (te := tyPt) hpc (pt_mk G1 low z32 (by dsimp only [InK]; omega) rfl)
    repeat (first|refine zJ rfl rfl ?_|refine jr rfl ?_|refine jn ?_|refine zM rfl rfl ?_|(refine zC rfl rfl ?_ rfl ?_;omega)|(refine zD rfl rfl ?_ rfl ?_;omega)|(refine zP rfl ?_ rfl ?_;omega)|refine zG rfl rfl rfl rfl ?_|(refine jdq rfl rfl ?_ ?_ ?_;kernel_rfl;kernel_rfl)|refine zB rfl rfl rfl (by repeat constructor) rfl ?_|refine zH .here rfl rfl rfl rfl ?_|refine zH (.there .here) rfl rfl rfl rfl ?_|refine zH (.there (.there .here)) rfl rfl rfl rfl ?_)
    refine oE (ev_alloc (cs := zChc) rfl) rfl ?_
    rintro _ _ _ _ ⟨rfl, b14, rfl, rfl⟩
    refine oN (ev_store (b := b14) (vs := [.int .i64 9, .int .i64 low, .slice (some ⟨bp, 0, none⟩) 1 1, .slice none 0 0, .slice none 0 0]) rfl rfl .agg rfl rfl (lay_all (zs := zChc) rfl) (by (repeat (first | exact ones_nil | refine ones_cons rfl ?_))) .here) rfl ?_
    rintro _ _ _ _ ⟨rfl, _, rfl⟩
    refine jn ?_
    refine J_seq ?_
    refine J_join (ι := Nat × PH) [_] (fun t => G1.le t.2 ∧ RowB tyPt t.2 (.slice (some ⟨t.1, 0, none⟩) 1 1) [(lagL low (gs.getD 0 false) i, z32, ())]) (fun t => [(1, .slice an nums.length kn), (2, .slice av vs.length kv), (3, .slice ag gs.length kg), (4, .slice al ls.length kl), (11, .int .i64 low), (12, .slice a2 i k2), (51, .int .i64 i), (13, .int .i64 i), (14, .pointer (some ⟨b14, 0, none⟩))]) (fun t => t.2) (fun t => blk b14 53 [.int .i64 9, .int .i64 (lagL low (gs.getD 0 false) i), .slice (some ⟨t.1, 0, none⟩) 1 1, .slice none 0 0, .slice none 0 0] :: own (.slice a2 i k2) 55 6 i css.flatten :: X) ?_ ?_
    · show J _ (_ :: _) _ _ _
      by_cases hig : i < gs.length
      · have gg : gs[i]? = some gs[i] := List.getElem?_eq_getElem hig
        obtain ⟨bg, og, cg, rfl, hcg, hrg, _⟩ := (hg2.mono (hG.trans hF3)).at gg
        have hrg : cg = [.bool gs[i]] := hrg
        subst hrg
        cases hgi : gs[i] with
        | false =>
          have he : lagL low (gs.getD 0 false) i = low := by
            unfold lagL
            by_cases h0 : i = 0
            · subst h0
              rw [hgd, gg, hgi]
              simp
            · rw [if_neg (fun h => h0 h.1)]
          rw [hgi] at hcg
          repeat (first|refine zJ rfl rfl ?_|refine jr rfl ?_|refine jn ?_|refine zM rfl rfl ?_|(refine zC rfl rfl ?_ rfl ?_;omega)|(refine zD rfl rfl ?_ rfl ?_;omega)|(refine zP rfl ?_ rfl ?_;omega)|refine zG rfl rfl rfl rfl ?_|(refine jdq rfl rfl ?_ ?_ ?_;kernel_rfl;kernel_rfl)|refine zB rfl rfl rfl (by repeat constructor) rfl ?_|refine zH .here rfl rfl rfl rfl ?_|refine zH (.there .here) rfl rfl rfl rfl ?_|refine zH (.there (.there .here)) rfl rfl rfl rfl ?_)
          refine oS (ev_indexAddr rfl rfl rfl hig) rfl ?_
          refine oS (ev_load (v := .bool false) rfl rfl (Rdb.ofF hcg)) rfl ?_
          repeat (first|refine zJ rfl rfl ?_|refine jr rfl ?_|refine jn ?_|refine zM rfl rfl ?_|(refine zC rfl rfl ?_ rfl ?_;omega)|(refine zD rfl rfl ?_ rfl ?_;omega)|(refine zP rfl ?_ rfl ?_;omega)|refine zG rfl rfl rfl rfl ?_|(refine jdq rfl rfl ?_ ?_ ?_;kernel_rfl;kernel_rfl)|refine zB rfl rfl rfl (by repeat constructor) rfl ?_|refine zH .here rfl rfl rfl rfl ?_|refine zH (.there .here) rfl rfl rfl rfl ?_|refine zH (.there (.there .here)) rfl rfl rfl rfl ?_)
          refine J_joined (bp, G1) ⟨PH.ler _, by rw [he]; exact hp⟩ ⟨⟨rfl, rfl, rfl, rfl, rfl, rfl, rfl, rfl, rfl, trivial⟩, fun w s => by dsimp only; rw [he]; exact s⟩
        | true =>
          rw [hgi] at hcg
          by_cases h0 : i = 0
          · subst h0
            by_cases hlp : 0 < low
            · have he : lagL low (gs.getD 0 false) 0 = low - 4 := by
                unfold lagL
                rw [hgd, gg, hgi]
                rw [if_pos ⟨rfl, rfl, hlp⟩]
              rw [he]
              repeat (first|refine zJ rfl rfl ?_|refine jr rfl ?_|refine jn ?_|refine zM rfl rfl ?_|(refine zC rfl rfl ?_ rfl ?_;omega)|(refine zD rfl rfl ?_ rfl ?_;omega)|(refine zP rfl ?_ rfl ?_;omega)|refine zG rfl rfl rfl rfl ?_|(refine jdq rfl rfl ?_ ?_ ?_;kernel_rfl;kernel_rfl)|refine zB rfl rfl rfl (by repeat constructor) rfl ?_|refine zH .here rfl rfl rfl rfl ?_|refine zH (.there .here) rfl rfl rfl rfl ?_|refine zH (.there (.there .here)) rfl rfl rfl rfl ?_)
              refine oS (ev_indexAddr (i := 0) rfl rfl rfl hig) rfl ?_
              refine oS (ev_load (v := .bool true) rfl rfl (Rdb.ofF hcg)) rfl ?_
              repeat (first|refine zJ rfl rfl ?_|refine jr rfl ?_|refine jn ?_|refine zM rfl rfl ?_|(refine zC rfl rfl ?_ rfl ?_;omega)|(refine zD rfl rfl ?_ rfl ?_;omega)|(refine zP rfl ?_ rfl ?_;omega)|refine zG rfl rfl rfl rfl ?_|(refine jdq rfl rfl ?_ ?_ ?_;kernel_rfl;kernel_rfl)|refine zB rfl rfl rfl (by repeat constructor) rfl ?_|refine zH .here rfl rfl rfl rfl ?_|refine zH (.there .here) rfl rfl rfl rfl ?_|refine zH (.there (.there .here)) rfl rfl rfl rfl ?_)
              refine oN (ev_store (b := b14) (s := [.int .i64 9, .int .i64 (low - 4), .slice (some ⟨bp, 0, none⟩) 1 1, .slice none 0 0, .slice none 0 0]) rfl rfl .int rfl rfl (.skip (.put .nil)) (ones_cons rfl ones_nil) .here) rfl ?_
              rintro _ _ _ _ ⟨rfl, _, rfl⟩
              repeat (first|refine zJ rfl rfl ?_|refine jr rfl ?_|refine jn ?_|refine zM rfl rfl ?_|(refine zC rfl rfl ?_ rfl ?_;omega)|(refine zD rfl rfl ?_ rfl ?_;omega)|(refine zP rfl ?_ rfl ?_;omega)|refine zG rfl rfl rfl rfl ?_|(refine jdq rfl rfl ?_ ?_ ?_;kernel_rfl;kernel_rfl)|refine zB rfl rfl rfl (by repeat constructor) rfl ?_|refine zH .here rfl rfl rfl rfl ?_|refine zH (.there .here) rfl rfl rfl rfl ?_|refine zH (.there (.there .here)) rfl rfl rfl rfl ?_)
              refine oE (ev_buildSlice (E := 60) (zs := ptC 0 z32) (t := ptC (low - 4) z32) rfl rfl rfl rfl rfl rfl (.cons .agg rfl (lay_all (vs := ptC (low - 4) z32) (zs := ptC 0 z32) rfl) .nil)) rfl ?_
              rintro _ _ _ _ ⟨rfl, bp2, rfl, rfl⟩
              refine oPersist fun hh hA hd => ?_
              have hpc2 := blk_cells hA hd
              have hF4 := PH.le_l G1 hh
              generalize G1.un hh = G2 at *
              have hp2 := row_one (te := tyPt) hpc2 (pt_mk G2 (low - 4) z32 (by dsimp only [InK]; omega) rfl)
              repeat (first|refine zJ rfl rfl ?_|refine jr rfl ?_|refine jn ?_|refine zM rfl rfl ?_|(refine zC rfl rfl ?_ rfl ?_;omega)|(refine zD rfl rfl ?_ rfl ?_;omega)|(refine zP rfl ?_ rfl ?_;omega)|refine zG rfl rfl rfl rfl ?_|(refine jdq rfl rfl ?_ ?_ ?_;kernel_rfl;kernel_rfl)|refine zB rfl rfl rfl (by repeat constructor) rfl ?_|refine zH .here rfl rfl rfl rfl ?_|refine zH (.there .here) rfl rfl rfl rfl ?_|refine zH (.there (.there .here)) rfl rfl rfl rfl ?_)
              refine oN (ev_store (b := b14) (s := [.int .i64 9, .int .i64 (low - 4), .slice (some ⟨bp2, 0, none⟩) 1 1, .slice none 0 0, .slice none 0 0]) rfl rfl .slice rfl rfl (.skip (.skip (.put .nil))) (ones_cons rfl ones_nil) .here) rfl ?_
              rintro _ _ _ _ ⟨rfl, _, rfl⟩
              repeat (first|refine zJ rfl rfl ?_|refine jr rfl ?_|refine jn ?_|refine zM rfl rfl ?_|(refine zC rfl rfl ?_ rfl ?_;omega)|(refine zD rfl rfl ?_ rfl ?_;omega)|(refine zP rfl ?_ rfl ?_;omega)|refine zG rfl rfl rfl rfl ?_|(refine jdq rfl rfl ?_ ?_ ?_;kernel_rfl;kernel_rfl)|refine zB rfl rfl rfl (by repeat constructor) rfl ?_|refine zH .here rfl rfl rfl rfl ?_|refine zH (.there .here) rfl rfl rfl rfl ?_|refine zH (.there (.there .here)) rfl rfl rfl rfl ?_)
              exact J_joined (bp2, G2) ⟨hF4, hp2⟩ ⟨⟨rfl, rfl, rfl, rfl, rfl, rfl, rfl, rfl, rfl, trivial⟩, fun w s => s⟩
            · have he : lagL low (gs.getD 0 false) 0 = low := by
                unfold lagL
                rw [if_neg (fun h => hlp h.2.2)]
              repeat (first|refine zJ rfl rfl ?_|refine jr rfl ?_|refine jn ?_|refine zM rfl rfl ?_|(refine zC rfl rfl ?_ rfl ?_;omega)|(refine zD rfl rfl ?_ rfl ?_;omega)|(refine zP rfl ?_ rfl ?_;omega)|refine zG rfl rfl rfl rfl ?_|(refine jdq rfl rfl ?_ ?_ ?_;kernel_rfl;kernel_rfl)|refine zB rfl rfl rfl (by repeat constructor) rfl ?_|refine zH .here rfl rfl rfl rfl ?_|refine zH (.there .here) rfl rfl rfl rfl ?_|refine zH (.there (.there .here)) rfl rfl rfl rfl ?_)
              refine oS (ev_indexAddr (i := 0) rfl rfl rfl hig) rfl ?_
              refine oS (ev_load (v := .bool true) rfl rfl (Rdb.ofF hcg)) rfl ?_
              repeat (first|refine zJ rfl rfl ?_|refine jr rfl ?_|refine jn ?_|refine zM rfl rfl ?_|(refine zC rfl rfl ?_ rfl ?_;omega)|(refine zD rfl rfl ?_ rfl ?_;omega)|(refine zP rfl ?_ rfl ?_;omega)|refine zG rfl rfl rfl rfl ?_|(refine jdq rfl rfl ?_ ?_ ?_;kernel_rfl;kernel_rfl)|refine zB rfl rfl rfl (by repeat constructor) rfl ?_|refine zH .here rfl rfl rfl rfl ?_|refine zH (.there .here) rfl rfl rfl rfl ?_|refine zH (.there (.there .here)) rfl rfl rfl rfl ?_)
              refine J_joined (bp, G1) ⟨PH.ler _, by rw [he]; exact hp⟩ ⟨⟨rfl, rfl, rfl, rfl, rfl, rfl, rfl, rfl, rfl, trivial⟩, fun w s => by dsimp only; rw [he]; exact s⟩
          · have he : lagL low (gs.getD 0 false) i = low := by
              unfold lagL
              rw [if_neg (fun h => h0 h.1)]
            repeat (first|refine zJ rfl rfl ?_|refine jr rfl ?_|refine jn ?_|refine zM rfl rfl ?_|(refine zC rfl rfl ?_ rfl ?_;omega)|(refine zD rfl rfl ?_ rfl ?_;omega)|(refine zP rfl ?_ rfl ?_;omega)|refine zG rfl rfl rfl rfl ?_|(refine jdq rfl rfl ?_ ?_ ?_;kernel_rfl;kernel_rfl)|refine zB rfl rfl rfl (by repeat constructor) rfl ?_|refine zH .here rfl rfl rfl rfl ?_|refine zH (.there .here) rfl rfl rfl rfl ?_|refine zH (.there (.there .here)) rfl rfl rfl rfl ?_)
            refine oS (ev_indexAddr rfl rfl rfl hig) rfl ?_
            refine oS (ev_load (v := .bool true) rfl rfl (Rdb.ofF hcg)) rfl ?_
            repeat (first|refine zJ rfl rfl ?_|refine jr rfl ?_|refine jn ?_|refine zM rfl rfl ?_|(refine zC rfl rfl ?_ rfl ?_;omega)|(refine zD rfl rfl ?_ rfl ?_;omega)|(refine zP rfl ?_ rfl ?_;omega)|refine zG rfl rfl rfl rfl ?_|(refine jdq rfl rfl ?_ ?_ ?_;kernel_rfl;kernel_rfl)|refine zB rfl rfl rfl (by repeat constructor) rfl ?_|refine zH .here rfl rfl rfl rfl ?_|refine zH (.there .here) rfl rfl rfl rfl ?_|refine zH (.there (.there .here)) rfl rfl rfl rfl ?_)
            refine J_joined (bp, G1) ⟨PH.ler _, by rw [he]; exact hp⟩ ⟨⟨rfl, rfl, rfl, rfl, rfl, rfl, rfl, rfl, rfl, trivial⟩, fun w s => by dsimp only; rw [he]; exact s⟩
      · have he : lagL low (gs.getD 0 false) i = low := by
          unfold lagL
          by_cases h0 : i = 0
          · subst h0
            rw [hgd, List.getElem?_eq_none (by omega)]
            simp
          · rw [if_neg (fun h => h0 h.1)]
        repeat (first|refine zJ rfl rfl ?_|refine jr rfl ?_|refine jn ?_|refine zM rfl rfl ?_|(refine zC rfl rfl ?_ rfl ?_;omega)|(refine zD rfl rfl ?_ rfl ?_;omega)|(refine zP rfl ?_ rfl ?_;omega)|refine zG rfl rfl rfl rfl ?_|(refine jdq rfl rfl ?_ ?_ ?_;kernel_rfl;kernel_rfl)|refine zB rfl rfl rfl (by repeat constructor) rfl ?_|refine zH .here rfl rfl rfl rfl ?_|refine zH (.there .here) rfl rfl rfl rfl ?_|refine zH (.there (.there .here)) rfl rfl rfl rfl ?_)
        refine J_joined (bp, G1) ⟨PH.ler _, by rw [he]; exact hp⟩ ⟨⟨rfl, rfl, rfl, rfl, rfl, rfl, rfl, rfl, rfl, trivial⟩, fun w s => by dsimp only; rw [he]; exact s⟩
    rintro ⟨bq, G2⟩ ⟨hG2, hpts⟩
    dsimp only at hG2 hpts ⊢
    repeat (first|refine zJ rfl rfl ?_|refine jr rfl ?_|refine jn ?_|refine zM rfl rfl ?_|(refine zC rfl rfl ?_ rfl ?_;omega)|(refine zD rfl rfl ?_ rfl ?_;omega)|(refine zP rfl ?_ rfl ?_;omega)|refine zG rfl rfl rfl rfl ?_|(refine jdq rfl rfl ?_ ?_ ?_;kernel_rfl;kernel_rfl)|refine zB rfl rfl rfl (by repeat constructor) rfl ?_|refine zH .here rfl rfl rfl rfl ?_|refine zH (.there .here) rfl rfl rfl rfl ?_|refine zH (.there (.there .here)) rfl rfl rfl rfl ?_)
    refine J_own_nil 58 3 ?_
    refine J_own_nil 58 3 ?_
    have hle2 := hG.trans (hF3.trans hG2)
    generalize hlg : lagL low (gs.getD 0 false) i = lg at *
    refine J_loop5 (fun (k : Nat) (pv : Value) (cp : List (List Value)) (qv : Value) (cq : List (List Value)) => k ≤ nums.length ∧ All2 (tyPr.rep G2) (preN low vs nums i k) cp ∧ All2 (tyPr.rep G2) (proN low vs nums i k) cq ∧ ∀ b ∈ nums.take k, b.length ≤ 10) (fun k _ _ _ _ => nums.length - k)
      (fun k _ _ _ _ => [(1, .slice an nums.length kn), (2, .slice av vs.length kv), (3, .slice ag gs.length kg), (4, .slice al ls.length kl), (11, .int .i64 low), (12, .slice a2 i k2), (51, .int .i64 i), (13, .int .i64 i), (14, .pointer (some ⟨b14, 0, none⟩)), (85, .slice an nums.length kn), (86, .int .i64 nums.length), (87, .int .i64 k)]) (fun _ _ _ _ _ => G2)
      (fun _ pv cp qv cq => own qv 58 3 cq.length cq.flatten :: own pv 58 3 cp.length cp.flatten :: blk b14 53 [.int .i64 9, .int .i64 lg, .slice (some ⟨bq, 0, none⟩) 1 1, pv, qv] :: own (.slice a2 i k2) 55 6 i css.flatten :: X) 0 (.slice none 0 0) [] (.slice none 0 0) []
      ⟨Nat.zero_le _, .nil, .nil, fun b h => by cases h⟩ ⟨⟨rfl, rfl, rfl, rfl, rfl, rfl, rfl, rfl, rfl, rfl, rfl, rfl, trivial⟩, fun _ h => h⟩ ?_
    rintro k pv cp qv cq ⟨hk, hcp, hcq, hbs⟩
    by_cases hkl : k < nums.length
    · have gk : nums[k]? = some nums[k] := List.getElem?_eq_getElem hkl
      have hnk : nums.getD k [] = nums[k] := by rw [List.getD_eq_getElem?_getD, gk]; rfl
      have htk : nums.take (k + 1) = nums.take k ++ [nums[k]] := by rw [List.take_add_one, gk]; rfl
      have hlp : cp.length ≤ 4 := by rw [← hcp.len1]; exact Nat.le_trans (preN_len _ _ _ _ _) (by omega)
      have hlq : cq.length ≤ 4 := by rw [← hcq.len1]; exact Nat.le_trans (proN_len _ _ _ _ _) (by omega)
      have hpre := preN_succ low vs nums i k
      have hpro := proN_succ low vs nums i k
      obtain ⟨bn, on, cn, rfl, hcn, ⟨vb, rfl, hvb, hvbm⟩, _⟩ := (hn2.mono hle2).at gk
      obtain ⟨ab, kb, rfl, _⟩ := hvb.form
      have hnx : numX low vs nums k = (low + 1 + (k : Int), viewK vs k, nums[k], ()) := by unfold numX; rw [hnk]
      rw [hnx] at hpre hpro
      generalize nums[k] = eb at *
      refine jOwn .here fun aq kq hqv _ _ _ => ?_
      subst hqv
      refine jOwn (.there .here) fun ap kp hpv _ _ _ => ?_
      subst hpv
      by_cases h10 : 10 < eb.length
      · repeat (first|refine zJ rfl rfl ?_|refine jr rfl ?_|refine jn ?_|refine zM rfl rfl ?_|(refine zC rfl rfl ?_ rfl ?_;omega)|(refine zD rfl rfl ?_ rfl ?_;omega)|(refine zP rfl ?_ rfl ?_;omega)|refine zG rfl rfl rfl rfl ?_|(refine jdq rfl rfl ?_ ?_ ?_;kernel_rfl;kernel_rfl)|refine zB rfl rfl rfl (by repeat constructor) rfl ?_|refine zH .here rfl rfl rfl rfl ?_|refine zH (.there .here) rfl rfl rfl rfl ?_|refine zH (.there (.there .here)) rfl rfl rfl rfl ?_)
        refine oS (ev_indexAddr rfl rfl rfl hkl) rfl ?_
        refine oS (ev_load (v := .slice ab eb.length kb) rfl rfl (Rdb.ofF hcn)) rfl ?_
        repeat (first|refine zJ rfl rfl ?_|refine jr rfl ?_|refine jn ?_|refine zM rfl rfl ?_|(refine zC rfl rfl ?_ rfl ?_;omega)|(refine zD rfl rfl ?_ rfl ?_;omega)|(refine zP rfl ?_ rfl ?_;omega)|refine zG rfl rfl rfl rfl ?_|(refine jdq rfl rfl ?_ ?_ ?_;kernel_rfl;kernel_rfl)|refine zB rfl rfl rfl (by repeat constructor) rfl ?_|refine zH .here rfl rfl rfl rfl ?_|refine zH (.there .here) rfl rfl rfl rfl ?_|refine zH (.there (.there .here)) rfl rfl rfl rfl ?_)
        try rw [decide_eq_true (show (10 : Int) < (eb.length : Int) by omega)]
        repeat (first|refine zJ rfl rfl ?_|refine jr rfl ?_|refine jn ?_|refine zM rfl rfl ?_|(refine zC rfl rfl ?_ rfl ?_;omega)|(refine zD rfl rfl ?_ rfl ?_;omega)|(refine zP rfl ?_ rfl ?_;omega)|refine zG rfl rfl rfl rfl ?_|(refine jdq rfl rfl ?_ ?_ ?_;kernel_rfl;kernel_rfl)|refine zB rfl rfl rfl (by repeat constructor) rfl ?_|refine zH .here rfl rfl rfl rfl ?_|refine zH (.there .here) rfl rfl rfl rfl ?_|refine zH (.there (.there .here)) rfl rfl rfl rfl ?_)
        exact J_retv rfl (.tmp rfl .nil) [] (fun w s => s.drop.drop.drop.drop) (hFF.trans hle2) ⟨rfl, rfl⟩
      have hview : 0 ≤ viewK vs k ∧ viewK vs k < 9 := by
        unfold viewK
        cases vs[k]? with
        | none => dsimp only; omega
        | some w => dsimp only; omega
      have hrep : tyPr.rep G2 (low + 1 + (k : Int), viewK vs k, eb, ()) [.int .i64 (low + 1 + (k : Int)), .int .i64 (viewK vs k), .slice ab eb.length kb] := pr_mk (by dsimp only [InK]; omega) (by dsimp only [InK]; omega) ⟨hvb, hvbm⟩
      repeat (first|refine zJ rfl rfl ?_|refine jr rfl ?_|refine jn ?_|refine zM rfl rfl ?_|(refine zC rfl rfl ?_ rfl ?_;omega)|(refine zD rfl rfl ?_ rfl ?_;omega)|(refine zP rfl ?_ rfl ?_;omega)|refine zG rfl rfl rfl rfl ?_|(refine jdq rfl rfl ?_ ?_ ?_;kernel_rfl;kernel_rfl)|refine zB rfl rfl rfl (by repeat constructor) rfl ?_|refine zH .here rfl rfl rfl rfl ?_|refine zH (.there .here) rfl rfl rfl rfl ?_|refine zH (.there (.there .here)) rfl rfl rfl rfl ?_)
      refine oS (ev_indexAddr rfl rfl rfl hkl) rfl ?_
      refine oS (ev_load (v := .slice ab eb.length kb) rfl rfl (Rdb.ofF hcn)) rfl ?_
      repeat (first|refine zJ rfl rfl ?_|refine jr rfl ?_|refine jn ?_|refine zM rfl rfl ?_|(refine zC rfl rfl ?_ rfl ?_;omega)|(refine zD rfl rfl ?_ rfl ?_;omega)|(refine zP rfl ?_ rfl ?_;omega)|refine zG rfl rfl rfl rfl ?_|(refine jdq rfl rfl ?_ ?_ ?_;kernel_rfl;kernel_rfl)|refine zB rfl rfl rfl (by repeat constructor) rfl ?_|refine zH .here rfl rfl rfl rfl ?_|refine zH (.there .here) rfl rfl rfl rfl ?_|refine zH (.there (.there .here)) rfl rfl rfl rfl ?_)
      try rw [decide_eq_false (show ¬ (10 : Int) < (eb.length : Int) by omega)]
      repeat (first|refine zJ rfl rfl ?_|refine jr rfl ?_|refine jn ?_|refine zM rfl rfl ?_|(refine zC rfl rfl ?_ rfl ?_;omega)|(refine zD rfl rfl ?_ rfl ?_;omega)|(refine zP rfl ?_ rfl ?_;omega)|refine zG rfl rfl rfl rfl ?_|(refine jdq rfl rfl ?_ ?_ ?_;kernel_rfl;kernel_rfl)|refine zB rfl rfl rfl (by repeat constructor) rfl ?_|refine zH .here rfl rfl rfl rfl ?_|refine zH (.there .here) rfl rfl rfl rfl ?_|refine zH (.there (.there .here)) rfl rfl rfl rfl ?_)
      refine oE (ev_alloc (cs := zPr) rfl) rfl ?_
      rintro _ _ _ _ ⟨rfl, b17, rfl, rfl⟩
      refine oN (ev_store (b := b17) (vs := [.int .i64 (low + 1 + (k : Int)), .int .i64 0, .slice ab eb.length kb]) rfl rfl .agg rfl rfl (lay_all (zs := zPr) rfl) (by (repeat (first | exact ones_nil | refine ones_cons rfl ?_))) .here) rfl ?_
      rintro _ _ _ _ ⟨rfl, _, rfl⟩
      refine jn ?_
      refine J_seq ?_
      refine J_join (ι := Unit) [_] (fun _ => True) (fun _ => [(1, .slice (some ⟨bn, on, none⟩) nums.length kn), (2, .slice av vs.length kv), (3, .slice ag gs.length kg), (4, .slice al ls.length kl), (11, .int .i64 low), (12, .slice a2 i k2), (51, .int .i64 i), (13, .int .i64 i), (14, .pointer (some ⟨b14, 0, none⟩)), (85, .slice (some ⟨bn, on, none⟩) nums.length kn), (86, .int .i64 nums.length), (87, .int .i64 k), (15, .int .i64 k), (17, .pointer (some ⟨b17, 0, none⟩))]) (fun _ => G2) (fun _ => blk b17 58 [.int .i64 (low + 1 + (k : Int)), .int .i64 (viewK vs k), .slice ab eb.length kb] :: own (.slice aq cq.length kq) 58 3 cq.length cq.flatten :: own (.slice ap cp.length kp) 58 3 cp.length cp.flatten :: blk b14 53 [.int .i64 9, .int .i64 lg, .slice (some ⟨bq, 0, none⟩) 1 1, .slice ap cp.length kp, .slice aq cq.length kq] :: own (.slice a2 i k2) 55 6 i css.flatten :: X) ?_ ?_
      · show J _ (_ :: _) _ _ _
        by_cases hkv : k < vs.length
        · have gv : vs[k]? = some vs[k] := List.getElem?_eq_getElem hkv
          obtain ⟨bv, ov, cv, rfl, hcv, ⟨rfl, hvk⟩, _⟩ := (hv2.mono hle2).at gv
          have hvk9 : viewK vs k = vs[k] % 9 := by unfold viewK; rw [gv]
          dsimp only [InK] at hvk
          generalize vs[k] = w at *
          rw [hvk9]
          repeat (first|refine zJ rfl rfl ?_|refine jr rfl ?_|refine jn ?_|refine zM rfl rfl ?_|(refine zC rfl rfl ?_ rfl ?_;omega)|(refine zD rfl rfl ?_ rfl ?_;omega)|(refine zP rfl ?_ rfl ?_;omega)|refine zG rfl rfl rfl rfl ?_|(refine jdq rfl rfl ?_ ?_ ?_;kernel_rfl;kernel_rfl)|refine zB rfl rfl rfl (by repeat constructor) rfl ?_|refine zH .here rfl rfl rfl rfl ?_|refine zH (.there .here) rfl rfl rfl rfl ?_|refine zH (.there (.there .here)) rfl rfl rfl rfl ?_)
          refine oS (ev_indexAddr rfl rfl rfl hkv) rfl ?_
          refine oS (ev_load (v := .int .u8 w) rfl rfl (Rdb.ofF hcv)) rfl ?_
          repeat (first|refine zJ rfl rfl ?_|refine jr rfl ?_|refine jn ?_|refine zM rfl rfl ?_|(refine zC rfl rfl ?_ rfl ?_;omega)|(refine zD rfl rfl ?_ rfl ?_;omega)|(refine zP rfl ?_ rfl ?_;omega)|refine zG rfl rfl rfl rfl ?_|(refine jdq rfl rfl ?_ ?_ ?_;kernel_rfl;kernel_rfl)|refine zB rfl rfl rfl (by repeat constructor) rfl ?_|refine zH .here rfl rfl rfl rfl ?_|refine zH (.there .here) rfl rfl rfl rfl ?_|refine zH (.there (.there .here)) rfl rfl rfl rfl ?_)
          refine oN (ev_store (b := b17) (s := [.int .i64 (low + 1 + (k : Int)), .int .i64 (w % 9), .slice ab eb.length kb]) rfl rfl .int rfl rfl (.skip (.put .nil)) (ones_cons rfl ones_nil) .here) rfl ?_
          rintro _ _ _ _ ⟨rfl, _, rfl⟩
          repeat (first|refine zJ rfl rfl ?_|refine jr rfl ?_|refine jn ?_|refine zM rfl rfl ?_|(refine zC rfl rfl ?_ rfl ?_;omega)|(refine zD rfl rfl ?_ rfl ?_;omega)|(refine zP rfl ?_ rfl ?_;omega)|refine zG rfl rfl rfl rfl ?_|(refine jdq rfl rfl ?_ ?_ ?_;kernel_rfl;kernel_rfl)|refine zB rfl rfl rfl (by repeat constructor) rfl ?_|refine zH .here rfl rfl rfl rfl ?_|refine zH (.there .here) rfl rfl rfl rfl ?_|refine zH (.there (.there .here)) rfl rfl rfl rfl ?_)
          exact J_joined () trivial ⟨⟨rfl, rfl, rfl, rfl, rfl, rfl, rfl, rfl, rfl, rfl, rfl, rfl, rfl, rfl, trivial⟩, fun w s => s⟩
        · have hvk9 : viewK vs k = 0 := by unfold viewK; rw [List.getElem?_eq_none (by omega)]
          rw [hvk9]
          repeat (first|refine zJ rfl rfl ?_|refine jr rfl ?_|refine jn ?_|refine zM rfl rfl ?_|(refine zC rfl rfl ?_ rfl ?_;omega)|(refine zD rfl rfl ?_ rfl ?_;omega)|(refine zP rfl ?_ rfl ?_;omega)|refine zG rfl rfl rfl rfl ?_|(refine jdq rfl rfl ?_ ?_ ?_;kernel_rfl;kernel_rfl)|refine zB rfl rfl rfl (by repeat constructor) rfl ?_|refine zH .here rfl rfl rfl rfl ?_|refine zH (.there .here) rfl rfl rfl rfl ?_|refine zH (.there (.there .here)) rfl rfl rfl rfl ?_)
          exact J_joined () trivial ⟨⟨rfl, rfl, rfl, rfl, rfl, rfl, rfl, rfl, rfl, rfl, rfl, rfl, rfl, rfl, trivial⟩, fun w s => s⟩
      rintro ⟨⟩ _
      refine J_seq ?_
      refine J_join (ι := Value × List (List Value)) [_] (fun t => All2 (tyPr.rep G2) (proN low vs nums i (k + 1)) t.2) (fun _ => [(1, .slice (some ⟨bn, on, none⟩) nums.length kn), (2, .slice av vs.length kv), (3, .slice ag gs.length kg), (4, .slice al ls.length kl), (11, .int .i64 low), (12, .slice a2 i k2), (51, .int .i64 i), (13, .int .i64 i), (14, .pointer (some ⟨b14, 0, none⟩)), (85, .slice (some ⟨bn, on, none⟩) nums.length kn), (86, .int .i64 nums.length), (87, .int .i64 k), (15, .int .i64 k), (17, .pointer (some ⟨b17, 0, none⟩))]) (fun _ => G2) (fun t => blk b17 58 [.int .i64 (low + 1 + (k : Int)), .int .i64 (viewK vs k), .slice ab eb.length kb] :: own t.1 58 3 t.2.length t.2.flatten :: own (.slice ap cp.length kp) 58 3 cp.length cp.flatten :: blk b14 53 [.int .i64 9, .int .i64 lg, .slice (some ⟨bq, 0, none⟩) 1 1, .slice ap cp.length kp, t.1] :: own (.slice a2 i k2) 55 6 i css.flatten :: X) ?_ ?_
      · show J _ (_ :: _) _ _ _
        by_cases hc : i < 2 ∨ k % 2 = 0
        · rw [if_pos hc] at hpro
          by_cases hi2 : i < 2
          · repeat (first|refine zJ rfl rfl ?_|refine jr rfl ?_|refine jn ?_|refine zM rfl rfl ?_|(refine zC rfl rfl ?_ rfl ?_;omega)|(refine zD rfl rfl ?_ rfl ?_;omega)|(refine zP rfl ?_ rfl ?_;omega)|refine zG rfl rfl rfl rfl ?_|(refine jdq rfl rfl ?_ ?_ ?_;kernel_rfl;kernel_rfl)|refine zB rfl rfl rfl (by repeat constructor) rfl ?_|refine zH .here rfl rfl rfl rfl ?_|refine zH (.there .here) rfl rfl rfl rfl ?_|refine zH (.there (.there .here)) rfl rfl rfl rfl ?_)
            refine oS (ev_load (v := .slice aq cq.length kq) rfl rfl (Rdb.ofB (n := 0) (.there (.there (.there .here))) rfl)) rfl ?_
            repeat (first|refine zJ rfl rfl ?_|refine jr rfl ?_|refine jn ?_|refine zM rfl rfl ?_|(refine zC rfl rfl ?_ rfl ?_;omega)|(refine zD rfl rfl ?_ rfl ?_;omega)|(refine zP rfl ?_ rfl ?_;omega)|refine zG rfl rfl rfl rfl ?_|(refine jdq rfl rfl ?_ ?_ ?_;kernel_rfl;kernel_rfl)|refine zB rfl rfl rfl (by repeat constructor) rfl ?_|refine zH .here rfl rfl rfl rfl ?_|refine zH (.there .here) rfl rfl rfl rfl ?_|refine zH (.there (.there .here)) rfl rfl rfl rfl ?_)
            refine oS (ev_load_agg (cs := [.int .i64 (low + 1 + (k : Int)), .int .i64 (viewK vs k), .slice ab eb.length kb]) rfl rfl (Rdb.ofB (n := 0) .here rfl) rfl) rfl ?_
            refine oA (vs := [.int .i64 (low + 1 + (k : Int)), .int .i64 (viewK vs k), .slice ab eb.length kb]) (K := fun v' => blk b17 58 [.int .i64 (low + 1 + (k : Int)), .int .i64 (viewK vs k), .slice ab eb.length kb] :: own v' 58 3 (cq.length + 1) (cq.flatten ++ [.int .i64 (low + 1 + (k : Int)), .int .i64 (viewK vs k), .slice ab eb.length kb]) :: own (.slice ap cp.length kp) 58 3 cp.length cp.flatten :: blk b14 53 [.int .i64 9, .int .i64 lg, .slice (some ⟨bq, 0, none⟩) 1 1, .slice ap cp.length kp, .slice aq cq.length kq] :: own (.slice a2 i k2) 55 6 i css.flatten :: X) (fun _ => rfl) rfl .agg rfl elPr (by (repeat (first | exact ones_nil | refine ones_cons rfl ?_))) (by omega) (fun _ => .there .here) rfl (fun _ => rfl) fun u _ => ?_
            refine oOwn (v := u) (.there .here) fun au ku hu _ _ _ => ?_
            subst hu
            repeat (first|refine zJ rfl rfl ?_|refine jr rfl ?_|refine jn ?_|refine zM rfl rfl ?_|(refine zC rfl rfl ?_ rfl ?_;omega)|(refine zD rfl rfl ?_ rfl ?_;omega)|(refine zP rfl ?_ rfl ?_;omega)|refine zG rfl rfl rfl rfl ?_|(refine jdq rfl rfl ?_ ?_ ?_;kernel_rfl;kernel_rfl)|refine zB rfl rfl rfl (by repeat constructor) rfl ?_|refine zH .here rfl rfl rfl rfl ?_|refine zH (.there .here) rfl rfl rfl rfl ?_|refine zH (.there (.there .here)) rfl rfl rfl rfl ?_)
            refine oN (ev_store (b := b14) (s := [.int .i64 9, .int .i64 lg, .slice (some ⟨bq, 0, none⟩) 1 1, .slice ap cp.length kp, .slice au (cq.length + 1) ku]) rfl rfl .slice rfl rfl (.skip (.skip (.skip (.skip (.put .nil))))) (ones_cons rfl ones_nil) (.there (.there (.there .here)))) rfl ?_
            rintro _ _ _ _ ⟨rfl, _, rfl⟩
            repeat (first|refine zJ rfl rfl ?_|refine jr rfl ?_|refine jn ?_|refine zM rfl rfl ?_|(refine zC rfl rfl ?_ rfl ?_;omega)|(refine zD rfl rfl ?_ rfl ?_;omega)|(refine zP rfl ?_ rfl ?_;omega)|refine zG rfl rfl rfl rfl ?_|(refine jdq rfl rfl ?_ ?_ ?_;kernel_rfl;kernel_rfl)|refine zB rfl rfl rfl (by repeat constructor) rfl ?_|refine zH .here rfl rfl rfl rfl ?_|refine zH (.there .here) rfl rfl rfl rfl ?_|refine zH (.there (.there .here)) rfl rfl rfl rfl ?_)
            exact J_joined (.slice au (cq.length + 1) ku, cq ++ [[.int .i64 (low + 1 + (k : Int)), .int .i64 (viewK vs k), .slice ab eb.length kb]]) (by dsimp only; rw [hpro]; exact hcq.snoc hrep) ⟨⟨rfl, rfl, rfl, rfl, rfl, rfl, rfl, rfl, rfl, rfl, rfl, rfl, rfl, rfl, trivial⟩, fun w s => by dsimp only; rw [List.length_append, List.flatten_append]; exact s⟩
          · have hk2' : k % 2 = 0 := by omega
            have hk2i : (k : Int) % 2 = 0 := by omega
            repeat (first|refine zJ rfl rfl ?_|refine jr rfl ?_|refine jn ?_|refine zM rfl rfl ?_|(refine zC rfl rfl ?_ rfl ?_;omega)|(refine zD rfl rfl ?_ rfl ?_;omega)|(refine zP rfl ?_ rfl ?_;omega)|refine zG rfl rfl rfl rfl ?_|(refine jdq rfl rfl ?_ ?_ ?_;kernel_rfl;kernel_rfl)|refine zB rfl rfl rfl (by repeat constructor) rfl ?_|refine zH .here rfl rfl rfl rfl ?_|refine zH (.there .here) rfl rfl rfl rfl ?_|refine zH (.there (.there .here)) rfl rfl rfl rfl ?_)
            refine oS (ev_load (v := .slice aq cq.length kq) rfl rfl (Rdb.ofB (n := 0) (.there (.there (.there .here))) rfl)) rfl ?_
            repeat (first|refine zJ rfl rfl ?_|refine jr rfl ?_|refine jn ?_|refine zM rfl rfl ?_|(refine zC rfl rfl ?_ rfl ?_;omega)|(refine zD rfl rfl ?_ rfl ?_;omega)|(refine zP rfl ?_ rfl ?_;omega)|refine zG rfl rfl rfl rfl ?_|(refine jdq rfl rfl ?_ ?_ ?_;kernel_rfl;kernel_rfl)|refine zB rfl rfl rfl (by repeat constructor) rfl ?_|refine zH .here rfl rfl rfl rfl ?_|refine zH (.there .here) rfl rfl rfl rfl ?_|refine zH (.there (.there .here)) rfl rfl rfl rfl ?_)
            refine oS (ev_load_agg (cs := [.int .i64 (low + 1 + (k : Int)), .int .i64 (viewK vs k), .slice ab eb.length kb]) rfl rfl (Rdb.ofB (n := 0) .here rfl) rfl) rfl ?_
            refine oA (vs := [.int .i64 (low + 1 + (k : Int)), .int .i64 (viewK vs k), .slice ab eb.length kb]) (K := fun v' => blk b17 58 [.int .i64 (low + 1 + (k : Int)), .int .i64 (viewK vs k), .slice ab eb.length kb] :: own v' 58 3 (cq.length + 1) (cq.flatten ++ [.int .i64 (low + 1 + (k : Int)), .int .i64 (viewK vs k), .slice ab eb.length kb]) :: own (.slice ap cp.length kp) 58 3 cp.length cp.flatten :: blk b14 53 [.int .i64 9, .int .i64 lg, .slice (some ⟨bq, 0, none⟩) 1 1, .slice ap cp.length kp, .slice aq cq.length kq] :: own (.slice a2 i k2) 55 6 i css.flatten :: X) (fun _ => rfl) rfl .agg rfl elPr (by (repeat (first | exact ones_nil | refine ones_cons rfl ?_))) (by omega) (fun _ => .there .here) rfl (fun _ => rfl) fun u _ => ?_
            refine oOwn (v := u) (.there .here) fun au ku hu _ _ _ => ?_
            subst hu
            repeat (first|refine zJ rfl rfl ?_|refine jr rfl ?_|refine jn ?_|refine zM rfl rfl ?_|(refine zC rfl rfl ?_ rfl ?_;omega)|(refine zD rfl rfl ?_ rfl ?_;omega)|(refine zP rfl ?_ rfl ?_;omega)|refine zG rfl rfl rfl rfl ?_|(refine jdq rfl rfl ?_ ?_ ?_;kernel_rfl;kernel_rfl)|refine zB rfl rfl rfl (by repeat constructor) rfl ?_|refine zH .here rfl rfl rfl rfl ?_|refine zH (.there .here) rfl rfl rfl rfl ?_|refine zH (.there (.there .here)) rfl rfl rfl rfl ?_)
            refine oN (ev_store (b := b14) (s := [.int .i64 9, .int .i64 lg, .slice (some ⟨bq, 0, none⟩) 1 1, .slice ap cp.length kp, .slice au (cq.length + 1) ku]) rfl rfl .slice rfl rfl (.skip (.skip (.skip (.skip (.put .nil))))) (ones_cons rfl ones_nil) (.there (.there (.there .here)))) rfl ?_
            rintro _ _ _ _ ⟨rfl, _, rfl⟩
            repeat (first|refine zJ rfl rfl ?_|refine jr rfl ?_|refine jn ?_|refine zM rfl rfl ?_|(refine zC rfl rfl ?_ rfl ?_;omega)|(refine zD rfl rfl ?_ rfl ?_;omega)|(refine zP rfl ?_ rfl ?_;omega)|refine zG rfl rfl rfl rfl ?_|(refine jdq rfl rfl ?_ ?_ ?_;kernel_rfl;kernel_rfl)|refine zB rfl rfl rfl (by repeat constructor) rfl ?_|refine zH .here rfl rfl rfl rfl ?_|refine zH (.there .here) rfl rfl rfl rfl ?_|refine zH (.there (.there .here)) rfl rfl rfl rfl ?_)
            exact J_joined (.slice au (cq.length + 1) ku, cq ++ [[.int .i64 (low + 1 + (k : Int)), .int .i64 (viewK vs k), .slice ab eb.length kb]]) (by dsimp only; rw [hpro]; exact hcq.snoc hrep) ⟨⟨rfl, rfl, rfl, rfl, rfl, rfl, rfl, rfl, rfl, rfl, rfl, rfl, rfl, rfl, trivial⟩, fun w s => by dsimp only; rw [List.length_append, List.flatten_append]; exact s⟩
        · rw [if_neg hc, List.append_nil] at hpro
          have hi2 : ¬ i < 2 := fun h => hc (.inl h)
          have hk2i : ¬ (k : Int) % 2 = 0 := fun h => hc (.inr (by omega))
          repeat (first|refine zJ rfl rfl ?_|refine jr rfl ?_|refine jn ?_|refine zM rfl rfl ?_|(refine zC rfl rfl ?_ rfl ?_;omega)|(refine zD rfl rfl ?_ rfl ?_;omega)|(refine zP rfl ?_ rfl ?_;omega)|refine zG rfl rfl rfl rfl ?_|(refine jdq rfl rfl ?_ ?_ ?_;kernel_rfl;kernel_rfl)|refine zB rfl rfl rfl (by repeat constructor) rfl ?_|refine zH .here rfl rfl rfl rfl ?_|refine zH (.there .here) rfl rfl rfl rfl ?_|refine zH (.there (.there .here)) rfl rfl rfl rfl ?_)
          exact J_joined (.slice aq cq.length kq, cq) (by dsimp only; rw [hpro]; exact hcq) ⟨⟨rfl, rfl, rfl, rfl, rfl, rfl, rfl, rfl, rfl, rfl, rfl, rfl, rfl, rfl, trivial⟩, fun w s => s⟩
      rintro ⟨qv2, cq2⟩ hcq2
      dsimp only at hcq2 ⊢
      have hbs2 : ∀ b ∈ nums.take (k + 1), b.length ≤ 10 := fun b hb => by
        rw [htk] at hb
        rcases List.mem_append.1 hb with hb | hb
        · exact hbs b hb
        · rw [List.mem_singleton] at hb
          subst hb
          omega
      by_cases hik : (i + k) % 2 = 0
      · rw [if_pos hik] at hpre
        have hiki : ((i : Int) + (k : Int)) % 2 = 0 := by omega
        refine jOwn (.there .here) fun aq2 kq2 hqv2 _ _ _ => ?_
        subst hqv2
        repeat (first|refine zJ rfl rfl ?_|refine jr rfl ?_|refine jn ?_|refine zM rfl rfl ?_|(refine zC rfl rfl ?_ rfl ?_;omega)|(refine zD rfl rfl ?_ rfl ?_;omega)|(refine zP rfl ?_ rfl ?_;omega)|refine zG rfl rfl rfl rfl ?_|(refine jdq rfl rfl ?_ ?_ ?_;kernel_rfl;kernel_rfl)|refine zB rfl rfl rfl (by repeat constructor) rfl ?_|refine zH .here rfl rfl rfl rfl ?_|refine zH (.there .here) rfl rfl rfl rfl ?_|refine zH (.there (.there .here)) rfl rfl rfl rfl ?_)
        refine oS (ev_load (v := .slice ap cp.length kp) rfl rfl (Rdb.ofB (n := 0) (.there (.there (.there .here))) rfl)) rfl ?_
        repeat (first|refine zJ rfl rfl ?_|refine jr rfl ?_|refine jn ?_|refine zM rfl rfl ?_|(refine zC rfl rfl ?_ rfl ?_;omega)|(refine zD rfl rfl ?_ rfl ?_;omega)|(refine zP rfl ?_ rfl ?_;omega)|refine zG rfl rfl rfl rfl ?_|(refine jdq rfl rfl ?_ ?_ ?_;kernel_rfl;kernel_rfl)|refine zB rfl rfl rfl (by repeat constructor) rfl ?_|refine zH .here rfl rfl rfl rfl ?_|refine zH (.there .here) rfl rfl rfl rfl ?_|refine zH (.there (.there .here)) rfl rfl rfl rfl ?_)
        refine oS (ev_load_agg (cs := [.int .i64 (low + 1 + (k : Int)), .int .i64 (viewK vs k), .slice ab eb.length kb]) rfl rfl (Rdb.ofB (n := 0) .here rfl) rfl) rfl ?_
        refine oA (vs := [.int .i64 (low + 1 + (k : Int)), .int .i64 (viewK vs k), .slice ab eb.length kb]) (K := fun v' => blk b17 58 [.int .i64 (low + 1 + (k : Int)), .int .i64 (viewK vs k), .slice ab eb.length kb] :: own (.slice aq2 cq2.length kq2) 58 3 cq2.length cq2.flatten :: own v' 58 3 (cp.length + 1) (cp.flatten ++ [.int .i64 (low + 1 + (k : Int)), .int .i64 (viewK vs k), .slice ab eb.length kb]) :: blk b14 53 [.int .i64 9, .int .i64 lg, .slice (some ⟨bq, 0, none⟩) 1 1, .slice ap cp.length kp, .slice aq2 cq2.length kq2] :: own (.slice a2 i k2) 55 6 i css.flatten :: X) (fun _ => rfl) rfl .agg rfl elPr (by (repeat (first | exact ones_nil | refine ones_cons rfl ?_))) (by omega) (fun _ => .there (.there .here)) rfl (fun _ => rfl) fun u _ => ?_
        refine oOwn (v := u) (.there (.there .here)) fun au ku hu _ _ _ => ?_
        subst hu
        repeat (first|refine zJ rfl rfl ?_|refine jr rfl ?_|refine jn ?_|refine zM rfl rfl ?_|(refine zC rfl rfl ?_ rfl ?_;omega)|(refine zD rfl rfl ?_ rfl ?_;omega)|(refine zP rfl ?_ rfl ?_;omega)|refine zG rfl rfl rfl rfl ?_|(refine jdq rfl rfl ?_ ?_ ?_;kernel_rfl;kernel_rfl)|refine zB rfl rfl rfl (by repeat constructor) rfl ?_|refine zH .here rfl rfl rfl rfl ?_|refine zH (.there .here) rfl rfl rfl rfl ?_|refine zH (.there (.there .here)) rfl rfl rfl rfl ?_)
        refine oN (ev_store (b := b14) (s := [.int .i64 9, .int .i64 lg, .slice (some ⟨bq, 0, none⟩) 1 1, .slice au (cp.length + 1) ku, .slice aq2 cq2.length kq2]) rfl rfl .slice rfl rfl (.skip (.skip (.skip (.put .nil)))) (ones_cons rfl ones_nil) (.there (.there (.there .here)))) rfl ?_
        rintro _ _ _ _ ⟨rfl, _, rfl⟩
        repeat (first|refine zJ rfl rfl ?_|refine jr rfl ?_|refine jn ?_|refine zM rfl rfl ?_|(refine zC rfl rfl ?_ rfl ?_;omega)|(refine zD rfl rfl ?_ rfl ?_;omega)|(refine zP rfl ?_ rfl ?_;omega)|refine zG rfl rfl rfl rfl ?_|(refine jdq rfl rfl ?_ ?_ ?_;kernel_rfl;kernel_rfl)|refine zB rfl rfl rfl (by repeat constructor) rfl ?_|refine zH .here rfl rfl rfl rfl ?_|refine zH (.there .here) rfl rfl rfl rfl ?_|refine zH (.there (.there .here)) rfl rfl rfl rfl ?_)
        refine J_again5 (k + 1) (.slice au (cp.length + 1) ku) (cp ++ [[.int .i64 (low + 1 + (k : Int)), .int .i64 (viewK vs k), .slice ab eb.length kb]]) (.slice aq2 cq2.length kq2) cq2 ⟨hkl, by rw [hpre]; exact hcp.snoc hrep, hcq2, hbs2⟩ (by omega) ⟨⟨rfl, rfl, rfl, rfl, rfl, rfl, rfl, rfl, rfl, rfl, rfl, rfl, trivial⟩, fun w s => ?_⟩
        rw [List.length_append, List.flatten_append]
        exact s.drop
      · rw [if_neg hik, List.append_nil] at hpre
        have hiki : ¬ ((i : Int) + (k : Int)) % 2 = 0 := by omega
        repeat (first|refine zJ rfl rfl ?_|refine jr rfl ?_|refine jn ?_|refine zM rfl rfl ?_|(refine zC rfl rfl ?_ rfl ?_;omega)|(refine zD rfl rfl ?_ rfl ?_;omega)|(refine zP rfl ?_ rfl ?_;omega)|refine zG rfl rfl rfl rfl ?_|(refine jdq rfl rfl ?_ ?_ ?_;kernel_rfl;kernel_rfl)|refine zB rfl rfl rfl (by repeat constructor) rfl ?_|refine zH .here rfl rfl rfl rfl ?_|refine zH (.there .here) rfl rfl rfl rfl ?_|refine zH (.there (.there .here)) rfl rfl rfl rfl ?_)
        exact J_again5 (k + 1) (.slice ap cp.length kp) cp qv2 cq2 ⟨hkl, by rw [hpre]; exact hcp, hcq2, hbs2⟩ (by omega) ⟨⟨rfl, rfl, rfl, rfl, rfl, rfl, rfl, rfl, rfl, rfl, rfl, rfl, trivial⟩, fun w s => s.drop⟩
    · obtain rfl : k = nums.length := by omega
      rw [List.take_length] at hbs
      refine jOwn .here fun aq kq hqv hkq hmq _ => ?_
      subst hqv
      refine J_persist fun hh hA hd => ?_
      have hrq := row_own (te := tyPr) hA hd hcq hcq.len1
      have hF6 := PH.le_l G2 hh
      generalize G2.un hh = G3 at *
      refine jOwn .here fun ap kp hpv hkp hmp _ => ?_
      subst hpv
      refine J_persist fun hh2 hA2 hd2 => ?_
      have hrp := row_own (te := tyPr) hA2 hd2 (hcp.mono fun _ _ h => tyPr.mono hF6 h) hcp.len1
      have hF7 := PH.le_l G3 hh2
      generalize G3.un hh2 = G4 at *
      have hle4 := hle2.trans (hF6.trans hF7)
      have hlgk : InK .i64 lg := by
        have h1 := lag_le low (gs.getD 0 false) i
        rw [hlg] at h1
        have h2 : low - 4 ≤ lg := by rw [← hlg]; unfold lagL; split <;> omega
        dsimp only [InK]
        omega
      repeat (first|refine zJ rfl rfl ?_|refine jr rfl ?_|refine jn ?_|refine zM rfl rfl ?_|(refine zC rfl rfl ?_ rfl ?_;omega)|(refine zD rfl rfl ?_ rfl ?_;omega)|(refine zP rfl ?_ rfl ?_;omega)|refine zG rfl rfl rfl rfl ?_|(refine jdq rfl rfl ?_ ?_ ?_;kernel_rfl;kernel_rfl)|refine zB rfl rfl rfl (by repeat constructor) rfl ?_|refine zH .here rfl rfl rfl rfl ?_|refine zH (.there .here) rfl rfl rfl rfl ?_|refine zH (.there (.there .here)) rfl rfl rfl rfl ?_)
      refine oS (ev_load_agg (cs := [.int .i64 9, .int .i64 lg, .slice (some ⟨bq, 0, none⟩) 1 1, .slice ap cp.length kp, .slice aq cq.length kq]) rfl rfl (Rdb.ofB (n := 0) .here rfl) rfl) rfl ?_
      repeat (first|refine zJ rfl rfl ?_|refine jr rfl ?_|refine jn ?_|refine zM rfl rfl ?_|(refine zC rfl rfl ?_ rfl ?_;omega)|(refine zD rfl rfl ?_ rfl ?_;omega)|(refine zP rfl ?_ rfl ?_;omega)|refine zG rfl rfl rfl rfl ?_|(refine jdq rfl rfl ?_ ?_ ?_;kernel_rfl;kernel_rfl)|refine zB rfl rfl rfl (by repeat constructor) rfl ?_|refine zH .here rfl rfl rfl rfl ?_|refine zH (.there .here) rfl rfl rfl rfl ?_|refine zH (.there (.there .here)) rfl rfl rfl rfl ?_)
      refine oA (vs := .int .i64 i :: [.int .i64 9, .int .i64 lg, .slice (some ⟨bq, 0, none⟩) 1 1, .slice ap cp.length kp, .slice aq cq.length kq]) (K := fun v' => blk b14 53 [.int .i64 9, .int .i64 lg, .slice (some ⟨bq, 0, none⟩) 1 1, .slice ap cp.length kp, .slice aq cq.length kq] :: own v' 55 6 (i + 1) (css.flatten ++ .int .i64 i :: [.int .i64 9, .int .i64 lg, .slice (some ⟨bq, 0, none⟩) 1 1, .slice ap cp.length kp, .slice aq cq.length kq]) :: X) (fun _ => rfl) rfl .agg rfl elSg (by (repeat (first | exact ones_nil | refine ones_cons rfl ?_))) (by omega) (fun _ => .there .here) rfl (fun _ => rfl) fun u _ => ?_
      repeat (first|refine zJ rfl rfl ?_|refine jr rfl ?_|refine jn ?_|refine zM rfl rfl ?_|(refine zC rfl rfl ?_ rfl ?_;omega)|(refine zD rfl rfl ?_ rfl ?_;omega)|(refine zP rfl ?_ rfl ?_;omega)|refine zG rfl rfl rfl rfl ?_|(refine jdq rfl rfl ?_ ?_ ?_;kernel_rfl;kernel_rfl)|refine zB rfl rfl rfl (by repeat constructor) rfl ?_|refine zH .here rfl rfl rfl rfl ?_|refine zH (.there .here) rfl rfl rfl rfl ?_|refine zH (.there (.there .here)) rfl rfl rfl rfl ?_)
      refine J_again4 (i + 1) G4 u (css ++ [.int .i64 i :: [.int .i64 9, .int .i64 lg, .slice (some ⟨bq, 0, none⟩) 1 1, .slice ap cp.length kp, .slice aq cq.length kq]]) ⟨hi3, hle4, ?_, fun _ => hbs⟩ (by omega) ⟨⟨rfl, rfl, rfl, rfl, rfl, rfl, rfl, trivial⟩, fun w s => ?_⟩
      · rw [List.range_succ, List.map_append]
        refine (hall.mono fun _ _ h => tySg.mono (hF3.trans (hG2.trans (hF6.trans hF7))) h).snoc ?_
        show tySg.rep G4 (hSg low (gs.getD 0 false) vs nums i) _
        unfold hSg hCn
        rw [hlg]
        exact sg_mk (by dsimp only [InK]; omega) (ch_mk (by decide) hlgk (hpts.mono (hF6.trans hF7)) ⟨hrp, Nat.le_trans (Nat.le_of_eq hcp.len1) (Nat.le_trans hkp hmp)⟩ ⟨hrq.mono hF7, Nat.le_trans (Nat.le_of_eq hcq.len1) (Nat.le_trans hkq hmq)⟩)
      · rw [List.flatten_append]
        simp only [List.flatten_cons, List.flatten_nil, List.append_nil]
        exact s.drop
  · obtain rfl : i = 3 := by omega
    have hbl := hbl (by omega)
    repeat (first|refine zJ rfl rfl ?_|refine jr rfl ?_|refine jn ?_|refine zM rfl rfl ?_|(refine zC rfl rfl ?_ rfl ?_;omega)|(refine zD rfl rfl ?_ rfl ?_;omega)|(refine zP rfl ?_ rfl ?_;omega)|refine zG rfl rfl rfl rfl ?_|(refine jdq rfl rfl ?_ ?_ ?_;kernel_rfl;kernel_rfl)|refine zB rfl rfl rfl (by repeat constructor) rfl ?_|refine zH .here rfl rfl rfl rfl ?_|refine zH (.there .here) rfl rfl rfl rfl ?_|refine zH (.there (.there .here)) rfl rfl rfl rfl ?_)
    refine J_loop4 (fun (j : Nat) (G1 : PH) (w : Value) (cs2 : List (List Value)) => j ≤ ls.length ∧ G.le G1 ∧ All2 (tySg.rep G1) ((List.range 3).map (hSg low (gs.getD 0 false) vs nums) ++ (ls.take j).map lie3) cs2) (fun j _ _ _ => ls.length - j) (fun j _ w _ => [(11, .int .i64 low), (12, w), (144, .slice al ls.length kl), (145, .int .i64 ls.length), (146, .int .i64 j)]) (fun _ G1 _ _ => G1) (fun j _ w cs2 => own w 55 6 (3 + j) cs2.flatten :: X) 0 G lv css
      ⟨Nat.zero_le _, PH.ler _, by rw [List.take_zero, List.map_nil, List.append_nil]; exact hall⟩ ⟨⟨rfl, rfl, rfl, rfl, rfl, trivial⟩, fun _ h => h⟩ ?_
    rintro j G1 w cs2 ⟨hj, hG1, hal2⟩
    by_cases hjl : j < ls.length
    · have g2 : ls[j]? = some ls[j] := List.getElem?_eq_getElem hjl
      have ht2 : ls.take (j + 1) = ls.take j ++ [ls[j]] := by rw [List.take_add_one, g2]; rfl
      obtain ⟨b5, o5, c5, rfl, hc5, hr5, _⟩ := (hl2.mono (hG.trans hG1)).1.at g2
      generalize ls[j] = y at *
      obtain ⟨cs', hcs, _, hch⟩ := sg_of hr5
      have hone2 := tySg.ones hr5
      subst hcs
      obtain ⟨vp, vq, vr, rfl, _⟩ := ch_of hch
      have hone3 : Ones (.int .i64 3 :: chC y.2.1.1 y.2.1.2.1 vp vq vr : List Value) := ones_cons rfl (ones_tail hone2)
      unfold chC at hone2 hone3 hc5
      refine jOwn .here fun aw kw hw2 _ _ _ => ?_
      subst hw2
      repeat (first|refine zJ rfl rfl ?_|refine jr rfl ?_|refine jn ?_|refine zM rfl rfl ?_|(refine zC rfl rfl ?_ rfl ?_;omega)|(refine zD rfl rfl ?_ rfl ?_;omega)|(refine zP rfl ?_ rfl ?_;omega)|refine zG rfl rfl rfl rfl ?_|(refine jdq rfl rfl ?_ ?_ ?_;kernel_rfl;kernel_rfl)|refine zB rfl rfl rfl (by repeat constructor) rfl ?_|refine zH .here rfl rfl rfl rfl ?_|refine zH (.there .here) rfl rfl rfl rfl ?_|refine zH (.there (.there .here)) rfl rfl rfl rfl ?_)
      refine oS (ev_indexAddr rfl rfl rfl hjl) rfl ?_
      refine oS (ev_load_agg rfl rfl (Rdb.ofF hc5) rfl) rfl ?_
      refine oE (ev_alloc (cs := zSg) rfl) rfl ?_
      rintro _ _ _ _ ⟨rfl, b19, rfl, rfl⟩
      refine oN (ev_store (b := b19) rfl rfl .agg rfl rfl (lay_all (zs := zSg) rfl) hone2 .here) rfl ?_
      rintro _ _ _ _ ⟨rfl, _, rfl⟩
      repeat (first|refine zJ rfl rfl ?_|refine jr rfl ?_|refine jn ?_|refine zM rfl rfl ?_|(refine zC rfl rfl ?_ rfl ?_;omega)|(refine zD rfl rfl ?_ rfl ?_;omega)|(refine zP rfl ?_ rfl ?_;omega)|refine zG rfl rfl rfl rfl ?_|(refine jdq rfl rfl ?_ ?_ ?_;kernel_rfl;kernel_rfl)|refine zB rfl rfl rfl (by repeat constructor) rfl ?_|refine zH .here rfl rfl rfl rfl ?_|refine zH (.there .here) rfl rfl rfl rfl ?_|refine zH (.there (.there .here)) rfl rfl rfl rfl ?_)
      refine oN (ev_store (b := b19) (s := [.int .i64 3, .int .i64 y.2.1.1, .int .i64 y.2.1.2.1, vp, vq, vr]) rfl rfl .int rfl rfl (.put .nil) (ones_cons rfl ones_nil) .here) rfl ?_
      rintro _ _ _ _ ⟨rfl, _, rfl⟩
      repeat (first|refine zJ rfl rfl ?_|refine jr rfl ?_|refine jn ?_|refine zM rfl rfl ?_|(refine zC rfl rfl ?_ rfl ?_;omega)|(refine zD rfl rfl ?_ rfl ?_;omega)|(refine zP rfl ?_ rfl ?_;omega)|refine zG rfl rfl rfl rfl ?_|(refine jdq rfl rfl ?_ ?_ ?_;kernel_rfl;kernel_rfl)|refine zB rfl rfl rfl (by repeat constructor) rfl ?_|refine zH .here rfl rfl rfl rfl ?_|refine zH (.there .here) rfl rfl rfl rfl ?_|refine zH (.there (.there .here)) rfl rfl rfl rfl ?_)
      refine oS (ev_load_agg (cs := chC y.2.1.1 y.2.1.2.1 vp vq vr) rfl rfl (Rdb.ofB (n := 0) .here rfl) rfl) rfl ?_
      refine oC (Hc := []) (Hr := blk b19 55 [.int .i64 3, .int .i64 y.2.1.1, .int .i64 y.2.1.2.1, vp, vq, vr] :: own (.slice aw (3 + j) kw) 55 6 (3 + j) cs2.flatten :: X) (right_spec y.2.1 _ G1 hch) Try.call26 rfl rfl (fun _ s => s) ?_
      rintro _ G2 _ hF5 ⟨⟨rb, rfl⟩, rfl⟩
      cases rb with
      | false =>
        repeat (first|refine zJ rfl rfl ?_|refine jr rfl ?_|refine jn ?_|refine zM rfl rfl ?_|(refine zC rfl rfl ?_ rfl ?_;omega)|(refine zD rfl rfl ?_ rfl ?_;omega)|(refine zP rfl ?_ rfl ?_;omega)|refine zG rfl rfl rfl rfl ?_|(refine jdq rfl rfl ?_ ?_ ?_;kernel_rfl;kernel_rfl)|refine zB rfl rfl rfl (by repeat constructor) rfl ?_|refine zH .here rfl rfl rfl rfl ?_|refine zH (.there .here) rfl rfl rfl rfl ?_|refine zH (.there (.there .here)) rfl rfl rfl rfl ?_)
        exact J_retv rfl (.tmp rfl .nil) [] (fun w s => s.drop.drop) (hFF.trans (hG.trans (hG1.trans hF5))) ⟨rfl, rfl⟩
      | true =>
      have hr6 : tySg.rep G2 (lie3 y) _ := sg_mk (f := 3) (by decide) (tyCh.mono hF5 hch)
      unfold chC at hr6
      repeat (first|refine zJ rfl rfl ?_|refine jr rfl ?_|refine jn ?_|refine zM rfl rfl ?_|(refine zC rfl rfl ?_ rfl ?_;omega)|(refine zD rfl rfl ?_ rfl ?_;omega)|(refine zP rfl ?_ rfl ?_;omega)|refine zG rfl rfl rfl rfl ?_|(refine jdq rfl rfl ?_ ?_ ?_;kernel_rfl;kernel_rfl)|refine zB rfl rfl rfl (by repeat constructor) rfl ?_|refine zH .here rfl rfl rfl rfl ?_|refine zH (.there .here) rfl rfl rfl rfl ?_|refine zH (.there (.there .here)) rfl rfl rfl rfl ?_)
      refine oS (ev_load_agg (cs := [.int .i64 3, .int .i64 y.2.1.1, .int .i64 y.2.1.2.1, vp, vq, vr]) rfl rfl (Rdb.ofB (n := 0) .here rfl) rfl) rfl ?_
      refine oA (vs := [.int .i64 3, .int .i64 y.2.1.1, .int .i64 y.2.1.2.1, vp, vq, vr]) (K := fun v' => blk b19 55 [.int .i64 3, .int .i64 y.2.1.1, .int .i64 y.2.1.2.1, vp, vq, vr] :: own v' 55 6 (3 + j + 1) (cs2.flatten ++ [.int .i64 3, .int .i64 y.2.1.1, .int .i64 y.2.1.2.1, vp, vq, vr]) :: X) (fun _ => rfl) rfl .agg rfl elSg hone3 (by omega) (fun _ => .there .here) rfl (fun _ => rfl) fun u _ => ?_
      repeat (first|refine zJ rfl rfl ?_|refine jr rfl ?_|refine jn ?_|refine zM rfl rfl ?_|(refine zC rfl rfl ?_ rfl ?_;omega)|(refine zD rfl rfl ?_ rfl ?_;omega)|(refine zP rfl ?_ rfl ?_;omega)|refine zG rfl rfl rfl rfl ?_|(refine jdq rfl rfl ?_ ?_ ?_;kernel_rfl;kernel_rfl)|refine zB rfl rfl rfl (by repeat constructor) rfl ?_|refine zH .here rfl rfl rfl rfl ?_|refine zH (.there .here) rfl rfl rfl rfl ?_|refine zH (.there (.there .here)) rfl rfl rfl rfl ?_)
      refine J_again4 (j + 1) G2 u (cs2 ++ [[.int .i64 3, .int .i64 y.2.1.1, .int .i64 y.2.1.2.1, vp, vq, vr]]) ⟨hjl, hG1.trans hF5, ?_⟩ (by omega) ⟨⟨rfl, rfl, rfl, rfl, rfl, trivial⟩, fun w s => ?_⟩
      · rw [ht2, List.map_append, ← List.append_assoc]
        exact (hal2.mono fun _ _ h => tySg.mono hF5 h).snoc hr6
      · rw [List.flatten_append]
        simp only [List.flatten_cons, List.flatten_nil, List.append_nil]
        exact s.drop
    obtain rfl : j = ls.length := by omega
    rw [List.take_length] at hal2
    obtain ⟨p, bt, hcho, hge⟩ := enough_law (low := low) (lag := gs.getD 0 false) (vs := vs) (nums := nums) hl1
    refine jOwn .here fun aw kw hw2 hkw hmx _ => ?_
    subst hw2
    refine J_persist fun hh hA hd => ?_
    have hnl : (rowE low (gs.getD 0 false) vs nums ls).length = 3 + ls.length := by unfold rowE; rw [List.length_append, List.length_map, List.length_map]; rfl
    have hL := row_own (te := tySg) (xs := rowE low (gs.getD 0 false) vs nums ls) hA hd hal2 hnl
    have hF6 := PH.le_l G1 hh
    generalize G1.un hh = G2 at *
    have hL10 : Few10 (rowE low (gs.getD 0 false) vs nums ls) := by
      intro s hs q hq
      rcases List.mem_append.1 hs with hs | hs
      · obtain ⟨k, hk, rfl⟩ := List.mem_map.1 hs
        obtain ⟨n, hn, rfl⟩ := pre_mem (show q ∈ preN low vs nums k nums.length from hq)
        show (nums.getD n []).length ≤ 10
        rw [List.getD_eq_getElem?_getD, List.getElem?_eq_getElem hn]
        exact hbl _ (List.getElem_mem hn)
      · obtain ⟨t, ht, rfl⟩ := List.mem_map.1 hs
        exact (hfl t ht).1.2 q hq
    repeat (first|refine zJ rfl rfl ?_|refine jr rfl ?_|refine jn ?_|refine zM rfl rfl ?_|(refine zC rfl rfl ?_ rfl ?_;omega)|(refine zD rfl rfl ?_ rfl ?_;omega)|(refine zP rfl ?_ rfl ?_;omega)|refine zG rfl rfl rfl rfl ?_|(refine jdq rfl rfl ?_ ?_ ?_;kernel_rfl;kernel_rfl)|refine zB rfl rfl rfl (by repeat constructor) rfl ?_|refine zH .here rfl rfl rfl rfl ?_|refine zH (.there .here) rfl rfl rfl rfl ?_|refine zH (.there (.there .here)) rfl rfl rfl rfl ?_)
    refine oC (Hc := []) (Hr := X) (choose_spec _ (rowE low (gs.getD 0 false) vs nums ls) G2 ⟨by rw [← hnl] at hL; rw [← hnl]; exact hL, Nat.le_trans (Nat.le_of_eq hnl) (Nat.le_trans hkw hmx)⟩ hL10) Try.call27 rfl rfl (fun _ s => s) ?_
    rintro u4 G4 _ hF9 ⟨rfl, hres⟩
    rw [hcho] at hres
    obtain ⟨⟨hpk, hp32⟩, bv, rfl, hbv⟩ := hres
    obtain ⟨bva, bvk, rfl, _⟩ := hbv.form
    repeat (first|refine zJ rfl rfl ?_|refine jr rfl ?_|refine jn ?_|refine zM rfl rfl ?_|(refine zC rfl rfl ?_ rfl ?_;omega)|(refine zD rfl rfl ?_ rfl ?_;omega)|(refine zP rfl ?_ rfl ?_;omega)|refine zG rfl rfl rfl rfl ?_|(refine jdq rfl rfl ?_ ?_ ?_;kernel_rfl;kernel_rfl)|refine zB rfl rfl rfl (by repeat constructor) rfl ?_|refine zH .here rfl rfl rfl rfl ?_|refine zH (.there .here) rfl rfl rfl rfl ?_|refine zH (.there (.there .here)) rfl rfl rfl rfl ?_)
    refine oE (ev_alloc (cs := zCho) rfl) rfl ?_
    rintro _ _ _ _ ⟨rfl, b20, rfl, rfl⟩
    refine oN (ev_store (b := b20) (vs := choC p.1 p.2.1 (.slice bva bt.length bvk)) rfl rfl .agg rfl (choC_len hp32) (lay_all (zs := zCho) (choC_len hp32)) (choC_ones rfl) .here) rfl ?_
    rintro _ _ _ _ ⟨rfl, _, rfl⟩
    repeat (first|refine zJ rfl rfl ?_|refine jr rfl ?_|refine jn ?_|refine zM rfl rfl ?_|(refine zC rfl rfl ?_ rfl ?_;omega)|(refine zD rfl rfl ?_ rfl ?_;omega)|(refine zP rfl ?_ rfl ?_;omega)|refine zG rfl rfl rfl rfl ?_|(refine jdq rfl rfl ?_ ?_ ?_;kernel_rfl;kernel_rfl)|refine zB rfl rfl rfl (by repeat constructor) rfl ?_|refine zH .here rfl rfl rfl rfl ?_|refine zH (.there .here) rfl rfl rfl rfl ?_|refine zH (.there (.there .here)) rfl rfl rfl rfl ?_)
    exact J_retv rfl (.tmp rfl .nil) [] (fun w s => s.drop) (hFF.trans (hG.trans (hG1.trans (hF6.trans hF9)))) ⟨by simp [retV, hge], rfl⟩
open Go.ChangeShapes Go.WideShapes Go.ChangeAt
set_option maxRecDepth 100000 in theorem ChooseEnough_lifted (os : Os) (started : os.Started) (H : Type) (enc : TypeId × Value → H) : ReturnsInHanded {} Try.checked os 6 .any (Rows.chooseEnoughSpec.pre6 enc Try.prog Try.f6 Rows.chooseEnoughRow.domain false) (Rows.chooseEnoughSpec.post enc Try.prog Try.f6 false true false false) := by
  refine returnsInHanded_of_change (C := Try.checked) own_knob started (by kernel_rfl) Try.func6 (ChangeSpec.witness6 (enc := enc) (C := Try.checked) false ⟨#[], #[.int .u8 0, .slice none 0 0, .slice none 0 0, .slice none 0 0, .slice none 0 0], []⟩ 8 (by kernel_rfl) (by kernel_rfl) (by kernel_rfl) (by kernel_rfl)) ?_; intro W base args ds gs before hval0 hW hcnd _; have hval : ∀ (j : Nat) t v, Try.f6.params[j]? = some t → args[j]? = some v → Value.okWide Try.prog W .any base t v := hval0; have hW' := hW; obtain ⟨p, q, hA0, hV, hp, hfz, hnd⟩ := hW; have hA : DataW.TrodAll enc Try.prog W 0 (fun _ => true) true Try.f6.params.toList args.toList ds p := hA0; obtain ⟨rfl, rfl⟩ := trodVars_none hV; rw [List.append_nil] at hp; have hA' := hA; rw [Try.params6] at hA hval
  obtain ⟨v0, vs0, d0, ds0, p0, q0, hargs, rfl, rfl, h0, r0⟩ := trodAll_cons hA; obtain ⟨v1, vs1, d1, ds1, p1, q1, rfl, rfl, rfl, h1, r1⟩ := trodAll_cons r0; obtain ⟨v2, vs2, d2, ds2, p2, q2, rfl, rfl, rfl, h2, r2⟩ := trodAll_cons r1; obtain ⟨v3, vs3, d3, ds3, p3, q3, rfl, rfl, rfl, h3, r3⟩ := trodAll_cons r2; obtain ⟨v4, vs4, d4, ds4, p4, q4, rfl, rfl, rfl, h4, r4⟩ := trodAll_cons r3; obtain ⟨rfl, rfl, rfl⟩ := trodAll_nil r4; obtain rfl : args = #[v0, v1, v2, v3, v4] := by cases args; simp_all
  obtain ⟨w8, rfl, rfl, rfl, w0⟩ := open_int Try.underlying5 (hval 0 5 v0 rfl rfl) h0
  obtain ⟨nums, hn⟩ := open_row tyEns Try.underlying61 (by kernel_rfl) (by decide) (hval 1 61 v1 rfl rfl) h1
  obtain ⟨vs, hv⟩ := open_row tyU8 Try.underlying22 (by kernel_rfl) (by decide) (hval 2 22 v2 rfl rfl) h2
  obtain ⟨gs, hg⟩ := open_row tyB Try.underlying67 (by kernel_rfl) (by decide) (hval 3 67 v3 rfl rfl) h3
  obtain ⟨ls, hl⟩ := open_row tySg Try.underlying48 (by kernel_rfl) (by decide) (hval 4 48 v4 rfl rfl) h4
  obtain ⟨a1, c1, rfl, _⟩ := hn.form
  obtain ⟨a2, c2, rfl, _⟩ := hv.form
  obtain ⟨a3, c3, rfl, _⟩ := hg.form
  obtain ⟨a4, c4, rfl, _⟩ := hl.form
  refine (law_walk (ChooseEnough_walk a1 a2 a3 a4 c1 c2 c3 c4 nums vs gs ls w8 (ph W) hn hv hg hl (bounds_u8 w0))).mono fun e W' ⟨he, hb⟩ => ?_
  subst he
  exact ⟨_, rfl, law_post laid_out (by kernel_rfl) rfl rfl Try.underlying4 hW' hA' hp rfl hb⟩
theorem ChooseEnough_holds : Rows.ChooseEnoughSaid := OpenClaim.holds_of_wide 6 Try.f6 rfl rfl rfl rfl rfl rfl rfl ⟨rfl, rfl, rfl, rfl, rfl⟩ rfl rfl rfl rfl rfl (by kernel_rfl) Try.func6 (by kernel_rfl) (of_decide_eq_true (by kernel_rfl)) (by unfold Func.isWrapper; first | (rw [if_pos (by decide +kernel)]; kernel_rfl) | (rw [if_neg (by decide +kernel)]; exact ⟨rfl, rfl⟩)) (fun os started H enc _ => ChooseEnough_lifted os started H enc)
#print axioms ChooseEnough_holds
end Go.Proofs.Ytdoaloimndehbaa
