/-
  What the document fixes of choices, walked. No condition.
-/
import Derived.Test.YtdoaloimndehbaaHj
namespace Go.Proofs.Ytdoaloimndehbaa
open Go.RowKit
set_option maxRecDepth 100000
def ent1 : EntX := ((4, 1, 1, [97], 0, 0, [], ()), 0, ())
def pt0 : PtX := (0, z32, ())
def pr1 : PrX := (1, 0, [ent1], ())
def sg1 (k : Nat) : SgX := ((k : Int), (2, 0, [pt0], [], [], ()), ())
def sg2 (qs rs : List PrX) (k : Nat) : SgX := ((k : Int), (2, 0, [pt0], qs, rs, ()), ())
def sgs (n : Nat) : List SgX := (List.range n).map sg1
theorem elSg : Elem Try.prog 48 55 6 96 (.agg zSg.toArray) := ⟨rfl, ⟨_, rfl, rfl, rfl, rfl, rfl, by decide⟩, rfl, rfl⟩
theorem ent1_rep (F : PH) : tyEn.rep F ent1 (enC ent1) := by
  refine ⟨coC ent1.1, [.int .u32 0], rfl, ?_, [.int .u32 0], [], rfl, ⟨rfl, by decide⟩, rfl⟩
  exact ⟨[.int .i64 4], _, rfl, ⟨rfl, by decide⟩, [.int .i64 1], _, rfl, ⟨rfl, by decide⟩, [.int .i64 1], _, rfl, ⟨rfl, by decide⟩, [.string (strOf [97])], _, rfl, ⟨rfl, by decide⟩, [.int .i64 0], _, rfl, ⟨rfl, by decide⟩, [.int .i64 0], _, rfl, ⟨rfl, by decide⟩, [.string (strOf [])], [], rfl, ⟨rfl, by decide⟩, rfl⟩
theorem choose0 : chooseP (sgs 3) = some (pt0, []) := by kernel_rfl
theorem choose1 : chooseP [sg2 [pr1] [pr1] 0, sg2 [] [pr1] 1, sg2 [] [] 2] = some (pt0, [[ent1]]) := by kernel_rfl
theorem choose2 : chooseP [sg2 [pr1] [pr1] 0, sg2 [] [pr1] 1] = none := by kernel_rfl
/-- A block that was just made, kept for good, is a row of one. -/
theorem row_one {P : Program} {e : TypeId} {α : Type} {te : Ty P e α} {F : PH} {b : Nat} {x : α} {cs : List Value} (h : Cells F b 0 cs) (hr : te.rep F x cs) : RowB te F (.slice (some ⟨b, 0, none⟩) 1 1) [x] := by
  refine ⟨⟨[cs], ⟨?_, _, 1, rfl, Nat.le_refl _, fun _ => ⟨b, 0, rfl, ?_⟩⟩, .cons hr .nil⟩, by rw [List.length_singleton]; unfold maxLen; decide⟩
  · simp [te.len hr]
  · simpa using h
theorem SliceV.fst6 {F : PH} {a : Option Addr} {n c size : Nat} {css : List (List Value)} (h : SliceV F size (.slice a n c) n css.flatten) (i : Nat) (hi : i ≤ n) (hs : (css.take i).flatten = css.flatten.take (i * size) := by rfl) : SliceV F size (.slice a i c) i (css.take i).flatten := by
  rw [hs]
  obtain ⟨hl, a', c', e, hc, h0⟩ := h
  cases e
  refine ⟨?_, a, c, rfl, by omega, fun h => ?_⟩
  · rw [List.length_take, hl]
    exact Nat.min_eq_left (Nat.mul_le_mul_right _ hi)
  · obtain ⟨b, off, rfl, hcc⟩ := h0 (by omega)
    refine ⟨b, off, rfl, ?_⟩
    have e := List.take_append_drop (i * size) css.flatten
    rw [← e] at hcc
    exact hcc.left
def row2 (p0 q0 p1 q1 p2 q2 r2 a b : Value) : List Value := [.int .i64 (0 : Nat), .int .i64 2, .int .i64 0, p0, q0, a, .int .i64 (1 : Nat), .int .i64 2, .int .i64 0, p1, q1, b, .int .i64 (2 : Nat), .int .i64 2, .int .i64 0, p2, q2, r2]
set_option maxHeartbeats 16000000 in
theorem fixed26 (F : PH) : Spec Try.prog 24 [] F [] fun u _ H' => u = .bool true ∧ H' = [] := by
  refine Spec.of0 Try.func24 rfl fun X w0 => ?_
  repeat (first|refine zJ rfl rfl ?_|refine jr rfl ?_|refine jn ?_|refine zM rfl rfl ?_|(refine zC rfl rfl ?_ rfl ?_;omega)|(refine zD rfl rfl ?_ rfl ?_;omega)|(refine zP rfl ?_ rfl ?_;omega)|refine zG rfl rfl rfl rfl ?_|(refine jdq rfl rfl ?_ ?_ ?_;kernel_rfl;kernel_rfl)|refine zB rfl rfl rfl (by repeat constructor) rfl ?_|refine zH .here rfl rfl rfl rfl ?_|refine zH (.there .here) rfl rfl rfl rfl ?_|refine zH (.there (.there .here)) rfl rfl rfl rfl ?_)
  refine oE (ev_buildSlice (E := 101) (zs := zEt) (t := enC ent1) rfl rfl rfl rfl rfl rfl (.cons .agg rfl (by repeat constructor) .nil)) rfl ?_
  rintro _ _ _ _ ⟨rfl, bb, rfl, rfl⟩
  refine oPersist fun hh hA hd => ?_
  have hbc := blk_cells hA hd
  have hF1 := PH.le_l F hh
  generalize F.un hh = F1 at *
  have hb := row_one (te := tyEn) hbc (ent1_rep F1)
  repeat (first|refine zJ rfl rfl ?_|refine jr rfl ?_|refine jn ?_|refine zM rfl rfl ?_|(refine zC rfl rfl ?_ rfl ?_;omega)|(refine zD rfl rfl ?_ rfl ?_;omega)|(refine zP rfl ?_ rfl ?_;omega)|refine zG rfl rfl rfl rfl ?_|(refine jdq rfl rfl ?_ ?_ ?_;kernel_rfl;kernel_rfl)|refine zB rfl rfl rfl (by repeat constructor) rfl ?_|refine zH .here rfl rfl rfl rfl ?_|refine zH (.there .here) rfl rfl rfl rfl ?_|refine zH (.there (.there .here)) rfl rfl rfl rfl ?_)
  refine J_own_nil 55 6 ?_
  refine J_loop4 (fun (i : Nat) (G : PH) (v : Value) (css : List (List Value)) => i ≤ 3 ∧ F1.le G ∧ All2 (tySg.rep G) (sgs i) css) (fun i _ _ _ => 3 - i) (fun i _ v _ => [(1, v), (2, .slice (some ⟨bb, 0, none⟩) 1 1), (14, .int .i64 i)]) (fun _ G _ _ => G) (fun i _ v css => own v 55 6 i css.flatten :: X) 0 F1 (.slice none 0 0) []
    ⟨by omega, PH.ler _, .nil⟩ ⟨⟨rfl, rfl, rfl, trivial⟩, fun _ h => h⟩ ?_
  rintro i G v css ⟨hi, hG, hall⟩
  by_cases hi3 : i < 3
  · refine jOwn .here fun av kv hv _ _ _ => ?_
    subst hv
    repeat (first|refine zJ rfl rfl ?_|refine jr rfl ?_|refine jn ?_|refine zM rfl rfl ?_|(refine zC rfl rfl ?_ rfl ?_;omega)|(refine zD rfl rfl ?_ rfl ?_;omega)|(refine zP rfl ?_ rfl ?_;omega)|refine zG rfl rfl rfl rfl ?_|(refine jdq rfl rfl ?_ ?_ ?_;kernel_rfl;kernel_rfl)|refine zB rfl rfl rfl (by repeat constructor) rfl ?_|refine zH .here rfl rfl rfl rfl ?_|refine zH (.there .here) rfl rfl rfl rfl ?_|refine zH (.there (.there .here)) rfl rfl rfl rfl ?_)
    refine oE (ev_buildSlice (E := 60) (zs := ptC 0 z32) (t := ptC 0 z32) rfl rfl rfl rfl rfl rfl (.cons .agg rfl (lay_all (vs := ptC 0 z32) (zs := ptC 0 z32) rfl) .nil)) rfl ?_
    rintro _ _ _ _ ⟨rfl, bp, rfl, rfl⟩
    refine oPersist fun hh hA hd => ?_
    have hpc := blk_cells hA hd
    have hF2 := PH.le_l G hh
    generalize G.un hh = G1 at *
    have hp := row_one (te := tyPt) hpc (pt_mk G1 0 z32 (by decide) rfl)
    repeat (first|refine zJ rfl rfl ?_|refine jr rfl ?_|refine jn ?_|refine zM rfl rfl ?_|(refine zC rfl rfl ?_ rfl ?_;omega)|(refine zD rfl rfl ?_ rfl ?_;omega)|(refine zP rfl ?_ rfl ?_;omega)|refine zG rfl rfl rfl rfl ?_|(refine jdq rfl rfl ?_ ?_ ?_;kernel_rfl;kernel_rfl)|refine zB rfl rfl rfl (by repeat constructor) rfl ?_|refine zH .here rfl rfl rfl rfl ?_|refine zH (.there .here) rfl rfl rfl rfl ?_|refine zH (.there (.there .here)) rfl rfl rfl rfl ?_)
    refine oA (vs := [.int .i64 i, .int .i64 2, .int .i64 0, .slice (some ⟨bp, 0, none⟩) 1 1, .slice none 0 0, .slice none 0 0]) (K := fun v' => own v' 55 6 (i + 1) (css.flatten ++ [.int .i64 i, .int .i64 2, .int .i64 0, .slice (some ⟨bp, 0, none⟩) 1 1, .slice none 0 0, .slice none 0 0]) :: X) (fun _ => rfl) rfl .agg rfl elSg (by (repeat (first | exact ones_nil | refine ones_cons rfl ?_))) (by omega) (fun _ => .here) rfl (fun _ => rfl) fun u w => ?_
    repeat (first|refine zJ rfl rfl ?_|refine jr rfl ?_|refine jn ?_|refine zM rfl rfl ?_|(refine zC rfl rfl ?_ rfl ?_;omega)|(refine zD rfl rfl ?_ rfl ?_;omega)|(refine zP rfl ?_ rfl ?_;omega)|refine zG rfl rfl rfl rfl ?_|(refine jdq rfl rfl ?_ ?_ ?_;kernel_rfl;kernel_rfl)|refine zB rfl rfl rfl (by repeat constructor) rfl ?_|refine zH .here rfl rfl rfl rfl ?_|refine zH (.there .here) rfl rfl rfl rfl ?_|refine zH (.there (.there .here)) rfl rfl rfl rfl ?_)
    refine J_again4 (i + 1) G1 u (css ++ [[.int .i64 i, .int .i64 2, .int .i64 0, .slice (some ⟨bp, 0, none⟩) 1 1, .slice none 0 0, .slice none 0 0]]) ⟨hi3, hG.trans hF2, ?_⟩ (by omega) ⟨⟨rfl, rfl, rfl, trivial⟩, fun w s => ?_⟩
    · have e : sgs (i + 1) = sgs i ++ [sg1 i] := by unfold sgs; rw [List.range_succ, List.map_append]; rfl
      rw [e]
      exact (hall.mono fun _ _ hr => tySg.mono hF2 hr).snoc (sg_mk (by dsimp only [InK]; omega) (ch_mk (by decide) (by decide) hp RowB.nil RowB.nil))
    · rw [List.flatten_append]
      exact s
  · obtain rfl : i = 3 := by omega
    have hk : ∀ (k : Nat) (c : List Value), css[k]? = some c → ∃ p q r, c = [.int .i64 k, .int .i64 2, .int .i64 0, p, q, r] ∧ RowB tyPt G p [pt0] ∧ RowB tyPr G q [] ∧ RowB tyPr G r [] := by
      intro k c hc
      have hlen : (sgs 3).length = css.length := hall.len1
      have hkl : k < (sgs 3).length := by rw [hlen]; exact (List.getElem?_eq_some_iff.1 hc).1
      obtain ⟨y, hy, hr⟩ := hall.at (List.getElem?_eq_getElem hkl)
      rw [hc] at hy
      cases hy
      have hs : (sgs 3)[k] = sg1 k := by simp [sgs]
      rw [hs] at hr
      obtain ⟨cs', rfl, _, hch⟩ := sg_of hr
      obtain ⟨vp, vq, vr, rfl, _, _, h1, h2, h3⟩ := ch_of hch
      exact ⟨vp, vq, vr, rfl, h1, h2, h3⟩
    have hlen : css.length = 3 := hall.len1.symm
    obtain ⟨c0, c1, c2, rfl⟩ : ∃ a b c, css = [a, b, c] := by
      match css, hlen with
      | [a, b, c], _ => exact ⟨a, b, c, rfl⟩
    obtain ⟨p0, q0, r0, rfl, hp0, hq0, hr0⟩ := hk 0 c0 rfl
    obtain ⟨p1, q1, r1, rfl, hp1, hq1, hr1⟩ := hk 1 c1 rfl
    obtain ⟨p2, q2, r2, rfl, hp2, hq2, hr2⟩ := hk 2 c2 rfl
    clear hk
    refine jWith .here (fun h' ho => own_form ho (by omega)) fun ⟨g, kc, he, hkc3⟩ => ?_
    subst he
    repeat (first|refine zJ rfl rfl ?_|refine jr rfl ?_|refine jn ?_|refine zM rfl rfl ?_|(refine zC rfl rfl ?_ rfl ?_;omega)|(refine zD rfl rfl ?_ rfl ?_;omega)|(refine zP rfl ?_ rfl ?_;omega)|refine zG rfl rfl rfl rfl ?_|(refine jdq rfl rfl ?_ ?_ ?_;kernel_rfl;kernel_rfl)|refine zB rfl rfl rfl (by repeat constructor) rfl ?_|refine zH .here rfl rfl rfl rfl ?_|refine zH (.there .here) rfl rfl rfl rfl ?_|refine zH (.there (.there .here)) rfl rfl rfl rfl ?_)
    refine oPersist fun hh hA hd => ?_
    have hrow := row_own (te := tySg) hA hd hall rfl
    have hF3 := PH.le_l G hh
    have hF3r := PH.le_r hd
    generalize hG1 : G.un hh = G1 at *
    refine oC (Hc := []) (Hr := X) (choose_spec _ (sgs 3) G1 ⟨hrow, by decide⟩ (fun s hs p hp => by
      obtain ⟨k, _, rfl⟩ := List.mem_map.1 hs
      cases hp)) Try.call27 rfl rfl (fun _ s => s) ?_
    rintro u1 G2 _ hF4 ⟨rfl, hres⟩
    rw [choose0] at hres
    obtain ⟨_, bv, rfl, hbv⟩ := hres
    obtain ⟨ba, bk, rfl, _⟩ := hbv.form
    refine oW (F' := PH.sub G2 hh) (H' := own (.slice (some ⟨g, 0, none⟩) 3 kc) 55 6 3 _ :: X) ?_ (fun w s => Sat.takeBack hA (hF3r.trans hF4) s)
    have hGs : G.le (PH.sub G2 hh) := PH.le_sub (hF3.trans hF4) hd
    generalize PH.sub G2 hh = G3 at *
    have hb3 := hb.mono (hG.trans hGs)
    repeat (first|refine zJ rfl rfl ?_|refine jr rfl ?_|refine jn ?_|refine zM rfl rfl ?_|(refine zC rfl rfl ?_ rfl ?_;omega)|(refine zD rfl rfl ?_ rfl ?_;omega)|(refine zP rfl ?_ rfl ?_;omega)|refine zG rfl rfl rfl rfl ?_|(refine jdq rfl rfl ?_ ?_ ?_;kernel_rfl;kernel_rfl)|refine zB rfl rfl rfl (by repeat constructor) rfl ?_|refine zH .here rfl rfl rfl rfl ?_|refine zH (.there .here) rfl rfl rfl rfl ?_|refine zH (.there (.there .here)) rfl rfl rfl rfl ?_)
    refine oE (ev_alloc (cs := zCho) rfl) rfl ?_
    rintro _ _ _ _ ⟨rfl, b4, rfl, rfl⟩
    refine oN (ev_store (b := b4) (vs := choC 0 z32 (.slice ba ([] : List (List EntX)).length bk)) rfl rfl .agg rfl (choC_len rfl) (lay_all (zs := zCho) (choC_len rfl)) (choC_ones rfl) .here) rfl ?_
    rintro _ _ _ _ ⟨rfl, _, rfl⟩
    repeat (first|refine zJ rfl rfl ?_|refine jr rfl ?_|refine jn ?_|refine zM rfl rfl ?_|(refine zC rfl rfl ?_ rfl ?_;omega)|(refine zD rfl rfl ?_ rfl ?_;omega)|(refine zP rfl ?_ rfl ?_;omega)|refine zG rfl rfl rfl rfl ?_|(refine jdq rfl rfl ?_ ?_ ?_;kernel_rfl;kernel_rfl)|refine zB rfl rfl rfl (by repeat constructor) rfl ?_|refine zH .here rfl rfl rfl rfl ?_|refine zH (.there .here) rfl rfl rfl rfl ?_|refine zH (.there (.there .here)) rfl rfl rfl rfl ?_)
    refine J_loop3 (fun (i : Nat) (G : PH) (qs : List Value) => i ≤ 2 ∧ G3.le G ∧ qs.length = i ∧ ∀ q ∈ qs, RowB tyPr G q [pr1]) (fun i _ _ => 2 - i) (fun i _ _ => [(1, .slice (some ⟨g, 0, none⟩) 3 kc), (2, .slice (some ⟨bb, 0, none⟩) 1 1), (4, .pointer (some ⟨b4, 0, none⟩)), (5, .int .i64 0), (31, .int .i64 i)]) (fun _ G _ => G)
      (fun _ _ qs => blk b4 63 (choC 0 z32 (.slice ba ([] : List (List EntX)).length bk)) :: own (.slice (some ⟨g, 0, none⟩) 3 kc) 55 6 3 (row2 p0 q0 p1 q1 p2 q2 r2 (qs.getD 0 r0) (qs.getD 1 r1)) :: X) 0 G3 []
      ⟨by omega, PH.ler _, rfl, fun _ h => by cases h⟩ ⟨⟨rfl, rfl, rfl, rfl, rfl, trivial⟩, fun _ h => h⟩ ?_
    rintro i G4 qs ⟨hi, hG4, hqs, hqr⟩
    by_cases hi2 : i < 2
    · have hb4 := hb3.mono hG4
      rcases (show i = 0 ∨ i = 1 by omega) with rfl | rfl
      · obtain rfl := List.eq_nil_of_length_eq_zero hqs
        repeat (first|refine zJ rfl rfl ?_|refine jr rfl ?_|refine jn ?_|refine zM rfl rfl ?_|(refine zC rfl rfl ?_ rfl ?_;omega)|(refine zD rfl rfl ?_ rfl ?_;omega)|(refine zP rfl ?_ rfl ?_;omega)|refine zG rfl rfl rfl rfl ?_|(refine jdq rfl rfl ?_ ?_ ?_;kernel_rfl;kernel_rfl)|refine zB rfl rfl rfl (by repeat constructor) rfl ?_|refine zH .here rfl rfl rfl rfl ?_|refine zH (.there .here) rfl rfl rfl rfl ?_|refine zH (.there (.there .here)) rfl rfl rfl rfl ?_)
        refine oE (ev_buildSlice (E := 58) (zs := zPr) (t := prC 1 0 (.slice (some ⟨bb, 0, none⟩) 1 1)) rfl rfl rfl rfl rfl rfl (.cons .agg rfl (by repeat constructor) .nil)) rfl ?_
        rintro _ _ _ _ ⟨rfl, bq, rfl, rfl⟩
        refine oPersist fun hh2 hA2 hd2 => ?_
        have hqc := blk_cells hA2 hd2
        have hF5 := PH.le_l G4 hh2
        generalize G4.un hh2 = G5 at *
        have hq := row_one (te := tyPr) hqc (pr_mk (by decide) (by decide) (hb4.mono hF5))
        repeat (first|refine zJ rfl rfl ?_|refine jr rfl ?_|refine jn ?_|refine zM rfl rfl ?_|(refine zC rfl rfl ?_ rfl ?_;omega)|(refine zD rfl rfl ?_ rfl ?_;omega)|(refine zP rfl ?_ rfl ?_;omega)|refine zG rfl rfl rfl rfl ?_|(refine jdq rfl rfl ?_ ?_ ?_;kernel_rfl;kernel_rfl)|refine zB rfl rfl rfl (by repeat constructor) rfl ?_|refine zH .here rfl rfl rfl rfl ?_|refine zH (.there .here) rfl rfl rfl rfl ?_|refine zH (.there (.there .here)) rfl rfl rfl rfl ?_)
        refine oS (ev_indexAddr (i := 0) rfl rfl rfl (by decide)) rfl ?_
        repeat (first|refine zJ rfl rfl ?_|refine jr rfl ?_|refine jn ?_|refine zM rfl rfl ?_|(refine zC rfl rfl ?_ rfl ?_;omega)|(refine zD rfl rfl ?_ rfl ?_;omega)|(refine zP rfl ?_ rfl ?_;omega)|refine zG rfl rfl rfl rfl ?_|(refine jdq rfl rfl ?_ ?_ ?_;kernel_rfl;kernel_rfl)|refine zB rfl rfl rfl (by repeat constructor) rfl ?_|refine zH .here rfl rfl rfl rfl ?_|refine zH (.there .here) rfl rfl rfl rfl ?_|refine zH (.there (.there .here)) rfl rfl rfl rfl ?_)
        refine oN (ev_store_own (ys := row2 p0 q0 p1 q1 p2 q2 r2 (.slice (some ⟨bq, 0, none⟩) 1 1) r1) rfl rfl .slice rfl rfl (.skip (.skip (.skip (.skip (.skip (.put .nil)))))) (ones_cons rfl ones_nil) (.there .here)) rfl ?_
        rintro _ _ _ _ ⟨rfl, _, rfl⟩
        repeat (first|refine zJ rfl rfl ?_|refine jr rfl ?_|refine jn ?_|refine zM rfl rfl ?_|(refine zC rfl rfl ?_ rfl ?_;omega)|(refine zD rfl rfl ?_ rfl ?_;omega)|(refine zP rfl ?_ rfl ?_;omega)|refine zG rfl rfl rfl rfl ?_|(refine jdq rfl rfl ?_ ?_ ?_;kernel_rfl;kernel_rfl)|refine zB rfl rfl rfl (by repeat constructor) rfl ?_|refine zH .here rfl rfl rfl rfl ?_|refine zH (.there .here) rfl rfl rfl rfl ?_|refine zH (.there (.there .here)) rfl rfl rfl rfl ?_)
        refine J_again3 1 G5 [.slice (some ⟨bq, 0, none⟩) 1 1] ⟨by omega, hG4.trans hF5, rfl, fun q h => by rw [List.mem_singleton] at h; subst h; exact hq⟩ (by omega) ⟨⟨rfl, rfl, rfl, rfl, rfl, trivial⟩, fun w s => s⟩
      · obtain ⟨qa, rfl⟩ := List.length_eq_one_iff.1 hqs
        repeat (first|refine zJ rfl rfl ?_|refine jr rfl ?_|refine jn ?_|refine zM rfl rfl ?_|(refine zC rfl rfl ?_ rfl ?_;omega)|(refine zD rfl rfl ?_ rfl ?_;omega)|(refine zP rfl ?_ rfl ?_;omega)|refine zG rfl rfl rfl rfl ?_|(refine jdq rfl rfl ?_ ?_ ?_;kernel_rfl;kernel_rfl)|refine zB rfl rfl rfl (by repeat constructor) rfl ?_|refine zH .here rfl rfl rfl rfl ?_|refine zH (.there .here) rfl rfl rfl rfl ?_|refine zH (.there (.there .here)) rfl rfl rfl rfl ?_)
        refine oE (ev_buildSlice (E := 58) (zs := zPr) (t := prC 1 0 (.slice (some ⟨bb, 0, none⟩) 1 1)) rfl rfl rfl rfl rfl rfl (.cons .agg rfl (by repeat constructor) .nil)) rfl ?_
        rintro _ _ _ _ ⟨rfl, bq, rfl, rfl⟩
        refine oPersist fun hh2 hA2 hd2 => ?_
        have hqc := blk_cells hA2 hd2
        have hF5 := PH.le_l G4 hh2
        generalize G4.un hh2 = G5 at *
        have hq := row_one (te := tyPr) hqc (pr_mk (by decide) (by decide) (hb4.mono hF5))
        repeat (first|refine zJ rfl rfl ?_|refine jr rfl ?_|refine jn ?_|refine zM rfl rfl ?_|(refine zC rfl rfl ?_ rfl ?_;omega)|(refine zD rfl rfl ?_ rfl ?_;omega)|(refine zP rfl ?_ rfl ?_;omega)|refine zG rfl rfl rfl rfl ?_|(refine jdq rfl rfl ?_ ?_ ?_;kernel_rfl;kernel_rfl)|refine zB rfl rfl rfl (by repeat constructor) rfl ?_|refine zH .here rfl rfl rfl rfl ?_|refine zH (.there .here) rfl rfl rfl rfl ?_|refine zH (.there (.there .here)) rfl rfl rfl rfl ?_)
        refine oS (ev_indexAddr (i := 1) rfl rfl rfl (by decide)) rfl ?_
        repeat (first|refine zJ rfl rfl ?_|refine jr rfl ?_|refine jn ?_|refine zM rfl rfl ?_|(refine zC rfl rfl ?_ rfl ?_;omega)|(refine zD rfl rfl ?_ rfl ?_;omega)|(refine zP rfl ?_ rfl ?_;omega)|refine zG rfl rfl rfl rfl ?_|(refine jdq rfl rfl ?_ ?_ ?_;kernel_rfl;kernel_rfl)|refine zB rfl rfl rfl (by repeat constructor) rfl ?_|refine zH .here rfl rfl rfl rfl ?_|refine zH (.there .here) rfl rfl rfl rfl ?_|refine zH (.there (.there .here)) rfl rfl rfl rfl ?_)
        refine oN (ev_store_own (ys := row2 p0 q0 p1 q1 p2 q2 r2 qa (.slice (some ⟨bq, 0, none⟩) 1 1)) rfl rfl .slice rfl rfl (.skip (.skip (.skip (.skip (.skip (.skip (.skip (.skip (.skip (.skip (.skip (.put .nil)))))))))))) (ones_cons rfl ones_nil) (.there .here)) rfl ?_
        rintro _ _ _ _ ⟨rfl, _, rfl⟩
        repeat (first|refine zJ rfl rfl ?_|refine jr rfl ?_|refine jn ?_|refine zM rfl rfl ?_|(refine zC rfl rfl ?_ rfl ?_;omega)|(refine zD rfl rfl ?_ rfl ?_;omega)|(refine zP rfl ?_ rfl ?_;omega)|refine zG rfl rfl rfl rfl ?_|(refine jdq rfl rfl ?_ ?_ ?_;kernel_rfl;kernel_rfl)|refine zB rfl rfl rfl (by repeat constructor) rfl ?_|refine zH .here rfl rfl rfl rfl ?_|refine zH (.there .here) rfl rfl rfl rfl ?_|refine zH (.there (.there .here)) rfl rfl rfl rfl ?_)
        refine J_again3 2 G5 [qa, .slice (some ⟨bq, 0, none⟩) 1 1] ⟨by omega, hG4.trans hF5, rfl, fun q h => ?_⟩ (by omega) ⟨⟨rfl, rfl, rfl, rfl, rfl, trivial⟩, fun w s => s⟩
        rcases List.mem_cons.1 h with rfl | h
        · exact (hqr _ (by simp)).mono hF5
        · rw [List.mem_singleton] at h
          subst h
          exact hq
    · obtain rfl : i = 2 := by omega
      obtain ⟨qa, qb, rfl⟩ : ∃ a b, qs = [a, b] := by
        match qs, hqs with
        | [a, b], _ => exact ⟨a, b, rfl⟩
      have hqa := hqr qa (by simp)
      have hqb := hqr qb (by simp)
      clear hqr
      repeat (first|refine zJ rfl rfl ?_|refine jr rfl ?_|refine jn ?_|refine zM rfl rfl ?_|(refine zC rfl rfl ?_ rfl ?_;omega)|(refine zD rfl rfl ?_ rfl ?_;omega)|(refine zP rfl ?_ rfl ?_;omega)|refine zG rfl rfl rfl rfl ?_|(refine jdq rfl rfl ?_ ?_ ?_;kernel_rfl;kernel_rfl)|refine zB rfl rfl rfl (by repeat constructor) rfl ?_|refine zH .here rfl rfl rfl rfl ?_|refine zH (.there .here) rfl rfl rfl rfl ?_|refine zH (.there (.there .here)) rfl rfl rfl rfl ?_)
      refine oS (ev_indexAddr (i := 0) rfl rfl rfl (by decide)) rfl ?_
      repeat (first|refine zJ rfl rfl ?_|refine jr rfl ?_|refine jn ?_|refine zM rfl rfl ?_|(refine zC rfl rfl ?_ rfl ?_;omega)|(refine zD rfl rfl ?_ rfl ?_;omega)|(refine zP rfl ?_ rfl ?_;omega)|refine zG rfl rfl rfl rfl ?_|(refine jdq rfl rfl ?_ ?_ ?_;kernel_rfl;kernel_rfl)|refine zB rfl rfl rfl (by repeat constructor) rfl ?_|refine zH .here rfl rfl rfl rfl ?_|refine zH (.there .here) rfl rfl rfl rfl ?_|refine zH (.there (.there .here)) rfl rfl rfl rfl ?_)
      refine oS (ev_load (v := qa) rfl rfl ((own_rdb (.there .here)).take 5 1)) rfl ?_
      refine oS (ev_indexAddr (i := 0) rfl rfl rfl (by decide)) rfl ?_
      repeat (first|refine zJ rfl rfl ?_|refine jr rfl ?_|refine jn ?_|refine zM rfl rfl ?_|(refine zC rfl rfl ?_ rfl ?_;omega)|(refine zD rfl rfl ?_ rfl ?_;omega)|(refine zP rfl ?_ rfl ?_;omega)|refine zG rfl rfl rfl rfl ?_|(refine jdq rfl rfl ?_ ?_ ?_;kernel_rfl;kernel_rfl)|refine zB rfl rfl rfl (by repeat constructor) rfl ?_|refine zH .here rfl rfl rfl rfl ?_|refine zH (.there .here) rfl rfl rfl rfl ?_|refine zH (.there (.there .here)) rfl rfl rfl rfl ?_)
      obtain ⟨qaa, qak, rfl, _, _⟩ := hqa.form
      refine oN (ev_store_own (ys := row2 p0 (.slice qaa [pr1].length qak) p1 q1 p2 q2 r2 (.slice qaa [pr1].length qak) qb) rfl rfl .slice rfl rfl (.skip (.skip (.skip (.skip (.put .nil))))) (ones_cons rfl ones_nil) (.there .here)) rfl ?_
      rintro _ _ _ _ ⟨rfl, _, rfl⟩
      repeat (first|refine zJ rfl rfl ?_|refine jr rfl ?_|refine jn ?_|refine zM rfl rfl ?_|(refine zC rfl rfl ?_ rfl ?_;omega)|(refine zD rfl rfl ?_ rfl ?_;omega)|(refine zP rfl ?_ rfl ?_;omega)|refine zG rfl rfl rfl rfl ?_|(refine jdq rfl rfl ?_ ?_ ?_;kernel_rfl;kernel_rfl)|refine zB rfl rfl rfl (by repeat constructor) rfl ?_|refine zH .here rfl rfl rfl rfl ?_|refine zH (.there .here) rfl rfl rfl rfl ?_|refine zH (.there (.there .here)) rfl rfl rfl rfl ?_)
      refine oPick (A := own (.slice (some ⟨g, 0, none⟩) 3 kc) 55 6 3 (row2 p0 (.slice qaa [pr1].length qak) p1 q1 p2 q2 r2 (.slice qaa [pr1].length qak) qb)) (.there .here) ?_
      refine oPersist fun hh5 hA5 hd5 => ?_
      have hle := hGs.trans hG4
      have a0 : tySg.rep G4 (sg2 [pr1] [pr1] 0) [.int .i64 (0 : Nat), .int .i64 2, .int .i64 0, p0, .slice qaa [pr1].length qak, .slice qaa [pr1].length qak] := sg_mk (by decide) (ch_mk (by decide) (by decide) (hp0.mono hle) hqa hqa)
      have a1 : tySg.rep G4 (sg2 [] [pr1] 1) [.int .i64 (1 : Nat), .int .i64 2, .int .i64 0, p1, q1, qb] := sg_mk (by decide) (ch_mk (by decide) (by decide) (hp1.mono hle) (hq1.mono hle) hqb)
      have a2 : tySg.rep G4 (sg2 [] [] 2) [.int .i64 (2 : Nat), .int .i64 2, .int .i64 0, p2, q2, r2] := sg_mk (by decide) (ch_mk (by decide) (by decide) (hp2.mono hle) (hq2.mono hle) (hr2.mono hle))
      have hrow2 := row_own (te := tySg) (css := [[.int .i64 (0 : Nat), .int .i64 2, .int .i64 0, p0, .slice qaa [pr1].length qak, .slice qaa [pr1].length qak], [.int .i64 (1 : Nat), .int .i64 2, .int .i64 0, p1, q1, qb], [.int .i64 (2 : Nat), .int .i64 2, .int .i64 0, p2, q2, r2]]) hA5 hd5 (.cons a0 (.cons a1 (.cons a2 .nil))) rfl
      have hsv := own_slice hA5 hd5
      have hF6 := PH.le_l G4 hh5
      generalize G4.un hh5 = G5 at *
      have hpre : RowV tySg G5 (.slice (some ⟨g, 0, none⟩) 2 kc) [sg2 [pr1] [pr1] 0, sg2 [] [pr1] 1] :=
        ⟨[[.int .i64 (0 : Nat), .int .i64 2, .int .i64 0, p0, .slice qaa [pr1].length qak, .slice qaa [pr1].length qak], [.int .i64 (1 : Nat), .int .i64 2, .int .i64 0, p1, q1, qb]], SliceV.fst6 (size := 6) (n := 3) (css := [[.int .i64 (0 : Nat), .int .i64 2, .int .i64 0, p0, .slice qaa [pr1].length qak, .slice qaa [pr1].length qak], [.int .i64 (1 : Nat), .int .i64 2, .int .i64 0, p1, q1, qb], [.int .i64 (2 : Nat), .int .i64 2, .int .i64 0, p2, q2, r2]]) hsv 2 (by decide), .cons (tySg.mono hF6 a0) (.cons (tySg.mono hF6 a1) .nil)⟩
      have hb5 := (hb3.mono hG4).mono hF6
      have hkc : 3 ≤ kc := hkc3
      refine oC (Hc := []) (Hr := blk b4 63 (choC 0 z32 (.slice ba ([] : List (List EntX)).length bk)) :: X) (choose_spec _ [sg2 [pr1] [pr1] 0, sg2 [] [pr1] 1, sg2 [] [] 2] G5 ⟨hrow2, by decide⟩ (by unfold Few10; decide)) Try.call27 rfl rfl (fun _ s => s) ?_
      rintro u2 G6 _ hF7 ⟨rfl, hres⟩
      rw [choose1] at hres
      obtain ⟨_, bv2, rfl, hbv2⟩ := hres
      obtain ⟨ba2, bk2, rfl, _⟩ := hbv2.form
      repeat (first|refine zJ rfl rfl ?_|refine jr rfl ?_|refine jn ?_|refine zM rfl rfl ?_|(refine zC rfl rfl ?_ rfl ?_;omega)|(refine zD rfl rfl ?_ rfl ?_;omega)|(refine zP rfl ?_ rfl ?_;omega)|refine zG rfl rfl rfl rfl ?_|(refine jdq rfl rfl ?_ ?_ ?_;kernel_rfl;kernel_rfl)|refine zB rfl rfl rfl (by repeat constructor) rfl ?_|refine zH .here rfl rfl rfl rfl ?_|refine zH (.there .here) rfl rfl rfl rfl ?_|refine zH (.there (.there .here)) rfl rfl rfl rfl ?_)
      refine oE (ev_alloc (cs := zCho) rfl) rfl ?_
      rintro _ _ _ _ ⟨rfl, b7, rfl, rfl⟩
      refine oN (ev_store (b := b7) (vs := choC 0 z32 (.slice ba2 [[ent1]].length bk2)) rfl rfl .agg rfl (choC_len rfl) (lay_all (zs := zCho) (choC_len rfl)) (choC_ones rfl) .here) rfl ?_
      rintro _ _ _ _ ⟨rfl, _, rfl⟩
      repeat (first|refine zJ rfl rfl ?_|refine jr rfl ?_|refine jn ?_|refine zM rfl rfl ?_|(refine zC rfl rfl ?_ rfl ?_;omega)|(refine zD rfl rfl ?_ rfl ?_;omega)|(refine zP rfl ?_ rfl ?_;omega)|refine zG rfl rfl rfl rfl ?_|(refine jdq rfl rfl ?_ ?_ ?_;kernel_rfl;kernel_rfl)|refine zB rfl rfl rfl (by repeat constructor) rfl ?_|refine zH .here rfl rfl rfl rfl ?_|refine zH (.there .here) rfl rfl rfl rfl ?_|refine zH (.there (.there .here)) rfl rfl rfl rfl ?_)
      refine oS (ev_slice_hi (h := 2) rfl rfl rfl (by omega)) rfl ?_
      refine oC (Hc := []) (Hr := blk b7 63 (choC 0 z32 (.slice ba2 [[ent1]].length bk2)) :: blk b4 63 (choC 0 z32 (.slice ba ([] : List (List EntX)).length bk)) :: X) (choose_spec _ [sg2 [pr1] [pr1] 0, sg2 [] [pr1] 1] G6 ⟨hpre.mono hF7, by decide⟩ (by unfold Few10; decide)) Try.call27 rfl rfl (fun _ s => s) ?_
      rintro u3 G7 _ hF8 ⟨rfl, hres⟩
      rw [choose2] at hres
      subst hres
      have hb7 := (hb5.mono hF7).mono hF8
      obtain ⟨bx, ox, cx, hbo, hcx, ⟨vx, rfl, hvx, hvxm⟩, _⟩ := (hbv2.1.mono hF8).at (i := 0) rfl
      subst hbo
      have hsm := rsame_spec vx (.slice (some ⟨bb, 0, none⟩) 1 1) [ent1] [ent1] G7 ⟨hvx, hvxm⟩ hb7
      rw [show sameE [ent1] [ent1] = true from by kernel_rfl] at hsm
      repeat (first|refine zJ rfl rfl ?_|refine jr rfl ?_|refine jn ?_|refine zM rfl rfl ?_|(refine zC rfl rfl ?_ rfl ?_;omega)|(refine zD rfl rfl ?_ rfl ?_;omega)|(refine zP rfl ?_ rfl ?_;omega)|refine zG rfl rfl rfl rfl ?_|(refine jdq rfl rfl ?_ ?_ ?_;kernel_rfl;kernel_rfl)|refine zB rfl rfl rfl (by repeat constructor) rfl ?_|refine zH .here rfl rfl rfl rfl ?_|refine zH (.there .here) rfl rfl rfl rfl ?_|refine zH (.there (.there .here)) rfl rfl rfl rfl ?_)
      refine oE (ev_alloc (cs := zCho) rfl) rfl ?_
      rintro _ _ _ _ ⟨rfl, b9, rfl, rfl⟩
      refine oN (ev_store (b := b9) (vs := zCho) rfl rfl .agg rfl (choC_len rfl) (lay_all (zs := zCho) (choC_len rfl)) (choC_ones rfl) .here) rfl ?_
      rintro _ _ _ _ ⟨rfl, _, rfl⟩
      repeat (first|refine zJ rfl rfl ?_|refine jr rfl ?_|refine jn ?_|refine zM rfl rfl ?_|(refine zC rfl rfl ?_ rfl ?_;omega)|(refine zD rfl rfl ?_ rfl ?_;omega)|(refine zP rfl ?_ rfl ?_;omega)|refine zG rfl rfl rfl rfl ?_|(refine jdq rfl rfl ?_ ?_ ?_;kernel_rfl;kernel_rfl)|refine zB rfl rfl rfl (by repeat constructor) rfl ?_|refine zH .here rfl rfl rfl rfl ?_|refine zH (.there .here) rfl rfl rfl rfl ?_|refine zH (.there (.there .here)) rfl rfl rfl rfl ?_)
      refine oS (ev_indexAddr (i := 0) rfl rfl rfl (by decide)) rfl ?_
      refine oS (ev_load (v := vx) rfl rfl (Rdb.ofF hcx)) rfl ?_
      repeat (first|refine zJ rfl rfl ?_|refine jr rfl ?_|refine jn ?_|refine zM rfl rfl ?_|(refine zC rfl rfl ?_ rfl ?_;omega)|(refine zD rfl rfl ?_ rfl ?_;omega)|(refine zP rfl ?_ rfl ?_;omega)|refine zG rfl rfl rfl rfl ?_|(refine jdq rfl rfl ?_ ?_ ?_;kernel_rfl;kernel_rfl)|refine zB rfl rfl rfl (by repeat constructor) rfl ?_|refine zH .here rfl rfl rfl rfl ?_|refine zH (.there .here) rfl rfl rfl rfl ?_|refine zH (.there (.there .here)) rfl rfl rfl rfl ?_)
      refine oP (hsm) Try.call21 rfl rfl ?_
      repeat (first|refine zJ rfl rfl ?_|refine jr rfl ?_|refine jn ?_|refine zM rfl rfl ?_|(refine zC rfl rfl ?_ rfl ?_;omega)|(refine zD rfl rfl ?_ rfl ?_;omega)|(refine zP rfl ?_ rfl ?_;omega)|refine zG rfl rfl rfl rfl ?_|(refine jdq rfl rfl ?_ ?_ ?_;kernel_rfl;kernel_rfl)|refine zB rfl rfl rfl (by repeat constructor) rfl ?_|refine zH .here rfl rfl rfl rfl ?_|refine zH (.there .here) rfl rfl rfl rfl ?_|refine zH (.there (.there .here)) rfl rfl rfl rfl ?_)
      exact J_retv rfl (.tmp rfl .nil) [] (fun w s => s.drop.drop.drop) (hF1.trans (hG.trans (hGs.trans (hG4.trans (hF6.trans (hF7.trans hF8)))))) ⟨rfl, rfl⟩
end Go.Proofs.Ytdoaloimndehbaa
