/-
  What was committed is chosen again (ChooseKeeps). No condition.
-/
import Derived.Test.YtdoaloimndehbaaHk
import Derived.Test.YtdoaloimndehbaaHm
import Derived.Lib.Hide
import Derived.Test.YtdoaloimndehbaaKn
namespace Go.Proofs.Ytdoaloimndehbaa
open Go.RowKit
set_option maxRecDepth 100000
theorem own_knob : ownKnob Try.prog.godebug = none := by kernel_rfl
theorem laid_out : laidOutB Try.prog = true := by kernel_rfl
theorem elPr : Elem Try.prog 51 58 3 40 (.agg zPr.toArray) := ⟨rfl, ⟨_, rfl, rfl, rfl, rfl, rfl, by decide⟩, rfl, rfl⟩
abbrev zChc : List Value := [.int .i64 0, .int .i64 0, .slice none 0 0, .slice none 0 0, .slice none 0 0]
def dflt : ChX := (0, 0, [], [], [], ())
def mks (v : Int) (b : List EntX) (xs : List ChX) (n : Nat) : List SgX := (List.range n).map fun k => mkH v b k (xs.getD k dflt)
theorem mks_succ {v : Int} {b : List EntX} {xs : List ChX} {i : Nat} {c : ChX} (h : xs[i]? = some c) : mks v b xs (i + 1) = mks v b xs i ++ [mkH v b i c] := by
  unfold mks
  rw [List.range_succ, List.map_append]
  simp [List.getD_eq_getElem?_getD, h]
set_option maxHeartbeats 32000000 in
theorem ChooseKeeps_walk (ah al ab : Option Addr) (kh kl kb : Nat) (xs : List ChX) (ls : List SgX) (bs : List EntX) (w8 : Int) (F : PH) (hx : RowV tyCh F (.slice ah xs.length kh) xs) (hl : RowV tySg F (.slice al ls.length kl) ls) (hb : RowV tyEn F (.slice ab bs.length kb) bs) (hw : InK .u8 w8) :
    Spec Try.prog 5 [.slice ah xs.length kh, .slice al ls.length kl, .slice ab bs.length kb, .int .u8 w8] F [] fun u _ H' => u = .bool true ∧ H' = [] := by
  refine Spec.of4 Try.func5 rfl rfl fun X w0 => ?_
  repeat (first|refine zJ rfl rfl ?_|refine jr rfl ?_|refine jn ?_|refine zM rfl rfl ?_|(refine zC rfl rfl ?_ rfl ?_;omega)|(refine zD rfl rfl ?_ rfl ?_;omega)|(refine zP rfl ?_ rfl ?_;omega)|refine zG rfl rfl rfl rfl ?_|(refine jdq rfl rfl ?_ ?_ ?_;kernel_rfl;kernel_rfl)|refine zB rfl rfl rfl (by repeat constructor) rfl ?_|refine zH .here rfl rfl rfl rfl ?_|refine zH (.there .here) rfl rfl rfl rfl ?_|refine zH (.there (.there .here)) rfl rfl rfl rfl ?_)
  refine oC (Hc := []) (Hr := X) (fixed26 F) Try.call24 rfl rfl (fun _ s => s) ?_
  rintro _ F1 _ hF1 ⟨rfl, rfl⟩
  by_cases h3 : xs.length = 3
  rotate_left
  · repeat (first|refine zJ rfl rfl ?_|refine jr rfl ?_|refine jn ?_|refine zM rfl rfl ?_|(refine zC rfl rfl ?_ rfl ?_;omega)|(refine zD rfl rfl ?_ rfl ?_;omega)|(refine zP rfl ?_ rfl ?_;omega)|refine zG rfl rfl rfl rfl ?_|(refine jdq rfl rfl ?_ ?_ ?_;kernel_rfl;kernel_rfl)|refine zB rfl rfl rfl (by repeat constructor) rfl ?_|refine zH .here rfl rfl rfl rfl ?_|refine zH (.there .here) rfl rfl rfl rfl ?_|refine zH (.there (.there .here)) rfl rfl rfl rfl ?_)
    exact J_retv rfl (.tmp rfl .nil) [] (fun w s => s) hF1 ⟨rfl, rfl⟩
  by_cases hl1 : ls.length ≤ 1
  rotate_left
  · repeat (first|refine zJ rfl rfl ?_|refine jr rfl ?_|refine jn ?_|refine zM rfl rfl ?_|(refine zC rfl rfl ?_ rfl ?_;omega)|(refine zD rfl rfl ?_ rfl ?_;omega)|(refine zP rfl ?_ rfl ?_;omega)|refine zG rfl rfl rfl rfl ?_|(refine jdq rfl rfl ?_ ?_ ?_;kernel_rfl;kernel_rfl)|refine zB rfl rfl rfl (by repeat constructor) rfl ?_|refine zH .here rfl rfl rfl rfl ?_|refine zH (.there .here) rfl rfl rfl rfl ?_|refine zH (.there (.there .here)) rfl rfl rfl rfl ?_)
    exact J_retv rfl (.tmp rfl .nil) [] (fun w s => s) hF1 ⟨rfl, rfl⟩
  by_cases hb10 : bs.length ≤ 10
  rotate_left
  · repeat (first|refine zJ rfl rfl ?_|refine jr rfl ?_|refine jn ?_|refine zM rfl rfl ?_|(refine zC rfl rfl ?_ rfl ?_;omega)|(refine zD rfl rfl ?_ rfl ?_;omega)|(refine zP rfl ?_ rfl ?_;omega)|refine zG rfl rfl rfl rfl ?_|(refine jdq rfl rfl ?_ ?_ ?_;kernel_rfl;kernel_rfl)|refine zB rfl rfl rfl (by repeat constructor) rfl ?_|refine zH .here rfl rfl rfl rfl ?_|refine zH (.there .here) rfl rfl rfl rfl ?_|refine zH (.there (.there .here)) rfl rfl rfl rfl ?_)
    exact J_retv rfl (.tmp rfl .nil) [] (fun w s => s) hF1 ⟨rfl, rfl⟩
  have hlB : RowB tySg F1 (.slice al ls.length kl) ls := ⟨hl.mono hF1, by unfold maxLen; omega⟩
  have hbB : RowB tyEn F1 (.slice ab bs.length kb) bs := ⟨hb.mono hF1, by unfold maxLen; omega⟩
  have hx1 := hx.mono hF1
  repeat (first|refine zJ rfl rfl ?_|refine jr rfl ?_|refine jn ?_|refine zM rfl rfl ?_|(refine zC rfl rfl ?_ rfl ?_;omega)|(refine zD rfl rfl ?_ rfl ?_;omega)|(refine zP rfl ?_ rfl ?_;omega)|refine zG rfl rfl rfl rfl ?_|(refine jdq rfl rfl ?_ ?_ ?_;kernel_rfl;kernel_rfl)|refine zB rfl rfl rfl (by repeat constructor) rfl ?_|refine zH .here rfl rfl rfl rfl ?_|refine zH (.there .here) rfl rfl rfl rfl ?_|refine zH (.there (.there .here)) rfl rfl rfl rfl ?_)
  refine oC (Hc := []) (Hr := X) (few_spec _ ls F1 hlB) Try.call25 rfl rfl (fun _ s => s) ?_
  rintro _ F2 _ hF2 ⟨⟨fb, rfl, hfb⟩, rfl⟩
  cases fb with
  | false =>
    repeat (first|refine zJ rfl rfl ?_|refine jr rfl ?_|refine jn ?_|refine zM rfl rfl ?_|(refine zC rfl rfl ?_ rfl ?_;omega)|(refine zD rfl rfl ?_ rfl ?_;omega)|(refine zP rfl ?_ rfl ?_;omega)|refine zG rfl rfl rfl rfl ?_|(refine jdq rfl rfl ?_ ?_ ?_;kernel_rfl;kernel_rfl)|refine zB rfl rfl rfl (by repeat constructor) rfl ?_|refine zH .here rfl rfl rfl rfl ?_|refine zH (.there .here) rfl rfl rfl rfl ?_|refine zH (.there (.there .here)) rfl rfl rfl rfl ?_)
    exact J_retv rfl (.tmp rfl .nil) [] (fun w s => s) (hF1.trans hF2) ⟨rfl, rfl⟩
  | true =>
  have hfl := hfb rfl
  clear hfb
  dsimp only [InK] at hw
  have hx2 := hx1.mono hF2
  have hl2 := hlB.mono hF2
  have hb2 := hbB.mono hF2
  have hFF := hF1.trans hF2
  clear hlB hbB hx1
  obtain ⟨v, hv⟩ : ∃ v : Int, v = w8 % 5 := ⟨_, rfl⟩
  have hv5 : 0 ≤ v ∧ v < 5 := by omega
  repeat (first|refine zJ rfl rfl ?_|refine jr rfl ?_|refine jn ?_|refine zM rfl rfl ?_|(refine zC rfl rfl ?_ rfl ?_;omega)|(refine zD rfl rfl ?_ rfl ?_;omega)|(refine zP rfl ?_ rfl ?_;omega)|refine zG rfl rfl rfl rfl ?_|(refine jdq rfl rfl ?_ ?_ ?_;kernel_rfl;kernel_rfl)|refine zB rfl rfl rfl (by repeat constructor) rfl ?_|refine zH .here rfl rfl rfl rfl ?_|refine zH (.there .here) rfl rfl rfl rfl ?_|refine zH (.there (.there .here)) rfl rfl rfl rfl ?_)
  rw [← hv]
  repeat (first|refine zJ rfl rfl ?_|refine jr rfl ?_|refine jn ?_|refine zM rfl rfl ?_|(refine zC rfl rfl ?_ rfl ?_;omega)|(refine zD rfl rfl ?_ rfl ?_;omega)|(refine zP rfl ?_ rfl ?_;omega)|refine zG rfl rfl rfl rfl ?_|(refine jdq rfl rfl ?_ ?_ ?_;kernel_rfl;kernel_rfl)|refine zB rfl rfl rfl (by repeat constructor) rfl ?_|refine zH .here rfl rfl rfl rfl ?_|refine zH (.there .here) rfl rfl rfl rfl ?_|refine zH (.there (.there .here)) rfl rfl rfl rfl ?_)
  refine J_own_nil 55 6 ?_
  refine J_loop4 (fun (i : Nat) (G : PH) (lv : Value) (css : List (List Value)) => i ≤ xs.length ∧ F2.le G ∧ All2 (tySg.rep G) (mks v bs xs i) css ∧ ∀ k, k < i → FewC (xs.getD k dflt)) (fun i _ _ _ => xs.length - i) (fun i _ lv _ => [(0, .slice ah xs.length kh), (1, .slice al ls.length kl), (2, .slice ab bs.length kb), (9, .int .i64 v), (10, lv), (51, .slice ah xs.length kh), (52, .int .i64 xs.length), (53, .int .i64 i)]) (fun _ G _ _ => G) (fun i _ lv css => own lv 55 6 i css.flatten :: X) 0 F2 (.slice none 0 0) []
    ⟨Nat.zero_le _, PH.ler _, .nil, fun k h => absurd h (Nat.not_lt_zero k)⟩ ⟨⟨rfl, rfl, rfl, rfl, rfl, rfl, rfl, rfl, trivial⟩, fun _ h => h⟩ ?_
  rintro i G lv css ⟨hi, hG, hall, hfew⟩
  by_cases hlt : i < xs.length
  · have g1 : xs[i]? = some xs[i] := List.getElem?_eq_getElem hlt
    have hmk := mks_succ (v := v) (b := bs) g1
    have hgd : xs.getD i dflt = xs[i] := by rw [List.getD_eq_getElem?_getD, g1]; rfl
    obtain ⟨ba, oa, c1, rfl, hc1, hr1, _⟩ := hx2.at g1
    have hr1 := tyCh.mono hG hr1
    have hc1 := hc1.mono hG
    generalize xs[i] = c at *
    have hone := tyCh.ones hr1
    obtain ⟨vp, vq, vr, rfl, hk1, hk2, hp, hq, hr⟩ := ch_of hr1
    obtain ⟨aq, kq, rfl, _, _⟩ := hq.form
    obtain ⟨ar, kr, rfl, _, _⟩ := hr.form
    have hcf : chC c.1 c.2.1 vp (.slice aq c.2.2.2.1.length kq) (.slice ar c.2.2.2.2.1.length kr) = [.int .i64 c.1, .int .i64 c.2.1, vp, .slice aq c.2.2.2.1.length kq, .slice ar c.2.2.2.2.1.length kr] := rfl
    rw [hcf] at hr1 hc1 hone
    clear hcf
    refine jOwn .here fun av kv hv1 _ _ _ => ?_
    subst hv1
    repeat (first|refine zJ rfl rfl ?_|refine jr rfl ?_|refine jn ?_|refine zM rfl rfl ?_|(refine zC rfl rfl ?_ rfl ?_;omega)|(refine zD rfl rfl ?_ rfl ?_;omega)|(refine zP rfl ?_ rfl ?_;omega)|refine zG rfl rfl rfl rfl ?_|(refine jdq rfl rfl ?_ ?_ ?_;kernel_rfl;kernel_rfl)|refine zB rfl rfl rfl (by repeat constructor) rfl ?_|refine zH .here rfl rfl rfl rfl ?_|refine zH (.there .here) rfl rfl rfl rfl ?_|refine zH (.there (.there .here)) rfl rfl rfl rfl ?_)
    refine oS (ev_indexAddr rfl rfl rfl hlt) rfl ?_
    refine oS (ev_load_agg rfl rfl (Rdb.ofF hc1) rfl) rfl ?_
    refine oE (ev_alloc (cs := zChc) rfl) rfl ?_
    rintro _ _ _ _ ⟨rfl, b12, rfl, rfl⟩
    repeat (first|refine zJ rfl rfl ?_|refine jr rfl ?_|refine jn ?_|refine zM rfl rfl ?_|(refine zC rfl rfl ?_ rfl ?_;omega)|(refine zD rfl rfl ?_ rfl ?_;omega)|(refine zP rfl ?_ rfl ?_;omega)|refine zG rfl rfl rfl rfl ?_|(refine jdq rfl rfl ?_ ?_ ?_;kernel_rfl;kernel_rfl)|refine zB rfl rfl rfl (by repeat constructor) rfl ?_|refine zH .here rfl rfl rfl rfl ?_|refine zH (.there .here) rfl rfl rfl rfl ?_|refine zH (.there (.there .here)) rfl rfl rfl rfl ?_)
    refine oN (ev_store (b := b12) rfl rfl .agg rfl rfl (lay_all (zs := zChc) rfl) hone .here) rfl ?_
    rintro _ _ _ _ ⟨rfl, _, rfl⟩
    repeat (first|refine zJ rfl rfl ?_|refine jr rfl ?_|refine jn ?_|refine zM rfl rfl ?_|(refine zC rfl rfl ?_ rfl ?_;omega)|(refine zD rfl rfl ?_ rfl ?_;omega)|(refine zP rfl ?_ rfl ?_;omega)|refine zG rfl rfl rfl rfl ?_|(refine jdq rfl rfl ?_ ?_ ?_;kernel_rfl;kernel_rfl)|refine zB rfl rfl rfl (by repeat constructor) rfl ?_|refine zH .here rfl rfl rfl rfl ?_|refine zH (.there .here) rfl rfl rfl rfl ?_|refine zH (.there (.there .here)) rfl rfl rfl rfl ?_)
    refine oS (ev_load_agg (cs := [.int .i64 c.1, .int .i64 c.2.1, vp, .slice aq c.2.2.2.1.length kq, .slice ar c.2.2.2.2.1.length kr]) rfl rfl (Rdb.ofB (n := 0) .here rfl) rfl) rfl ?_
    repeat (first|refine zJ rfl rfl ?_|refine jr rfl ?_|refine jn ?_|refine zM rfl rfl ?_|(refine zC rfl rfl ?_ rfl ?_;omega)|(refine zD rfl rfl ?_ rfl ?_;omega)|(refine zP rfl ?_ rfl ?_;omega)|refine zG rfl rfl rfl rfl ?_|(refine jdq rfl rfl ?_ ?_ ?_;kernel_rfl;kernel_rfl)|refine zB rfl rfl rfl (by repeat constructor) rfl ?_|refine zH .here rfl rfl rfl rfl ?_|refine zH (.there .here) rfl rfl rfl rfl ?_|refine zH (.there (.there .here)) rfl rfl rfl rfl ?_)
    refine oE (ev_buildSlice (E := 55) (zs := zSg) (t := [.int .i64 0, .int .i64 c.1, .int .i64 c.2.1, vp, .slice aq c.2.2.2.1.length kq, .slice ar c.2.2.2.2.1.length kr]) rfl rfl rfl rfl rfl rfl (.cons .agg rfl (by repeat constructor) .nil)) rfl ?_
    rintro _ _ _ _ ⟨rfl, bf, rfl, rfl⟩
    refine oPersist fun hh hA hd => ?_
    have hfc := blk_cells hA hd
    have hF3 := PH.le_l G hh
    generalize G.un hh = G1 at *
    have hr2 := tyCh.mono hF3 hr1
    have hrow1 := row_one (te := tySg) hfc (sg_mk (f := 0) (by decide) hr2)
    refine oC (Hc := []) (Hr := blk b12 53 [.int .i64 c.1, .int .i64 c.2.1, vp, .slice aq c.2.2.2.1.length kq, .slice ar c.2.2.2.2.1.length kr] :: own (.slice av i kv) 55 6 i css.flatten :: X) (few_spec _ _ G1 hrow1) Try.call25 rfl rfl (fun _ s => s) ?_
    rintro _ G2 _ hF4 ⟨⟨fb, rfl, hfb⟩, rfl⟩
    have hle2 := hG.trans (hF3.trans hF4)
    cases fb with
    | false =>
      repeat (first|refine zJ rfl rfl ?_|refine jr rfl ?_|refine jn ?_|refine zM rfl rfl ?_|(refine zC rfl rfl ?_ rfl ?_;omega)|(refine zD rfl rfl ?_ rfl ?_;omega)|(refine zP rfl ?_ rfl ?_;omega)|refine zG rfl rfl rfl rfl ?_|(refine jdq rfl rfl ?_ ?_ ?_;kernel_rfl;kernel_rfl)|refine zB rfl rfl rfl (by repeat constructor) rfl ?_|refine zH .here rfl rfl rfl rfl ?_|refine zH (.there .here) rfl rfl rfl rfl ?_|refine zH (.there (.there .here)) rfl rfl rfl rfl ?_)
      exact J_retv rfl (.tmp rfl .nil) [] (fun w s => s.drop.drop) (hFF.trans hle2) ⟨rfl, rfl⟩
    | true =>
    have hfc1 := hfb rfl (0, c, ()) (by simp)
    clear hfb
    dsimp only at hfc1
    have hr3 := tyCh.mono hF4 hr2
    repeat (first|refine zJ rfl rfl ?_|refine jr rfl ?_|refine jn ?_|refine zM rfl rfl ?_|(refine zC rfl rfl ?_ rfl ?_;omega)|(refine zD rfl rfl ?_ rfl ?_;omega)|(refine zP rfl ?_ rfl ?_;omega)|refine zG rfl rfl rfl rfl ?_|(refine jdq rfl rfl ?_ ?_ ?_;kernel_rfl;kernel_rfl)|refine zB rfl rfl rfl (by repeat constructor) rfl ?_|refine zH .here rfl rfl rfl rfl ?_|refine zH (.there .here) rfl rfl rfl rfl ?_|refine zH (.there (.there .here)) rfl rfl rfl rfl ?_)
    refine oS (ev_load_agg (cs := [.int .i64 c.1, .int .i64 c.2.1, vp, .slice aq c.2.2.2.1.length kq, .slice ar c.2.2.2.2.1.length kr]) rfl rfl (Rdb.ofB (n := 0) .here rfl) rfl) rfl ?_
    refine oC (Hc := []) (Hr := blk b12 53 [.int .i64 c.1, .int .i64 c.2.1, vp, .slice aq c.2.2.2.1.length kq, .slice ar c.2.2.2.2.1.length kr] :: own (.slice av i kv) 55 6 i css.flatten :: X) (right_spec c _ G2 hr3) Try.call26 rfl rfl (fun _ s => s) ?_
    rintro _ G3 _ hF5 ⟨⟨rb, rfl⟩, rfl⟩
    have hle3 := hle2.trans hF5
    cases rb with
    | false =>
      repeat (first|refine zJ rfl rfl ?_|refine jr rfl ?_|refine jn ?_|refine zM rfl rfl ?_|(refine zC rfl rfl ?_ rfl ?_;omega)|(refine zD rfl rfl ?_ rfl ?_;omega)|(refine zP rfl ?_ rfl ?_;omega)|refine zG rfl rfl rfl rfl ?_|(refine jdq rfl rfl ?_ ?_ ?_;kernel_rfl;kernel_rfl)|refine zB rfl rfl rfl (by repeat constructor) rfl ?_|refine zH .here rfl rfl rfl rfl ?_|refine zH (.there .here) rfl rfl rfl rfl ?_|refine zH (.there (.there .here)) rfl rfl rfl rfl ?_)
      exact J_retv rfl (.tmp rfl .nil) [] (fun w s => s.drop.drop) (hFF.trans hle3) ⟨rfl, rfl⟩
    | true =>
    by_cases hlow : c.2.1 = 0
    rotate_left
    · repeat (first|refine zJ rfl rfl ?_|refine jr rfl ?_|refine jn ?_|refine zM rfl rfl ?_|(refine zC rfl rfl ?_ rfl ?_;omega)|(refine zD rfl rfl ?_ rfl ?_;omega)|(refine zP rfl ?_ rfl ?_;omega)|refine zG rfl rfl rfl rfl ?_|(refine jdq rfl rfl ?_ ?_ ?_;kernel_rfl;kernel_rfl)|refine zB rfl rfl rfl (by repeat constructor) rfl ?_|refine zH .here rfl rfl rfl rfl ?_|refine zH (.there .here) rfl rfl rfl rfl ?_|refine zH (.there (.there .here)) rfl rfl rfl rfl ?_)
      exact J_retv rfl (.tmp rfl .nil) [] (fun w s => s.drop.drop) (hFF.trans hle3) ⟨rfl, rfl⟩
    have hr4 := tyCh.mono hF5 hr3
    have hb4 := hb2.mono hle3
    have hp4 := ((hp.mono hF3).mono hF4).mono hF5
    have hq4 := ((hq.mono hF3).mono hF4).mono hF5
    have hrr4 := ((hr.mono hF3).mono hF4).mono hF5
    have hall4 := hall.mono fun _ _ h => tySg.mono (hF3.trans (hF4.trans hF5)) h
    have hmono : F2.le G3 := hle3
    clear hr1 hr2 hr3 hrow1 hfc
    repeat (first|refine zJ rfl rfl ?_|refine jr rfl ?_|refine jn ?_|refine zM rfl rfl ?_|(refine zC rfl rfl ?_ rfl ?_;omega)|(refine zD rfl rfl ?_ rfl ?_;omega)|(refine zP rfl ?_ rfl ?_;omega)|refine zG rfl rfl rfl rfl ?_|(refine jdq rfl rfl ?_ ?_ ?_;kernel_rfl;kernel_rfl)|refine zB rfl rfl rfl (by repeat constructor) rfl ?_|refine zH .here rfl rfl rfl rfl ?_|refine zH (.there .here) rfl rfl rfl rfl ?_|refine zH (.there (.there .here)) rfl rfl rfl rfl ?_)
    refine oE (ev_alloc (cs := zPr) rfl) rfl ?_
    rintro _ _ _ _ ⟨rfl, b13, rfl, rfl⟩
    refine oN (ev_store (b := b13) rfl rfl .agg rfl rfl (lay_all (zs := zPr) rfl) (by (repeat (first | exact ones_nil | refine ones_cons rfl ?_))) .here) rfl ?_
    rintro _ _ _ _ ⟨rfl, _, rfl⟩
    repeat (first|refine zJ rfl rfl ?_|refine jr rfl ?_|refine jn ?_|refine zM rfl rfl ?_|(refine zC rfl rfl ?_ rfl ?_;omega)|(refine zD rfl rfl ?_ rfl ?_;omega)|(refine zP rfl ?_ rfl ?_;omega)|refine zG rfl rfl rfl rfl ?_|(refine jdq rfl rfl ?_ ?_ ?_;kernel_rfl;kernel_rfl)|refine zB rfl rfl rfl (by repeat constructor) rfl ?_|refine zH .here rfl rfl rfl rfl ?_|refine zH (.there .here) rfl rfl rfl rfl ?_|refine zH (.there (.there .here)) rfl rfl rfl rfl ?_)
    refine J_own_nil 58 3 ?_
    refine J_loop3 (fun (j : Nat) (w : Value) (css2 : List (List Value)) => j ≤ c.2.2.2.1.length ∧ All2 (tyPr.rep G3) ((c.2.2.2.1.take j).filter (keepP v i)) css2) (fun j _ _ => c.2.2.2.1.length - j) (fun j w _ => [(0, .slice (some ⟨ba, oa, none⟩) xs.length kh), (1, .slice al ls.length kl), (2, .slice ab bs.length kb), (9, .int .i64 v), (10, .slice av i kv), (11, .int .i64 i), (12, .pointer (some ⟨b12, 0, none⟩)), (13, .pointer (some ⟨b13, 0, none⟩)), (51, .slice (some ⟨ba, oa, none⟩) xs.length kh), (52, .int .i64 xs.length), (53, .int .i64 i), (14, w), (15, .slice none 0 0), (77, .slice aq c.2.2.2.1.length kq), (78, .int .i64 c.2.2.2.1.length), (79, .int .i64 j)]) (fun _ _ _ => G3) (fun _ w css2 => own w 58 3 css2.length css2.flatten :: blk b13 58 [.int .i64 1, .int .i64 v, .slice ab bs.length kb] :: blk b12 53 [.int .i64 c.1, .int .i64 c.2.1, vp, .slice aq c.2.2.2.1.length kq, .slice ar c.2.2.2.2.1.length kr] :: own (.slice av i kv) 55 6 i css.flatten :: X) 0 (.slice none 0 0) []
      ⟨Nat.zero_le _, .nil⟩ ⟨⟨rfl, rfl, rfl, rfl, rfl, rfl, rfl, rfl, rfl, rfl, rfl, rfl, rfl, rfl, rfl, rfl, trivial⟩, fun _ h => h⟩ ?_
    rintro j w css2 ⟨hj, hal2⟩
    by_cases hjl : j < c.2.2.2.1.length
    · have g2 : c.2.2.2.1[j]? = some c.2.2.2.1[j] := List.getElem?_eq_getElem hjl
      have ht2 : c.2.2.2.1.take (j + 1) = c.2.2.2.1.take j ++ [c.2.2.2.1[j]] := by rw [List.take_add_one, g2]; rfl
      have hlen2 : css2.length ≤ 80 := by rw [← hal2.len1]; exact Nat.le_trans (List.length_filter_le _ _) (by rw [List.length_take]; have := hfc1.1.1; omega)
      obtain ⟨b5, o5, c5, hbo, hc5, hr5, _⟩ := hq4.1.at g2
      cases hbo
      have hone2 := tyPr.ones hr5
      have hr5' := hr5
      obtain ⟨vx, rfl, _, _, hxr⟩ := pr_of hr5
      generalize c.2.2.2.1[j] = p at *
      unfold prC at hone2 hc5 hr5'
      obtain ⟨ax, kx, rfl, _, _⟩ := hxr.form
      refine jOwn .here fun aw kw hw2 _ _ _ => ?_
      subst hw2
      by_cases hp1 : p.1 = 1
      · by_cases hpv : p.2.1 < v
        · by_cases hi2 : i = 2
          · have hkp : keepP v i p = true := by simp [keepP, hp1, hpv, hi2]
            repeat (first|refine zJ rfl rfl ?_|refine jr rfl ?_|refine jn ?_|refine zM rfl rfl ?_|(refine zC rfl rfl ?_ rfl ?_;omega)|(refine zD rfl rfl ?_ rfl ?_;omega)|(refine zP rfl ?_ rfl ?_;omega)|refine zG rfl rfl rfl rfl ?_|(refine jdq rfl rfl ?_ ?_ ?_;kernel_rfl;kernel_rfl)|refine zB rfl rfl rfl (by repeat constructor) rfl ?_|refine zH .here rfl rfl rfl rfl ?_|refine zH (.there .here) rfl rfl rfl rfl ?_|refine zH (.there (.there .here)) rfl rfl rfl rfl ?_)
            refine oS (ev_indexAddr rfl rfl rfl hjl) rfl ?_
            refine oS (ev_load_agg rfl rfl (Rdb.ofF hc5) rfl) rfl ?_
            refine oE (ev_alloc (cs := zPr) rfl) rfl ?_
            rintro _ _ _ _ ⟨rfl, b17, rfl, rfl⟩
            refine oN (ev_store (b := b17) rfl rfl .agg rfl rfl (lay_all (zs := zPr) rfl) hone2 .here) rfl ?_
            rintro _ _ _ _ ⟨rfl, _, rfl⟩
            repeat (first|refine zJ rfl rfl ?_|refine jr rfl ?_|refine jn ?_|refine zM rfl rfl ?_|(refine zC rfl rfl ?_ rfl ?_;omega)|(refine zD rfl rfl ?_ rfl ?_;omega)|(refine zP rfl ?_ rfl ?_;omega)|refine zG rfl rfl rfl rfl ?_|(refine jdq rfl rfl ?_ ?_ ?_;kernel_rfl;kernel_rfl)|refine zB rfl rfl rfl (by repeat constructor) rfl ?_|refine zH .here rfl rfl rfl rfl ?_|refine zH (.there .here) rfl rfl rfl rfl ?_|refine zH (.there (.there .here)) rfl rfl rfl rfl ?_)
            refine oS (ev_load_agg (cs := [.int .i64 p.1, .int .i64 p.2.1, .slice ax p.2.2.1.length kx]) rfl rfl (Rdb.ofB (n := 0) .here rfl) rfl) rfl ?_
            refine oA (vs := [.int .i64 p.1, .int .i64 p.2.1, .slice ax p.2.2.1.length kx]) (K := fun v' => blk b17 58 [.int .i64 p.1, .int .i64 p.2.1, .slice ax p.2.2.1.length kx] :: own v' 58 3 (css2.length + 1) (css2.flatten ++ [.int .i64 p.1, .int .i64 p.2.1, .slice ax p.2.2.1.length kx]) :: blk b13 58 [.int .i64 1, .int .i64 v, .slice ab bs.length kb] :: blk b12 53 [.int .i64 c.1, .int .i64 c.2.1, vp, .slice (some ⟨b5, o5, none⟩) c.2.2.2.1.length kq, .slice ar c.2.2.2.2.1.length kr] :: own (.slice av i kv) 55 6 i css.flatten :: X) (fun _ => rfl) rfl .agg rfl elPr hone2 (by omega) (fun _ => .there .here) rfl (fun _ => rfl) fun u _ => ?_
            repeat (first|refine zJ rfl rfl ?_|refine jr rfl ?_|refine jn ?_|refine zM rfl rfl ?_|(refine zC rfl rfl ?_ rfl ?_;omega)|(refine zD rfl rfl ?_ rfl ?_;omega)|(refine zP rfl ?_ rfl ?_;omega)|refine zG rfl rfl rfl rfl ?_|(refine jdq rfl rfl ?_ ?_ ?_;kernel_rfl;kernel_rfl)|refine zB rfl rfl rfl (by repeat constructor) rfl ?_|refine zH .here rfl rfl rfl rfl ?_|refine zH (.there .here) rfl rfl rfl rfl ?_|refine zH (.there (.there .here)) rfl rfl rfl rfl ?_)
            refine J_again3 (j + 1) u (css2 ++ [[.int .i64 p.1, .int .i64 p.2.1, .slice ax p.2.2.1.length kx]]) ⟨hjl, ?_⟩ (by omega) ⟨⟨rfl, rfl, rfl, rfl, rfl, rfl, rfl, rfl, rfl, rfl, rfl, rfl, rfl, rfl, rfl, rfl, trivial⟩, fun w s => ?_⟩
            · rw [ht2, List.filter_append, List.filter_cons_of_pos hkp]
              exact hal2.snoc hr5'
            · rw [List.length_append, List.flatten_append]
              exact s.drop
          · have hkp : keepP v i p = false := by simp [keepP, hp1, hi2]
            repeat (first|refine zJ rfl rfl ?_|refine jr rfl ?_|refine jn ?_|refine zM rfl rfl ?_|(refine zC rfl rfl ?_ rfl ?_;omega)|(refine zD rfl rfl ?_ rfl ?_;omega)|(refine zP rfl ?_ rfl ?_;omega)|refine zG rfl rfl rfl rfl ?_|(refine jdq rfl rfl ?_ ?_ ?_;kernel_rfl;kernel_rfl)|refine zB rfl rfl rfl (by repeat constructor) rfl ?_|refine zH .here rfl rfl rfl rfl ?_|refine zH (.there .here) rfl rfl rfl rfl ?_|refine zH (.there (.there .here)) rfl rfl rfl rfl ?_)
            refine oS (ev_indexAddr rfl rfl rfl hjl) rfl ?_
            refine oS (ev_load_agg rfl rfl (Rdb.ofF hc5) rfl) rfl ?_
            refine oE (ev_alloc (cs := zPr) rfl) rfl ?_
            rintro _ _ _ _ ⟨rfl, b17, rfl, rfl⟩
            refine oN (ev_store (b := b17) rfl rfl .agg rfl rfl (lay_all (zs := zPr) rfl) hone2 .here) rfl ?_
            rintro _ _ _ _ ⟨rfl, _, rfl⟩
            repeat (first|refine zJ rfl rfl ?_|refine jr rfl ?_|refine jn ?_|refine zM rfl rfl ?_|(refine zC rfl rfl ?_ rfl ?_;omega)|(refine zD rfl rfl ?_ rfl ?_;omega)|(refine zP rfl ?_ rfl ?_;omega)|refine zG rfl rfl rfl rfl ?_|(refine jdq rfl rfl ?_ ?_ ?_;kernel_rfl;kernel_rfl)|refine zB rfl rfl rfl (by repeat constructor) rfl ?_|refine zH .here rfl rfl rfl rfl ?_|refine zH (.there .here) rfl rfl rfl rfl ?_|refine zH (.there (.there .here)) rfl rfl rfl rfl ?_)
            refine J_again3 (j + 1) (.slice aw css2.length kw) css2 ⟨hjl, ?_⟩ (by omega) ⟨⟨rfl, rfl, rfl, rfl, rfl, rfl, rfl, rfl, rfl, rfl, rfl, rfl, rfl, rfl, rfl, rfl, trivial⟩, fun w s => s.drop⟩
            rw [ht2, List.filter_append, List.filter_cons_of_neg (by rw [hkp]; decide), List.filter_nil, List.append_nil]
            exact hal2
        · have hkp : keepP v i p = false := by simp [keepP, hp1, hpv]
          repeat (first|refine zJ rfl rfl ?_|refine jr rfl ?_|refine jn ?_|refine zM rfl rfl ?_|(refine zC rfl rfl ?_ rfl ?_;omega)|(refine zD rfl rfl ?_ rfl ?_;omega)|(refine zP rfl ?_ rfl ?_;omega)|refine zG rfl rfl rfl rfl ?_|(refine jdq rfl rfl ?_ ?_ ?_;kernel_rfl;kernel_rfl)|refine zB rfl rfl rfl (by repeat constructor) rfl ?_|refine zH .here rfl rfl rfl rfl ?_|refine zH (.there .here) rfl rfl rfl rfl ?_|refine zH (.there (.there .here)) rfl rfl rfl rfl ?_)
          refine oS (ev_indexAddr rfl rfl rfl hjl) rfl ?_
          refine oS (ev_load_agg rfl rfl (Rdb.ofF hc5) rfl) rfl ?_
          refine oE (ev_alloc (cs := zPr) rfl) rfl ?_
          rintro _ _ _ _ ⟨rfl, b17, rfl, rfl⟩
          refine oN (ev_store (b := b17) rfl rfl .agg rfl rfl (lay_all (zs := zPr) rfl) hone2 .here) rfl ?_
          rintro _ _ _ _ ⟨rfl, _, rfl⟩
          repeat (first|refine zJ rfl rfl ?_|refine jr rfl ?_|refine jn ?_|refine zM rfl rfl ?_|(refine zC rfl rfl ?_ rfl ?_;omega)|(refine zD rfl rfl ?_ rfl ?_;omega)|(refine zP rfl ?_ rfl ?_;omega)|refine zG rfl rfl rfl rfl ?_|(refine jdq rfl rfl ?_ ?_ ?_;kernel_rfl;kernel_rfl)|refine zB rfl rfl rfl (by repeat constructor) rfl ?_|refine zH .here rfl rfl rfl rfl ?_|refine zH (.there .here) rfl rfl rfl rfl ?_|refine zH (.there (.there .here)) rfl rfl rfl rfl ?_)
          refine J_again3 (j + 1) (.slice aw css2.length kw) css2 ⟨hjl, ?_⟩ (by omega) ⟨⟨rfl, rfl, rfl, rfl, rfl, rfl, rfl, rfl, rfl, rfl, rfl, rfl, rfl, rfl, rfl, rfl, trivial⟩, fun w s => s.drop⟩
          rw [ht2, List.filter_append, List.filter_cons_of_neg (by rw [hkp]; decide), List.filter_nil, List.append_nil]
          exact hal2
      · have hkp : keepP v i p = true := by simp [keepP, hp1]
        repeat (first|refine zJ rfl rfl ?_|refine jr rfl ?_|refine jn ?_|refine zM rfl rfl ?_|(refine zC rfl rfl ?_ rfl ?_;omega)|(refine zD rfl rfl ?_ rfl ?_;omega)|(refine zP rfl ?_ rfl ?_;omega)|refine zG rfl rfl rfl rfl ?_|(refine jdq rfl rfl ?_ ?_ ?_;kernel_rfl;kernel_rfl)|refine zB rfl rfl rfl (by repeat constructor) rfl ?_|refine zH .here rfl rfl rfl rfl ?_|refine zH (.there .here) rfl rfl rfl rfl ?_|refine zH (.there (.there .here)) rfl rfl rfl rfl ?_)
        refine oS (ev_indexAddr rfl rfl rfl hjl) rfl ?_
        refine oS (ev_load_agg rfl rfl (Rdb.ofF hc5) rfl) rfl ?_
        refine oE (ev_alloc (cs := zPr) rfl) rfl ?_
        rintro _ _ _ _ ⟨rfl, b17, rfl, rfl⟩
        refine oN (ev_store (b := b17) rfl rfl .agg rfl rfl (lay_all (zs := zPr) rfl) hone2 .here) rfl ?_
        rintro _ _ _ _ ⟨rfl, _, rfl⟩
        repeat (first|refine zJ rfl rfl ?_|refine jr rfl ?_|refine jn ?_|refine zM rfl rfl ?_|(refine zC rfl rfl ?_ rfl ?_;omega)|(refine zD rfl rfl ?_ rfl ?_;omega)|(refine zP rfl ?_ rfl ?_;omega)|refine zG rfl rfl rfl rfl ?_|(refine jdq rfl rfl ?_ ?_ ?_;kernel_rfl;kernel_rfl)|refine zB rfl rfl rfl (by repeat constructor) rfl ?_|refine zH .here rfl rfl rfl rfl ?_|refine zH (.there .here) rfl rfl rfl rfl ?_|refine zH (.there (.there .here)) rfl rfl rfl rfl ?_)
        refine oS (ev_load_agg (cs := [.int .i64 p.1, .int .i64 p.2.1, .slice ax p.2.2.1.length kx]) rfl rfl (Rdb.ofB (n := 0) .here rfl) rfl) rfl ?_
        refine oA (vs := [.int .i64 p.1, .int .i64 p.2.1, .slice ax p.2.2.1.length kx]) (K := fun v' => blk b17 58 [.int .i64 p.1, .int .i64 p.2.1, .slice ax p.2.2.1.length kx] :: own v' 58 3 (css2.length + 1) (css2.flatten ++ [.int .i64 p.1, .int .i64 p.2.1, .slice ax p.2.2.1.length kx]) :: blk b13 58 [.int .i64 1, .int .i64 v, .slice ab bs.length kb] :: blk b12 53 [.int .i64 c.1, .int .i64 c.2.1, vp, .slice (some ⟨b5, o5, none⟩) c.2.2.2.1.length kq, .slice ar c.2.2.2.2.1.length kr] :: own (.slice av i kv) 55 6 i css.flatten :: X) (fun _ => rfl) rfl .agg rfl elPr hone2 (by omega) (fun _ => .there .here) rfl (fun _ => rfl) fun u _ => ?_
        repeat (first|refine zJ rfl rfl ?_|refine jr rfl ?_|refine jn ?_|refine zM rfl rfl ?_|(refine zC rfl rfl ?_ rfl ?_;omega)|(refine zD rfl rfl ?_ rfl ?_;omega)|(refine zP rfl ?_ rfl ?_;omega)|refine zG rfl rfl rfl rfl ?_|(refine jdq rfl rfl ?_ ?_ ?_;kernel_rfl;kernel_rfl)|refine zB rfl rfl rfl (by repeat constructor) rfl ?_|refine zH .here rfl rfl rfl rfl ?_|refine zH (.there .here) rfl rfl rfl rfl ?_|refine zH (.there (.there .here)) rfl rfl rfl rfl ?_)
        refine J_again3 (j + 1) u (css2 ++ [[.int .i64 p.1, .int .i64 p.2.1, .slice ax p.2.2.1.length kx]]) ⟨hjl, ?_⟩ (by omega) ⟨⟨rfl, rfl, rfl, rfl, rfl, rfl, rfl, rfl, rfl, rfl, rfl, rfl, rfl, rfl, rfl, rfl, trivial⟩, fun w s => ?_⟩
        · rw [ht2, List.filter_append, List.filter_cons_of_pos hkp]
          exact hal2.snoc hr5'
        · rw [List.length_append, List.flatten_append]
          exact s.drop
    obtain rfl : j = c.2.2.2.1.length := by omega
    rw [List.take_length] at hal2
    repeat (first|refine zJ rfl rfl ?_|refine jr rfl ?_|refine jn ?_|refine zM rfl rfl ?_|(refine zC rfl rfl ?_ rfl ?_;omega)|(refine zD rfl rfl ?_ rfl ?_;omega)|(refine zP rfl ?_ rfl ?_;omega)|refine zG rfl rfl rfl rfl ?_|(refine jdq rfl rfl ?_ ?_ ?_;kernel_rfl;kernel_rfl)|refine zB rfl rfl rfl (by repeat constructor) rfl ?_|refine zH .here rfl rfl rfl rfl ?_|refine zH (.there .here) rfl rfl rfl rfl ?_|refine zH (.there (.there .here)) rfl rfl rfl rfl ?_)
    refine J_own_nil 58 3 ?_
    refine J_loop3 (fun (j : Nat) (w1 : Value) (css3 : List (List Value)) => j ≤ c.2.2.2.2.1.length ∧ All2 (tyPr.rep G3) ((c.2.2.2.2.1.take j).filter (keepR v)) css3) (fun j _ _ => c.2.2.2.2.1.length - j) (fun j w1 _ => [(0, .slice (some ⟨ba, oa, none⟩) xs.length kh), (1, .slice al ls.length kl), (2, .slice ab bs.length kb), (9, .int .i64 v), (10, .slice av i kv), (11, .int .i64 i), (12, .pointer (some ⟨b12, 0, none⟩)), (13, .pointer (some ⟨b13, 0, none⟩)), (51, .slice (some ⟨ba, oa, none⟩) xs.length kh), (52, .int .i64 xs.length), (53, .int .i64 i), (15, w1), (14, w), (102, .slice ar c.2.2.2.2.1.length kr), (103, .int .i64 c.2.2.2.2.1.length), (104, .int .i64 j)]) (fun _ _ _ => G3) (fun _ w1 css3 => own w1 58 3 css3.length css3.flatten :: own w 58 3 css2.length css2.flatten :: blk b13 58 [.int .i64 1, .int .i64 v, .slice ab bs.length kb] :: blk b12 53 [.int .i64 c.1, .int .i64 c.2.1, vp, .slice aq c.2.2.2.1.length kq, .slice ar c.2.2.2.2.1.length kr] :: own (.slice av i kv) 55 6 i css.flatten :: X) 0 (.slice none 0 0) []
      ⟨Nat.zero_le _, .nil⟩ ⟨⟨rfl, rfl, rfl, rfl, rfl, rfl, rfl, rfl, rfl, rfl, rfl, rfl, rfl, rfl, rfl, rfl, trivial⟩, fun _ h => h⟩ ?_
    rintro j w1 css3 ⟨hj, hal3⟩
    by_cases hjl : j < c.2.2.2.2.1.length
    · have g2 : c.2.2.2.2.1[j]? = some c.2.2.2.2.1[j] := List.getElem?_eq_getElem hjl
      have ht2 : c.2.2.2.2.1.take (j + 1) = c.2.2.2.2.1.take j ++ [c.2.2.2.2.1[j]] := by rw [List.take_add_one, g2]; rfl
      have hlen3 : css3.length ≤ 80 := by rw [← hal3.len1]; exact Nat.le_trans (List.length_filter_le _ _) (by rw [List.length_take]; have := hfc1.2.1; omega)
      obtain ⟨b5, o5, c5, hbo, hc5, hr5, _⟩ := hrr4.1.at g2
      cases hbo
      have hone2 := tyPr.ones hr5
      have hr5' := hr5
      obtain ⟨vx, rfl, _, _, hxr⟩ := pr_of hr5
      generalize c.2.2.2.2.1[j] = p at *
      unfold prC at hone2 hc5 hr5'
      obtain ⟨ax, kx, rfl, _, _⟩ := hxr.form
      refine jOwn .here fun aw kw hw2 _ _ _ => ?_
      subst hw2
      by_cases hp1 : p.1 = 1
      · by_cases hpv : p.2.1 < v
        · have hkp : keepR v p = true := by simp [keepR, hpv]
          repeat (first|refine zJ rfl rfl ?_|refine jr rfl ?_|refine jn ?_|refine zM rfl rfl ?_|(refine zC rfl rfl ?_ rfl ?_;omega)|(refine zD rfl rfl ?_ rfl ?_;omega)|(refine zP rfl ?_ rfl ?_;omega)|refine zG rfl rfl rfl rfl ?_|(refine jdq rfl rfl ?_ ?_ ?_;kernel_rfl;kernel_rfl)|refine zB rfl rfl rfl (by repeat constructor) rfl ?_|refine zH .here rfl rfl rfl rfl ?_|refine zH (.there .here) rfl rfl rfl rfl ?_|refine zH (.there (.there .here)) rfl rfl rfl rfl ?_)
          refine oS (ev_indexAddr rfl rfl rfl hjl) rfl ?_
          refine oS (ev_load_agg rfl rfl (Rdb.ofF hc5) rfl) rfl ?_
          refine oE (ev_alloc (cs := zPr) rfl) rfl ?_
          rintro _ _ _ _ ⟨rfl, b17, rfl, rfl⟩
          refine oN (ev_store (b := b17) rfl rfl .agg rfl rfl (lay_all (zs := zPr) rfl) hone2 .here) rfl ?_
          rintro _ _ _ _ ⟨rfl, _, rfl⟩
          repeat (first|refine zJ rfl rfl ?_|refine jr rfl ?_|refine jn ?_|refine zM rfl rfl ?_|(refine zC rfl rfl ?_ rfl ?_;omega)|(refine zD rfl rfl ?_ rfl ?_;omega)|(refine zP rfl ?_ rfl ?_;omega)|refine zG rfl rfl rfl rfl ?_|(refine jdq rfl rfl ?_ ?_ ?_;kernel_rfl;kernel_rfl)|refine zB rfl rfl rfl (by repeat constructor) rfl ?_|refine zH .here rfl rfl rfl rfl ?_|refine zH (.there .here) rfl rfl rfl rfl ?_|refine zH (.there (.there .here)) rfl rfl rfl rfl ?_)
          refine oS (ev_load_agg (cs := [.int .i64 p.1, .int .i64 p.2.1, .slice ax p.2.2.1.length kx]) rfl rfl (Rdb.ofB (n := 0) .here rfl) rfl) rfl ?_
          refine oA (vs := [.int .i64 p.1, .int .i64 p.2.1, .slice ax p.2.2.1.length kx]) (K := fun v' => blk b17 58 [.int .i64 p.1, .int .i64 p.2.1, .slice ax p.2.2.1.length kx] :: own v' 58 3 (css3.length + 1) (css3.flatten ++ [.int .i64 p.1, .int .i64 p.2.1, .slice ax p.2.2.1.length kx]) :: own w 58 3 css2.length css2.flatten :: blk b13 58 [.int .i64 1, .int .i64 v, .slice ab bs.length kb] :: blk b12 53 [.int .i64 c.1, .int .i64 c.2.1, vp, .slice aq c.2.2.2.1.length kq, .slice (some ⟨b5, o5, none⟩) c.2.2.2.2.1.length kr] :: own (.slice av i kv) 55 6 i css.flatten :: X) (fun _ => rfl) rfl .agg rfl elPr hone2 (by omega) (fun _ => .there .here) rfl (fun _ => rfl) fun u _ => ?_
          repeat (first|refine zJ rfl rfl ?_|refine jr rfl ?_|refine jn ?_|refine zM rfl rfl ?_|(refine zC rfl rfl ?_ rfl ?_;omega)|(refine zD rfl rfl ?_ rfl ?_;omega)|(refine zP rfl ?_ rfl ?_;omega)|refine zG rfl rfl rfl rfl ?_|(refine jdq rfl rfl ?_ ?_ ?_;kernel_rfl;kernel_rfl)|refine zB rfl rfl rfl (by repeat constructor) rfl ?_|refine zH .here rfl rfl rfl rfl ?_|refine zH (.there .here) rfl rfl rfl rfl ?_|refine zH (.there (.there .here)) rfl rfl rfl rfl ?_)
          refine J_again3 (j + 1) u (css3 ++ [[.int .i64 p.1, .int .i64 p.2.1, .slice ax p.2.2.1.length kx]]) ⟨hjl, ?_⟩ (by omega) ⟨⟨rfl, rfl, rfl, rfl, rfl, rfl, rfl, rfl, rfl, rfl, rfl, rfl, rfl, rfl, rfl, rfl, trivial⟩, fun w s => ?_⟩
          · rw [ht2, List.filter_append, List.filter_cons_of_pos hkp]
            exact hal3.snoc hr5'
          · rw [List.length_append, List.flatten_append]
            exact s.drop
        · have hkp : keepR v p = false := by simp [keepR, hp1, hpv]
          repeat (first|refine zJ rfl rfl ?_|refine jr rfl ?_|refine jn ?_|refine zM rfl rfl ?_|(refine zC rfl rfl ?_ rfl ?_;omega)|(refine zD rfl rfl ?_ rfl ?_;omega)|(refine zP rfl ?_ rfl ?_;omega)|refine zG rfl rfl rfl rfl ?_|(refine jdq rfl rfl ?_ ?_ ?_;kernel_rfl;kernel_rfl)|refine zB rfl rfl rfl (by repeat constructor) rfl ?_|refine zH .here rfl rfl rfl rfl ?_|refine zH (.there .here) rfl rfl rfl rfl ?_|refine zH (.there (.there .here)) rfl rfl rfl rfl ?_)
          refine oS (ev_indexAddr rfl rfl rfl hjl) rfl ?_
          refine oS (ev_load_agg rfl rfl (Rdb.ofF hc5) rfl) rfl ?_
          refine oE (ev_alloc (cs := zPr) rfl) rfl ?_
          rintro _ _ _ _ ⟨rfl, b17, rfl, rfl⟩
          refine oN (ev_store (b := b17) rfl rfl .agg rfl rfl (lay_all (zs := zPr) rfl) hone2 .here) rfl ?_
          rintro _ _ _ _ ⟨rfl, _, rfl⟩
          repeat (first|refine zJ rfl rfl ?_|refine jr rfl ?_|refine jn ?_|refine zM rfl rfl ?_|(refine zC rfl rfl ?_ rfl ?_;omega)|(refine zD rfl rfl ?_ rfl ?_;omega)|(refine zP rfl ?_ rfl ?_;omega)|refine zG rfl rfl rfl rfl ?_|(refine jdq rfl rfl ?_ ?_ ?_;kernel_rfl;kernel_rfl)|refine zB rfl rfl rfl (by repeat constructor) rfl ?_|refine zH .here rfl rfl rfl rfl ?_|refine zH (.there .here) rfl rfl rfl rfl ?_|refine zH (.there (.there .here)) rfl rfl rfl rfl ?_)
          refine J_again3 (j + 1) (.slice aw css3.length kw) css3 ⟨hjl, ?_⟩ (by omega) ⟨⟨rfl, rfl, rfl, rfl, rfl, rfl, rfl, rfl, rfl, rfl, rfl, rfl, rfl, rfl, rfl, rfl, trivial⟩, fun w s => s.drop⟩
          rw [ht2, List.filter_append, List.filter_cons_of_neg (by rw [hkp]; decide), List.filter_nil, List.append_nil]
          exact hal3
      · have hkp : keepR v p = true := by simp [keepR, hp1]
        repeat (first|refine zJ rfl rfl ?_|refine jr rfl ?_|refine jn ?_|refine zM rfl rfl ?_|(refine zC rfl rfl ?_ rfl ?_;omega)|(refine zD rfl rfl ?_ rfl ?_;omega)|(refine zP rfl ?_ rfl ?_;omega)|refine zG rfl rfl rfl rfl ?_|(refine jdq rfl rfl ?_ ?_ ?_;kernel_rfl;kernel_rfl)|refine zB rfl rfl rfl (by repeat constructor) rfl ?_|refine zH .here rfl rfl rfl rfl ?_|refine zH (.there .here) rfl rfl rfl rfl ?_|refine zH (.there (.there .here)) rfl rfl rfl rfl ?_)
        refine oS (ev_indexAddr rfl rfl rfl hjl) rfl ?_
        refine oS (ev_load_agg rfl rfl (Rdb.ofF hc5) rfl) rfl ?_
        refine oE (ev_alloc (cs := zPr) rfl) rfl ?_
        rintro _ _ _ _ ⟨rfl, b17, rfl, rfl⟩
        refine oN (ev_store (b := b17) rfl rfl .agg rfl rfl (lay_all (zs := zPr) rfl) hone2 .here) rfl ?_
        rintro _ _ _ _ ⟨rfl, _, rfl⟩
        repeat (first|refine zJ rfl rfl ?_|refine jr rfl ?_|refine jn ?_|refine zM rfl rfl ?_|(refine zC rfl rfl ?_ rfl ?_;omega)|(refine zD rfl rfl ?_ rfl ?_;omega)|(refine zP rfl ?_ rfl ?_;omega)|refine zG rfl rfl rfl rfl ?_|(refine jdq rfl rfl ?_ ?_ ?_;kernel_rfl;kernel_rfl)|refine zB rfl rfl rfl (by repeat constructor) rfl ?_|refine zH .here rfl rfl rfl rfl ?_|refine zH (.there .here) rfl rfl rfl rfl ?_|refine zH (.there (.there .here)) rfl rfl rfl rfl ?_)
        refine oS (ev_load_agg (cs := [.int .i64 p.1, .int .i64 p.2.1, .slice ax p.2.2.1.length kx]) rfl rfl (Rdb.ofB (n := 0) .here rfl) rfl) rfl ?_
        refine oA (vs := [.int .i64 p.1, .int .i64 p.2.1, .slice ax p.2.2.1.length kx]) (K := fun v' => blk b17 58 [.int .i64 p.1, .int .i64 p.2.1, .slice ax p.2.2.1.length kx] :: own v' 58 3 (css3.length + 1) (css3.flatten ++ [.int .i64 p.1, .int .i64 p.2.1, .slice ax p.2.2.1.length kx]) :: own w 58 3 css2.length css2.flatten :: blk b13 58 [.int .i64 1, .int .i64 v, .slice ab bs.length kb] :: blk b12 53 [.int .i64 c.1, .int .i64 c.2.1, vp, .slice aq c.2.2.2.1.length kq, .slice (some ⟨b5, o5, none⟩) c.2.2.2.2.1.length kr] :: own (.slice av i kv) 55 6 i css.flatten :: X) (fun _ => rfl) rfl .agg rfl elPr hone2 (by omega) (fun _ => .there .here) rfl (fun _ => rfl) fun u _ => ?_
        repeat (first|refine zJ rfl rfl ?_|refine jr rfl ?_|refine jn ?_|refine zM rfl rfl ?_|(refine zC rfl rfl ?_ rfl ?_;omega)|(refine zD rfl rfl ?_ rfl ?_;omega)|(refine zP rfl ?_ rfl ?_;omega)|refine zG rfl rfl rfl rfl ?_|(refine jdq rfl rfl ?_ ?_ ?_;kernel_rfl;kernel_rfl)|refine zB rfl rfl rfl (by repeat constructor) rfl ?_|refine zH .here rfl rfl rfl rfl ?_|refine zH (.there .here) rfl rfl rfl rfl ?_|refine zH (.there (.there .here)) rfl rfl rfl rfl ?_)
        refine J_again3 (j + 1) u (css3 ++ [[.int .i64 p.1, .int .i64 p.2.1, .slice ax p.2.2.1.length kx]]) ⟨hjl, ?_⟩ (by omega) ⟨⟨rfl, rfl, rfl, rfl, rfl, rfl, rfl, rfl, rfl, rfl, rfl, rfl, rfl, rfl, rfl, rfl, trivial⟩, fun w s => ?_⟩
        · rw [ht2, List.filter_append, List.filter_cons_of_pos hkp]
          exact hal3.snoc hr5'
        · rw [List.length_append, List.flatten_append]
          exact s.drop
    obtain rfl : j = c.2.2.2.2.1.length := by omega
    rw [List.take_length] at hal3
    repeat (first|refine zJ rfl rfl ?_|refine jr rfl ?_|refine jn ?_|refine zM rfl rfl ?_|(refine zC rfl rfl ?_ rfl ?_;omega)|(refine zD rfl rfl ?_ rfl ?_;omega)|(refine zP rfl ?_ rfl ?_;omega)|refine zG rfl rfl rfl rfl ?_|(refine jdq rfl rfl ?_ ?_ ?_;kernel_rfl;kernel_rfl)|refine zB rfl rfl rfl (by repeat constructor) rfl ?_|refine zH .here rfl rfl rfl rfl ?_|refine zH (.there .here) rfl rfl rfl rfl ?_|refine zH (.there (.there .here)) rfl rfl rfl rfl ?_)
    have hxrep : tyPr.rep G3 (1, v, bs, ()) [.int .i64 1, .int .i64 v, .slice ab bs.length kb] := pr_mk (by decide) (by dsimp only [InK]; omega) hb4
    have hl2' : css2.length ≤ 80 := by rw [← hal2.len1]; exact Nat.le_trans (List.length_filter_le _ _) hfc1.1.1
    have hl3' : css3.length ≤ 80 := by rw [← hal3.len1]; exact Nat.le_trans (List.length_filter_le _ _) hfc1.2.1
    refine J_join (ι := Value × List (List Value) × Value × List (List Value)) [_] (fun t => All2 (tyPr.rep G3) (mkC v bs i c).2.2.2.1 t.2.1 ∧ All2 (tyPr.rep G3) (mkC v bs i c).2.2.2.2.1 t.2.2.2) (fun t => [(0, .slice (some ⟨ba, oa, none⟩) xs.length kh), (1, .slice al ls.length kl), (2, .slice ab bs.length kb), (9, .int .i64 v), (10, .slice av i kv), (11, .int .i64 i), (12, .pointer (some ⟨b12, 0, none⟩)), (13, .pointer (some ⟨b13, 0, none⟩)), (51, .slice (some ⟨ba, oa, none⟩) xs.length kh), (52, .int .i64 xs.length), (53, .int .i64 i), (14, t.1), (15, t.2.2.1)]) (fun _ => G3) (fun t => own t.2.2.1 58 3 t.2.2.2.length t.2.2.2.flatten :: own t.1 58 3 t.2.1.length t.2.1.flatten :: blk b13 58 [.int .i64 1, .int .i64 v, .slice ab bs.length kb] :: blk b12 53 [.int .i64 c.1, .int .i64 c.2.1, vp, .slice aq c.2.2.2.1.length kq, .slice ar c.2.2.2.2.1.length kr] :: own (.slice av i kv) 55 6 i css.flatten :: X) ?_ ?_
    · refine jOwn .here fun aw kw hw2 _ _ _ => ?_
      subst hw2
      refine jOwn (.there .here) fun aw2 kw2 hw3 _ _ _ => ?_
      subst hw3
      by_cases hi2 : i < 2
      · rw [decide_eq_true (show (i : Int) < 2 by omega)]
        repeat (first|refine zJ rfl rfl ?_|refine jr rfl ?_|refine jn ?_|refine zM rfl rfl ?_|(refine zC rfl rfl ?_ rfl ?_;omega)|(refine zD rfl rfl ?_ rfl ?_;omega)|(refine zP rfl ?_ rfl ?_;omega)|refine zG rfl rfl rfl rfl ?_|(refine jdq rfl rfl ?_ ?_ ?_;kernel_rfl;kernel_rfl)|refine zB rfl rfl rfl (by repeat constructor) rfl ?_|refine zH .here rfl rfl rfl rfl ?_|refine zH (.there .here) rfl rfl rfl rfl ?_|refine zH (.there (.there .here)) rfl rfl rfl rfl ?_)
        refine oS (ev_load_agg (cs := [.int .i64 1, .int .i64 v, .slice ab bs.length kb]) rfl rfl (Rdb.ofB (n := 0) (.there (.there .here)) rfl) rfl) rfl ?_
        refine oA (vs := [.int .i64 1, .int .i64 v, .slice ab bs.length kb]) (K := fun v' => own (.slice aw css3.length kw) 58 3 css3.length css3.flatten :: own v' 58 3 (css2.length + 1) (css2.flatten ++ [.int .i64 1, .int .i64 v, .slice ab bs.length kb]) :: blk b13 58 [.int .i64 1, .int .i64 v, .slice ab bs.length kb] :: blk b12 53 [.int .i64 c.1, .int .i64 c.2.1, vp, .slice aq c.2.2.2.1.length kq, .slice ar c.2.2.2.2.1.length kr] :: own (.slice av i kv) 55 6 i css.flatten :: X) (fun _ => rfl) rfl .agg rfl elPr (by (repeat (first | exact ones_nil | refine ones_cons rfl ?_))) (by omega) (fun _ => .there .here) rfl (fun _ => rfl) fun u _ => ?_
        repeat (first|refine zJ rfl rfl ?_|refine jr rfl ?_|refine jn ?_|refine zM rfl rfl ?_|(refine zC rfl rfl ?_ rfl ?_;omega)|(refine zD rfl rfl ?_ rfl ?_;omega)|(refine zP rfl ?_ rfl ?_;omega)|refine zG rfl rfl rfl rfl ?_|(refine jdq rfl rfl ?_ ?_ ?_;kernel_rfl;kernel_rfl)|refine zB rfl rfl rfl (by repeat constructor) rfl ?_|refine zH .here rfl rfl rfl rfl ?_|refine zH (.there .here) rfl rfl rfl rfl ?_|refine zH (.there (.there .here)) rfl rfl rfl rfl ?_)
        refine oS (ev_load_agg (cs := [.int .i64 1, .int .i64 v, .slice ab bs.length kb]) rfl rfl (Rdb.ofB (n := 0) (.there (.there .here)) rfl) rfl) rfl ?_
        refine oA (vs := [.int .i64 1, .int .i64 v, .slice ab bs.length kb]) (K := fun v' => own v' 58 3 (css3.length + 1) (css3.flatten ++ [.int .i64 1, .int .i64 v, .slice ab bs.length kb]) :: own u 58 3 (css2.length + 1) (css2.flatten ++ [.int .i64 1, .int .i64 v, .slice ab bs.length kb]) :: blk b13 58 [.int .i64 1, .int .i64 v, .slice ab bs.length kb] :: blk b12 53 [.int .i64 c.1, .int .i64 c.2.1, vp, .slice aq c.2.2.2.1.length kq, .slice ar c.2.2.2.2.1.length kr] :: own (.slice av i kv) 55 6 i css.flatten :: X) (fun _ => rfl) rfl .agg rfl elPr (by (repeat (first | exact ones_nil | refine ones_cons rfl ?_))) (by omega) (fun _ => .here) rfl (fun _ => rfl) fun u2 _ => ?_
        repeat (first|refine zJ rfl rfl ?_|refine jr rfl ?_|refine jn ?_|refine zM rfl rfl ?_|(refine zC rfl rfl ?_ rfl ?_;omega)|(refine zD rfl rfl ?_ rfl ?_;omega)|(refine zP rfl ?_ rfl ?_;omega)|refine zG rfl rfl rfl rfl ?_|(refine jdq rfl rfl ?_ ?_ ?_;kernel_rfl;kernel_rfl)|refine zB rfl rfl rfl (by repeat constructor) rfl ?_|refine zH .here rfl rfl rfl rfl ?_|refine zH (.there .here) rfl rfl rfl rfl ?_|refine zH (.there (.there .here)) rfl rfl rfl rfl ?_)
        have hadd : addX v bs i = [(1, v, bs, ())] := by unfold addX; rw [if_pos hi2]
        refine J_joined (u, css2 ++ [[.int .i64 1, .int .i64 v, .slice ab bs.length kb]], u2, css3 ++ [[.int .i64 1, .int .i64 v, .slice ab bs.length kb]]) ⟨?_, ?_⟩ ⟨⟨rfl, rfl, rfl, rfl, rfl, rfl, rfl, rfl, rfl, rfl, rfl, rfl, rfl, trivial⟩, fun w s => ?_⟩
        · show All2 _ (_ ++ addX v bs i) _
          rw [hadd]
          exact hal2.snoc hxrep
        · show All2 _ (_ ++ addX v bs i) _
          rw [hadd]
          exact hal3.snoc hxrep
        · dsimp only
          rw [List.length_append, List.length_append, List.flatten_append, List.flatten_append]
          exact s
      · rw [decide_eq_false (show ¬ (i : Int) < 2 by omega)]
        repeat (first|refine zJ rfl rfl ?_|refine jr rfl ?_|refine jn ?_|refine zM rfl rfl ?_|(refine zC rfl rfl ?_ rfl ?_;omega)|(refine zD rfl rfl ?_ rfl ?_;omega)|(refine zP rfl ?_ rfl ?_;omega)|refine zG rfl rfl rfl rfl ?_|(refine jdq rfl rfl ?_ ?_ ?_;kernel_rfl;kernel_rfl)|refine zB rfl rfl rfl (by repeat constructor) rfl ?_|refine zH .here rfl rfl rfl rfl ?_|refine zH (.there .here) rfl rfl rfl rfl ?_|refine zH (.there (.there .here)) rfl rfl rfl rfl ?_)
        have hadd : addX v bs i = [] := by unfold addX; rw [if_neg hi2]
        refine J_joined (.slice aw2 css2.length kw2, css2, .slice aw css3.length kw, css3) ⟨?_, ?_⟩ ⟨⟨rfl, rfl, rfl, rfl, rfl, rfl, rfl, rfl, rfl, rfl, rfl, rfl, rfl, trivial⟩, fun w s => s⟩
        · show All2 _ (_ ++ addX v bs i) _
          rw [hadd, List.append_nil]
          exact hal2
        · show All2 _ (_ ++ addX v bs i) _
          rw [hadd, List.append_nil]
          exact hal3
    rintro ⟨w, css4, w1, css5⟩ ⟨ha4, ha5⟩
    dsimp only at ha4 ha5 ⊢
    refine jOwn .here fun aw kw hw2 hkw hmx _ => ?_
    subst hw2
    refine J_persist fun hh hA hd => ?_
    have hr5 := row_own (te := tyPr) hA hd ha5 (ha5.len1)
    have hF6 := PH.le_l G3 hh
    generalize G3.un hh = G4 at *
    refine jOwn .here fun aw2 kw2 hw3 hkw2 hmx2 _ => ?_
    subst hw3
    refine J_persist fun hh2 hA2 hd2 => ?_
    have hq5 := row_own (te := tyPr) hA2 hd2 (ha4.mono fun _ _ h => tyPr.mono hF6 h) ha4.len1
    have hF7 := PH.le_l G4 hh2
    generalize G4.un hh2 = G5 at *
    have hr6 := hr5.mono hF7
    repeat (first|refine zJ rfl rfl ?_|refine jr rfl ?_|refine jn ?_|refine zM rfl rfl ?_|(refine zC rfl rfl ?_ rfl ?_;omega)|(refine zD rfl rfl ?_ rfl ?_;omega)|(refine zP rfl ?_ rfl ?_;omega)|refine zG rfl rfl rfl rfl ?_|(refine jdq rfl rfl ?_ ?_ ?_;kernel_rfl;kernel_rfl)|refine zB rfl rfl rfl (by repeat constructor) rfl ?_|refine zH .here rfl rfl rfl rfl ?_|refine zH (.there .here) rfl rfl rfl rfl ?_|refine zH (.there (.there .here)) rfl rfl rfl rfl ?_)
    refine oN (ev_store (b := b12) (s := [.int .i64 c.1, .int .i64 c.2.1, vp, .slice aw2 css4.length kw2, .slice ar c.2.2.2.2.1.length kr]) rfl rfl .slice rfl rfl (.skip (.skip (.skip (.put .nil)))) (ones_cons rfl ones_nil) (.there .here)) rfl ?_
    rintro _ _ _ _ ⟨rfl, _, rfl⟩
    repeat (first|refine zJ rfl rfl ?_|refine jr rfl ?_|refine jn ?_|refine zM rfl rfl ?_|(refine zC rfl rfl ?_ rfl ?_;omega)|(refine zD rfl rfl ?_ rfl ?_;omega)|(refine zP rfl ?_ rfl ?_;omega)|refine zG rfl rfl rfl rfl ?_|(refine jdq rfl rfl ?_ ?_ ?_;kernel_rfl;kernel_rfl)|refine zB rfl rfl rfl (by repeat constructor) rfl ?_|refine zH .here rfl rfl rfl rfl ?_|refine zH (.there .here) rfl rfl rfl rfl ?_|refine zH (.there (.there .here)) rfl rfl rfl rfl ?_)
    refine oN (ev_store (b := b12) (s := [.int .i64 c.1, .int .i64 c.2.1, vp, .slice aw2 css4.length kw2, .slice aw css5.length kw]) rfl rfl .slice rfl rfl (.skip (.skip (.skip (.skip (.put .nil))))) (ones_cons rfl ones_nil) (.there .here)) rfl ?_
    rintro _ _ _ _ ⟨rfl, _, rfl⟩
    repeat (first|refine zJ rfl rfl ?_|refine jr rfl ?_|refine jn ?_|refine zM rfl rfl ?_|(refine zC rfl rfl ?_ rfl ?_;omega)|(refine zD rfl rfl ?_ rfl ?_;omega)|(refine zP rfl ?_ rfl ?_;omega)|refine zG rfl rfl rfl rfl ?_|(refine jdq rfl rfl ?_ ?_ ?_;kernel_rfl;kernel_rfl)|refine zB rfl rfl rfl (by repeat constructor) rfl ?_|refine zH .here rfl rfl rfl rfl ?_|refine zH (.there .here) rfl rfl rfl rfl ?_|refine zH (.there (.there .here)) rfl rfl rfl rfl ?_)
    refine oS (ev_load_agg (cs := [.int .i64 c.1, .int .i64 c.2.1, vp, .slice aw2 css4.length kw2, .slice aw css5.length kw]) rfl rfl (Rdb.ofB (n := 0) (.there .here) rfl) rfl) rfl ?_
    repeat (first|refine zJ rfl rfl ?_|refine jr rfl ?_|refine jn ?_|refine zM rfl rfl ?_|(refine zC rfl rfl ?_ rfl ?_;omega)|(refine zD rfl rfl ?_ rfl ?_;omega)|(refine zP rfl ?_ rfl ?_;omega)|refine zG rfl rfl rfl rfl ?_|(refine jdq rfl rfl ?_ ?_ ?_;kernel_rfl;kernel_rfl)|refine zB rfl rfl rfl (by repeat constructor) rfl ?_|refine zH .here rfl rfl rfl rfl ?_|refine zH (.there .here) rfl rfl rfl rfl ?_|refine zH (.there (.there .here)) rfl rfl rfl rfl ?_)
    have hone9 : Ones (.int .i64 i :: [.int .i64 c.1, .int .i64 c.2.1, vp, .slice aw2 css4.length kw2, .slice aw css5.length kw] : List Value) := by
      obtain ⟨a', k', e', _⟩ := hp4.form
      rw [e']
      (repeat (first | exact ones_nil | refine ones_cons rfl ?_))
    refine oA (vs := .int .i64 i :: [.int .i64 c.1, .int .i64 c.2.1, vp, .slice aw2 css4.length kw2, .slice aw css5.length kw]) (K := fun v' => blk b13 58 [.int .i64 1, .int .i64 v, .slice ab bs.length kb] :: blk b12 53 [.int .i64 c.1, .int .i64 c.2.1, vp, .slice aw2 css4.length kw2, .slice aw css5.length kw] :: own v' 55 6 (i + 1) (css.flatten ++ .int .i64 i :: [.int .i64 c.1, .int .i64 c.2.1, vp, .slice aw2 css4.length kw2, .slice aw css5.length kw]) :: X) (fun _ => rfl) rfl .agg rfl elSg hone9 (by omega) (fun _ => .there (.there .here)) rfl (fun _ => rfl) fun u _ => ?_
    repeat (first|refine zJ rfl rfl ?_|refine jr rfl ?_|refine jn ?_|refine zM rfl rfl ?_|(refine zC rfl rfl ?_ rfl ?_;omega)|(refine zD rfl rfl ?_ rfl ?_;omega)|(refine zP rfl ?_ rfl ?_;omega)|refine zG rfl rfl rfl rfl ?_|(refine jdq rfl rfl ?_ ?_ ?_;kernel_rfl;kernel_rfl)|refine zB rfl rfl rfl (by repeat constructor) rfl ?_|refine zH .here rfl rfl rfl rfl ?_|refine zH (.there .here) rfl rfl rfl rfl ?_|refine zH (.there (.there .here)) rfl rfl rfl rfl ?_)
    refine J_again4 (i + 1) G5 u (css ++ [.int .i64 i :: [.int .i64 c.1, .int .i64 c.2.1, vp, .slice aw2 css4.length kw2, .slice aw css5.length kw]]) ⟨hlt, hmono.trans (hF6.trans hF7), ?_, ?_⟩ (by omega) ⟨⟨rfl, rfl, rfl, rfl, rfl, rfl, rfl, rfl, trivial⟩, fun w s => ?_⟩
    · rw [hmk]
      refine (hall4.mono fun _ _ h => tySg.mono (hF6.trans hF7) h).snoc (sg_mk (by dsimp only [InK]; omega) (ch_mk hk1 hk2 (hp4.mono (hF6.trans hF7)) ⟨hq5, ?_⟩ ⟨hr6, ?_⟩))
      · exact Nat.le_trans (Nat.le_of_eq ha4.len1) (Nat.le_trans hkw2 hmx2)
      · exact Nat.le_trans (Nat.le_of_eq ha5.len1) (Nat.le_trans hkw hmx)
    · intro k hk
      by_cases hki : k < i
      · exact hfew k hki
      · obtain rfl : k = i := by omega
        rw [hgd]
        exact hfc1
    · rw [List.flatten_append]
      simp only [List.flatten_cons, List.flatten_nil, List.append_nil]
      exact s.drop.drop
  · obtain rfl : i = xs.length := by omega
    rw [h3] at hall hi ⊢
    repeat (first|refine zJ rfl rfl ?_|refine jr rfl ?_|refine jn ?_|refine zM rfl rfl ?_|(refine zC rfl rfl ?_ rfl ?_;omega)|(refine zD rfl rfl ?_ rfl ?_;omega)|(refine zP rfl ?_ rfl ?_;omega)|refine zG rfl rfl rfl rfl ?_|(refine jdq rfl rfl ?_ ?_ ?_;kernel_rfl;kernel_rfl)|refine zB rfl rfl rfl (by repeat constructor) rfl ?_|refine zH .here rfl rfl rfl rfl ?_|refine zH (.there .here) rfl rfl rfl rfl ?_|refine zH (.there (.there .here)) rfl rfl rfl rfl ?_)
    refine J_loop3 (fun (j : Nat) (w : Value) (cs2 : List (List Value)) => j ≤ ls.length ∧ All2 (tySg.rep G) (mks v bs xs 3 ++ (ls.take j).map lie3) cs2) (fun j _ _ => ls.length - j) (fun j w _ => [(1, .slice al ls.length kl), (2, .slice ab bs.length kb), (10, w), (143, .slice al ls.length kl), (144, .int .i64 ls.length), (145, .int .i64 j)]) (fun _ _ _ => G) (fun j w cs2 => own w 55 6 (3 + j) cs2.flatten :: X) 0 lv css
      ⟨Nat.zero_le _, by rw [List.take_zero, List.map_nil, List.append_nil]; exact hall⟩ ⟨⟨rfl, rfl, rfl, rfl, rfl, rfl, trivial⟩, fun _ h => h⟩ ?_
    rintro j w cs2 ⟨hj, hal2⟩
    by_cases hjl : j < ls.length
    · have g2 : ls[j]? = some ls[j] := List.getElem?_eq_getElem hjl
      have ht2 : ls.take (j + 1) = ls.take j ++ [ls[j]] := by rw [List.take_add_one, g2]; rfl
      obtain ⟨b5, o5, c5, rfl, hc5, hr5, _⟩ := (hl2.mono hG).1.at g2
      generalize ls[j] = y at *
      obtain ⟨cs', hcs, _, hch⟩ := sg_of hr5
      have hone2 := tySg.ones hr5
      subst hcs
      obtain ⟨vp, vq, vr, rfl, _⟩ := ch_of hch
      have hone3 : Ones (.int .i64 3 :: chC y.2.1.1 y.2.1.2.1 vp vq vr : List Value) := ones_cons rfl (ones_tail hone2)
      have hr6 : tySg.rep G (lie3 y) _ := sg_mk (f := 3) (by decide) hch
      unfold chC at hone2 hone3 hc5 hr6
      refine jOwn .here fun aw kw hw2 _ _ _ => ?_
      subst hw2
      repeat (first|refine zJ rfl rfl ?_|refine jr rfl ?_|refine jn ?_|refine zM rfl rfl ?_|(refine zC rfl rfl ?_ rfl ?_;omega)|(refine zD rfl rfl ?_ rfl ?_;omega)|(refine zP rfl ?_ rfl ?_;omega)|refine zG rfl rfl rfl rfl ?_|(refine jdq rfl rfl ?_ ?_ ?_;kernel_rfl;kernel_rfl)|refine zB rfl rfl rfl (by repeat constructor) rfl ?_|refine zH .here rfl rfl rfl rfl ?_|refine zH (.there .here) rfl rfl rfl rfl ?_|refine zH (.there (.there .here)) rfl rfl rfl rfl ?_)
      refine oS (ev_indexAddr rfl rfl rfl hjl) rfl ?_
      refine oS (ev_load_agg rfl rfl (Rdb.ofF hc5) rfl) rfl ?_
      refine oE (ev_alloc (cs := zSg) rfl) rfl ?_
      rintro _ _ _ _ ⟨rfl, b21, rfl, rfl⟩
      refine oN (ev_store (b := b21) rfl rfl .agg rfl rfl (lay_all (zs := zSg) rfl) hone2 .here) rfl ?_
      rintro _ _ _ _ ⟨rfl, _, rfl⟩
      repeat (first|refine zJ rfl rfl ?_|refine jr rfl ?_|refine jn ?_|refine zM rfl rfl ?_|(refine zC rfl rfl ?_ rfl ?_;omega)|(refine zD rfl rfl ?_ rfl ?_;omega)|(refine zP rfl ?_ rfl ?_;omega)|refine zG rfl rfl rfl rfl ?_|(refine jdq rfl rfl ?_ ?_ ?_;kernel_rfl;kernel_rfl)|refine zB rfl rfl rfl (by repeat constructor) rfl ?_|refine zH .here rfl rfl rfl rfl ?_|refine zH (.there .here) rfl rfl rfl rfl ?_|refine zH (.there (.there .here)) rfl rfl rfl rfl ?_)
      refine oN (ev_store (b := b21) (s := [.int .i64 3, .int .i64 y.2.1.1, .int .i64 y.2.1.2.1, vp, vq, vr]) rfl rfl .int rfl rfl (.put .nil) (ones_cons rfl ones_nil) .here) rfl ?_
      rintro _ _ _ _ ⟨rfl, _, rfl⟩
      repeat (first|refine zJ rfl rfl ?_|refine jr rfl ?_|refine jn ?_|refine zM rfl rfl ?_|(refine zC rfl rfl ?_ rfl ?_;omega)|(refine zD rfl rfl ?_ rfl ?_;omega)|(refine zP rfl ?_ rfl ?_;omega)|refine zG rfl rfl rfl rfl ?_|(refine jdq rfl rfl ?_ ?_ ?_;kernel_rfl;kernel_rfl)|refine zB rfl rfl rfl (by repeat constructor) rfl ?_|refine zH .here rfl rfl rfl rfl ?_|refine zH (.there .here) rfl rfl rfl rfl ?_|refine zH (.there (.there .here)) rfl rfl rfl rfl ?_)
      refine oS (ev_load_agg (cs := [.int .i64 3, .int .i64 y.2.1.1, .int .i64 y.2.1.2.1, vp, vq, vr]) rfl rfl (Rdb.ofB (n := 0) .here rfl) rfl) rfl ?_
      refine oA (vs := [.int .i64 3, .int .i64 y.2.1.1, .int .i64 y.2.1.2.1, vp, vq, vr]) (K := fun v' => blk b21 55 [.int .i64 3, .int .i64 y.2.1.1, .int .i64 y.2.1.2.1, vp, vq, vr] :: own v' 55 6 (3 + j + 1) (cs2.flatten ++ [.int .i64 3, .int .i64 y.2.1.1, .int .i64 y.2.1.2.1, vp, vq, vr]) :: X) (fun _ => rfl) rfl .agg rfl elSg hone3 (by omega) (fun _ => .there .here) rfl (fun _ => rfl) fun u _ => ?_
      repeat (first|refine zJ rfl rfl ?_|refine jr rfl ?_|refine jn ?_|refine zM rfl rfl ?_|(refine zC rfl rfl ?_ rfl ?_;omega)|(refine zD rfl rfl ?_ rfl ?_;omega)|(refine zP rfl ?_ rfl ?_;omega)|refine zG rfl rfl rfl rfl ?_|(refine jdq rfl rfl ?_ ?_ ?_;kernel_rfl;kernel_rfl)|refine zB rfl rfl rfl (by repeat constructor) rfl ?_|refine zH .here rfl rfl rfl rfl ?_|refine zH (.there .here) rfl rfl rfl rfl ?_|refine zH (.there (.there .here)) rfl rfl rfl rfl ?_)
      refine J_again3 (j + 1) u (cs2 ++ [[.int .i64 3, .int .i64 y.2.1.1, .int .i64 y.2.1.2.1, vp, vq, vr]]) ⟨hjl, ?_⟩ (by omega) ⟨⟨rfl, rfl, rfl, rfl, rfl, rfl, trivial⟩, fun w s => ?_⟩
      · rw [ht2, List.map_append, ← List.append_assoc]
        exact hal2.snoc hr6
      · rw [List.flatten_append]
        simp only [List.flatten_cons, List.flatten_nil, List.append_nil]
        exact s.drop
    obtain rfl : j = ls.length := by omega
    rw [List.take_length] at hal2
    refine jOwn .here fun aw kw hw2 hkw hmx _ => ?_
    subst hw2
    refine J_persist fun hh hA hd => ?_
    have hnl : (mks v bs xs 3 ++ ls.map lie3).length = 3 + ls.length := by rw [List.length_append, List.length_map]; simp [mks]
    have hL := row_own (te := tySg) hA hd hal2 hnl
    have hF6 := PH.le_l G hh
    generalize G.un hh = G1 at *
    have hLL : mks v bs xs 3 ++ ls.map lie3 = rowK v bs (xs.getD 0 dflt) (xs.getD 1 dflt) (xs.getD 2 dflt) ls := rfl
    have hL10 : Few10 (mks v bs xs 3 ++ ls.map lie3) := by
      intro s hs q hq
      rcases List.mem_append.1 hs with hs | hs
      · obtain ⟨k, hk, rfl⟩ := List.mem_map.1 hs
        have hk3 := List.mem_range.1 hk
        have hf := hfew k (by omega)
        rcases List.mem_append.1 (show q ∈ _ ++ addX v bs k from hq) with hq | hq
        · exact hf.1.2 q (List.mem_filter.1 hq).1
        · unfold addX at hq
          split at hq
          · rw [List.mem_singleton] at hq
            subst hq
            exact hb10
          · cases hq
      · obtain ⟨t, ht, rfl⟩ := List.mem_map.1 hs
        exact (hfl t ht).1.2 q hq
    generalize hLd : mks v bs xs 3 ++ ls.map lie3 = L at *
    have hlen : L.length ≤ 4 := by omega
    rw [← hnl]
    rw [← hnl] at hL
    repeat (first|refine zJ rfl rfl ?_|refine jr rfl ?_|refine jn ?_|refine zM rfl rfl ?_|(refine zC rfl rfl ?_ rfl ?_;omega)|(refine zD rfl rfl ?_ rfl ?_;omega)|(refine zP rfl ?_ rfl ?_;omega)|refine zG rfl rfl rfl rfl ?_|(refine jdq rfl rfl ?_ ?_ ?_;kernel_rfl;kernel_rfl)|refine zB rfl rfl rfl (by repeat constructor) rfl ?_|refine zH .here rfl rfl rfl rfl ?_|refine zH (.there .here) rfl rfl rfl rfl ?_|refine zH (.there (.there .here)) rfl rfl rfl rfl ?_)
    refine J_loop2 (fun (k : Nat) (G2 : PH) => k ≤ L.length + 1 ∧ G1.le G2) (fun k _ => L.length + 1 - k) (fun k _ => [(2, .slice ab bs.length kb), (10, .slice aw L.length kw), (157, .int .i64 (L.length + 1 : Nat)), (158, .int .i64 k)]) (fun _ G2 => G2) (fun _ _ => X) 0 G1
      ⟨Nat.zero_le _, PH.ler _⟩ ⟨⟨rfl, rfl, rfl, rfl, trivial⟩, fun _ h => h⟩ ?_
    rintro k G2 ⟨hk, hG2⟩
    by_cases hkl : k < L.length + 1
    · repeat (first|refine zJ rfl rfl ?_|refine jr rfl ?_|refine jn ?_|refine zM rfl rfl ?_|(refine zC rfl rfl ?_ rfl ?_;omega)|(refine zD rfl rfl ?_ rfl ?_;omega)|(refine zP rfl ?_ rfl ?_;omega)|refine zG rfl rfl rfl rfl ?_|(refine jdq rfl rfl ?_ ?_ ?_;kernel_rfl;kernel_rfl)|refine zB rfl rfl rfl (by repeat constructor) rfl ?_|refine zH .here rfl rfl rfl rfl ?_|refine zH (.there .here) rfl rfl rfl rfl ?_|refine zH (.there (.there .here)) rfl rfl rfl rfl ?_)
      refine J_own_nil 55 6 ?_
      refine J_loop3 (fun (j : Nat) (w : Value) (cs3 : List (List Value)) => j ≤ L.length ∧ All2 (tySg.rep G2) ((L.take j).eraseIdx k) cs3) (fun j _ _ => L.length - j) (fun j w _ => [(2, .slice ab bs.length kb), (10, .slice aw L.length kw), (157, .int .i64 (L.length + 1 : Nat)), (158, .int .i64 k), (22, .int .i64 k), (23, w), (161, .slice aw L.length kw), (162, .int .i64 L.length), (163, .int .i64 j)]) (fun _ _ _ => G2) (fun _ w cs3 => own w 55 6 cs3.length cs3.flatten :: X) 0 (.slice none 0 0) []
        ⟨Nat.zero_le _, by rw [List.take_zero]; exact .nil⟩ ⟨⟨rfl, rfl, rfl, rfl, rfl, rfl, rfl, rfl, rfl, trivial⟩, fun _ h => h⟩ ?_
      rintro j w cs3 ⟨hj, hal3⟩
      by_cases hjl : j < L.length
      · have g2 : L[j]? = some L[j] := List.getElem?_eq_getElem hjl
        have hst := erase_step k g2
        have hl3 : cs3.length ≤ 4 := by rw [← hal3.len1]; exact Nat.le_trans (List.length_eraseIdx_le _ _) (by rw [List.length_take]; omega)
        obtain ⟨b5, o5, c5, hbo, hc5, hr5, _⟩ := (hL.mono hG2).at g2
        subst hbo
        generalize L[j] = y at *
        obtain ⟨cs', hcs, _, hch⟩ := sg_of hr5
        have hone2 := tySg.ones hr5
        have hr6 := hr5
        subst hcs
        obtain ⟨vp, vq, vr, rfl, _⟩ := ch_of hch
        unfold chC at hone2 hc5 hr6
        refine jOwn .here fun aw3 kw3 hw3 _ _ _ => ?_
        subst hw3
        by_cases hjk : j = k
        · rw [if_pos hjk] at hst
          repeat (first|refine zJ rfl rfl ?_|refine jr rfl ?_|refine jn ?_|refine zM rfl rfl ?_|(refine zC rfl rfl ?_ rfl ?_;omega)|(refine zD rfl rfl ?_ rfl ?_;omega)|(refine zP rfl ?_ rfl ?_;omega)|refine zG rfl rfl rfl rfl ?_|(refine jdq rfl rfl ?_ ?_ ?_;kernel_rfl;kernel_rfl)|refine zB rfl rfl rfl (by repeat constructor) rfl ?_|refine zH .here rfl rfl rfl rfl ?_|refine zH (.there .here) rfl rfl rfl rfl ?_|refine zH (.there (.there .here)) rfl rfl rfl rfl ?_)
          refine oS (ev_indexAddr rfl rfl rfl hjl) rfl ?_
          refine oS (ev_load_agg rfl rfl (Rdb.ofF hc5) rfl) rfl ?_
          refine oE (ev_alloc (cs := zSg) rfl) rfl ?_
          rintro _ _ _ _ ⟨rfl, b25, rfl, rfl⟩
          repeat (first|refine zJ rfl rfl ?_|refine jr rfl ?_|refine jn ?_|refine zM rfl rfl ?_|(refine zC rfl rfl ?_ rfl ?_;omega)|(refine zD rfl rfl ?_ rfl ?_;omega)|(refine zP rfl ?_ rfl ?_;omega)|refine zG rfl rfl rfl rfl ?_|(refine jdq rfl rfl ?_ ?_ ?_;kernel_rfl;kernel_rfl)|refine zB rfl rfl rfl (by repeat constructor) rfl ?_|refine zH .here rfl rfl rfl rfl ?_|refine zH (.there .here) rfl rfl rfl rfl ?_|refine zH (.there (.there .here)) rfl rfl rfl rfl ?_)
          refine oN (ev_store (b := b25) rfl rfl .agg rfl rfl (lay_all (zs := zSg) rfl) hone2 .here) rfl ?_
          rintro _ _ _ _ ⟨rfl, _, rfl⟩
          repeat (first|refine zJ rfl rfl ?_|refine jr rfl ?_|refine jn ?_|refine zM rfl rfl ?_|(refine zC rfl rfl ?_ rfl ?_;omega)|(refine zD rfl rfl ?_ rfl ?_;omega)|(refine zP rfl ?_ rfl ?_;omega)|refine zG rfl rfl rfl rfl ?_|(refine jdq rfl rfl ?_ ?_ ?_;kernel_rfl;kernel_rfl)|refine zB rfl rfl rfl (by repeat constructor) rfl ?_|refine zH .here rfl rfl rfl rfl ?_|refine zH (.there .here) rfl rfl rfl rfl ?_|refine zH (.there (.there .here)) rfl rfl rfl rfl ?_)
          exact J_again3 (j + 1) (.slice aw3 cs3.length kw3) cs3 ⟨hjl, by rw [hst]; exact hal3⟩ (by omega) ⟨⟨rfl, rfl, rfl, rfl, rfl, rfl, rfl, rfl, rfl, trivial⟩, fun w s => s.drop⟩
        · rw [if_neg hjk] at hst
          repeat (first|refine zJ rfl rfl ?_|refine jr rfl ?_|refine jn ?_|refine zM rfl rfl ?_|(refine zC rfl rfl ?_ rfl ?_;omega)|(refine zD rfl rfl ?_ rfl ?_;omega)|(refine zP rfl ?_ rfl ?_;omega)|refine zG rfl rfl rfl rfl ?_|(refine jdq rfl rfl ?_ ?_ ?_;kernel_rfl;kernel_rfl)|refine zB rfl rfl rfl (by repeat constructor) rfl ?_|refine zH .here rfl rfl rfl rfl ?_|refine zH (.there .here) rfl rfl rfl rfl ?_|refine zH (.there (.there .here)) rfl rfl rfl rfl ?_)
          refine oS (ev_indexAddr rfl rfl rfl hjl) rfl ?_
          refine oS (ev_load_agg rfl rfl (Rdb.ofF hc5) rfl) rfl ?_
          refine oE (ev_alloc (cs := zSg) rfl) rfl ?_
          rintro _ _ _ _ ⟨rfl, b25, rfl, rfl⟩
          repeat (first|refine zJ rfl rfl ?_|refine jr rfl ?_|refine jn ?_|refine zM rfl rfl ?_|(refine zC rfl rfl ?_ rfl ?_;omega)|(refine zD rfl rfl ?_ rfl ?_;omega)|(refine zP rfl ?_ rfl ?_;omega)|refine zG rfl rfl rfl rfl ?_|(refine jdq rfl rfl ?_ ?_ ?_;kernel_rfl;kernel_rfl)|refine zB rfl rfl rfl (by repeat constructor) rfl ?_|refine zH .here rfl rfl rfl rfl ?_|refine zH (.there .here) rfl rfl rfl rfl ?_|refine zH (.there (.there .here)) rfl rfl rfl rfl ?_)
          refine oN (ev_store (b := b25) rfl rfl .agg rfl rfl (lay_all (zs := zSg) rfl) hone2 .here) rfl ?_
          rintro _ _ _ _ ⟨rfl, _, rfl⟩
          repeat (first|refine zJ rfl rfl ?_|refine jr rfl ?_|refine jn ?_|refine zM rfl rfl ?_|(refine zC rfl rfl ?_ rfl ?_;omega)|(refine zD rfl rfl ?_ rfl ?_;omega)|(refine zP rfl ?_ rfl ?_;omega)|refine zG rfl rfl rfl rfl ?_|(refine jdq rfl rfl ?_ ?_ ?_;kernel_rfl;kernel_rfl)|refine zB rfl rfl rfl (by repeat constructor) rfl ?_|refine zH .here rfl rfl rfl rfl ?_|refine zH (.there .here) rfl rfl rfl rfl ?_|refine zH (.there (.there .here)) rfl rfl rfl rfl ?_)
          refine oS (ev_load_agg (cs := [.int .i64 y.1, .int .i64 y.2.1.1, .int .i64 y.2.1.2.1, vp, vq, vr]) rfl rfl (Rdb.ofB (n := 0) .here rfl) rfl) rfl ?_
          refine oA (vs := [.int .i64 y.1, .int .i64 y.2.1.1, .int .i64 y.2.1.2.1, vp, vq, vr]) (K := fun v' => blk b25 55 [.int .i64 y.1, .int .i64 y.2.1.1, .int .i64 y.2.1.2.1, vp, vq, vr] :: own v' 55 6 (cs3.length + 1) (cs3.flatten ++ [.int .i64 y.1, .int .i64 y.2.1.1, .int .i64 y.2.1.2.1, vp, vq, vr]) :: X) (fun _ => rfl) rfl .agg rfl elSg hone2 (by omega) (fun _ => .there .here) rfl (fun _ => rfl) fun u _ => ?_
          repeat (first|refine zJ rfl rfl ?_|refine jr rfl ?_|refine jn ?_|refine zM rfl rfl ?_|(refine zC rfl rfl ?_ rfl ?_;omega)|(refine zD rfl rfl ?_ rfl ?_;omega)|(refine zP rfl ?_ rfl ?_;omega)|refine zG rfl rfl rfl rfl ?_|(refine jdq rfl rfl ?_ ?_ ?_;kernel_rfl;kernel_rfl)|refine zB rfl rfl rfl (by repeat constructor) rfl ?_|refine zH .here rfl rfl rfl rfl ?_|refine zH (.there .here) rfl rfl rfl rfl ?_|refine zH (.there (.there .here)) rfl rfl rfl rfl ?_)
          refine J_again3 (j + 1) u (cs3 ++ [[.int .i64 y.1, .int .i64 y.2.1.1, .int .i64 y.2.1.2.1, vp, vq, vr]]) ⟨hjl, ?_⟩ (by omega) ⟨⟨rfl, rfl, rfl, rfl, rfl, rfl, rfl, rfl, rfl, trivial⟩, fun w s => ?_⟩
          · rw [hst]
            exact hal3.snoc hr6
          · rw [List.length_append, List.flatten_append]
            simp only [List.flatten_cons, List.flatten_nil, List.append_nil]
            exact s.drop
      obtain rfl : j = L.length := by omega
      rw [List.take_length] at hal3
      refine jOwn .here fun aw3 kw3 hw3 hkw3 hmx3 _ => ?_
      subst hw3
      refine J_persist fun hh3 hA3 hd3 => ?_
      have hS := row_own (te := tySg) hA3 hd3 hal3 hal3.len1
      have hF8 := PH.le_l G2 hh3
      generalize G2.un hh3 = G3 at *
      have hSB : (L.eraseIdx k).length ≤ maxLen := Nat.le_trans (Nat.le_of_eq hal3.len1) (Nat.le_trans hkw3 hmx3)
      have hS10 : Few10 (L.eraseIdx k) := fun s hs q hq => hL10 s (List.mem_of_mem_eraseIdx hs) q hq
      have hbb := (hb2.mono hG).mono (hF6.trans (hG2.trans hF8))
      repeat (first|refine zJ rfl rfl ?_|refine jr rfl ?_|refine jn ?_|refine zM rfl rfl ?_|(refine zC rfl rfl ?_ rfl ?_;omega)|(refine zD rfl rfl ?_ rfl ?_;omega)|(refine zP rfl ?_ rfl ?_;omega)|refine zG rfl rfl rfl rfl ?_|(refine jdq rfl rfl ?_ ?_ ?_;kernel_rfl;kernel_rfl)|refine zB rfl rfl rfl (by repeat constructor) rfl ?_|refine zH .here rfl rfl rfl rfl ?_|refine zH (.there .here) rfl rfl rfl rfl ?_|refine zH (.there (.there .here)) rfl rfl rfl rfl ?_)
      refine oC (Hc := []) (Hr := X) (choose_spec _ (L.eraseIdx k) G3 ⟨hS, hSB⟩ hS10) Try.call27 rfl rfl (fun _ s => s) ?_
      rintro u4 G4 _ hF9 ⟨rfl, hres⟩
      have hG4 := hG2.trans (hF8.trans hF9)
      cases hch : chooseP (L.eraseIdx k) with
      | none =>
        rw [hch] at hres
        subst hres
        repeat (first|refine zJ rfl rfl ?_|refine jr rfl ?_|refine jn ?_|refine zM rfl rfl ?_|(refine zC rfl rfl ?_ rfl ?_;omega)|(refine zD rfl rfl ?_ rfl ?_;omega)|(refine zP rfl ?_ rfl ?_;omega)|refine zG rfl rfl rfl rfl ?_|(refine jdq rfl rfl ?_ ?_ ?_;kernel_rfl;kernel_rfl)|refine zB rfl rfl rfl (by repeat constructor) rfl ?_|refine zH .here rfl rfl rfl rfl ?_|refine zH (.there .here) rfl rfl rfl rfl ?_|refine zH (.there (.there .here)) rfl rfl rfl rfl ?_)
        refine oE (ev_alloc (cs := zCho) rfl) rfl ?_
        rintro _ _ _ _ ⟨rfl, b26, rfl, rfl⟩
        refine oN (ev_store (b := b26) (vs := zCho) rfl rfl .agg rfl (choC_len rfl) (lay_all (zs := zCho) (choC_len rfl)) (choC_ones rfl) .here) rfl ?_
        rintro _ _ _ _ ⟨rfl, _, rfl⟩
        repeat (first|refine zJ rfl rfl ?_|refine jr rfl ?_|refine jn ?_|refine zM rfl rfl ?_|(refine zC rfl rfl ?_ rfl ?_;omega)|(refine zD rfl rfl ?_ rfl ?_;omega)|(refine zP rfl ?_ rfl ?_;omega)|refine zG rfl rfl rfl rfl ?_|(refine jdq rfl rfl ?_ ?_ ?_;kernel_rfl;kernel_rfl)|refine zB rfl rfl rfl (by repeat constructor) rfl ?_|refine zH .here rfl rfl rfl rfl ?_|refine zH (.there .here) rfl rfl rfl rfl ?_|refine zH (.there (.there .here)) rfl rfl rfl rfl ?_)
        exact J_again2 (k + 1) G4 ⟨by omega, hG4⟩ (by omega) ⟨⟨rfl, rfl, rfl, rfl, trivial⟩, fun w s => s.drop⟩
      | some pb =>
        obtain ⟨p, bt⟩ := pb
        rw [hch] at hres
        obtain ⟨⟨hpk, hp32⟩, bv, rfl, hbv⟩ := hres
        obtain ⟨bva, bvk, rfl, _⟩ := hbv.form
        have hcl : ∀ v : Value, choC p.1 p.2.1 v = .int .i64 p.1 :: (u8s p.2.1 ++ [v]) := fun _ => rfl
        repeat (first|refine zJ rfl rfl ?_|refine jr rfl ?_|refine jn ?_|refine zM rfl rfl ?_|(refine zC rfl rfl ?_ rfl ?_;omega)|(refine zD rfl rfl ?_ rfl ?_;omega)|(refine zP rfl ?_ rfl ?_;omega)|refine zG rfl rfl rfl rfl ?_|(refine jdq rfl rfl ?_ ?_ ?_;kernel_rfl;kernel_rfl)|refine zB rfl rfl rfl (by repeat constructor) rfl ?_|refine zH .here rfl rfl rfl rfl ?_|refine zH (.there .here) rfl rfl rfl rfl ?_|refine zH (.there (.there .here)) rfl rfl rfl rfl ?_)
        refine oE (ev_alloc (cs := zCho) rfl) rfl ?_
        rintro _ _ _ _ ⟨rfl, b26, rfl, rfl⟩
        refine oN (ev_store (b := b26) (vs := choC p.1 p.2.1 (.slice bva bt.length bvk)) rfl rfl .agg rfl (choC_len hp32) (lay_all (zs := zCho) (choC_len hp32)) (choC_ones rfl) .here) rfl ?_
        rintro _ _ _ _ ⟨rfl, _, rfl⟩
        by_cases hp0 : p.1 = 0
        · obtain ⟨es, hes, hsm⟩ := keeps_law (v := v) (b := bs) (c0 := xs.getD 0 dflt) (c1 := xs.getD 1 dflt) (c2 := xs.getD 2 dflt) (ls := ls) hl1 k (by rw [← hLL]; exact hch) hp0
          obtain ⟨bx, ox, cx, hbo, hcx, ⟨vx, rfl, hvx, hvxm⟩, hlt0⟩ := hbv.1.at hes
          subst hbo
          have hsp := rsame_spec vx (.slice ab bs.length kb) es bs G4 ⟨hvx, hvxm⟩ (hbb.mono hF9)
          rw [hsm] at hsp
          repeat (first|refine zJ rfl rfl ?_|refine jr rfl ?_|refine jn ?_|refine zM rfl rfl ?_|(refine zC rfl rfl ?_ rfl ?_;omega)|(refine zD rfl rfl ?_ rfl ?_;omega)|(refine zP rfl ?_ rfl ?_;omega)|refine zG rfl rfl rfl rfl ?_|(refine jdq rfl rfl ?_ ?_ ?_;kernel_rfl;kernel_rfl)|refine zB rfl rfl rfl (by repeat constructor) rfl ?_|refine zH .here rfl rfl rfl rfl ?_|refine zH (.there .here) rfl rfl rfl rfl ?_|refine zH (.there (.there .here)) rfl rfl rfl rfl ?_)
          refine oS (ev_load (v := .slice (some ⟨bx, ox, none⟩) bt.length bvk) rfl rfl (Rdb.ofB (n := 0) .here (choC_last hp32))) rfl ?_
          repeat (first|refine zJ rfl rfl ?_|refine jr rfl ?_|refine jn ?_|refine zM rfl rfl ?_|(refine zC rfl rfl ?_ rfl ?_;omega)|(refine zD rfl rfl ?_ rfl ?_;omega)|(refine zP rfl ?_ rfl ?_;omega)|refine zG rfl rfl rfl rfl ?_|(refine jdq rfl rfl ?_ ?_ ?_;kernel_rfl;kernel_rfl)|refine zB rfl rfl rfl (by repeat constructor) rfl ?_|refine zH .here rfl rfl rfl rfl ?_|refine zH (.there .here) rfl rfl rfl rfl ?_|refine zH (.there (.there .here)) rfl rfl rfl rfl ?_)
          refine oS (ev_load (v := .slice (some ⟨bx, ox, none⟩) bt.length bvk) rfl rfl (Rdb.ofB (n := 0) .here (choC_last hp32))) rfl ?_
          refine oS (ev_indexAddr (i := 0) rfl rfl rfl hlt0) rfl ?_
          refine oS (ev_load (v := vx) rfl rfl (Rdb.ofF hcx)) rfl ?_
          repeat (first|refine zJ rfl rfl ?_|refine jr rfl ?_|refine jn ?_|refine zM rfl rfl ?_|(refine zC rfl rfl ?_ rfl ?_;omega)|(refine zD rfl rfl ?_ rfl ?_;omega)|(refine zP rfl ?_ rfl ?_;omega)|refine zG rfl rfl rfl rfl ?_|(refine jdq rfl rfl ?_ ?_ ?_;kernel_rfl;kernel_rfl)|refine zB rfl rfl rfl (by repeat constructor) rfl ?_|refine zH .here rfl rfl rfl rfl ?_|refine zH (.there .here) rfl rfl rfl rfl ?_|refine zH (.there (.there .here)) rfl rfl rfl rfl ?_)
          refine oP (hsp) Try.call21 rfl rfl ?_
          repeat (first|refine zJ rfl rfl ?_|refine jr rfl ?_|refine jn ?_|refine zM rfl rfl ?_|(refine zC rfl rfl ?_ rfl ?_;omega)|(refine zD rfl rfl ?_ rfl ?_;omega)|(refine zP rfl ?_ rfl ?_;omega)|refine zG rfl rfl rfl rfl ?_|(refine jdq rfl rfl ?_ ?_ ?_;kernel_rfl;kernel_rfl)|refine zB rfl rfl rfl (by repeat constructor) rfl ?_|refine zH .here rfl rfl rfl rfl ?_|refine zH (.there .here) rfl rfl rfl rfl ?_|refine zH (.there (.there .here)) rfl rfl rfl rfl ?_)
          exact J_again2 (k + 1) G4 ⟨by omega, hG4⟩ (by omega) ⟨⟨rfl, rfl, rfl, rfl, trivial⟩, fun w s => s.drop⟩
        · repeat (first|refine zJ rfl rfl ?_|refine jr rfl ?_|refine jn ?_|refine zM rfl rfl ?_|(refine zC rfl rfl ?_ rfl ?_;omega)|(refine zD rfl rfl ?_ rfl ?_;omega)|(refine zP rfl ?_ rfl ?_;omega)|refine zG rfl rfl rfl rfl ?_|(refine jdq rfl rfl ?_ ?_ ?_;kernel_rfl;kernel_rfl)|refine zB rfl rfl rfl (by repeat constructor) rfl ?_|refine zH .here rfl rfl rfl rfl ?_|refine zH (.there .here) rfl rfl rfl rfl ?_|refine zH (.there (.there .here)) rfl rfl rfl rfl ?_)
          exact J_again2 (k + 1) G4 ⟨by omega, hG4⟩ (by omega) ⟨⟨rfl, rfl, rfl, rfl, trivial⟩, fun w s => s.drop⟩
    obtain rfl : k = L.length + 1 := by omega
    repeat (first|refine zJ rfl rfl ?_|refine jr rfl ?_|refine jn ?_|refine zM rfl rfl ?_|(refine zC rfl rfl ?_ rfl ?_;omega)|(refine zD rfl rfl ?_ rfl ?_;omega)|(refine zP rfl ?_ rfl ?_;omega)|refine zG rfl rfl rfl rfl ?_|(refine jdq rfl rfl ?_ ?_ ?_;kernel_rfl;kernel_rfl)|refine zB rfl rfl rfl (by repeat constructor) rfl ?_|refine zH .here rfl rfl rfl rfl ?_|refine zH (.there .here) rfl rfl rfl rfl ?_|refine zH (.there (.there .here)) rfl rfl rfl rfl ?_)
    exact J_retv rfl (.tmp rfl .nil) [] (fun w s => s) (hFF.trans (hG.trans (hF6.trans hG2))) ⟨rfl, rfl⟩
open Go.ChangeShapes Go.WideShapes Go.ChangeAt
set_option maxRecDepth 100000 in theorem ChooseKeeps_lifted (os : Os) (started : os.Started) (H : Type) (enc : TypeId × Value → H) : ReturnsInHanded {} Try.checked os 5 .any (Rows.chooseKeepsSpec.pre6 enc Try.prog Try.f5 Rows.chooseKeepsRow.domain false) (Rows.chooseKeepsSpec.post enc Try.prog Try.f5 false true false false) := by
  refine returnsInHanded_of_change (C := Try.checked) own_knob started (by kernel_rfl) Try.func5 (ChangeSpec.witness6 (enc := enc) (C := Try.checked) false ⟨#[], #[.slice none 0 0, .slice none 0 0, .slice none 0 0, .int .u8 0], []⟩ 8 (by kernel_rfl) (by kernel_rfl) (by kernel_rfl) (by kernel_rfl)) ?_; intro W base args ds gs before hval0 hW hcnd _; have hval : ∀ (j : Nat) t v, Try.f5.params[j]? = some t → args[j]? = some v → Value.okWide Try.prog W .any base t v := hval0; have hW' := hW; obtain ⟨p, q, hA0, hV, hp, hfz, hnd⟩ := hW; have hA : DataW.TrodAll enc Try.prog W 0 (fun _ => true) true Try.f5.params.toList args.toList ds p := hA0; obtain ⟨rfl, rfl⟩ := trodVars_none hV; rw [List.append_nil] at hp; have hA' := hA; rw [Try.params5] at hA hval
  obtain ⟨v0, vs0, d0, ds0, p0, q0, hargs, rfl, rfl, h0, r0⟩ := trodAll_cons hA; obtain ⟨v1, vs1, d1, ds1, p1, q1, rfl, rfl, rfl, h1, r1⟩ := trodAll_cons r0; obtain ⟨v2, vs2, d2, ds2, p2, q2, rfl, rfl, rfl, h2, r2⟩ := trodAll_cons r1; obtain ⟨v3, vs3, d3, ds3, p3, q3, rfl, rfl, rfl, h3, r3⟩ := trodAll_cons r2; obtain ⟨rfl, rfl, rfl⟩ := trodAll_nil r3; obtain rfl : args = #[v0, v1, v2, v3] := by cases args; simp_all
  obtain ⟨xs, hx⟩ := open_row tyCh Try.underlying47 (by kernel_rfl) (by decide) (hval 0 47 v0 rfl rfl) h0
  obtain ⟨ls, hl⟩ := open_row tySg Try.underlying48 (by kernel_rfl) (by decide) (hval 1 48 v1 rfl rfl) h1
  obtain ⟨bs, hb⟩ := open_row tyEn Try.underlying33 (by kernel_rfl) (by decide) (hval 2 33 v2 rfl rfl) h2
  obtain ⟨w8, rfl, rfl, rfl, w3⟩ := open_int Try.underlying5 (hval 3 5 v3 rfl rfl) h3
  obtain ⟨a0, c0, rfl, _⟩ := hx.form
  obtain ⟨a1, c1, rfl, _⟩ := hl.form
  obtain ⟨a2, c2, rfl, _⟩ := hb.form
  refine (law_walk (ChooseKeeps_walk a0 a1 a2 c0 c1 c2 xs ls bs w8 (ph W) hx hl hb (bounds_u8 w3))).mono fun e W' ⟨he, hb⟩ => ?_
  subst he
  exact ⟨_, rfl, law_post laid_out (by kernel_rfl) rfl rfl Try.underlying4 hW' hA' hp rfl hb⟩
theorem ChooseKeeps_holds : Rows.ChooseKeepsSaid := OpenClaim.holds_of_wide 5 Try.f5 rfl rfl rfl rfl rfl rfl rfl ⟨rfl, rfl, rfl, rfl, rfl⟩ rfl rfl rfl rfl rfl (by kernel_rfl) Try.func5 (by kernel_rfl) (of_decide_eq_true (by kernel_rfl)) (by unfold Func.isWrapper; first | (rw [if_pos (by decide +kernel)]; kernel_rfl) | (rw [if_neg (by decide +kernel)]; exact ⟨rfl, rfl⟩)) (fun os started H enc _ => ChooseKeeps_lifted os started H enc)
#print axioms ChooseKeeps_holds
end Go.Proofs.Ytdoaloimndehbaa
