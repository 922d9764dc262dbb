/-
  A hash's sum; the sum of bytes. Conditions are typed with each.
-/
import Derived.Test.YtohlmhoacjodjaaSe
namespace Go.Proofs.Ytohlmhoacjodjaa
open Go.RowKit
set_option maxRecDepth 100000
abbrev zS32 : List Value := List.replicate 32 (.int .u8 0)
theorem hsum_nil (F : PH) : Pure Try.prog 67 [.pointer none] F (.agg zS32.toArray) := by
  refine Spec.of1 Try.func67 rfl rfl fun X w0 => ?_
  refine jc rfl rfl ?_
  refine jr rfl ?_
  refine oE (ev_alloc (cs := zS32) rfl) rfl ?_
  rintro _ _ _ _ ⟨rfl, b2, rfl, rfl⟩
  repeat (first|refine zJ rfl rfl ?_|refine jr rfl ?_|refine jn ?_|refine zM rfl rfl ?_|(refine zC rfl rfl ?_ rfl ?_;omega)|(refine zD rfl rfl ?_ rfl ?_;omega)|(refine zP rfl ?_ rfl ?_;omega)|refine zG rfl rfl rfl rfl ?_|(refine jdq rfl rfl ?_ ?_ ?_;kernel_rfl;kernel_rfl)|refine zB rfl rfl rfl (by repeat constructor) rfl ?_|refine zH .here rfl rfl rfl rfl ?_|refine zH (.there .here) rfl rfl rfl rfl ?_|refine zH (.there (.there .here)) rfl rfl rfl rfl ?_)
  refine oE (ev_alloc (cs := zS32) rfl) rfl ?_
  rintro _ _ _ _ ⟨rfl, b3, rfl, rfl⟩
  repeat (first|refine zJ rfl rfl ?_|refine jr rfl ?_|refine jn ?_|refine zM rfl rfl ?_|(refine zC rfl rfl ?_ rfl ?_;omega)|(refine zD rfl rfl ?_ rfl ?_;omega)|(refine zP rfl ?_ rfl ?_;omega)|refine zG rfl rfl rfl rfl ?_|(refine jdq rfl rfl ?_ ?_ ?_;kernel_rfl;kernel_rfl)|refine zB rfl rfl rfl (by repeat constructor) rfl ?_|refine zH .here rfl rfl rfl rfl ?_|refine zH (.there .here) rfl rfl rfl rfl ?_|refine zH (.there (.there .here)) rfl rfl rfl rfl ?_)
  refine oS (ev_load_agg (cs := zS32) rfl rfl (Rdb.ofB (n := 0) .here rfl) rfl) rfl ?_
  refine oN (ev_store (b := b2) rfl rfl .agg rfl rfl (lay_all (zs := zS32) rfl) (u8s_ones (List.replicate 32 0)) (.there .here)) rfl ?_
  rintro _ _ _ _ ⟨rfl, _, rfl⟩
  repeat (first|refine zJ rfl rfl ?_|refine jr rfl ?_|refine jn ?_|refine zM rfl rfl ?_|(refine zC rfl rfl ?_ rfl ?_;omega)|(refine zD rfl rfl ?_ rfl ?_;omega)|(refine zP rfl ?_ rfl ?_;omega)|refine zG rfl rfl rfl rfl ?_|(refine jdq rfl rfl ?_ ?_ ?_;kernel_rfl;kernel_rfl)|refine zB rfl rfl rfl (by repeat constructor) rfl ?_|refine zH .here rfl rfl rfl rfl ?_|refine zH (.there .here) rfl rfl rfl rfl ?_|refine zH (.there (.there .here)) rfl rfl rfl rfl ?_)
  exact J_retv (vs := [.agg zS32.toArray]) rfl (.agg rfl rfl (Rdb.ofB (n := 0) (.there .here) rfl) rfl .nil) [] (fun w s => s.drop.drop) (PH.ler _) ⟨rfl, rfl⟩
set_option maxHeartbeats 16000000 in
theorem hsum_spec (b : Nat) (vr : Value) (t : List UInt8) (F : PH) (ht : t.length ≤ 1099511627000) :
    Spec Try.prog 67 [.pointer (some ⟨b, 0, none⟩)] F (hashA b vr t) fun u F' H' => F.le F' ∧ u = .agg (u8s (sumB t)).toArray ∧ H' = hashA b vr t := by
  have hrl := restB_len t
  refine Spec.of1 Try.func67 rfl rfl fun X w0 => ?_
  show J _ _ _ _ (hblk b (stB t) vr t.length :: bytes vr (restB t) :: X)
  refine jWith (.there .here) OwnForm.of fun hfx => ?_
  have hrd : ∀ {H Hr : List Asrt}, Pick (bytes vr (restB t)) H Hr → RdB F H vr (restB t) := fun p => RdB.own hfx p
  obtain ⟨ar, cr, rfl, hcr, _, _⟩ := id hfx
  refine jc rfl rfl ?_
  refine jr rfl ?_
  refine oE (ev_alloc (cs := zS32) rfl) rfl ?_
  rintro _ _ _ _ ⟨rfl, b2, rfl, rfl⟩
  repeat (first|refine zJ rfl rfl ?_|refine jr rfl ?_|refine jn ?_|refine zM rfl rfl ?_|(refine zC rfl rfl ?_ rfl ?_;omega)|(refine zD rfl rfl ?_ rfl ?_;omega)|(refine zP rfl ?_ rfl ?_;omega)|refine zG rfl rfl rfl rfl ?_|(refine jdq rfl rfl ?_ ?_ ?_;kernel_rfl;kernel_rfl)|refine zB rfl rfl rfl (by repeat constructor) rfl ?_|refine zH .here rfl rfl rfl rfl ?_|refine zH (.there .here) rfl rfl rfl rfl ?_|refine zH (.there (.there .here)) rfl rfl rfl rfl ?_)
  refine oE (ev_alloc (cs := zS32) rfl) rfl ?_
  rintro _ _ _ _ ⟨rfl, b3, rfl, rfl⟩
  repeat (first|refine zJ rfl rfl ?_|refine jr rfl ?_|refine jn ?_|refine zM rfl rfl ?_|(refine zC rfl rfl ?_ rfl ?_;omega)|(refine zD rfl rfl ?_ rfl ?_;omega)|(refine zP rfl ?_ rfl ?_;omega)|refine zG rfl rfl rfl rfl ?_|(refine jdq rfl rfl ?_ ?_ ?_;kernel_rfl;kernel_rfl)|refine zB rfl rfl rfl (by repeat constructor) rfl ?_|refine zH .here rfl rfl rfl rfl ?_|refine zH (.there .here) rfl rfl rfl rfl ?_|refine zH (.there (.there .here)) rfl rfl rfl rfl ?_)
  refine oE eb_empty rfl ?_
  rintro _ _ _ _ ⟨rfl, ⟨b0, rfl⟩, rfl⟩
  repeat (first|refine zJ rfl rfl ?_|refine jr rfl ?_|refine jn ?_|refine zM rfl rfl ?_|(refine zC rfl rfl ?_ rfl ?_;omega)|(refine zD rfl rfl ?_ rfl ?_;omega)|(refine zP rfl ?_ rfl ?_;omega)|refine zG rfl rfl rfl rfl ?_|(refine jdq rfl rfl ?_ ?_ ?_;kernel_rfl;kernel_rfl)|refine zB rfl rfl rfl (by repeat constructor) rfl ?_|refine zH .here rfl rfl rfl rfl ?_|refine zH (.there .here) rfl rfl rfl rfl ?_|refine zH (.there (.there .here)) rfl rfl rfl rfl ?_|refine zH (.there (.there (.there .here))) rfl rfl rfl rfl ?_|refine zH (.there (.there (.there (.there .here)))) rfl rfl rfl rfl ?_)
  refine oE (eb_append (bs := []) (cs := restB t) (K := fun v' => bytes v' (restB t) :: blk b3 28 zS32 :: blk b2 28 zS32 :: hblk b (stB t) (.slice ar (restB t).length cr) t.length :: bytes (.slice ar (restB t).length cr) (restB t) :: X) rfl rfl (hrd (.there (.there (.there (.there .here))))) (by simp; omega) (fun v' => .here)) rfl ?_
  rintro u1 _ _ _ ⟨rfl, _, rfl⟩
  refine ob_push (b := 128) (bs := restB t) (K := fun v' => bytes v' (restB t ++ [128]) :: blk b3 28 zS32 :: blk b2 28 zS32 :: hblk b (stB t) (.slice ar (restB t).length cr) t.length :: bytes (.slice ar (restB t).length cr) (restB t) :: X) rfl (fun _ => rfl) rfl (by omega) (fun v' => .here) rfl (fun _ => rfl) fun u2 w2 => ?_
  have hz : zerosN t.length = (119 - t.length % 64) % 64 := rfl
  have hz64 : zerosN t.length < 64 := by omega
  repeat (first|refine zJ rfl rfl ?_|refine jr rfl ?_|refine jn ?_|refine zM rfl rfl ?_|(refine zC rfl rfl ?_ rfl ?_;omega)|(refine zD rfl rfl ?_ rfl ?_;omega)|(refine zP rfl ?_ rfl ?_;omega)|refine zG rfl rfl rfl rfl ?_|(refine jdq rfl rfl ?_ ?_ ?_;kernel_rfl;kernel_rfl)|refine zB rfl rfl rfl (by repeat constructor) rfl ?_|refine zH .here rfl rfl rfl rfl ?_|refine zH (.there .here) rfl rfl rfl rfl ?_|refine zH (.there (.there .here)) rfl rfl rfl rfl ?_|refine zH (.there (.there (.there .here))) rfl rfl rfl rfl ?_|refine zH (.there (.there (.there (.there .here)))) rfl rfl rfl rfl ?_)
  refine J_loop2 (fun (j : Nat) (_ : Value) => j ≤ zerosN t.length) (fun j _ => zerosN t.length - j) (fun j v => [(0, .pointer (some ⟨b, 0, none⟩)), (2, .pointer (some ⟨b2, 0, none⟩)), (3, .pointer (some ⟨b3, 0, none⟩)), (4, v)]) (fun _ _ => F)
    (fun j v => bytes v (restB t ++ [128] ++ List.replicate j 0) :: blk b3 28 zS32 :: blk b2 28 zS32 :: hblk b (stB t) (.slice ar (restB t).length cr) t.length :: bytes (.slice ar (restB t).length cr) (restB t) :: X) 0 _ (Nat.zero_le _)
    ⟨⟨rfl, rfl, rfl, rfl, trivial⟩, fun w s => by simpa using s⟩ ?_
  intro j v hj
  have hlj : (restB t ++ [128] ++ List.replicate j 0).length = t.length % 64 + 1 + j := by simp [hrl]; omega
  refine jWith .here OwnForm.of fun hfx2 => ?_
  obtain ⟨av, cv, rfl, hcv, _, _⟩ := id hfx2
  by_cases hlt : j < zerosN t.length
  · repeat (first|refine zJ rfl rfl ?_|refine jr rfl ?_|refine jn ?_|refine zM rfl rfl ?_|(refine zC rfl rfl ?_ rfl ?_;omega)|(refine zD rfl rfl ?_ rfl ?_;omega)|(refine zP rfl ?_ rfl ?_;omega)|refine zG rfl rfl rfl rfl ?_|(refine jdq rfl rfl ?_ ?_ ?_;kernel_rfl;kernel_rfl)|refine zB rfl rfl rfl (by repeat constructor) rfl ?_|refine zH .here rfl rfl rfl rfl ?_|refine zH (.there .here) rfl rfl rfl rfl ?_|refine zH (.there (.there .here)) rfl rfl rfl rfl ?_|refine zH (.there (.there (.there .here))) rfl rfl rfl rfl ?_|refine zH (.there (.there (.there (.there .here)))) rfl rfl rfl rfl ?_)
    refine ob_push (b := 0) (bs := restB t ++ [128] ++ List.replicate j 0) (K := fun v' => bytes v' (restB t ++ [128] ++ List.replicate j 0 ++ [0]) :: blk b3 28 zS32 :: blk b2 28 zS32 :: hblk b (stB t) (.slice ar (restB t).length cr) t.length :: bytes (.slice ar (restB t).length cr) (restB t) :: X) rfl (fun _ => rfl) rfl (by omega) (fun v' => .here) rfl (fun _ => rfl) fun u2 w2 => ?_
    repeat (first|refine zJ rfl rfl ?_|refine jr rfl ?_|refine jn ?_|refine zM rfl rfl ?_|(refine zC rfl rfl ?_ rfl ?_;omega)|(refine zD rfl rfl ?_ rfl ?_;omega)|(refine zP rfl ?_ rfl ?_;omega)|refine zG rfl rfl rfl rfl ?_|(refine jdq rfl rfl ?_ ?_ ?_;kernel_rfl;kernel_rfl)|refine zB rfl rfl rfl (by repeat constructor) rfl ?_|refine zH .here rfl rfl rfl rfl ?_|refine zH (.there .here) rfl rfl rfl rfl ?_|refine zH (.there (.there .here)) rfl rfl rfl rfl ?_|refine zH (.there (.there (.there .here))) rfl rfl rfl rfl ?_|refine zH (.there (.there (.there (.there .here)))) rfl rfl rfl rfl ?_)
    refine J_again2 (j + 1) u2 hlt (by omega) ⟨⟨rfl, rfl, rfl, rfl, trivial⟩, fun w s => ?_⟩
    rw [show restB t ++ [128] ++ List.replicate (j + 1) 0 = restB t ++ [128] ++ List.replicate j 0 ++ [0] from by rw [List.replicate_succ']; simp]
    exact s
  · obtain rfl : j = zerosN t.length := by omega
    refine J_persist fun h1 hA1 hd1 => ?_
    have hp := bytes_byt hA1 hd1
    have hle := PH.le_l F h1
    generalize F.un h1 = F1 at *
    have htl := tailB_len t.length
    have hPl : (restB t ++ tailB t.length).length = t.length % 64 + 9 + zerosN t.length := by rw [List.length_append, htl, hrl]; omega
    have hPe : restB t ++ [128] ++ List.replicate (zerosN t.length) 0 ++ putB (8 * t.length) 8 = restB t ++ tailB t.length := by unfold tailB; simp
    generalize restB t ++ [128] ++ List.replicate (zerosN t.length) 0 = E at *
    repeat (first|refine zJ rfl rfl ?_|refine jr rfl ?_|refine jn ?_|refine zM rfl rfl ?_|(refine zC rfl rfl ?_ rfl ?_;omega)|(refine zD rfl rfl ?_ rfl ?_;omega)|(refine zP rfl ?_ rfl ?_;omega)|refine zG rfl rfl rfl rfl ?_|(refine jdq rfl rfl ?_ ?_ ?_;kernel_rfl;kernel_rfl)|refine zB rfl rfl rfl (by repeat constructor) rfl ?_|refine zH .here rfl rfl rfl rfl ?_|refine zH (.there .here) rfl rfl rfl rfl ?_|refine zH (.there (.there .here)) rfl rfl rfl rfl ?_|refine zH (.there (.there (.there .here))) rfl rfl rfl rfl ?_|refine zH (.there (.there (.there (.there .here)))) rfl rfl rfl rfl ?_)
    rw [show (t.length : Int) * 8 = ((8 * t.length : Nat) : Int) from by omega]
    refine oC (Hc := []) (Hr := blk b3 28 zS32 :: blk b2 28 zS32 :: hblk b (stB t) (.slice ar (restB t).length cr) t.length :: bytes (.slice ar (restB t).length cr) (restB t) :: X) (put_spec av cv (8 * t.length) 8 E F1 hp hcv (by omega) (by omega)) Try.call32 rfl rfl (fun _ s => s) ?_
    rintro u3 _ _ _ ⟨rfl, rfl⟩
    rw [hPe]
    refine oPersist fun h2 hA2 hd2 => ?_
    have hq := bytes_byt hA2 hd2
    have hle2 := PH.le_l F1 h2
    generalize F1.un h2 = F2 at *
    have hsum : sumB t = digB (feedN ((restB t ++ tailB t.length).length / 64) (stB t) (restB t ++ tailB t.length)) := rfl
    rw [hsum]
    generalize hPP : restB t ++ tailB t.length = PP at *
    have hP64 : PP.length % 64 = 0 := by omega
    repeat (first|refine zJ rfl rfl ?_|refine jr rfl ?_|refine jn ?_|refine zM rfl rfl ?_|(refine zC rfl rfl ?_ rfl ?_;omega)|(refine zD rfl rfl ?_ rfl ?_;omega)|(refine zP rfl ?_ rfl ?_;omega)|refine zG rfl rfl rfl rfl ?_|(refine jdq rfl rfl ?_ ?_ ?_;kernel_rfl;kernel_rfl)|refine zB rfl rfl rfl (by repeat constructor) rfl ?_|refine zH .here rfl rfl rfl rfl ?_|refine zH (.there .here) rfl rfl rfl rfl ?_|refine zH (.there (.there .here)) rfl rfl rfl rfl ?_|refine zH (.there (.there (.there .here))) rfl rfl rfl rfl ?_|refine zH (.there (.there (.there (.there .here)))) rfl rfl rfl rfl ?_)
    refine oS (ev_load_agg (cs := w32s (stB t).l) rfl rfl (Rdb.ofB (n := 0) (.there (.there .here)) (hcell_load _ _ _)) rfl) rfl ?_
    refine oE (ev_alloc (cs := List.replicate 8 (.int .u32 0)) rfl) rfl ?_
    rintro _ _ _ _ ⟨rfl, b5, rfl, rfl⟩
    refine oN (ev_store (b := b5) rfl rfl .agg rfl rfl (lay_8 (stB t).l rfl) (w32s_ones _) .here) rfl ?_
    rintro _ _ _ _ ⟨rfl, _, rfl⟩
    repeat (first|refine zJ rfl rfl ?_|refine jr rfl ?_|refine jn ?_|refine zM rfl rfl ?_|(refine zC rfl rfl ?_ rfl ?_;omega)|(refine zD rfl rfl ?_ rfl ?_;omega)|(refine zP rfl ?_ rfl ?_;omega)|refine zG rfl rfl rfl rfl ?_|(refine jdq rfl rfl ?_ ?_ ?_;kernel_rfl;kernel_rfl)|refine zB rfl rfl rfl (by repeat constructor) rfl ?_|refine zH .here rfl rfl rfl rfl ?_|refine zH (.there .here) rfl rfl rfl rfl ?_|refine zH (.there (.there .here)) rfl rfl rfl rfl ?_|refine zH (.there (.there (.there .here))) rfl rfl rfl rfl ?_|refine zH (.there (.there (.there (.there .here)))) rfl rfl rfl rfl ?_)
    refine J_loop2 (fun (m : Nat) (v : Value) => m ≤ PP.length / 64 ∧ Byt F2 v (PP.drop (64 * m))) (fun m _ => PP.length / 64 - m) (fun m v => [(2, .pointer (some ⟨b2, 0, none⟩)), (3, .pointer (some ⟨b3, 0, none⟩)), (4, v), (5, .pointer (some ⟨b5, 0, none⟩))]) (fun _ _ => F2)
      (fun m v => blk b5 116 (w32s (feedN m (stB t) PP).l) :: blk b3 28 zS32 :: blk b2 28 zS32 :: hblk b (stB t) (.slice ar (restB t).length cr) t.length :: bytes (.slice ar (restB t).length cr) (restB t) :: X) 0 u3 ⟨Nat.zero_le _, by simpa using hq⟩
      ⟨⟨rfl, rfl, rfl, rfl, trivial⟩, fun w s => s⟩ ?_
    rintro m v ⟨hm, hv⟩
    obtain ⟨a1, c1, rfl, hc1⟩ := hv.form
    have hdl : (PP.drop (64 * m)).length = PP.length - 64 * m := List.length_drop
    by_cases hgo : m < PP.length / 64
    · have h64 : 64 ≤ (PP.drop (64 * m)).length := by omega
      have hf := feedN_succ m (stB t) PP
      repeat (first|refine zJ rfl rfl ?_|refine jr rfl ?_|refine jn ?_|refine zM rfl rfl ?_|(refine zC rfl rfl ?_ rfl ?_;omega)|(refine zD rfl rfl ?_ rfl ?_;omega)|(refine zP rfl ?_ rfl ?_;omega)|refine zG rfl rfl rfl rfl ?_|(refine jdq rfl rfl ?_ ?_ ?_;kernel_rfl;kernel_rfl)|refine zB rfl rfl rfl (by repeat constructor) rfl ?_|refine zH .here rfl rfl rfl rfl ?_|refine zH (.there .here) rfl rfl rfl rfl ?_|refine zH (.there (.there .here)) rfl rfl rfl rfl ?_|refine zH (.there (.there (.there .here))) rfl rfl rfl rfl ?_|refine zH (.there (.there (.there (.there .here)))) rfl rfl rfl rfl ?_)
      refine oS (ev_load_agg (cs := w32s (feedN m (stB t) PP).l) rfl rfl (Rdb.ofB (n := 0) .here (by rw [List.drop_zero, List.take_length])) rfl) rfl ?_
      repeat (first|refine zJ rfl rfl ?_|refine jr rfl ?_|refine jn ?_|refine zM rfl rfl ?_|(refine zC rfl rfl ?_ rfl ?_;omega)|(refine zD rfl rfl ?_ rfl ?_;omega)|(refine zP rfl ?_ rfl ?_;omega)|refine zG rfl rfl rfl rfl ?_|(refine jdq rfl rfl ?_ ?_ ?_;kernel_rfl;kernel_rfl)|refine zB rfl rfl rfl (by repeat constructor) rfl ?_|refine zH .here rfl rfl rfl rfl ?_|refine zH (.there .here) rfl rfl rfl rfl ?_|refine zH (.there (.there .here)) rfl rfl rfl rfl ?_|refine zH (.there (.there (.there .here))) rfl rfl rfl rfl ?_|refine zH (.there (.there (.there (.there .here)))) rfl rfl rfl rfl ?_)
      refine oP (block_spec (feedN m (stB t) PP) a1 c1 _ F2 hv hc1 h64 (by omega)) Try.call69 rfl rfl ?_
      rw [← hf]
      refine oN (ev_store (b := b5) rfl rfl .agg rfl rfl (lay_all (zs := w32s (feedN m (stB t) PP).l) (by rw [w32s_len, w32s_len]; exact S8.ll _ _)) (w32s_ones _) .here) rfl ?_
      rintro _ _ _ _ ⟨rfl, _, rfl⟩
      repeat (first|refine zJ rfl rfl ?_|refine jr rfl ?_|refine jn ?_|refine zM rfl rfl ?_|(refine zC rfl rfl ?_ rfl ?_;omega)|(refine zD rfl rfl ?_ rfl ?_;omega)|(refine zP rfl ?_ rfl ?_;omega)|refine zG rfl rfl rfl rfl ?_|(refine jdq rfl rfl ?_ ?_ ?_;kernel_rfl;kernel_rfl)|refine zB rfl rfl rfl (by repeat constructor) rfl ?_|refine zH .here rfl rfl rfl rfl ?_|refine zH (.there .here) rfl rfl rfl rfl ?_|refine zH (.there (.there .here)) rfl rfl rfl rfl ?_|refine zH (.there (.there (.there .here))) rfl rfl rfl rfl ?_|refine zH (.there (.there (.there (.there .here)))) rfl rfl rfl rfl ?_)
      refine oS (ev_slice_lo (lo := 64) rfl rfl rfl (by omega)) rfl ?_
      have hs := hv.suf (k := 64) (by omega) hc1
      rw [List.drop_drop, show 64 * m + 64 = 64 * (m + 1) from by omega] at hs
      repeat (first|refine zJ rfl rfl ?_|refine jr rfl ?_|refine jn ?_|refine zM rfl rfl ?_|(refine zC rfl rfl ?_ rfl ?_;omega)|(refine zD rfl rfl ?_ rfl ?_;omega)|(refine zP rfl ?_ rfl ?_;omega)|refine zG rfl rfl rfl rfl ?_|(refine jdq rfl rfl ?_ ?_ ?_;kernel_rfl;kernel_rfl)|refine zB rfl rfl rfl (by repeat constructor) rfl ?_|refine zH .here rfl rfl rfl rfl ?_|refine zH (.there .here) rfl rfl rfl rfl ?_|refine zH (.there (.there .here)) rfl rfl rfl rfl ?_|refine zH (.there (.there (.there .here))) rfl rfl rfl rfl ?_|refine zH (.there (.there (.there (.there .here)))) rfl rfl rfl rfl ?_)
      refine J_again2 (m + 1) _ ⟨hgo, hs⟩ (by omega) ⟨⟨rfl, rfl, rfl, rfl, trivial⟩, fun w s => s⟩
    · obtain rfl : m = PP.length / 64 := by omega
      generalize feedN (PP.length / 64) (stB t) PP = s at *
      have hdg := digB_len s
      repeat (first|refine zJ rfl rfl ?_|refine jr rfl ?_|refine jn ?_|refine zM rfl rfl ?_|(refine zC rfl rfl ?_ rfl ?_;omega)|(refine zD rfl rfl ?_ rfl ?_;omega)|(refine zP rfl ?_ rfl ?_;omega)|refine zG rfl rfl rfl rfl ?_|(refine jdq rfl rfl ?_ ?_ ?_;kernel_rfl;kernel_rfl)|refine zB rfl rfl rfl (by repeat constructor) rfl ?_|refine zH .here rfl rfl rfl rfl ?_|refine zH (.there .here) rfl rfl rfl rfl ?_|refine zH (.there (.there .here)) rfl rfl rfl rfl ?_|refine zH (.there (.there (.there .here))) rfl rfl rfl rfl ?_|refine zH (.there (.there (.there (.there .here)))) rfl rfl rfl rfl ?_)
      refine oS (ev_load_agg (cs := w32s s.l) rfl rfl (Rdb.ofB (n := 0) .here (by rw [List.drop_zero, List.take_length])) rfl) rfl ?_
      repeat (first|refine zJ rfl rfl ?_|refine jr rfl ?_|refine jn ?_|refine zM rfl rfl ?_|(refine zC rfl rfl ?_ rfl ?_;omega)|(refine zD rfl rfl ?_ rfl ?_;omega)|(refine zP rfl ?_ rfl ?_;omega)|refine zG rfl rfl rfl rfl ?_|(refine jdq rfl rfl ?_ ?_ ?_;kernel_rfl;kernel_rfl)|refine zB rfl rfl rfl (by repeat constructor) rfl ?_|refine zH .here rfl rfl rfl rfl ?_|refine zH (.there .here) rfl rfl rfl rfl ?_|refine zH (.there (.there .here)) rfl rfl rfl rfl ?_|refine zH (.there (.there (.there .here))) rfl rfl rfl rfl ?_|refine zH (.there (.there (.there (.there .here)))) rfl rfl rfl rfl ?_)
      refine J_loop (ι := Nat) (fun i => i ≤ 8) (fun i => 8 - i) (fun i => [(2, .pointer (some ⟨b2, 0, none⟩)), (3, .pointer (some ⟨b3, 0, none⟩)), (47, .agg (w32s s.l).toArray), (48, .int .i64 i)]) (fun _ => F2)
        (fun i => blk b3 28 (wrS32 (digB s) (4 * i)) :: blk b2 28 zS32 :: hblk b (stB t) (.slice ar (restB t).length cr) t.length :: bytes (.slice ar (restB t).length cr) (restB t) :: X) 0 (Nat.zero_le _)
        ⟨⟨rfl, rfl, rfl, rfl, trivial⟩, fun w s => s.drop⟩ ?_
      intro i hi
      by_cases hlt : i < 8
      · obtain ⟨x, hx⟩ : ∃ x, s.l[i]? = some x := ⟨s.l[i]'(by simpa [S8.l] using hlt), List.getElem?_eq_getElem _⟩
        repeat (first|refine zJ rfl rfl ?_|refine jr rfl ?_|refine jn ?_|refine zM rfl rfl ?_|(refine zC rfl rfl ?_ rfl ?_;omega)|(refine zD rfl rfl ?_ rfl ?_;omega)|(refine zP rfl ?_ rfl ?_;omega)|refine zG rfl rfl rfl rfl ?_|(refine jdq rfl rfl ?_ ?_ ?_;kernel_rfl;kernel_rfl)|refine zB rfl rfl rfl (by repeat constructor) rfl ?_|refine zH .here rfl rfl rfl rfl ?_|refine zH (.there .here) rfl rfl rfl rfl ?_|refine zH (.there (.there .here)) rfl rfl rfl rfl ?_|refine zH (.there (.there (.there .here))) rfl rfl rfl rfl ?_|refine zH (.there (.there (.there (.there .here)))) rfl rfl rfl rfl ?_)
        refine oS (ev_index_agg (v := w32 x) rfl rfl rfl rfl rfl (by unfold w32s; rw [List.getElem?_map, hx]; rfl)) rfl ?_
        repeat (first|refine zJ rfl rfl ?_|refine jr rfl ?_|refine jn ?_|refine zM rfl rfl ?_|(refine zC rfl rfl ?_ rfl ?_;omega)|(refine zD rfl rfl ?_ rfl ?_;omega)|(refine zP rfl ?_ rfl ?_;omega)|refine zG rfl rfl rfl rfl ?_|(refine jdq rfl rfl ?_ ?_ ?_;kernel_rfl;kernel_rfl)|refine zB rfl rfl rfl (by repeat constructor) rfl ?_|refine zH .here rfl rfl rfl rfl ?_|refine zH (.there .here) rfl rfl rfl rfl ?_|refine zH (.there (.there .here)) rfl rfl rfl rfl ?_|refine zH (.there (.there (.there .here))) rfl rfl rfl rfl ?_|refine zH (.there (.there (.there (.there .here)))) rfl rfl rfl rfl ?_)
        refine J_loop (ι := Nat) (fun k => k ≤ 4) (fun k => 4 - k) (fun k => [(2, .pointer (some ⟨b2, 0, none⟩)), (3, .pointer (some ⟨b3, 0, none⟩)), (47, .agg (w32s s.l).toArray), (48, .int .i64 i), (6, .int .i64 i), (7, w32 x), (52, .int .i64 k)]) (fun _ => F2)
          (fun k => blk b3 28 (wrS32 (digB s) (4 * i + k)) :: blk b2 28 zS32 :: hblk b (stB t) (.slice ar (restB t).length cr) t.length :: bytes (.slice ar (restB t).length cr) (restB t) :: X) 0 (Nat.zero_le _)
          ⟨⟨rfl, rfl, rfl, rfl, rfl, rfl, rfl, trivial⟩, fun w s => s⟩ ?_
        intro k hk
        by_cases hkt : k < 4
        · have hd := digB_at hx hkt
          have hw : IntKind.u8.wrap ((x >>> (24 - 8 * (k : Int)).toNat).toNat : Int) = (((UInt8.ofNat (x.toNat >>> (24 - 8 * k))).toNat : Nat) : Int) := by
            rw [BitVec.toNat_ushiftRight, show (24 - 8 * (k : Int)).toNat = 24 - 8 * k from by omega, wrap_u8]
          repeat (first|refine zJ rfl rfl ?_|refine jr rfl ?_|refine jn ?_|refine zM rfl rfl ?_|(refine zC rfl rfl ?_ rfl ?_;omega)|(refine zD rfl rfl ?_ rfl ?_;omega)|(refine zP rfl ?_ rfl ?_;omega)|refine zG rfl rfl rfl rfl ?_|(refine jdq rfl rfl ?_ ?_ ?_;kernel_rfl;kernel_rfl)|refine zB rfl rfl rfl (by repeat constructor) rfl ?_|refine zH .here rfl rfl rfl rfl ?_|refine zH (.there .here) rfl rfl rfl rfl ?_|refine zH (.there (.there .here)) rfl rfl rfl rfl ?_|refine zH (.there (.there (.there .here))) rfl rfl rfl rfl ?_|refine zH (.there (.there (.there (.there .here)))) rfl rfl rfl rfl ?_)
          refine oS (eus rfl rfl (by omega)) rfl ?_
          refine oS (ev_conv rfl rfl rfl hw) rfl ?_
          rw [show (4 : Int) * (i : Int) + (k : Int) = ((4 * i + k : Nat) : Int) from by omega]
          refine oS (ev_indexAddr_arr rfl rfl rfl (by omega)) rfl ?_
          refine oN (ev_store (b := b3) (off := 0 + (4 * i + k) * 1) rfl rfl .int rfl rfl (wrS32_lay (by omega) hd) (ones_cons rfl ones_nil) .here) rfl ?_
          rintro _ _ _ _ ⟨rfl, _, rfl⟩
          repeat (first|refine zJ rfl rfl ?_|refine jr rfl ?_|refine jn ?_|refine zM rfl rfl ?_|(refine zC rfl rfl ?_ rfl ?_;omega)|(refine zD rfl rfl ?_ rfl ?_;omega)|(refine zP rfl ?_ rfl ?_;omega)|refine zG rfl rfl rfl rfl ?_|(refine jdq rfl rfl ?_ ?_ ?_;kernel_rfl;kernel_rfl)|refine zB rfl rfl rfl (by repeat constructor) rfl ?_|refine zH .here rfl rfl rfl rfl ?_|refine zH (.there .here) rfl rfl rfl rfl ?_|refine zH (.there (.there .here)) rfl rfl rfl rfl ?_|refine zH (.there (.there (.there .here))) rfl rfl rfl rfl ?_|refine zH (.there (.there (.there (.there .here)))) rfl rfl rfl rfl ?_)
          refine J_again (k + 1) hkt (by omega) ⟨⟨rfl, rfl, rfl, rfl, rfl, rfl, rfl, trivial⟩, fun w s => s⟩
        · obtain rfl : k = 4 := by omega
          repeat (first|refine zJ rfl rfl ?_|refine jr rfl ?_|refine jn ?_|refine zM rfl rfl ?_|(refine zC rfl rfl ?_ rfl ?_;omega)|(refine zD rfl rfl ?_ rfl ?_;omega)|(refine zP rfl ?_ rfl ?_;omega)|refine zG rfl rfl rfl rfl ?_|(refine jdq rfl rfl ?_ ?_ ?_;kernel_rfl;kernel_rfl)|refine zB rfl rfl rfl (by repeat constructor) rfl ?_|refine zH .here rfl rfl rfl rfl ?_|refine zH (.there .here) rfl rfl rfl rfl ?_|refine zH (.there (.there .here)) rfl rfl rfl rfl ?_|refine zH (.there (.there (.there .here))) rfl rfl rfl rfl ?_|refine zH (.there (.there (.there (.there .here)))) rfl rfl rfl rfl ?_)
          refine J_again (i + 1) hlt (by omega) ⟨⟨rfl, rfl, rfl, rfl, trivial⟩, fun w s => ?_⟩
          exact s
      · obtain rfl : i = 8 := by omega
        rw [show 4 * 8 = 32 from rfl, wrS32_full hdg]
        have h32 : (u8s (digB s)).length = 32 := by rw [u8s_len, hdg]
        repeat (first|refine zJ rfl rfl ?_|refine jr rfl ?_|refine jn ?_|refine zM rfl rfl ?_|(refine zC rfl rfl ?_ rfl ?_;omega)|(refine zD rfl rfl ?_ rfl ?_;omega)|(refine zP rfl ?_ rfl ?_;omega)|refine zG rfl rfl rfl rfl ?_|(refine jdq rfl rfl ?_ ?_ ?_;kernel_rfl;kernel_rfl)|refine zB rfl rfl rfl (by repeat constructor) rfl ?_|refine zH .here rfl rfl rfl rfl ?_|refine zH (.there .here) rfl rfl rfl rfl ?_|refine zH (.there (.there .here)) rfl rfl rfl rfl ?_|refine zH (.there (.there (.there .here))) rfl rfl rfl rfl ?_|refine zH (.there (.there (.there (.there .here)))) rfl rfl rfl rfl ?_)
        refine oS (ev_load_agg (cs := u8s (digB s)) rfl rfl (Rdb.ofB (n := 0) .here (by rw [List.drop_zero, List.take_length])) h32) rfl ?_
        refine oN (ev_store (b := b2) rfl rfl .agg rfl h32 (lay_all (zs := zS32) h32) (u8s_ones _) (.there .here)) rfl ?_
        rintro _ _ _ _ ⟨rfl, _, rfl⟩
        repeat (first|refine zJ rfl rfl ?_|refine jr rfl ?_|refine jn ?_|refine zM rfl rfl ?_|(refine zC rfl rfl ?_ rfl ?_;omega)|(refine zD rfl rfl ?_ rfl ?_;omega)|(refine zP rfl ?_ rfl ?_;omega)|refine zG rfl rfl rfl rfl ?_|(refine jdq rfl rfl ?_ ?_ ?_;kernel_rfl;kernel_rfl)|refine zB rfl rfl rfl (by repeat constructor) rfl ?_|refine zH .here rfl rfl rfl rfl ?_|refine zH (.there .here) rfl rfl rfl rfl ?_|refine zH (.there (.there .here)) rfl rfl rfl rfl ?_|refine zH (.there (.there (.there .here))) rfl rfl rfl rfl ?_|refine zH (.there (.there (.there (.there .here)))) rfl rfl rfl rfl ?_)
        exact J_retv (vs := [.agg (u8s (digB s)).toArray]) rfl (.agg rfl rfl (Rdb.ofB (n := 0) (.there .here) (by rw [List.drop_zero, List.take_length])) h32 .nil) (hashA b (.slice ar (restB t).length cr) t) (fun w s => s.drop.drop) (hle.trans hle2) ⟨hle.trans hle2, rfl, rfl⟩
end Go.Proofs.Ytohlmhoacjodjaa
