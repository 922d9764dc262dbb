/-
  The vouchings' calls whose answers are fixed. No condition.
-/
import Derived.Test.YtdoaloimndehbaaBi
import Derived.Test.YtdoaloimndehbaaRows
import Derived.Test.YtdoaloimndehbaaKs
namespace Go.Proofs.Ytdoaloimndehbaa
open Go.RowKit
set_option maxRecDepth 100000
theorem own_knob : ownKnob Try.prog.godebug = none := by kernel_rfl
theorem laid_out : laidOutB Try.prog = true := by kernel_rfl
theorem vo_mask (x : Vo) (m : W) : Lay 34 [w32 m] x.cs (Vo.cs ⟨x.c, x.s, x.d, m⟩) := by
  have h1 := layP (u8s x.d.1) (lay_all (vs := [w32 m]) (zs := [w32 x.m]) rfl)
  rw [dig_len] at h1
  exact .skip (.skip h1)
def x3 : Vo := ⟨4, 1, zDg, 3#32⟩
def x1 : Vo := ⟨4, 1, zDg, 1#32⟩
def fixA : VM := (addM 4 noneM 0 x3).2
def fixB : VM := (addM 4 fixA 0 x3).2
def fixC : VM := (addM 4 fixB 1 x1).2
theorem fix1 : (addM 4 noneM 0 x3).1 = true := by decide +kernel
theorem fix2 : (addM 4 fixA 0 x3).1 = false := by decide +kernel
theorem fix3 : (addM 4 fixB 1 x1).1 = true := by decide +kernel
theorem fix4 : masksP fixC 4 1 zDg 4 = [3#32, 1#32] := by decide +kernel
theorem fix5 : maskP [3#32, 1#32] 2 = 1#32 := by decide +kernel
theorem fix6 : maskP [3#32, 1#32] 1 = 3#32 := by decide +kernel
theorem fix7 : provedP fixC 4 1 zDg 4 1#32 2 = true := by decide +kernel
theorem fix8 : provedP fixC 4 1 zDg 4 2#32 2 = false := by decide +kernel
set_option maxHeartbeats 8000000 in
theorem fixed24_true (F : PH) : Spec Try.prog 28 [] F [] fun u _ H' => u = .bool true ∧ H' = [] := by
  refine Spec.of0 Try.func28 rfl fun X w0 => ?_
  repeat (first|refine zJ rfl rfl ?_|refine jr rfl ?_|refine jn ?_|refine zM rfl rfl ?_|(refine zC rfl rfl ?_ rfl ?_;omega)|(refine zD rfl rfl ?_ rfl ?_;omega)|(refine zP rfl ?_ rfl ?_;omega)|refine zG rfl rfl rfl rfl ?_|(refine jdq rfl rfl ?_ ?_ ?_;kernel_rfl;kernel_rfl)|refine zB rfl rfl rfl (by repeat constructor) rfl ?_|refine zH .here rfl rfl rfl rfl ?_|refine zH (.there .here) rfl rfl rfl rfl ?_|refine zH (.there (.there .here)) rfl rfl rfl rfl ?_|refine zH (.there (.there (.there .here))) rfl rfl rfl rfl ?_|refine zH (.there (.there (.there (.there .here)))) rfl rfl rfl rfl ?_)
  refine oC (Hc := []) (Hr := X) (vnew_spec 4 F (by decide) (by decide)) Try.call29 rfl rfl (fun w s => s) ?_
  rintro _ F1 _ hF1 ⟨b, bm, rfl, rfl⟩
  have ok0 := noneM_ok 4
  have okA := addM_ok 0 x3 ok0
  have okB := addM_ok 0 x3 okA
  have okC := addM_ok 1 x1 okB
  repeat (first|refine zJ rfl rfl ?_|refine jr rfl ?_|refine jn ?_|refine zM rfl rfl ?_|(refine zC rfl rfl ?_ rfl ?_;omega)|(refine zD rfl rfl ?_ rfl ?_;omega)|(refine zP rfl ?_ rfl ?_;omega)|refine zG rfl rfl rfl rfl ?_|(refine jdq rfl rfl ?_ ?_ ?_;kernel_rfl;kernel_rfl)|refine zB rfl rfl rfl (by repeat constructor) rfl ?_|refine zH .here rfl rfl rfl rfl ?_|refine zH (.there .here) rfl rfl rfl rfl ?_|refine zH (.there (.there .here)) rfl rfl rfl rfl ?_|refine zH (.there (.there (.there .here))) rfl rfl rfl rfl ?_|refine zH (.there (.there (.there (.there .here)))) rfl rfl rfl rfl ?_)
  refine oE (ev_alloc (cs := zVoC) rfl) rfl ?_
  rintro _ _ _ _ ⟨rfl, b2, rfl, rfl⟩
  refine oN (ev_store (vs := x3.cs) rfl rfl .agg rfl rfl (lay_all (zs := zVoC) rfl) x3.ones .here) rfl ?_
  rintro _ _ _ _ ⟨rfl, _, rfl⟩
  repeat (first|refine zJ rfl rfl ?_|refine jr rfl ?_|refine jn ?_|refine zM rfl rfl ?_|(refine zC rfl rfl ?_ rfl ?_;omega)|(refine zD rfl rfl ?_ rfl ?_;omega)|(refine zP rfl ?_ rfl ?_;omega)|refine zG rfl rfl rfl rfl ?_|(refine jdq rfl rfl ?_ ?_ ?_;kernel_rfl;kernel_rfl)|refine zB rfl rfl rfl (by repeat constructor) rfl ?_|refine zH .here rfl rfl rfl rfl ?_|refine zH (.there .here) rfl rfl rfl rfl ?_|refine zH (.there (.there .here)) rfl rfl rfl rfl ?_|refine zH (.there (.there (.there .here))) rfl rfl rfl rfl ?_|refine zH (.there (.there (.there (.there .here)))) rfl rfl rfl rfl ?_)
  refine ja F1 [blk b2 72 x3.cs] ?_ (fun w t => t.head) ?_; kernel_rfl
  refine aT 0 rfl (ev_qe rfl) rfl rfl ?_ ?_ ?_ ?_; kernel_rfl; kernel_rfl; kernel_rfl
  refine aT 1 rfl (ev_load_agg (cs := x3.cs) rfl rfl (Rdb.ofB (n := 0) .here (by rw [List.drop_zero, List.take_length])) rfl) rfl rfl ?_ ?_ ?_ ?_; kernel_rfl; kernel_rfl; kernel_rfl
  refine aT 3 rfl (ev_qe rfl) rfl rfl ?_ ?_ ?_ ?_; kernel_rfl; kernel_rfl; kernel_rfl
  refine aT 4 rfl (ev_load_agg (cs := x3.cs) rfl rfl (Rdb.ofB (n := 0) .here (by rw [List.drop_zero, List.take_length])) rfl) rfl rfl ?_ ?_ ?_ ?_; kernel_rfl; kernel_rfl; kernel_rfl
  refine aB (i := 2) (by kernel_rfl) (aC (Hc := VS b 4 bm []) (Hr := blk b2 72 x3.cs :: X) rfl (vadd_spec b bm 4 0 [] x3 F1 (by decide) (by decide) ok0.rise ok0.len) Try.call30 rfl rfl rfl (fun w t => Sat.front (A := [_]) (B := VS b 4 bm []) (C := X) t) (fun _ _ _ hF hq w t => by
    obtain ⟨_, L', rfl, _⟩ := hq
    exact (Sat.front (A := VS b 4 bm L') (B := [_]) (C := X) t).head.mono hF) ?_)
  rintro _ F2 _ hF2 ⟨rfl, L1, rfl, hL1⟩
  rw [show (addM 4 (rowOf []) 0 x3).1 = true from fix1]
  replace hL1 : rowOf L1 = fixA := hL1
  refine aB (i := 5) (by kernel_rfl) (aC (Hc := VS b 4 bm L1) (Hr := blk b2 72 x3.cs :: X) rfl (vadd_spec b bm 4 0 L1 x3 F2 (by decide) (by decide) (by rw [hL1]; exact okA.rise) (by rw [hL1]; exact okA.len)) Try.call30 rfl rfl rfl (fun w t => t) (fun _ _ _ hF hq w t => by
    obtain ⟨_, L', rfl, _⟩ := hq
    exact (Sat.front (A := VS b 4 bm L') (B := [_]) (C := X) t).head.mono (hF2.trans hF)) ?_)
  rintro _ F3 _ hF3 ⟨rfl, L2, rfl, hL2⟩
  rw [hL1] at hL2 ⊢
  rw [fix2]
  replace hL2 : rowOf L2 = fixB := hL2
  refine aT 6 rfl (ev_qe rfl) rfl rfl ?_ ?_ ?_ ?_; kernel_rfl; kernel_rfl; kernel_rfl
  refine aT 7 rfl (ev_qe rfl) rfl rfl ?_ ?_ ?_ ?_; kernel_rfl; kernel_rfl; kernel_rfl
  refine aD (by kernel_rfl) ?_
  refine J_weak (F' := F3) (H' := blk b2 72 x3.cs :: (VS b 4 bm L2 ++ X)) ?_ (fun w t => Sat.front (A := VS b 4 bm L2) (B := [_]) (C := X) t)
  repeat (first|refine zJ rfl rfl ?_|refine jr rfl ?_|refine jn ?_|refine zM rfl rfl ?_|(refine zC rfl rfl ?_ rfl ?_;omega)|(refine zD rfl rfl ?_ rfl ?_;omega)|(refine zP rfl ?_ rfl ?_;omega)|refine zG rfl rfl rfl rfl ?_|(refine jdq rfl rfl ?_ ?_ ?_;kernel_rfl;kernel_rfl)|refine zB rfl rfl rfl (by repeat constructor) rfl ?_|refine zH .here rfl rfl rfl rfl ?_|refine zH (.there .here) rfl rfl rfl rfl ?_|refine zH (.there (.there .here)) rfl rfl rfl rfl ?_|refine zH (.there (.there (.there .here))) rfl rfl rfl rfl ?_|refine zH (.there (.there (.there (.there .here)))) rfl rfl rfl rfl ?_)
  refine oN (ev_store (vs := [w32 1#32]) (s := x1.cs) rfl rfl .int rfl rfl (vo_mask x3 1#32) (ones_cons rfl ones_nil) .here) rfl ?_
  rintro _ _ _ _ ⟨rfl, _, rfl⟩
  repeat (first|refine zJ rfl rfl ?_|refine jr rfl ?_|refine jn ?_|refine zM rfl rfl ?_|(refine zC rfl rfl ?_ rfl ?_;omega)|(refine zD rfl rfl ?_ rfl ?_;omega)|(refine zP rfl ?_ rfl ?_;omega)|refine zG rfl rfl rfl rfl ?_|(refine jdq rfl rfl ?_ ?_ ?_;kernel_rfl;kernel_rfl)|refine zB rfl rfl rfl (by repeat constructor) rfl ?_|refine zH .here rfl rfl rfl rfl ?_|refine zH (.there .here) rfl rfl rfl rfl ?_|refine zH (.there (.there .here)) rfl rfl rfl rfl ?_|refine zH (.there (.there (.there .here))) rfl rfl rfl rfl ?_|refine zH (.there (.there (.there (.there .here)))) rfl rfl rfl rfl ?_)
  refine oS (ev_load_agg (cs := x1.cs) rfl rfl (Rdb.ofB (n := 0) .here (by rw [List.drop_zero, List.take_length])) rfl) rfl ?_
  refine oC (Hc := VS b 4 bm L2) (Hr := blk b2 72 x1.cs :: X) (vadd_spec b bm 4 1 L2 x1 F3 (by decide) (by decide) (by rw [hL2]; exact okB.rise) (by rw [hL2]; exact okB.len)) Try.call30 rfl rfl (fun w t => Sat.front (A := [_]) (B := VS b 4 bm L2) (C := X) t) ?_
  rintro _ F4 _ hF4 ⟨rfl, L3, rfl, hL3⟩
  rw [hL2] at hL3 ⊢
  rw [fix3]
  replace hL3 : rowOf L3 = fixC := hL3
  refine o_lend fun hh hst hdj => ?_
  have hvf : VF (F4.un hh) b 4 bm L3 := vf_of hst (PH.le_r hdj)
  have hF5 : F.le (F4.un hh) := hF1.trans (hF2.trans (hF3.trans (hF4.trans (PH.le_l _ _))))
  generalize F4.un hh = F5 at *
  have h4 : ∀ q, (rowOf L3 q).length ≤ 4 := by rw [hL3]; exact okC.len
  have c1 := count_spec2 b bm 4 4 1 zDg L3 F5 (by decide) (by decide) hvf h4
  have c2 := mask_spec2 b bm 4 4 1 2 zDg L3 F5 (by decide) (by decide) hvf h4
  have c3 := mask_spec2 b bm 4 4 1 1 zDg L3 F5 (by decide) (by decide) hvf h4
  have c4 := proved_spec2 b bm 4 4 1 2 zDg 1#32 L3 F5 (by decide) (by decide) hvf h4
  have c5 := proved_spec2 b bm 4 4 1 2 zDg 2#32 L3 F5 (by decide) (by decide) hvf h4
  rw [hL3, show (4 : Int).toNat = 4 from rfl] at c1 c2 c3 c4 c5
  rw [fix4] at c1 c2 c3
  rw [fix5] at c2
  rw [fix6] at c3
  rw [fix7] at c4
  rw [fix8] at c5
  repeat (first|refine zJ rfl rfl ?_|refine jr rfl ?_|refine jn ?_|refine zM rfl rfl ?_|(refine zC rfl rfl ?_ rfl ?_;omega)|(refine zD rfl rfl ?_ rfl ?_;omega)|(refine zP rfl ?_ rfl ?_;omega)|refine zG rfl rfl rfl rfl ?_|(refine jdq rfl rfl ?_ ?_ ?_;kernel_rfl;kernel_rfl)|refine zB rfl rfl rfl (by repeat constructor) rfl ?_|refine zH .here rfl rfl rfl rfl ?_|refine zH (.there .here) rfl rfl rfl rfl ?_|refine zH (.there (.there .here)) rfl rfl rfl rfl ?_|refine zH (.there (.there (.there .here))) rfl rfl rfl rfl ?_|refine zH (.there (.there (.there (.there .here)))) rfl rfl rfl rfl ?_)
  refine oS (ev_build_arr (ps := []) (vs := []) (t := u8s zDg.1) (zs := u8s zDg.1) rfl rfl rfl .nil) rfl ?_
  refine oP (c1) Try.call32 rfl rfl ?_
  repeat (first|refine zJ rfl rfl ?_|refine jr rfl ?_|refine jn ?_|refine zM rfl rfl ?_|(refine zC rfl rfl ?_ rfl ?_;omega)|(refine zD rfl rfl ?_ rfl ?_;omega)|(refine zP rfl ?_ rfl ?_;omega)|refine zG rfl rfl rfl rfl ?_|(refine jdq rfl rfl ?_ ?_ ?_;kernel_rfl;kernel_rfl)|refine zB rfl rfl rfl (by repeat constructor) rfl ?_|refine zH .here rfl rfl rfl rfl ?_|refine zH (.there .here) rfl rfl rfl rfl ?_|refine zH (.there (.there .here)) rfl rfl rfl rfl ?_|refine zH (.there (.there (.there .here))) rfl rfl rfl rfl ?_|refine zH (.there (.there (.there (.there .here)))) rfl rfl rfl rfl ?_)
  refine oS (ev_build_arr (ps := []) (vs := []) (t := u8s zDg.1) (zs := u8s zDg.1) rfl rfl rfl .nil) rfl ?_
  refine oP (c2) Try.call33 rfl rfl ?_
  refine oS (ev_eqW (a := 1#32) (b := 1#32) rfl rfl (decide_eq_true rfl)) rfl ?_
  repeat (first|refine zJ rfl rfl ?_|refine jr rfl ?_|refine jn ?_|refine zM rfl rfl ?_|(refine zC rfl rfl ?_ rfl ?_;omega)|(refine zD rfl rfl ?_ rfl ?_;omega)|(refine zP rfl ?_ rfl ?_;omega)|refine zG rfl rfl rfl rfl ?_|(refine jdq rfl rfl ?_ ?_ ?_;kernel_rfl;kernel_rfl)|refine zB rfl rfl rfl (by repeat constructor) rfl ?_|refine zH .here rfl rfl rfl rfl ?_|refine zH (.there .here) rfl rfl rfl rfl ?_|refine zH (.there (.there .here)) rfl rfl rfl rfl ?_|refine zH (.there (.there (.there .here))) rfl rfl rfl rfl ?_|refine zH (.there (.there (.there (.there .here)))) rfl rfl rfl rfl ?_)
  refine oS (ev_build_arr (ps := []) (vs := []) (t := u8s zDg.1) (zs := u8s zDg.1) rfl rfl rfl .nil) rfl ?_
  refine oP (c3) Try.call33 rfl rfl ?_
  refine oS (ev_eqW (a := 3#32) (b := 3#32) rfl rfl (decide_eq_true rfl)) rfl ?_
  repeat (first|refine zJ rfl rfl ?_|refine jr rfl ?_|refine jn ?_|refine zM rfl rfl ?_|(refine zC rfl rfl ?_ rfl ?_;omega)|(refine zD rfl rfl ?_ rfl ?_;omega)|(refine zP rfl ?_ rfl ?_;omega)|refine zG rfl rfl rfl rfl ?_|(refine jdq rfl rfl ?_ ?_ ?_;kernel_rfl;kernel_rfl)|refine zB rfl rfl rfl (by repeat constructor) rfl ?_|refine zH .here rfl rfl rfl rfl ?_|refine zH (.there .here) rfl rfl rfl rfl ?_|refine zH (.there (.there .here)) rfl rfl rfl rfl ?_|refine zH (.there (.there (.there .here))) rfl rfl rfl rfl ?_|refine zH (.there (.there (.there (.there .here)))) rfl rfl rfl rfl ?_)
  refine oS (ev_build_arr (ps := []) (vs := []) (t := u8s zDg.1) (zs := u8s zDg.1) rfl rfl rfl .nil) rfl ?_
  refine oP (c4) Try.call31 rfl rfl ?_
  repeat (first|refine zJ rfl rfl ?_|refine jr rfl ?_|refine jn ?_|refine zM rfl rfl ?_|(refine zC rfl rfl ?_ rfl ?_;omega)|(refine zD rfl rfl ?_ rfl ?_;omega)|(refine zP rfl ?_ rfl ?_;omega)|refine zG rfl rfl rfl rfl ?_|(refine jdq rfl rfl ?_ ?_ ?_;kernel_rfl;kernel_rfl)|refine zB rfl rfl rfl (by repeat constructor) rfl ?_|refine zH .here rfl rfl rfl rfl ?_|refine zH (.there .here) rfl rfl rfl rfl ?_|refine zH (.there (.there .here)) rfl rfl rfl rfl ?_|refine zH (.there (.there (.there .here))) rfl rfl rfl rfl ?_|refine zH (.there (.there (.there (.there .here)))) rfl rfl rfl rfl ?_)
  refine oS (ev_build_arr (ps := []) (vs := []) (t := u8s zDg.1) (zs := u8s zDg.1) rfl rfl rfl .nil) rfl ?_
  refine oP (c5) Try.call31 rfl rfl ?_
  repeat (first|refine zJ rfl rfl ?_|refine jr rfl ?_|refine jn ?_|refine zM rfl rfl ?_|(refine zC rfl rfl ?_ rfl ?_;omega)|(refine zD rfl rfl ?_ rfl ?_;omega)|(refine zP rfl ?_ rfl ?_;omega)|refine zG rfl rfl rfl rfl ?_|(refine jdq rfl rfl ?_ ?_ ?_;kernel_rfl;kernel_rfl)|refine zB rfl rfl rfl (by repeat constructor) rfl ?_|refine zH .here rfl rfl rfl rfl ?_|refine zH (.there .here) rfl rfl rfl rfl ?_|refine zH (.there (.there .here)) rfl rfl rfl rfl ?_|refine zH (.there (.there (.there .here))) rfl rfl rfl rfl ?_|refine zH (.there (.there (.there (.there .here)))) rfl rfl rfl rfl ?_)
  exact J_retv rfl (.tmp rfl .nil) [] (fun w s => s.drop) hF5 ⟨rfl, rfl⟩
end Go.Proofs.Ytdoaloimndehbaa
