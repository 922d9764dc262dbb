/-
  The bytes of what replicas say, the program's and the document's. Conditions are typed with each. (Printed by wip/gen/vb.py.)
-/
import Derived.Test.YtaggonhgafggkaaVa
namespace Go.Proofs.Ytaggonhgafggkaa
open Go.RowKit
set_option maxRecDepth 100000
theorem rdb_dig {F : PH} {H Hr : List Asrt} {b off : Nat} {E : TypeId} {r : List Value} {d : List UInt8} (p : Pick (blk b E r) H Hr) (hd : d.length = 32) (ht : (r.drop off).take (u8s d).length = u8s d) : RdB F H (.slice (some ⟨b, off, none⟩) 32 32) d := by
  show RdS F H 1 _ d.length (u8s d)
  rw [hd]
  exact RdS.blk p (by rw [u8s_len, hd]) ht (Nat.le_refl _)
theorem aFH' {C : Ctx} {ops : Array Oper} {fuel : Nat} {listed : Array Bool} {k : List KItem} {l : Env} {F Fs : PH} {A : Asrt} {H : List Asrt} (hF : Fs.le F) (h : JA C (Sat F H) ops fuel listed k l F (A :: H)) : JA C (Sat Fs H) ops fuel listed k l F (A :: H) := aS F H (fun _ s => s.mono hF) (fun _ s => s.drop) h
set_option maxHeartbeats 16000000 in
theorem vote_spec (x : Vt) (F : PH) (hd : x.dig.length = 32) : Spec Try.prog 10 [.agg x.cells.toArray] F [] fun u F' H' => H' = [] ∧ Byt F' u x.bytes := by
  refine Spec.of1 Try.func10 rfl rfl fun X w0 => ?_
  refine jc rfl rfl ?_
  refine jr rfl ?_
  refine oE (ev_box rfl .agg) rfl ?_; rintro _ _ _ _ ⟨rfl, b, rfl, rfl⟩
  repeat (first|refine zJ rfl rfl ?_|refine jr rfl ?_|refine jn ?_|refine zM rfl rfl ?_|(refine zC rfl rfl ?_ rfl ?_;omega)|(refine zD rfl rfl ?_ rfl ?_;omega)|(refine zP rfl ?_ rfl ?_;omega)|refine zG rfl rfl rfl rfl ?_|(refine jdq rfl rfl ?_ ?_ ?_;kernel_rfl;kernel_rfl)|refine zB rfl rfl rfl (by repeat constructor) rfl ?_|refine zH .here rfl rfl rfl rfl ?_|refine zH (.there .here) rfl rfl rfl rfl ?_|refine zH (.there (.there .here)) rfl rfl rfl rfl ?_)
  refine ja F (blk b 25 x.cells :: X) ?_ ?_ ?_; kernel_rfl
  · exact fun w s => s
  refine aT 0 rfl (ev_fieldAddr rfl rfl) rfl rfl ?_ ?_ ?_ ?_; kernel_rfl; kernel_rfl; kernel_rfl
  refine aT 1 rfl (ev_load rfl rfl (Rdb.ofB (n := 0) .here rfl)) rfl rfl ?_ ?_ ?_ ?_; kernel_rfl; kernel_rfl; kernel_rfl
  refine aT 2 rfl (ev_fieldAddr rfl rfl) rfl rfl ?_ ?_ ?_ ?_; kernel_rfl; kernel_rfl; kernel_rfl
  refine aT 3 rfl (ev_load rfl rfl (Rdb.ofB (n := 0) .here rfl)) rfl rfl ?_ ?_ ?_ ?_; kernel_rfl; kernel_rfl; kernel_rfl
  refine aT 6 rfl (ev_fieldAddr rfl rfl) rfl rfl ?_ ?_ ?_ ?_; kernel_rfl; kernel_rfl; kernel_rfl
  refine aT 7 rfl (ev_slice_arr rfl rfl) rfl rfl ?_ ?_ ?_ ?_; kernel_rfl; kernel_rfl; kernel_rfl
  refine aB (i := 4) (by kernel_rfl) (aE rfl (ev_buildSlice (E := 2) (zs := [.int .i64 0]) (t := [.int .i64 x.view, .int .i64 x.seq]) rfl rfl rfl rfl rfl rfl (by repeat constructor)) rfl rfl (fun _ _ _ _ hq w s => by obtain ⟨rfl, _, rfl, rfl⟩ := hq; exact s.drop) ?_)
  rintro _ _ _ _ ⟨rfl, bs1, rfl, rfl⟩
  refine aPersist fun hp1 hpA1 hpd1 => ?_
  have hs1 := SliceV.of_blk (xs := [x.view, x.seq]) hpA1 hpd1 rfl
  have hG1 := PH.le_l F hp1
  refine aFH hG1 ?_
  generalize PH.un F hp1 = G1 at *
  refine aB (i := 5) (by kernel_rfl) (aC (Hc := []) (Hr := blk b 25 x.cells :: X) rfl (long_spec _ _ [x.view, x.seq] [] G1 (Byt.nil G1) hs1 (by simp) (by simp) (by simp)) Try.call43 rfl rfl rfl (fun _ s => s) (fun _ _ _ hF hq w s => by subst hq; exact s.drop.mono hF) ?_)
  rintro u2 F2 _ hF2 rfl
  refine aB (i := 8) (by kernel_rfl) (aE rfl (eb_append (bs := [] ++ longB [x.view, x.seq]) (cs := x.dig) (K := fun v' => bytes v' ([] ++ longB [x.view, x.seq] ++ x.dig) :: blk b 25 x.cells :: X) rfl rfl (rdb_dig (.there .here) hd x.dig_at) (by simp [longB, pl8, hd]) (fun v' => .here)) rfl rfl (fun _ _ _ _ hq w s => by obtain ⟨rfl, _, rfl⟩ := hq; exact s.drop.mono hF2) ?_)
  rintro u3 _ _ _ ⟨rfl, _, rfl⟩
  refine aT 9 rfl (ev_pv rfl) rfl rfl ?_ ?_ ?_ ?_; kernel_rfl; kernel_rfl; kernel_rfl
  refine aD (by kernel_rfl) ?_
  repeat (first|refine zJ rfl rfl ?_|refine jr rfl ?_|refine jn ?_|refine zM rfl rfl ?_|(refine zC rfl rfl ?_ rfl ?_;omega)|(refine zD rfl rfl ?_ rfl ?_;omega)|(refine zP rfl ?_ rfl ?_;omega)|refine zG rfl rfl rfl rfl ?_|(refine jdq rfl rfl ?_ ?_ ?_;kernel_rfl;kernel_rfl)|refine zB rfl rfl rfl (by repeat constructor) rfl ?_|refine zH .here rfl rfl rfl rfl ?_|refine zH (.there .here) rfl rfl rfl rfl ?_|refine zH (.there (.there .here)) rfl rfl rfl rfl ?_)
  refine J_persist fun h1 hA1 hd1 => ?_
  have hb := bytes_byt hA1 hd1
  rw [show [] ++ longB [x.view, x.seq] ++ x.dig = x.bytes from by simp [longB, Vt.bytes]] at hb
  exact J_retv rfl (.tmp rfl .nil) [] (fun w s => s.drop) (hG1.trans (hF2.trans (PH.le_l _ _))) ⟨rfl, hb⟩
set_option maxHeartbeats 16000000 in
theorem vouching_spec (x : Vo) (F : PH) (hd : x.dig.length = 32) (hm : x.mask < 4294967296) : Spec Try.prog 11 [.agg x.cells.toArray] F [] fun u F' H' => H' = [] ∧ Byt F' u x.bytes := by
  refine Spec.of1 Try.func11 rfl rfl fun X w0 => ?_
  refine jc rfl rfl ?_
  refine jr rfl ?_
  refine oE (ev_box rfl .agg) rfl ?_; rintro _ _ _ _ ⟨rfl, b, rfl, rfl⟩
  repeat (first|refine zJ rfl rfl ?_|refine jr rfl ?_|refine jn ?_|refine zM rfl rfl ?_|(refine zC rfl rfl ?_ rfl ?_;omega)|(refine zD rfl rfl ?_ rfl ?_;omega)|(refine zP rfl ?_ rfl ?_;omega)|refine zG rfl rfl rfl rfl ?_|(refine jdq rfl rfl ?_ ?_ ?_;kernel_rfl;kernel_rfl)|refine zB rfl rfl rfl (by repeat constructor) rfl ?_|refine zH .here rfl rfl rfl rfl ?_|refine zH (.there .here) rfl rfl rfl rfl ?_|refine zH (.there (.there .here)) rfl rfl rfl rfl ?_)
  refine J_join [_] (fun i : Value × PH => F.le i.2) (fun i => [(1, .pointer (some ⟨b, 0, none⟩)), (3, i.1)]) (fun i => i.2) (fun i => bytes i.1 (putB (uN x.client) 1 ++ longB [x.stamp] ++ x.dig) :: blk b 28 x.cells :: X) ?_ ?_
  · refine ja F (blk b 28 x.cells :: X) ?_ ?_ ?_; kernel_rfl
    · exact fun w s => s
    refine aT 0 rfl (ev_fieldAddr rfl rfl) rfl rfl ?_ ?_ ?_ ?_; kernel_rfl; kernel_rfl; kernel_rfl
    refine aT 1 rfl (ev_load rfl rfl (Rdb.ofB (n := 0) .here rfl)) rfl rfl ?_ ?_ ?_ ?_; kernel_rfl; kernel_rfl; kernel_rfl
    refine aT 2 rfl (ev_conv rfl rfl rfl (uN_wrap _)) rfl rfl ?_ ?_ ?_ ?_; kernel_rfl; kernel_rfl; kernel_rfl
    refine aT 4 rfl (ev_fieldAddr rfl rfl) rfl rfl ?_ ?_ ?_ ?_; kernel_rfl; kernel_rfl; kernel_rfl
    refine aT 5 rfl (ev_load rfl rfl (Rdb.ofB (n := 0) .here rfl)) rfl rfl ?_ ?_ ?_ ?_; kernel_rfl; kernel_rfl; kernel_rfl
    refine aT 8 rfl (ev_fieldAddr rfl rfl) rfl rfl ?_ ?_ ?_ ?_; kernel_rfl; kernel_rfl; kernel_rfl
    refine aT 9 rfl (ev_slice_arr rfl rfl) rfl rfl ?_ ?_ ?_ ?_; kernel_rfl; kernel_rfl; kernel_rfl
    refine aB2 (i := 3) (i' := 6) (by kernel_rfl) ?_ ?_
    · refine aC (Hc := []) (Hr := blk b 28 x.cells :: X) rfl (put_p _ _ _ [] F (Byt.nil F) (uN_lt _) (by simp)) Try.call44 rfl rfl rfl (fun _ s => s) (fun _ _ _ hF hq w s => by obtain ⟨e, _⟩ := hq; subst e; exact s.mono hF) ?_; rintro u2 F2 _ hF2 ⟨rfl, h2⟩; refine aFH hF2 ?_
      replace h2 : Byt F2 u2 (putB (uN x.client) 1) := h2
      refine aB (i := 6) (by kernel_rfl) (aE rfl (ev_buildSlice (E := 2) (zs := [.int .i64 0]) (t := [.int .i64 x.stamp]) rfl rfl rfl rfl rfl rfl (by repeat constructor)) rfl rfl (fun _ _ _ _ hq w s => by obtain ⟨rfl, _, rfl, rfl⟩ := hq; exact s.drop) ?_)
      rintro _ _ _ _ ⟨rfl, bs1, rfl, rfl⟩
      refine aPersist fun hp1 hpA1 hpd1 => ?_
      have hs1 := SliceV.of_blk (xs := [x.stamp]) hpA1 hpd1 rfl
      have hG1 := PH.le_l F2 hp1
      refine aFH hG1 ?_
      generalize PH.un F2 hp1 = G1 at *
      have hs1' := hs1
      refine aB (i := 7) (by kernel_rfl) (aC (Hc := []) (Hr := blk b 28 x.cells :: X) rfl (long_spec _ _ [x.stamp] (putB (uN x.client) 1) G1 (SliceV.mono h2 hG1) hs1' (by simp) (by simp) (by rw [pl1]; decide)) Try.call43 rfl rfl rfl (fun _ s => s) (fun _ _ _ hF hq w s => by subst hq; exact s.drop.mono hF) ?_)
      rintro u3 F3 _ hF3 rfl
      refine aB (i := 10) (by kernel_rfl) (aE rfl (eb_append (bs := putB (uN x.client) 1 ++ longB [x.stamp]) (cs := x.dig) (K := fun v' => bytes v' (putB (uN x.client) 1 ++ longB [x.stamp] ++ x.dig) :: blk b 28 x.cells :: X) rfl rfl (rdb_dig (.there .here) hd x.dig_at) (by simp [longB, pl8, pl1, hd]) (fun v' => .here)) rfl rfl (fun _ _ _ _ hq w s => by obtain ⟨rfl, _, rfl⟩ := hq; exact s.drop.mono hF3) ?_)
      rintro u4 _ _ _ ⟨rfl, _, rfl⟩
      refine aT 11 rfl (ev_pv rfl) rfl rfl ?_ ?_ ?_ ?_; kernel_rfl; kernel_rfl; kernel_rfl
      refine aD (by kernel_rfl) ?_
      exact J_joined (u4, F3) (hF2.trans (hG1.trans hF3)) ⟨⟨rfl, rfl, trivial⟩, fun w s => s⟩
    · refine (aE rfl (ev_buildSlice (E := 2) (zs := [.int .i64 0]) (t := [.int .i64 x.stamp]) rfl rfl rfl rfl rfl rfl (by repeat constructor)) rfl rfl (fun _ _ _ _ hq w s => by obtain ⟨rfl, _, rfl, rfl⟩ := hq; exact s.drop) ?_)
      rintro _ _ _ _ ⟨rfl, bs1, rfl, rfl⟩
      refine aPersist fun hp1 hpA1 hpd1 => ?_
      have hs1 := SliceV.of_blk (xs := [x.stamp]) hpA1 hpd1 rfl
      have hG1 := PH.le_l F hp1
      refine aFH hG1 ?_
      generalize PH.un F hp1 = G1 at *
      refine aB (i := 3) (by kernel_rfl) ?_
      refine aC (Hc := []) (Hr := blk b 28 x.cells :: X) rfl (put_p _ _ _ [] G1 (Byt.nil G1) (uN_lt _) (by simp)) Try.call44 rfl rfl rfl (fun _ s => s) (fun _ _ _ hF hq w s => by obtain ⟨e, _⟩ := hq; subst e; exact s.mono hF) ?_; rintro u2 F2 _ hF2 ⟨rfl, h2⟩; refine aFH hF2 ?_
      replace h2 : Byt F2 u2 (putB (uN x.client) 1) := h2
      have hs1' := SliceV.mono hs1 hF2
      refine aB (i := 7) (by kernel_rfl) (aC (Hc := []) (Hr := blk b 28 x.cells :: X) rfl (long_spec _ _ [x.stamp] (putB (uN x.client) 1) F2 (h2) hs1' (by simp) (by simp) (by rw [pl1]; decide)) Try.call43 rfl rfl rfl (fun _ s => s) (fun _ _ _ hF hq w s => by subst hq; exact s.drop.mono hF) ?_)
      rintro u3 F3 _ hF3 rfl
      refine aB (i := 10) (by kernel_rfl) (aE rfl (eb_append (bs := putB (uN x.client) 1 ++ longB [x.stamp]) (cs := x.dig) (K := fun v' => bytes v' (putB (uN x.client) 1 ++ longB [x.stamp] ++ x.dig) :: blk b 28 x.cells :: X) rfl rfl (rdb_dig (.there .here) hd x.dig_at) (by simp [longB, pl8, pl1, hd]) (fun v' => .here)) rfl rfl (fun _ _ _ _ hq w s => by obtain ⟨rfl, _, rfl⟩ := hq; exact s.drop.mono hF3) ?_)
      rintro u4 _ _ _ ⟨rfl, _, rfl⟩
      refine aT 11 rfl (ev_pv rfl) rfl rfl ?_ ?_ ?_ ?_; kernel_rfl; kernel_rfl; kernel_rfl
      refine aD (by kernel_rfl) ?_
      exact J_joined (u4, F3) (hG1.trans (hF2.trans hF3)) ⟨⟨rfl, rfl, trivial⟩, fun w s => s⟩
  rintro ⟨u4, F4⟩ hF4
  dsimp only at hF4
  repeat (first|refine zJ rfl rfl ?_|refine jr rfl ?_|refine jn ?_|refine zM rfl rfl ?_|(refine zC rfl rfl ?_ rfl ?_;omega)|(refine zD rfl rfl ?_ rfl ?_;omega)|(refine zP rfl ?_ rfl ?_;omega)|refine zG rfl rfl rfl rfl ?_|(refine jdq rfl rfl ?_ ?_ ?_;kernel_rfl;kernel_rfl)|refine zB rfl rfl rfl (by repeat constructor) rfl ?_|refine zH .here rfl rfl rfl rfl ?_|refine zH (.there .here) rfl rfl rfl rfl ?_|refine zH (.there (.there .here)) rfl rfl rfl rfl ?_)
  refine oS (ev_load rfl rfl (Rdb.ofB (n := 0) (.there .here) (Vo.mask_at hd))) rfl ?_
  refine oS (ev_conv rfl rfl rfl (wrap_in (by dsimp only [InK]; omega))) rfl ?_
  refine oPersist fun h1 hA1 hd1 => ?_
  have hbv := bytes_byt hA1 hd1
  dsimp only at hbv
  have hle := PH.le_l F4 h1
  generalize hG1 : PH.un (u4, F4).2 h1 = G1 at *
  replace hle : F4.le G1 := by rw [← hG1]; exact PH.le_l _ _
  clear hG1
  refine oC (Hc := []) (Hr := blk b 28 x.cells :: X) (put_p _ _ _ _ G1 hbv (show x.mask < 2 ^ 64 by omega) (by simp [longB, pl8, pl1, hd])) Try.call44 rfl rfl (fun _ s => s) ?_; rintro u5 F5 _ hF5 ⟨rfl, h5⟩
  rw [show putB (uN x.client) 1 ++ longB [x.stamp] ++ x.dig ++ putB x.mask 1 = x.bytes from by simp [longB, Vo.bytes]] at h5
  repeat (first|refine zJ rfl rfl ?_|refine jr rfl ?_|refine jn ?_|refine zM rfl rfl ?_|(refine zC rfl rfl ?_ rfl ?_;omega)|(refine zD rfl rfl ?_ rfl ?_;omega)|(refine zP rfl ?_ rfl ?_;omega)|refine zG rfl rfl rfl rfl ?_|(refine jdq rfl rfl ?_ ?_ ?_;kernel_rfl;kernel_rfl)|refine zB rfl rfl rfl (by repeat constructor) rfl ?_|refine zH .here rfl rfl rfl rfl ?_|refine zH (.there .here) rfl rfl rfl rfl ?_|refine zH (.there (.there .here)) rfl rfl rfl rfl ?_)
  exact J_retv rfl (.tmp rfl .nil) [] (fun w s => s.drop) (hF4.trans (hle.trans hF5)) ⟨rfl, h5⟩
set_option maxHeartbeats 16000000 in
theorem reply_spec (x : Rp) (F : PH) : Spec Try.prog 12 [.agg x.cells.toArray] F [] fun u F' H' => H' = [] ∧ Byt F' u x.bytes := by
  refine Spec.of1 Try.func12 rfl rfl fun X w0 => ?_
  refine jc rfl rfl ?_
  refine jr rfl ?_
  refine oE (ev_box rfl .agg) rfl ?_; rintro _ _ _ _ ⟨rfl, b, rfl, rfl⟩
  repeat (first|refine zJ rfl rfl ?_|refine jr rfl ?_|refine jn ?_|refine zM rfl rfl ?_|(refine zC rfl rfl ?_ rfl ?_;omega)|(refine zD rfl rfl ?_ rfl ?_;omega)|(refine zP rfl ?_ rfl ?_;omega)|refine zG rfl rfl rfl rfl ?_|(refine jdq rfl rfl ?_ ?_ ?_;kernel_rfl;kernel_rfl)|refine zB rfl rfl rfl (by repeat constructor) rfl ?_|refine zH .here rfl rfl rfl rfl ?_|refine zH (.there .here) rfl rfl rfl rfl ?_|refine zH (.there (.there .here)) rfl rfl rfl rfl ?_)
  refine J_join [_] (fun i : Value × PH => F.le i.2) (fun i => [(1, .pointer (some ⟨b, 0, none⟩)), (3, i.1)]) (fun i => i.2) (fun i => bytes i.1 (longB [x.view] ++ putB (uN x.client) 1 ++ longB [x.stamp]) :: blk b 31 x.cells :: X) ?_ ?_
  · refine ja F (blk b 31 x.cells :: X) ?_ ?_ ?_; kernel_rfl
    · exact fun w s => s
    refine aT 0 rfl (ev_fieldAddr rfl rfl) rfl rfl ?_ ?_ ?_ ?_; kernel_rfl; kernel_rfl; kernel_rfl
    refine aT 1 rfl (ev_load rfl rfl (Rdb.ofB (n := 0) .here rfl)) rfl rfl ?_ ?_ ?_ ?_; kernel_rfl; kernel_rfl; kernel_rfl
    refine aT 4 rfl (ev_fieldAddr rfl rfl) rfl rfl ?_ ?_ ?_ ?_; kernel_rfl; kernel_rfl; kernel_rfl
    refine aT 5 rfl (ev_load rfl rfl (Rdb.ofB (n := 0) .here rfl)) rfl rfl ?_ ?_ ?_ ?_; kernel_rfl; kernel_rfl; kernel_rfl
    refine aT 6 rfl (ev_conv rfl rfl rfl (uN_wrap _)) rfl rfl ?_ ?_ ?_ ?_; kernel_rfl; kernel_rfl; kernel_rfl
    refine aT 8 rfl (ev_fieldAddr rfl rfl) rfl rfl ?_ ?_ ?_ ?_; kernel_rfl; kernel_rfl; kernel_rfl
    refine aT 9 rfl (ev_load rfl rfl (Rdb.ofB (n := 0) .here rfl)) rfl rfl ?_ ?_ ?_ ?_; kernel_rfl; kernel_rfl; kernel_rfl
    refine aB2 (i := 2) (i' := 10) (by kernel_rfl) ?_ ?_
    · refine (aE rfl (ev_buildSlice (E := 2) (zs := [.int .i64 0]) (t := [.int .i64 x.view]) rfl rfl rfl rfl rfl rfl (by repeat constructor)) rfl rfl (fun _ _ _ _ hq w s => by obtain ⟨rfl, _, rfl, rfl⟩ := hq; exact s.drop) ?_)
      rintro _ _ _ _ ⟨rfl, bs1, rfl, rfl⟩
      refine aPersist fun hp1 hpA1 hpd1 => ?_
      have hs1 := SliceV.of_blk (xs := [x.view]) hpA1 hpd1 rfl
      have hG1 := PH.le_l F hp1
      refine aFH hG1 ?_
      generalize PH.un F hp1 = G1 at *
      refine aB2 (i := 3) (i' := 10) (by kernel_rfl) ?_ ?_
      · refine (aC (Hc := []) (Hr := blk b 31 x.cells :: X) rfl (long_spec _ _ [x.view] [] G1 (Byt.nil G1) (hs1) (by simp) (by simp) (by simp)) Try.call43 rfl rfl rfl (fun _ s => s) (fun _ _ _ hF hq w s => by subst hq; exact s.drop.mono hF) ?_)
        rintro u2 F2 _ hF2 rfl
        refine aPersist fun hp2 hpA2 hpd2 => ?_
        have hb2 := bytes_byt hpA2 hpd2
        have hG2 := PH.le_l F2 hp2
        refine aFH (hF2.trans hG2) ?_
        generalize PH.un F2 hp2 = G2 at *
        refine aB2 (i := 7) (i' := 10) (by kernel_rfl) ?_ ?_
        · refine aC (Hc := []) (Hr := blk b 31 x.cells :: X) rfl (put_p _ _ _ _ G2 (hb2) (uN_lt _) (by simp [longB, pl8])) Try.call44 rfl rfl rfl (fun _ s => s) (fun _ _ _ hF hq w s => by obtain ⟨e, _⟩ := hq; subst e; exact s.mono hF) ?_; rintro u3 F3 _ hF3 ⟨rfl, h3⟩; refine aFH hF3 ?_
          refine aB (i := 10) (by kernel_rfl) (aE rfl (ev_buildSlice (E := 2) (zs := [.int .i64 0]) (t := [.int .i64 x.stamp]) rfl rfl rfl rfl rfl rfl (by repeat constructor)) rfl rfl (fun _ _ _ _ hq w s => by obtain ⟨rfl, _, rfl, rfl⟩ := hq; exact s.drop) ?_)
          rintro _ _ _ _ ⟨rfl, bs9, rfl, rfl⟩
          refine aPersist fun hp9 hpA9 hpd9 => ?_
          have hs9 := SliceV.of_blk (xs := [x.stamp]) hpA9 hpd9 rfl
          have hG9 := PH.le_l F3 hp9
          refine aFH hG9 ?_
          generalize PH.un F3 hp9 = G9 at *
          refine aB (i := 11) (by kernel_rfl) (aC (Hc := []) (Hr := blk b 31 x.cells :: X) rfl (long_spec _ _ [x.stamp] _ G9 (SliceV.mono h3 hG9) (hs9) (by simp) (by simp) (by simp [longB, pl8, pl1])) Try.call43 rfl rfl rfl (fun _ s => s) (fun _ _ _ hF hq w s => by subst hq; exact s.drop.mono hF) ?_)
          rintro u5 F5 _ hF5 rfl
          refine aT 12 rfl (ev_pv rfl) rfl rfl ?_ ?_ ?_ ?_; kernel_rfl; kernel_rfl; kernel_rfl
          refine aD (by kernel_rfl) ?_
          exact J_joined (u5, F5) ((hG1.trans (hF2.trans (hG2.trans (hF3.trans (hG9.trans hF5)))))) ⟨⟨rfl, rfl, trivial⟩, fun w s => s⟩
        · refine (aE rfl (ev_buildSlice (E := 2) (zs := [.int .i64 0]) (t := [.int .i64 x.stamp]) rfl rfl rfl rfl rfl rfl (by repeat constructor)) rfl rfl (fun _ _ _ _ hq w s => by obtain ⟨rfl, _, rfl, rfl⟩ := hq; exact s.drop) ?_)
          rintro _ _ _ _ ⟨rfl, bs9, rfl, rfl⟩
          refine aPersist fun hp9 hpA9 hpd9 => ?_
          have hs9 := SliceV.of_blk (xs := [x.stamp]) hpA9 hpd9 rfl
          have hG9 := PH.le_l G2 hp9
          refine aFH hG9 ?_
          generalize PH.un G2 hp9 = G9 at *
          refine aB (i := 7) (by kernel_rfl) ?_
          refine aC (Hc := []) (Hr := blk b 31 x.cells :: X) rfl (put_p _ _ _ _ G9 (SliceV.mono hb2 hG9) (uN_lt _) (by simp [longB, pl8])) Try.call44 rfl rfl rfl (fun _ s => s) (fun _ _ _ hF hq w s => by obtain ⟨e, _⟩ := hq; subst e; exact s.mono hF) ?_; rintro u3 F3 _ hF3 ⟨rfl, h3⟩; refine aFH hF3 ?_
          refine aB (i := 11) (by kernel_rfl) (aC (Hc := []) (Hr := blk b 31 x.cells :: X) rfl (long_spec _ _ [x.stamp] _ F3 (h3) (SliceV.mono hs9 hF3) (by simp) (by simp) (by simp [longB, pl8, pl1])) Try.call43 rfl rfl rfl (fun _ s => s) (fun _ _ _ hF hq w s => by subst hq; exact s.drop.mono hF) ?_)
          rintro u5 F5 _ hF5 rfl
          refine aT 12 rfl (ev_pv rfl) rfl rfl ?_ ?_ ?_ ?_; kernel_rfl; kernel_rfl; kernel_rfl
          refine aD (by kernel_rfl) ?_
          exact J_joined (u5, F5) ((hG1.trans (hF2.trans (hG2.trans (hG9.trans (hF3.trans hF5)))))) ⟨⟨rfl, rfl, trivial⟩, fun w s => s⟩
      · refine (aE rfl (ev_buildSlice (E := 2) (zs := [.int .i64 0]) (t := [.int .i64 x.stamp]) rfl rfl rfl rfl rfl rfl (by repeat constructor)) rfl rfl (fun _ _ _ _ hq w s => by obtain ⟨rfl, _, rfl, rfl⟩ := hq; exact s.drop) ?_)
        rintro _ _ _ _ ⟨rfl, bs9, rfl, rfl⟩
        refine aPersist fun hp9 hpA9 hpd9 => ?_
        have hs9 := SliceV.of_blk (xs := [x.stamp]) hpA9 hpd9 rfl
        have hG9 := PH.le_l G1 hp9
        refine aFH hG9 ?_
        generalize PH.un G1 hp9 = G9 at *
        refine aB (i := 3) (by kernel_rfl) (aC (Hc := []) (Hr := blk b 31 x.cells :: X) rfl (long_spec _ _ [x.view] [] G9 (Byt.nil G9) (SliceV.mono hs1 hG9) (by simp) (by simp) (by simp)) Try.call43 rfl rfl rfl (fun _ s => s) (fun _ _ _ hF hq w s => by subst hq; exact s.drop.mono hF) ?_)
        rintro u2 F2 _ hF2 rfl
        refine aPersist fun hp2 hpA2 hpd2 => ?_
        have hb2 := bytes_byt hpA2 hpd2
        have hG2 := PH.le_l F2 hp2
        refine aFH (hF2.trans hG2) ?_
        generalize PH.un F2 hp2 = G2 at *
        refine aB (i := 7) (by kernel_rfl) ?_
        refine aC (Hc := []) (Hr := blk b 31 x.cells :: X) rfl (put_p _ _ _ _ G2 (hb2) (uN_lt _) (by simp [longB, pl8])) Try.call44 rfl rfl rfl (fun _ s => s) (fun _ _ _ hF hq w s => by obtain ⟨e, _⟩ := hq; subst e; exact s.mono hF) ?_; rintro u3 F3 _ hF3 ⟨rfl, h3⟩; refine aFH hF3 ?_
        refine aB (i := 11) (by kernel_rfl) (aC (Hc := []) (Hr := blk b 31 x.cells :: X) rfl (long_spec _ _ [x.stamp] _ F3 (h3) (SliceV.mono hs9 (hF2.trans (hG2.trans hF3))) (by simp) (by simp) (by simp [longB, pl8, pl1])) Try.call43 rfl rfl rfl (fun _ s => s) (fun _ _ _ hF hq w s => by subst hq; exact s.drop.mono hF) ?_)
        rintro u5 F5 _ hF5 rfl
        refine aT 12 rfl (ev_pv rfl) rfl rfl ?_ ?_ ?_ ?_; kernel_rfl; kernel_rfl; kernel_rfl
        refine aD (by kernel_rfl) ?_
        exact J_joined (u5, F5) ((hG1.trans (hG9.trans (hF2.trans (hG2.trans (hF3.trans hF5)))))) ⟨⟨rfl, rfl, trivial⟩, fun w s => s⟩
    · refine (aE rfl (ev_buildSlice (E := 2) (zs := [.int .i64 0]) (t := [.int .i64 x.stamp]) rfl rfl rfl rfl rfl rfl (by repeat constructor)) rfl rfl (fun _ _ _ _ hq w s => by obtain ⟨rfl, _, rfl, rfl⟩ := hq; exact s.drop) ?_)
      rintro _ _ _ _ ⟨rfl, bs9, rfl, rfl⟩
      refine aPersist fun hp9 hpA9 hpd9 => ?_
      have hs9 := SliceV.of_blk (xs := [x.stamp]) hpA9 hpd9 rfl
      have hG9 := PH.le_l F hp9
      refine aFH hG9 ?_
      generalize PH.un F hp9 = G9 at *
      refine aB (i := 2) (by kernel_rfl) (aE rfl (ev_buildSlice (E := 2) (zs := [.int .i64 0]) (t := [.int .i64 x.view]) rfl rfl rfl rfl rfl rfl (by repeat constructor)) rfl rfl (fun _ _ _ _ hq w s => by obtain ⟨rfl, _, rfl, rfl⟩ := hq; exact s.drop) ?_)
      rintro _ _ _ _ ⟨rfl, bs1, rfl, rfl⟩
      refine aPersist fun hp1 hpA1 hpd1 => ?_
      have hs1 := SliceV.of_blk (xs := [x.view]) hpA1 hpd1 rfl
      have hG1 := PH.le_l G9 hp1
      refine aFH hG1 ?_
      generalize PH.un G9 hp1 = G1 at *
      refine aB (i := 3) (by kernel_rfl) (aC (Hc := []) (Hr := blk b 31 x.cells :: X) rfl (long_spec _ _ [x.view] [] G1 (Byt.nil G1) (hs1) (by simp) (by simp) (by simp)) Try.call43 rfl rfl rfl (fun _ s => s) (fun _ _ _ hF hq w s => by subst hq; exact s.drop.mono hF) ?_)
      rintro u2 F2 _ hF2 rfl
      refine aPersist fun hp2 hpA2 hpd2 => ?_
      have hb2 := bytes_byt hpA2 hpd2
      have hG2 := PH.le_l F2 hp2
      refine aFH (hF2.trans hG2) ?_
      generalize PH.un F2 hp2 = G2 at *
      refine aB (i := 7) (by kernel_rfl) ?_
      refine aC (Hc := []) (Hr := blk b 31 x.cells :: X) rfl (put_p _ _ _ _ G2 (hb2) (uN_lt _) (by simp [longB, pl8])) Try.call44 rfl rfl rfl (fun _ s => s) (fun _ _ _ hF hq w s => by obtain ⟨e, _⟩ := hq; subst e; exact s.mono hF) ?_; rintro u3 F3 _ hF3 ⟨rfl, h3⟩; refine aFH hF3 ?_
      refine aB (i := 11) (by kernel_rfl) (aC (Hc := []) (Hr := blk b 31 x.cells :: X) rfl (long_spec _ _ [x.stamp] _ F3 (h3) (SliceV.mono hs9 (hG1.trans (hF2.trans (hG2.trans hF3)))) (by simp) (by simp) (by simp [longB, pl8, pl1])) Try.call43 rfl rfl rfl (fun _ s => s) (fun _ _ _ hF hq w s => by subst hq; exact s.drop.mono hF) ?_)
      rintro u5 F5 _ hF5 rfl
      refine aT 12 rfl (ev_pv rfl) rfl rfl ?_ ?_ ?_ ?_; kernel_rfl; kernel_rfl; kernel_rfl
      refine aD (by kernel_rfl) ?_
      exact J_joined (u5, F5) ((hG9.trans (hG1.trans (hF2.trans (hG2.trans (hF3.trans hF5)))))) ⟨⟨rfl, rfl, trivial⟩, fun w s => s⟩
  rintro ⟨u4, F4⟩ hF4
  dsimp only at hF4
  repeat (first|refine zJ rfl rfl ?_|refine jr rfl ?_|refine jn ?_|refine zM rfl rfl ?_|(refine zC rfl rfl ?_ rfl ?_;omega)|(refine zD rfl rfl ?_ rfl ?_;omega)|(refine zP rfl ?_ rfl ?_;omega)|refine zG rfl rfl rfl rfl ?_|(refine jdq rfl rfl ?_ ?_ ?_;kernel_rfl;kernel_rfl)|refine zB rfl rfl rfl (by repeat constructor) rfl ?_|refine zH .here rfl rfl rfl rfl ?_|refine zH (.there .here) rfl rfl rfl rfl ?_|refine zH (.there (.there .here)) rfl rfl rfl rfl ?_)
  refine oS (ev_conv rfl rfl rfl (uN_wrap _)) rfl ?_
  refine oPersist fun h1 hA1 hd1 => ?_
  have hbv := bytes_byt hA1 hd1
  dsimp only at hbv
  generalize hG1 : PH.un (u4, F4).2 h1 = G1 at *
  have hle : F4.le G1 := by rw [← hG1]; exact PH.le_l _ _
  clear hG1
  refine oC (Hc := []) (Hr := blk b 31 x.cells :: X) (put_p _ _ _ _ G1 hbv (uN_lt _) (by simp [longB, pl8, pl1])) Try.call44 rfl rfl (fun _ s => s) ?_; rintro u5 F5 _ hF5 ⟨rfl, h5⟩
  rw [show longB [x.view] ++ putB (uN x.client) 1 ++ longB [x.stamp] ++ putB (uN x.result) 1 = x.bytes from by simp [longB, Rp.bytes]] at h5
  repeat (first|refine zJ rfl rfl ?_|refine jr rfl ?_|refine jn ?_|refine zM rfl rfl ?_|(refine zC rfl rfl ?_ rfl ?_;omega)|(refine zD rfl rfl ?_ rfl ?_;omega)|(refine zP rfl ?_ rfl ?_;omega)|refine zG rfl rfl rfl rfl ?_|(refine jdq rfl rfl ?_ ?_ ?_;kernel_rfl;kernel_rfl)|refine zB rfl rfl rfl (by repeat constructor) rfl ?_|refine zH .here rfl rfl rfl rfl ?_|refine zH (.there .here) rfl rfl rfl rfl ?_|refine zH (.there (.there .here)) rfl rfl rfl rfl ?_)
  exact J_retv rfl (.tmp rfl .nil) [] (fun w s => s.drop) (hF4.trans (hle.trans hF5)) ⟨rfl, h5⟩
set_option maxHeartbeats 16000000 in
theorem Vote_spec (x : Vt) (F : PH) (hd : x.dig.length = 32) : Spec Try.prog 13 [.agg x.cells.toArray] F [] fun u F' H' => H' = [] ∧ Byt F' u x.bytes := by
  refine Spec.of1 Try.func13 rfl rfl fun X w0 => ?_
  refine jc rfl rfl ?_
  refine jr rfl ?_
  refine oE (ev_box rfl .agg) rfl ?_; rintro _ _ _ _ ⟨rfl, b, rfl, rfl⟩
  repeat (first|refine zJ rfl rfl ?_|refine jr rfl ?_|refine jn ?_|refine zM rfl rfl ?_|(refine zC rfl rfl ?_ rfl ?_;omega)|(refine zD rfl rfl ?_ rfl ?_;omega)|(refine zP rfl ?_ rfl ?_;omega)|refine zG rfl rfl rfl rfl ?_|(refine jdq rfl rfl ?_ ?_ ?_;kernel_rfl;kernel_rfl)|refine zB rfl rfl rfl (by repeat constructor) rfl ?_|refine zH .here rfl rfl rfl rfl ?_|refine zH (.there .here) rfl rfl rfl rfl ?_|refine zH (.there (.there .here)) rfl rfl rfl rfl ?_)
  refine ja F (blk b 25 x.cells :: X) ?_ ?_ ?_; kernel_rfl
  · exact fun w s => s
  refine aT 0 rfl (ev_fieldAddr rfl rfl) rfl rfl ?_ ?_ ?_ ?_; kernel_rfl; kernel_rfl; kernel_rfl
  refine aT 1 rfl (ev_load rfl rfl (Rdb.ofB (n := 0) .here rfl)) rfl rfl ?_ ?_ ?_ ?_; kernel_rfl; kernel_rfl; kernel_rfl
  refine aT 2 rfl (ev_conv rfl rfl rfl (uN_wrap _)) rfl rfl ?_ ?_ ?_ ?_; kernel_rfl; kernel_rfl; kernel_rfl
  refine aT 4 rfl (ev_fieldAddr rfl rfl) rfl rfl ?_ ?_ ?_ ?_; kernel_rfl; kernel_rfl; kernel_rfl
  refine aT 5 rfl (ev_load rfl rfl (Rdb.ofB (n := 0) .here rfl)) rfl rfl ?_ ?_ ?_ ?_; kernel_rfl; kernel_rfl; kernel_rfl
  refine aT 6 rfl (ev_conv rfl rfl rfl (uN_wrap _)) rfl rfl ?_ ?_ ?_ ?_; kernel_rfl; kernel_rfl; kernel_rfl
  refine aT 8 rfl (ev_fieldAddr rfl rfl) rfl rfl ?_ ?_ ?_ ?_; kernel_rfl; kernel_rfl; kernel_rfl
  refine aT 9 rfl (ev_load_agg (cs := u8s x.dig) rfl rfl (Rdb.ofB (n := 0) .here x.dig_at) (by rw [u8s_len]; exact hd)) rfl rfl ?_ ?_ ?_ ?_; kernel_rfl; kernel_rfl; kernel_rfl
  refine aB (i := 3) (by kernel_rfl) ?_
  refine aC (Hc := []) (Hr := blk b 25 x.cells :: X) rfl (Put_p _ _ _ [] F (Byt.nil F) (uN_lt _) (by simp)) Try.call46 rfl rfl rfl (fun _ s => s) (fun _ _ _ hF hq w s => by obtain ⟨e, _⟩ := hq; subst e; exact s.mono hF) ?_; rintro u1 F1 _ hF1 ⟨rfl, h1⟩; refine aFH hF1 ?_
  refine aB (i := 7) (by kernel_rfl) ?_
  refine aC (Hc := []) (Hr := blk b 25 x.cells :: X) rfl (Put_p _ _ _ _ F1 h1 (uN_lt _) (by simp [pl8])) Try.call46 rfl rfl rfl (fun _ s => s) (fun _ _ _ hF hq w s => by obtain ⟨e, _⟩ := hq; subst e; exact s.mono hF) ?_; rintro u2 F2 _ hF2 ⟨rfl, h2⟩; refine aFH hF2 ?_
  refine aB (i := 10) (by kernel_rfl) ?_
  refine aC (Hc := []) (Hr := blk b 25 x.cells :: X) rfl (Digest_spec _ _ x.dig F2 h2 hd (by simp [pl8])) Try.call45 rfl rfl rfl (fun _ s => s) (fun _ _ _ hF hq w s => by obtain ⟨e, _⟩ := hq; subst e; exact s.mono hF) ?_; rintro u3 F3 _ hF3 ⟨rfl, h3⟩; refine aFH hF3 ?_
  refine aT 11 rfl (ev_pv rfl) rfl rfl ?_ ?_ ?_ ?_; kernel_rfl; kernel_rfl; kernel_rfl
  refine aD (by kernel_rfl) ?_
  repeat (first|refine zJ rfl rfl ?_|refine jr rfl ?_|refine jn ?_|refine zM rfl rfl ?_|(refine zC rfl rfl ?_ rfl ?_;omega)|(refine zD rfl rfl ?_ rfl ?_;omega)|(refine zP rfl ?_ rfl ?_;omega)|refine zG rfl rfl rfl rfl ?_|(refine jdq rfl rfl ?_ ?_ ?_;kernel_rfl;kernel_rfl)|refine zB rfl rfl rfl (by repeat constructor) rfl ?_|refine zH .here rfl rfl rfl rfl ?_|refine zH (.there .here) rfl rfl rfl rfl ?_|refine zH (.there (.there .here)) rfl rfl rfl rfl ?_)
  exact J_retv rfl (.tmp rfl .nil) [] (fun w s => s.drop) (hF1.trans (hF2.trans hF3)) ⟨rfl, h3⟩
set_option maxHeartbeats 16000000 in
theorem Vouching_spec (x : Vo) (F : PH) (hd : x.dig.length = 32) (hm : x.mask < 4294967296) : Spec Try.prog 14 [.agg x.cells.toArray] F [] fun u F' H' => H' = [] ∧ Byt F' u x.bytes := by
  refine Spec.of1 Try.func14 rfl rfl fun X w0 => ?_
  refine jc rfl rfl ?_
  refine jr rfl ?_
  refine oE (ev_box rfl .agg) rfl ?_; rintro _ _ _ _ ⟨rfl, b, rfl, rfl⟩
  repeat (first|refine zJ rfl rfl ?_|refine jr rfl ?_|refine jn ?_|refine zM rfl rfl ?_|(refine zC rfl rfl ?_ rfl ?_;omega)|(refine zD rfl rfl ?_ rfl ?_;omega)|(refine zP rfl ?_ rfl ?_;omega)|refine zG rfl rfl rfl rfl ?_|(refine jdq rfl rfl ?_ ?_ ?_;kernel_rfl;kernel_rfl)|refine zB rfl rfl rfl (by repeat constructor) rfl ?_|refine zH .here rfl rfl rfl rfl ?_|refine zH (.there .here) rfl rfl rfl rfl ?_|refine zH (.there (.there .here)) rfl rfl rfl rfl ?_)
  refine ja F (blk b 28 x.cells :: X) ?_ ?_ ?_; kernel_rfl
  · exact fun w s => s
  refine aT 0 rfl (ev_fieldAddr rfl rfl) rfl rfl ?_ ?_ ?_ ?_; kernel_rfl; kernel_rfl; kernel_rfl
  refine aT 1 rfl (ev_load rfl rfl (Rdb.ofB (n := 0) .here rfl)) rfl rfl ?_ ?_ ?_ ?_; kernel_rfl; kernel_rfl; kernel_rfl
  refine aT 2 rfl (ev_conv rfl rfl rfl (uN_wrap _)) rfl rfl ?_ ?_ ?_ ?_; kernel_rfl; kernel_rfl; kernel_rfl
  refine aT 4 rfl (ev_fieldAddr rfl rfl) rfl rfl ?_ ?_ ?_ ?_; kernel_rfl; kernel_rfl; kernel_rfl
  refine aT 5 rfl (ev_load rfl rfl (Rdb.ofB (n := 0) .here rfl)) rfl rfl ?_ ?_ ?_ ?_; kernel_rfl; kernel_rfl; kernel_rfl
  refine aT 6 rfl (ev_conv rfl rfl rfl (uN_wrap _)) rfl rfl ?_ ?_ ?_ ?_; kernel_rfl; kernel_rfl; kernel_rfl
  refine aB (i := 3) (by kernel_rfl) ?_
  refine aC (Hc := []) (Hr := blk b 28 x.cells :: X) rfl (Put_p _ _ _ [] F (Byt.nil F) (uN_lt _) (by simp)) Try.call46 rfl rfl rfl (fun _ s => s) (fun _ _ _ hF hq w s => by obtain ⟨e, _⟩ := hq; subst e; exact s.mono hF) ?_; rintro u1 F1 _ hF1 ⟨rfl, h1⟩; refine aFH hF1 ?_
  refine aB (i := 7) (by kernel_rfl) ?_
  refine aC (Hc := []) (Hr := blk b 28 x.cells :: X) rfl (Put_p _ _ _ _ F1 h1 (uN_lt _) (by simp [pl1])) Try.call46 rfl rfl rfl (fun _ s => s) (fun _ _ _ hF hq w s => by obtain ⟨e, _⟩ := hq; subst e; exact s.mono hF) ?_; rintro u2 F2 _ hF2 ⟨rfl, h2⟩; refine aFH hF2 ?_
  refine aT 8 rfl (ev_pv rfl) rfl rfl ?_ ?_ ?_ ?_; kernel_rfl; kernel_rfl; kernel_rfl
  refine aD (by kernel_rfl) ?_
  repeat (first|refine zJ rfl rfl ?_|refine jr rfl ?_|refine jn ?_|refine zM rfl rfl ?_|(refine zC rfl rfl ?_ rfl ?_;omega)|(refine zD rfl rfl ?_ rfl ?_;omega)|(refine zP rfl ?_ rfl ?_;omega)|refine zG rfl rfl rfl rfl ?_|(refine jdq rfl rfl ?_ ?_ ?_;kernel_rfl;kernel_rfl)|refine zB rfl rfl rfl (by repeat constructor) rfl ?_|refine zH .here rfl rfl rfl rfl ?_|refine zH (.there .here) rfl rfl rfl rfl ?_|refine zH (.there (.there .here)) rfl rfl rfl rfl ?_)
  refine ja F2 (blk b 28 x.cells :: X) ?_ ?_ ?_; kernel_rfl
  · exact fun w s => s
  refine aT 0 rfl (ev_pv rfl) rfl rfl ?_ ?_ ?_ ?_; kernel_rfl; kernel_rfl; kernel_rfl
  refine aT 1 rfl (ev_fieldAddr rfl rfl) rfl rfl ?_ ?_ ?_ ?_; kernel_rfl; kernel_rfl; kernel_rfl
  refine aT 2 rfl (ev_load_agg (cs := u8s x.dig) rfl rfl (Rdb.ofB (n := 0) .here x.dig_at) (by rw [u8s_len]; exact hd)) rfl rfl ?_ ?_ ?_ ?_; kernel_rfl; kernel_rfl; kernel_rfl
  refine aT 4 rfl (ev_fieldAddr rfl rfl) rfl rfl ?_ ?_ ?_ ?_; kernel_rfl; kernel_rfl; kernel_rfl
  refine aT 5 rfl (ev_load rfl rfl (Rdb.ofB (n := 0) .here (Vo.mask_at hd))) rfl rfl ?_ ?_ ?_ ?_; kernel_rfl; kernel_rfl; kernel_rfl
  refine aT 6 rfl (ev_conv rfl rfl rfl (wrap_in (by dsimp only [InK]; omega))) rfl rfl ?_ ?_ ?_ ?_; kernel_rfl; kernel_rfl; kernel_rfl
  refine aB (i := 3) (by kernel_rfl) ?_
  refine aC (Hc := []) (Hr := blk b 28 x.cells :: X) rfl (Digest_spec _ _ x.dig F2 h2 hd (by simp [pl8, pl1])) Try.call45 rfl rfl rfl (fun _ s => s) (fun _ _ _ hF hq w s => by obtain ⟨e, _⟩ := hq; subst e; exact s.mono hF) ?_; rintro u3 F3 _ hF3 ⟨rfl, h3⟩; refine aFH hF3 ?_
  refine aB (i := 7) (by kernel_rfl) ?_
  refine aC (Hc := []) (Hr := blk b 28 x.cells :: X) rfl (Put_p _ _ _ _ F3 h3 (show x.mask < 2 ^ 64 by omega) (by simp [pl8, pl1, hd])) Try.call46 rfl rfl rfl (fun _ s => s) (fun _ _ _ hF hq w s => by obtain ⟨e, _⟩ := hq; subst e; exact s.mono hF) ?_; rintro u4 F4 _ hF4 ⟨rfl, h4⟩; refine aFH hF4 ?_
  refine aT 8 rfl (ev_pv rfl) rfl rfl ?_ ?_ ?_ ?_; kernel_rfl; kernel_rfl; kernel_rfl
  refine aD (by kernel_rfl) ?_
  repeat (first|refine zJ rfl rfl ?_|refine jr rfl ?_|refine jn ?_|refine zM rfl rfl ?_|(refine zC rfl rfl ?_ rfl ?_;omega)|(refine zD rfl rfl ?_ rfl ?_;omega)|(refine zP rfl ?_ rfl ?_;omega)|refine zG rfl rfl rfl rfl ?_|(refine jdq rfl rfl ?_ ?_ ?_;kernel_rfl;kernel_rfl)|refine zB rfl rfl rfl (by repeat constructor) rfl ?_|refine zH .here rfl rfl rfl rfl ?_|refine zH (.there .here) rfl rfl rfl rfl ?_|refine zH (.there (.there .here)) rfl rfl rfl rfl ?_)
  exact J_retv rfl (.tmp rfl .nil) [] (fun w s => s.drop) (hF1.trans (hF2.trans (hF3.trans hF4))) ⟨rfl, h4⟩
set_option maxHeartbeats 16000000 in
theorem Reply_spec (x : Rp) (F : PH) : Spec Try.prog 15 [.agg x.cells.toArray] F [] fun u F' H' => H' = [] ∧ Byt F' u x.bytes := by
  refine Spec.of1 Try.func15 rfl rfl fun X w0 => ?_
  refine jc rfl rfl ?_
  refine jr rfl ?_
  refine oE (ev_box rfl .agg) rfl ?_; rintro _ _ _ _ ⟨rfl, b, rfl, rfl⟩
  repeat (first|refine zJ rfl rfl ?_|refine jr rfl ?_|refine jn ?_|refine zM rfl rfl ?_|(refine zC rfl rfl ?_ rfl ?_;omega)|(refine zD rfl rfl ?_ rfl ?_;omega)|(refine zP rfl ?_ rfl ?_;omega)|refine zG rfl rfl rfl rfl ?_|(refine jdq rfl rfl ?_ ?_ ?_;kernel_rfl;kernel_rfl)|refine zB rfl rfl rfl (by repeat constructor) rfl ?_|refine zH .here rfl rfl rfl rfl ?_|refine zH (.there .here) rfl rfl rfl rfl ?_|refine zH (.there (.there .here)) rfl rfl rfl rfl ?_)
  refine ja F (blk b 31 x.cells :: X) ?_ ?_ ?_; kernel_rfl
  · exact fun w s => s
  refine aT 0 rfl (ev_fieldAddr rfl rfl) rfl rfl ?_ ?_ ?_ ?_; kernel_rfl; kernel_rfl; kernel_rfl
  refine aT 1 rfl (ev_load rfl rfl (Rdb.ofB (n := 0) .here rfl)) rfl rfl ?_ ?_ ?_ ?_; kernel_rfl; kernel_rfl; kernel_rfl
  refine aT 2 rfl (ev_conv rfl rfl rfl (uN_wrap _)) rfl rfl ?_ ?_ ?_ ?_; kernel_rfl; kernel_rfl; kernel_rfl
  refine aT 4 rfl (ev_fieldAddr rfl rfl) rfl rfl ?_ ?_ ?_ ?_; kernel_rfl; kernel_rfl; kernel_rfl
  refine aT 5 rfl (ev_load rfl rfl (Rdb.ofB (n := 0) .here rfl)) rfl rfl ?_ ?_ ?_ ?_; kernel_rfl; kernel_rfl; kernel_rfl
  refine aT 6 rfl (ev_conv rfl rfl rfl (uN_wrap _)) rfl rfl ?_ ?_ ?_ ?_; kernel_rfl; kernel_rfl; kernel_rfl
  refine aB (i := 3) (by kernel_rfl) ?_
  refine aC (Hc := []) (Hr := blk b 31 x.cells :: X) rfl (Put_p _ _ _ [] F (Byt.nil F) (uN_lt _) (by simp)) Try.call46 rfl rfl rfl (fun _ s => s) (fun _ _ _ hF hq w s => by obtain ⟨e, _⟩ := hq; subst e; exact s.mono hF) ?_; rintro u1 F1 _ hF1 ⟨rfl, h1⟩; refine aFH hF1 ?_
  refine aB (i := 7) (by kernel_rfl) ?_
  refine aC (Hc := []) (Hr := blk b 31 x.cells :: X) rfl (Put_p _ _ _ _ F1 h1 (uN_lt _) (by simp [pl8])) Try.call46 rfl rfl rfl (fun _ s => s) (fun _ _ _ hF hq w s => by obtain ⟨e, _⟩ := hq; subst e; exact s.mono hF) ?_; rintro u2 F2 _ hF2 ⟨rfl, h2⟩; refine aFH hF2 ?_
  refine aT 8 rfl (ev_pv rfl) rfl rfl ?_ ?_ ?_ ?_; kernel_rfl; kernel_rfl; kernel_rfl
  refine aD (by kernel_rfl) ?_
  repeat (first|refine zJ rfl rfl ?_|refine jr rfl ?_|refine jn ?_|refine zM rfl rfl ?_|(refine zC rfl rfl ?_ rfl ?_;omega)|(refine zD rfl rfl ?_ rfl ?_;omega)|(refine zP rfl ?_ rfl ?_;omega)|refine zG rfl rfl rfl rfl ?_|(refine jdq rfl rfl ?_ ?_ ?_;kernel_rfl;kernel_rfl)|refine zB rfl rfl rfl (by repeat constructor) rfl ?_|refine zH .here rfl rfl rfl rfl ?_|refine zH (.there .here) rfl rfl rfl rfl ?_|refine zH (.there (.there .here)) rfl rfl rfl rfl ?_)
  refine ja F2 (blk b 31 x.cells :: X) ?_ ?_ ?_; kernel_rfl
  · exact fun w s => s
  refine aT 0 rfl (ev_pv rfl) rfl rfl ?_ ?_ ?_ ?_; kernel_rfl; kernel_rfl; kernel_rfl
  refine aT 1 rfl (ev_fieldAddr rfl rfl) rfl rfl ?_ ?_ ?_ ?_; kernel_rfl; kernel_rfl; kernel_rfl
  refine aT 2 rfl (ev_load rfl rfl (Rdb.ofB (n := 0) .here rfl)) rfl rfl ?_ ?_ ?_ ?_; kernel_rfl; kernel_rfl; kernel_rfl
  refine aT 3 rfl (ev_conv rfl rfl rfl (uN_wrap _)) rfl rfl ?_ ?_ ?_ ?_; kernel_rfl; kernel_rfl; kernel_rfl
  refine aT 5 rfl (ev_fieldAddr rfl rfl) rfl rfl ?_ ?_ ?_ ?_; kernel_rfl; kernel_rfl; kernel_rfl
  refine aT 6 rfl (ev_load rfl rfl (Rdb.ofB (n := 0) .here rfl)) rfl rfl ?_ ?_ ?_ ?_; kernel_rfl; kernel_rfl; kernel_rfl
  refine aT 7 rfl (ev_conv rfl rfl rfl (uN_wrap _)) rfl rfl ?_ ?_ ?_ ?_; kernel_rfl; kernel_rfl; kernel_rfl
  refine aB (i := 4) (by kernel_rfl) ?_
  refine aC (Hc := []) (Hr := blk b 31 x.cells :: X) rfl (Put_p _ _ _ _ F2 h2 (uN_lt _) (by simp [pl8, pl1])) Try.call46 rfl rfl rfl (fun _ s => s) (fun _ _ _ hF hq w s => by obtain ⟨e, _⟩ := hq; subst e; exact s.mono hF) ?_; rintro u3 F3 _ hF3 ⟨rfl, h3⟩; refine aFH hF3 ?_
  refine aB (i := 8) (by kernel_rfl) ?_
  refine aC (Hc := []) (Hr := blk b 31 x.cells :: X) rfl (Put_p _ _ _ _ F3 h3 (uN_lt _) (by simp [pl8, pl1])) Try.call46 rfl rfl rfl (fun _ s => s) (fun _ _ _ hF hq w s => by obtain ⟨e, _⟩ := hq; subst e; exact s.mono hF) ?_; rintro u4 F4 _ hF4 ⟨rfl, h4⟩; refine aFH hF4 ?_
  refine aT 9 rfl (ev_pv rfl) rfl rfl ?_ ?_ ?_ ?_; kernel_rfl; kernel_rfl; kernel_rfl
  refine aD (by kernel_rfl) ?_
  repeat (first|refine zJ rfl rfl ?_|refine jr rfl ?_|refine jn ?_|refine zM rfl rfl ?_|(refine zC rfl rfl ?_ rfl ?_;omega)|(refine zD rfl rfl ?_ rfl ?_;omega)|(refine zP rfl ?_ rfl ?_;omega)|refine zG rfl rfl rfl rfl ?_|(refine jdq rfl rfl ?_ ?_ ?_;kernel_rfl;kernel_rfl)|refine zB rfl rfl rfl (by repeat constructor) rfl ?_|refine zH .here rfl rfl rfl rfl ?_|refine zH (.there .here) rfl rfl rfl rfl ?_|refine zH (.there (.there .here)) rfl rfl rfl rfl ?_)
  exact J_retv rfl (.tmp rfl .nil) [] (fun w s => s.drop) (hF1.trans (hF2.trans (hF3.trans hF4))) ⟨rfl, h4⟩
end Go.Proofs.Ytaggonhgafggkaa
