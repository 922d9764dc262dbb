/-
  Whether one parcel is the same as itself; the document's crowd: put, take. Conditions are typed with each.
-/
import Derived.Test.YtpcgolpbjbaekaaCd
import Derived.Test.YtpcgolpbjbaekaaKn
import Derived.Test.YtpcgolpbjbaekaaKp
import Derived.Test.YtpcgolpbjbaekaaLd
namespace Go.Proofs.Ytpcgolpbjbaekaa
open Go.RowKit
set_option maxRecDepth 100000
def zMsg : List Value := [.int .i64 0, .int .i64 0, .slice none 0 0, .slice none 0 0]
set_option maxHeartbeats 4000000 in
theorem sameParcels_spec (b1 b2 : Nat) (c : List Value) (F : PH) (h : ParOk F c) (h1 : Cells F b1 0 c) (h2 : Cells F b2 0 c) : Pure Try.prog 38 [.slice (some ⟨b1, 0, none⟩) 1 1, .slice (some ⟨b2, 0, none⟩) 1 1] F (.bool true) := by
  obtain ⟨x, vb, vt, rfl, hb, ht, hmax⟩ := h
  obtain ⟨to, ⟨kind, from_, body, tags, _⟩, _⟩ := x
  dsimp only at *
  obtain ⟨v0, hv0, hb⟩ := hb
  cases hv0
  unfold maxLen at hmax
  obtain ⟨at_, kt, rfl, hkt⟩ := ht.form
  obtain ⟨_, av, kv, hvb, _⟩ := id hb
  have ho : Ones [.int .i64 kind, .int .i64 from_, vb, .slice at_ tags.length kt] := by rw [hvb]; (repeat (first | exact ones_nil | refine ones_cons rfl ?_))
  refine Spec.of2 Try.func38 rfl rfl fun X w0 => ?_
  repeat (first|refine zJ rfl rfl ?_|refine jr rfl ?_|refine jn ?_|refine zM rfl rfl ?_|(refine zC rfl rfl ?_ rfl ?_;omega)|(refine zD rfl rfl ?_ rfl ?_;omega)|(refine zP rfl ?_ rfl ?_;omega)|refine zG rfl rfl rfl rfl ?_|(refine jdq rfl rfl ?_ ?_ ?_;kernel_rfl;kernel_rfl)|refine zB rfl rfl rfl (by repeat constructor) rfl ?_|refine zH .here rfl rfl rfl rfl ?_|refine zH (.there .here) rfl rfl rfl rfl ?_|refine zH (.there (.there .here)) rfl rfl rfl rfl ?_)
  refine J_loop (ι := Nat) (fun i => i ≤ 1) (fun i => 1 - i) (fun i => [(0, .slice (some ⟨b1, 0, none⟩) 1 1), (1, .slice (some ⟨b2, 0, none⟩) 1 1), (15, .int .i64 1), (16, .int .i64 i)]) (fun _ => F) (fun _ => X) 0 (by omega) ⟨⟨rfl, rfl, rfl, rfl, trivial⟩, fun w s => s⟩ ?_
  intro i hi
  by_cases h0 : i < 1
  · obtain rfl : i = 0 := by omega
    have m1 : Cells F b1 (0 + 0 * 5 + 1) [.int .i64 kind, .int .i64 from_, vb, .slice at_ tags.length kt] := Cells.right (xs := [.int .i64 to]) h1
    have m2 : Cells F b2 (0 + 0 * 5 + 1) [.int .i64 kind, .int .i64 from_, vb, .slice at_ tags.length kt] := Cells.right (xs := [.int .i64 to]) h2
    repeat (first|refine zJ rfl rfl ?_|refine jr rfl ?_|refine jn ?_|refine zM rfl rfl ?_|(refine zC rfl rfl ?_ rfl ?_;omega)|(refine zD rfl rfl ?_ rfl ?_;omega)|(refine zP rfl ?_ rfl ?_;omega)|refine zG rfl rfl rfl rfl ?_|(refine jdq rfl rfl ?_ ?_ ?_;kernel_rfl;kernel_rfl)|refine zB rfl rfl rfl (by repeat constructor) rfl ?_|refine zH .here rfl rfl rfl rfl ?_|refine zH (.there .here) rfl rfl rfl rfl ?_|refine zH (.there (.there .here)) rfl rfl rfl rfl ?_)
    refine J_join (ι := Nat × Nat) [_] (fun _ => True) (fun p => [(0, .slice (some ⟨b1, 0, none⟩) 1 1), (1, .slice (some ⟨b2, 0, none⟩) 1 1), (15, .int .i64 1), (16, .int .i64 0), (5, .int .i64 0), (6, .pointer (some ⟨p.1, 0, none⟩)), (7, .pointer (some ⟨p.2, 0, none⟩))]) (fun _ => F) (fun p => blk p.1 30 [.int .i64 kind, .int .i64 from_, vb, .slice at_ tags.length kt] :: blk p.2 30 [.int .i64 kind, .int .i64 from_, vb, .slice at_ tags.length kt] :: X) ?_ ?_
    · show J _ (_ :: _) _ _ _
      refine ja F [] ?_ (fun w t => t.bare) ?_; kernel_rfl
      refine aT 0 rfl (ev_qe rfl) rfl rfl ?_ ?_ ?_ ?_; kernel_rfl; kernel_rfl; kernel_rfl
      refine aT 1 rfl (ev_qe rfl) rfl rfl ?_ ?_ ?_ ?_; kernel_rfl; kernel_rfl; kernel_rfl
      refine aT 2 rfl (ev_indexAddr rfl rfl rfl (show 0 < 1 by decide)) rfl rfl ?_ ?_ ?_ ?_; kernel_rfl; kernel_rfl; kernel_rfl
      refine aT 3 rfl (ev_qe rfl) rfl rfl ?_ ?_ ?_ ?_; kernel_rfl; kernel_rfl; kernel_rfl
      refine aT 4 rfl (ev_load_agg (cs := [.int .i64 kind, .int .i64 from_, vb, .slice at_ tags.length kt]) rfl rfl (Rdb.ofF m1) rfl) rfl rfl ?_ ?_ ?_ ?_; kernel_rfl; kernel_rfl; kernel_rfl
      refine aT 5 rfl (ev_qe rfl) rfl rfl ?_ ?_ ?_ ?_; kernel_rfl; kernel_rfl; kernel_rfl
      refine aT 6 rfl (ev_qe rfl) rfl rfl ?_ ?_ ?_ ?_; kernel_rfl; kernel_rfl; kernel_rfl
      refine aT 7 rfl (ev_indexAddr rfl rfl rfl (show 0 < 1 by decide)) rfl rfl ?_ ?_ ?_ ?_; kernel_rfl; kernel_rfl; kernel_rfl
      refine aT 8 rfl (ev_qe rfl) rfl rfl ?_ ?_ ?_ ?_; kernel_rfl; kernel_rfl; kernel_rfl
      refine aT 9 rfl (ev_load_agg (cs := [.int .i64 kind, .int .i64 from_, vb, .slice at_ tags.length kt]) rfl rfl (Rdb.ofF m2) rfl) rfl rfl ?_ ?_ ?_ ?_; kernel_rfl; kernel_rfl; kernel_rfl
      refine aB2 (i := 10) (i' := 11) (by kernel_rfl) ?_ ?_
      · refine aE rfl (ev_alloc (cs := zMsg) rfl) rfl rfl (fun _ _ _ hF hq w s => s.bare.mono hF) ?_
        rintro _ _ _ _ ⟨rfl, b6, rfl, rfl⟩
        refine aB (i := 11) (by kernel_rfl) (aE rfl (ev_alloc (cs := zMsg) rfl) rfl rfl (fun _ _ _ hF hq w s => s.bare.mono hF) ?_)
        rintro _ _ _ _ ⟨rfl, b7, rfl, rfl⟩
        refine aB (i := 12) (by kernel_rfl) (aN rfl (ev_store (b := b6) rfl rfl .agg rfl rfl (lay_all (zs := zMsg) rfl) ho (.there .here)) rfl (fun _ _ _ hF hq w s => s.bare.mono hF) ?_)
        rintro _ _ _ _ ⟨rfl, _, rfl⟩
        refine aB (i := 13) (by kernel_rfl) (aN rfl (ev_store (b := b7) rfl rfl .agg rfl rfl (lay_all (zs := zMsg) rfl) ho .here) rfl (fun _ _ _ hF hq w s => s.bare.mono hF) ?_)
        rintro _ _ _ _ ⟨rfl, _, rfl⟩
        refine aD (by kernel_rfl) ?_
        exact J_joined (b6, b7) trivial ⟨⟨rfl, rfl, rfl, rfl, rfl, rfl, rfl, trivial⟩, fun w s => s.pick (.there .here)⟩
      · refine aE rfl (ev_alloc (cs := zMsg) rfl) rfl rfl (fun _ _ _ hF hq w s => s.bare.mono hF) ?_
        rintro _ _ _ _ ⟨rfl, b7, rfl, rfl⟩
        refine aB (i := 10) (by kernel_rfl) (aE rfl (ev_alloc (cs := zMsg) rfl) rfl rfl (fun _ _ _ hF hq w s => s.bare.mono hF) ?_)
        rintro _ _ _ _ ⟨rfl, b6, rfl, rfl⟩
        refine aB (i := 12) (by kernel_rfl) (aN rfl (ev_store (b := b6) rfl rfl .agg rfl rfl (lay_all (zs := zMsg) rfl) ho .here) rfl (fun _ _ _ hF hq w s => s.bare.mono hF) ?_)
        rintro _ _ _ _ ⟨rfl, _, rfl⟩
        refine aB (i := 13) (by kernel_rfl) (aN rfl (ev_store (b := b7) rfl rfl .agg rfl rfl (lay_all (zs := zMsg) rfl) ho (.there .here)) rfl (fun _ _ _ hF hq w s => s.bare.mono hF) ?_)
        rintro _ _ _ _ ⟨rfl, _, rfl⟩
        refine aD (by kernel_rfl) ?_
        exact J_joined (b6, b7) trivial ⟨⟨rfl, rfl, rfl, rfl, rfl, rfl, rfl, trivial⟩, fun w s => s⟩
    · rintro ⟨b6, b7⟩ _
      dsimp only
      have n1 : Cells F b1 (0 + 0 * 5 + 0) [.int .i64 to] := Cells.left (ys := [.int .i64 kind, .int .i64 from_, vb, .slice at_ tags.length kt]) h1
      have n2 : Cells F b2 (0 + 0 * 5 + 0) [.int .i64 to] := Cells.left (ys := [.int .i64 kind, .int .i64 from_, vb, .slice at_ tags.length kt]) h2
      repeat (first|refine zJ rfl rfl ?_|refine jr rfl ?_|refine jn ?_|refine zM rfl rfl ?_|(refine zC rfl rfl ?_ rfl ?_;omega)|(refine zD rfl rfl ?_ rfl ?_;omega)|(refine zP rfl ?_ rfl ?_;omega)|refine zG rfl rfl rfl rfl ?_|(refine jdq rfl rfl ?_ ?_ ?_;kernel_rfl;kernel_rfl)|refine zB rfl rfl rfl (by repeat constructor) rfl ?_|refine zH .here rfl rfl rfl rfl ?_|refine zH (.there .here) rfl rfl rfl rfl ?_|refine zH (.there (.there .here)) rfl rfl rfl rfl ?_)
      refine oS (ev_indexAddr (i := 0) rfl rfl rfl (by decide)) rfl ?_
      repeat (first|refine zJ rfl rfl ?_|refine jr rfl ?_|refine jn ?_|refine zM rfl rfl ?_|(refine zC rfl rfl ?_ rfl ?_;omega)|(refine zD rfl rfl ?_ rfl ?_;omega)|(refine zP rfl ?_ rfl ?_;omega)|refine zG rfl rfl rfl rfl ?_|(refine jdq rfl rfl ?_ ?_ ?_;kernel_rfl;kernel_rfl)|refine zB rfl rfl rfl (by repeat constructor) rfl ?_|refine zH .here rfl rfl rfl rfl ?_|refine zH (.there .here) rfl rfl rfl rfl ?_|refine zH (.there (.there .here)) rfl rfl rfl rfl ?_)
      refine oS (ev_load rfl rfl (Rdb.ofF n1)) rfl ?_
      repeat (first|refine zJ rfl rfl ?_|refine jr rfl ?_|refine jn ?_|refine zM rfl rfl ?_|(refine zC rfl rfl ?_ rfl ?_;omega)|(refine zD rfl rfl ?_ rfl ?_;omega)|(refine zP rfl ?_ rfl ?_;omega)|refine zG rfl rfl rfl rfl ?_|(refine jdq rfl rfl ?_ ?_ ?_;kernel_rfl;kernel_rfl)|refine zB rfl rfl rfl (by repeat constructor) rfl ?_|refine zH .here rfl rfl rfl rfl ?_|refine zH (.there .here) rfl rfl rfl rfl ?_|refine zH (.there (.there .here)) rfl rfl rfl rfl ?_)
      refine oS (ev_indexAddr (i := 0) rfl rfl rfl (by decide)) rfl ?_
      repeat (first|refine zJ rfl rfl ?_|refine jr rfl ?_|refine jn ?_|refine zM rfl rfl ?_|(refine zC rfl rfl ?_ rfl ?_;omega)|(refine zD rfl rfl ?_ rfl ?_;omega)|(refine zP rfl ?_ rfl ?_;omega)|refine zG rfl rfl rfl rfl ?_|(refine jdq rfl rfl ?_ ?_ ?_;kernel_rfl;kernel_rfl)|refine zB rfl rfl rfl (by repeat constructor) rfl ?_|refine zH .here rfl rfl rfl rfl ?_|refine zH (.there .here) rfl rfl rfl rfl ?_|refine zH (.there (.there .here)) rfl rfl rfl rfl ?_)
      refine oS (ev_load rfl rfl (Rdb.ofF n2)) rfl ?_
      repeat (first|refine zJ rfl rfl ?_|refine jr rfl ?_|refine jn ?_|refine zM rfl rfl ?_|(refine zC rfl rfl ?_ rfl ?_;omega)|(refine zD rfl rfl ?_ rfl ?_;omega)|(refine zP rfl ?_ rfl ?_;omega)|refine zG rfl rfl rfl rfl ?_|(refine jdq rfl rfl ?_ ?_ ?_;kernel_rfl;kernel_rfl)|refine zB rfl rfl rfl (by repeat constructor) rfl ?_|refine zH .here rfl rfl rfl rfl ?_|refine zH (.there .here) rfl rfl rfl rfl ?_|refine zH (.there (.there .here)) rfl rfl rfl rfl ?_)
      refine oS (ev_bytes_string rfl hb.rds rfl rfl rfl) rfl ?_
      repeat (first|refine zJ rfl rfl ?_|refine jr rfl ?_|refine jn ?_|refine zM rfl rfl ?_|(refine zC rfl rfl ?_ rfl ?_;omega)|(refine zD rfl rfl ?_ rfl ?_;omega)|(refine zP rfl ?_ rfl ?_;omega)|refine zG rfl rfl rfl rfl ?_|(refine jdq rfl rfl ?_ ?_ ?_;kernel_rfl;kernel_rfl)|refine zB rfl rfl rfl (by repeat constructor) rfl ?_|refine zH .here rfl rfl rfl rfl ?_|refine zH (.there .here) rfl rfl rfl rfl ?_|refine zH (.there (.there .here)) rfl rfl rfl rfl ?_)
      refine oS (ev_bytes_string rfl hb.rds rfl rfl rfl) rfl ?_
      refine oS (ev_str_neq rfl rfl) rfl ?_
      rw [show (!decide ((strOf body).toList = (strOf body).toList)) = false from by simp]
      repeat (first|refine zJ rfl rfl ?_|refine jr rfl ?_|refine jn ?_|refine zM rfl rfl ?_|(refine zC rfl rfl ?_ rfl ?_;omega)|(refine zD rfl rfl ?_ rfl ?_;omega)|(refine zP rfl ?_ rfl ?_;omega)|refine zG rfl rfl rfl rfl ?_|(refine jdq rfl rfl ?_ ?_ ?_;kernel_rfl;kernel_rfl)|refine zB rfl rfl rfl (by repeat constructor) rfl ?_|refine zH .here rfl rfl rfl rfl ?_|refine zH (.there .here) rfl rfl rfl rfl ?_|refine zH (.there (.there .here)) rfl rfl rfl rfl ?_)
      refine J_loop (ι := Nat) (fun j => j ≤ tags.length) (fun j => tags.length - j) (fun j => [(0, .slice (some ⟨b1, 0, none⟩) 1 1), (1, .slice (some ⟨b2, 0, none⟩) 1 1), (15, .int .i64 1), (16, .int .i64 0), (5, .int .i64 0), (6, .pointer (some ⟨b6, 0, none⟩)), (7, .pointer (some ⟨b7, 0, none⟩)), (74, .int .i64 tags.length), (75, .int .i64 j)]) (fun _ => F)
        (fun _ => blk b6 30 [.int .i64 kind, .int .i64 from_, vb, .slice at_ tags.length kt] :: blk b7 30 [.int .i64 kind, .int .i64 from_, vb, .slice at_ tags.length kt] :: X) 0 (Nat.zero_le _) ⟨⟨rfl, rfl, rfl, rfl, rfl, rfl, rfl, rfl, rfl, trivial⟩, fun _ s => s⟩ ?_
      intro j hj
      by_cases hjl : j < tags.length
      · have hgt : tags[j]? = some tags[j] := List.getElem?_eq_getElem hjl
        obtain ⟨bt, ot, ct, rfl, hct, ⟨rfl, hl1⟩, _⟩ := ht.at hgt
        generalize tags[j] = t at *
        repeat (first|refine zJ rfl rfl ?_|refine jr rfl ?_|refine jn ?_|refine zM rfl rfl ?_|(refine zC rfl rfl ?_ rfl ?_;omega)|(refine zD rfl rfl ?_ rfl ?_;omega)|(refine zP rfl ?_ rfl ?_;omega)|refine zG rfl rfl rfl rfl ?_|(refine jdq rfl rfl ?_ ?_ ?_;kernel_rfl;kernel_rfl)|refine zB rfl rfl rfl (by repeat constructor) rfl ?_|refine zH .here rfl rfl rfl rfl ?_|refine zH (.there .here) rfl rfl rfl rfl ?_|refine zH (.there (.there .here)) rfl rfl rfl rfl ?_)
        refine oS (ev_indexAddr rfl rfl rfl hjl) rfl ?_
        refine oS (ev_load_agg rfl rfl (Rdb.ofF hct) (by simpa [u8s] using hl1)) rfl ?_
        repeat (first|refine zJ rfl rfl ?_|refine jr rfl ?_|refine jn ?_|refine zM rfl rfl ?_|(refine zC rfl rfl ?_ rfl ?_;omega)|(refine zD rfl rfl ?_ rfl ?_;omega)|(refine zP rfl ?_ rfl ?_;omega)|refine zG rfl rfl rfl rfl ?_|(refine jdq rfl rfl ?_ ?_ ?_;kernel_rfl;kernel_rfl)|refine zB rfl rfl rfl (by repeat constructor) rfl ?_|refine zH .here rfl rfl rfl rfl ?_|refine zH (.there .here) rfl rfl rfl rfl ?_|refine zH (.there (.there .here)) rfl rfl rfl rfl ?_)
        refine oS (ev_indexAddr rfl rfl rfl hjl) rfl ?_
        refine oS (ev_load_agg rfl rfl (Rdb.ofF hct) (by simpa [u8s] using hl1)) rfl ?_
        refine oS (ev_arr_neq rfl rfl rfl rfl hl1 hl1 (by kernel_rfl)) rfl ?_
        rw [show (!(t == t)) = false from by simp]
        repeat (first|refine zJ rfl rfl ?_|refine jr rfl ?_|refine jn ?_|refine zM rfl rfl ?_|(refine zC rfl rfl ?_ rfl ?_;omega)|(refine zD rfl rfl ?_ rfl ?_;omega)|(refine zP rfl ?_ rfl ?_;omega)|refine zG rfl rfl rfl rfl ?_|(refine jdq rfl rfl ?_ ?_ ?_;kernel_rfl;kernel_rfl)|refine zB rfl rfl rfl (by repeat constructor) rfl ?_|refine zH .here rfl rfl rfl rfl ?_|refine zH (.there .here) rfl rfl rfl rfl ?_|refine zH (.there (.there .here)) rfl rfl rfl rfl ?_)
        exact J_again (j + 1) hjl (by omega) ⟨⟨rfl, rfl, rfl, rfl, rfl, rfl, rfl, rfl, rfl, trivial⟩, fun w s => s⟩
      · repeat (first|refine zJ rfl rfl ?_|refine jr rfl ?_|refine jn ?_|refine zM rfl rfl ?_|(refine zC rfl rfl ?_ rfl ?_;omega)|(refine zD rfl rfl ?_ rfl ?_;omega)|(refine zP rfl ?_ rfl ?_;omega)|refine zG rfl rfl rfl rfl ?_|(refine jdq rfl rfl ?_ ?_ ?_;kernel_rfl;kernel_rfl)|refine zB rfl rfl rfl (by repeat constructor) rfl ?_|refine zH .here rfl rfl rfl rfl ?_|refine zH (.there .here) rfl rfl rfl rfl ?_|refine zH (.there (.there .here)) rfl rfl rfl rfl ?_)
        exact J_again 1 (by omega) (by omega) ⟨⟨rfl, rfl, rfl, rfl, trivial⟩, fun w s => s.drop.drop⟩
  · obtain rfl : i = 1 := by omega
    repeat (first|refine zJ rfl rfl ?_|refine jr rfl ?_|refine jn ?_|refine zM rfl rfl ?_|(refine zC rfl rfl ?_ rfl ?_;omega)|(refine zD rfl rfl ?_ rfl ?_;omega)|(refine zP rfl ?_ rfl ?_;omega)|refine zG rfl rfl rfl rfl ?_|(refine jdq rfl rfl ?_ ?_ ?_;kernel_rfl;kernel_rfl)|refine zB rfl rfl rfl (by repeat constructor) rfl ?_|refine zH .here rfl rfl rfl rfl ?_|refine zH (.there .here) rfl rfl rfl rfl ?_|refine zH (.there (.there .here)) rfl rfl rfl rfl ?_)
    exact J_ret1 rfl rfl [] rfl (PH.ler _) ⟨rfl, rfl⟩
set_option maxHeartbeats 4000000 in
theorem same_spec (n : Int) (c : List Value) (F : PH) (h : ParOk F c) : Pure Try.prog 30 [.agg (.int .i64 n :: c).toArray, .agg (.int .i64 n :: c).toArray] F (.bool true) := by
  have h5 := h.len
  have ho := h.ones
  obtain ⟨c1, c2, c3, c4, c5, rfl⟩ := five h5
  refine Spec.of2 Try.func30 rfl rfl fun X w0 => ?_
  repeat (first|refine zJ rfl rfl ?_|refine jr rfl ?_|refine jn ?_|refine zM rfl rfl ?_|(refine zC rfl rfl ?_ rfl ?_;omega)|(refine zD rfl rfl ?_ rfl ?_;omega)|(refine zP rfl ?_ rfl ?_;omega)|refine zG rfl rfl rfl rfl ?_|(refine jdq rfl rfl ?_ ?_ ?_;kernel_rfl;kernel_rfl)|refine zB rfl rfl rfl (by repeat constructor) rfl ?_|refine zH .here rfl rfl rfl rfl ?_|refine zH (.there .here) rfl rfl rfl rfl ?_|refine zH (.there (.there .here)) rfl rfl rfl rfl ?_)
  refine oE (ev_box rfl .agg) rfl ?_; rintro _ _ _ _ ⟨rfl, b2, rfl, rfl⟩
  refine oE (ev_box rfl .agg) rfl ?_; rintro _ _ _ _ ⟨rfl, b3, rfl, rfl⟩
  repeat (first|refine zJ rfl rfl ?_|refine jr rfl ?_|refine jn ?_|refine zM rfl rfl ?_|(refine zC rfl rfl ?_ rfl ?_;omega)|(refine zD rfl rfl ?_ rfl ?_;omega)|(refine zP rfl ?_ rfl ?_;omega)|refine zG rfl rfl rfl rfl ?_|(refine jdq rfl rfl ?_ ?_ ?_;kernel_rfl;kernel_rfl)|refine zB rfl rfl rfl (by repeat constructor) rfl ?_|refine zH .here rfl rfl rfl rfl ?_|refine zH (.there .here) rfl rfl rfl rfl ?_|refine zH (.there (.there .here)) rfl rfl rfl rfl ?_)
  refine oS (ev_load_agg (cs := [c1, c2, c3, c4, c5]) rfl rfl (Rdb.ofB (n := 1) (.there .here) rfl) rfl) rfl ?_
  refine oE (ev_buildSlice (E := 32) (zs := zParcel) (t := [c1, c2, c3, c4, c5]) rfl rfl rfl rfl rfl rfl (.cons .agg rfl (by repeat constructor) .nil)) rfl ?_
  rintro _ _ _ _ ⟨rfl, bp, rfl, rfl⟩
  refine oPersist fun hh hA hd => ?_
  have hp := blk_cells hA hd
  have hF1 := PH.le_l F hh
  generalize F.un hh = F1 at *
  repeat (first|refine zJ rfl rfl ?_|refine jr rfl ?_|refine jn ?_|refine zM rfl rfl ?_|(refine zC rfl rfl ?_ rfl ?_;omega)|(refine zD rfl rfl ?_ rfl ?_;omega)|(refine zP rfl ?_ rfl ?_;omega)|refine zG rfl rfl rfl rfl ?_|(refine jdq rfl rfl ?_ ?_ ?_;kernel_rfl;kernel_rfl)|refine zB rfl rfl rfl (by repeat constructor) rfl ?_|refine zH .here rfl rfl rfl rfl ?_|refine zH (.there .here) rfl rfl rfl rfl ?_|refine zH (.there (.there .here)) rfl rfl rfl rfl ?_)
  refine oS (ev_load_agg (cs := [c1, c2, c3, c4, c5]) rfl rfl (Rdb.ofB (n := 1) .here rfl) rfl) rfl ?_
  refine oE (ev_buildSlice (E := 32) (zs := zParcel) (t := [c1, c2, c3, c4, c5]) rfl rfl rfl rfl rfl rfl (.cons .agg rfl (by repeat constructor) .nil)) rfl ?_
  rintro _ _ _ _ ⟨rfl, bq, rfl, rfl⟩
  refine oPersist fun hh hA2 hd2 => ?_
  have hq := blk_cells hA2 hd2
  have hF2 := PH.le_l F1 hh
  generalize F1.un hh = F2 at *
  refine oP (sameParcels_spec bp bq [c1, c2, c3, c4, c5] F2 (h.mono (hF1.trans hF2)) (hp.mono hF2) hq) Try.call38 rfl rfl ?_
  repeat (first|refine zJ rfl rfl ?_|refine jr rfl ?_|refine jn ?_|refine zM rfl rfl ?_|(refine zC rfl rfl ?_ rfl ?_;omega)|(refine zD rfl rfl ?_ rfl ?_;omega)|(refine zP rfl ?_ rfl ?_;omega)|refine zG rfl rfl rfl rfl ?_|(refine jdq rfl rfl ?_ ?_ ?_;kernel_rfl;kernel_rfl)|refine zB rfl rfl rfl (by repeat constructor) rfl ?_|refine zH .here rfl rfl rfl rfl ?_|refine zH (.there .here) rfl rfl rfl rfl ?_|refine zH (.there (.there .here)) rfl rfl rfl rfl ?_)
  exact J_retv rfl (.tmp rfl .nil) [] (fun w s => s.drop.drop) (hF1.trans hF2) ⟨rfl, rfl⟩
end Go.Proofs.Ytpcgolpbjbaekaa
