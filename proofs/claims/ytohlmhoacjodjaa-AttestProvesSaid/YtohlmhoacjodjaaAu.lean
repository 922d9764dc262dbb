/-
  Keys as one who tells digests. Conditions are typed with each.
-/
import Derived.Test.YtohlmhoacjodjaaSg
import Derived.Test.YtohlmhoacjodjaaAn
import Derived.Test.YtohlmhoacjodjaaAh
namespace Go.Proofs.Ytohlmhoacjodjaa
open Go.RowKit
set_option maxRecDepth 100000
theorem sumB_32 (t : List UInt8) : (sumB t).length = 32 := digB_len _
set_option maxHeartbeats 8000000 in
theorem kdigest_spec (b : Nat) (v : Value) (k : Int) (t : List UInt8) (F : PH) (hk : 0 ≤ k ∧ k < 256) (ht : t.length ≤ 100000) (h : Byt F v t) : Spec Try.prog 63 [.pointer (some ⟨b, 0, none⟩), .int .i64 k, v] F [] fun u F' H' => u = .agg (u8s (sumB (UInt8.ofNat k.toNat :: t))).toArray ∧ H' = [] := by
  obtain ⟨_, a, c, rfl, hc, _⟩ := id h
  have ek : ((UInt8.ofNat k.toNat).toNat : Int) = k := by rw [UInt8.toNat_ofNat']; omega
  have h32 : (u8s (sumB (UInt8.ofNat k.toNat :: t))).length = 32 := by rw [u8s_len, sumB_32]
  refine Spec.of3 Try.func63 rfl rfl fun X w0 => ?_
  repeat (first|refine zJ rfl rfl ?_|refine jr rfl ?_|refine jn ?_|refine zM rfl rfl ?_|(refine zC rfl rfl ?_ rfl ?_;omega)|(refine zD rfl rfl ?_ rfl ?_;omega)|(refine zP rfl ?_ rfl ?_;omega)|refine zG rfl rfl rfl rfl ?_|(refine jdq rfl rfl ?_ ?_ ?_;kernel_rfl;kernel_rfl)|refine zB rfl rfl rfl (by repeat constructor) rfl ?_|refine zH .here rfl rfl rfl rfl ?_|refine zH (.there .here) rfl rfl rfl rfl ?_|refine zH (.there (.there .here)) rfl rfl rfl rfl ?_)
  refine oE (ev_alloc (E := 28) (cs := u8s zd32) (by kernel_rfl)) rfl ?_
  rintro _ _ _ _ ⟨rfl, b6, rfl, rfl⟩
  repeat (first|refine zJ rfl rfl ?_|refine jr rfl ?_|refine jn ?_|refine zM rfl rfl ?_|(refine zC rfl rfl ?_ rfl ?_;omega)|(refine zD rfl rfl ?_ rfl ?_;omega)|(refine zP rfl ?_ rfl ?_;omega)|refine zG rfl rfl rfl rfl ?_|(refine jdq rfl rfl ?_ ?_ ?_;kernel_rfl;kernel_rfl)|refine zB rfl rfl rfl (by repeat constructor) rfl ?_|refine zH .here rfl rfl rfl rfl ?_|refine zH (.there .here) rfl rfl rfl rfl ?_|refine zH (.there (.there .here)) rfl rfl rfl rfl ?_)
  refine oC (Hc := []) (Hr := blk b6 28 (u8s zd32) :: X) (new_spec F) Try.call65 rfl rfl (fun _ s => s) ?_
  rintro _ F1 _ hF1 ⟨_, bh, rfl, rfl⟩
  repeat (first|refine zJ rfl rfl ?_|refine jr rfl ?_|refine jn ?_|refine zM rfl rfl ?_|(refine zC rfl rfl ?_ rfl ?_;omega)|(refine zD rfl rfl ?_ rfl ?_;omega)|(refine zP rfl ?_ rfl ?_;omega)|refine zG rfl rfl rfl rfl ?_|(refine jdq rfl rfl ?_ ?_ ?_;kernel_rfl;kernel_rfl)|refine zB rfl rfl rfl (by repeat constructor) rfl ?_|refine zH .here rfl rfl rfl rfl ?_|refine zH (.there .here) rfl rfl rfl rfl ?_|refine zH (.there (.there .here)) rfl rfl rfl rfl ?_)
  refine oE (ev_buildSlice (E := 5) (zs := [.int .u8 0]) (t := [.int .u8 k]) rfl rfl rfl rfl rfl rfl (.cons .int rfl (lay_all (vs := [.int .u8 k]) (zs := [.int .u8 0]) rfl) .nil)) rfl ?_
  rintro _ _ _ _ ⟨rfl, b1, rfl, rfl⟩
  refine oPersist fun hh hA hd => ?_
  have hb1 : Byt (F1.un hh) (.slice (some ⟨b1, 0, none⟩) 1 1) [UInt8.ofNat k.toNat] := ⟨rfl, _, 1, rfl, Nat.le_refl _, fun _ => ⟨b1, 0, rfl, by
    have := blk_cells hA hd
    unfold u8s
    rw [List.map_cons, List.map_nil, ek]
    exact this⟩⟩
  have hF2 := PH.le_l F1 hh
  generalize F1.un hh = F2 at *
  refine oC (Hc := hashA bh (.slice none 0 0) []) (Hr := blk b6 28 (u8s zd32) :: X) (add_spec bh _ [] [UInt8.ofNat k.toNat] _ F2 hb1 (by simp)) Try.call66 rfl rfl (fun _ s => s) ?_
  rintro _ F3 _ hF3 ⟨_, v1, rfl⟩
  repeat (first|refine zJ rfl rfl ?_|refine jr rfl ?_|refine jn ?_|refine zM rfl rfl ?_|(refine zC rfl rfl ?_ rfl ?_;omega)|(refine zD rfl rfl ?_ rfl ?_;omega)|(refine zP rfl ?_ rfl ?_;omega)|refine zG rfl rfl rfl rfl ?_|(refine jdq rfl rfl ?_ ?_ ?_;kernel_rfl;kernel_rfl)|refine zB rfl rfl rfl (by repeat constructor) rfl ?_|refine zH .here rfl rfl rfl rfl ?_|refine zH (.there .here) rfl rfl rfl rfl ?_|refine zH (.there (.there .here)) rfl rfl rfl rfl ?_)
  refine oC (Hc := hashA bh v1 ([] ++ [UInt8.ofNat k.toNat])) (Hr := blk b6 28 (u8s zd32) :: X) (add_spec bh _ ([] ++ [UInt8.ofNat k.toNat]) t _ F3 (SliceV.mono h (hF1.trans (hF2.trans hF3))) (by rw [List.nil_append, List.length_singleton]; omega)) Try.call66 rfl rfl (fun _ s => s) ?_
  rintro _ F4 _ hF4 ⟨_, v2, rfl⟩
  repeat (first|refine zJ rfl rfl ?_|refine jr rfl ?_|refine jn ?_|refine zM rfl rfl ?_|(refine zC rfl rfl ?_ rfl ?_;omega)|(refine zD rfl rfl ?_ rfl ?_;omega)|(refine zP rfl ?_ rfl ?_;omega)|refine zG rfl rfl rfl rfl ?_|(refine jdq rfl rfl ?_ ?_ ?_;kernel_rfl;kernel_rfl)|refine zB rfl rfl rfl (by repeat constructor) rfl ?_|refine zH .here rfl rfl rfl rfl ?_|refine zH (.there .here) rfl rfl rfl rfl ?_|refine zH (.there (.there .here)) rfl rfl rfl rfl ?_)
  refine oC (Hc := hashA bh v2 ([] ++ [UInt8.ofNat k.toNat] ++ t)) (Hr := blk b6 28 (u8s zd32) :: X) (hsum_spec bh _ ([] ++ [UInt8.ofNat k.toNat] ++ t) F4 (by simp; omega)) Try.call67 rfl rfl (fun _ s => s) ?_
  rintro _ F5 _ hF5 ⟨_, rfl, rfl⟩
  rw [show [] ++ [UInt8.ofNat k.toNat] ++ t = UInt8.ofNat k.toNat :: t from rfl]
  refine oN (ev_store (b := b6) (vs := u8s (sumB (UInt8.ofNat k.toNat :: t))) rfl rfl .agg rfl h32 (lay_all (zs := u8s zd32) (by rw [h32]; rfl)) (u8s_ones _) (.there (.there .here))) rfl ?_
  rintro _ _ _ _ ⟨rfl, _, rfl⟩
  repeat (first|refine zJ rfl rfl ?_|refine jr rfl ?_|refine jn ?_|refine zM rfl rfl ?_|(refine zC rfl rfl ?_ rfl ?_;omega)|(refine zD rfl rfl ?_ rfl ?_;omega)|(refine zP rfl ?_ rfl ?_;omega)|refine zG rfl rfl rfl rfl ?_|(refine jdq rfl rfl ?_ ?_ ?_;kernel_rfl;kernel_rfl)|refine zB rfl rfl rfl (by repeat constructor) rfl ?_|refine zH .here rfl rfl rfl rfl ?_|refine zH (.there .here) rfl rfl rfl rfl ?_|refine zH (.there (.there .here)) rfl rfl rfl rfl ?_)
  exact J_retv (vs := [.agg (u8s (sumB (UInt8.ofNat k.toNat :: t))).toArray]) rfl (.agg rfl rfl (Rdb.ofB (n := 0) (.there (.there .here)) (by rw [List.drop_zero, List.take_length])) h32 .nil) [] (fun w s => s.drop.drop.drop) (hF1.trans (hF2.trans (hF3.trans (hF4.trans hF5)))) ⟨rfl, rfl⟩
def keysC (b : Nat) : Cry where
  σ := Unit
  t := 45
  rv := .pointer (some ⟨b, 0, none⟩)
  f := 63
  mr := fun args w => by kernel_rfl
  mn := fun w => by kernel_rfl
  A := fun _ => []
  dg := fun _ k x => (sumB (UInt8.ofNat k.toNat :: x), ())
  room := fun _ => 0
  len32 := fun s k x => sumB_32 _
  grow := fun s k x => Nat.zero_le _
  spec := fun s k x v F hk hr hx h => kdigest_spec b v k x F hk hx h
def keysL (b : Nat) : Law (keysC b) where
  ext := fun _ _ => True
  refl := fun _ => trivial
  trans := fun _ _ => trivial
  anti := fun _ _ => rfl
  step := fun _ _ _ => trivial
  again := fun _ _ _ _ _ => rfl
theorem keys_knows (b : Nat) (s : (keysC b).σ) (l : List (List UInt8)) : Knows (keysC b) s l := rfl
set_option maxHeartbeats 4000000 in
theorem bclone_spec (v : Value) (t : List UInt8) (F : PH) (ht : t.length ≤ 100000) (h : Byt F v t) : Spec Try.prog 31 [v] F [] fun u F' H' => H' = [] ∧ ∃ a n c, u = .slice a n c := by
  obtain ⟨_, a, c, rfl, hc, h0⟩ := id h
  refine Spec.of1 Try.func31 rfl rfl fun X w0 => ?_
  repeat (first|refine zJ rfl rfl ?_|refine jr rfl ?_|refine jn ?_|refine zM rfl rfl ?_|(refine zC rfl rfl ?_ rfl ?_;omega)|(refine zD rfl rfl ?_ rfl ?_;omega)|(refine zP rfl ?_ rfl ?_;omega)|refine zG rfl rfl rfl rfl ?_|(refine jdq rfl rfl ?_ ?_ ?_;kernel_rfl;kernel_rfl)|refine zB rfl rfl rfl (by repeat constructor) rfl ?_|refine zH .here rfl rfl rfl rfl ?_|refine zH (.there .here) rfl rfl rfl rfl ?_|refine zH (.there (.there .here)) rfl rfl rfl rfl ?_)
  refine oS (ev_slice_eql_nil rfl rfl rfl) rfl ?_
  cases a with
  | none =>
    repeat (first|refine zJ rfl rfl ?_|refine jr rfl ?_|refine jn ?_|refine zM rfl rfl ?_|(refine zC rfl rfl ?_ rfl ?_;omega)|(refine zD rfl rfl ?_ rfl ?_;omega)|(refine zP rfl ?_ rfl ?_;omega)|refine zG rfl rfl rfl rfl ?_|(refine jdq rfl rfl ?_ ?_ ?_;kernel_rfl;kernel_rfl)|refine zB rfl rfl rfl (by repeat constructor) rfl ?_|refine zH .here rfl rfl rfl rfl ?_|refine zH (.there .here) rfl rfl rfl rfl ?_|refine zH (.there (.there .here)) rfl rfl rfl rfl ?_)
    exact J_retv rfl (.tmp rfl .nil) [] (fun w s => s) (PH.ler _) ⟨rfl, _, _, _, rfl⟩
  | some ad =>
    repeat (first|refine zJ rfl rfl ?_|refine jr rfl ?_|refine jn ?_|refine zM rfl rfl ?_|(refine zC rfl rfl ?_ rfl ?_;omega)|(refine zD rfl rfl ?_ rfl ?_;omega)|(refine zP rfl ?_ rfl ?_;omega)|refine zG rfl rfl rfl rfl ?_|(refine jdq rfl rfl ?_ ?_ ?_;kernel_rfl;kernel_rfl)|refine zB rfl rfl rfl (by repeat constructor) rfl ?_|refine zH .here rfl rfl rfl rfl ?_|refine zH (.there .here) rfl rfl rfl rfl ?_|refine zH (.there (.there .here)) rfl rfl rfl rfl ?_)
    refine oE (eb_empty) rfl ?_
    rintro u _ _ _ ⟨rfl, ⟨b, rfl⟩, rfl⟩
    repeat (first|refine zJ rfl rfl ?_|refine jr rfl ?_|refine jn ?_|refine zM rfl rfl ?_|(refine zC rfl rfl ?_ rfl ?_;omega)|(refine zD rfl rfl ?_ rfl ?_;omega)|(refine zP rfl ?_ rfl ?_;omega)|refine zG rfl rfl rfl rfl ?_|(refine jdq rfl rfl ?_ ?_ ?_;kernel_rfl;kernel_rfl)|refine zB rfl rfl rfl (by repeat constructor) rfl ?_|refine zH .here rfl rfl rfl rfl ?_|refine zH (.there .here) rfl rfl rfl rfl ?_|refine zH (.there (.there .here)) rfl rfl rfl rfl ?_)
    refine oE (eb_append (bs := []) (cs := t) (K := fun v' => bytes v' ([] ++ t) :: X) rfl rfl h.rds (by rw [List.length_nil]; omega) (fun v' => .here)) rfl ?_
    rintro u _ _ _ ⟨rfl, _, rfl⟩
    refine oOwn .here fun au cu hu _ _ _ => ?_
    subst hu
    repeat (first|refine zJ rfl rfl ?_|refine jr rfl ?_|refine jn ?_|refine zM rfl rfl ?_|(refine zC rfl rfl ?_ rfl ?_;omega)|(refine zD rfl rfl ?_ rfl ?_;omega)|(refine zP rfl ?_ rfl ?_;omega)|refine zG rfl rfl rfl rfl ?_|(refine jdq rfl rfl ?_ ?_ ?_;kernel_rfl;kernel_rfl)|refine zB rfl rfl rfl (by repeat constructor) rfl ?_|refine zH .here rfl rfl rfl rfl ?_|refine zH (.there .here) rfl rfl rfl rfl ?_|refine zH (.there (.there .here)) rfl rfl rfl rfl ?_)
    exact J_retv rfl (.tmp rfl .nil) [] (fun w s => s.drop) (PH.ler _) ⟨rfl, _, _, _, rfl⟩
theorem knew_spec (v : Value) (t : List UInt8) (F : PH) (ht : t.length ≤ 100000) (h : Byt F v t) : Spec Try.prog 20 [v] F [] fun u F' H' => H' = [] ∧ ∃ b, u = .pointer (some ⟨b, 0, none⟩) := by
  obtain ⟨_, a, c, rfl, hc, _⟩ := id h
  refine Spec.of1 Try.func20 rfl rfl fun X w0 => ?_
  repeat (first|refine zJ rfl rfl ?_|refine jr rfl ?_|refine jn ?_|refine zM rfl rfl ?_|(refine zC rfl rfl ?_ rfl ?_;omega)|(refine zD rfl rfl ?_ rfl ?_;omega)|(refine zP rfl ?_ rfl ?_;omega)|refine zG rfl rfl rfl rfl ?_|(refine jdq rfl rfl ?_ ?_ ?_;kernel_rfl;kernel_rfl)|refine zB rfl rfl rfl (by repeat constructor) rfl ?_|refine zH .here rfl rfl rfl rfl ?_|refine zH (.there .here) rfl rfl rfl rfl ?_|refine zH (.there (.there .here)) rfl rfl rfl rfl ?_)
  refine oC (Hc := []) (Hr := X) (bclone_spec _ t F ht h) Try.call31 rfl rfl (fun _ s => s) ?_
  rintro _ F1 _ hF1 ⟨rfl, a1, n1, c1, rfl⟩
  repeat (first|refine zJ rfl rfl ?_|refine jr rfl ?_|refine jn ?_|refine zM rfl rfl ?_|(refine zC rfl rfl ?_ rfl ?_;omega)|(refine zD rfl rfl ?_ rfl ?_;omega)|(refine zP rfl ?_ rfl ?_;omega)|refine zG rfl rfl rfl rfl ?_|(refine jdq rfl rfl ?_ ?_ ?_;kernel_rfl;kernel_rfl)|refine zB rfl rfl rfl (by repeat constructor) rfl ?_|refine zH .here rfl rfl rfl rfl ?_|refine zH (.there .here) rfl rfl rfl rfl ?_|refine zH (.there (.there .here)) rfl rfl rfl rfl ?_)
  refine oE (ev_makeMap (K := keyS)) rfl ?_
  rintro _ _ _ _ ⟨rfl, m, rfl, rfl⟩
  repeat (first|refine zJ rfl rfl ?_|refine jr rfl ?_|refine jn ?_|refine zM rfl rfl ?_|(refine zC rfl rfl ?_ rfl ?_;omega)|(refine zD rfl rfl ?_ rfl ?_;omega)|(refine zP rfl ?_ rfl ?_;omega)|refine zG rfl rfl rfl rfl ?_|(refine jdq rfl rfl ?_ ?_ ?_;kernel_rfl;kernel_rfl)|refine zB rfl rfl rfl (by repeat constructor) rfl ?_|refine zH .here rfl rfl rfl rfl ?_|refine zH (.there .here) rfl rfl rfl rfl ?_|refine zH (.there (.there .here)) rfl rfl rfl rfl ?_)
  refine oE (ev_box rfl .agg) rfl ?_; rintro _ _ _ _ ⟨rfl, b, rfl, rfl⟩
  repeat (first|refine zJ rfl rfl ?_|refine jr rfl ?_|refine jn ?_|refine zM rfl rfl ?_|(refine zC rfl rfl ?_ rfl ?_;omega)|(refine zD rfl rfl ?_ rfl ?_;omega)|(refine zP rfl ?_ rfl ?_;omega)|refine zG rfl rfl rfl rfl ?_|(refine jdq rfl rfl ?_ ?_ ?_;kernel_rfl;kernel_rfl)|refine zB rfl rfl rfl (by repeat constructor) rfl ?_|refine zH .here rfl rfl rfl rfl ?_|refine zH (.there .here) rfl rfl rfl rfl ?_|refine zH (.there (.there .here)) rfl rfl rfl rfl ?_)
  exact J_retv rfl (.tmp rfl .nil) [] (fun w s => s.drop.drop) hF1 ⟨rfl, b, rfl⟩
end Go.Proofs.Ytohlmhoacjodjaa
