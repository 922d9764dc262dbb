/-
  Digests by the document's book: its numbers, its places. Conditions are typed with each.
-/
import Derived.Test.YtohlmhoacjodjaaAf
import Derived.Test.YtohlmhoacjodjaaRa
namespace Go.Proofs.Ytohlmhoacjodjaa
open Go.RowKit
set_option maxRecDepth 100000
/-- A block of 32 octets midway: first, zeros, so many of eight. -/
def dnArr (k : Int) (p : List UInt8) (j : Nat) : List Value := (.int .u8 k :: List.replicate 23 (.int .u8 0)) ++ (u8s (p.take j) ++ List.replicate (8 - j) (.int .u8 0))
theorem lay_mid : ∀ {vs zs : List Value} (r : List Value), vs.length = zs.length → Lay 0 vs (zs ++ r) (vs ++ r)
  | [], [], _, _ => .nil
  | v :: vs, z :: zs, r, h => .put (lay_mid r (by simpa using h))
theorem dnArr_step {k : Int} {p : List UInt8} {j : Nat} {c : UInt8} (h : p[j]? = some c) (hj : j < 8) : Lay (24 + j) [.int .u8 c.toNat] (dnArr k p j) (dnArr k p (j + 1)) := by
  have hl : (u8s (p.take j)).length = j := by
    rw [u8s_len, List.length_take]
    have := (List.getElem?_eq_some_iff.1 h).1
    omega
  have e1 : dnArr k p (j + 1) = (.int .u8 k :: List.replicate 23 (.int .u8 0)) ++ (u8s (p.take j) ++ ([.int .u8 c.toNat] ++ List.replicate (8 - (j + 1)) (.int .u8 0))) := by
    unfold dnArr
    rw [take_snoc h, u8s_append, List.append_assoc]
    rfl
  have e2 : dnArr k p j = (.int .u8 k :: List.replicate 23 (.int .u8 0)) ++ (u8s (p.take j) ++ ([.int .u8 0] ++ List.replicate (8 - (j + 1)) (.int .u8 0))) := by
    unfold dnArr
    rw [show 8 - j = (8 - (j + 1)) + 1 from by omega, List.replicate_succ]
    rfl
  rw [e1, e2]
  have h1 := layP (u8s (p.take j)) (lay_mid (vs := [.int .u8 c.toNat]) (zs := [.int .u8 0]) (List.replicate (8 - (j + 1)) (.int .u8 0)) rfl)
  rw [hl] at h1
  have h2 := layP (.int .u8 k :: List.replicate 23 (.int .u8 0)) h1
  exact h2
theorem dnArr_ones (k : Int) (p : List UInt8) (j : Nat) : Ones (dnArr k p j) := by
  unfold dnArr
  refine ones_append (ones_cons rfl fun v hv => ?_) (ones_append (u8s_ones _) fun v hv => ?_)
  · rw [List.eq_of_mem_replicate hv]; rfl
  · rw [List.eq_of_mem_replicate hv]; rfl
theorem dnArr_len {k : Int} {p : List UInt8} {j : Nat} (hp : p.length = 8) (hj : j ≤ 8) : (dnArr k p j).length = 32 := by
  unfold dnArr
  rw [List.length_append, List.length_append, u8s_len, List.length_take, List.length_replicate, List.length_cons, List.length_replicate]
  omega
set_option maxHeartbeats 8000000 in
theorem inumber_spec (k : Int) (n : Nat) (F : PH) (hk : 0 ≤ k ∧ k < 256) (hn : n ≤ 1000000) : Spec Try.prog 38 [.int .u8 k, .int .i64 n] F [] fun u F' H' => u = .agg (u8s (dnuB k n)).toArray ∧ H' = [] := by
  have hl8 : (putB n 8).length = 8 := putB_len (m := 8) rfl
  have h32 : (u8s (dnuB k n)).length = 32 := by rw [u8s_len, dnuB_len]
  refine Spec.of2 Try.func38 rfl rfl fun X w0 => ?_
  repeat (first|refine zJ rfl rfl ?_|refine jr rfl ?_|refine jn ?_|refine zM rfl rfl ?_|(refine zC rfl rfl ?_ rfl ?_;omega)|(refine zD rfl rfl ?_ rfl ?_;omega)|(refine zP rfl ?_ rfl ?_;omega)|refine zG rfl rfl rfl rfl ?_|(refine jdq rfl rfl ?_ ?_ ?_;kernel_rfl;kernel_rfl)|refine zB rfl rfl rfl (by repeat constructor) rfl ?_|refine zH .here rfl rfl rfl rfl ?_|refine zH (.there .here) rfl rfl rfl rfl ?_|refine zH (.there (.there .here)) rfl rfl rfl rfl ?_)
  refine oE (ev_alloc (cs := u8s zd32) rfl) rfl ?_
  rintro _ _ _ _ ⟨rfl, b4, rfl, rfl⟩
  repeat (first|refine zJ rfl rfl ?_|refine jr rfl ?_|refine jn ?_|refine zM rfl rfl ?_|(refine zC rfl rfl ?_ rfl ?_;omega)|(refine zD rfl rfl ?_ rfl ?_;omega)|(refine zP rfl ?_ rfl ?_;omega)|refine zG rfl rfl rfl rfl ?_|(refine jdq rfl rfl ?_ ?_ ?_;kernel_rfl;kernel_rfl)|refine zB rfl rfl rfl (by repeat constructor) rfl ?_|refine zH .here rfl rfl rfl rfl ?_|refine zH (.there .here) rfl rfl rfl rfl ?_|refine zH (.there (.there .here)) rfl rfl rfl rfl ?_)
  refine oE (ev_alloc (cs := u8s zd32) rfl) rfl ?_
  rintro _ _ _ _ ⟨rfl, b5, rfl, rfl⟩
  repeat (first|refine zJ rfl rfl ?_|refine jr rfl ?_|refine jn ?_|refine zM rfl rfl ?_|(refine zC rfl rfl ?_ rfl ?_;omega)|(refine zD rfl rfl ?_ rfl ?_;omega)|(refine zP rfl ?_ rfl ?_;omega)|refine zG rfl rfl rfl rfl ?_|(refine jdq rfl rfl ?_ ?_ ?_;kernel_rfl;kernel_rfl)|refine zB rfl rfl rfl (by repeat constructor) rfl ?_|refine zH .here rfl rfl rfl rfl ?_|refine zH (.there .here) rfl rfl rfl rfl ?_|refine zH (.there (.there .here)) rfl rfl rfl rfl ?_)
  refine oS (ev_indexAddr_arr (size := 1) (E := 5) (len := 32) (i := 0) rfl rfl (by kernel_rfl) (show 0 < 32 by omega)) rfl ?_
  refine oN (ev_store (b := b5) (vs := [.int .u8 k]) (s := dnArr k (putB n 8) 0) rfl rfl .int rfl rfl (lay_set (i := 0) (r := u8s zd32) _ (by decide)) (ones_cons rfl ones_nil) .here) rfl ?_
  rintro _ _ _ _ ⟨rfl, _, rfl⟩
  repeat (first|refine zJ rfl rfl ?_|refine jr rfl ?_|refine jn ?_|refine zM rfl rfl ?_|(refine zC rfl rfl ?_ rfl ?_;omega)|(refine zD rfl rfl ?_ rfl ?_;omega)|(refine zP rfl ?_ rfl ?_;omega)|refine zG rfl rfl rfl rfl ?_|(refine jdq rfl rfl ?_ ?_ ?_;kernel_rfl;kernel_rfl)|refine zB rfl rfl rfl (by repeat constructor) rfl ?_|refine zH .here rfl rfl rfl rfl ?_|refine zH (.there .here) rfl rfl rfl rfl ?_|refine zH (.there (.there .here)) rfl rfl rfl rfl ?_)
  refine oC (Hc := []) (Hr := blk b5 27 (dnArr k (putB n 8) 0) :: blk b4 27 (u8s zd32) :: X) (Put_p _ n 8 [] F (Byt.nil F) (by omega) (by decide)) Try.call35 rfl rfl (fun _ s => s) ?_; rintro u1 F1 _ hF1 ⟨rfl, h1⟩
  rw [List.nil_append] at h1
  obtain ⟨_, a1, c1, rfl, hc1, h0⟩ := id h1
  rw [hl8] at h0 hc1 ⊢
  obtain ⟨bp, op, rfl, hcp⟩ := h0 (by decide)
  repeat (first|refine zJ rfl rfl ?_|refine jr rfl ?_|refine jn ?_|refine zM rfl rfl ?_|(refine zC rfl rfl ?_ rfl ?_;omega)|(refine zD rfl rfl ?_ rfl ?_;omega)|(refine zP rfl ?_ rfl ?_;omega)|refine zG rfl rfl rfl rfl ?_|(refine jdq rfl rfl ?_ ?_ ?_;kernel_rfl;kernel_rfl)|refine zB rfl rfl rfl (by repeat constructor) rfl ?_|refine zH .here rfl rfl rfl rfl ?_|refine zH (.there .here) rfl rfl rfl rfl ?_|refine zH (.there (.there .here)) rfl rfl rfl rfl ?_)
  refine J_loop (ι := Nat) (fun j => j ≤ 8) (fun j => 8 - j) (fun j => [(5, .pointer (some ⟨b5, 0, none⟩)), (4, .pointer (some ⟨b4, 0, none⟩)), (12, .slice (some ⟨bp, op, none⟩) 8 c1), (13, .int .i64 (8 : Nat)), (14, .int .i64 j)]) (fun _ => F1) (fun j => blk b5 27 (dnArr k (putB n 8) j) :: blk b4 27 (u8s zd32) :: X) 0 (by omega) ⟨⟨rfl, rfl, rfl, rfl, rfl, trivial⟩, fun _ s => s⟩ ?_
  intro j hj
  by_cases hlt : j < 8
  · have hg : (putB n 8)[j]? = some ((putB n 8)[j]'(by omega)) := List.getElem?_eq_getElem _
    have hst := dnArr_step (k := k) hg hlt
    have hone : Cells F1 bp (op + j * 1) [.int .u8 ((putB n 8)[j]'(by omega)).toNat] := by
      rw [Nat.mul_one]
      refine hcp.one j ?_
      unfold u8s
      rw [List.getElem?_map, hg]
      rfl
    generalize ((putB n 8)[j]'(by omega)) = cc at *
    repeat (first|refine zJ rfl rfl ?_|refine jr rfl ?_|refine jn ?_|refine zM rfl rfl ?_|(refine zC rfl rfl ?_ rfl ?_;omega)|(refine zD rfl rfl ?_ rfl ?_;omega)|(refine zP rfl ?_ rfl ?_;omega)|refine zG rfl rfl rfl rfl ?_|(refine jdq rfl rfl ?_ ?_ ?_;kernel_rfl;kernel_rfl)|refine zB rfl rfl rfl (by repeat constructor) rfl ?_|refine zH .here rfl rfl rfl rfl ?_|refine zH (.there .here) rfl rfl rfl rfl ?_|refine zH (.there (.there .here)) rfl rfl rfl rfl ?_)
    refine oS (ev_indexAddr rfl rfl rfl hlt) rfl ?_
    refine oS (ev_load (v := .int .u8 cc.toNat) rfl rfl (Rdb.ofF hone)) rfl ?_
    repeat (first|refine zJ rfl rfl ?_|refine jr rfl ?_|refine jn ?_|refine zM rfl rfl ?_|(refine zC rfl rfl ?_ rfl ?_;omega)|(refine zD rfl rfl ?_ rfl ?_;omega)|(refine zP rfl ?_ rfl ?_;omega)|refine zG rfl rfl rfl rfl ?_|(refine jdq rfl rfl ?_ ?_ ?_;kernel_rfl;kernel_rfl)|refine zB rfl rfl rfl (by repeat constructor) rfl ?_|refine zH .here rfl rfl rfl rfl ?_|refine zH (.there .here) rfl rfl rfl rfl ?_|refine zH (.there (.there .here)) rfl rfl rfl rfl ?_)
    rw [show (24 : Int) + (j : Int) = ((24 + j : Nat) : Int) from by omega]
    refine oS (ev_indexAddr_arr (size := 1) (E := 5) (len := 32) (i := 24 + j) rfl rfl (by kernel_rfl) (by omega)) rfl ?_
    refine oN (ev_store (b := b5) (vs := [.int .u8 cc.toNat]) (s := dnArr k (putB n 8) (j + 1)) rfl rfl .int rfl rfl (by simpa using hst) (ones_cons rfl ones_nil) .here) rfl ?_
    rintro _ _ _ _ ⟨rfl, _, rfl⟩
    repeat (first|refine zJ rfl rfl ?_|refine jr rfl ?_|refine jn ?_|refine zM rfl rfl ?_|(refine zC rfl rfl ?_ rfl ?_;omega)|(refine zD rfl rfl ?_ rfl ?_;omega)|(refine zP rfl ?_ rfl ?_;omega)|refine zG rfl rfl rfl rfl ?_|(refine jdq rfl rfl ?_ ?_ ?_;kernel_rfl;kernel_rfl)|refine zB rfl rfl rfl (by repeat constructor) rfl ?_|refine zH .here rfl rfl rfl rfl ?_|refine zH (.there .here) rfl rfl rfl rfl ?_|refine zH (.there (.there .here)) rfl rfl rfl rfl ?_)
    exact J_again (j + 1) (by omega) (by omega) ⟨⟨rfl, rfl, rfl, rfl, rfl, trivial⟩, fun w s => s⟩
  · obtain rfl : j = 8 := by omega
    have hfull : dnArr k (putB n 8) 8 = u8s (dnuB k n) := by
      rw [dnuB_u8s k hk n]
      unfold dnArr
      rw [List.take_of_length_le (by omega), Nat.sub_self, List.replicate_zero, List.append_nil]
      rfl
    rw [hfull]
    repeat (first|refine zJ rfl rfl ?_|refine jr rfl ?_|refine jn ?_|refine zM rfl rfl ?_|(refine zC rfl rfl ?_ rfl ?_;omega)|(refine zD rfl rfl ?_ rfl ?_;omega)|(refine zP rfl ?_ rfl ?_;omega)|refine zG rfl rfl rfl rfl ?_|(refine jdq rfl rfl ?_ ?_ ?_;kernel_rfl;kernel_rfl)|refine zB rfl rfl rfl (by repeat constructor) rfl ?_|refine zH .here rfl rfl rfl rfl ?_|refine zH (.there .here) rfl rfl rfl rfl ?_|refine zH (.there (.there .here)) rfl rfl rfl rfl ?_)
    refine oS (ev_load_agg (cs := u8s (dnuB k n)) rfl rfl (Rdb.ofB (n := 0) .here (by rw [List.drop_zero, List.take_length])) h32) rfl ?_
    refine oN (ev_store (b := b4) rfl rfl .agg rfl h32 (lay_all (zs := u8s zd32) (by rw [h32]; rfl)) (u8s_ones _) (.there .here)) rfl ?_
    rintro _ _ _ _ ⟨rfl, _, rfl⟩
    repeat (first|refine zJ rfl rfl ?_|refine jr rfl ?_|refine jn ?_|refine zM rfl rfl ?_|(refine zC rfl rfl ?_ rfl ?_;omega)|(refine zD rfl rfl ?_ rfl ?_;omega)|(refine zP rfl ?_ rfl ?_;omega)|refine zG rfl rfl rfl rfl ?_|(refine jdq rfl rfl ?_ ?_ ?_;kernel_rfl;kernel_rfl)|refine zB rfl rfl rfl (by repeat constructor) rfl ?_|refine zH .here rfl rfl rfl rfl ?_|refine zH (.there .here) rfl rfl rfl rfl ?_|refine zH (.there (.there .here)) rfl rfl rfl rfl ?_)
    exact J_retv (vs := [.agg (u8s (dnuB k n)).toArray]) rfl (.agg rfl rfl (Rdb.ofB (n := 0) (.there .here) (by rw [List.drop_zero, List.take_length])) h32 .nil) [] (fun w s => s.drop.drop) hF1 ⟨rfl, rfl⟩
/-- The document's book, with what was digested. -/
def idealA (b m : Nat) (tg : Value) (ks : List (List UInt8)) : List Asrt := [blk b 63 [.map (some m), tg], mp keyS m (digN ks 1)]
def idK (k : Int) (x : List UInt8) : List UInt8 := UInt8.ofNat k.toNat :: x
def idD (ks : List (List UInt8)) (k : Int) (x : List UInt8) : List UInt8 := dnuB k (placeP ks (idK k x)).1
theorem inew_spec (F : PH) : Spec Try.prog 10 [] F [] fun u F' H' => F = F' ∧ ∃ b m tg, u = .pointer (some ⟨b, 0, none⟩) ∧ H' = idealA b m tg [] := by
  refine Spec.of0 Try.func10 rfl fun X w0 => ?_
  repeat (first|refine zJ rfl rfl ?_|refine jr rfl ?_|refine jn ?_|refine zM rfl rfl ?_|(refine zC rfl rfl ?_ rfl ?_;omega)|(refine zD rfl rfl ?_ rfl ?_;omega)|(refine zP rfl ?_ rfl ?_;omega)|refine zG rfl rfl rfl rfl ?_|(refine jdq rfl rfl ?_ ?_ ?_;kernel_rfl;kernel_rfl)|refine zB rfl rfl rfl (by repeat constructor) rfl ?_|refine zH .here rfl rfl rfl rfl ?_|refine zH (.there .here) rfl rfl rfl rfl ?_|refine zH (.there (.there .here)) rfl rfl rfl rfl ?_)
  refine oE (ev_makeMap (K := keyS)) rfl ?_
  rintro _ _ _ _ ⟨rfl, m, rfl, rfl⟩
  refine oE (ev_makeMap (K := keyS)) rfl ?_
  rintro _ _ _ _ ⟨rfl, m2, rfl, rfl⟩
  repeat (first|refine zJ rfl rfl ?_|refine jr rfl ?_|refine jn ?_|refine zM rfl rfl ?_|(refine zC rfl rfl ?_ rfl ?_;omega)|(refine zD rfl rfl ?_ rfl ?_;omega)|(refine zP rfl ?_ rfl ?_;omega)|refine zG rfl rfl rfl rfl ?_|(refine jdq rfl rfl ?_ ?_ ?_;kernel_rfl;kernel_rfl)|refine zB rfl rfl rfl (by repeat constructor) rfl ?_|refine zH .here rfl rfl rfl rfl ?_|refine zH (.there .here) rfl rfl rfl rfl ?_|refine zH (.there (.there .here)) rfl rfl rfl rfl ?_)
  refine oE (ev_box rfl .agg) rfl ?_; rintro _ _ _ _ ⟨rfl, b, rfl, rfl⟩
  repeat (first|refine zJ rfl rfl ?_|refine jr rfl ?_|refine jn ?_|refine zM rfl rfl ?_|(refine zC rfl rfl ?_ rfl ?_;omega)|(refine zD rfl rfl ?_ rfl ?_;omega)|(refine zP rfl ?_ rfl ?_;omega)|refine zG rfl rfl rfl rfl ?_|(refine jdq rfl rfl ?_ ?_ ?_;kernel_rfl;kernel_rfl)|refine zB rfl rfl rfl (by repeat constructor) rfl ?_|refine zH .here rfl rfl rfl rfl ?_|refine zH (.there .here) rfl rfl rfl rfl ?_|refine zH (.there (.there .here)) rfl rfl rfl rfl ?_)
  exact J_retv rfl (.tmp rfl .nil) (idealA b m (.map (some m2)) []) (fun w s => (s.pm 3 [1, 0, 2] rfl rfl).drop) (PH.ler _) ⟨rfl, b, m, .map (some m2), rfl, rfl⟩
set_option maxHeartbeats 8000000 in
theorem idigest_spec (b m : Nat) (tg v : Value) (k : Int) (t : List UInt8) (ks : List (List UInt8)) (F : PH) (hk : 0 ≤ k ∧ k < 256) (hl : ks.length ≤ 100000) (ht : t.length ≤ 100000) (h : Byt F v t) : Spec Try.prog 27 [.pointer (some ⟨b, 0, none⟩), .int .i64 k, v] F (idealA b m tg ks) fun u F' H' => u = .agg (u8s (idD ks k t)).toArray ∧ H' = idealA b m tg (placeP ks (idK k t)).2 := by
  obtain ⟨_, a, c, rfl, hc, _⟩ := id h
  have ek : ((UInt8.ofNat k.toNat).toNat : Int) = k := by rw [UInt8.toNat_ofNat']; omega
  have h32 : (u8s (idD ks k t)).length = 32 := by rw [u8s_len]; exact dnuB_len _ _
  have hpl : (placeP ks (idK k t)).1 ≤ 1000000 := by
    have := posN_le _ _ (placeP_pos ks (idK k t))
    obtain ⟨t', e, h1⟩ := placeP_ext ks (idK k t)
    rw [e, List.length_append] at this
    omega
  have hg := getK_digN (idK k t) ks 1
  have hg2 := getK_digN (idK k t) (placeP ks (idK k t)).2 1
  rw [placeP_pos] at hg2
  refine Spec.of3 Try.func27 rfl rfl fun X w0 => ?_
  unfold idealA
  repeat (first|refine zJ rfl rfl ?_|refine jr rfl ?_|refine jn ?_|refine zM rfl rfl ?_|(refine zC rfl rfl ?_ rfl ?_;omega)|(refine zD rfl rfl ?_ rfl ?_;omega)|(refine zP rfl ?_ rfl ?_;omega)|refine zG rfl rfl rfl rfl ?_|(refine jdq rfl rfl ?_ ?_ ?_;kernel_rfl;kernel_rfl)|refine zB rfl rfl rfl (by repeat constructor) rfl ?_|refine zH .here rfl rfl rfl rfl ?_|refine zH (.there .here) rfl rfl rfl rfl ?_|refine zH (.there (.there .here)) rfl rfl rfl rfl ?_)
  refine oE (ev_alloc (E := 28) (cs := u8s zd32) (by kernel_rfl)) rfl ?_
  rintro _ _ _ _ ⟨rfl, b6, rfl, rfl⟩
  repeat (first|refine zJ rfl rfl ?_|refine jr rfl ?_|refine jn ?_|refine zM rfl rfl ?_|(refine zC rfl rfl ?_ rfl ?_;omega)|(refine zD rfl rfl ?_ rfl ?_;omega)|(refine zP rfl ?_ rfl ?_;omega)|refine zG rfl rfl rfl rfl ?_|(refine jdq rfl rfl ?_ ?_ ?_;kernel_rfl;kernel_rfl)|refine zB rfl rfl rfl (by repeat constructor) rfl ?_|refine zH .here rfl rfl rfl rfl ?_|refine zH (.there .here) rfl rfl rfl rfl ?_|refine zH (.there (.there .here)) rfl rfl rfl rfl ?_)
  refine oE (ev_buildSlice (E := 5) (zs := [.int .u8 0]) (t := [.int .u8 k]) rfl rfl rfl rfl rfl rfl (.cons .int rfl (lay_all (vs := [.int .u8 k]) (zs := [.int .u8 0]) rfl) .nil)) rfl ?_
  rintro _ _ _ _ ⟨rfl, b1, rfl, rfl⟩
  refine oW (H' := bytes (.slice (some ⟨b1, 0, none⟩) 1 1) [UInt8.ofNat k.toNat] :: blk b6 28 (u8s zd32) :: blk b 63 [.map (some m), tg] :: mp keyS m (digN ks 1) :: X) ?_ (fun w s => s.turn (fun hh hA => by
    have hA2 : blk b1 5 (u8s [UInt8.ofNat k.toNat]) hh := by unfold u8s; rw [List.map_cons, List.map_nil, ek]; exact hA
    exact blk_own (size := 1) (n := 1) rfl (by decide) hh hA2))
  repeat (first|refine zJ rfl rfl ?_|refine jr rfl ?_|refine jn ?_|refine zM rfl rfl ?_|(refine zC rfl rfl ?_ rfl ?_;omega)|(refine zD rfl rfl ?_ rfl ?_;omega)|(refine zP rfl ?_ rfl ?_;omega)|refine zG rfl rfl rfl rfl ?_|(refine jdq rfl rfl ?_ ?_ ?_;kernel_rfl;kernel_rfl)|refine zB rfl rfl rfl (by repeat constructor) rfl ?_|refine zH .here rfl rfl rfl rfl ?_|refine zH (.there .here) rfl rfl rfl rfl ?_|refine zH (.there (.there .here)) rfl rfl rfl rfl ?_)
  refine oE (eb_append (bs := [UInt8.ofNat k.toNat]) (cs := t) (K := fun v' => bytes v' ([UInt8.ofNat k.toNat] ++ t) :: blk b6 28 (u8s zd32) :: blk b 63 [.map (some m), tg] :: mp keyS m (digN ks 1) :: X) rfl rfl h.rds (by rw [List.length_singleton]; omega) (fun v' => .here)) rfl ?_
  rintro u1 _ _ _ ⟨rfl, _, rfl⟩
  refine oPersist fun hh hA hd => ?_
  have hb1 : Byt (F.un hh) u1 (idK k t) := bytes_byt hA hd
  have hF1 := PH.le_l F hh
  generalize F.un hh = F1 at *
  repeat (first|refine zJ rfl rfl ?_|refine jr rfl ?_|refine jn ?_|refine zM rfl rfl ?_|(refine zC rfl rfl ?_ rfl ?_;omega)|(refine zD rfl rfl ?_ rfl ?_;omega)|(refine zP rfl ?_ rfl ?_;omega)|refine zG rfl rfl rfl rfl ?_|(refine jdq rfl rfl ?_ ?_ ?_;kernel_rfl;kernel_rfl)|refine zB rfl rfl rfl (by repeat constructor) rfl ?_|refine zH .here rfl rfl rfl rfl ?_|refine zH (.there .here) rfl rfl rfl rfl ?_|refine zH (.there (.there .here)) rfl rfl rfl rfl ?_)
  refine oS (eb_string rfl hb1.rds) rfl ?_
  repeat (first|refine zJ rfl rfl ?_|refine jr rfl ?_|refine jn ?_|refine zM rfl rfl ?_|(refine zC rfl rfl ?_ rfl ?_;omega)|(refine zD rfl rfl ?_ rfl ?_;omega)|(refine zP rfl ?_ rfl ?_;omega)|refine zG rfl rfl rfl rfl ?_|(refine jdq rfl rfl ?_ ?_ ?_;kernel_rfl;kernel_rfl)|refine zB rfl rfl rfl (by repeat constructor) rfl ?_|refine zH .here rfl rfl rfl rfl ?_|refine zH (.there .here) rfl rfl rfl rfl ?_|refine zH (.there (.there .here)) rfl rfl rfl rfl ?_)
  have e0 : placeP ks (idK k t) = match posN ks (idK k t) 1 with
    | some m => (m, ks)
    | none => (ks.length + 1, ks ++ [idK k t]) := rfl
  cases hp : posN ks (idK k t) 1 with
  | some n =>
    rw [hp] at hg e0
    have hn1 := posN_le _ _ hp
    dsimp only at e0
    rw [e0] at hg2 hpl ⊢
    refine oS (ev_lookup (K := keyS) (a := idK k t) (zv := .int .i64 0) (r := .int .i64 n) rfl rfl rfl rfl (.there (.there .here)) (by rw [hg]; rfl)) rfl ?_
    repeat (first|refine zJ rfl rfl ?_|refine jr rfl ?_|refine jn ?_|refine zM rfl rfl ?_|(refine zC rfl rfl ?_ rfl ?_;omega)|(refine zD rfl rfl ?_ rfl ?_;omega)|(refine zP rfl ?_ rfl ?_;omega)|refine zG rfl rfl rfl rfl ?_|(refine jdq rfl rfl ?_ ?_ ?_;kernel_rfl;kernel_rfl)|refine zB rfl rfl rfl (by repeat constructor) rfl ?_|refine zH .here rfl rfl rfl rfl ?_|refine zH (.there .here) rfl rfl rfl rfl ?_|refine zH (.there (.there .here)) rfl rfl rfl rfl ?_)
    refine oS (ev_lookup (K := keyS) (a := idK k t) (zv := .int .i64 0) (r := .int .i64 n) rfl rfl rfl rfl (.there (.there .here)) (by rw [hg]; rfl)) rfl ?_
    refine oC (Hc := []) (Hr := blk b6 28 (u8s zd32) :: blk b 63 [.map (some m), tg] :: mp keyS m (digN ks 1) :: X) (inumber_spec k n F1 hk hpl) Try.call38 rfl rfl (fun _ s => s) ?_
    rintro _ F2 _ hF2 ⟨rfl, rfl⟩
    unfold idD at h32 ⊢
    rw [e0] at h32 ⊢
    refine oN (ev_store (b := b6) (vs := u8s (dnuB k n)) rfl rfl .agg rfl h32 (lay_all (zs := u8s zd32) (by rw [h32]; rfl)) (u8s_ones _) .here) rfl ?_
    rintro _ _ _ _ ⟨rfl, _, rfl⟩
    repeat (first|refine zJ rfl rfl ?_|refine jr rfl ?_|refine jn ?_|refine zM rfl rfl ?_|(refine zC rfl rfl ?_ rfl ?_;omega)|(refine zD rfl rfl ?_ rfl ?_;omega)|(refine zP rfl ?_ rfl ?_;omega)|refine zG rfl rfl rfl rfl ?_|(refine jdq rfl rfl ?_ ?_ ?_;kernel_rfl;kernel_rfl)|refine zB rfl rfl rfl (by repeat constructor) rfl ?_|refine zH .here rfl rfl rfl rfl ?_|refine zH (.there .here) rfl rfl rfl rfl ?_|refine zH (.there (.there .here)) rfl rfl rfl rfl ?_)
    exact J_retv (vs := [.agg (u8s (dnuB k n)).toArray]) rfl (.agg rfl rfl (Rdb.ofB (n := 0) .here (by rw [List.drop_zero, List.take_length])) h32 .nil) [_, _] (fun w s => s.drop) (hF1.trans hF2) ⟨rfl, rfl⟩
  | none =>
    rw [hp] at hg e0
    dsimp only at e0
    rw [e0] at hg2 hpl ⊢
    dsimp only at hpl
    have hset : setK (digN ks 1) (idK k t) (.int .i64 ((ks.length : Int) + 1)) = digN (ks ++ [idK k t]) 1 := by
      have hsc : scanK (idK k t) (digN ks 1) 0 = none := by
        cases hs : scanK (idK k t) (digN ks 1) 0 with
        | none => rfl
        | some q => unfold getK at hg; rw [hs] at hg; cases hg
      rw [(scanK_none hsc _).1, digN_snoc]
      rw [show ((1 + ks.length : Nat) : Int) = (ks.length : Int) + 1 from by omega]
    refine oS (ev_lookup (K := keyS) (a := idK k t) (zv := .int .i64 0) (r := .int .i64 0) rfl rfl rfl rfl (.there (.there .here)) (by rw [hg]; rfl)) rfl ?_
    repeat (first|refine zJ rfl rfl ?_|refine jr rfl ?_|refine jn ?_|refine zM rfl rfl ?_|(refine zC rfl rfl ?_ rfl ?_;omega)|(refine zD rfl rfl ?_ rfl ?_;omega)|(refine zP rfl ?_ rfl ?_;omega)|refine zG rfl rfl rfl rfl ?_|(refine jdq rfl rfl ?_ ?_ ?_;kernel_rfl;kernel_rfl)|refine zB rfl rfl rfl (by repeat constructor) rfl ?_|refine zH .here rfl rfl rfl rfl ?_|refine zH (.there .here) rfl rfl rfl rfl ?_|refine zH (.there (.there .here)) rfl rfl rfl rfl ?_)
    refine jdl rfl ?_ ?_ ?_ ?_; kernel_rfl; kernel_rfl; kernel_rfl; dsimp only [List.dropLast]
    repeat (first|refine zJ rfl rfl ?_|refine jr rfl ?_|refine jn ?_|refine zM rfl rfl ?_|(refine zC rfl rfl ?_ rfl ?_;omega)|(refine zD rfl rfl ?_ rfl ?_;omega)|(refine zP rfl ?_ rfl ?_;omega)|refine zG rfl rfl rfl rfl ?_|(refine jdq rfl rfl ?_ ?_ ?_;kernel_rfl;kernel_rfl)|refine zB rfl rfl rfl (by repeat constructor) rfl ?_|refine zH .here rfl rfl rfl rfl ?_|refine zH (.there .here) rfl rfl rfl rfl ?_|refine zH (.there (.there .here)) rfl rfl rfl rfl ?_)
    refine oS (ev_len_map (K := keyS) rfl rfl (.there (.there .here))) rfl ?_
    rw [digN_len]
    repeat (first|refine zJ rfl rfl ?_|refine jr rfl ?_|refine jn ?_|refine zM rfl rfl ?_|(refine zC rfl rfl ?_ rfl ?_;omega)|(refine zD rfl rfl ?_ rfl ?_;omega)|(refine zP rfl ?_ rfl ?_;omega)|refine zG rfl rfl rfl rfl ?_|(refine jdq rfl rfl ?_ ?_ ?_;kernel_rfl;kernel_rfl)|refine zB rfl rfl rfl (by repeat constructor) rfl ?_|refine zH .here rfl rfl rfl rfl ?_|refine zH (.there .here) rfl rfl rfl rfl ?_|refine zH (.there (.there .here)) rfl rfl rfl rfl ?_)
    refine jL rfl ?_
    refine oN (ev_mapUpdate (K := keyS) (M := digN ks 1) (b := m) (a := idK k t) (u := .int .i64 ((ks.length : Int) + 1)) rfl rfl rfl rfl (.there (.there .here))) rfl ?_
    rintro _ _ _ _ ⟨rfl, _, rfl⟩
    rw [hset]
    repeat (first|refine zJ rfl rfl ?_|refine jr rfl ?_|refine jn ?_|refine zM rfl rfl ?_|(refine zC rfl rfl ?_ rfl ?_;omega)|(refine zD rfl rfl ?_ rfl ?_;omega)|(refine zP rfl ?_ rfl ?_;omega)|refine zG rfl rfl rfl rfl ?_|(refine jdq rfl rfl ?_ ?_ ?_;kernel_rfl;kernel_rfl)|refine zB rfl rfl rfl (by repeat constructor) rfl ?_|refine zH .here rfl rfl rfl rfl ?_|refine zH (.there .here) rfl rfl rfl rfl ?_|refine zH (.there (.there .here)) rfl rfl rfl rfl ?_)
    refine oS (ev_lookup (K := keyS) (a := idK k t) (zv := .int .i64 0) (r := .int .i64 ((ks.length + 1 : Nat) : Int)) rfl rfl rfl rfl (.there (.there .here)) (by rw [hg2]; rfl)) rfl ?_
    refine oC (Hc := []) (Hr := blk b6 28 (u8s zd32) :: blk b 63 [.map (some m), tg] :: mp keyS m (digN (ks ++ [idK k t]) 1) :: X) (inumber_spec k (ks.length + 1) F1 hk hpl) Try.call38 rfl rfl (fun _ s => s) ?_
    rintro _ F2 _ hF2 ⟨rfl, rfl⟩
    unfold idD at h32 ⊢
    rw [e0] at h32 ⊢
    refine oN (ev_store (b := b6) (vs := u8s (dnuB k (ks.length + 1))) rfl rfl .agg rfl h32 (lay_all (zs := u8s zd32) (by rw [h32]; rfl)) (u8s_ones _) .here) rfl ?_
    rintro _ _ _ _ ⟨rfl, _, rfl⟩
    repeat (first|refine zJ rfl rfl ?_|refine jr rfl ?_|refine jn ?_|refine zM rfl rfl ?_|(refine zC rfl rfl ?_ rfl ?_;omega)|(refine zD rfl rfl ?_ rfl ?_;omega)|(refine zP rfl ?_ rfl ?_;omega)|refine zG rfl rfl rfl rfl ?_|(refine jdq rfl rfl ?_ ?_ ?_;kernel_rfl;kernel_rfl)|refine zB rfl rfl rfl (by repeat constructor) rfl ?_|refine zH .here rfl rfl rfl rfl ?_|refine zH (.there .here) rfl rfl rfl rfl ?_|refine zH (.there (.there .here)) rfl rfl rfl rfl ?_)
    exact J_retv (vs := [.agg (u8s (dnuB k (ks.length + 1))).toArray]) rfl (.agg rfl rfl (Rdb.ofB (n := 0) .here (by rw [List.drop_zero, List.take_length])) h32 .nil) [_, _] (fun w s => s.drop) (hF1.trans hF2) ⟨rfl, rfl⟩
end Go.Proofs.Ytohlmhoacjodjaa
