/-
  The document's crowd: put, take. Conditions are typed with each.
-/
import Derived.Test.YtpcgolpbjbaekaaCe
namespace Go.Proofs.Ytpcgolpbjbaekaa
open Go.RowKit
set_option maxRecDepth 100000
set_option maxHeartbeats 4000000 in
theorem refput_spec (m n k : Nat) (from_ : Int) (v : Value) (a : Option Addr) (os : List Value) (css : List (List Value)) (F : PH) (hv : SliceV F 6 v m os) (ho : Ones os) (hcl : ∀ c ∈ css, c.length = 5 ∧ Ones c) (hl : SliceV F 5 (.slice a n k) n css.flatten) (hn : css.length = n) (hm : m + n ≤ 16384) :
    Spec Try.prog 27 [v, .int .i64 from_, .slice a n k] F [] fun u F' H' => ∃ v', u = .tuple #[v', .int .i64 n] ∧ SliceV F' 6 v' (m + n) (os ++ puts from_ css) ∧ H' = [] := by
  have hc5 : ∀ c ∈ css, c.length = 5 := fun c h => (hcl c h).1
  obtain ⟨hom, av, kv, rfl, _⟩ := id hv
  refine Spec.of3 Try.func27 rfl rfl fun X w0 => ?_
  repeat (first|refine zJ rfl rfl ?_|refine jr rfl ?_|refine jn ?_|refine zM rfl rfl ?_|(refine zC rfl rfl ?_ rfl ?_;omega)|(refine zD rfl rfl ?_ rfl ?_;omega)|(refine zP rfl ?_ rfl ?_;omega)|refine zG rfl rfl rfl rfl ?_|(refine jdq rfl rfl ?_ ?_ ?_;kernel_rfl;kernel_rfl)|refine zB rfl rfl rfl (by repeat constructor) rfl ?_|refine zH .here rfl rfl rfl rfl ?_|refine zH (.there .here) rfl rfl rfl rfl ?_|refine zH (.there (.there .here)) rfl rfl rfl rfl ?_)
  refine oE (ev_mt elSent) rfl ?_
  rintro u0 _ _ _ ⟨rfl, ⟨b0, rfl⟩, rfl⟩
  repeat (first|refine zJ rfl rfl ?_|refine jr rfl ?_|refine jn ?_|refine zM rfl rfl ?_|(refine zC rfl rfl ?_ rfl ?_;omega)|(refine zD rfl rfl ?_ rfl ?_;omega)|(refine zP rfl ?_ rfl ?_;omega)|refine zG rfl rfl rfl rfl ?_|(refine jdq rfl rfl ?_ ?_ ?_;kernel_rfl;kernel_rfl)|refine zB rfl rfl rfl (by repeat constructor) rfl ?_|refine zH .here rfl rfl rfl rfl ?_|refine zH (.there .here) rfl rfl rfl rfl ?_|refine zH (.there (.there .here)) rfl rfl rfl rfl ?_)
  refine oE (ev_append_s (n := 0) (m := m) (xs := []) (news := os) (K := fun v' => own v' 35 6 m os :: X) rfl rfl elSent hv.rds ho (by omega) (fun v' => by rw [Nat.zero_add, List.nil_append]; exact .here)) rfl ?_
  rintro u1 _ _ _ ⟨rfl, _, rfl⟩
  repeat (first|refine zJ rfl rfl ?_|refine jr rfl ?_|refine jn ?_|refine zM rfl rfl ?_|(refine zC rfl rfl ?_ rfl ?_;omega)|(refine zD rfl rfl ?_ rfl ?_;omega)|(refine zP rfl ?_ rfl ?_;omega)|refine zG rfl rfl rfl rfl ?_|(refine jdq rfl rfl ?_ ?_ ?_;kernel_rfl;kernel_rfl)|refine zB rfl rfl rfl (by repeat constructor) rfl ?_|refine zH .here rfl rfl rfl rfl ?_|refine zH (.there .here) rfl rfl rfl rfl ?_|refine zH (.there (.there .here)) rfl rfl rfl rfl ?_)
  refine J_loop2 (fun (j : Nat) (_ : Value) => j ≤ n) (fun j _ => n - j)
    (fun j u => [(1, .int .i64 from_), (8, u), (9, .int .i64 j), (15, .slice a n k), (16, .int .i64 n), (17, .int .i64 j)]) (fun _ _ => F)
    (fun j u => own u 35 6 (m + j) (os ++ puts from_ (css.take j)) :: X) 0 u1 (Nat.zero_le _) ⟨⟨rfl, rfl, rfl, rfl, rfl, rfl, trivial⟩, fun w s => by simpa [puts] using s⟩ ?_
  intro j u hj
  by_cases hlt : j < n
  · obtain ⟨r, hr, hrm⟩ := at_lt (S := css) (j := j) (by omega)
    obtain ⟨b1, off1, rfl, hcc⟩ := hl.row hc5 hr (by omega)
    obtain ⟨x1, x2, x3, x4, x5, rfl⟩ := five (hc5 r hrm)
    have hones := (hcl _ hrm).2
    refine jOwn .here fun au ku hu _ _ _ => ?_
    subst hu
    repeat (first|refine zJ rfl rfl ?_|refine jr rfl ?_|refine jn ?_|refine zM rfl rfl ?_|(refine zC rfl rfl ?_ rfl ?_;omega)|(refine zD rfl rfl ?_ rfl ?_;omega)|(refine zP rfl ?_ rfl ?_;omega)|refine zG rfl rfl rfl rfl ?_|(refine jdq rfl rfl ?_ ?_ ?_;kernel_rfl;kernel_rfl)|refine zB rfl rfl rfl (by repeat constructor) rfl ?_|refine zH .here rfl rfl rfl rfl ?_|refine zH (.there .here) rfl rfl rfl rfl ?_|refine zH (.there (.there .here)) rfl rfl rfl rfl ?_)
    refine oS (ev_indexAddr rfl rfl rfl hlt) rfl ?_
    refine oS (ev_load_agg rfl rfl (Rdb.ofF hcc) rfl) rfl ?_
    refine oE (ev_alloc rfl) rfl ?_; rintro _ _ _ _ ⟨rfl, bp, rfl, rfl⟩; refine oN (ev_store rfl rfl .agg rfl rfl (lay_all ?_) ?_ .here) rfl ?_; rfl; rotate_left; rintro _ _ _ _ ⟨rfl, rfl, rfl⟩; rotate_left
    · exact hones
    repeat (first|refine zJ rfl rfl ?_|refine jr rfl ?_|refine jn ?_|refine zM rfl rfl ?_|(refine zC rfl rfl ?_ rfl ?_;omega)|(refine zD rfl rfl ?_ rfl ?_;omega)|(refine zP rfl ?_ rfl ?_;omega)|refine zG rfl rfl rfl rfl ?_|(refine jdq rfl rfl ?_ ?_ ?_;kernel_rfl;kernel_rfl)|refine zB rfl rfl rfl (by repeat constructor) rfl ?_|refine zH .here rfl rfl rfl rfl ?_|refine zH (.there .here) rfl rfl rfl rfl ?_|refine zH (.there (.there .here)) rfl rfl rfl rfl ?_)
    refine oS (ev_load_agg (cs := [x1, x2, x3, x4, x5]) rfl rfl (Rdb.ofB (n := 0) .here rfl) rfl) rfl ?_
    repeat (first|refine zJ rfl rfl ?_|refine jr rfl ?_|refine jn ?_|refine zM rfl rfl ?_|(refine zC rfl rfl ?_ rfl ?_;omega)|(refine zD rfl rfl ?_ rfl ?_;omega)|(refine zP rfl ?_ rfl ?_;omega)|refine zG rfl rfl rfl rfl ?_|(refine jdq rfl rfl ?_ ?_ ?_;kernel_rfl;kernel_rfl)|refine zB rfl rfl rfl (by repeat constructor) rfl ?_|refine zH .here rfl rfl rfl rfl ?_|refine zH (.there .here) rfl rfl rfl rfl ?_|refine zH (.there (.there .here)) rfl rfl rfl rfl ?_)
    refine oA (vs := [.int .i64 from_, x1, x2, x3, x4, x5]) (K := fun v' => blk bp 32 [x1, x2, x3, x4, x5] :: own v' 35 6 (m + j + 1) (os ++ puts from_ (css.take j) ++ [.int .i64 from_, x1, x2, x3, x4, x5]) :: X) (fun _ => rfl) rfl .agg rfl elSent (ones_cons rfl hones) (by omega) (fun _ => .there .here) rfl (fun _ => rfl) fun u w => ?_
    repeat (first|refine zJ rfl rfl ?_|refine jr rfl ?_|refine jn ?_|refine zM rfl rfl ?_|(refine zC rfl rfl ?_ rfl ?_;omega)|(refine zD rfl rfl ?_ rfl ?_;omega)|(refine zP rfl ?_ rfl ?_;omega)|refine zG rfl rfl rfl rfl ?_|(refine jdq rfl rfl ?_ ?_ ?_;kernel_rfl;kernel_rfl)|refine zB rfl rfl rfl (by repeat constructor) rfl ?_|refine zH .here rfl rfl rfl rfl ?_|refine zH (.there .here) rfl rfl rfl rfl ?_|refine zH (.there (.there .here)) rfl rfl rfl rfl ?_)
    refine J_again2 (j + 1) u hlt (by omega) ⟨⟨rfl, rfl, rfl, rfl, rfl, rfl, trivial⟩, fun w s => ?_⟩
    rw [puts_snoc hr, ← List.append_assoc]
    exact s.drop
  · obtain rfl : j = n := by omega
    rw [List.take_of_length_le (by omega)]
    repeat (first|refine zJ rfl rfl ?_|refine jr rfl ?_|refine jn ?_|refine zM rfl rfl ?_|(refine zC rfl rfl ?_ rfl ?_;omega)|(refine zD rfl rfl ?_ rfl ?_;omega)|(refine zP rfl ?_ rfl ?_;omega)|refine zG rfl rfl rfl rfl ?_|(refine jdq rfl rfl ?_ ?_ ?_;kernel_rfl;kernel_rfl)|refine zB rfl rfl rfl (by repeat constructor) rfl ?_|refine zH .here rfl rfl rfl rfl ?_|refine zH (.there .here) rfl rfl rfl rfl ?_|refine zH (.there (.there .here)) rfl rfl rfl rfl ?_)
    refine J_persist fun hh hA hd => ?_
    exact J_ret2 rfl rfl rfl [] rfl (PH.le_l _ _) ⟨u, rfl, own_slice hA hd, rfl⟩
theorem SliceV.fst {F : PH} {a : Option Addr} {n c i size : Nat} {os : List Value} (h : SliceV F size (.slice a n c) n os) (hi : i ≤ n) : SliceV F size (.slice a i c) i (os.take (i * size)) := by
  obtain ⟨hl, a', c', e, hc, h0⟩ := h
  cases e
  refine ⟨?_, a, c, rfl, by omega, fun h => ?_⟩
  · rw [List.length_take, hl]
    exact Nat.min_eq_left (Nat.mul_le_mul_right _ hi)
  · obtain ⟨b, off, rfl, hcc⟩ := h0 (by omega)
    refine ⟨b, off, rfl, ?_⟩
    have e := List.take_append_drop (i * size) os
    rw [← e] at hcc
    exact hcc.left
theorem SliceV.at6 {F : PH} {a : Option Addr} {n c i : Nat} {os : List Value} (h : SliceV F 6 (.slice a n c) n os) (hi : i < n) : ∃ b off, a = some ⟨b, off, none⟩ ∧ Cells F b (off + i * 6) ((os.drop (i * 6)).take 6) ∧ ((os.drop (i * 6)).take 6).length = 6 := by
  obtain ⟨hl, a', c', e, hc, h0⟩ := h
  cases e
  obtain ⟨b, off, rfl, hcc⟩ := h0 (by omega)
  refine ⟨b, off, rfl, slice_at hl hcc hi, ?_⟩
  rw [List.length_take, List.length_drop]
  omega
set_option maxHeartbeats 4000000 in
theorem reftake_no (m : Nat) (i : Int) (v : Value) (os : List Value) (F : PH) (hv : SliceV F 6 v m os) (hi : i < 0 ∨ (m : Int) ≤ i) : Spec Try.prog 28 [v, .int .i64 i] F [] fun u F' H' => u = .tuple #[v, .agg zSent.toArray, .bool false] ∧ H' = [] := by
  obtain ⟨hom, av, kv, rfl, _⟩ := id hv
  refine Spec.of2 Try.func28 rfl rfl fun X w0 => ?_
  repeat (first|refine zJ rfl rfl ?_|refine jr rfl ?_|refine jn ?_|refine zM rfl rfl ?_|(refine zC rfl rfl ?_ rfl ?_;omega)|(refine zD rfl rfl ?_ rfl ?_;omega)|(refine zP rfl ?_ rfl ?_;omega)|refine zG rfl rfl rfl rfl ?_|(refine jdq rfl rfl ?_ ?_ ?_;kernel_rfl;kernel_rfl)|refine zB rfl rfl rfl (by repeat constructor) rfl ?_|refine zH .here rfl rfl rfl rfl ?_|refine zH (.there .here) rfl rfl rfl rfl ?_|refine zH (.there (.there .here)) rfl rfl rfl rfl ?_)
  refine oE (ev_alloc rfl) rfl ?_
  rintro _ _ _ _ ⟨rfl, br, rfl, rfl⟩
  have h0 : i < 0 ∨ (0 ≤ i ∧ (m : Int) ≤ i) := by omega
  rcases h0 with h0 | ⟨h0, h2⟩
  · repeat (first|refine zJ rfl rfl ?_|refine jr rfl ?_|refine jn ?_|refine zM rfl rfl ?_|(refine zC rfl rfl ?_ rfl ?_;omega)|(refine zD rfl rfl ?_ rfl ?_;omega)|(refine zP rfl ?_ rfl ?_;omega)|refine zG rfl rfl rfl rfl ?_|(refine jdq rfl rfl ?_ ?_ ?_;kernel_rfl;kernel_rfl)|refine zB rfl rfl rfl (by repeat constructor) rfl ?_|refine zH .here rfl rfl rfl rfl ?_|refine zH (.there .here) rfl rfl rfl rfl ?_|refine zH (.there (.there .here)) rfl rfl rfl rfl ?_)
    refine oN (ev_store (b := br) rfl rfl .agg rfl rfl (lay_all (zs := zSent) rfl) ones_zSent .here) rfl ?_
    rintro _ _ _ _ ⟨rfl, _, rfl⟩
    repeat (first|refine zJ rfl rfl ?_|refine jr rfl ?_|refine jn ?_|refine zM rfl rfl ?_|(refine zC rfl rfl ?_ rfl ?_;omega)|(refine zD rfl rfl ?_ rfl ?_;omega)|(refine zP rfl ?_ rfl ?_;omega)|refine zG rfl rfl rfl rfl ?_|(refine jdq rfl rfl ?_ ?_ ?_;kernel_rfl;kernel_rfl)|refine zB rfl rfl rfl (by repeat constructor) rfl ?_|refine zH .here rfl rfl rfl rfl ?_|refine zH (.there .here) rfl rfl rfl rfl ?_|refine zH (.there (.there .here)) rfl rfl rfl rfl ?_)
    exact J_retv (vs := [.slice av m kv, .agg zSent.toArray, .bool false]) rfl (.tmp rfl (.agg rfl rfl (Rdb.ofB (n := 0) .here rfl) rfl (.tmp rfl .nil))) [] (fun w s => s.drop) (PH.ler _) ⟨rfl, rfl⟩
  · repeat (first|refine zJ rfl rfl ?_|refine jr rfl ?_|refine jn ?_|refine zM rfl rfl ?_|(refine zC rfl rfl ?_ rfl ?_;omega)|(refine zD rfl rfl ?_ rfl ?_;omega)|(refine zP rfl ?_ rfl ?_;omega)|refine zG rfl rfl rfl rfl ?_|(refine jdq rfl rfl ?_ ?_ ?_;kernel_rfl;kernel_rfl)|refine zB rfl rfl rfl (by repeat constructor) rfl ?_|refine zH .here rfl rfl rfl rfl ?_|refine zH (.there .here) rfl rfl rfl rfl ?_|refine zH (.there (.there .here)) rfl rfl rfl rfl ?_)
    refine oN (ev_store (b := br) rfl rfl .agg rfl rfl (lay_all (zs := zSent) rfl) ones_zSent .here) rfl ?_
    rintro _ _ _ _ ⟨rfl, _, rfl⟩
    repeat (first|refine zJ rfl rfl ?_|refine jr rfl ?_|refine jn ?_|refine zM rfl rfl ?_|(refine zC rfl rfl ?_ rfl ?_;omega)|(refine zD rfl rfl ?_ rfl ?_;omega)|(refine zP rfl ?_ rfl ?_;omega)|refine zG rfl rfl rfl rfl ?_|(refine jdq rfl rfl ?_ ?_ ?_;kernel_rfl;kernel_rfl)|refine zB rfl rfl rfl (by repeat constructor) rfl ?_|refine zH .here rfl rfl rfl rfl ?_|refine zH (.there .here) rfl rfl rfl rfl ?_|refine zH (.there (.there .here)) rfl rfl rfl rfl ?_)
    exact J_retv (vs := [.slice av m kv, .agg zSent.toArray, .bool false]) rfl (.tmp rfl (.agg rfl rfl (Rdb.ofB (n := 0) .here rfl) rfl (.tmp rfl .nil))) [] (fun w s => s.drop) (PH.ler _) ⟨rfl, rfl⟩
set_option maxHeartbeats 4000000 in
theorem reftake_yes (m i : Nat) (v : Value) (os row : List Value) (F : PH) (hv : SliceV F 6 v m os) (ho : Ones os) (hi : i < m) (hm : m ≤ 16384) (hrow : (os.drop (i * 6)).take 6 = row) : Spec Try.prog 28 [v, .int .i64 i] F [] fun u F' H' => ∃ v', u = .tuple #[v', .agg row.toArray, .bool true] ∧ SliceV F' 6 v' (m - 1) (os.take (i * 6) ++ os.drop ((i + 1) * 6)) ∧ H' = [] := by
  obtain ⟨hom, av, kv, rfl, hkv, _⟩ := id hv
  obtain ⟨bv, ov, rfl, hcc, h6⟩ := hv.at6 hi
  rw [hrow] at hcc h6
  have hro : Ones row := by rw [← hrow]; exact fun u hu => ho u (List.mem_of_mem_drop (List.mem_of_mem_take hu))
  refine Spec.of2 Try.func28 rfl rfl fun X w0 => ?_
  have hpre := hv.fst (i := i) (by omega)
  have hsuf := SliceV.cut hv (lo := i + 1) (hi := m) (m := kv) (by omega) (by omega) (by omega)
  rw [List.take_of_length_le (by rw [List.length_drop, hom]; omega)] at hsuf
  have hop : Ones (os.take (i * 6)) := fun u hu => ho u (List.mem_of_mem_take hu)
  have hos : Ones (os.drop ((i + 1) * 6)) := fun u hu => ho u (List.mem_of_mem_drop hu)
  repeat (first|refine zJ rfl rfl ?_|refine jr rfl ?_|refine jn ?_|refine zM rfl rfl ?_|(refine zC rfl rfl ?_ rfl ?_;omega)|(refine zD rfl rfl ?_ rfl ?_;omega)|(refine zP rfl ?_ rfl ?_;omega)|refine zG rfl rfl rfl rfl ?_|(refine jdq rfl rfl ?_ ?_ ?_;kernel_rfl;kernel_rfl)|refine zB rfl rfl rfl (by repeat constructor) rfl ?_|refine zH .here rfl rfl rfl rfl ?_|refine zH (.there .here) rfl rfl rfl rfl ?_|refine zH (.there (.there .here)) rfl rfl rfl rfl ?_)
  refine oE (ev_alloc rfl) rfl ?_
  rintro _ _ _ _ ⟨rfl, br, rfl, rfl⟩
  repeat (first|refine zJ rfl rfl ?_|refine jr rfl ?_|refine jn ?_|refine zM rfl rfl ?_|(refine zC rfl rfl ?_ rfl ?_;omega)|(refine zD rfl rfl ?_ rfl ?_;omega)|(refine zP rfl ?_ rfl ?_;omega)|refine zG rfl rfl rfl rfl ?_|(refine jdq rfl rfl ?_ ?_ ?_;kernel_rfl;kernel_rfl)|refine zB rfl rfl rfl (by repeat constructor) rfl ?_|refine zH .here rfl rfl rfl rfl ?_|refine zH (.there .here) rfl rfl rfl rfl ?_|refine zH (.there (.there .here)) rfl rfl rfl rfl ?_)
  refine ja F [] ?_ (fun w t => t.bare) ?_; kernel_rfl
  refine aT 1 rfl (ev_qe rfl) rfl rfl ?_ ?_ ?_ ?_; kernel_rfl; kernel_rfl; kernel_rfl
  refine aT 2 rfl (ev_qe rfl) rfl rfl ?_ ?_ ?_ ?_; kernel_rfl; kernel_rfl; kernel_rfl
  refine aT 3 rfl (ev_slice_hi (h := i) rfl rfl rfl (by omega)) rfl rfl ?_ ?_ ?_ ?_; kernel_rfl; kernel_rfl; kernel_rfl
  refine aT 5 rfl (ev_qe rfl) rfl rfl ?_ ?_ ?_ ?_; kernel_rfl; kernel_rfl; kernel_rfl
  refine aT 6 rfl (ev_qe rfl) rfl rfl ?_ ?_ ?_ ?_; kernel_rfl; kernel_rfl; kernel_rfl
  refine aT 7 rfl (ev_add (m := (i : Int)) (n := 1) rfl rfl (by dsimp only [InK]; omega)) rfl rfl ?_ ?_ ?_ ?_; kernel_rfl; kernel_rfl; kernel_rfl
  refine aT 8 rfl (ev_slice_lo (lo := i + 1) rfl rfl rfl (by omega)) rfl rfl ?_ ?_ ?_ ?_; kernel_rfl; kernel_rfl; kernel_rfl
  refine aT 10 rfl (ev_qe rfl) rfl rfl ?_ ?_ ?_ ?_; kernel_rfl; kernel_rfl; kernel_rfl
  refine aT 11 rfl (ev_qe rfl) rfl rfl ?_ ?_ ?_ ?_; kernel_rfl; kernel_rfl; kernel_rfl
  refine aT 12 rfl (ev_indexAddr rfl rfl rfl hi) rfl rfl ?_ ?_ ?_ ?_; kernel_rfl; kernel_rfl; kernel_rfl
  refine aT 13 rfl (ev_load_agg (cs := row) rfl rfl (Rdb.ofF hcc) h6) rfl rfl ?_ ?_ ?_ ?_; kernel_rfl; kernel_rfl; kernel_rfl
  refine aB (i := 0) (by kernel_rfl) (aE rfl (ev_mt elSent) rfl rfl (fun _ _ _ hF hq w s => s.bare.mono hF) ?_)
  rintro u0 _ _ _ ⟨rfl, ⟨b0, rfl⟩, rfl⟩
  refine aB (i := 4) (by kernel_rfl) (aE rfl (ev_append_s (n := 0) (m := i) (xs := []) (news := os.take (i * 6)) (K := fun v' => own v' 35 6 i (os.take (i * 6)) :: blk br 35 zSent :: X) rfl rfl elSent hpre.rds hop (by omega) (fun v' => by rw [Nat.zero_add, List.nil_append]; exact .here)) rfl rfl (fun _ _ _ hF hq w s => s.bare.mono hF) ?_)
  rintro u1 _ _ _ ⟨rfl, _, rfl⟩
  refine aOwn .here fun a1 k1 hu1 _ _ _ => ?_
  subst hu1
  refine aB (i := 9) (by kernel_rfl) (aE rfl (ev_append_s (n := i) (m := m - (i + 1)) (xs := os.take (i * 6)) (news := os.drop ((i + 1) * 6)) (K := fun v' => own v' 35 6 (m - 1) (os.take (i * 6) ++ os.drop ((i + 1) * 6)) :: blk br 35 zSent :: X) rfl rfl elSent hsuf.rds hos (by omega) (fun v' => by rw [show i + (m - (i + 1)) = m - 1 from by omega]; exact .here)) rfl rfl (fun _ _ _ hF hq w s => s.bare.mono hF) ?_)
  rintro u2 _ _ _ ⟨rfl, _, rfl⟩
  refine aT 14 rfl (ev_qe rfl) rfl rfl ?_ ?_ ?_ ?_; kernel_rfl; kernel_rfl; kernel_rfl
  refine aB (i := 15) (by kernel_rfl) (aN rfl (ev_store (b := br) rfl rfl .agg rfl h6 (lay_all (zs := zSent) h6) hro (.there .here)) rfl (fun _ _ _ hF hq w s => s.bare.mono hF) ?_)
  rintro _ _ _ _ ⟨rfl, _, rfl⟩
  refine aT 16 rfl (ev_qe rfl) rfl rfl ?_ ?_ ?_ ?_; kernel_rfl; kernel_rfl; kernel_rfl
  refine aD (by kernel_rfl) ?_
  repeat (first|refine zJ rfl rfl ?_|refine jr rfl ?_|refine jn ?_|refine zM rfl rfl ?_|(refine zC rfl rfl ?_ rfl ?_;omega)|(refine zD rfl rfl ?_ rfl ?_;omega)|(refine zP rfl ?_ rfl ?_;omega)|refine zG rfl rfl rfl rfl ?_|(refine jdq rfl rfl ?_ ?_ ?_;kernel_rfl;kernel_rfl)|refine zB rfl rfl rfl (by repeat constructor) rfl ?_|refine zH .here rfl rfl rfl rfl ?_|refine zH (.there .here) rfl rfl rfl rfl ?_|refine zH (.there (.there .here)) rfl rfl rfl rfl ?_)
  refine J_persist fun hh hA hd => ?_
  exact J_retv (vs := [u2, .agg row.toArray, .bool true]) rfl (.tmp rfl (.agg rfl rfl (Rdb.ofB (n := 0) .here (by rw [List.drop_zero, List.take_length])) h6 (.tmp rfl .nil))) [] (fun w s => s.drop) (PH.le_l _ _) ⟨u2, rfl, own_slice hA hd, rfl⟩
theorem put_nil (n : Int) (v : Value) (F : PH) : Pure Try.prog 10 [.pointer none, .int .i64 n, v] F (.int .i64 0) := by
  refine Spec.of3 Try.func10 rfl rfl fun X w0 => ?_
  repeat (first|refine zJ rfl rfl ?_|refine jr rfl ?_|refine jn ?_|refine zM rfl rfl ?_|(refine zC rfl rfl ?_ rfl ?_;omega)|(refine zD rfl rfl ?_ rfl ?_;omega)|(refine zP rfl ?_ rfl ?_;omega)|refine zG rfl rfl rfl rfl ?_|(refine jdq rfl rfl ?_ ?_ ?_;kernel_rfl;kernel_rfl)|refine zB rfl rfl rfl (by repeat constructor) rfl ?_|refine zH .here rfl rfl rfl rfl ?_|refine zH (.there .here) rfl rfl rfl rfl ?_|refine zH (.there (.there .here)) rfl rfl rfl rfl ?_)
  exact J_ret1 rfl rfl [] rfl (PH.ler _) ⟨rfl, rfl⟩
theorem pick_nil (F : PH) : Pure Try.prog 31 [.pointer none, .nilFunc] F (.slice none 0 0) := by
  refine Spec.of2 Try.func31 rfl rfl fun X w0 => ?_
  repeat (first|refine zJ rfl rfl ?_|refine jr rfl ?_|refine jn ?_|refine zM rfl rfl ?_|(refine zC rfl rfl ?_ rfl ?_;omega)|(refine zD rfl rfl ?_ rfl ?_;omega)|(refine zP rfl ?_ rfl ?_;omega)|refine zG rfl rfl rfl rfl ?_|(refine jdq rfl rfl ?_ ?_ ?_;kernel_rfl;kernel_rfl)|refine zB rfl rfl rfl (by repeat constructor) rfl ?_|refine zH .here rfl rfl rfl rfl ?_|refine zH (.there .here) rfl rfl rfl rfl ?_|refine zH (.there (.there .here)) rfl rfl rfl rfl ?_)
  exact J_ret1 rfl rfl [] rfl (PH.ler _) ⟨rfl, rfl⟩
end Go.Proofs.Ytpcgolpbjbaekaa
