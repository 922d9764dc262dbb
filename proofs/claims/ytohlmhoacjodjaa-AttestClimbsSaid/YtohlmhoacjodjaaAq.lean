/-
  The document's root and path, by its book. Conditions are typed with each.
  The document's paths and climbs, by its book. Conditions are typed with each.
  The document's climbs, by its book. Conditions are typed with each.
-/
import Derived.Test.YtohlmhoacjodjaaAp
namespace Go.Proofs.Ytohlmhoacjodjaa
open Go.RowKit
set_option maxRecDepth 100000
set_option maxHeartbeats 16000000 in
theorem iroot_spec {C : Cry} {b : Nat} (hD : DocC C b) : ∀ (n : Nat) (l : List (List UInt8)) (s : C.σ) (v : Value) (F : PH), l.length ≤ n → RowV tyByt F v l → Small l → C.room s + 2 * l.length ≤ 80000 → Spec Try.prog 12 [.pointer (some ⟨b, 0, none⟩), v] F (C.A s) fun u _ H' => u = .agg (u8s (rootP C s l).1).toArray ∧ H' = C.A (rootP C s l).2 := by
  intro n
  induction n with
  | zero =>
    intro l s v F hn h hs hr
    have h0 : l.length = 0 := by omega
    obtain rfl := List.eq_nil_of_length_eq_zero h0
    obtain ⟨a, c, rfl, hc⟩ := h.form
    have h32 : (u8s (rootP C s []).1).length = 32 := by rw [u8s_len, rootP_len]
    refine Spec.of2 Try.func12 rfl rfl fun X w0 => ?_
    repeat (first|refine zJ rfl rfl ?_|refine jr rfl ?_|refine jn ?_|refine zM rfl rfl ?_|(refine zC rfl rfl ?_ rfl ?_;omega)|(refine zD rfl rfl ?_ rfl ?_;omega)|(refine zP rfl ?_ rfl ?_;omega)|refine zG rfl rfl rfl rfl ?_|(refine jdq rfl rfl ?_ ?_ ?_;kernel_rfl;kernel_rfl)|refine zB rfl rfl rfl (by repeat constructor) rfl ?_|refine zH .here rfl rfl rfl rfl ?_|refine zH (.there .here) rfl rfl rfl rfl ?_|refine zH (.there (.there .here)) rfl rfl rfl rfl ?_)
    refine oE (ev_alloc (E := 28) (cs := u8s zd32) (by kernel_rfl)) rfl ?_
    rintro _ _ _ _ ⟨rfl, b4, rfl, rfl⟩
    repeat (first|refine zJ rfl rfl ?_|refine jr rfl ?_|refine jn ?_|refine zM rfl rfl ?_|(refine zC rfl rfl ?_ rfl ?_;omega)|(refine zD rfl rfl ?_ rfl ?_;omega)|(refine zP rfl ?_ rfl ?_;omega)|refine zG rfl rfl rfl rfl ?_|(refine jdq rfl rfl ?_ ?_ ?_;kernel_rfl;kernel_rfl)|refine zB rfl rfl rfl (by repeat constructor) rfl ?_|refine zH .here rfl rfl rfl rfl ?_|refine zH (.there .here) rfl rfl rfl rfl ?_|refine zH (.there (.there .here)) rfl rfl rfl rfl ?_)
    refine oC (Hc := C.A s) (Hr := blk b4 28 (u8s zd32) :: X) (hD.sp s 107 [] _ F (by decide) (by omega) (by decide) (SliceV.nil F 1)) Try.call27 rfl rfl (fun w t => t.front (A := [_])) ?_
    rintro _ F1 _ hF1 ⟨rfl, rfl⟩
    refine oN (ev_store (b := b4) (vs := u8s (rootP C s []).1) rfl rfl .agg rfl h32 (lay_all (zs := u8s zd32) (by rw [h32]; rfl)) (u8s_ones _) (Upd.app _ .here)) rfl ?_
    rintro _ _ _ _ ⟨rfl, _, rfl⟩
    repeat (first|refine zJ rfl rfl ?_|refine jr rfl ?_|refine jn ?_|refine zM rfl rfl ?_|(refine zC rfl rfl ?_ rfl ?_;omega)|(refine zD rfl rfl ?_ rfl ?_;omega)|(refine zP rfl ?_ rfl ?_;omega)|refine zG rfl rfl rfl rfl ?_|(refine jdq rfl rfl ?_ ?_ ?_;kernel_rfl;kernel_rfl)|refine zB rfl rfl rfl (by repeat constructor) rfl ?_|refine zH .here rfl rfl rfl rfl ?_|refine zH (.there .here) rfl rfl rfl rfl ?_|refine zH (.there (.there .here)) rfl rfl rfl rfl ?_)
    exact J_retv (vs := [.agg (u8s (rootP C s []).1).toArray]) rfl (.agg rfl rfl (Rdb.ofB (n := 0) (Pick.app _ .here) (by rw [List.drop_zero, List.take_length])) h32 .nil) (C.A (rootP C s []).2) (fun w s => s.out1) hF1 ⟨rfl, rfl⟩
  | succ n ih =>
    intro l s v F hn h hs hr
    by_cases h0 : l.length = 0
    · obtain rfl := List.eq_nil_of_length_eq_zero h0
      exact ih [] s v F (Nat.zero_le _) h hs hr
    by_cases h1 : l.length = 1
    · obtain ⟨x, rfl⟩ := List.length_eq_one_iff.1 h1
      obtain ⟨a, c, rfl, hc⟩ := h.form
      have h32 : (u8s (rootP C s [x]).1).length = 32 := by rw [u8s_len, rootP_len]
      obtain ⟨b1, o1, cs, rfl, hcs, ⟨vx, rfl, hx⟩, _⟩ := h.at (i := 0) rfl
      refine Spec.of2 Try.func12 rfl rfl fun X w0 => ?_
      repeat (first|refine zJ rfl rfl ?_|refine jr rfl ?_|refine jn ?_|refine zM rfl rfl ?_|(refine zC rfl rfl ?_ rfl ?_;omega)|(refine zD rfl rfl ?_ rfl ?_;omega)|(refine zP rfl ?_ rfl ?_;omega)|refine zG rfl rfl rfl rfl ?_|(refine jdq rfl rfl ?_ ?_ ?_;kernel_rfl;kernel_rfl)|refine zB rfl rfl rfl (by repeat constructor) rfl ?_|refine zH .here rfl rfl rfl rfl ?_|refine zH (.there .here) rfl rfl rfl rfl ?_|refine zH (.there (.there .here)) rfl rfl rfl rfl ?_)
      refine oE (ev_alloc (E := 28) (cs := u8s zd32) (by kernel_rfl)) rfl ?_
      rintro _ _ _ _ ⟨rfl, b4, rfl, rfl⟩
      repeat (first|refine zJ rfl rfl ?_|refine jr rfl ?_|refine jn ?_|refine zM rfl rfl ?_|(refine zC rfl rfl ?_ rfl ?_;omega)|(refine zD rfl rfl ?_ rfl ?_;omega)|(refine zP rfl ?_ rfl ?_;omega)|refine zG rfl rfl rfl rfl ?_|(refine jdq rfl rfl ?_ ?_ ?_;kernel_rfl;kernel_rfl)|refine zB rfl rfl rfl (by repeat constructor) rfl ?_|refine zH .here rfl rfl rfl rfl ?_|refine zH (.there .here) rfl rfl rfl rfl ?_|refine zH (.there (.there .here)) rfl rfl rfl rfl ?_)
      refine oS (ev_indexAddr (i := 0) rfl rfl rfl (by simp)) rfl ?_
      refine oS (ev_load (v := vx) rfl rfl (Rdb.ofF hcs)) rfl ?_
      refine oC (Hc := C.A s) (Hr := blk b4 28 (u8s zd32) :: X) (hD.sp s 105 x vx F (by decide) (by omega) (hs x (by simp)) hx) Try.call27 rfl rfl (fun w t => t.front (A := [_])) ?_
      rintro _ F1 _ hF1 ⟨rfl, rfl⟩
      refine oN (ev_store (b := b4) (vs := u8s (rootP C s [x]).1) rfl rfl .agg rfl h32 (lay_all (zs := u8s zd32) (by rw [h32]; rfl)) (u8s_ones _) (Upd.app _ .here)) rfl ?_
      rintro _ _ _ _ ⟨rfl, _, rfl⟩
      repeat (first|refine zJ rfl rfl ?_|refine jr rfl ?_|refine jn ?_|refine zM rfl rfl ?_|(refine zC rfl rfl ?_ rfl ?_;omega)|(refine zD rfl rfl ?_ rfl ?_;omega)|(refine zP rfl ?_ rfl ?_;omega)|refine zG rfl rfl rfl rfl ?_|(refine jdq rfl rfl ?_ ?_ ?_;kernel_rfl;kernel_rfl)|refine zB rfl rfl rfl (by repeat constructor) rfl ?_|refine zH .here rfl rfl rfl rfl ?_|refine zH (.there .here) rfl rfl rfl rfl ?_|refine zH (.there (.there .here)) rfl rfl rfl rfl ?_)
      exact J_retv (vs := [.agg (u8s (rootP C s [x]).1).toArray]) rfl (.agg rfl rfl (Rdb.ofB (n := 0) (Pick.app _ .here) (by rw [List.drop_zero, List.take_length])) h32 .nil) (C.A (rootP C s [x]).2) (fun w s => s.out1) hF1 ⟨rfl, rfl⟩
    · have h2 : 2 ≤ l.length := by omega
      obtain ⟨hp, hl⟩ := halfP_lt h2
      obtain ⟨a, c, rfl, hc⟩ := h.form
      have h32 : (u8s (rootP C s l).1).length = 32 := by rw [u8s_len, rootP_len]
      have hpre := h.pre (halfP l.length) (by omega)
      have hsuf := h.suf (halfP l.length) (by omega) hc
      have e2 := rootP_2 C s l h2
      have hl1 : (l.take (halfP l.length)).length = halfP l.length := by rw [List.length_take]; omega
      have hl2 : (l.drop (halfP l.length)).length = l.length - halfP l.length := by rw [List.length_drop]
      have r1 := rootP_room C _ s (l.take (halfP l.length)) (Nat.le_refl _)
      have r2 := rootP_room C _ (rootP C s (l.take (halfP l.length))).2 (l.drop (halfP l.length)) (Nat.le_refl _)
      rw [hl1, if_neg (by omega)] at r1
      rw [hl2, if_neg (by omega)] at r2
      have n1 := rootP_len C s (l.take (halfP l.length))
      have n2 := rootP_len C (rootP C s (l.take (halfP l.length))).2 (l.drop (halfP l.length))
      have n18 : (u8s (rootP C s (l.take (halfP l.length))).1).length = 32 := by rw [u8s_len, n1]
      have hs1 : Small (l.take (halfP l.length)) := fun x hx => hs x (List.mem_of_mem_take hx)
      have hs2 : Small (l.drop (halfP l.length)) := fun x hx => hs x (List.mem_of_mem_drop hx)
      refine Spec.of2 Try.func12 rfl rfl fun X w0 => ?_
      repeat (first|refine zJ rfl rfl ?_|refine jr rfl ?_|refine jn ?_|refine zM rfl rfl ?_|(refine zC rfl rfl ?_ rfl ?_;omega)|(refine zD rfl rfl ?_ rfl ?_;omega)|(refine zP rfl ?_ rfl ?_;omega)|refine zG rfl rfl rfl rfl ?_|(refine jdq rfl rfl ?_ ?_ ?_;kernel_rfl;kernel_rfl)|refine zB rfl rfl rfl (by repeat constructor) rfl ?_|refine zH .here rfl rfl rfl rfl ?_|refine zH (.there .here) rfl rfl rfl rfl ?_|refine zH (.there (.there .here)) rfl rfl rfl rfl ?_)
      refine oE (ev_alloc (E := 28) (cs := u8s zd32) (by kernel_rfl)) rfl ?_
      rintro _ _ _ _ ⟨rfl, b4, rfl, rfl⟩
      repeat (first|refine zJ rfl rfl ?_|refine jr rfl ?_|refine jn ?_|refine zM rfl rfl ?_|(refine zC rfl rfl ?_ rfl ?_;omega)|(refine zD rfl rfl ?_ rfl ?_;omega)|(refine zP rfl ?_ rfl ?_;omega)|refine zG rfl rfl rfl rfl ?_|(refine jdq rfl rfl ?_ ?_ ?_;kernel_rfl;kernel_rfl)|refine zB rfl rfl rfl (by repeat constructor) rfl ?_|refine zH .here rfl rfl rfl rfl ?_|refine zH (.there .here) rfl rfl rfl rfl ?_|refine zH (.there (.there .here)) rfl rfl rfl rfl ?_)
      refine oP (left_spec l.length F h2 (by omega)) Try.call28 rfl rfl ?_
      repeat (first|refine zJ rfl rfl ?_|refine jr rfl ?_|refine jn ?_|refine zM rfl rfl ?_|(refine zC rfl rfl ?_ rfl ?_;omega)|(refine zD rfl rfl ?_ rfl ?_;omega)|(refine zP rfl ?_ rfl ?_;omega)|refine zG rfl rfl rfl rfl ?_|(refine jdq rfl rfl ?_ ?_ ?_;kernel_rfl;kernel_rfl)|refine zB rfl rfl rfl (by repeat constructor) rfl ?_|refine zH .here rfl rfl rfl rfl ?_|refine zH (.there .here) rfl rfl rfl rfl ?_|refine zH (.there (.there .here)) rfl rfl rfl rfl ?_)
      refine oS (ev_slice_hi (h := halfP l.length) rfl rfl rfl (by omega)) rfl ?_
      refine oC (Hc := C.A s) (Hr := blk b4 28 (u8s zd32) :: X) (ih (l.take (halfP l.length)) s _ F (by omega) hpre hs1 (by omega)) Try.call12 rfl rfl (fun _ t => t.front (A := [_])) ?_
      rintro _ F1 _ hF1 ⟨rfl, rfl⟩
      refine oE (ev_alloc (E := 28) (cs := u8s zd32) (by kernel_rfl)) rfl ?_
      rintro _ _ _ _ ⟨rfl, b6, rfl, rfl⟩
      refine oN (ev_store (b := b6) (vs := u8s (rootP C s (l.take (halfP l.length))).1) rfl rfl .agg rfl n18 (lay_all (zs := u8s zd32) (by rw [n18]; rfl)) (u8s_ones _) .here) rfl ?_
      rintro _ _ _ _ ⟨rfl, _, rfl⟩
      refine oPersist fun hh hA hd => ?_
      have hc6 := blk_cells hA hd
      have hF2 := PH.le_l F1 hh
      generalize F1.un hh = F2 at *
      repeat (first|refine zJ rfl rfl ?_|refine jr rfl ?_|refine jn ?_|refine zM rfl rfl ?_|(refine zC rfl rfl ?_ rfl ?_;omega)|(refine zD rfl rfl ?_ rfl ?_;omega)|(refine zP rfl ?_ rfl ?_;omega)|refine zG rfl rfl rfl rfl ?_|(refine jdq rfl rfl ?_ ?_ ?_;kernel_rfl;kernel_rfl)|refine zB rfl rfl rfl (by repeat constructor) rfl ?_|refine zH .here rfl rfl rfl rfl ?_|refine zH (.there .here) rfl rfl rfl rfl ?_|refine zH (.there (.there .here)) rfl rfl rfl rfl ?_)
      refine ja F2 [] ?_ (fun w t => t.bare) ?_; kernel_rfl
      refine aT 0 rfl (ev_qe rfl) rfl rfl ?_ ?_ ?_ ?_; kernel_rfl; kernel_rfl; kernel_rfl
      refine aT 1 rfl (ev_load_agg (cs := u8s (rootP C s (l.take (halfP l.length))).1) rfl rfl (Rdb.ofF hc6) n18) rfl rfl ?_ ?_ ?_ ?_; kernel_rfl; kernel_rfl; kernel_rfl
      refine aT 2 rfl (ev_qe rfl) rfl rfl ?_ ?_ ?_ ?_; kernel_rfl; kernel_rfl; kernel_rfl
      refine aT 3 rfl (ev_qe rfl) rfl rfl ?_ ?_ ?_ ?_; kernel_rfl; kernel_rfl; kernel_rfl
      refine aT 4 rfl (ev_qe rfl) rfl rfl ?_ ?_ ?_ ?_; kernel_rfl; kernel_rfl; kernel_rfl
      refine aT 5 rfl (ev_slice_lo (lo := halfP l.length) rfl rfl rfl (by omega)) rfl rfl ?_ ?_ ?_ ?_; kernel_rfl; kernel_rfl; kernel_rfl
      refine aB (i := 6) (by kernel_rfl) (aC (Hc := C.A (rootP C s (l.take (halfP l.length))).2) (Hr := blk b4 28 (u8s zd32) :: X) rfl (ih (l.drop (halfP l.length)) _ _ F2 (by omega) (hsuf.mono (hF1.trans hF2)) hs2 (by omega)) Try.call12 rfl rfl rfl (fun _ t => t) (fun _ _ _ hF hq w t => t.bare.mono hF) ?_)
      rintro _ F3 _ hF3 ⟨rfl, rfl⟩
      refine aB (i := 7) (by kernel_rfl) (aC (Hc := C.A (rootP C (rootP C s (l.take (halfP l.length))).2 (l.drop (halfP l.length))).2) (Hr := blk b4 28 (u8s zd32) :: X) rfl (ipair_spec hD _ (rootP C s (l.take (halfP l.length))).1 (rootP C (rootP C s (l.take (halfP l.length))).2 (l.drop (halfP l.length))).1 F3 (by omega) n1 n2) Try.call29 rfl rfl rfl (fun _ t => t) (fun _ _ _ hF hq w t => t.bare.mono (hF3.trans hF)) ?_)
      rintro _ F4 _ hF4 ⟨rfl, rfl⟩
      rw [← e2]
      refine aB (i := 8) (by kernel_rfl) (aN rfl (ev_store (b := b4) (vs := u8s (rootP C s l).1) rfl rfl .agg rfl h32 (lay_all (zs := u8s zd32) (by rw [h32]; rfl)) (u8s_ones _) (Upd.app _ .here)) rfl (fun _ _ _ hF hq w t => by obtain ⟨rfl, _, rfl⟩ := hq; exact t.bare.mono (hF3.trans hF4)) ?_)
      rintro _ _ _ _ ⟨rfl, _, rfl⟩
      refine aD (by kernel_rfl) ?_
      repeat (first|refine zJ rfl rfl ?_|refine jr rfl ?_|refine jn ?_|refine zM rfl rfl ?_|(refine zC rfl rfl ?_ rfl ?_;omega)|(refine zD rfl rfl ?_ rfl ?_;omega)|(refine zP rfl ?_ rfl ?_;omega)|refine zG rfl rfl rfl rfl ?_|(refine jdq rfl rfl ?_ ?_ ?_;kernel_rfl;kernel_rfl)|refine zB rfl rfl rfl (by repeat constructor) rfl ?_|refine zH .here rfl rfl rfl rfl ?_|refine zH (.there .here) rfl rfl rfl rfl ?_|refine zH (.there (.there .here)) rfl rfl rfl rfl ?_)
      exact J_retv (vs := [.agg (u8s (rootP C s l).1).toArray]) rfl (.agg rfl rfl (Rdb.ofB (n := 0) (Pick.app _ .here) (by rw [List.drop_zero, List.take_length])) h32 .nil) (C.A (rootP C s l).2) (fun w s => s.out1) (hF1.trans (hF2.trans (hF3.trans hF4))) ⟨rfl, rfl⟩
end Go.Proofs.Ytohlmhoacjodjaa
namespace Go.Proofs.Ytohlmhoacjodjaa
open Go.RowKit
set_option maxRecDepth 100000
def rpathF (C : Cry) : Nat → C.σ → List (List UInt8) → Nat → List (List UInt8) × C.σ
  | 0, s, _, _ => ([], s)
  | n + 1, s, l, i =>
    if l.length ≤ 1 then ([], s)
    else if i < halfP l.length then
      ((rpathF C n s (l.take (halfP l.length)) i).1 ++ [(rootP C (rpathF C n s (l.take (halfP l.length)) i).2 (l.drop (halfP l.length))).1], (rootP C (rpathF C n s (l.take (halfP l.length)) i).2 (l.drop (halfP l.length))).2)
    else
      ((rpathF C n s (l.drop (halfP l.length)) (i - halfP l.length)).1 ++ [(rootP C (rpathF C n s (l.drop (halfP l.length)) (i - halfP l.length)).2 (l.take (halfP l.length))).1], (rootP C (rpathF C n s (l.drop (halfP l.length)) (i - halfP l.length)).2 (l.take (halfP l.length))).2)
theorem rpath_1 (C : Cry) (n : Nat) (s : C.σ) (l : List (List UInt8)) (i : Nat) (h : l.length ≤ 1) : rpathF C n s l i = ([], s) := by
  cases n with
  | zero => rfl
  | succ n => unfold rpathF; rw [if_pos h]
theorem rpath_n (C : Cry) : ∀ (n : Nat) (s : C.σ) (l : List (List UInt8)) (i : Nat), l.length ≤ n → (rpathF C n s l i).1.length ≤ n ∧ C.room (rpathF C n s l i).2 ≤ C.room s + 2 * l.length
  | 0, s, l, i, h => ⟨Nat.le_refl _, by show C.room s ≤ _; omega⟩
  | n + 1, s, l, i, h => by
    by_cases h1 : l.length ≤ 1
    · rw [rpath_1 C _ s l i h1]
      exact ⟨Nat.zero_le _, by dsimp only; omega⟩
    · obtain ⟨hp, hl⟩ := halfP_lt (n := l.length) (by omega)
      have l1 : (l.take (halfP l.length)).length = halfP l.length := by rw [List.length_take]; omega
      have l2 : (l.drop (halfP l.length)).length = l.length - halfP l.length := by rw [List.length_drop]
      unfold rpathF
      rw [if_neg h1]
      by_cases hi : i < halfP l.length
      · rw [if_pos hi]
        obtain ⟨a1, a2⟩ := rpath_n C n s (l.take (halfP l.length)) i (by omega)
        have r := rootP_room C _ (rpathF C n s (l.take (halfP l.length)) i).2 (l.drop (halfP l.length)) (Nat.le_refl _)
        rw [l2, if_neg (by omega)] at r
        rw [l1] at a2
        refine ⟨by rw [List.length_append, List.length_singleton]; omega, by dsimp only; omega⟩
      · rw [if_neg hi]
        obtain ⟨a1, a2⟩ := rpath_n C n s (l.drop (halfP l.length)) (i - halfP l.length) (by omega)
        have r := rootP_room C _ (rpathF C n s (l.drop (halfP l.length)) (i - halfP l.length)).2 (l.take (halfP l.length)) (Nat.le_refl _)
        rw [l1, if_neg (by omega)] at r
        rw [l2] at a2
        refine ⟨by rw [List.length_append, List.length_singleton]; omega, by dsimp only; omega⟩
theorem rpath_knows {C : Cry} (L : Law C) : ∀ (n : Nat) (S : C.σ) (l : List (List UInt8)) (i : Nat), l.length ≤ n → Knows C S l → rpathF C n S l i = ((downP C S l i).1.reverse, S)
  | 0, S, l, i, h, _ => by rw [downP_1 C S l i (by omega)]; rfl
  | n + 1, S, l, i, h, hk => by
    by_cases h1 : l.length ≤ 1
    · rw [rpath_1 C _ S l i h1, downP_1 C S l i h1]; rfl
    · obtain ⟨hp, hl⟩ := halfP_lt (n := l.length) (by omega)
      obtain ⟨k1, k2, _⟩ := knows_split L (by omega) hk
      unfold rpathF
      rw [if_neg h1]
      by_cases hi : i < halfP l.length
      · rw [if_pos hi, rpath_knows L n S _ i (by rw [List.length_take]; omega) k1, down_kl L (by omega) hk hi, List.reverse_cons]
        exact Prod.ext rfl k2
      · rw [if_neg hi, rpath_knows L n S _ _ (by rw [List.length_drop]; omega) k2, down_kr L (by omega) hk hi, List.reverse_cons]
        exact Prod.ext rfl k1
set_option maxHeartbeats 16000000 in
theorem ipath_spec {C : Cry} {b : Nat} (hD : DocC C b) : ∀ (n : Nat) (l : List (List UInt8)) (s : C.σ) (i : Nat) (v : Value) (F : PH), n ≤ 40000 → l.length ≤ n → i < l.length → RowV tyByt F v l → Small l → C.room s + 2 * l.length ≤ 80000 → Spec Try.prog 15 [.pointer (some ⟨b, 0, none⟩), v, .int .i64 i] F (C.A s) fun u _ H' => H' = own u 28 32 (rpathF C n s l i).1.length (dgC (rpathF C n s l i).1) :: C.A (rpathF C n s l i).2 := by
  intro n
  induction n with
  | zero => intro l s i v F _ hn hi; exact absurd hi (by omega)
  | succ n ih =>
    intro l s i v F hn0 hn hi h hs hr
    obtain ⟨a, c, rfl, hc⟩ := h.form
    by_cases h1 : l.length ≤ 1
    · have h11 : l.length = 1 := by omega
      rw [rpath_1 C _ s l i h1]
      refine Spec.of3 Try.func15 rfl rfl fun X w0 => ?_
      repeat (first|refine zJ rfl rfl ?_|refine jr rfl ?_|refine jn ?_|refine zM rfl rfl ?_|(refine zC rfl rfl ?_ rfl ?_;omega)|(refine zD rfl rfl ?_ rfl ?_;omega)|(refine zP rfl ?_ rfl ?_;omega)|refine zG rfl rfl rfl rfl ?_|(refine jdq rfl rfl ?_ ?_ ?_;kernel_rfl;kernel_rfl)|refine zB rfl rfl rfl (by repeat constructor) rfl ?_|refine zH .here rfl rfl rfl rfl ?_|refine zH (.there .here) rfl rfl rfl rfl ?_|refine zH (.there (.there .here)) rfl rfl rfl rfl ?_)
      refine J_own_nil 28 32 ?_
      exact J_retv rfl (.tmp rfl .nil) (own (.slice none 0 0) 28 32 0 [] :: C.A s) (fun w s => s) (PH.ler _) rfl
    · have h2 : 2 ≤ l.length := by omega
      obtain ⟨hp, hl⟩ := halfP_lt h2
      have hpre := h.pre (halfP l.length) (by omega)
      have hsuf := h.suf (halfP l.length) (by omega) hc
      have l1 : (l.take (halfP l.length)).length = halfP l.length := by rw [List.length_take]; omega
      have l2 : (l.drop (halfP l.length)).length = l.length - halfP l.length := by rw [List.length_drop]
      have hs1 : Small (l.take (halfP l.length)) := fun x hx => hs x (List.mem_of_mem_take hx)
      have hs2 : Small (l.drop (halfP l.length)) := fun x hx => hs x (List.mem_of_mem_drop hx)
      refine Spec.of3 Try.func15 rfl rfl fun X w0 => ?_
      by_cases him : i < halfP l.length
      · obtain ⟨a1, a2⟩ := rpath_n C n s (l.take (halfP l.length)) i (by omega)
        rw [l1] at a2
        have hih := ih (l.take (halfP l.length)) s i _ F (by omega) (by omega) (by omega) hpre hs1 (by omega)
        rw [show rpathF C (n + 1) s l i = ((rpathF C n s (l.take (halfP l.length)) i).1 ++ [(rootP C (rpathF C n s (l.take (halfP l.length)) i).2 (l.drop (halfP l.length))).1], (rootP C (rpathF C n s (l.take (halfP l.length)) i).2 (l.drop (halfP l.length))).2) from by
          conv => lhs; unfold rpathF
          rw [if_neg h1, if_pos him]]
        generalize rpathF C n s (l.take (halfP l.length)) i = p at *
        have n1 := rootP_len C p.2 (l.drop (halfP l.length))
        have h32r : (u8s (rootP C p.2 (l.drop (halfP l.length))).1).length = 32 := by rw [u8s_len, n1]
        repeat (first|refine zJ rfl rfl ?_|refine jr rfl ?_|refine jn ?_|refine zM rfl rfl ?_|(refine zC rfl rfl ?_ rfl ?_;omega)|(refine zD rfl rfl ?_ rfl ?_;omega)|(refine zP rfl ?_ rfl ?_;omega)|refine zG rfl rfl rfl rfl ?_|(refine jdq rfl rfl ?_ ?_ ?_;kernel_rfl;kernel_rfl)|refine zB rfl rfl rfl (by repeat constructor) rfl ?_|refine zH .here rfl rfl rfl rfl ?_|refine zH (.there .here) rfl rfl rfl rfl ?_|refine zH (.there (.there .here)) rfl rfl rfl rfl ?_)
        refine oP (left_spec l.length F h2 (by omega)) Try.call28 rfl rfl ?_
        repeat (first|refine zJ rfl rfl ?_|refine jr rfl ?_|refine jn ?_|refine zM rfl rfl ?_|(refine zC rfl rfl ?_ rfl ?_;omega)|(refine zD rfl rfl ?_ rfl ?_;omega)|(refine zP rfl ?_ rfl ?_;omega)|refine zG rfl rfl rfl rfl ?_|(refine jdq rfl rfl ?_ ?_ ?_;kernel_rfl;kernel_rfl)|refine zB rfl rfl rfl (by repeat constructor) rfl ?_|refine zH .here rfl rfl rfl rfl ?_|refine zH (.there .here) rfl rfl rfl rfl ?_|refine zH (.there (.there .here)) rfl rfl rfl rfl ?_)
        refine ja F [] ?_ (fun w t => t.bare) ?_; kernel_rfl
        refine aT 0 rfl (ev_qe rfl) rfl rfl ?_ ?_ ?_ ?_; kernel_rfl; kernel_rfl; kernel_rfl
        refine aT 1 rfl (ev_qe rfl) rfl rfl ?_ ?_ ?_ ?_; kernel_rfl; kernel_rfl; kernel_rfl
        refine aT 2 rfl (ev_qe rfl) rfl rfl ?_ ?_ ?_ ?_; kernel_rfl; kernel_rfl; kernel_rfl
        refine aT 3 rfl (ev_slice_hi (h := halfP l.length) rfl rfl rfl (by omega)) rfl rfl ?_ ?_ ?_ ?_; kernel_rfl; kernel_rfl; kernel_rfl
        refine aT 4 rfl (ev_qe rfl) rfl rfl ?_ ?_ ?_ ?_; kernel_rfl; kernel_rfl; kernel_rfl
        refine aT 6 rfl (ev_qe rfl) rfl rfl ?_ ?_ ?_ ?_; kernel_rfl; kernel_rfl; kernel_rfl
        refine aT 7 rfl (ev_qe rfl) rfl rfl ?_ ?_ ?_ ?_; kernel_rfl; kernel_rfl; kernel_rfl
        refine aT 8 rfl (ev_qe rfl) rfl rfl ?_ ?_ ?_ ?_; kernel_rfl; kernel_rfl; kernel_rfl
        refine aT 9 rfl (ev_slice_lo (lo := halfP l.length) rfl rfl rfl (by omega)) rfl rfl ?_ ?_ ?_ ?_; kernel_rfl; kernel_rfl; kernel_rfl
        refine aB (i := 5) (by kernel_rfl) (aC (Hc := C.A s) (Hr := X) rfl hih Try.call15 rfl rfl rfl (fun _ t => t) (fun _ _ _ hF hq w t => t.bare.mono hF) ?_)
        rintro dv F1 _ hF1 rfl
        refine aB (i := 10) (by kernel_rfl) (aC (Hc := C.A p.2) (Hr := own dv 28 32 p.1.length (dgC p.1) :: X) rfl (iroot_spec hD _ (l.drop (halfP l.length)) p.2 _ F1 (Nat.le_refl _) (hsuf.mono hF1) hs2 (by omega)) Try.call12 rfl rfl rfl (fun _ t => t.front (A := [_])) (fun _ _ _ hF hq w t => t.bare.mono (hF1.trans hF)) ?_)
        rintro _ F2 _ hF2 ⟨rfl, rfl⟩
        refine aWeak (F' := F2) (H' := own dv 28 32 p.1.length (dgC p.1) :: (C.A (rootP C p.2 (l.drop (halfP l.length))).2 ++ X)) ?_ (fun w t => t.bare.mono (hF1.trans hF2)) (fun w t => t.bring)
        refine aB (i := 11) (by kernel_rfl) (aE rfl (ev_one rfl .agg h32r elD) rfl rfl (fun _ _ _ hF hq w t => t.bare.mono (hF1.trans (hF2.trans hF))) ?_)
        rintro _ _ _ _ ⟨rfl, bt, rfl, rfl⟩
        refine aB (i := 12) (by kernel_rfl) (aE rfl (ev_append (m := 1) (c := 1) (b := bt) (off := 0) (n := p.1.length) (xs := dgC p.1) (news := u8s (rootP C p.2 (l.drop (halfP l.length))).1) (K := fun v' => blk bt 28 (u8s (rootP C p.2 (l.drop (halfP l.length))).1) :: own v' 28 32 (p.1.length + 1) (dgC p.1 ++ u8s (rootP C p.2 (l.drop (halfP l.length))).1) :: (C.A (rootP C p.2 (l.drop (halfP l.length))).2 ++ X)) rfl rfl elD (Rdb.ofB (n := 0) .here (by rw [List.drop_zero, List.take_length])) (by rw [h32r]) (u8s_ones _) (by omega) (by unfold maxLen; omega) (fun v' => .there .here)) rfl rfl (fun _ _ _ hF hq w t => t.bare.mono (hF1.trans (hF2.trans hF))) ?_)
        rintro u _ _ _ ⟨rfl, _, rfl⟩
        refine aT 13 rfl (ev_qe rfl) rfl rfl ?_ ?_ ?_ ?_; kernel_rfl; kernel_rfl; kernel_rfl
        refine aD (by kernel_rfl) ?_
        repeat (first|refine zJ rfl rfl ?_|refine jr rfl ?_|refine jn ?_|refine zM rfl rfl ?_|(refine zC rfl rfl ?_ rfl ?_;omega)|(refine zD rfl rfl ?_ rfl ?_;omega)|(refine zP rfl ?_ rfl ?_;omega)|refine zG rfl rfl rfl rfl ?_|(refine jdq rfl rfl ?_ ?_ ?_;kernel_rfl;kernel_rfl)|refine zB rfl rfl rfl (by repeat constructor) rfl ?_|refine zH .here rfl rfl rfl rfl ?_|refine zH (.there .here) rfl rfl rfl rfl ?_|refine zH (.there (.there .here)) rfl rfl rfl rfl ?_)
        refine J_retv rfl (.tmp rfl .nil) _ (fun w t => ?_) (hF1.trans hF2) rfl
        rw [List.length_append, List.length_singleton, dgC_snoc]
        exact t.drop
      · obtain ⟨a1, a2⟩ := rpath_n C n s (l.drop (halfP l.length)) (i - halfP l.length) (by omega)
        rw [l2] at a2
        have hih := ih (l.drop (halfP l.length)) s (i - halfP l.length) _ F (by omega) (by omega) (by omega) hsuf hs2 (by omega)
        rw [show rpathF C (n + 1) s l i = ((rpathF C n s (l.drop (halfP l.length)) (i - halfP l.length)).1 ++ [(rootP C (rpathF C n s (l.drop (halfP l.length)) (i - halfP l.length)).2 (l.take (halfP l.length))).1], (rootP C (rpathF C n s (l.drop (halfP l.length)) (i - halfP l.length)).2 (l.take (halfP l.length))).2) from by
          conv => lhs; unfold rpathF
          rw [if_neg h1, if_neg him]]
        generalize rpathF C n s (l.drop (halfP l.length)) (i - halfP l.length) = p at *
        have n1 := rootP_len C p.2 (l.take (halfP l.length))
        have h32r : (u8s (rootP C p.2 (l.take (halfP l.length))).1).length = 32 := by rw [u8s_len, n1]
        repeat (first|refine zJ rfl rfl ?_|refine jr rfl ?_|refine jn ?_|refine zM rfl rfl ?_|(refine zC rfl rfl ?_ rfl ?_;omega)|(refine zD rfl rfl ?_ rfl ?_;omega)|(refine zP rfl ?_ rfl ?_;omega)|refine zG rfl rfl rfl rfl ?_|(refine jdq rfl rfl ?_ ?_ ?_;kernel_rfl;kernel_rfl)|refine zB rfl rfl rfl (by repeat constructor) rfl ?_|refine zH .here rfl rfl rfl rfl ?_|refine zH (.there .here) rfl rfl rfl rfl ?_|refine zH (.there (.there .here)) rfl rfl rfl rfl ?_)
        refine oP (left_spec l.length F h2 (by omega)) Try.call28 rfl rfl ?_
        repeat (first|refine zJ rfl rfl ?_|refine jr rfl ?_|refine jn ?_|refine zM rfl rfl ?_|(refine zC rfl rfl ?_ rfl ?_;omega)|(refine zD rfl rfl ?_ rfl ?_;omega)|(refine zP rfl ?_ rfl ?_;omega)|refine zG rfl rfl rfl rfl ?_|(refine jdq rfl rfl ?_ ?_ ?_;kernel_rfl;kernel_rfl)|refine zB rfl rfl rfl (by repeat constructor) rfl ?_|refine zH .here rfl rfl rfl rfl ?_|refine zH (.there .here) rfl rfl rfl rfl ?_|refine zH (.there (.there .here)) rfl rfl rfl rfl ?_)
        refine ja F [] ?_ (fun w t => t.bare) ?_; kernel_rfl
        refine aT 0 rfl (ev_qe rfl) rfl rfl ?_ ?_ ?_ ?_; kernel_rfl; kernel_rfl; kernel_rfl
        refine aT 1 rfl (ev_qe rfl) rfl rfl ?_ ?_ ?_ ?_; kernel_rfl; kernel_rfl; kernel_rfl
        refine aT 2 rfl (ev_qe rfl) rfl rfl ?_ ?_ ?_ ?_; kernel_rfl; kernel_rfl; kernel_rfl
        refine aT 3 rfl (ev_slice_lo (lo := halfP l.length) rfl rfl rfl (by omega)) rfl rfl ?_ ?_ ?_ ?_; kernel_rfl; kernel_rfl; kernel_rfl
        refine aT 4 rfl (ev_qe rfl) rfl rfl ?_ ?_ ?_ ?_; kernel_rfl; kernel_rfl; kernel_rfl
        refine aT 5 rfl (ev_qe rfl) rfl rfl ?_ ?_ ?_ ?_; kernel_rfl; kernel_rfl; kernel_rfl
        refine aT 6 rfl (ev_sub (m := (i : Int)) (n := (halfP l.length : Int)) rfl rfl (by dsimp only [InK]; omega)) rfl rfl ?_ ?_ ?_ ?_; kernel_rfl; kernel_rfl; kernel_rfl
        refine aT 8 rfl (ev_qe rfl) rfl rfl ?_ ?_ ?_ ?_; kernel_rfl; kernel_rfl; kernel_rfl
        refine aT 9 rfl (ev_qe rfl) rfl rfl ?_ ?_ ?_ ?_; kernel_rfl; kernel_rfl; kernel_rfl
        refine aT 10 rfl (ev_qe rfl) rfl rfl ?_ ?_ ?_ ?_; kernel_rfl; kernel_rfl; kernel_rfl
        refine aT 11 rfl (ev_slice_hi (h := halfP l.length) rfl rfl rfl (by omega)) rfl rfl ?_ ?_ ?_ ?_; kernel_rfl; kernel_rfl; kernel_rfl
        rw [show ((i - halfP l.length : Nat) : Int) = (i : Int) - (halfP l.length : Int) from by omega] at hih
        refine aB (i := 7) (by kernel_rfl) (aC (Hc := C.A s) (Hr := X) rfl hih Try.call15 rfl rfl rfl (fun _ t => t) (fun _ _ _ hF hq w t => t.bare.mono hF) ?_)
        rintro dv F1 _ hF1 rfl
        refine aB (i := 12) (by kernel_rfl) (aC (Hc := C.A p.2) (Hr := own dv 28 32 p.1.length (dgC p.1) :: X) rfl (iroot_spec hD _ (l.take (halfP l.length)) p.2 _ F1 (Nat.le_refl _) (hpre.mono hF1) hs1 (by omega)) Try.call12 rfl rfl rfl (fun _ t => t.front (A := [_])) (fun _ _ _ hF hq w t => t.bare.mono (hF1.trans hF)) ?_)
        rintro _ F2 _ hF2 ⟨rfl, rfl⟩
        refine aWeak (F' := F2) (H' := own dv 28 32 p.1.length (dgC p.1) :: (C.A (rootP C p.2 (l.take (halfP l.length))).2 ++ X)) ?_ (fun w t => t.bare.mono (hF1.trans hF2)) (fun w t => t.bring)
        refine aB (i := 13) (by kernel_rfl) (aE rfl (ev_one rfl .agg h32r elD) rfl rfl (fun _ _ _ hF hq w t => t.bare.mono (hF1.trans (hF2.trans hF))) ?_)
        rintro _ _ _ _ ⟨rfl, bt, rfl, rfl⟩
        refine aB (i := 14) (by kernel_rfl) (aE rfl (ev_append (m := 1) (c := 1) (b := bt) (off := 0) (n := p.1.length) (xs := dgC p.1) (news := u8s (rootP C p.2 (l.take (halfP l.length))).1) (K := fun v' => blk bt 28 (u8s (rootP C p.2 (l.take (halfP l.length))).1) :: own v' 28 32 (p.1.length + 1) (dgC p.1 ++ u8s (rootP C p.2 (l.take (halfP l.length))).1) :: (C.A (rootP C p.2 (l.take (halfP l.length))).2 ++ X)) rfl rfl elD (Rdb.ofB (n := 0) .here (by rw [List.drop_zero, List.take_length])) (by rw [h32r]) (u8s_ones _) (by omega) (by unfold maxLen; omega) (fun v' => .there .here)) rfl rfl (fun _ _ _ hF hq w t => t.bare.mono (hF1.trans (hF2.trans hF))) ?_)
        rintro u _ _ _ ⟨rfl, _, rfl⟩
        refine aT 15 rfl (ev_qe rfl) rfl rfl ?_ ?_ ?_ ?_; kernel_rfl; kernel_rfl; kernel_rfl
        refine aD (by kernel_rfl) ?_
        repeat (first|refine zJ rfl rfl ?_|refine jr rfl ?_|refine jn ?_|refine zM rfl rfl ?_|(refine zC rfl rfl ?_ rfl ?_;omega)|(refine zD rfl rfl ?_ rfl ?_;omega)|(refine zP rfl ?_ rfl ?_;omega)|refine zG rfl rfl rfl rfl ?_|(refine jdq rfl rfl ?_ ?_ ?_;kernel_rfl;kernel_rfl)|refine zB rfl rfl rfl (by repeat constructor) rfl ?_|refine zH .here rfl rfl rfl rfl ?_|refine zH (.there .here) rfl rfl rfl rfl ?_|refine zH (.there (.there .here)) rfl rfl rfl rfl ?_)
        refine J_retv rfl (.tmp rfl .nil) _ (fun w t => ?_) (hF1.trans hF2) rfl
        rw [List.length_append, List.length_singleton, dgC_snoc]
        exact t.drop
end Go.Proofs.Ytohlmhoacjodjaa
namespace Go.Proofs.Ytohlmhoacjodjaa
open Go.RowKit
set_option maxRecDepth 100000
theorem DgV.pre {F : PH} {a : Option Addr} {c n m : Nat} {rest : List (List UInt8)} {last : List UInt8} (hm : m = rest.length) (h : SliceV F 32 (.slice a n c) n (dgC (rest ++ [last]))) (hn : n = m + 1) (h32 : D32 rest) : SliceV F 32 (.slice a m c) m (dgC rest) := by
  obtain ⟨hl, a', c', e, hc, h0⟩ := h
  cases e
  subst hm
  refine ⟨dgC_len h32, a, c, rfl, by omega, fun _ => ?_⟩
  obtain ⟨b, off, rfl, hcc⟩ := h0 (by omega)
  rw [dgC_snoc] at hcc
  exact ⟨b, off, rfl, hcc.left⟩
def RClQ (C : Cry) (s : C.σ) (n i : Nat) (leaf : List UInt8) (path : List (List UInt8)) (u : Value) (H' : List Asrt) : Prop := ∃ (d : List UInt8) (s' : C.σ), d.length = 32 ∧ u = .tuple #[.agg (u8s d).toArray, .bool (decide ((turnsP n i).length = path.length))] ∧ H' = C.A s' ∧ C.room s' ≤ C.room s + path.length + 1 ∧ ((turnsP n i).length = path.length → climbP C s n i leaf path = (some d, s'))
theorem climb_room (C : Cry) (s : C.σ) (n i : Nat) (leaf : List UInt8) (path : List (List UInt8)) : C.room (climbP C s n i leaf path).2 ≤ C.room s + path.length + 1 := by
  unfold climbP
  split
  · have h1 := upF_room C (path.zip (turnsP n i).reverse) (C.dg s 105 leaf).2 (C.dg s 105 leaf).1
    have h2 := C.grow s 105 leaf
    have h3 : (path.zip (turnsP n i).reverse).length ≤ path.length := by rw [List.length_zip]; omega
    dsimp only
    omega
  · dsimp only; omega
theorem climb_1 (C : Cry) (s : C.σ) {n : Nat} (i : Nat) (leaf : List UInt8) (h : n ≤ 1) : climbP C s n i leaf [] = (some (C.dg s 105 leaf).1, (C.dg s 105 leaf).2) := by
  unfold climbP
  rw [if_pos (by rw [turnsP_1 i h]; rfl), turnsP_1 i h]
  rfl
set_option maxHeartbeats 16000000 in
theorem iclimb_spec {C : Cry} {b : Nat} (hD : DocC C b) (leaf : List UInt8) (hl : leaf.length ≤ 100000) : ∀ (m : Nat) (path : List (List UInt8)) (s : C.σ) (n i : Nat) (lv pv : Value) (F : PH), path.length = m → m ≤ 1000 → n ≤ 1048576 → i < n → C.room s + m ≤ 80000 → Byt F lv leaf → SliceV F 32 pv m (dgC path) → D32 path →
    Spec Try.prog 17 [.pointer (some ⟨b, 0, none⟩), .int .i64 n, .int .i64 i, lv, pv] F (C.A s) fun u _ H' => RClQ C s n i leaf path u H' := by
  intro m
  induction m with
  | zero =>
    intro path s n i lv pv F hm _ hn hi hr hlv hpv h32
    obtain rfl := List.eq_nil_of_length_eq_zero hm
    obtain ⟨_, ap, cp, rfl, hcp, _⟩ := id hpv
    obtain ⟨_, al, cl, rfl, _, _⟩ := id hlv
    have hd8 : (u8s (C.dg s 105 leaf).1).length = 32 := by rw [u8s_len, C.len32]
    refine Spec.of5 Try.func17 rfl rfl fun X w0 => ?_
    by_cases h1 : n = 1
    · repeat (first|refine zJ rfl rfl ?_|refine jr rfl ?_|refine jn ?_|refine zM rfl rfl ?_|(refine zC rfl rfl ?_ rfl ?_;omega)|(refine zD rfl rfl ?_ rfl ?_;omega)|(refine zP rfl ?_ rfl ?_;omega)|refine zG rfl rfl rfl rfl ?_|(refine jdq rfl rfl ?_ ?_ ?_;kernel_rfl;kernel_rfl)|refine zB rfl rfl rfl (by repeat constructor) rfl ?_|refine zH .here rfl rfl rfl rfl ?_|refine zH (.there .here) rfl rfl rfl rfl ?_|refine zH (.there (.there .here)) rfl rfl rfl rfl ?_)
      refine oE (ev_alloc (E := 28) (cs := u8s zd32) (by kernel_rfl)) rfl ?_
      rintro _ _ _ _ ⟨rfl, b10, rfl, rfl⟩
      repeat (first|refine zJ rfl rfl ?_|refine jr rfl ?_|refine jn ?_|refine zM rfl rfl ?_|(refine zC rfl rfl ?_ rfl ?_;omega)|(refine zD rfl rfl ?_ rfl ?_;omega)|(refine zP rfl ?_ rfl ?_;omega)|refine zG rfl rfl rfl rfl ?_|(refine jdq rfl rfl ?_ ?_ ?_;kernel_rfl;kernel_rfl)|refine zB rfl rfl rfl (by repeat constructor) rfl ?_|refine zH .here rfl rfl rfl rfl ?_|refine zH (.there .here) rfl rfl rfl rfl ?_|refine zH (.there (.there .here)) rfl rfl rfl rfl ?_)
      refine oC (Hc := C.A s) (Hr := blk b10 28 (u8s zd32) :: X) (hD.sp s 105 leaf _ F (by decide) (by omega) hl hlv) Try.call27 rfl rfl (fun w t => t.front (A := [_])) ?_
      rintro _ F1 _ hF1 ⟨rfl, rfl⟩
      repeat (first|refine zJ rfl rfl ?_|refine jr rfl ?_|refine jn ?_|refine zM rfl rfl ?_|(refine zC rfl rfl ?_ rfl ?_;omega)|(refine zD rfl rfl ?_ rfl ?_;omega)|(refine zP rfl ?_ rfl ?_;omega)|refine zG rfl rfl rfl rfl ?_|(refine jdq rfl rfl ?_ ?_ ?_;kernel_rfl;kernel_rfl)|refine zB rfl rfl rfl (by repeat constructor) rfl ?_|refine zH .here rfl rfl rfl rfl ?_|refine zH (.there .here) rfl rfl rfl rfl ?_|refine zH (.there (.there .here)) rfl rfl rfl rfl ?_)
      refine oN (ev_store (b := b10) rfl rfl .agg rfl hd8 (lay_all (zs := u8s zd32) (by rw [hd8]; rfl)) (u8s_ones _) (Upd.app _ .here)) rfl ?_
      rintro _ _ _ _ ⟨rfl, _, rfl⟩
      repeat (first|refine zJ rfl rfl ?_|refine jr rfl ?_|refine jn ?_|refine zM rfl rfl ?_|(refine zC rfl rfl ?_ rfl ?_;omega)|(refine zD rfl rfl ?_ rfl ?_;omega)|(refine zP rfl ?_ rfl ?_;omega)|refine zG rfl rfl rfl rfl ?_|(refine jdq rfl rfl ?_ ?_ ?_;kernel_rfl;kernel_rfl)|refine zB rfl rfl rfl (by repeat constructor) rfl ?_|refine zH .here rfl rfl rfl rfl ?_|refine zH (.there .here) rfl rfl rfl rfl ?_|refine zH (.there (.there .here)) rfl rfl rfl rfl ?_)
      refine J_retv (vs := [.agg (u8s (C.dg s 105 leaf).1).toArray, .bool true]) rfl (.agg rfl rfl (Rdb.ofB (n := 0) (Pick.app _ .here) (by rw [List.drop_zero, List.take_length])) hd8 (.tmp rfl .nil)) (C.A (C.dg s 105 leaf).2) (fun w s => s.out1) hF1 ⟨(C.dg s 105 leaf).1, (C.dg s 105 leaf).2, C.len32 _ _ _, ?_, rfl, ?_, fun _ => climb_1 C s i leaf (by omega)⟩
      · rw [turnsP_1 i (by omega)]; rfl
      · have := C.grow s 105 leaf; simp; omega
    · have ht : (turnsP n i).length ≠ ([] : List (List UInt8)).length := by
        by_cases hh : i < halfP n
        · rw [turnsP_l (by omega) hh]; simp
        · rw [turnsP_r (by omega) hh]; simp
      repeat (first|refine zJ rfl rfl ?_|refine jr rfl ?_|refine jn ?_|refine zM rfl rfl ?_|(refine zC rfl rfl ?_ rfl ?_;omega)|(refine zD rfl rfl ?_ rfl ?_;omega)|(refine zP rfl ?_ rfl ?_;omega)|refine zG rfl rfl rfl rfl ?_|(refine jdq rfl rfl ?_ ?_ ?_;kernel_rfl;kernel_rfl)|refine zB rfl rfl rfl (by repeat constructor) rfl ?_|refine zH .here rfl rfl rfl rfl ?_|refine zH (.there .here) rfl rfl rfl rfl ?_|refine zH (.there (.there .here)) rfl rfl rfl rfl ?_)
      refine oE (ev_alloc (E := 28) (cs := u8s zd32) (by kernel_rfl)) rfl ?_
      rintro _ _ _ _ ⟨rfl, b10, rfl, rfl⟩
      repeat (first|refine zJ rfl rfl ?_|refine jr rfl ?_|refine jn ?_|refine zM rfl rfl ?_|(refine zC rfl rfl ?_ rfl ?_;omega)|(refine zD rfl rfl ?_ rfl ?_;omega)|(refine zP rfl ?_ rfl ?_;omega)|refine zG rfl rfl rfl rfl ?_|(refine jdq rfl rfl ?_ ?_ ?_;kernel_rfl;kernel_rfl)|refine zB rfl rfl rfl (by repeat constructor) rfl ?_|refine zH .here rfl rfl rfl rfl ?_|refine zH (.there .here) rfl rfl rfl rfl ?_|refine zH (.there (.there .here)) rfl rfl rfl rfl ?_)
      refine oS dg_build rfl ?_
      refine oN (ev_store (b := b10) (vs := u8s zd32) rfl rfl .agg rfl rfl (lay_all (zs := u8s zd32) rfl) (u8s_ones _) .here) rfl ?_
      rintro _ _ _ _ ⟨rfl, _, rfl⟩
      repeat (first|refine zJ rfl rfl ?_|refine jr rfl ?_|refine jn ?_|refine zM rfl rfl ?_|(refine zC rfl rfl ?_ rfl ?_;omega)|(refine zD rfl rfl ?_ rfl ?_;omega)|(refine zP rfl ?_ rfl ?_;omega)|refine zG rfl rfl rfl rfl ?_|(refine jdq rfl rfl ?_ ?_ ?_;kernel_rfl;kernel_rfl)|refine zB rfl rfl rfl (by repeat constructor) rfl ?_|refine zH .here rfl rfl rfl rfl ?_|refine zH (.there .here) rfl rfl rfl rfl ?_|refine zH (.there (.there .here)) rfl rfl rfl rfl ?_)
      refine J_retv (vs := [.agg (u8s zd32).toArray, .bool false]) rfl (.agg rfl rfl (Rdb.ofB (n := 0) .here (by rw [List.drop_zero, List.take_length])) rfl (.tmp rfl .nil)) (C.A s) (fun w s => s.drop) (PH.ler _) ⟨zd32, s, rfl, ?_, rfl, by omega, fun h => absurd h ht⟩
      rw [decide_eq_false ht]
      rfl
  | succ m ih =>
    intro path s n i lv pv F hm hm0 hn hi hr hlv hpv h32
    have hne : path ≠ [] := by rintro rfl; cases hm
    obtain ⟨rest, last, rfl⟩ : ∃ rest last, path = rest ++ [last] := ⟨path.dropLast, path.getLast hne, (List.dropLast_concat_getLast hne).symm⟩
    rw [List.length_append, List.length_singleton] at hm
    have hmr : rest.length = m := by omega
    have h32r : D32 rest := fun d hd => h32 d (List.mem_append_left _ hd)
    have hlast : last.length = 32 := h32 last (by simp)
    have hla8 : (u8s last).length = 32 := by rw [u8s_len, hlast]
    obtain ⟨_, ap, cp, rfl, hcp, hp0⟩ := id hpv
    obtain ⟨bp, op, rfl, hcc⟩ := hp0 (by omega)
    have hcl : Cells F bp (op + m * 32) (u8s last) := by
      rw [dgC_snoc] at hcc
      have := hcc.right
      rw [dgC_len h32r, hmr] at this
      exact this
    have hpr := DgV.pre hmr.symm hpv rfl h32r
    obtain ⟨_, al, cl, rfl, _, _⟩ := id hlv
    have hd8 : (u8s (C.dg s 105 leaf).1).length = 32 := by rw [u8s_len, C.len32]
    refine Spec.of5 Try.func17 rfl rfl fun X w0 => ?_
    by_cases h1 : n = 1
    · have ht : (turnsP n i).length ≠ (rest ++ [last]).length := by rw [turnsP_1 i (by omega)]; simp
      repeat (first|refine zJ rfl rfl ?_|refine jr rfl ?_|refine jn ?_|refine zM rfl rfl ?_|(refine zC rfl rfl ?_ rfl ?_;omega)|(refine zD rfl rfl ?_ rfl ?_;omega)|(refine zP rfl ?_ rfl ?_;omega)|refine zG rfl rfl rfl rfl ?_|(refine jdq rfl rfl ?_ ?_ ?_;kernel_rfl;kernel_rfl)|refine zB rfl rfl rfl (by repeat constructor) rfl ?_|refine zH .here rfl rfl rfl rfl ?_|refine zH (.there .here) rfl rfl rfl rfl ?_|refine zH (.there (.there .here)) rfl rfl rfl rfl ?_)
      refine oE (ev_alloc (E := 28) (cs := u8s zd32) (by kernel_rfl)) rfl ?_
      rintro _ _ _ _ ⟨rfl, b10, rfl, rfl⟩
      repeat (first|refine zJ rfl rfl ?_|refine jr rfl ?_|refine jn ?_|refine zM rfl rfl ?_|(refine zC rfl rfl ?_ rfl ?_;omega)|(refine zD rfl rfl ?_ rfl ?_;omega)|(refine zP rfl ?_ rfl ?_;omega)|refine zG rfl rfl rfl rfl ?_|(refine jdq rfl rfl ?_ ?_ ?_;kernel_rfl;kernel_rfl)|refine zB rfl rfl rfl (by repeat constructor) rfl ?_|refine zH .here rfl rfl rfl rfl ?_|refine zH (.there .here) rfl rfl rfl rfl ?_|refine zH (.there (.there .here)) rfl rfl rfl rfl ?_)
      refine oC (Hc := C.A s) (Hr := blk b10 28 (u8s zd32) :: X) (hD.sp s 105 leaf _ F (by decide) (by omega) hl hlv) Try.call27 rfl rfl (fun w t => t.front (A := [_])) ?_
      rintro _ F1 _ hF1 ⟨rfl, rfl⟩
      repeat (first|refine zJ rfl rfl ?_|refine jr rfl ?_|refine jn ?_|refine zM rfl rfl ?_|(refine zC rfl rfl ?_ rfl ?_;omega)|(refine zD rfl rfl ?_ rfl ?_;omega)|(refine zP rfl ?_ rfl ?_;omega)|refine zG rfl rfl rfl rfl ?_|(refine jdq rfl rfl ?_ ?_ ?_;kernel_rfl;kernel_rfl)|refine zB rfl rfl rfl (by repeat constructor) rfl ?_|refine zH .here rfl rfl rfl rfl ?_|refine zH (.there .here) rfl rfl rfl rfl ?_|refine zH (.there (.there .here)) rfl rfl rfl rfl ?_)
      refine oN (ev_store (b := b10) rfl rfl .agg rfl hd8 (lay_all (zs := u8s zd32) (by rw [hd8]; rfl)) (u8s_ones _) (Upd.app _ .here)) rfl ?_
      rintro _ _ _ _ ⟨rfl, _, rfl⟩
      repeat (first|refine zJ rfl rfl ?_|refine jr rfl ?_|refine jn ?_|refine zM rfl rfl ?_|(refine zC rfl rfl ?_ rfl ?_;omega)|(refine zD rfl rfl ?_ rfl ?_;omega)|(refine zP rfl ?_ rfl ?_;omega)|refine zG rfl rfl rfl rfl ?_|(refine jdq rfl rfl ?_ ?_ ?_;kernel_rfl;kernel_rfl)|refine zB rfl rfl rfl (by repeat constructor) rfl ?_|refine zH .here rfl rfl rfl rfl ?_|refine zH (.there .here) rfl rfl rfl rfl ?_|refine zH (.there (.there .here)) rfl rfl rfl rfl ?_)
      refine J_retv (vs := [.agg (u8s (C.dg s 105 leaf).1).toArray, .bool false]) rfl (.agg rfl rfl (Rdb.ofB (n := 0) (Pick.app _ .here) (by rw [List.drop_zero, List.take_length])) hd8 (.tmp rfl .nil)) (C.A (C.dg s 105 leaf).2) (fun w s => s.out1) hF1 ⟨(C.dg s 105 leaf).1, (C.dg s 105 leaf).2, C.len32 _ _ _, ?_, rfl, ?_, fun h => absurd h ht⟩
      · rw [decide_eq_false ht]; rfl
      · have := C.grow s 105 leaf; omega
    · have h2 : 2 ≤ n := by omega
      obtain ⟨hp, hl2⟩ := halfP_lt h2
      have htop := climb_top (C := C) s (i := i) leaf rest last h2
      have hlr : (rest ++ [last]).length = rest.length + 1 := by simp
      by_cases him : i < halfP n
      · have htl : (turnsP n i).length = (turnsP (halfP n) i).length + 1 := by rw [turnsP_l h2 him, List.length_cons]
        have hih := ih rest s (halfP n) i (.slice al leaf.length cl) (.slice (some ⟨bp, op, none⟩) m cp) F hmr (by omega) (by omega) (by omega) (by omega) hlv hpr h32r
        repeat (first|refine zJ rfl rfl ?_|refine jr rfl ?_|refine jn ?_|refine zM rfl rfl ?_|(refine zC rfl rfl ?_ rfl ?_;omega)|(refine zD rfl rfl ?_ rfl ?_;omega)|(refine zP rfl ?_ rfl ?_;omega)|refine zG rfl rfl rfl rfl ?_|(refine jdq rfl rfl ?_ ?_ ?_;kernel_rfl;kernel_rfl)|refine zB rfl rfl rfl (by repeat constructor) rfl ?_|refine zH .here rfl rfl rfl rfl ?_|refine zH (.there .here) rfl rfl rfl rfl ?_|refine zH (.there (.there .here)) rfl rfl rfl rfl ?_)
        refine oE (ev_alloc (E := 28) (cs := u8s zd32) (by kernel_rfl)) rfl ?_
        rintro _ _ _ _ ⟨rfl, b10, rfl, rfl⟩
        repeat (first|refine zJ rfl rfl ?_|refine jr rfl ?_|refine jn ?_|refine zM rfl rfl ?_|(refine zC rfl rfl ?_ rfl ?_;omega)|(refine zD rfl rfl ?_ rfl ?_;omega)|(refine zP rfl ?_ rfl ?_;omega)|refine zG rfl rfl rfl rfl ?_|(refine jdq rfl rfl ?_ ?_ ?_;kernel_rfl;kernel_rfl)|refine zB rfl rfl rfl (by repeat constructor) rfl ?_|refine zH .here rfl rfl rfl rfl ?_|refine zH (.there .here) rfl rfl rfl rfl ?_|refine zH (.there (.there .here)) rfl rfl rfl rfl ?_)
        refine oP (left_spec n F h2 (by omega)) Try.call28 rfl rfl ?_
        repeat (first|refine zJ rfl rfl ?_|refine jr rfl ?_|refine jn ?_|refine zM rfl rfl ?_|(refine zC rfl rfl ?_ rfl ?_;omega)|(refine zD rfl rfl ?_ rfl ?_;omega)|(refine zP rfl ?_ rfl ?_;omega)|refine zG rfl rfl rfl rfl ?_|(refine jdq rfl rfl ?_ ?_ ?_;kernel_rfl;kernel_rfl)|refine zB rfl rfl rfl (by repeat constructor) rfl ?_|refine zH .here rfl rfl rfl rfl ?_|refine zH (.there .here) rfl rfl rfl rfl ?_|refine zH (.there (.there .here)) rfl rfl rfl rfl ?_)
        rw [show (((m + 1 : Nat) : Int) - 1) = ((m : Nat) : Int) from by omega]
        refine oS (ev_indexAddr (i := m) rfl rfl rfl (by omega)) rfl ?_
        refine oS (ev_load_agg (cs := u8s last) rfl rfl (Rdb.ofF hcl) hla8) rfl ?_
        refine oE (ev_alloc (E := 28) (cs := u8s zd32) (by kernel_rfl)) rfl ?_
        rintro _ _ _ _ ⟨rfl, b13, rfl, rfl⟩
        refine oN (ev_store (b := b13) (vs := u8s last) rfl rfl .agg rfl hla8 (lay_all (zs := u8s zd32) (by rw [hla8]; rfl)) (u8s_ones _) .here) rfl ?_
        rintro _ _ _ _ ⟨rfl, _, rfl⟩
        repeat (first|refine zJ rfl rfl ?_|refine jr rfl ?_|refine jn ?_|refine zM rfl rfl ?_|(refine zC rfl rfl ?_ rfl ?_;omega)|(refine zD rfl rfl ?_ rfl ?_;omega)|(refine zP rfl ?_ rfl ?_;omega)|refine zG rfl rfl rfl rfl ?_|(refine jdq rfl rfl ?_ ?_ ?_;kernel_rfl;kernel_rfl)|refine zB rfl rfl rfl (by repeat constructor) rfl ?_|refine zH .here rfl rfl rfl rfl ?_|refine zH (.there .here) rfl rfl rfl rfl ?_|refine zH (.there (.there .here)) rfl rfl rfl rfl ?_)
        rw [show (((m + 1 : Nat) : Int) - 1) = ((m : Nat) : Int) from by omega]
        refine oS (ev_slice_hi (h := m) rfl rfl rfl (by omega)) rfl ?_
        repeat (first|refine zJ rfl rfl ?_|refine jr rfl ?_|refine jn ?_|refine zM rfl rfl ?_|(refine zC rfl rfl ?_ rfl ?_;omega)|(refine zD rfl rfl ?_ rfl ?_;omega)|(refine zP rfl ?_ rfl ?_;omega)|refine zG rfl rfl rfl rfl ?_|(refine jdq rfl rfl ?_ ?_ ?_;kernel_rfl;kernel_rfl)|refine zB rfl rfl rfl (by repeat constructor) rfl ?_|refine zH .here rfl rfl rfl rfl ?_|refine zH (.there .here) rfl rfl rfl rfl ?_|refine zH (.there (.there .here)) rfl rfl rfl rfl ?_)
        refine oC (Hc := C.A s) (Hr := blk b13 28 (u8s last) :: blk b10 28 (u8s zd32) :: X) hih Try.call17 rfl rfl (fun w t => Sat.front (A := [_, _]) (B := C.A s) (C := X) t) ?_
        rintro _ F1 _ hF1 ⟨d, s', hd, rfl, rfl, hrm, hcm⟩
        refine oW (H' := blk b13 28 (u8s last) :: blk b10 28 (u8s zd32) :: (C.A s' ++ X)) ?_ (fun w t => Sat.front (A := C.A s') (B := [_, _]) (C := X) t)
        have hdd8 : (u8s d).length = 32 := by rw [u8s_len, hd]
        repeat (first|refine zJ rfl rfl ?_|refine jr rfl ?_|refine jn ?_|refine zM rfl rfl ?_|(refine zC rfl rfl ?_ rfl ?_;omega)|(refine zD rfl rfl ?_ rfl ?_;omega)|(refine zP rfl ?_ rfl ?_;omega)|refine zG rfl rfl rfl rfl ?_|(refine jdq rfl rfl ?_ ?_ ?_;kernel_rfl;kernel_rfl)|refine zB rfl rfl rfl (by repeat constructor) rfl ?_|refine zH .here rfl rfl rfl rfl ?_|refine zH (.there .here) rfl rfl rfl rfl ?_|refine zH (.there (.there .here)) rfl rfl rfl rfl ?_)
        refine oE (ev_alloc (E := 28) (cs := u8s zd32) (by kernel_rfl)) rfl ?_
        rintro _ _ _ _ ⟨rfl, b15, rfl, rfl⟩
        refine oN (ev_store (b := b15) (vs := u8s d) rfl rfl .agg rfl hdd8 (lay_all (zs := u8s zd32) (by rw [hdd8]; rfl)) (u8s_ones _) .here) rfl ?_
        rintro _ _ _ _ ⟨rfl, _, rfl⟩
        by_cases hok : (turnsP (halfP n) i).length = rest.length
        · rw [decide_eq_true hok]
          have hc0 := hcm hok
          have hct := htop (by omega)
          rw [if_pos him, hc0] at hct
          dsimp only [climbV] at hct
          have hp32 : (u8s (pairD C s' d last).1).length = 32 := by rw [u8s_len]; exact C.len32 _ _ _
          have hgr := C.grow s' 106 (d ++ last)
          repeat (first|refine zJ rfl rfl ?_|refine jr rfl ?_|refine jn ?_|refine zM rfl rfl ?_|(refine zC rfl rfl ?_ rfl ?_;omega)|(refine zD rfl rfl ?_ rfl ?_;omega)|(refine zP rfl ?_ rfl ?_;omega)|refine zG rfl rfl rfl rfl ?_|(refine jdq rfl rfl ?_ ?_ ?_;kernel_rfl;kernel_rfl)|refine zB rfl rfl rfl (by repeat constructor) rfl ?_|refine zH .here rfl rfl rfl rfl ?_|refine zH (.there .here) rfl rfl rfl rfl ?_|refine zH (.there (.there .here)) rfl rfl rfl rfl ?_)
          refine oS (ev_load_agg (cs := u8s d) rfl rfl (Rdb.ofB (n := 0) .here (by rw [List.drop_zero, List.take_length])) hdd8) rfl ?_
          refine oS (ev_load_agg (cs := u8s last) rfl rfl (Rdb.ofB (n := 0) (.there .here) (by rw [List.drop_zero, List.take_length])) hla8) rfl ?_
          refine oC (Hc := C.A s') (Hr := blk b15 28 (u8s d) :: blk b13 28 (u8s last) :: blk b10 28 (u8s zd32) :: X) (ipair_spec hD s' d last F1 (by omega) hd hlast) Try.call29 rfl rfl (fun w t => Sat.front (A := [_, _, _]) (B := C.A s') (C := X) t) ?_
          rintro _ F2 _ hF2 ⟨rfl, rfl⟩
          refine oN (ev_store (b := b10) (vs := u8s (pairD C s' d last).1) rfl rfl .agg rfl hp32 (lay_all (zs := u8s zd32) (by rw [hp32]; rfl)) (u8s_ones _) (Upd.app _ (.there (.there .here)))) rfl ?_
          rintro _ _ _ _ ⟨rfl, _, rfl⟩
          repeat (first|refine zJ rfl rfl ?_|refine jr rfl ?_|refine jn ?_|refine zM rfl rfl ?_|(refine zC rfl rfl ?_ rfl ?_;omega)|(refine zD rfl rfl ?_ rfl ?_;omega)|(refine zP rfl ?_ rfl ?_;omega)|refine zG rfl rfl rfl rfl ?_|(refine jdq rfl rfl ?_ ?_ ?_;kernel_rfl;kernel_rfl)|refine zB rfl rfl rfl (by repeat constructor) rfl ?_|refine zH .here rfl rfl rfl rfl ?_|refine zH (.there .here) rfl rfl rfl rfl ?_|refine zH (.there (.there .here)) rfl rfl rfl rfl ?_)
          refine J_retv (vs := [.agg (u8s (pairD C s' d last).1).toArray, .bool true]) rfl (.agg rfl rfl (Rdb.ofB (n := 0) (Pick.app _ (.there (.there .here))) (by rw [List.drop_zero, List.take_length])) hp32 (.tmp rfl .nil)) (C.A (pairD C s' d last).2) (fun w t => (Sat.front (B := [_, _, _]) t).drop.drop.drop) (hF1.trans hF2) ⟨(pairD C s' d last).1, (pairD C s' d last).2, C.len32 _ _ _, ?_, rfl, ?_, fun _ => hct⟩
          · rw [decide_eq_true (by omega)]; rfl
          · unfold pairD; omega
        · rw [decide_eq_false hok]
          have ht : (turnsP n i).length ≠ (rest ++ [last]).length := by omega
          repeat (first|refine zJ rfl rfl ?_|refine jr rfl ?_|refine jn ?_|refine zM rfl rfl ?_|(refine zC rfl rfl ?_ rfl ?_;omega)|(refine zD rfl rfl ?_ rfl ?_;omega)|(refine zP rfl ?_ rfl ?_;omega)|refine zG rfl rfl rfl rfl ?_|(refine jdq rfl rfl ?_ ?_ ?_;kernel_rfl;kernel_rfl)|refine zB rfl rfl rfl (by repeat constructor) rfl ?_|refine zH .here rfl rfl rfl rfl ?_|refine zH (.there .here) rfl rfl rfl rfl ?_|refine zH (.there (.there .here)) rfl rfl rfl rfl ?_)
          refine oS dg_build rfl ?_
          refine oN (ev_store (b := b10) (vs := u8s zd32) rfl rfl .agg rfl rfl (lay_all (zs := u8s zd32) rfl) (u8s_ones _) (.there (.there .here))) rfl ?_
          rintro _ _ _ _ ⟨rfl, _, rfl⟩
          repeat (first|refine zJ rfl rfl ?_|refine jr rfl ?_|refine jn ?_|refine zM rfl rfl ?_|(refine zC rfl rfl ?_ rfl ?_;omega)|(refine zD rfl rfl ?_ rfl ?_;omega)|(refine zP rfl ?_ rfl ?_;omega)|refine zG rfl rfl rfl rfl ?_|(refine jdq rfl rfl ?_ ?_ ?_;kernel_rfl;kernel_rfl)|refine zB rfl rfl rfl (by repeat constructor) rfl ?_|refine zH .here rfl rfl rfl rfl ?_|refine zH (.there .here) rfl rfl rfl rfl ?_|refine zH (.there (.there .here)) rfl rfl rfl rfl ?_)
          refine J_retv (vs := [.agg (u8s zd32).toArray, .bool false]) rfl (.agg rfl rfl (Rdb.ofB (n := 0) (.there (.there .here)) (by rw [List.drop_zero, List.take_length])) rfl (.tmp rfl .nil)) (C.A s') (fun w t => t.drop.drop.drop) hF1 ⟨zd32, s', rfl, ?_, rfl, by omega, fun h => absurd h ht⟩
          rw [decide_eq_false ht]
          rfl
      · have htl : (turnsP n i).length = (turnsP (n - halfP n) (i - halfP n)).length + 1 := by rw [turnsP_r h2 him, List.length_cons]
        have hih := ih rest s (n - halfP n) (i - halfP n) (.slice al leaf.length cl) (.slice (some ⟨bp, op, none⟩) m cp) F hmr (by omega) (by omega) (by omega) (by omega) hlv hpr h32r
        repeat (first|refine zJ rfl rfl ?_|refine jr rfl ?_|refine jn ?_|refine zM rfl rfl ?_|(refine zC rfl rfl ?_ rfl ?_;omega)|(refine zD rfl rfl ?_ rfl ?_;omega)|(refine zP rfl ?_ rfl ?_;omega)|refine zG rfl rfl rfl rfl ?_|(refine jdq rfl rfl ?_ ?_ ?_;kernel_rfl;kernel_rfl)|refine zB rfl rfl rfl (by repeat constructor) rfl ?_|refine zH .here rfl rfl rfl rfl ?_|refine zH (.there .here) rfl rfl rfl rfl ?_|refine zH (.there (.there .here)) rfl rfl rfl rfl ?_)
        refine oE (ev_alloc (E := 28) (cs := u8s zd32) (by kernel_rfl)) rfl ?_
        rintro _ _ _ _ ⟨rfl, b10, rfl, rfl⟩
        repeat (first|refine zJ rfl rfl ?_|refine jr rfl ?_|refine jn ?_|refine zM rfl rfl ?_|(refine zC rfl rfl ?_ rfl ?_;omega)|(refine zD rfl rfl ?_ rfl ?_;omega)|(refine zP rfl ?_ rfl ?_;omega)|refine zG rfl rfl rfl rfl ?_|(refine jdq rfl rfl ?_ ?_ ?_;kernel_rfl;kernel_rfl)|refine zB rfl rfl rfl (by repeat constructor) rfl ?_|refine zH .here rfl rfl rfl rfl ?_|refine zH (.there .here) rfl rfl rfl rfl ?_|refine zH (.there (.there .here)) rfl rfl rfl rfl ?_)
        refine oP (left_spec n F h2 (by omega)) Try.call28 rfl rfl ?_
        repeat (first|refine zJ rfl rfl ?_|refine jr rfl ?_|refine jn ?_|refine zM rfl rfl ?_|(refine zC rfl rfl ?_ rfl ?_;omega)|(refine zD rfl rfl ?_ rfl ?_;omega)|(refine zP rfl ?_ rfl ?_;omega)|refine zG rfl rfl rfl rfl ?_|(refine jdq rfl rfl ?_ ?_ ?_;kernel_rfl;kernel_rfl)|refine zB rfl rfl rfl (by repeat constructor) rfl ?_|refine zH .here rfl rfl rfl rfl ?_|refine zH (.there .here) rfl rfl rfl rfl ?_|refine zH (.there (.there .here)) rfl rfl rfl rfl ?_)
        rw [show (((m + 1 : Nat) : Int) - 1) = ((m : Nat) : Int) from by omega]
        refine oS (ev_indexAddr (i := m) rfl rfl rfl (by omega)) rfl ?_
        refine oS (ev_load_agg (cs := u8s last) rfl rfl (Rdb.ofF hcl) hla8) rfl ?_
        refine oE (ev_alloc (E := 28) (cs := u8s zd32) (by kernel_rfl)) rfl ?_
        rintro _ _ _ _ ⟨rfl, b13, rfl, rfl⟩
        refine oN (ev_store (b := b13) (vs := u8s last) rfl rfl .agg rfl hla8 (lay_all (zs := u8s zd32) (by rw [hla8]; rfl)) (u8s_ones _) .here) rfl ?_
        rintro _ _ _ _ ⟨rfl, _, rfl⟩
        repeat (first|refine zJ rfl rfl ?_|refine jr rfl ?_|refine jn ?_|refine zM rfl rfl ?_|(refine zC rfl rfl ?_ rfl ?_;omega)|(refine zD rfl rfl ?_ rfl ?_;omega)|(refine zP rfl ?_ rfl ?_;omega)|refine zG rfl rfl rfl rfl ?_|(refine jdq rfl rfl ?_ ?_ ?_;kernel_rfl;kernel_rfl)|refine zB rfl rfl rfl (by repeat constructor) rfl ?_|refine zH .here rfl rfl rfl rfl ?_|refine zH (.there .here) rfl rfl rfl rfl ?_|refine zH (.there (.there .here)) rfl rfl rfl rfl ?_)
        rw [show (((m + 1 : Nat) : Int) - 1) = ((m : Nat) : Int) from by omega]
        refine oS (ev_slice_hi (h := m) rfl rfl rfl (by omega)) rfl ?_
        repeat (first|refine zJ rfl rfl ?_|refine jr rfl ?_|refine jn ?_|refine zM rfl rfl ?_|(refine zC rfl rfl ?_ rfl ?_;omega)|(refine zD rfl rfl ?_ rfl ?_;omega)|(refine zP rfl ?_ rfl ?_;omega)|refine zG rfl rfl rfl rfl ?_|(refine jdq rfl rfl ?_ ?_ ?_;kernel_rfl;kernel_rfl)|refine zB rfl rfl rfl (by repeat constructor) rfl ?_|refine zH .here rfl rfl rfl rfl ?_|refine zH (.there .here) rfl rfl rfl rfl ?_|refine zH (.there (.there .here)) rfl rfl rfl rfl ?_)
        rw [show ((n - halfP n : Nat) : Int) = (n : Int) - (halfP n : Int) from by omega, show ((i - halfP n : Nat) : Int) = (i : Int) - (halfP n : Int) from by omega] at hih
        refine oC (Hc := C.A s) (Hr := blk b13 28 (u8s last) :: blk b10 28 (u8s zd32) :: X) hih Try.call17 rfl rfl (fun w t => Sat.front (A := [_, _]) (B := C.A s) (C := X) t) ?_
        rintro _ F1 _ hF1 ⟨d, s', hd, rfl, rfl, hrm, hcm⟩
        refine oW (H' := blk b13 28 (u8s last) :: blk b10 28 (u8s zd32) :: (C.A s' ++ X)) ?_ (fun w t => Sat.front (A := C.A s') (B := [_, _]) (C := X) t)
        have hdd8 : (u8s d).length = 32 := by rw [u8s_len, hd]
        repeat (first|refine zJ rfl rfl ?_|refine jr rfl ?_|refine jn ?_|refine zM rfl rfl ?_|(refine zC rfl rfl ?_ rfl ?_;omega)|(refine zD rfl rfl ?_ rfl ?_;omega)|(refine zP rfl ?_ rfl ?_;omega)|refine zG rfl rfl rfl rfl ?_|(refine jdq rfl rfl ?_ ?_ ?_;kernel_rfl;kernel_rfl)|refine zB rfl rfl rfl (by repeat constructor) rfl ?_|refine zH .here rfl rfl rfl rfl ?_|refine zH (.there .here) rfl rfl rfl rfl ?_|refine zH (.there (.there .here)) rfl rfl rfl rfl ?_)
        refine oE (ev_alloc (E := 28) (cs := u8s zd32) (by kernel_rfl)) rfl ?_
        rintro _ _ _ _ ⟨rfl, b15, rfl, rfl⟩
        refine oN (ev_store (b := b15) (vs := u8s d) rfl rfl .agg rfl hdd8 (lay_all (zs := u8s zd32) (by rw [hdd8]; rfl)) (u8s_ones _) .here) rfl ?_
        rintro _ _ _ _ ⟨rfl, _, rfl⟩
        by_cases hok : (turnsP (n - halfP n) (i - halfP n)).length = rest.length
        · rw [decide_eq_true hok]
          have hc0 := hcm hok
          have hct := htop (by omega)
          rw [if_neg him, hc0] at hct
          dsimp only [climbV] at hct
          have hp32 : (u8s (pairD C s' last d).1).length = 32 := by rw [u8s_len]; exact C.len32 _ _ _
          have hgr := C.grow s' 106 (last ++ d)
          repeat (first|refine zJ rfl rfl ?_|refine jr rfl ?_|refine jn ?_|refine zM rfl rfl ?_|(refine zC rfl rfl ?_ rfl ?_;omega)|(refine zD rfl rfl ?_ rfl ?_;omega)|(refine zP rfl ?_ rfl ?_;omega)|refine zG rfl rfl rfl rfl ?_|(refine jdq rfl rfl ?_ ?_ ?_;kernel_rfl;kernel_rfl)|refine zB rfl rfl rfl (by repeat constructor) rfl ?_|refine zH .here rfl rfl rfl rfl ?_|refine zH (.there .here) rfl rfl rfl rfl ?_|refine zH (.there (.there .here)) rfl rfl rfl rfl ?_)
          refine oS (ev_load_agg (cs := u8s last) rfl rfl (Rdb.ofB (n := 0) (.there .here) (by rw [List.drop_zero, List.take_length])) hla8) rfl ?_
          refine oS (ev_load_agg (cs := u8s d) rfl rfl (Rdb.ofB (n := 0) .here (by rw [List.drop_zero, List.take_length])) hdd8) rfl ?_
          refine oC (Hc := C.A s') (Hr := blk b15 28 (u8s d) :: blk b13 28 (u8s last) :: blk b10 28 (u8s zd32) :: X) (ipair_spec hD s' last d F1 (by omega) hlast hd) Try.call29 rfl rfl (fun w t => Sat.front (A := [_, _, _]) (B := C.A s') (C := X) t) ?_
          rintro _ F2 _ hF2 ⟨rfl, rfl⟩
          refine oN (ev_store (b := b10) (vs := u8s (pairD C s' last d).1) rfl rfl .agg rfl hp32 (lay_all (zs := u8s zd32) (by rw [hp32]; rfl)) (u8s_ones _) (Upd.app _ (.there (.there .here)))) rfl ?_
          rintro _ _ _ _ ⟨rfl, _, rfl⟩
          repeat (first|refine zJ rfl rfl ?_|refine jr rfl ?_|refine jn ?_|refine zM rfl rfl ?_|(refine zC rfl rfl ?_ rfl ?_;omega)|(refine zD rfl rfl ?_ rfl ?_;omega)|(refine zP rfl ?_ rfl ?_;omega)|refine zG rfl rfl rfl rfl ?_|(refine jdq rfl rfl ?_ ?_ ?_;kernel_rfl;kernel_rfl)|refine zB rfl rfl rfl (by repeat constructor) rfl ?_|refine zH .here rfl rfl rfl rfl ?_|refine zH (.there .here) rfl rfl rfl rfl ?_|refine zH (.there (.there .here)) rfl rfl rfl rfl ?_)
          refine J_retv (vs := [.agg (u8s (pairD C s' last d).1).toArray, .bool true]) rfl (.agg rfl rfl (Rdb.ofB (n := 0) (Pick.app _ (.there (.there .here))) (by rw [List.drop_zero, List.take_length])) hp32 (.tmp rfl .nil)) (C.A (pairD C s' last d).2) (fun w t => (Sat.front (B := [_, _, _]) t).drop.drop.drop) (hF1.trans hF2) ⟨(pairD C s' last d).1, (pairD C s' last d).2, C.len32 _ _ _, ?_, rfl, ?_, fun _ => hct⟩
          · rw [decide_eq_true (by omega)]; rfl
          · unfold pairD; omega
        · rw [decide_eq_false hok]
          have ht : (turnsP n i).length ≠ (rest ++ [last]).length := by omega
          repeat (first|refine zJ rfl rfl ?_|refine jr rfl ?_|refine jn ?_|refine zM rfl rfl ?_|(refine zC rfl rfl ?_ rfl ?_;omega)|(refine zD rfl rfl ?_ rfl ?_;omega)|(refine zP rfl ?_ rfl ?_;omega)|refine zG rfl rfl rfl rfl ?_|(refine jdq rfl rfl ?_ ?_ ?_;kernel_rfl;kernel_rfl)|refine zB rfl rfl rfl (by repeat constructor) rfl ?_|refine zH .here rfl rfl rfl rfl ?_|refine zH (.there .here) rfl rfl rfl rfl ?_|refine zH (.there (.there .here)) rfl rfl rfl rfl ?_)
          refine oS dg_build rfl ?_
          refine oN (ev_store (b := b10) (vs := u8s zd32) rfl rfl .agg rfl rfl (lay_all (zs := u8s zd32) rfl) (u8s_ones _) (.there (.there .here))) rfl ?_
          rintro _ _ _ _ ⟨rfl, _, rfl⟩
          repeat (first|refine zJ rfl rfl ?_|refine jr rfl ?_|refine jn ?_|refine zM rfl rfl ?_|(refine zC rfl rfl ?_ rfl ?_;omega)|(refine zD rfl rfl ?_ rfl ?_;omega)|(refine zP rfl ?_ rfl ?_;omega)|refine zG rfl rfl rfl rfl ?_|(refine jdq rfl rfl ?_ ?_ ?_;kernel_rfl;kernel_rfl)|refine zB rfl rfl rfl (by repeat constructor) rfl ?_|refine zH .here rfl rfl rfl rfl ?_|refine zH (.there .here) rfl rfl rfl rfl ?_|refine zH (.there (.there .here)) rfl rfl rfl rfl ?_)
          refine J_retv (vs := [.agg (u8s zd32).toArray, .bool false]) rfl (.agg rfl rfl (Rdb.ofB (n := 0) (.there (.there .here)) (by rw [List.drop_zero, List.take_length])) rfl (.tmp rfl .nil)) (C.A s') (fun w t => t.drop.drop.drop) hF1 ⟨zd32, s', rfl, ?_, rfl, by omega, fun h => absurd h ht⟩
          rw [decide_eq_false ht]
          rfl
end Go.Proofs.Ytohlmhoacjodjaa
