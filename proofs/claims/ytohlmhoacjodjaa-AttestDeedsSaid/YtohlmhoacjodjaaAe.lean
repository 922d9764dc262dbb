/-
  The root of leaves. Conditions are typed with each.
-/
import Derived.Test.YtohlmhoacjodjaaAd
namespace Go.Proofs.Ytohlmhoacjodjaa
open Go.RowKit
set_option maxRecDepth 100000
/-! rows cut -/
theorem All2.take {α β : Type} {R : α → β → Prop} {xs : List α} {ys : List β} (h : All2 R xs ys) : ∀ n, All2 R (xs.take n) (ys.take n) := by
  induction h with
  | nil => intro n; rw [List.take_nil, List.take_nil]; exact .nil
  | cons h _ ih =>
    intro n
    cases n with
    | zero => exact .nil
    | succ n => exact .cons h (ih n)
theorem All2.drop {α β : Type} {R : α → β → Prop} {xs : List α} {ys : List β} (h : All2 R xs ys) : ∀ n, All2 R (xs.drop n) (ys.drop n) := by
  induction h with
  | nil => intro n; rw [List.drop_nil, List.drop_nil]; exact .nil
  | cons h t ih =>
    intro n
    cases n with
    | zero => exact .cons h t
    | succ n => exact ih n
theorem RowV.pre {P : Program} {e : TypeId} {α : Type} {te : Ty P e α} {F : PH} {a : Option Addr} {n c : Nat} {xs : List α} (h : RowV te F (.slice a n c) xs) (i : Nat) (hi : i ≤ n) : RowV te F (.slice a i c) (xs.take i) := by
  obtain ⟨css, h1, h2⟩ := h
  obtain ⟨hl, a', c', e', hc, h0⟩ := id h1
  cases e'
  have hlen : ∀ c ∈ css, c.length = te.sz := fun c hc => by
    obtain ⟨x, _, hx⟩ := h2.right c hc
    exact te.len hx
  refine ⟨css.take i, ?_, h2.take i⟩
  have := SliceV.pre h1 hlen hi (h2.len1.symm)
  rwa [List.length_take, Nat.min_eq_left hi]
theorem RowV.suf {P : Program} {e : TypeId} {α : Type} {te : Ty P e α} {F : PH} {a : Option Addr} {n c : Nat} {xs : List α} (h : RowV te F (.slice a n c) xs) (i : Nat) (hi : i ≤ n) (hc : n ≤ c) : RowV te F (cutV a te.sz c i n c) (xs.drop i) := by
  obtain ⟨css, h1, h2⟩ := h
  obtain ⟨hl, a', c', e', _, h0⟩ := id h1
  cases e'
  have hlen : ∀ c ∈ css, c.length = te.sz := fun c hc => by
    obtain ⟨x, _, hx⟩ := h2.right c hc
    exact te.len hx
  refine ⟨css.drop i, ?_, h2.drop i⟩
  have := SliceV.cut h1 hi (Nat.le_refl _) hc
  rw [flat_drop i hlen, List.take_of_length_le (by rw [flat_len (fun c hc => hlen c (List.mem_of_mem_drop hc)), List.length_drop, ← h2.len1]; exact Nat.le_refl _)] at this
  rwa [List.length_drop]
/-! the root -/
def rootF (C : Cry) : Nat → C.σ → List (List UInt8) → List UInt8 × C.σ
  | 0, s, _ => ([], s)
  | n + 1, s, l =>
    if l.length = 0 then C.dg s 107 []
    else if l.length = 1 then C.dg s 105 (l.getD 0 [])
    else
      let p := rootF C n s (l.take (halfP l.length))
      let q := rootF C n p.2 (l.drop (halfP l.length))
      pairD C q.2 p.1 q.1
theorem rootF_fuel (C : Cry) : ∀ (n m : Nat) (s : C.σ) (l : List (List UInt8)), l.length < n → l.length < m → rootF C n s l = rootF C m s l
  | 0, _, _, _, h, _ => absurd h (Nat.not_lt_zero _)
  | _ + 1, 0, _, _, _, h => absurd h (Nat.not_lt_zero _)
  | n + 1, m + 1, s, l, h1, h2 => by
    unfold rootF
    by_cases h0 : l.length = 0
    · rw [if_pos h0, if_pos h0]
    · rw [if_neg h0, if_neg h0]
      by_cases h01 : l.length = 1
      · rw [if_pos h01, if_pos h01]
      · rw [if_neg h01, if_neg h01]
        obtain ⟨hp, hl⟩ := halfP_lt (n := l.length) (by omega)
        have e1 := rootF_fuel C n m s (l.take (halfP l.length)) (by rw [List.length_take]; omega) (by rw [List.length_take]; omega)
        dsimp only
        rw [e1]
        rw [rootF_fuel C n m _ (l.drop (halfP l.length)) (by rw [List.length_drop]; omega) (by rw [List.length_drop]; omega)]
def rootP (C : Cry) (s : C.σ) (l : List (List UInt8)) : List UInt8 × C.σ := rootF C (l.length + 1) s l
theorem rootP_0 (C : Cry) (s : C.σ) : rootP C s [] = C.dg s 107 [] := rfl
theorem rootP_1 (C : Cry) (s : C.σ) (x : List UInt8) : rootP C s [x] = C.dg s 105 x := rfl
theorem rootP_2 (C : Cry) (s : C.σ) (l : List (List UInt8)) (h : 2 ≤ l.length) : rootP C s l = pairD C (rootP C (rootP C s (l.take (halfP l.length))).2 (l.drop (halfP l.length))).2 (rootP C s (l.take (halfP l.length))).1 (rootP C (rootP C s (l.take (halfP l.length))).2 (l.drop (halfP l.length))).1 := by
  obtain ⟨hp, hl⟩ := halfP_lt h
  have e1 := rootF_fuel C l.length ((l.take (halfP l.length)).length + 1) s (l.take (halfP l.length)) (by rw [List.length_take]; omega) (by omega)
  have e2 := fun s => rootF_fuel C l.length ((l.drop (halfP l.length)).length + 1) s (l.drop (halfP l.length)) (by rw [List.length_drop]; omega) (by omega)
  unfold rootP
  rw [show rootF C (l.length + 1) s l = pairD C (rootF C l.length (rootF C l.length s (l.take (halfP l.length))).2 (l.drop (halfP l.length))).2 (rootF C l.length s (l.take (halfP l.length))).1 (rootF C l.length (rootF C l.length s (l.take (halfP l.length))).2 (l.drop (halfP l.length))).1 from by
    show (if l.length = 0 then _ else if l.length = 1 then _ else _) = _
    rw [if_neg (by omega), if_neg (by omega)]]
  rw [e1, e2]
theorem rootP_len (C : Cry) (s : C.σ) (l : List (List UInt8)) : (rootP C s l).1.length = 32 := by
  match l with
  | [] => exact C.len32 _ _ _
  | [x] => exact C.len32 _ _ _
  | x :: y :: r => rw [rootP_2 C s _ (by simp)]; exact C.len32 _ _ _
theorem rootP_room (C : Cry) : ∀ (n : Nat) (s : C.σ) (l : List (List UInt8)), l.length ≤ n → C.room (rootP C s l).2 + 1 ≤ C.room s + 2 * l.length + (if l.length = 0 then 2 else 0)
  | 0, s, l, h => by
    obtain rfl := List.eq_nil_of_length_eq_zero (by omega : l.length = 0)
    have := C.grow s 107 []
    rw [rootP_0]
    simp only [List.length_nil, if_true]
    omega
  | n + 1, s, l, h => by
    match l with
    | [] =>
      have := C.grow s 107 []
      rw [rootP_0]
      simp only [List.length_nil, if_true]
      omega
    | [x] =>
      have := C.grow s 105 x
      rw [rootP_1]
      simp only [List.length_singleton]
      omega
    | x :: y :: r =>
      obtain ⟨hp, hl⟩ := halfP_lt (n := (x :: y :: r).length) (by simp)
      rw [rootP_2 C s _ (by simp)]
      generalize hL : x :: y :: r = L at *
      have a1 := rootP_room C n s (L.take (halfP L.length)) (by rw [List.length_take]; omega)
      have a2 := rootP_room C n (rootP C s (L.take (halfP L.length))).2 (L.drop (halfP L.length)) (by rw [List.length_drop]; omega)
      have a3 := C.grow (rootP C (rootP C s (L.take (halfP L.length))).2 (L.drop (halfP L.length))).2 106 ((rootP C s (L.take (halfP L.length))).1 ++ (rootP C (rootP C s (L.take (halfP L.length))).2 (L.drop (halfP L.length))).1)
      rw [List.length_take, if_neg (by omega)] at a1
      rw [List.length_drop, if_neg (by omega)] at a2
      rw [if_neg (by omega)]
      unfold pairD
      omega
def Small (l : List (List UInt8)) : Prop := ∀ x ∈ l, x.length ≤ 100000
set_option maxHeartbeats 8000000 in
theorem root_spec (C : Cry) : ∀ (n : Nat) (l : List (List UInt8)) (s : C.σ) (v : Value) (F : PH), l.length ≤ n → RowV tyByt F v l → Small l → C.room s + 2 * l.length ≤ 80000 → Spec Try.prog 11 [C.v, v] F (C.A s) fun u _ H' => u = .agg (u8s (rootP C s l).1).toArray ∧ H' = C.A (rootP C s l).2 := by
  intro n
  induction n with
  | zero =>
    intro l s v F hn h hs hr
    have h0 : l.length = 0 := by omega
    obtain rfl := List.eq_nil_of_length_eq_zero h0
    obtain ⟨a, c, rfl, hc⟩ := h.form
    have h32 : (u8s (rootP C s []).1).length = 32 := by rw [u8s_len, rootP_len]
    refine Spec.of2 Try.func11 rfl rfl fun X w0 => ?_
    repeat (first|refine zJ rfl rfl ?_|refine jr rfl ?_|refine jn ?_|refine zM rfl rfl ?_|(refine zC rfl rfl ?_ rfl ?_;omega)|(refine zD rfl rfl ?_ rfl ?_;omega)|(refine zP rfl ?_ rfl ?_;omega)|refine zG rfl rfl rfl rfl ?_|(refine jdq rfl rfl ?_ ?_ ?_;kernel_rfl;kernel_rfl)|refine zB rfl rfl rfl (by repeat constructor) rfl ?_|refine zH .here rfl rfl rfl rfl ?_|refine zH (.there .here) rfl rfl rfl rfl ?_|refine zH (.there (.there .here)) rfl rfl rfl rfl ?_)
    refine oE (ev_alloc (E := 28) (cs := u8s zd32) (by kernel_rfl)) rfl ?_
    rintro _ _ _ _ ⟨rfl, b4, rfl, rfl⟩
    repeat (first|refine zJ rfl rfl ?_|refine jr rfl ?_|refine jn ?_|refine zM rfl rfl ?_|(refine zC rfl rfl ?_ rfl ?_;omega)|(refine zD rfl rfl ?_ rfl ?_;omega)|(refine zP rfl ?_ rfl ?_;omega)|refine zG rfl rfl rfl rfl ?_|(refine jdq rfl rfl ?_ ?_ ?_;kernel_rfl;kernel_rfl)|refine zB rfl rfl rfl (by repeat constructor) rfl ?_|refine zH .here rfl rfl rfl rfl ?_|refine zH (.there .here) rfl rfl rfl rfl ?_|refine zH (.there (.there .here)) rfl rfl rfl rfl ?_)
    refine oI (Hc := C.A s) (Hr := blk b4 28 (u8s zd32) :: X) rfl C.mr (C.spec s 107 [] _ F (by decide) (by omega) (by decide) (SliceV.nil F 1)) rfl rfl (fun w t => t.front (A := [_])) ?_
    rintro _ F1 _ hF1 ⟨rfl, rfl⟩
    refine oN (ev_store (b := b4) (vs := u8s (rootP C s []).1) rfl rfl .agg rfl h32 (lay_all (zs := u8s zd32) (by rw [h32]; rfl)) (u8s_ones _) (Upd.app _ .here)) rfl ?_
    rintro _ _ _ _ ⟨rfl, _, rfl⟩
    repeat (first|refine zJ rfl rfl ?_|refine jr rfl ?_|refine jn ?_|refine zM rfl rfl ?_|(refine zC rfl rfl ?_ rfl ?_;omega)|(refine zD rfl rfl ?_ rfl ?_;omega)|(refine zP rfl ?_ rfl ?_;omega)|refine zG rfl rfl rfl rfl ?_|(refine jdq rfl rfl ?_ ?_ ?_;kernel_rfl;kernel_rfl)|refine zB rfl rfl rfl (by repeat constructor) rfl ?_|refine zH .here rfl rfl rfl rfl ?_|refine zH (.there .here) rfl rfl rfl rfl ?_|refine zH (.there (.there .here)) rfl rfl rfl rfl ?_)
    exact J_retv (vs := [.agg (u8s (rootP C s []).1).toArray]) rfl (.agg rfl rfl (Rdb.ofB (n := 0) (Pick.app _ .here) (by rw [List.drop_zero, List.take_length])) h32 .nil) (C.A (rootP C s []).2) (fun w s => s.out1) hF1 ⟨rfl, rfl⟩
  | succ n ih =>
    intro l s v F hn h hs hr
    by_cases h0 : l.length = 0
    · obtain rfl := List.eq_nil_of_length_eq_zero h0
      exact ih [] s v F (Nat.zero_le _) h hs hr
    by_cases h1 : l.length = 1
    · obtain ⟨x, rfl⟩ := List.length_eq_one_iff.1 h1
      obtain ⟨a, c, rfl, hc⟩ := h.form
      have h32 : (u8s (rootP C s [x]).1).length = 32 := by rw [u8s_len, rootP_len]
      obtain ⟨b1, o1, cs, rfl, hcs, ⟨vx, rfl, hx⟩, _⟩ := h.at (i := 0) rfl
      refine Spec.of2 Try.func11 rfl rfl fun X w0 => ?_
      repeat (first|refine zJ rfl rfl ?_|refine jr rfl ?_|refine jn ?_|refine zM rfl rfl ?_|(refine zC rfl rfl ?_ rfl ?_;omega)|(refine zD rfl rfl ?_ rfl ?_;omega)|(refine zP rfl ?_ rfl ?_;omega)|refine zG rfl rfl rfl rfl ?_|(refine jdq rfl rfl ?_ ?_ ?_;kernel_rfl;kernel_rfl)|refine zB rfl rfl rfl (by repeat constructor) rfl ?_|refine zH .here rfl rfl rfl rfl ?_|refine zH (.there .here) rfl rfl rfl rfl ?_|refine zH (.there (.there .here)) rfl rfl rfl rfl ?_)
      refine oE (ev_alloc (E := 28) (cs := u8s zd32) (by kernel_rfl)) rfl ?_
      rintro _ _ _ _ ⟨rfl, b4, rfl, rfl⟩
      repeat (first|refine zJ rfl rfl ?_|refine jr rfl ?_|refine jn ?_|refine zM rfl rfl ?_|(refine zC rfl rfl ?_ rfl ?_;omega)|(refine zD rfl rfl ?_ rfl ?_;omega)|(refine zP rfl ?_ rfl ?_;omega)|refine zG rfl rfl rfl rfl ?_|(refine jdq rfl rfl ?_ ?_ ?_;kernel_rfl;kernel_rfl)|refine zB rfl rfl rfl (by repeat constructor) rfl ?_|refine zH .here rfl rfl rfl rfl ?_|refine zH (.there .here) rfl rfl rfl rfl ?_|refine zH (.there (.there .here)) rfl rfl rfl rfl ?_)
      refine oS (ev_indexAddr (i := 0) rfl rfl rfl (by simp)) rfl ?_
      refine oS (ev_load (v := vx) rfl rfl (Rdb.ofF hcs)) rfl ?_
      refine oC (Hc := C.A s) (Hr := blk b4 28 (u8s zd32) :: X) (leaf_spec C s x vx F (by omega) (hs x (by simp)) hx) Try.call24 rfl rfl (fun w t => t.front (A := [_])) ?_
      rintro _ F1 _ hF1 ⟨rfl, rfl⟩
      refine oN (ev_store (b := b4) (vs := u8s (rootP C s [x]).1) rfl rfl .agg rfl h32 (lay_all (zs := u8s zd32) (by rw [h32]; rfl)) (u8s_ones _) (Upd.app _ .here)) rfl ?_
      rintro _ _ _ _ ⟨rfl, _, rfl⟩
      repeat (first|refine zJ rfl rfl ?_|refine jr rfl ?_|refine jn ?_|refine zM rfl rfl ?_|(refine zC rfl rfl ?_ rfl ?_;omega)|(refine zD rfl rfl ?_ rfl ?_;omega)|(refine zP rfl ?_ rfl ?_;omega)|refine zG rfl rfl rfl rfl ?_|(refine jdq rfl rfl ?_ ?_ ?_;kernel_rfl;kernel_rfl)|refine zB rfl rfl rfl (by repeat constructor) rfl ?_|refine zH .here rfl rfl rfl rfl ?_|refine zH (.there .here) rfl rfl rfl rfl ?_|refine zH (.there (.there .here)) rfl rfl rfl rfl ?_)
      exact J_retv (vs := [.agg (u8s (rootP C s [x]).1).toArray]) rfl (.agg rfl rfl (Rdb.ofB (n := 0) (Pick.app _ .here) (by rw [List.drop_zero, List.take_length])) h32 .nil) (C.A (rootP C s [x]).2) (fun w s => s.out1) hF1 ⟨rfl, rfl⟩
    · have h2 : 2 ≤ l.length := by omega
      obtain ⟨hp, hl⟩ := halfP_lt h2
      obtain ⟨a, c, rfl, hc⟩ := h.form
      have h32 : (u8s (rootP C s l).1).length = 32 := by rw [u8s_len, rootP_len]
      have hpre := h.pre (halfP l.length) (by omega)
      have hsuf := h.suf (halfP l.length) (by omega) hc
      have e2 := rootP_2 C s l h2
      have hl1 : (l.take (halfP l.length)).length = halfP l.length := by rw [List.length_take]; omega
      have hl2 : (l.drop (halfP l.length)).length = l.length - halfP l.length := by rw [List.length_drop]
      have r1 := rootP_room C _ s (l.take (halfP l.length)) (Nat.le_refl _)
      have r2 := rootP_room C _ (rootP C s (l.take (halfP l.length))).2 (l.drop (halfP l.length)) (Nat.le_refl _)
      rw [hl1, if_neg (by omega)] at r1
      rw [hl2, if_neg (by omega)] at r2
      have n1 := rootP_len C s (l.take (halfP l.length))
      have n2 := rootP_len C (rootP C s (l.take (halfP l.length))).2 (l.drop (halfP l.length))
      have hs1 : Small (l.take (halfP l.length)) := fun x hx => hs x (List.mem_of_mem_take hx)
      have hs2 : Small (l.drop (halfP l.length)) := fun x hx => hs x (List.mem_of_mem_drop hx)
      refine Spec.of2 Try.func11 rfl rfl fun X w0 => ?_
      repeat (first|refine zJ rfl rfl ?_|refine jr rfl ?_|refine jn ?_|refine zM rfl rfl ?_|(refine zC rfl rfl ?_ rfl ?_;omega)|(refine zD rfl rfl ?_ rfl ?_;omega)|(refine zP rfl ?_ rfl ?_;omega)|refine zG rfl rfl rfl rfl ?_|(refine jdq rfl rfl ?_ ?_ ?_;kernel_rfl;kernel_rfl)|refine zB rfl rfl rfl (by repeat constructor) rfl ?_|refine zH .here rfl rfl rfl rfl ?_|refine zH (.there .here) rfl rfl rfl rfl ?_|refine zH (.there (.there .here)) rfl rfl rfl rfl ?_)
      refine oE (ev_alloc (E := 28) (cs := u8s zd32) (by kernel_rfl)) rfl ?_
      rintro _ _ _ _ ⟨rfl, b4, rfl, rfl⟩
      repeat (first|refine zJ rfl rfl ?_|refine jr rfl ?_|refine jn ?_|refine zM rfl rfl ?_|(refine zC rfl rfl ?_ rfl ?_;omega)|(refine zD rfl rfl ?_ rfl ?_;omega)|(refine zP rfl ?_ rfl ?_;omega)|refine zG rfl rfl rfl rfl ?_|(refine jdq rfl rfl ?_ ?_ ?_;kernel_rfl;kernel_rfl)|refine zB rfl rfl rfl (by repeat constructor) rfl ?_|refine zH .here rfl rfl rfl rfl ?_|refine zH (.there .here) rfl rfl rfl rfl ?_|refine zH (.there (.there .here)) rfl rfl rfl rfl ?_)
      refine oP (half_spec l.length F h2 (by omega)) Try.call25 rfl rfl ?_
      repeat (first|refine zJ rfl rfl ?_|refine jr rfl ?_|refine jn ?_|refine zM rfl rfl ?_|(refine zC rfl rfl ?_ rfl ?_;omega)|(refine zD rfl rfl ?_ rfl ?_;omega)|(refine zP rfl ?_ rfl ?_;omega)|refine zG rfl rfl rfl rfl ?_|(refine jdq rfl rfl ?_ ?_ ?_;kernel_rfl;kernel_rfl)|refine zB rfl rfl rfl (by repeat constructor) rfl ?_|refine zH .here rfl rfl rfl rfl ?_|refine zH (.there .here) rfl rfl rfl rfl ?_|refine zH (.there (.there .here)) rfl rfl rfl rfl ?_)
      refine ja F [] ?_ (fun w t => t.bare) ?_; kernel_rfl
      refine aT 0 rfl (ev_qe rfl) rfl rfl ?_ ?_ ?_ ?_; kernel_rfl; kernel_rfl; kernel_rfl
      refine aT 1 rfl (ev_qe rfl) rfl rfl ?_ ?_ ?_ ?_; kernel_rfl; kernel_rfl; kernel_rfl
      refine aT 2 rfl (ev_qe rfl) rfl rfl ?_ ?_ ?_ ?_; kernel_rfl; kernel_rfl; kernel_rfl
      refine aT 3 rfl (ev_qe rfl) rfl rfl ?_ ?_ ?_ ?_; kernel_rfl; kernel_rfl; kernel_rfl
      refine aT 4 rfl (ev_slice_hi (h := halfP l.length) rfl rfl rfl (by omega)) rfl rfl ?_ ?_ ?_ ?_; kernel_rfl; kernel_rfl; kernel_rfl
      refine aT 6 rfl (ev_qe rfl) rfl rfl ?_ ?_ ?_ ?_; kernel_rfl; kernel_rfl; kernel_rfl
      refine aT 7 rfl (ev_qe rfl) rfl rfl ?_ ?_ ?_ ?_; kernel_rfl; kernel_rfl; kernel_rfl
      refine aT 8 rfl (ev_qe rfl) rfl rfl ?_ ?_ ?_ ?_; kernel_rfl; kernel_rfl; kernel_rfl
      refine aT 9 rfl (ev_slice_lo (lo := halfP l.length) rfl rfl rfl (by omega)) rfl rfl ?_ ?_ ?_ ?_; kernel_rfl; kernel_rfl; kernel_rfl
      refine aB (i := 5) (by kernel_rfl) (aC (Hc := C.A s) (Hr := blk b4 28 (u8s zd32) :: X) rfl (ih (l.take (halfP l.length)) s _ F (by omega) hpre hs1 (by omega)) Try.call11 rfl rfl rfl (fun _ t => t.front (A := [_])) (fun _ _ _ hF hq w t => t.bare.mono hF) ?_)
      rintro _ F1 _ hF1 ⟨rfl, rfl⟩
      refine aB (i := 10) (by kernel_rfl) (aC (Hc := C.A (rootP C s (l.take (halfP l.length))).2) (Hr := blk b4 28 (u8s zd32) :: X) rfl (ih (l.drop (halfP l.length)) _ _ F1 (by omega) (hsuf.mono hF1) hs2 (by omega)) Try.call11 rfl rfl rfl (fun _ t => t) (fun _ _ _ hF hq w t => t.bare.mono (hF1.trans hF)) ?_)
      rintro _ F2 _ hF2 ⟨rfl, rfl⟩
      refine aB (i := 11) (by kernel_rfl) (aC (Hc := C.A (rootP C (rootP C s (l.take (halfP l.length))).2 (l.drop (halfP l.length))).2) (Hr := blk b4 28 (u8s zd32) :: X) rfl (pair_spec C _ (rootP C s (l.take (halfP l.length))).1 (rootP C (rootP C s (l.take (halfP l.length))).2 (l.drop (halfP l.length))).1 F2 (by omega) n1 n2) Try.call26 rfl rfl rfl (fun _ t => t) (fun _ _ _ hF hq w t => t.bare.mono (hF1.trans (hF2.trans hF))) ?_)
      rintro _ F3 _ hF3 ⟨rfl, rfl⟩
      rw [← e2]
      refine aB (i := 12) (by kernel_rfl) (aN rfl (ev_store (b := b4) (vs := u8s (rootP C s l).1) rfl rfl .agg rfl h32 (lay_all (zs := u8s zd32) (by rw [h32]; rfl)) (u8s_ones _) (Upd.app _ .here)) rfl (fun _ _ _ hF hq w t => by obtain ⟨rfl, _, rfl⟩ := hq; exact t.bare.mono (hF1.trans (hF2.trans hF3))) ?_)
      rintro _ _ _ _ ⟨rfl, _, rfl⟩
      refine aD (by kernel_rfl) ?_
      repeat (first|refine zJ rfl rfl ?_|refine jr rfl ?_|refine jn ?_|refine zM rfl rfl ?_|(refine zC rfl rfl ?_ rfl ?_;omega)|(refine zD rfl rfl ?_ rfl ?_;omega)|(refine zP rfl ?_ rfl ?_;omega)|refine zG rfl rfl rfl rfl ?_|(refine jdq rfl rfl ?_ ?_ ?_;kernel_rfl;kernel_rfl)|refine zB rfl rfl rfl (by repeat constructor) rfl ?_|refine zH .here rfl rfl rfl rfl ?_|refine zH (.there .here) rfl rfl rfl rfl ?_|refine zH (.there (.there .here)) rfl rfl rfl rfl ?_)
      exact J_retv (vs := [.agg (u8s (rootP C s l).1).toArray]) rfl (.agg rfl rfl (Rdb.ofB (n := 0) (Pick.app _ .here) (by rw [List.drop_zero, List.take_length])) h32 .nil) (C.A (rootP C s l).2) (fun w s => s.out1) (hF1.trans (hF2.trans hF3)) ⟨rfl, rfl⟩
end Go.Proofs.Ytohlmhoacjodjaa
