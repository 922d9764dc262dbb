/-
  What stands beside a leaf, from it up. Conditions are typed with each.
  To which root a leaf and a path lead. Conditions are typed with each.
  A book, and keys, as those who tell digests; whether a leaf is proved; few, same. Conditions are typed with each.
-/
import Derived.Test.YtohlmhoacjodjaaAd
namespace Go.Proofs.Ytohlmhoacjodjaa
open Go.RowKit
set_option maxRecDepth 100000
/-- From the top down: what stands beside. -/
def downF (C : Cry) : Nat → C.σ → List (List UInt8) → Nat → List (List UInt8) × C.σ
  | 0, s, _, _ => ([], s)
  | n + 1, s, l, i =>
    if l.length ≤ 1 then ([], s)
    else if i < halfP l.length then
      let p := rootP C s (l.drop (halfP l.length))
      let q := downF C n p.2 (l.take (halfP l.length)) i
      (p.1 :: q.1, q.2)
    else
      let p := rootP C s (l.take (halfP l.length))
      let q := downF C n p.2 (l.drop (halfP l.length)) (i - halfP l.length)
      (p.1 :: q.1, q.2)
theorem downF_fuel (C : Cry) : ∀ (n m : Nat) (s : C.σ) (l : List (List UInt8)) (i : Nat), l.length < n → l.length < m → downF C n s l i = downF C m s l i
  | 0, _, _, _, _, h, _ => absurd h (Nat.not_lt_zero _)
  | _ + 1, 0, _, _, _, _, h => absurd h (Nat.not_lt_zero _)
  | n + 1, m + 1, s, l, i, h1, h2 => by
    unfold downF
    by_cases h0 : l.length ≤ 1
    · rw [if_pos h0, if_pos h0]
    · rw [if_neg h0, if_neg h0]
      obtain ⟨hp, hl⟩ := halfP_lt (n := l.length) (by omega)
      by_cases hi : i < halfP l.length
      · rw [if_pos hi, if_pos hi]
        dsimp only
        rw [downF_fuel C n m _ (l.take (halfP l.length)) i (by rw [List.length_take]; omega) (by rw [List.length_take]; omega)]
      · rw [if_neg hi, if_neg hi]
        dsimp only
        rw [downF_fuel C n m _ (l.drop (halfP l.length)) _ (by rw [List.length_drop]; omega) (by rw [List.length_drop]; omega)]
def downP (C : Cry) (s : C.σ) (l : List (List UInt8)) (i : Nat) : List (List UInt8) × C.σ := downF C (l.length + 1) s l i
theorem downP_1 (C : Cry) (s : C.σ) (l : List (List UInt8)) (i : Nat) (h : l.length ≤ 1) : downP C s l i = ([], s) := by
  unfold downP downF
  rw [if_pos h]
theorem downP_l (C : Cry) (s : C.σ) (l : List (List UInt8)) (i : Nat) (h : 2 ≤ l.length) (hi : i < halfP l.length) :
    downP C s l i = ((rootP C s (l.drop (halfP l.length))).1 :: (downP C (rootP C s (l.drop (halfP l.length))).2 (l.take (halfP l.length)) i).1, (downP C (rootP C s (l.drop (halfP l.length))).2 (l.take (halfP l.length)) i).2) := by
  obtain ⟨hp, hl⟩ := halfP_lt h
  have e := downF_fuel C l.length ((l.take (halfP l.length)).length + 1) (rootP C s (l.drop (halfP l.length))).2 (l.take (halfP l.length)) i (by rw [List.length_take]; omega) (by omega)
  unfold downP
  rw [← e]
  show (if l.length ≤ 1 then _ else if i < halfP l.length then _ else _) = _
  rw [if_neg (by omega), if_pos hi]
theorem downP_r (C : Cry) (s : C.σ) (l : List (List UInt8)) (i : Nat) (h : 2 ≤ l.length) (hi : ¬ i < halfP l.length) :
    downP C s l i = ((rootP C s (l.take (halfP l.length))).1 :: (downP C (rootP C s (l.take (halfP l.length))).2 (l.drop (halfP l.length)) (i - halfP l.length)).1, (downP C (rootP C s (l.take (halfP l.length))).2 (l.drop (halfP l.length)) (i - halfP l.length)).2) := by
  obtain ⟨hp, hl⟩ := halfP_lt h
  have e := downF_fuel C l.length ((l.drop (halfP l.length)).length + 1) (rootP C s (l.take (halfP l.length))).2 (l.drop (halfP l.length)) (i - halfP l.length) (by rw [List.length_drop]; omega) (by omega)
  unfold downP
  rw [← e]
  show (if l.length ≤ 1 then _ else if i < halfP l.length then _ else _) = _
  rw [if_neg (by omega), if_neg hi]
def pathP (C : Cry) (s : C.σ) (l : List (List UInt8)) (i : Nat) : List (List UInt8) × C.σ := ((downP C s l i).1.reverse, (downP C s l i).2)
theorem elD : Elem Try.prog 31 28 32 32 (.agg (u8s zd32).toArray) := ⟨by kernel_rfl, ⟨(Try.prog.info? 28).get!, by kernel_rfl, by kernel_rfl, by kernel_rfl, by kernel_rfl, by kernel_rfl, by decide⟩, by kernel_rfl, rfl⟩
def tyDg : Ty Try.prog 28 (List UInt8) := tyArr Try.underlying28 Try.underlying5 (by kernel_rfl) (by kernel_rfl)
/-- Digests' cells. -/
def dgC (ds : List (List UInt8)) : List Value := (ds.map u8s).flatten
def D32 (ds : List (List UInt8)) : Prop := ∀ d ∈ ds, d.length = 32
theorem dgC_len {ds : List (List UInt8)} (h : D32 ds) : (dgC ds).length = ds.length * 32 := by
  unfold dgC
  rw [flat_len (n := 32) (fun c hc => by obtain ⟨d, hd, rfl⟩ := List.mem_map.1 hc; rw [u8s_len]; exact h d hd), List.length_map]
theorem dgC_snoc (ds : List (List UInt8)) (d : List UInt8) : dgC (ds ++ [d]) = dgC ds ++ u8s d := by simp [dgC]
theorem dgC_app (ds es : List (List UInt8)) : dgC (ds ++ es) = dgC ds ++ dgC es := by simp [dgC]
theorem dgC_ones (ds : List (List UInt8)) : Ones (dgC ds) := fun v hv => by
  obtain ⟨c, hc, hv⟩ := List.mem_flatten.1 hv
  obtain ⟨d, _, rfl⟩ := List.mem_map.1 hc
  exact u8s_ones d v hv
abbrev DgV (F : PH) (v : Value) (ds : List (List UInt8)) : Prop := SliceV F 32 v ds.length (dgC ds)
theorem DgV.at {F : PH} {a : Option Addr} {n c i : Nat} {ds : List (List UInt8)} {d : List UInt8} (h : SliceV F 32 (.slice a n c) n (dgC ds)) (h32 : D32 ds) (hi : ds[i]? = some d) (hn : i < n) : ∃ b off, a = some ⟨b, off, none⟩ ∧ Cells F b (off + i * 32) (u8s d) := by
  refine SliceV.row h (fun c hc => ?_) ?_ hn
  · obtain ⟨q, hq, rfl⟩ := List.mem_map.1 hc
    rw [u8s_len]
    exact h32 q hq
  · rw [List.getElem?_map, hi]; rfl
theorem downP_32 (C : Cry) : ∀ (n : Nat) (s : C.σ) (l : List (List UInt8)) (i : Nat), l.length ≤ n → D32 (downP C s l i).1
  | 0, s, l, i, h => by
    rw [downP_1 C s l i (by omega)]
    exact fun _ h => by cases h
  | n + 1, s, l, i, h => by
    by_cases h1 : l.length ≤ 1
    · rw [downP_1 C s l i h1]
      exact fun _ h => by cases h
    · obtain ⟨hp, hl⟩ := halfP_lt (n := l.length) (by omega)
      by_cases hi : i < halfP l.length
      · rw [downP_l C s l i (by omega) hi]
        intro d hd
        rcases List.mem_cons.1 hd with rfl | hd
        · exact rootP_len _ _ _
        · exact downP_32 C n _ _ _ (by rw [List.length_take]; omega) d hd
      · rw [downP_r C s l i (by omega) hi]
        intro d hd
        rcases List.mem_cons.1 hd with rfl | hd
        · exact rootP_len _ _ _
        · exact downP_32 C n _ _ _ (by rw [List.length_drop]; omega) d hd
theorem downP_n (C : Cry) : ∀ (n : Nat) (s : C.σ) (l : List (List UInt8)) (i : Nat), l.length ≤ n → (downP C s l i).1.length ≤ l.length ∧ C.room (downP C s l i).2 ≤ C.room s + 2 * l.length
  | 0, s, l, i, h => by
    rw [downP_1 C s l i (by omega)]
    exact ⟨Nat.zero_le _, by dsimp only; omega⟩
  | n + 1, s, l, i, h => by
    by_cases h1 : l.length ≤ 1
    · rw [downP_1 C s l i h1]
      exact ⟨Nat.zero_le _, by dsimp only; omega⟩
    · obtain ⟨hp, hl⟩ := halfP_lt (n := l.length) (by omega)
      by_cases hi : i < halfP l.length
      · rw [downP_l C s l i (by omega) hi]
        have r := rootP_room C _ s (l.drop (halfP l.length)) (Nat.le_refl _)
        obtain ⟨d1, d2⟩ := downP_n C n (rootP C s (l.drop (halfP l.length))).2 (l.take (halfP l.length)) i (by rw [List.length_take]; omega)
        rw [List.length_drop, if_neg (by omega)] at r
        rw [List.length_take] at d1 d2
        refine ⟨?_, ?_⟩
        · rw [List.length_cons]; omega
        · dsimp only; omega
      · rw [downP_r C s l i (by omega) hi]
        have r := rootP_room C _ s (l.take (halfP l.length)) (Nat.le_refl _)
        obtain ⟨d1, d2⟩ := downP_n C n (rootP C s (l.take (halfP l.length))).2 (l.drop (halfP l.length)) (i - halfP l.length) (by rw [List.length_drop]; omega)
        rw [List.length_take, if_neg (by omega)] at r
        rw [List.length_drop] at d1 d2
        refine ⟨?_, ?_⟩
        · rw [List.length_cons]; omega
        · dsimp only; omega
/-- A row of digests' state midway. -/
structure Pst (C : Cry) where
  G : PH
  s : C.σ
  l : List (List UInt8)
  lv : Value
  i : Nat
  ds : List (List UInt8)
  dv : Value
set_option maxHeartbeats 16000000 in
theorem path_spec (C : Cry) (l : List (List UInt8)) (s : C.σ) (v : Value) (i : Nat) (F : PH) (h : RowV tyByt F v l) (hs : Small l) (hr : C.room s + 2 * l.length ≤ 80000) (hi : i < l.length) : Spec Try.prog 13 [C.v, v, .int .i64 i] F (C.A s) fun u F' H' => DgV F' u (pathP C s l i).1 ∧ H' = C.A (pathP C s l i).2 := by
  obtain ⟨a, c, rfl, hc⟩ := h.form
  have hn := downP_n C _ s l i (Nat.le_refl _)
  have h32 := downP_32 C _ s l i (Nat.le_refl _)
  refine Spec.of3 Try.func13 rfl rfl fun X w0 => ?_
  repeat (first|refine zJ rfl rfl ?_|refine jr rfl ?_|refine jn ?_|refine zM rfl rfl ?_|(refine zC rfl rfl ?_ rfl ?_;omega)|(refine zD rfl rfl ?_ rfl ?_;omega)|(refine zP rfl ?_ rfl ?_;omega)|refine zG rfl rfl rfl rfl ?_|(refine jdq rfl rfl ?_ ?_ ?_;kernel_rfl;kernel_rfl)|refine zB rfl rfl rfl (by repeat constructor) rfl ?_|refine zH .here rfl rfl rfl rfl ?_|refine zH (.there .here) rfl rfl rfl rfl ?_|refine zH (.there (.there .here)) rfl rfl rfl rfl ?_)
  refine J_own_nil 28 32 ?_
  refine J_loop (ι := Pst C) (fun t => F.le t.G ∧ RowV tyByt t.G t.lv t.l ∧ Small t.l ∧ C.room t.s + 2 * t.l.length ≤ 80000 ∧ t.l.length ≤ l.length ∧ t.i < t.l.length ∧ D32 t.ds ∧ t.ds.length + t.l.length ≤ l.length + 1 ∧ (downP C s l i).1 = t.ds ++ (downP C t.s t.l t.i).1 ∧ (downP C s l i).2 = (downP C t.s t.l t.i).2) (fun t => t.l.length)
    (fun t => [(0, C.v), (1, t.lv), (2, .int .i64 t.i), (7, t.dv)]) (fun t => t.G) (fun t => own t.dv 28 32 t.ds.length (dgC t.ds) :: (C.A t.s ++ X)) ⟨F, s, l, .slice a l.length c, i, [], .slice none 0 0⟩
    ⟨PH.ler _, h, hs, hr, Nat.le_refl _, hi, (fun _ h => by cases h), by dsimp only [List.length_nil]; omega, rfl, rfl⟩ ⟨⟨rfl, rfl, rfl, rfl, trivial⟩, fun _ s => s⟩ ?_
  rintro ⟨G, s1, l1, lv, i1, ds, dv⟩ ⟨hG, hrow, hs1, hr1, hll, hi1, hd32, hdl, he1, he2⟩
  dsimp only at hG hrow hs1 hr1 hll hi1 hd32 hdl he1 he2 ⊢
  obtain ⟨a1, c1, rfl, hc1⟩ := hrow.form
  by_cases h1 : l1.length ≤ 1
  · rw [downP_1 C s1 l1 i1 h1] at he1 he2
    dsimp only at he1 he2
    rw [List.append_nil] at he1
    refine jOwn .here fun a7 k7 hv7 _ _ _ => ?_
    subst hv7
    repeat (first|refine zJ rfl rfl ?_|refine jr rfl ?_|refine jn ?_|refine zM rfl rfl ?_|(refine zC rfl rfl ?_ rfl ?_;omega)|(refine zD rfl rfl ?_ rfl ?_;omega)|(refine zP rfl ?_ rfl ?_;omega)|refine zG rfl rfl rfl rfl ?_|(refine jdq rfl rfl ?_ ?_ ?_;kernel_rfl;kernel_rfl)|refine zB rfl rfl rfl (by repeat constructor) rfl ?_|refine zH .here rfl rfl rfl rfl ?_|refine zH (.there .here) rfl rfl rfl rfl ?_|refine zH (.there (.there .here)) rfl rfl rfl rfl ?_)
    refine oE (ev_make_full (c := ds.length) rfl rfl elD (by omega)) rfl ?_
    rintro _ _ _ _ ⟨rfl, ⟨b9, rfl⟩, rfl⟩
    refine oPick (.there .here) ?_
    refine oPersist fun hh hA hd => ?_
    have hdv := own_slice hA hd
    have hF1 := PH.le_l G hh
    generalize G.un hh = G1 at *
    have hrep : (List.replicate ds.length (Value.agg (u8s zd32).toArray).cells.toList).flatten = dgC (List.replicate (ds.length - 0) zd32 ++ (ds.take 0).reverse) := by
      rw [List.take_zero, List.reverse_nil, List.append_nil, Nat.sub_zero]
      unfold dgC
      rw [List.map_replicate]
      rfl
    rw [hrep]
    repeat (first|refine zJ rfl rfl ?_|refine jr rfl ?_|refine jn ?_|refine zM rfl rfl ?_|(refine zC rfl rfl ?_ rfl ?_;omega)|(refine zD rfl rfl ?_ rfl ?_;omega)|(refine zP rfl ?_ rfl ?_;omega)|refine zG rfl rfl rfl rfl ?_|(refine jdq rfl rfl ?_ ?_ ?_;kernel_rfl;kernel_rfl)|refine zB rfl rfl rfl (by repeat constructor) rfl ?_|refine zH .here rfl rfl rfl rfl ?_|refine zH (.there .here) rfl rfl rfl rfl ?_|refine zH (.there (.there .here)) rfl rfl rfl rfl ?_)
    refine J_loop (ι := Nat) (fun j => j ≤ ds.length) (fun j => ds.length - j) (fun j => [(7, .slice a7 ds.length k7), (9, .slice (some ⟨b9, 0, none⟩) ds.length ds.length), (57, .slice a7 ds.length k7), (58, .int .i64 ds.length), (59, .int .i64 j)]) (fun _ => G1)
      (fun j => own (.slice (some ⟨b9, 0, none⟩) ds.length ds.length) 28 32 ds.length (dgC (List.replicate (ds.length - j) zd32 ++ (ds.take j).reverse)) :: (C.A s1 ++ X)) 0 (Nat.zero_le _) ⟨⟨rfl, rfl, rfl, rfl, rfl, trivial⟩, fun _ s => s⟩ ?_
    intro j hj
    by_cases hjl : j < ds.length
    · have g1 : ds[j]? = some ds[j] := List.getElem?_eq_getElem hjl
      have hd1 := hd32 _ (List.getElem_mem hjl)
      obtain ⟨b5, o5, rfl, hc5⟩ := DgV.at hdv hd32 g1 hjl
      have ht : ds.take (j + 1) = ds.take j ++ [ds[j]] := by rw [List.take_add_one, g1]; rfl
      generalize ds[j] = d at *
      have hd8 : (u8s d).length = 32 := by rw [u8s_len, hd1]
      have e0 : dgC (List.replicate (ds.length - j) zd32 ++ (ds.take j).reverse) = dgC (List.replicate (ds.length - 1 - j) zd32) ++ (u8s zd32 ++ dgC (ds.take j).reverse) := by
        rw [show ds.length - j = (ds.length - 1 - j) + 1 from by omega, List.replicate_succ', List.append_assoc, dgC_app]
        rfl
      have e1 : dgC (List.replicate (ds.length - (j + 1)) zd32 ++ (ds.take (j + 1)).reverse) = dgC (List.replicate (ds.length - 1 - j) zd32) ++ (u8s d ++ dgC (ds.take j).reverse) := by
        rw [show ds.length - (j + 1) = ds.length - 1 - j from by omega, ht, List.reverse_append, dgC_app]
        rfl
      have hpl : (dgC (List.replicate (ds.length - 1 - j) zd32)).length = (ds.length - 1 - j) * 32 := by
        rw [dgC_len (fun x hx => by rw [List.eq_of_mem_replicate hx]; rfl), List.length_replicate]
      have hlay : Lay (0 + (ds.length - 1 - j) * 32) (u8s d) (dgC (List.replicate (ds.length - j) zd32 ++ (ds.take j).reverse)) (dgC (List.replicate (ds.length - (j + 1)) zd32 ++ (ds.take (j + 1)).reverse)) := by
        rw [e0, e1, Nat.zero_add, ← hpl]
        exact layP (dgC (List.replicate (ds.length - 1 - j) zd32)) (layM (vs := u8s d) (zs := u8s zd32) (dgC (ds.take j).reverse) (by rw [hd8]; rfl))
      repeat (first|refine zJ rfl rfl ?_|refine jr rfl ?_|refine jn ?_|refine zM rfl rfl ?_|(refine zC rfl rfl ?_ rfl ?_;omega)|(refine zD rfl rfl ?_ rfl ?_;omega)|(refine zP rfl ?_ rfl ?_;omega)|refine zG rfl rfl rfl rfl ?_|(refine jdq rfl rfl ?_ ?_ ?_;kernel_rfl;kernel_rfl)|refine zB rfl rfl rfl (by repeat constructor) rfl ?_|refine zH .here rfl rfl rfl rfl ?_|refine zH (.there .here) rfl rfl rfl rfl ?_|refine zH (.there (.there .here)) rfl rfl rfl rfl ?_)
      refine oS (ev_indexAddr rfl rfl rfl hjl) rfl ?_
      refine oS (ev_load_agg rfl rfl (Rdb.ofF hc5) hd8) rfl ?_
      refine oE (ev_alloc (E := 28) (cs := u8s zd32) (by kernel_rfl)) rfl ?_
      rintro _ _ _ _ ⟨rfl, b11, rfl, rfl⟩
      repeat (first|refine zJ rfl rfl ?_|refine jr rfl ?_|refine jn ?_|refine zM rfl rfl ?_|(refine zC rfl rfl ?_ rfl ?_;omega)|(refine zD rfl rfl ?_ rfl ?_;omega)|(refine zP rfl ?_ rfl ?_;omega)|refine zG rfl rfl rfl rfl ?_|(refine jdq rfl rfl ?_ ?_ ?_;kernel_rfl;kernel_rfl)|refine zB rfl rfl rfl (by repeat constructor) rfl ?_|refine zH .here rfl rfl rfl rfl ?_|refine zH (.there .here) rfl rfl rfl rfl ?_|refine zH (.there (.there .here)) rfl rfl rfl rfl ?_)
      refine oN (ev_store (b := b11) rfl rfl .agg rfl hd8 (lay_all (zs := u8s zd32) (by rw [hd8]; rfl)) (u8s_ones _) .here) rfl ?_
      rintro _ _ _ _ ⟨rfl, _, rfl⟩
      repeat (first|refine zJ rfl rfl ?_|refine jr rfl ?_|refine jn ?_|refine zM rfl rfl ?_|(refine zC rfl rfl ?_ rfl ?_;omega)|(refine zD rfl rfl ?_ rfl ?_;omega)|(refine zP rfl ?_ rfl ?_;omega)|refine zG rfl rfl rfl rfl ?_|(refine jdq rfl rfl ?_ ?_ ?_;kernel_rfl;kernel_rfl)|refine zB rfl rfl rfl (by repeat constructor) rfl ?_|refine zH .here rfl rfl rfl rfl ?_|refine zH (.there .here) rfl rfl rfl rfl ?_|refine zH (.there (.there .here)) rfl rfl rfl rfl ?_)
      rw [show (ds.length : Int) - 1 - (j : Int) = ((ds.length - 1 - j : Nat) : Int) from by omega]
      refine oS (ev_load_agg (cs := u8s d) rfl rfl (Rdb.ofB (n := 0) .here (by rw [List.drop_zero, List.take_length])) hd8) rfl ?_
      refine oS (ev_indexAddr (i := ds.length - 1 - j) rfl rfl rfl (by omega)) rfl ?_
      refine oN (ev_store_own (vs := u8s d) rfl rfl .agg rfl hd8 hlay (u8s_ones _) (.there .here)) rfl ?_
      rintro _ _ _ _ ⟨rfl, _, rfl⟩
      repeat (first|refine zJ rfl rfl ?_|refine jr rfl ?_|refine jn ?_|refine zM rfl rfl ?_|(refine zC rfl rfl ?_ rfl ?_;omega)|(refine zD rfl rfl ?_ rfl ?_;omega)|(refine zP rfl ?_ rfl ?_;omega)|refine zG rfl rfl rfl rfl ?_|(refine jdq rfl rfl ?_ ?_ ?_;kernel_rfl;kernel_rfl)|refine zB rfl rfl rfl (by repeat constructor) rfl ?_|refine zH .here rfl rfl rfl rfl ?_|refine zH (.there .here) rfl rfl rfl rfl ?_|refine zH (.there (.there .here)) rfl rfl rfl rfl ?_)
      exact J_again (j + 1) hjl (by omega) ⟨⟨rfl, rfl, rfl, rfl, rfl, trivial⟩, fun w s => s.drop⟩
    · obtain rfl : j = ds.length := by omega
      rw [Nat.sub_self, List.take_length, List.replicate_zero, List.nil_append]
      repeat (first|refine zJ rfl rfl ?_|refine jr rfl ?_|refine jn ?_|refine zM rfl rfl ?_|(refine zC rfl rfl ?_ rfl ?_;omega)|(refine zD rfl rfl ?_ rfl ?_;omega)|(refine zP rfl ?_ rfl ?_;omega)|refine zG rfl rfl rfl rfl ?_|(refine jdq rfl rfl ?_ ?_ ?_;kernel_rfl;kernel_rfl)|refine zB rfl rfl rfl (by repeat constructor) rfl ?_|refine zH .here rfl rfl rfl rfl ?_|refine zH (.there .here) rfl rfl rfl rfl ?_|refine zH (.there (.there .here)) rfl rfl rfl rfl ?_)
      refine J_persist fun hh hA hd => ?_
      have hout := own_slice hA hd
      refine J_retv rfl (.tmp rfl .nil) (C.A s1) (fun w s => s) (hG.trans (hF1.trans (PH.le_l _ _))) ⟨?_, ?_⟩
      · unfold pathP DgV
        dsimp only
        rw [he1, List.length_reverse]
        exact hout
      · unfold pathP
        dsimp only
        rw [he2]
  · obtain ⟨hp, hl⟩ := halfP_lt (n := l1.length) (by omega)
    have hpre := hrow.pre (halfP l1.length) (by omega)
    have hsuf := hrow.suf (halfP l1.length) (by omega) hc1
    have hl1 : (l1.take (halfP l1.length)).length = halfP l1.length := by rw [List.length_take]; omega
    have hl2 : (l1.drop (halfP l1.length)).length = l1.length - halfP l1.length := by rw [List.length_drop]
    have hs1' : Small (l1.take (halfP l1.length)) := fun x hx => hs1 x (List.mem_of_mem_take hx)
    have hs2 : Small (l1.drop (halfP l1.length)) := fun x hx => hs1 x (List.mem_of_mem_drop hx)
    repeat (first|refine zJ rfl rfl ?_|refine jr rfl ?_|refine jn ?_|refine zM rfl rfl ?_|(refine zC rfl rfl ?_ rfl ?_;omega)|(refine zD rfl rfl ?_ rfl ?_;omega)|(refine zP rfl ?_ rfl ?_;omega)|refine zG rfl rfl rfl rfl ?_|(refine jdq rfl rfl ?_ ?_ ?_;kernel_rfl;kernel_rfl)|refine zB rfl rfl rfl (by repeat constructor) rfl ?_|refine zH .here rfl rfl rfl rfl ?_|refine zH (.there .here) rfl rfl rfl rfl ?_|refine zH (.there (.there .here)) rfl rfl rfl rfl ?_)
    refine oP (half_spec l1.length G (by omega) (by omega)) Try.call25 rfl rfl ?_
    by_cases him : i1 < halfP l1.length
    · rw [downP_l C s1 l1 i1 (by omega) him] at he1 he2
      dsimp only at he1 he2
      have r1 := rootP_room C _ s1 (l1.drop (halfP l1.length)) (Nat.le_refl _)
      rw [hl2, if_neg (by omega)] at r1
      have n1 := rootP_len C s1 (l1.drop (halfP l1.length))
      have h32r : (u8s (rootP C s1 (l1.drop (halfP l1.length))).1).length = 32 := by rw [u8s_len, n1]
      repeat (first|refine zJ rfl rfl ?_|refine jr rfl ?_|refine jn ?_|refine zM rfl rfl ?_|(refine zC rfl rfl ?_ rfl ?_;omega)|(refine zD rfl rfl ?_ rfl ?_;omega)|(refine zP rfl ?_ rfl ?_;omega)|refine zG rfl rfl rfl rfl ?_|(refine jdq rfl rfl ?_ ?_ ?_;kernel_rfl;kernel_rfl)|refine zB rfl rfl rfl (by repeat constructor) rfl ?_|refine zH .here rfl rfl rfl rfl ?_|refine zH (.there .here) rfl rfl rfl rfl ?_|refine zH (.there (.there .here)) rfl rfl rfl rfl ?_)
      refine ja G [] ?_ (fun w t => t.bare) ?_; kernel_rfl
      refine aT 0 rfl (ev_qe rfl) rfl rfl ?_ ?_ ?_ ?_; kernel_rfl; kernel_rfl; kernel_rfl
      refine aT 1 rfl (ev_qe rfl) rfl rfl ?_ ?_ ?_ ?_; kernel_rfl; kernel_rfl; kernel_rfl
      refine aT 2 rfl (ev_qe rfl) rfl rfl ?_ ?_ ?_ ?_; kernel_rfl; kernel_rfl; kernel_rfl
      refine aT 3 rfl (ev_qe rfl) rfl rfl ?_ ?_ ?_ ?_; kernel_rfl; kernel_rfl; kernel_rfl
      refine aT 4 rfl (ev_slice_lo (lo := halfP l1.length) rfl rfl rfl (by omega)) rfl rfl ?_ ?_ ?_ ?_; kernel_rfl; kernel_rfl; kernel_rfl
      refine aT 8 rfl (ev_qe rfl) rfl rfl ?_ ?_ ?_ ?_; kernel_rfl; kernel_rfl; kernel_rfl
      refine aT 9 rfl (ev_qe rfl) rfl rfl ?_ ?_ ?_ ?_; kernel_rfl; kernel_rfl; kernel_rfl
      refine aT 10 rfl (ev_slice_hi (h := halfP l1.length) rfl rfl rfl (by omega)) rfl rfl ?_ ?_ ?_ ?_; kernel_rfl; kernel_rfl; kernel_rfl
      refine aB (i := 5) (by kernel_rfl) (aC (Hc := C.A s1) (Hr := own dv 28 32 ds.length (dgC ds) :: X) rfl (root_spec C _ (l1.drop (halfP l1.length)) s1 _ G (Nat.le_refl _) (hsuf) hs2 (by omega)) Try.call11 rfl rfl rfl (fun _ t => t.front (A := [_])) (fun _ _ _ hF hq w t => t.bare.mono hF) ?_)
      rintro _ F1 _ hF1 ⟨rfl, rfl⟩
      refine aWeak (F' := F1) (H' := own dv 28 32 ds.length (dgC ds) :: (C.A (rootP C s1 (l1.drop (halfP l1.length))).2 ++ X)) ?_ (fun w t => t.bare.mono hF1) (fun w t => t.bring)
      refine aB (i := 6) (by kernel_rfl) (aE rfl (ev_one rfl .agg h32r elD) rfl rfl (fun _ _ _ hF hq w t => t.bare.mono (hF1.trans hF)) ?_)
      rintro _ _ _ _ ⟨rfl, bt, rfl, rfl⟩
      refine aB (i := 7) (by kernel_rfl) (aE rfl (ev_append (m := 1) (c := 1) (b := bt) (off := 0) (n := ds.length) (xs := dgC ds) (news := u8s (rootP C s1 (l1.drop (halfP l1.length))).1) (K := fun v' => blk bt 28 (u8s (rootP C s1 (l1.drop (halfP l1.length))).1) :: own v' 28 32 (ds.length + 1) (dgC ds ++ u8s (rootP C s1 (l1.drop (halfP l1.length))).1) :: (C.A (rootP C s1 (l1.drop (halfP l1.length))).2 ++ X)) rfl rfl elD (Rdb.ofB (n := 0) .here (by rw [List.drop_zero, List.take_length])) (by rw [h32r]) (u8s_ones _) (by omega) (by unfold maxLen; omega) (fun v' => .there .here)) rfl rfl (fun _ _ _ hF hq w t => t.bare.mono (hF1.trans hF)) ?_)
      rintro u _ _ _ ⟨rfl, _, rfl⟩
      refine aT 11 rfl (ev_qe rfl) rfl rfl ?_ ?_ ?_ ?_; kernel_rfl; kernel_rfl; kernel_rfl
      refine aT 12 rfl (ev_qe rfl) rfl rfl ?_ ?_ ?_ ?_; kernel_rfl; kernel_rfl; kernel_rfl
      refine aD (by kernel_rfl) ?_
      repeat (first|refine zJ rfl rfl ?_|refine jr rfl ?_|refine jn ?_|refine zM rfl rfl ?_|(refine zC rfl rfl ?_ rfl ?_;omega)|(refine zD rfl rfl ?_ rfl ?_;omega)|(refine zP rfl ?_ rfl ?_;omega)|refine zG rfl rfl rfl rfl ?_|(refine jdq rfl rfl ?_ ?_ ?_;kernel_rfl;kernel_rfl)|refine zB rfl rfl rfl (by repeat constructor) rfl ?_|refine zH .here rfl rfl rfl rfl ?_|refine zH (.there .here) rfl rfl rfl rfl ?_|refine zH (.there (.there .here)) rfl rfl rfl rfl ?_)
      refine J_again ⟨F1, (rootP C s1 (l1.drop (halfP l1.length))).2, (l1.take (halfP l1.length)), .slice a1 (halfP l1.length) c1, i1, ds ++ [(rootP C s1 (l1.drop (halfP l1.length))).1], u⟩ ⟨hG.trans hF1, hpre.mono hF1, hs1', ?_, ?_, ?_, ?_, ?_, ?_, he2⟩ ?_ ⟨⟨rfl, rfl, ?_, rfl, trivial⟩, fun w s => ?_⟩
      · dsimp only; rw [hl1]; omega
      · dsimp only; rw [hl1]; omega
      · dsimp only; rw [hl1]; omega
      · intro d hd
        rcases List.mem_append.1 hd with hd | hd
        · exact hd32 d hd
        · rw [List.mem_singleton] at hd; rw [hd]; exact n1
      · dsimp only; rw [hl1, List.length_append, List.length_singleton]; omega
      · rw [he1, List.append_assoc]; rfl
      · dsimp only; rw [hl1]; omega
      · rfl
      · dsimp only
        rw [List.length_append, List.length_singleton, dgC_snoc]
        exact s.drop
    · rw [downP_r C s1 l1 i1 (by omega) him] at he1 he2
      dsimp only at he1 he2
      have r1 := rootP_room C _ s1 (l1.take (halfP l1.length)) (Nat.le_refl _)
      rw [hl1, if_neg (by omega)] at r1
      have n1 := rootP_len C s1 (l1.take (halfP l1.length))
      have h32r : (u8s (rootP C s1 (l1.take (halfP l1.length))).1).length = 32 := by rw [u8s_len, n1]
      repeat (first|refine zJ rfl rfl ?_|refine jr rfl ?_|refine jn ?_|refine zM rfl rfl ?_|(refine zC rfl rfl ?_ rfl ?_;omega)|(refine zD rfl rfl ?_ rfl ?_;omega)|(refine zP rfl ?_ rfl ?_;omega)|refine zG rfl rfl rfl rfl ?_|(refine jdq rfl rfl ?_ ?_ ?_;kernel_rfl;kernel_rfl)|refine zB rfl rfl rfl (by repeat constructor) rfl ?_|refine zH .here rfl rfl rfl rfl ?_|refine zH (.there .here) rfl rfl rfl rfl ?_|refine zH (.there (.there .here)) rfl rfl rfl rfl ?_)
      refine ja G [] ?_ (fun w t => t.bare) ?_; kernel_rfl
      refine aT 0 rfl (ev_qe rfl) rfl rfl ?_ ?_ ?_ ?_; kernel_rfl; kernel_rfl; kernel_rfl
      refine aT 1 rfl (ev_qe rfl) rfl rfl ?_ ?_ ?_ ?_; kernel_rfl; kernel_rfl; kernel_rfl
      refine aT 2 rfl (ev_qe rfl) rfl rfl ?_ ?_ ?_ ?_; kernel_rfl; kernel_rfl; kernel_rfl
      refine aT 3 rfl (ev_qe rfl) rfl rfl ?_ ?_ ?_ ?_; kernel_rfl; kernel_rfl; kernel_rfl
      refine aT 4 rfl (ev_slice_hi (h := halfP l1.length) rfl rfl rfl (by omega)) rfl rfl ?_ ?_ ?_ ?_; kernel_rfl; kernel_rfl; kernel_rfl
      refine aT 8 rfl (ev_qe rfl) rfl rfl ?_ ?_ ?_ ?_; kernel_rfl; kernel_rfl; kernel_rfl
      refine aT 9 rfl (ev_qe rfl) rfl rfl ?_ ?_ ?_ ?_; kernel_rfl; kernel_rfl; kernel_rfl
      refine aT 10 rfl (ev_slice_lo (lo := halfP l1.length) rfl rfl rfl (by omega)) rfl rfl ?_ ?_ ?_ ?_; kernel_rfl; kernel_rfl; kernel_rfl
      refine aT 11 rfl (ev_qe rfl) rfl rfl ?_ ?_ ?_ ?_; kernel_rfl; kernel_rfl; kernel_rfl
      refine aT 12 rfl (ev_qe rfl) rfl rfl ?_ ?_ ?_ ?_; kernel_rfl; kernel_rfl; kernel_rfl
      refine aT 13 rfl (ev_sub (m := (i1 : Int)) (n := (halfP l1.length : Int)) rfl rfl (by dsimp only [InK]; omega)) rfl rfl ?_ ?_ ?_ ?_; kernel_rfl; kernel_rfl; kernel_rfl
      refine aB (i := 5) (by kernel_rfl) (aC (Hc := C.A s1) (Hr := own dv 28 32 ds.length (dgC ds) :: X) rfl (root_spec C _ (l1.take (halfP l1.length)) s1 _ G (Nat.le_refl _) (hpre) hs1' (by omega)) Try.call11 rfl rfl rfl (fun _ t => t.front (A := [_])) (fun _ _ _ hF hq w t => t.bare.mono hF) ?_)
      rintro _ F1 _ hF1 ⟨rfl, rfl⟩
      refine aWeak (F' := F1) (H' := own dv 28 32 ds.length (dgC ds) :: (C.A (rootP C s1 (l1.take (halfP l1.length))).2 ++ X)) ?_ (fun w t => t.bare.mono hF1) (fun w t => t.bring)
      refine aB (i := 6) (by kernel_rfl) (aE rfl (ev_one rfl .agg h32r elD) rfl rfl (fun _ _ _ hF hq w t => t.bare.mono (hF1.trans hF)) ?_)
      rintro _ _ _ _ ⟨rfl, bt, rfl, rfl⟩
      refine aB (i := 7) (by kernel_rfl) (aE rfl (ev_append (m := 1) (c := 1) (b := bt) (off := 0) (n := ds.length) (xs := dgC ds) (news := u8s (rootP C s1 (l1.take (halfP l1.length))).1) (K := fun v' => blk bt 28 (u8s (rootP C s1 (l1.take (halfP l1.length))).1) :: own v' 28 32 (ds.length + 1) (dgC ds ++ u8s (rootP C s1 (l1.take (halfP l1.length))).1) :: (C.A (rootP C s1 (l1.take (halfP l1.length))).2 ++ X)) rfl rfl elD (Rdb.ofB (n := 0) .here (by rw [List.drop_zero, List.take_length])) (by rw [h32r]) (u8s_ones _) (by omega) (by unfold maxLen; omega) (fun v' => .there .here)) rfl rfl (fun _ _ _ hF hq w t => t.bare.mono (hF1.trans hF)) ?_)
      rintro u _ _ _ ⟨rfl, _, rfl⟩
      refine aT 14 rfl (ev_qe rfl) rfl rfl ?_ ?_ ?_ ?_; kernel_rfl; kernel_rfl; kernel_rfl
      refine aT 15 rfl (ev_qe rfl) rfl rfl ?_ ?_ ?_ ?_; kernel_rfl; kernel_rfl; kernel_rfl
      refine aT 16 rfl (ev_qe rfl) rfl rfl ?_ ?_ ?_ ?_; kernel_rfl; kernel_rfl; kernel_rfl
      refine aD (by kernel_rfl) ?_
      repeat (first|refine zJ rfl rfl ?_|refine jr rfl ?_|refine jn ?_|refine zM rfl rfl ?_|(refine zC rfl rfl ?_ rfl ?_;omega)|(refine zD rfl rfl ?_ rfl ?_;omega)|(refine zP rfl ?_ rfl ?_;omega)|refine zG rfl rfl rfl rfl ?_|(refine jdq rfl rfl ?_ ?_ ?_;kernel_rfl;kernel_rfl)|refine zB rfl rfl rfl (by repeat constructor) rfl ?_|refine zH .here rfl rfl rfl rfl ?_|refine zH (.there .here) rfl rfl rfl rfl ?_|refine zH (.there (.there .here)) rfl rfl rfl rfl ?_)
      refine J_again ⟨F1, (rootP C s1 (l1.take (halfP l1.length))).2, (l1.drop (halfP l1.length)), cutV a1 tyByt.sz c1 (halfP l1.length) l1.length c1, (i1 - halfP l1.length), ds ++ [(rootP C s1 (l1.take (halfP l1.length))).1], u⟩ ⟨hG.trans hF1, hsuf.mono hF1, hs2, ?_, ?_, ?_, ?_, ?_, ?_, he2⟩ ?_ ⟨⟨rfl, rfl, ?_, rfl, trivial⟩, fun w s => ?_⟩
      · dsimp only; rw [hl2]; omega
      · dsimp only; rw [hl2]; omega
      · dsimp only; rw [hl2]; omega
      · intro d hd
        rcases List.mem_append.1 hd with hd | hd
        · exact hd32 d hd
        · rw [List.mem_singleton] at hd; rw [hd]; exact n1
      · dsimp only; rw [hl2, List.length_append, List.length_singleton]; omega
      · rw [he1, List.append_assoc]; rfl
      · dsimp only; rw [hl2]; omega
      · dsimp only; rw [show ((i1 - halfP l1.length : Nat) : Int) = (i1 : Int) - (halfP l1.length : Int) from by omega]; rfl
      · dsimp only
        rw [List.length_append, List.length_singleton, dgC_snoc]
        exact s.drop
end Go.Proofs.Ytohlmhoacjodjaa
namespace Go.Proofs.Ytohlmhoacjodjaa
open Go.RowKit
set_option maxRecDepth 100000
def turnsF : Nat → Nat → Nat → List Bool
  | 0, _, _ => []
  | f + 1, n, i => if n ≤ 1 then [] else if i < halfP n then false :: turnsF f (halfP n) i else true :: turnsF f (n - halfP n) (i - halfP n)
theorem turnsF_fuel : ∀ (f g n i : Nat), n < f → n < g → turnsF f n i = turnsF g n i
  | 0, _, _, _, h, _ => absurd h (Nat.not_lt_zero _)
  | _ + 1, 0, _, _, _, h => absurd h (Nat.not_lt_zero _)
  | f + 1, g + 1, n, i, h1, h2 => by
    unfold turnsF
    by_cases h0 : n ≤ 1
    · rw [if_pos h0, if_pos h0]
    · rw [if_neg h0, if_neg h0]
      obtain ⟨hp, hl⟩ := halfP_lt (n := n) (by omega)
      by_cases hi : i < halfP n
      · rw [if_pos hi, if_pos hi, turnsF_fuel f g _ _ (by omega) (by omega)]
      · rw [if_neg hi, if_neg hi, turnsF_fuel f g _ _ (by omega) (by omega)]
def turnsP (n i : Nat) : List Bool := turnsF (n + 1) n i
theorem turnsP_1 {n : Nat} (i : Nat) (h : n ≤ 1) : turnsP n i = [] := by
  unfold turnsP turnsF
  rw [if_pos h]
theorem turnsP_l {n i : Nat} (h : 2 ≤ n) (hi : i < halfP n) : turnsP n i = false :: turnsP (halfP n) i := by
  obtain ⟨hp, hl⟩ := halfP_lt h
  unfold turnsP
  rw [turnsF_fuel (halfP n + 1) n _ _ (by omega) hl]
  show (if n ≤ 1 then _ else if i < halfP n then _ else _) = _
  rw [if_neg (by omega), if_pos hi]
theorem turnsP_r {n i : Nat} (h : 2 ≤ n) (hi : ¬ i < halfP n) : turnsP n i = true :: turnsP (n - halfP n) (i - halfP n) := by
  obtain ⟨hp, hl⟩ := halfP_lt h
  unfold turnsP
  rw [turnsF_fuel (n - halfP n + 1) n _ _ (by omega) (by omega)]
  show (if n ≤ 1 then _ else if i < halfP n then _ else _) = _
  rw [if_neg (by omega), if_neg hi]
theorem turnsP_len : ∀ (f n i : Nat), n ≤ f → (turnsP n i).length ≤ n
  | 0, n, i, h => by rw [turnsP_1 i (by omega)]; exact Nat.zero_le _
  | f + 1, n, i, h => by
    by_cases h1 : n ≤ 1
    · rw [turnsP_1 i h1]; exact Nat.zero_le _
    · obtain ⟨hp, hl⟩ := halfP_lt (n := n) (by omega)
      by_cases hi : i < halfP n
      · rw [turnsP_l (by omega) hi, List.length_cons]
        have := turnsP_len f (halfP n) i (by omega)
        omega
      · rw [turnsP_r (by omega) hi, List.length_cons]
        have := turnsP_len f (n - halfP n) (i - halfP n) (by omega)
        omega
def bls (bs : List Bool) : List Value := bs.map Value.bool
theorem elBo : Elem Try.prog 70 4 1 1 (.bool false) := ⟨rfl, ⟨_, rfl, rfl, rfl, rfl, rfl, by decide⟩, rfl, rfl⟩
theorem bls_ones (bs : List Bool) : Ones (bls bs) := fun v hv => by
  obtain ⟨b, _, rfl⟩ := List.mem_map.1 hv
  rfl
set_option maxHeartbeats 4000000 in
theorem turns_spec (n i : Nat) (F : PH) (hn : n ≤ 1048576) (hi : i < n) : Spec Try.prog 30 [.int .i64 n, .int .i64 i] F [] fun u F' H' => F = F' ∧ H' = [own u 4 1 (turnsP n i).length (bls (turnsP n i))] := by
  have htl := turnsP_len n n i (Nat.le_refl _)
  refine Spec.of2 Try.func30 rfl rfl fun X w0 => ?_
  repeat (first|refine zJ rfl rfl ?_|refine jr rfl ?_|refine jn ?_|refine zM rfl rfl ?_|(refine zC rfl rfl ?_ rfl ?_;omega)|(refine zD rfl rfl ?_ rfl ?_;omega)|(refine zP rfl ?_ rfl ?_;omega)|refine zG rfl rfl rfl rfl ?_|(refine jdq rfl rfl ?_ ?_ ?_;kernel_rfl;kernel_rfl)|refine zB rfl rfl rfl (by repeat constructor) rfl ?_|refine zH .here rfl rfl rfl rfl ?_|refine zH (.there .here) rfl rfl rfl rfl ?_|refine zH (.there (.there .here)) rfl rfl rfl rfl ?_)
  refine J_own_nil 4 1 ?_
  refine J_loop4 (fun (m k : Nat) (bs : List Bool) (v : Value) => m ≤ n ∧ k < m ∧ turnsP n i = bs ++ turnsP m k ∧ bs.length + m ≤ n + 0) (fun m _ _ _ => m)
    (fun m k _ v => [(0, .int .i64 m), (1, .int .i64 k), (5, v)]) (fun _ _ _ _ => F) (fun _ _ bs v => own v 4 1 bs.length (bls bs) :: X) n i [] (.slice none 0 0) ⟨Nat.le_refl _, hi, rfl, by simp⟩ ⟨⟨rfl, rfl, rfl, trivial⟩, fun _ s => s⟩ ?_
  rintro m k bs v ⟨hm, hk, he, hbl⟩
  by_cases h1 : m ≤ 1
  · rw [turnsP_1 k h1, List.append_nil] at he
    repeat (first|refine zJ rfl rfl ?_|refine jr rfl ?_|refine jn ?_|refine zM rfl rfl ?_|(refine zC rfl rfl ?_ rfl ?_;omega)|(refine zD rfl rfl ?_ rfl ?_;omega)|(refine zP rfl ?_ rfl ?_;omega)|refine zG rfl rfl rfl rfl ?_|(refine jdq rfl rfl ?_ ?_ ?_;kernel_rfl;kernel_rfl)|refine zB rfl rfl rfl (by repeat constructor) rfl ?_|refine zH .here rfl rfl rfl rfl ?_|refine zH (.there .here) rfl rfl rfl rfl ?_|refine zH (.there (.there .here)) rfl rfl rfl rfl ?_)
    rw [he]
    exact J_ret1 rfl rfl [_] rfl (PH.ler _) ⟨rfl, rfl⟩
  · obtain ⟨hp, hl⟩ := halfP_lt (n := m) (by omega)
    refine jOwn .here fun a7 k7 hv7 _ _ _ => ?_
    subst hv7
    by_cases hk2 : k < halfP m
    · rw [turnsP_l (by omega) hk2] at he
      repeat (first|refine zJ rfl rfl ?_|refine jr rfl ?_|refine jn ?_|refine zM rfl rfl ?_|(refine zC rfl rfl ?_ rfl ?_;omega)|(refine zD rfl rfl ?_ rfl ?_;omega)|(refine zP rfl ?_ rfl ?_;omega)|refine zG rfl rfl rfl rfl ?_|(refine jdq rfl rfl ?_ ?_ ?_;kernel_rfl;kernel_rfl)|refine zB rfl rfl rfl (by repeat constructor) rfl ?_|refine zH .here rfl rfl rfl rfl ?_|refine zH (.there .here) rfl rfl rfl rfl ?_|refine zH (.there (.there .here)) rfl rfl rfl rfl ?_)
      refine oP (half_spec m F (by omega) (by omega)) Try.call25 rfl rfl ?_
      repeat (first|refine zJ rfl rfl ?_|refine jr rfl ?_|refine jn ?_|refine zM rfl rfl ?_|(refine zC rfl rfl ?_ rfl ?_;omega)|(refine zD rfl rfl ?_ rfl ?_;omega)|(refine zP rfl ?_ rfl ?_;omega)|refine zG rfl rfl rfl rfl ?_|(refine jdq rfl rfl ?_ ?_ ?_;kernel_rfl;kernel_rfl)|refine zB rfl rfl rfl (by repeat constructor) rfl ?_|refine zH .here rfl rfl rfl rfl ?_|refine zH (.there .here) rfl rfl rfl rfl ?_|refine zH (.there (.there .here)) rfl rfl rfl rfl ?_)
      try rw [decide_eq_false (show ¬ (halfP m : Int) ≤ (k : Int) by omega)]
      repeat (first|refine zJ rfl rfl ?_|refine jr rfl ?_|refine jn ?_|refine zM rfl rfl ?_|(refine zC rfl rfl ?_ rfl ?_;omega)|(refine zD rfl rfl ?_ rfl ?_;omega)|(refine zP rfl ?_ rfl ?_;omega)|refine zG rfl rfl rfl rfl ?_|(refine jdq rfl rfl ?_ ?_ ?_;kernel_rfl;kernel_rfl)|refine zB rfl rfl rfl (by repeat constructor) rfl ?_|refine zH .here rfl rfl rfl rfl ?_|refine zH (.there .here) rfl rfl rfl rfl ?_|refine zH (.there (.there .here)) rfl rfl rfl rfl ?_)
      refine oA (vs := [.bool false]) (K := fun v' => own v' 4 1 (bs.length + 1) (bls bs ++ [.bool false]) :: X) (fun _ => rfl) rfl .bool rfl elBo (ones_cons rfl ones_nil) (by omega) (fun _ => .here) rfl (fun _ => rfl) fun u _ => ?_
      repeat (first|refine zJ rfl rfl ?_|refine jr rfl ?_|refine jn ?_|refine zM rfl rfl ?_|(refine zC rfl rfl ?_ rfl ?_;omega)|(refine zD rfl rfl ?_ rfl ?_;omega)|(refine zP rfl ?_ rfl ?_;omega)|refine zG rfl rfl rfl rfl ?_|(refine jdq rfl rfl ?_ ?_ ?_;kernel_rfl;kernel_rfl)|refine zB rfl rfl rfl (by repeat constructor) rfl ?_|refine zH .here rfl rfl rfl rfl ?_|refine zH (.there .here) rfl rfl rfl rfl ?_|refine zH (.there (.there .here)) rfl rfl rfl rfl ?_)
      refine J_again4 (halfP m) k (bs ++ [false]) u ⟨by omega, hk2, by rw [he, List.append_assoc]; rfl, by rw [List.length_append, List.length_singleton]; omega⟩ hl ⟨⟨rfl, rfl, rfl, trivial⟩, fun w s => ?_⟩
      rw [List.length_append, List.length_singleton, show bls (bs ++ [false]) = bls bs ++ [.bool false] from by simp [bls]]
      exact s
    · rw [turnsP_r (by omega) hk2] at he
      repeat (first|refine zJ rfl rfl ?_|refine jr rfl ?_|refine jn ?_|refine zM rfl rfl ?_|(refine zC rfl rfl ?_ rfl ?_;omega)|(refine zD rfl rfl ?_ rfl ?_;omega)|(refine zP rfl ?_ rfl ?_;omega)|refine zG rfl rfl rfl rfl ?_|(refine jdq rfl rfl ?_ ?_ ?_;kernel_rfl;kernel_rfl)|refine zB rfl rfl rfl (by repeat constructor) rfl ?_|refine zH .here rfl rfl rfl rfl ?_|refine zH (.there .here) rfl rfl rfl rfl ?_|refine zH (.there (.there .here)) rfl rfl rfl rfl ?_)
      refine oP (half_spec m F (by omega) (by omega)) Try.call25 rfl rfl ?_
      repeat (first|refine zJ rfl rfl ?_|refine jr rfl ?_|refine jn ?_|refine zM rfl rfl ?_|(refine zC rfl rfl ?_ rfl ?_;omega)|(refine zD rfl rfl ?_ rfl ?_;omega)|(refine zP rfl ?_ rfl ?_;omega)|refine zG rfl rfl rfl rfl ?_|(refine jdq rfl rfl ?_ ?_ ?_;kernel_rfl;kernel_rfl)|refine zB rfl rfl rfl (by repeat constructor) rfl ?_|refine zH .here rfl rfl rfl rfl ?_|refine zH (.there .here) rfl rfl rfl rfl ?_|refine zH (.there (.there .here)) rfl rfl rfl rfl ?_)
      try rw [decide_eq_true (show (halfP m : Int) ≤ (k : Int) by omega)]
      repeat (first|refine zJ rfl rfl ?_|refine jr rfl ?_|refine jn ?_|refine zM rfl rfl ?_|(refine zC rfl rfl ?_ rfl ?_;omega)|(refine zD rfl rfl ?_ rfl ?_;omega)|(refine zP rfl ?_ rfl ?_;omega)|refine zG rfl rfl rfl rfl ?_|(refine jdq rfl rfl ?_ ?_ ?_;kernel_rfl;kernel_rfl)|refine zB rfl rfl rfl (by repeat constructor) rfl ?_|refine zH .here rfl rfl rfl rfl ?_|refine zH (.there .here) rfl rfl rfl rfl ?_|refine zH (.there (.there .here)) rfl rfl rfl rfl ?_)
      refine oA (vs := [.bool true]) (K := fun v' => own v' 4 1 (bs.length + 1) (bls bs ++ [.bool true]) :: X) (fun _ => rfl) rfl .bool rfl elBo (ones_cons rfl ones_nil) (by omega) (fun _ => .here) rfl (fun _ => rfl) fun u _ => ?_
      repeat (first|refine zJ rfl rfl ?_|refine jr rfl ?_|refine jn ?_|refine zM rfl rfl ?_|(refine zC rfl rfl ?_ rfl ?_;omega)|(refine zD rfl rfl ?_ rfl ?_;omega)|(refine zP rfl ?_ rfl ?_;omega)|refine zG rfl rfl rfl rfl ?_|(refine jdq rfl rfl ?_ ?_ ?_;kernel_rfl;kernel_rfl)|refine zB rfl rfl rfl (by repeat constructor) rfl ?_|refine zH .here rfl rfl rfl rfl ?_|refine zH (.there .here) rfl rfl rfl rfl ?_|refine zH (.there (.there .here)) rfl rfl rfl rfl ?_)
      refine J_again4 (m - halfP m) (k - halfP m) (bs ++ [true]) u ⟨by omega, by omega, by rw [he, List.append_assoc]; rfl, by rw [List.length_append, List.length_singleton]; omega⟩ (by omega) ⟨⟨?_, ?_, rfl, trivial⟩, fun w s => ?_⟩
      · rw [show ((m - halfP m : Nat) : Int) = (m : Int) - (halfP m : Int) from by omega]; rfl
      · rw [show ((k - halfP m : Nat) : Int) = (k : Int) - (halfP m : Int) from by omega]; rfl
      · rw [List.length_append, List.length_singleton, show bls (bs ++ [true]) = bls bs ++ [.bool true] from by simp [bls]]
        exact s
/-- From the leaf up: what stands beside, and whether the leaf's side is the right one. -/
def upF (C : Cry) : C.σ → List UInt8 → List (List UInt8 × Bool) → List UInt8 × C.σ
  | s, d, [] => (d, s)
  | s, d, (b, right) :: r =>
    let p := if right then pairD C s b d else pairD C s d b
    upF C p.2 p.1 r
def climbP (C : Cry) (s : C.σ) (n : Nat) (i : Nat) (leaf : List UInt8) (path : List (List UInt8)) : Option (List UInt8) × C.σ :=
  if (turnsP n i).length = path.length then
    let p := C.dg s 105 leaf
    let q := upF C p.2 p.1 (path.zip (turnsP n i).reverse)
    (some q.1, q.2)
  else (none, s)
theorem upF_len (C : Cry) : ∀ (r : List (List UInt8 × Bool)) (s : C.σ) (d : List UInt8), d.length = 32 → (upF C s d r).1.length = 32
  | [], _, _, h => h
  | (b, right) :: r, s, d, _ => by
    unfold upF
    refine upF_len C r _ _ ?_
    cases right <;> exact C.len32 _ _ _
theorem upF_snoc (C : Cry) (b : List UInt8) (right : Bool) : ∀ (r : List (List UInt8 × Bool)) (s : C.σ) (d : List UInt8), upF C s d (r ++ [(b, right)]) = (if right then pairD C (upF C s d r).2 b (upF C s d r).1 else pairD C (upF C s d r).2 (upF C s d r).1 b)
  | [], s, d => by cases right <;> rfl
  | (b', right') :: r, s, d => by
    show upF C _ _ (r ++ [(b, right)]) = _
    rw [upF_snoc C b right r]
    rfl
theorem upF_room (C : Cry) : ∀ (r : List (List UInt8 × Bool)) (s : C.σ) (d : List UInt8), C.room (upF C s d r).2 ≤ C.room s + r.length
  | [], s, d => Nat.le_refl _
  | (b, right) :: r, s, d => by
    unfold upF
    have h1 := upF_room C r (if right then pairD C s b d else pairD C s d b).2 (if right then pairD C s b d else pairD C s d b).1
    have h2 : C.room (if right then pairD C s b d else pairD C s d b).2 ≤ C.room s + 1 := by cases right <;> exact C.grow _ _ _
    rw [List.length_cons]
    dsimp only
    omega
def climbV : Option (List UInt8) → List UInt8
  | none => zd32
  | some d => d
theorem climb_len (C : Cry) (s : C.σ) (n i : Nat) (leaf : List UInt8) (path : List (List UInt8)) : (u8s (climbV (climbP C s n i leaf path).1)).length = 32 := by
  unfold climbP
  split
  · rw [u8s_len]
    exact upF_len C _ _ _ (C.len32 _ _ _)
  · rfl
theorem dg_build {l : Env} {F : PH} {H : List Asrt} {d : Option Nat} {U : TypeId} {pos : String} {af : Array Edge} {g : Option (Nat × Bool)} : Ev Try.prog ⟨d, .build 28 #[], U, pos, af, g⟩ l F H (.agg (u8s zd32).toArray) :=
  ev_build_arr (n := 32) (size := 1) (E := 5) (ps := []) (vs := []) (zs := u8s zd32) (t := u8s zd32) rfl (by kernel_rfl) (by kernel_rfl) .nil
set_option maxHeartbeats 8000000 in
theorem climb_out (C : Cry) (n i : Int) (x y : Value) (F : PH) (H : List Asrt) (h : i < 0 ∨ n ≤ i ∨ 1048576 < n) : Spec Try.prog 16 [C.v, .int .i64 n, .int .i64 i, x, y] F H fun u _ H' => u = .tuple #[.agg (u8s zd32).toArray, .bool false] ∧ H' = H := by
  refine Spec.of5 Try.func16 rfl rfl fun X w0 => ?_
  have fin : ∀ {b : Nat} {w : World}, Sat F (blk b 28 (u8s zd32) :: (H ++ X)) w → Sat F (H ++ X) w := fun s => s.drop
  by_cases h0 : i < 0
  · repeat (first|refine zJ rfl rfl ?_|refine jr rfl ?_|refine jn ?_|refine zM rfl rfl ?_|(refine zC rfl rfl ?_ rfl ?_;omega)|(refine zD rfl rfl ?_ rfl ?_;omega)|(refine zP rfl ?_ rfl ?_;omega)|refine zG rfl rfl rfl rfl ?_|(refine jdq rfl rfl ?_ ?_ ?_;kernel_rfl;kernel_rfl)|refine zB rfl rfl rfl (by repeat constructor) rfl ?_|refine zH .here rfl rfl rfl rfl ?_|refine zH (.there .here) rfl rfl rfl rfl ?_|refine zH (.there (.there .here)) rfl rfl rfl rfl ?_)
    refine oE (ev_alloc (E := 28) (cs := u8s zd32) (by kernel_rfl)) rfl ?_
    rintro _ _ _ _ ⟨rfl, b10, rfl, rfl⟩
    repeat (first|refine zJ rfl rfl ?_|refine jr rfl ?_|refine jn ?_|refine zM rfl rfl ?_|(refine zC rfl rfl ?_ rfl ?_;omega)|(refine zD rfl rfl ?_ rfl ?_;omega)|(refine zP rfl ?_ rfl ?_;omega)|refine zG rfl rfl rfl rfl ?_|(refine jdq rfl rfl ?_ ?_ ?_;kernel_rfl;kernel_rfl)|refine zB rfl rfl rfl (by repeat constructor) rfl ?_|refine zH .here rfl rfl rfl rfl ?_|refine zH (.there .here) rfl rfl rfl rfl ?_|refine zH (.there (.there .here)) rfl rfl rfl rfl ?_)
    refine oS dg_build rfl ?_
    refine oN (ev_store (b := b10) (vs := u8s zd32) rfl rfl .agg rfl rfl (lay_all (zs := u8s zd32) rfl) (u8s_ones _) .here) rfl ?_
    rintro _ _ _ _ ⟨rfl, _, rfl⟩
    repeat (first|refine zJ rfl rfl ?_|refine jr rfl ?_|refine jn ?_|refine zM rfl rfl ?_|(refine zC rfl rfl ?_ rfl ?_;omega)|(refine zD rfl rfl ?_ rfl ?_;omega)|(refine zP rfl ?_ rfl ?_;omega)|refine zG rfl rfl rfl rfl ?_|(refine jdq rfl rfl ?_ ?_ ?_;kernel_rfl;kernel_rfl)|refine zB rfl rfl rfl (by repeat constructor) rfl ?_|refine zH .here rfl rfl rfl rfl ?_|refine zH (.there .here) rfl rfl rfl rfl ?_|refine zH (.there (.there .here)) rfl rfl rfl rfl ?_)
    exact J_retv (vs := [.agg (u8s zd32).toArray, .bool false]) rfl (.agg rfl rfl (Rdb.ofB (n := 0) .here (by rw [List.drop_zero, List.take_length])) rfl (.tmp rfl .nil)) H (fun w s => s.drop) (PH.ler _) ⟨rfl, rfl⟩
  by_cases h1 : n ≤ i
  · repeat (first|refine zJ rfl rfl ?_|refine jr rfl ?_|refine jn ?_|refine zM rfl rfl ?_|(refine zC rfl rfl ?_ rfl ?_;omega)|(refine zD rfl rfl ?_ rfl ?_;omega)|(refine zP rfl ?_ rfl ?_;omega)|refine zG rfl rfl rfl rfl ?_|(refine jdq rfl rfl ?_ ?_ ?_;kernel_rfl;kernel_rfl)|refine zB rfl rfl rfl (by repeat constructor) rfl ?_|refine zH .here rfl rfl rfl rfl ?_|refine zH (.there .here) rfl rfl rfl rfl ?_|refine zH (.there (.there .here)) rfl rfl rfl rfl ?_)
    refine oE (ev_alloc (E := 28) (cs := u8s zd32) (by kernel_rfl)) rfl ?_
    rintro _ _ _ _ ⟨rfl, b10, rfl, rfl⟩
    repeat (first|refine zJ rfl rfl ?_|refine jr rfl ?_|refine jn ?_|refine zM rfl rfl ?_|(refine zC rfl rfl ?_ rfl ?_;omega)|(refine zD rfl rfl ?_ rfl ?_;omega)|(refine zP rfl ?_ rfl ?_;omega)|refine zG rfl rfl rfl rfl ?_|(refine jdq rfl rfl ?_ ?_ ?_;kernel_rfl;kernel_rfl)|refine zB rfl rfl rfl (by repeat constructor) rfl ?_|refine zH .here rfl rfl rfl rfl ?_|refine zH (.there .here) rfl rfl rfl rfl ?_|refine zH (.there (.there .here)) rfl rfl rfl rfl ?_)
    refine oS dg_build rfl ?_
    refine oN (ev_store (b := b10) (vs := u8s zd32) rfl rfl .agg rfl rfl (lay_all (zs := u8s zd32) rfl) (u8s_ones _) .here) rfl ?_
    rintro _ _ _ _ ⟨rfl, _, rfl⟩
    repeat (first|refine zJ rfl rfl ?_|refine jr rfl ?_|refine jn ?_|refine zM rfl rfl ?_|(refine zC rfl rfl ?_ rfl ?_;omega)|(refine zD rfl rfl ?_ rfl ?_;omega)|(refine zP rfl ?_ rfl ?_;omega)|refine zG rfl rfl rfl rfl ?_|(refine jdq rfl rfl ?_ ?_ ?_;kernel_rfl;kernel_rfl)|refine zB rfl rfl rfl (by repeat constructor) rfl ?_|refine zH .here rfl rfl rfl rfl ?_|refine zH (.there .here) rfl rfl rfl rfl ?_|refine zH (.there (.there .here)) rfl rfl rfl rfl ?_)
    exact J_retv (vs := [.agg (u8s zd32).toArray, .bool false]) rfl (.agg rfl rfl (Rdb.ofB (n := 0) .here (by rw [List.drop_zero, List.take_length])) rfl (.tmp rfl .nil)) H (fun w s => s.drop) (PH.ler _) ⟨rfl, rfl⟩
  · have h2 : 1048576 < n := by omega
    repeat (first|refine zJ rfl rfl ?_|refine jr rfl ?_|refine jn ?_|refine zM rfl rfl ?_|(refine zC rfl rfl ?_ rfl ?_;omega)|(refine zD rfl rfl ?_ rfl ?_;omega)|(refine zP rfl ?_ rfl ?_;omega)|refine zG rfl rfl rfl rfl ?_|(refine jdq rfl rfl ?_ ?_ ?_;kernel_rfl;kernel_rfl)|refine zB rfl rfl rfl (by repeat constructor) rfl ?_|refine zH .here rfl rfl rfl rfl ?_|refine zH (.there .here) rfl rfl rfl rfl ?_|refine zH (.there (.there .here)) rfl rfl rfl rfl ?_)
    refine oE (ev_alloc (E := 28) (cs := u8s zd32) (by kernel_rfl)) rfl ?_
    rintro _ _ _ _ ⟨rfl, b10, rfl, rfl⟩
    repeat (first|refine zJ rfl rfl ?_|refine jr rfl ?_|refine jn ?_|refine zM rfl rfl ?_|(refine zC rfl rfl ?_ rfl ?_;omega)|(refine zD rfl rfl ?_ rfl ?_;omega)|(refine zP rfl ?_ rfl ?_;omega)|refine zG rfl rfl rfl rfl ?_|(refine jdq rfl rfl ?_ ?_ ?_;kernel_rfl;kernel_rfl)|refine zB rfl rfl rfl (by repeat constructor) rfl ?_|refine zH .here rfl rfl rfl rfl ?_|refine zH (.there .here) rfl rfl rfl rfl ?_|refine zH (.there (.there .here)) rfl rfl rfl rfl ?_)
    refine oS dg_build rfl ?_
    refine oN (ev_store (b := b10) (vs := u8s zd32) rfl rfl .agg rfl rfl (lay_all (zs := u8s zd32) rfl) (u8s_ones _) .here) rfl ?_
    rintro _ _ _ _ ⟨rfl, _, rfl⟩
    repeat (first|refine zJ rfl rfl ?_|refine jr rfl ?_|refine jn ?_|refine zM rfl rfl ?_|(refine zC rfl rfl ?_ rfl ?_;omega)|(refine zD rfl rfl ?_ rfl ?_;omega)|(refine zP rfl ?_ rfl ?_;omega)|refine zG rfl rfl rfl rfl ?_|(refine jdq rfl rfl ?_ ?_ ?_;kernel_rfl;kernel_rfl)|refine zB rfl rfl rfl (by repeat constructor) rfl ?_|refine zH .here rfl rfl rfl rfl ?_|refine zH (.there .here) rfl rfl rfl rfl ?_|refine zH (.there (.there .here)) rfl rfl rfl rfl ?_)
    exact J_retv (vs := [.agg (u8s zd32).toArray, .bool false]) rfl (.agg rfl rfl (Rdb.ofB (n := 0) .here (by rw [List.drop_zero, List.take_length])) rfl (.tmp rfl .nil)) H (fun w s => s.drop) (PH.ler _) ⟨rfl, rfl⟩
set_option maxHeartbeats 16000000 in
theorem climb_spec (C : Cry) (s : C.σ) (n i : Nat) (leaf : List UInt8) (path : List (List UInt8)) (lv pv : Value) (F : PH) (hn : n ≤ 1048576) (hi : i < n) (hr : C.room s + path.length ≤ 80000) (hl : leaf.length ≤ 100000) (hlv : Byt F lv leaf) (hpv : DgV F pv path) (hp32 : D32 path) :
    Spec Try.prog 16 [C.v, .int .i64 n, .int .i64 i, lv, pv] F (C.A s) fun u _ H' => u = .tuple #[.agg (u8s (climbV (climbP C s n i leaf path).1)).toArray, .bool (climbP C s n i leaf path).1.isSome] ∧ H' = C.A (climbP C s n i leaf path).2 := by
  have h32 := climb_len C s n i leaf path
  obtain ⟨_, ap, cp, rfl, hcp, _⟩ := id hpv
  refine Spec.of5 Try.func16 rfl rfl fun X w0 => ?_
  repeat (first|refine zJ rfl rfl ?_|refine jr rfl ?_|refine jn ?_|refine zM rfl rfl ?_|(refine zC rfl rfl ?_ rfl ?_;omega)|(refine zD rfl rfl ?_ rfl ?_;omega)|(refine zP rfl ?_ rfl ?_;omega)|refine zG rfl rfl rfl rfl ?_|(refine jdq rfl rfl ?_ ?_ ?_;kernel_rfl;kernel_rfl)|refine zB rfl rfl rfl (by repeat constructor) rfl ?_|refine zH .here rfl rfl rfl rfl ?_|refine zH (.there .here) rfl rfl rfl rfl ?_|refine zH (.there (.there .here)) rfl rfl rfl rfl ?_)
  refine oE (ev_alloc (E := 28) (cs := u8s zd32) (by kernel_rfl)) rfl ?_
  rintro _ _ _ _ ⟨rfl, b10, rfl, rfl⟩
  repeat (first|refine zJ rfl rfl ?_|refine jr rfl ?_|refine jn ?_|refine zM rfl rfl ?_|(refine zC rfl rfl ?_ rfl ?_;omega)|(refine zD rfl rfl ?_ rfl ?_;omega)|(refine zP rfl ?_ rfl ?_;omega)|refine zG rfl rfl rfl rfl ?_|(refine jdq rfl rfl ?_ ?_ ?_;kernel_rfl;kernel_rfl)|refine zB rfl rfl rfl (by repeat constructor) rfl ?_|refine zH .here rfl rfl rfl rfl ?_|refine zH (.there .here) rfl rfl rfl rfl ?_|refine zH (.there (.there .here)) rfl rfl rfl rfl ?_)
  refine oC (Hc := []) (Hr := blk b10 28 (u8s zd32) :: (C.A s ++ X)) (turns_spec n i F hn hi) Try.call30 rfl rfl (fun _ t => t) ?_
  rintro ut _ _ _ ⟨rfl, rfl⟩
  refine oPersist fun hh hA hd => ?_
  have hbt := own_slice hA hd
  have hF1 := PH.le_l F hh
  generalize F.un hh = F1 at *
  obtain ⟨_, at_, kt, rfl, hkt, _⟩ := id hbt
  by_cases hlen : (turnsP n i).length = path.length
  · repeat (first|refine zJ rfl rfl ?_|refine jr rfl ?_|refine jn ?_|refine zM rfl rfl ?_|(refine zC rfl rfl ?_ rfl ?_;omega)|(refine zD rfl rfl ?_ rfl ?_;omega)|(refine zP rfl ?_ rfl ?_;omega)|refine zG rfl rfl rfl rfl ?_|(refine jdq rfl rfl ?_ ?_ ?_;kernel_rfl;kernel_rfl)|refine zB rfl rfl rfl (by repeat constructor) rfl ?_|refine zH .here rfl rfl rfl rfl ?_|refine zH (.there .here) rfl rfl rfl rfl ?_|refine zH (.there (.there .here)) rfl rfl rfl rfl ?_)
    refine oC (Hc := C.A s) (Hr := blk b10 28 (u8s zd32) :: X) (leaf_spec C s leaf lv F1 (by omega) hl (SliceV.mono hlv hF1)) Try.call24 rfl rfl (fun w t => t.front (A := [_])) ?_
    rintro _ F2 _ hF2 ⟨rfl, rfl⟩
    refine oE (ev_alloc (E := 28) (cs := u8s zd32) (by kernel_rfl)) rfl ?_
    rintro _ _ _ _ ⟨rfl, b13, rfl, rfl⟩
    have hd0 : (u8s (C.dg s 105 leaf).1).length = 32 := by rw [u8s_len, C.len32]
    refine oN (ev_store (b := b13) rfl rfl .agg rfl hd0 (lay_all (zs := u8s zd32) (by rw [hd0]; rfl)) (u8s_ones _) .here) rfl ?_
    rintro _ _ _ _ ⟨rfl, _, rfl⟩
    refine oW (H' := blk b13 28 (u8s (C.dg s 105 leaf).1) :: blk b10 28 (u8s zd32) :: (C.A (C.dg s 105 leaf).2 ++ X)) ?_ (fun w t => by
      have t2 : Sat F2 ([blk b13 28 (u8s (C.dg s 105 leaf).1)] ++ (C.A (C.dg s 105 leaf).2 ++ (blk b10 28 (u8s zd32) :: X))) w := t
      have t3 := (Sat.front (A := [blk b13 28 (u8s (C.dg s 105 leaf).1)]) (B := C.A (C.dg s 105 leaf).2) t2)
      exact Sat.front (B := [_, _]) t3)
    have hg0 := C.grow s 105 leaf
    repeat (first|refine zJ rfl rfl ?_|refine jr rfl ?_|refine jn ?_|refine zM rfl rfl ?_|(refine zC rfl rfl ?_ rfl ?_;omega)|(refine zD rfl rfl ?_ rfl ?_;omega)|(refine zP rfl ?_ rfl ?_;omega)|refine zG rfl rfl rfl rfl ?_|(refine jdq rfl rfl ?_ ?_ ?_;kernel_rfl;kernel_rfl)|refine zB rfl rfl rfl (by repeat constructor) rfl ?_|refine zH .here rfl rfl rfl rfl ?_|refine zH (.there .here) rfl rfl rfl rfl ?_|refine zH (.there (.there .here)) rfl rfl rfl rfl ?_)
    refine J_loop2 (fun (j : Nat) (G : PH) => j ≤ path.length ∧ F2.le G) (fun j _ => path.length - j)
      (fun j _ => [(0, C.v), (10, .pointer (some ⟨b10, 0, none⟩)), (12, .slice at_ (turnsP n i).length kt), (13, .pointer (some ⟨b13, 0, none⟩)), (40, .slice ap path.length cp), (41, .int .i64 path.length), (42, .int .i64 j)]) (fun _ G => G)
      (fun j _ => blk b13 28 (u8s (upF C (C.dg s 105 leaf).2 (C.dg s 105 leaf).1 ((path.zip (turnsP n i).reverse).take j)).1) :: blk b10 28 (u8s zd32) :: (C.A (upF C (C.dg s 105 leaf).2 (C.dg s 105 leaf).1 ((path.zip (turnsP n i).reverse).take j)).2 ++ X)) 0 F2 ⟨Nat.zero_le _, PH.ler _⟩ ⟨⟨rfl, rfl, rfl, rfl, rfl, rfl, rfl, trivial⟩, fun _ t => t⟩ ?_
    rintro j G ⟨hj, hG⟩
    by_cases hjl : j < path.length
    · have g1 : path[j]? = some path[j] := List.getElem?_eq_getElem hjl
      have hb32 := hp32 _ (List.getElem_mem hjl)
      have hx : path.length - 1 - j < (turnsP n i).length := by omega
      have g2 : (turnsP n i)[path.length - 1 - j]? = some (turnsP n i)[path.length - 1 - j] := List.getElem?_eq_getElem hx
      have gz : (path.zip (turnsP n i).reverse)[j]? = some (path[j], (turnsP n i)[path.length - 1 - j]) := by
        rw [List.getElem?_zip_eq_some]
        refine ⟨g1, ?_⟩
        rw [List.getElem?_reverse (by omega), show (turnsP n i).length - 1 - j = path.length - 1 - j from by omega, g2]
      have hstep : (path.zip (turnsP n i).reverse).take (j + 1) = (path.zip (turnsP n i).reverse).take j ++ [(path[j], (turnsP n i)[path.length - 1 - j])] := by rw [List.take_add_one, gz]; rfl
      have hup := upF_snoc C path[j] (turnsP n i)[path.length - 1 - j] ((path.zip (turnsP n i).reverse).take j) (C.dg s 105 leaf).2 (C.dg s 105 leaf).1
      rw [← hstep] at hup
      obtain ⟨b5, o5, rfl, hc5⟩ := DgV.at (SliceV.mono hpv (hF1.trans (hF2.trans hG))) hp32 g1 hjl
      have hcw : ∃ bt ot, at_ = some ⟨bt, ot, none⟩ ∧ Cells G bt (ot + (path.length - 1 - j) * 1) [.bool (turnsP n i)[path.length - 1 - j]] := by
        obtain ⟨hl0, a', c', e', _, h0⟩ := SliceV.mono hbt (hF2.trans hG)
        cases e'
        obtain ⟨bt, ot, rfl, hct⟩ := h0 (by omega)
        refine ⟨bt, ot, rfl, ?_⟩
        have := hct.one (path.length - 1 - j) (v := .bool (turnsP n i)[path.length - 1 - j]) (by unfold bls; rw [List.getElem?_map, g2]; rfl)
        rwa [Nat.mul_one]
      obtain ⟨bt, ot, rfl, hcw⟩ := hcw
      have hroom := upF_room C ((path.zip (turnsP n i).reverse).take j) (C.dg s 105 leaf).2 (C.dg s 105 leaf).1
      have hlz : ((path.zip (turnsP n i).reverse).take j).length ≤ path.length := by rw [List.length_take, List.length_zip]; omega
      have hd32 := upF_len C ((path.zip (turnsP n i).reverse).take j) (C.dg s 105 leaf).2 (C.dg s 105 leaf).1 (C.len32 _ _ _)
      generalize path[j] = bd at *
      generalize hwy : (turnsP n i)[path.length - 1 - j] = wy at *
      generalize hcur : upF C (C.dg s 105 leaf).2 (C.dg s 105 leaf).1 ((path.zip (turnsP n i).reverse).take j) = cur at *
      have hb8 : (u8s bd).length = 32 := by rw [u8s_len, hb32]
      have hd8 : (u8s cur.1).length = 32 := by rw [u8s_len, hd32]
      repeat (first|refine zJ rfl rfl ?_|refine jr rfl ?_|refine jn ?_|refine zM rfl rfl ?_|(refine zC rfl rfl ?_ rfl ?_;omega)|(refine zD rfl rfl ?_ rfl ?_;omega)|(refine zP rfl ?_ rfl ?_;omega)|refine zG rfl rfl rfl rfl ?_|(refine jdq rfl rfl ?_ ?_ ?_;kernel_rfl;kernel_rfl)|refine zB rfl rfl rfl (by repeat constructor) rfl ?_|refine zH .here rfl rfl rfl rfl ?_|refine zH (.there .here) rfl rfl rfl rfl ?_|refine zH (.there (.there .here)) rfl rfl rfl rfl ?_)
      refine oS (ev_indexAddr rfl rfl rfl hjl) rfl ?_
      refine oS (ev_load_agg rfl rfl (Rdb.ofF hc5) hb8) rfl ?_
      refine oE (ev_alloc (E := 28) (cs := u8s zd32) (by kernel_rfl)) rfl ?_
      rintro _ _ _ _ ⟨rfl, b15, rfl, rfl⟩
      repeat (first|refine zJ rfl rfl ?_|refine jr rfl ?_|refine jn ?_|refine zM rfl rfl ?_|(refine zC rfl rfl ?_ rfl ?_;omega)|(refine zD rfl rfl ?_ rfl ?_;omega)|(refine zP rfl ?_ rfl ?_;omega)|refine zG rfl rfl rfl rfl ?_|(refine jdq rfl rfl ?_ ?_ ?_;kernel_rfl;kernel_rfl)|refine zB rfl rfl rfl (by repeat constructor) rfl ?_|refine zH .here rfl rfl rfl rfl ?_|refine zH (.there .here) rfl rfl rfl rfl ?_|refine zH (.there (.there .here)) rfl rfl rfl rfl ?_)
      refine oN (ev_store (b := b15) rfl rfl .agg rfl hb8 (lay_all (zs := u8s zd32) (by rw [hb8]; rfl)) (u8s_ones _) .here) rfl ?_
      rintro _ _ _ _ ⟨rfl, _, rfl⟩
      repeat (first|refine zJ rfl rfl ?_|refine jr rfl ?_|refine jn ?_|refine zM rfl rfl ?_|(refine zC rfl rfl ?_ rfl ?_;omega)|(refine zD rfl rfl ?_ rfl ?_;omega)|(refine zP rfl ?_ rfl ?_;omega)|refine zG rfl rfl rfl rfl ?_|(refine jdq rfl rfl ?_ ?_ ?_;kernel_rfl;kernel_rfl)|refine zB rfl rfl rfl (by repeat constructor) rfl ?_|refine zH .here rfl rfl rfl rfl ?_|refine zH (.there .here) rfl rfl rfl rfl ?_|refine zH (.there (.there .here)) rfl rfl rfl rfl ?_)
      rw [show ((turnsP n i).length : Int) - 1 - (j : Int) = ((path.length - 1 - j : Nat) : Int) from by omega]
      refine oS (ev_indexAddr (i := path.length - 1 - j) rfl rfl rfl hx) rfl ?_
      refine oS (ev_load (v := .bool wy) rfl rfl (Rdb.ofF hcw)) rfl ?_
      cases wy with
      | true =>
        rw [if_pos rfl] at hup
        repeat (first|refine zJ rfl rfl ?_|refine jr rfl ?_|refine jn ?_|refine zM rfl rfl ?_|(refine zC rfl rfl ?_ rfl ?_;omega)|(refine zD rfl rfl ?_ rfl ?_;omega)|(refine zP rfl ?_ rfl ?_;omega)|refine zG rfl rfl rfl rfl ?_|(refine jdq rfl rfl ?_ ?_ ?_;kernel_rfl;kernel_rfl)|refine zB rfl rfl rfl (by repeat constructor) rfl ?_|refine zH .here rfl rfl rfl rfl ?_|refine zH (.there .here) rfl rfl rfl rfl ?_|refine zH (.there (.there .here)) rfl rfl rfl rfl ?_)
        refine oS (ev_load_agg (cs := u8s bd) rfl rfl (Rdb.ofB (n := 0) .here (by rw [List.drop_zero, List.take_length])) hb8) rfl ?_
        refine oS (ev_load_agg (cs := u8s cur.1) rfl rfl (Rdb.ofB (n := 0) (.there .here) (by rw [List.drop_zero, List.take_length])) hd8) rfl ?_
        refine oC (Hc := C.A cur.2) (Hr := blk b15 28 (u8s bd) :: blk b13 28 (u8s cur.1) :: blk b10 28 (u8s zd32) :: X) (pair_spec C cur.2 bd cur.1 G (by omega) hb32 hd32) Try.call26 rfl rfl (fun w t => Sat.front (A := [_, _, _]) (B := C.A cur.2) t) ?_
        rintro _ G1 _ hG1 ⟨rfl, rfl⟩
        rw [← hup]
        have hn32 : (u8s (upF C (C.dg s 105 leaf).2 (C.dg s 105 leaf).1 ((path.zip (turnsP n i).reverse).take (j + 1))).1).length = 32 := by rw [u8s_len]; exact upF_len C _ _ _ (C.len32 _ _ _)
        refine oN (ev_store (b := b13) (vs := u8s (upF C (C.dg s 105 leaf).2 (C.dg s 105 leaf).1 ((path.zip (turnsP n i).reverse).take (j + 1))).1) rfl rfl .agg rfl hn32 (lay_all (zs := u8s cur.1) (by rw [hn32, hd8])) (u8s_ones _) (Upd.app _ (.there .here))) rfl ?_
        rintro _ _ _ _ ⟨rfl, _, rfl⟩
        repeat (first|refine zJ rfl rfl ?_|refine jr rfl ?_|refine jn ?_|refine zM rfl rfl ?_|(refine zC rfl rfl ?_ rfl ?_;omega)|(refine zD rfl rfl ?_ rfl ?_;omega)|(refine zP rfl ?_ rfl ?_;omega)|refine zG rfl rfl rfl rfl ?_|(refine jdq rfl rfl ?_ ?_ ?_;kernel_rfl;kernel_rfl)|refine zB rfl rfl rfl (by repeat constructor) rfl ?_|refine zH .here rfl rfl rfl rfl ?_|refine zH (.there .here) rfl rfl rfl rfl ?_|refine zH (.there (.there .here)) rfl rfl rfl rfl ?_)
        exact J_again2 (j + 1) G1 ⟨hjl, hG.trans hG1⟩ (by omega) ⟨⟨rfl, rfl, rfl, rfl, rfl, rfl, rfl, trivial⟩, fun w t => (Sat.front (B := [_, _, _]) t).drop⟩
      | false =>
        rw [if_neg (by decide)] at hup
        repeat (first|refine zJ rfl rfl ?_|refine jr rfl ?_|refine jn ?_|refine zM rfl rfl ?_|(refine zC rfl rfl ?_ rfl ?_;omega)|(refine zD rfl rfl ?_ rfl ?_;omega)|(refine zP rfl ?_ rfl ?_;omega)|refine zG rfl rfl rfl rfl ?_|(refine jdq rfl rfl ?_ ?_ ?_;kernel_rfl;kernel_rfl)|refine zB rfl rfl rfl (by repeat constructor) rfl ?_|refine zH .here rfl rfl rfl rfl ?_|refine zH (.there .here) rfl rfl rfl rfl ?_|refine zH (.there (.there .here)) rfl rfl rfl rfl ?_)
        refine oS (ev_load_agg (cs := u8s cur.1) rfl rfl (Rdb.ofB (n := 0) (.there .here) (by rw [List.drop_zero, List.take_length])) hd8) rfl ?_
        refine oS (ev_load_agg (cs := u8s bd) rfl rfl (Rdb.ofB (n := 0) .here (by rw [List.drop_zero, List.take_length])) hb8) rfl ?_
        refine oC (Hc := C.A cur.2) (Hr := blk b15 28 (u8s bd) :: blk b13 28 (u8s cur.1) :: blk b10 28 (u8s zd32) :: X) (pair_spec C cur.2 cur.1 bd G (by omega) hd32 hb32) Try.call26 rfl rfl (fun w t => Sat.front (A := [_, _, _]) (B := C.A cur.2) t) ?_
        rintro _ G1 _ hG1 ⟨rfl, rfl⟩
        rw [← hup]
        have hn32 : (u8s (upF C (C.dg s 105 leaf).2 (C.dg s 105 leaf).1 ((path.zip (turnsP n i).reverse).take (j + 1))).1).length = 32 := by rw [u8s_len]; exact upF_len C _ _ _ (C.len32 _ _ _)
        refine oN (ev_store (b := b13) (vs := u8s (upF C (C.dg s 105 leaf).2 (C.dg s 105 leaf).1 ((path.zip (turnsP n i).reverse).take (j + 1))).1) rfl rfl .agg rfl hn32 (lay_all (zs := u8s cur.1) (by rw [hn32, hd8])) (u8s_ones _) (Upd.app _ (.there .here))) rfl ?_
        rintro _ _ _ _ ⟨rfl, _, rfl⟩
        repeat (first|refine zJ rfl rfl ?_|refine jr rfl ?_|refine jn ?_|refine zM rfl rfl ?_|(refine zC rfl rfl ?_ rfl ?_;omega)|(refine zD rfl rfl ?_ rfl ?_;omega)|(refine zP rfl ?_ rfl ?_;omega)|refine zG rfl rfl rfl rfl ?_|(refine jdq rfl rfl ?_ ?_ ?_;kernel_rfl;kernel_rfl)|refine zB rfl rfl rfl (by repeat constructor) rfl ?_|refine zH .here rfl rfl rfl rfl ?_|refine zH (.there .here) rfl rfl rfl rfl ?_|refine zH (.there (.there .here)) rfl rfl rfl rfl ?_)
        exact J_again2 (j + 1) G1 ⟨hjl, hG.trans hG1⟩ (by omega) ⟨⟨rfl, rfl, rfl, rfl, rfl, rfl, rfl, trivial⟩, fun w t => (Sat.front (B := [_, _, _]) t).drop⟩
    · obtain rfl : j = path.length := by omega
      have hcl : climbP C s n i leaf path = (some (upF C (C.dg s 105 leaf).2 (C.dg s 105 leaf).1 (path.zip (turnsP n i).reverse)).1, (upF C (C.dg s 105 leaf).2 (C.dg s 105 leaf).1 (path.zip (turnsP n i).reverse)).2) := by unfold climbP; rw [if_pos hlen]
      rw [List.take_of_length_le (by rw [List.length_zip]; omega)]
      rw [hcl] at h32 ⊢
      dsimp only [climbV, Option.isSome] at h32 ⊢
      generalize upF C (C.dg s 105 leaf).2 (C.dg s 105 leaf).1 (path.zip (turnsP n i).reverse) = cur at *
      repeat (first|refine zJ rfl rfl ?_|refine jr rfl ?_|refine jn ?_|refine zM rfl rfl ?_|(refine zC rfl rfl ?_ rfl ?_;omega)|(refine zD rfl rfl ?_ rfl ?_;omega)|(refine zP rfl ?_ rfl ?_;omega)|refine zG rfl rfl rfl rfl ?_|(refine jdq rfl rfl ?_ ?_ ?_;kernel_rfl;kernel_rfl)|refine zB rfl rfl rfl (by repeat constructor) rfl ?_|refine zH .here rfl rfl rfl rfl ?_|refine zH (.there .here) rfl rfl rfl rfl ?_|refine zH (.there (.there .here)) rfl rfl rfl rfl ?_)
      refine oS (ev_load_agg (cs := u8s cur.1) rfl rfl (Rdb.ofB (n := 0) .here (by rw [List.drop_zero, List.take_length])) h32) rfl ?_
      refine oN (ev_store (b := b10) rfl rfl .agg rfl h32 (lay_all (zs := u8s zd32) (by rw [h32]; rfl)) (u8s_ones _) (.there .here)) rfl ?_
      rintro _ _ _ _ ⟨rfl, _, rfl⟩
      repeat (first|refine zJ rfl rfl ?_|refine jr rfl ?_|refine jn ?_|refine zM rfl rfl ?_|(refine zC rfl rfl ?_ rfl ?_;omega)|(refine zD rfl rfl ?_ rfl ?_;omega)|(refine zP rfl ?_ rfl ?_;omega)|refine zG rfl rfl rfl rfl ?_|(refine jdq rfl rfl ?_ ?_ ?_;kernel_rfl;kernel_rfl)|refine zB rfl rfl rfl (by repeat constructor) rfl ?_|refine zH .here rfl rfl rfl rfl ?_|refine zH (.there .here) rfl rfl rfl rfl ?_|refine zH (.there (.there .here)) rfl rfl rfl rfl ?_)
      exact J_retv (vs := [.agg (u8s cur.1).toArray, .bool true]) rfl (.agg rfl rfl (Rdb.ofB (n := 0) (.there .here) (by rw [List.drop_zero, List.take_length])) h32 (.tmp rfl .nil)) (C.A cur.2) (fun w t => t.drop.drop) (hF1.trans (hF2.trans hG)) ⟨rfl, rfl⟩
  · have hcl : climbP C s n i leaf path = (none, s) := by unfold climbP; rw [if_neg hlen]
    rw [hcl]
    repeat (first|refine zJ rfl rfl ?_|refine jr rfl ?_|refine jn ?_|refine zM rfl rfl ?_|(refine zC rfl rfl ?_ rfl ?_;omega)|(refine zD rfl rfl ?_ rfl ?_;omega)|(refine zP rfl ?_ rfl ?_;omega)|refine zG rfl rfl rfl rfl ?_|(refine jdq rfl rfl ?_ ?_ ?_;kernel_rfl;kernel_rfl)|refine zB rfl rfl rfl (by repeat constructor) rfl ?_|refine zH .here rfl rfl rfl rfl ?_|refine zH (.there .here) rfl rfl rfl rfl ?_|refine zH (.there (.there .here)) rfl rfl rfl rfl ?_)
    refine oS dg_build rfl ?_
    refine oN (ev_store (b := b10) (vs := u8s zd32) rfl rfl .agg rfl rfl (lay_all (zs := u8s zd32) rfl) (u8s_ones _) .here) rfl ?_
    rintro _ _ _ _ ⟨rfl, _, rfl⟩
    repeat (first|refine zJ rfl rfl ?_|refine jr rfl ?_|refine jn ?_|refine zM rfl rfl ?_|(refine zC rfl rfl ?_ rfl ?_;omega)|(refine zD rfl rfl ?_ rfl ?_;omega)|(refine zP rfl ?_ rfl ?_;omega)|refine zG rfl rfl rfl rfl ?_|(refine jdq rfl rfl ?_ ?_ ?_;kernel_rfl;kernel_rfl)|refine zB rfl rfl rfl (by repeat constructor) rfl ?_|refine zH .here rfl rfl rfl rfl ?_|refine zH (.there .here) rfl rfl rfl rfl ?_|refine zH (.there (.there .here)) rfl rfl rfl rfl ?_)
    exact J_retv (vs := [.agg (u8s zd32).toArray, .bool false]) rfl (.agg rfl rfl (Rdb.ofB (n := 0) .here (by rw [List.drop_zero, List.take_length])) rfl (.tmp rfl .nil)) (C.A s) (fun w t => t.drop) hF1 ⟨rfl, rfl⟩
end Go.Proofs.Ytohlmhoacjodjaa
namespace Go.Proofs.Ytohlmhoacjodjaa
open Go.RowKit
set_option maxRecDepth 100000
def bookC (b m : Nat) (tg : Value) : Cry where
  σ := List Hk
  t := 41
  rv := .pointer (some ⟨b, 0, none⟩)
  f := 59
  mr := fun args w => by kernel_rfl
  mn := fun w => by kernel_rfl
  A := bookA b m tg
  dg := fun s k x => (bkD s (k, x), (placeP s (k, x)).2)
  room := List.length
  len32 := fun s k x => dnuB_len _ _
  grow := fun s k x => by
    obtain ⟨t, e, h⟩ := placeP_ext s (k, x)
    rw [e, List.length_append]
    omega
  spec := fun s k x v F hk hr hx h => (bdigest_spec b m tg v k x s F hk (by omega) h).mono fun _ _ _ _ ⟨_, h1, h2⟩ => ⟨h1, h2⟩
def chkP (C : Cry) (s : C.σ) (root : List UInt8) (n i : Nat) (leaf : List UInt8) (path : List (List UInt8)) : Bool := decide ((climbP C s n i leaf path).1 = some root)
set_option maxHeartbeats 8000000 in
theorem check_spec (C : Cry) (s : C.σ) (root : List UInt8) (n i : Nat) (leaf : List UInt8) (path : List (List UInt8)) (lv pv : Value) (F : PH) (hn : n ≤ 1048576) (hi : i < n) (hr : C.room s + path.length ≤ 80000) (hl : leaf.length ≤ 100000) (hlv : Byt F lv leaf) (hpv : DgV F pv path) (hp32 : D32 path) (hroot : root.length = 32) :
    Spec Try.prog 19 [C.v, .agg (u8s root).toArray, .int .i64 n, .int .i64 i, lv, pv] F (C.A s) fun u _ H' => u = .bool (chkP C s root n i leaf path) ∧ H' = C.A (climbP C s n i leaf path).2 := by
  have h32 := climb_len C s n i leaf path
  have hr8 : (u8s root).length = 32 := by rw [u8s_len, hroot]
  obtain ⟨_, ap, cp, rfl, hcp, _⟩ := id hpv
  obtain ⟨_, al, cl, rfl, hcl, _⟩ := id hlv
  refine Spec.of6 Try.func19 rfl rfl fun X w0 => ?_
  repeat (first|refine zJ rfl rfl ?_|refine jr rfl ?_|refine jn ?_|refine zM rfl rfl ?_|(refine zC rfl rfl ?_ rfl ?_;omega)|(refine zD rfl rfl ?_ rfl ?_;omega)|(refine zP rfl ?_ rfl ?_;omega)|refine zG rfl rfl rfl rfl ?_|(refine jdq rfl rfl ?_ ?_ ?_;kernel_rfl;kernel_rfl)|refine zB rfl rfl rfl (by repeat constructor) rfl ?_|refine zH .here rfl rfl rfl rfl ?_|refine zH (.there .here) rfl rfl rfl rfl ?_|refine zH (.there (.there .here)) rfl rfl rfl rfl ?_)
  refine oE (ev_box rfl .agg) rfl ?_; rintro _ _ _ _ ⟨rfl, b7, rfl, rfl⟩
  repeat (first|refine zJ rfl rfl ?_|refine jr rfl ?_|refine jn ?_|refine zM rfl rfl ?_|(refine zC rfl rfl ?_ rfl ?_;omega)|(refine zD rfl rfl ?_ rfl ?_;omega)|(refine zP rfl ?_ rfl ?_;omega)|refine zG rfl rfl rfl rfl ?_|(refine jdq rfl rfl ?_ ?_ ?_;kernel_rfl;kernel_rfl)|refine zB rfl rfl rfl (by repeat constructor) rfl ?_|refine zH .here rfl rfl rfl rfl ?_|refine zH (.there .here) rfl rfl rfl rfl ?_|refine zH (.there (.there .here)) rfl rfl rfl rfl ?_)
  refine oC (Hc := C.A s) (Hr := blk b7 28 (u8s root) :: X) (climb_spec C s n i leaf path _ _ F hn hi hr hl hlv hpv hp32) Try.call16 rfl rfl (fun w t => t.front (A := [_])) ?_
  rintro _ F1 _ hF1 ⟨rfl, rfl⟩
  repeat (first|refine zJ rfl rfl ?_|refine jr rfl ?_|refine jn ?_|refine zM rfl rfl ?_|(refine zC rfl rfl ?_ rfl ?_;omega)|(refine zD rfl rfl ?_ rfl ?_;omega)|(refine zP rfl ?_ rfl ?_;omega)|refine zG rfl rfl rfl rfl ?_|(refine jdq rfl rfl ?_ ?_ ?_;kernel_rfl;kernel_rfl)|refine zB rfl rfl rfl (by repeat constructor) rfl ?_|refine zH .here rfl rfl rfl rfl ?_|refine zH (.there .here) rfl rfl rfl rfl ?_|refine zH (.there (.there .here)) rfl rfl rfl rfl ?_)
  refine oE (ev_alloc (E := 28) (cs := u8s zd32) (by kernel_rfl)) rfl ?_
  rintro _ _ _ _ ⟨rfl, b13, rfl, rfl⟩
  refine oN (ev_store (b := b13) (vs := u8s (climbV (climbP C s n i leaf path).1)) rfl rfl .agg rfl h32 (lay_all (zs := u8s zd32) (by rw [h32]; rfl)) (u8s_ones _) .here) rfl ?_
  rintro _ _ _ _ ⟨rfl, _, rfl⟩
  unfold chkP
  cases hc : (climbP C s n i leaf path).1 with
  | none =>
    repeat (first|refine zJ rfl rfl ?_|refine jr rfl ?_|refine jn ?_|refine zM rfl rfl ?_|(refine zC rfl rfl ?_ rfl ?_;omega)|(refine zD rfl rfl ?_ rfl ?_;omega)|(refine zP rfl ?_ rfl ?_;omega)|refine zG rfl rfl rfl rfl ?_|(refine jdq rfl rfl ?_ ?_ ?_;kernel_rfl;kernel_rfl)|refine zB rfl rfl rfl (by repeat constructor) rfl ?_|refine zH .here rfl rfl rfl rfl ?_|refine zH (.there .here) rfl rfl rfl rfl ?_|refine zH (.there (.there .here)) rfl rfl rfl rfl ?_)
    exact J_retv (vs := [.bool false]) rfl (.tmp rfl .nil) (C.A (climbP C s n i leaf path).2) (fun w s => (Sat.drop s).out1) hF1 ⟨by simp [retV], rfl⟩
  | some d =>
    rw [hc] at h32
    have h33 : d.length = 32 := by rw [← h32, u8s_len]; rfl
    repeat (first|refine zJ rfl rfl ?_|refine jr rfl ?_|refine jn ?_|refine zM rfl rfl ?_|(refine zC rfl rfl ?_ rfl ?_;omega)|(refine zD rfl rfl ?_ rfl ?_;omega)|(refine zP rfl ?_ rfl ?_;omega)|refine zG rfl rfl rfl rfl ?_|(refine jdq rfl rfl ?_ ?_ ?_;kernel_rfl;kernel_rfl)|refine zB rfl rfl rfl (by repeat constructor) rfl ?_|refine zH .here rfl rfl rfl rfl ?_|refine zH (.there .here) rfl rfl rfl rfl ?_|refine zH (.there (.there .here)) rfl rfl rfl rfl ?_)
    refine oS (ev_load_agg (cs := u8s d) rfl rfl (Rdb.ofB (n := 0) .here (by rw [List.drop_zero]; show (u8s d).take _ = u8s d; rw [List.take_length])) h32) rfl ?_
    refine oS (ev_load_agg (cs := u8s root) rfl rfl (Rdb.ofB (n := 0) (.there (Pick.app _ .here)) (by rw [List.drop_zero, List.take_length])) hr8) rfl ?_
    refine oS (ev_arr_eql (xs := d) (ys := root) (n := 32) (e := 5) rfl rfl (by kernel_rfl) (by kernel_rfl) h33 hroot (by kernel_rfl)) rfl ?_
    repeat (first|refine zJ rfl rfl ?_|refine jr rfl ?_|refine jn ?_|refine zM rfl rfl ?_|(refine zC rfl rfl ?_ rfl ?_;omega)|(refine zD rfl rfl ?_ rfl ?_;omega)|(refine zP rfl ?_ rfl ?_;omega)|refine zG rfl rfl rfl rfl ?_|(refine jdq rfl rfl ?_ ?_ ?_;kernel_rfl;kernel_rfl)|refine zB rfl rfl rfl (by repeat constructor) rfl ?_|refine zH .here rfl rfl rfl rfl ?_|refine zH (.there .here) rfl rfl rfl rfl ?_|refine zH (.there (.there .here)) rfl rfl rfl rfl ?_)
    exact J_retv (vs := [.bool (d == root)]) rfl (.tmp rfl .nil) (C.A (climbP C s n i leaf path).2) (fun w s => (Sat.drop s).out1) hF1 ⟨by simp [retV, Bool.beq_eq_decide_eq], rfl⟩
theorem pathnil_spec (C : Value) (l : List (List UInt8)) (v : Value) (i : Int) (F : PH) (h : RowV tyByt F v l) (hi : i < 0 ∨ (l.length : Int) ≤ i) : Pure Try.prog 13 [C, v, .int .i64 i] F (.slice none 0 0) := by
  obtain ⟨a, c, rfl, hc⟩ := h.form
  refine Spec.of3 Try.func13 rfl rfl fun X w0 => ?_
  by_cases h0 : i < 0
  · repeat (first|refine zJ rfl rfl ?_|refine jr rfl ?_|refine jn ?_|refine zM rfl rfl ?_|(refine zC rfl rfl ?_ rfl ?_;omega)|(refine zD rfl rfl ?_ rfl ?_;omega)|(refine zP rfl ?_ rfl ?_;omega)|refine zG rfl rfl rfl rfl ?_|(refine jdq rfl rfl ?_ ?_ ?_;kernel_rfl;kernel_rfl)|refine zB rfl rfl rfl (by repeat constructor) rfl ?_|refine zH .here rfl rfl rfl rfl ?_|refine zH (.there .here) rfl rfl rfl rfl ?_|refine zH (.there (.there .here)) rfl rfl rfl rfl ?_)
    exact J_ret1 rfl rfl [] rfl (PH.ler _) ⟨rfl, rfl⟩
  · have h1 : (l.length : Int) ≤ i := by omega
    repeat (first|refine zJ rfl rfl ?_|refine jr rfl ?_|refine jn ?_|refine zM rfl rfl ?_|(refine zC rfl rfl ?_ rfl ?_;omega)|(refine zD rfl rfl ?_ rfl ?_;omega)|(refine zP rfl ?_ rfl ?_;omega)|refine zG rfl rfl rfl rfl ?_|(refine jdq rfl rfl ?_ ?_ ?_;kernel_rfl;kernel_rfl)|refine zB rfl rfl rfl (by repeat constructor) rfl ?_|refine zH .here rfl rfl rfl rfl ?_|refine zH (.there .here) rfl rfl rfl rfl ?_|refine zH (.there (.there .here)) rfl rfl rfl rfl ?_)
    exact J_ret1 rfl rfl [] rfl (PH.ler _) ⟨rfl, rfl⟩
def fewB (l : List (List UInt8)) : Bool := decide ((∀ x ∈ l, x.length ≤ 100) ∧ l.length ≤ 80)
set_option maxHeartbeats 4000000 in
theorem few_spec (l : List (List UInt8)) (v : Value) (F : PH) (h : RowV tyByt F v l) (hl : l.length ≤ maxLen) : Pure Try.prog 9 [v] F (.bool (fewB l)) := by
  unfold maxLen at hl
  obtain ⟨a, c, rfl, hc⟩ := h.form
  refine Spec.of1 Try.func9 rfl rfl fun X w0 => ?_
  repeat (first|refine zJ rfl rfl ?_|refine jr rfl ?_|refine jn ?_|refine zM rfl rfl ?_|(refine zC rfl rfl ?_ rfl ?_;omega)|(refine zD rfl rfl ?_ rfl ?_;omega)|(refine zP rfl ?_ rfl ?_;omega)|refine zG rfl rfl rfl rfl ?_|(refine jdq rfl rfl ?_ ?_ ?_;kernel_rfl;kernel_rfl)|refine zB rfl rfl rfl (by repeat constructor) rfl ?_|refine zH .here rfl rfl rfl rfl ?_|refine zH (.there .here) rfl rfl rfl rfl ?_|refine zH (.there (.there .here)) rfl rfl rfl rfl ?_)
  refine J_loop (ι := Nat) (fun j => j ≤ l.length ∧ ∀ x ∈ l.take j, x.length ≤ 100) (fun j => l.length - j) (fun j => [(0, .slice a l.length c), (5, .slice a l.length c), (6, .int .i64 l.length), (7, .int .i64 j)]) (fun _ => F) (fun _ => X) 0 ⟨Nat.zero_le _, fun x hx => by simp at hx⟩ ⟨⟨rfl, rfl, rfl, rfl, trivial⟩, fun _ s => s⟩ ?_
  rintro j ⟨hj, hall⟩
  by_cases hlt : j < l.length
  · have hg : l[j]? = some l[j] := List.getElem?_eq_getElem hlt
    have hmem : l[j] ∈ l := List.getElem_mem hlt
    obtain ⟨b1, o1, cs, rfl, hcs, ⟨vx, rfl, hx⟩, _⟩ := h.at hg
    have htk : l.take (j + 1) = l.take j ++ [l[j]] := take_snoc hg
    generalize l[j] = x at *
    obtain ⟨_, ax, cx, rfl, _, _⟩ := id hx
    by_cases h100 : x.length ≤ 100
    · repeat (first|refine zJ rfl rfl ?_|refine jr rfl ?_|refine jn ?_|refine zM rfl rfl ?_|(refine zC rfl rfl ?_ rfl ?_;omega)|(refine zD rfl rfl ?_ rfl ?_;omega)|(refine zP rfl ?_ rfl ?_;omega)|refine zG rfl rfl rfl rfl ?_|(refine jdq rfl rfl ?_ ?_ ?_;kernel_rfl;kernel_rfl)|refine zB rfl rfl rfl (by repeat constructor) rfl ?_|refine zH .here rfl rfl rfl rfl ?_|refine zH (.there .here) rfl rfl rfl rfl ?_|refine zH (.there (.there .here)) rfl rfl rfl rfl ?_)
      refine oS (ev_indexAddr rfl rfl rfl hlt) rfl ?_
      refine oS (ev_load rfl rfl (Rdb.ofF hcs)) rfl ?_
      repeat (first|refine zJ rfl rfl ?_|refine jr rfl ?_|refine jn ?_|refine zM rfl rfl ?_|(refine zC rfl rfl ?_ rfl ?_;omega)|(refine zD rfl rfl ?_ rfl ?_;omega)|(refine zP rfl ?_ rfl ?_;omega)|refine zG rfl rfl rfl rfl ?_|(refine jdq rfl rfl ?_ ?_ ?_;kernel_rfl;kernel_rfl)|refine zB rfl rfl rfl (by repeat constructor) rfl ?_|refine zH .here rfl rfl rfl rfl ?_|refine zH (.there .here) rfl rfl rfl rfl ?_|refine zH (.there (.there .here)) rfl rfl rfl rfl ?_)
      refine J_again (j + 1) ⟨hlt, fun y hy => ?_⟩ (by omega) ⟨⟨rfl, rfl, rfl, rfl, trivial⟩, fun w s => s⟩
      rw [htk] at hy
      rcases List.mem_append.1 hy with hy | hy
      · exact hall y hy
      · rw [List.mem_singleton] at hy; rw [hy]; exact h100
    · have hf : fewB l = false := by
        unfold fewB
        rw [decide_eq_false]
        exact fun ⟨hh, _⟩ => h100 (hh x hmem)
      rw [hf]
      repeat (first|refine zJ rfl rfl ?_|refine jr rfl ?_|refine jn ?_|refine zM rfl rfl ?_|(refine zC rfl rfl ?_ rfl ?_;omega)|(refine zD rfl rfl ?_ rfl ?_;omega)|(refine zP rfl ?_ rfl ?_;omega)|refine zG rfl rfl rfl rfl ?_|(refine jdq rfl rfl ?_ ?_ ?_;kernel_rfl;kernel_rfl)|refine zB rfl rfl rfl (by repeat constructor) rfl ?_|refine zH .here rfl rfl rfl rfl ?_|refine zH (.there .here) rfl rfl rfl rfl ?_|refine zH (.there (.there .here)) rfl rfl rfl rfl ?_)
      refine oS (ev_indexAddr rfl rfl rfl hlt) rfl ?_
      refine oS (ev_load rfl rfl (Rdb.ofF hcs)) rfl ?_
      repeat (first|refine zJ rfl rfl ?_|refine jr rfl ?_|refine jn ?_|refine zM rfl rfl ?_|(refine zC rfl rfl ?_ rfl ?_;omega)|(refine zD rfl rfl ?_ rfl ?_;omega)|(refine zP rfl ?_ rfl ?_;omega)|refine zG rfl rfl rfl rfl ?_|(refine jdq rfl rfl ?_ ?_ ?_;kernel_rfl;kernel_rfl)|refine zB rfl rfl rfl (by repeat constructor) rfl ?_|refine zH .here rfl rfl rfl rfl ?_|refine zH (.there .here) rfl rfl rfl rfl ?_|refine zH (.there (.there .here)) rfl rfl rfl rfl ?_)
      exact J_ret1 rfl rfl [] rfl (PH.ler _) ⟨rfl, rfl⟩
  · obtain rfl : j = l.length := by omega
    rw [List.take_length] at hall
    have hf : fewB l = decide (l.length ≤ 80) := by
      unfold fewB
      congr 1
      exact propext ⟨fun hh => hh.2, fun hh => ⟨hall, hh⟩⟩
    rw [hf]
    by_cases h80 : l.length ≤ 80
    · repeat (first|refine zJ rfl rfl ?_|refine jr rfl ?_|refine jn ?_|refine zM rfl rfl ?_|(refine zC rfl rfl ?_ rfl ?_;omega)|(refine zD rfl rfl ?_ rfl ?_;omega)|(refine zP rfl ?_ rfl ?_;omega)|refine zG rfl rfl rfl rfl ?_|(refine jdq rfl rfl ?_ ?_ ?_;kernel_rfl;kernel_rfl)|refine zB rfl rfl rfl (by repeat constructor) rfl ?_|refine zH .here rfl rfl rfl rfl ?_|refine zH (.there .here) rfl rfl rfl rfl ?_|refine zH (.there (.there .here)) rfl rfl rfl rfl ?_)
      exact J_ret1 rfl rfl [] rfl (PH.ler _) ⟨by simp [retV, h80], rfl⟩
    · repeat (first|refine zJ rfl rfl ?_|refine jr rfl ?_|refine jn ?_|refine zM rfl rfl ?_|(refine zC rfl rfl ?_ rfl ?_;omega)|(refine zD rfl rfl ?_ rfl ?_;omega)|(refine zP rfl ?_ rfl ?_;omega)|refine zG rfl rfl rfl rfl ?_|(refine jdq rfl rfl ?_ ?_ ?_;kernel_rfl;kernel_rfl)|refine zB rfl rfl rfl (by repeat constructor) rfl ?_|refine zH .here rfl rfl rfl rfl ?_|refine zH (.there .here) rfl rfl rfl rfl ?_|refine zH (.there (.there .here)) rfl rfl rfl rfl ?_)
      exact J_ret1 rfl rfl [] rfl (PH.ler _) ⟨by simp [retV, h80], rfl⟩
set_option maxHeartbeats 4000000 in
theorem same_spec (x y : List (List UInt8)) (v v' : Value) (F : PH) (h : DgV F v x) (h' : DgV F v' y) (hx : D32 x) (hy : D32 y) (hl : x.length ≤ 1000000) (hl' : y.length ≤ 1000000) : Pure Try.prog 14 [v, v'] F (.bool (decide (x = y))) := by
  obtain ⟨_, a, c, rfl, hc, _⟩ := id h
  obtain ⟨_, a', c', rfl, hc', _⟩ := id h'
  refine Spec.of2 Try.func14 rfl rfl fun X w0 => ?_
  by_cases hlen : x.length = y.length
  · repeat (first|refine zJ rfl rfl ?_|refine jr rfl ?_|refine jn ?_|refine zM rfl rfl ?_|(refine zC rfl rfl ?_ rfl ?_;omega)|(refine zD rfl rfl ?_ rfl ?_;omega)|(refine zP rfl ?_ rfl ?_;omega)|refine zG rfl rfl rfl rfl ?_|(refine jdq rfl rfl ?_ ?_ ?_;kernel_rfl;kernel_rfl)|refine zB rfl rfl rfl (by repeat constructor) rfl ?_|refine zH .here rfl rfl rfl rfl ?_|refine zH (.there .here) rfl rfl rfl rfl ?_|refine zH (.there (.there .here)) rfl rfl rfl rfl ?_)
    refine J_loop (ι := Nat) (fun j => j ≤ x.length ∧ x.take j = y.take j) (fun j => x.length - j) (fun j => [(0, .slice a x.length c), (1, .slice a' y.length c'), (12, .int .i64 x.length), (13, .int .i64 j)]) (fun _ => F) (fun _ => X) 0 ⟨Nat.zero_le _, by rw [List.take_zero, List.take_zero]⟩ ⟨⟨rfl, rfl, rfl, rfl, trivial⟩, fun _ s => s⟩ ?_
    rintro j ⟨hj, hall⟩
    by_cases hlt : j < x.length
    · have hg : x[j]? = some x[j] := List.getElem?_eq_getElem hlt
      have hg' : y[j]? = some (y[j]'(by omega)) := List.getElem?_eq_getElem _
      obtain ⟨b1, o1, rfl, hc1⟩ := DgV.at h hx hg hlt
      obtain ⟨b2, o2, rfl, hc2⟩ := DgV.at h' hy hg' (by omega)
      have h1 := hx _ (List.mem_of_getElem? hg)
      have h2 := hy _ (List.mem_of_getElem? hg')
      have t1 := take_snoc hg
      have t2 := take_snoc hg'
      generalize x[j] = d at *
      generalize (y[j]'(by omega)) = e at *
      by_cases hde : d = e
      · subst hde
        repeat (first|refine zJ rfl rfl ?_|refine jr rfl ?_|refine jn ?_|refine zM rfl rfl ?_|(refine zC rfl rfl ?_ rfl ?_;omega)|(refine zD rfl rfl ?_ rfl ?_;omega)|(refine zP rfl ?_ rfl ?_;omega)|refine zG rfl rfl rfl rfl ?_|(refine jdq rfl rfl ?_ ?_ ?_;kernel_rfl;kernel_rfl)|refine zB rfl rfl rfl (by repeat constructor) rfl ?_|refine zH .here rfl rfl rfl rfl ?_|refine zH (.there .here) rfl rfl rfl rfl ?_|refine zH (.there (.there .here)) rfl rfl rfl rfl ?_)
        refine oS (ev_indexAddr rfl rfl rfl hlt) rfl ?_
        refine oS (ev_load_agg (cs := u8s d) rfl rfl (Rdb.ofF hc1) (by rw [u8s_len, h1])) rfl ?_
        repeat (first|refine zJ rfl rfl ?_|refine jr rfl ?_|refine jn ?_|refine zM rfl rfl ?_|(refine zC rfl rfl ?_ rfl ?_;omega)|(refine zD rfl rfl ?_ rfl ?_;omega)|(refine zP rfl ?_ rfl ?_;omega)|refine zG rfl rfl rfl rfl ?_|(refine jdq rfl rfl ?_ ?_ ?_;kernel_rfl;kernel_rfl)|refine zB rfl rfl rfl (by repeat constructor) rfl ?_|refine zH .here rfl rfl rfl rfl ?_|refine zH (.there .here) rfl rfl rfl rfl ?_|refine zH (.there (.there .here)) rfl rfl rfl rfl ?_)
        refine oS (ev_indexAddr rfl rfl rfl (by omega)) rfl ?_
        refine oS (ev_load_agg (cs := u8s d) rfl rfl (Rdb.ofF hc2) (by rw [u8s_len, h2])) rfl ?_
        refine oS (ev_arr_neq (xs := d) (ys := d) (n := 32) (e := 5) rfl rfl (by kernel_rfl) (by kernel_rfl) h1 h2 (by kernel_rfl)) rfl ?_
        rw [show (d == d) = true from by simp]
        repeat (first|refine zJ rfl rfl ?_|refine jr rfl ?_|refine jn ?_|refine zM rfl rfl ?_|(refine zC rfl rfl ?_ rfl ?_;omega)|(refine zD rfl rfl ?_ rfl ?_;omega)|(refine zP rfl ?_ rfl ?_;omega)|refine zG rfl rfl rfl rfl ?_|(refine jdq rfl rfl ?_ ?_ ?_;kernel_rfl;kernel_rfl)|refine zB rfl rfl rfl (by repeat constructor) rfl ?_|refine zH .here rfl rfl rfl rfl ?_|refine zH (.there .here) rfl rfl rfl rfl ?_|refine zH (.there (.there .here)) rfl rfl rfl rfl ?_)
        exact J_again (j + 1) ⟨hlt, by rw [t1, t2, hall]⟩ (by omega) ⟨⟨rfl, rfl, rfl, rfl, trivial⟩, fun w s => s⟩
      · have hf : decide (x = y) = false := decide_eq_false fun hh => by subst hh; rw [hg] at hg'; cases hg'; exact hde rfl
        rw [hf]
        repeat (first|refine zJ rfl rfl ?_|refine jr rfl ?_|refine jn ?_|refine zM rfl rfl ?_|(refine zC rfl rfl ?_ rfl ?_;omega)|(refine zD rfl rfl ?_ rfl ?_;omega)|(refine zP rfl ?_ rfl ?_;omega)|refine zG rfl rfl rfl rfl ?_|(refine jdq rfl rfl ?_ ?_ ?_;kernel_rfl;kernel_rfl)|refine zB rfl rfl rfl (by repeat constructor) rfl ?_|refine zH .here rfl rfl rfl rfl ?_|refine zH (.there .here) rfl rfl rfl rfl ?_|refine zH (.there (.there .here)) rfl rfl rfl rfl ?_)
        refine oS (ev_indexAddr rfl rfl rfl hlt) rfl ?_
        refine oS (ev_load_agg (cs := u8s d) rfl rfl (Rdb.ofF hc1) (by rw [u8s_len, h1])) rfl ?_
        repeat (first|refine zJ rfl rfl ?_|refine jr rfl ?_|refine jn ?_|refine zM rfl rfl ?_|(refine zC rfl rfl ?_ rfl ?_;omega)|(refine zD rfl rfl ?_ rfl ?_;omega)|(refine zP rfl ?_ rfl ?_;omega)|refine zG rfl rfl rfl rfl ?_|(refine jdq rfl rfl ?_ ?_ ?_;kernel_rfl;kernel_rfl)|refine zB rfl rfl rfl (by repeat constructor) rfl ?_|refine zH .here rfl rfl rfl rfl ?_|refine zH (.there .here) rfl rfl rfl rfl ?_|refine zH (.there (.there .here)) rfl rfl rfl rfl ?_)
        refine oS (ev_indexAddr rfl rfl rfl (by omega)) rfl ?_
        refine oS (ev_load_agg (cs := u8s e) rfl rfl (Rdb.ofF hc2) (by rw [u8s_len, h2])) rfl ?_
        refine oS (ev_arr_neq (xs := d) (ys := e) (n := 32) (e := 5) rfl rfl (by kernel_rfl) (by kernel_rfl) h1 h2 (by kernel_rfl)) rfl ?_
        rw [show (d == e) = false from by simp [hde]]
        repeat (first|refine zJ rfl rfl ?_|refine jr rfl ?_|refine jn ?_|refine zM rfl rfl ?_|(refine zC rfl rfl ?_ rfl ?_;omega)|(refine zD rfl rfl ?_ rfl ?_;omega)|(refine zP rfl ?_ rfl ?_;omega)|refine zG rfl rfl rfl rfl ?_|(refine jdq rfl rfl ?_ ?_ ?_;kernel_rfl;kernel_rfl)|refine zB rfl rfl rfl (by repeat constructor) rfl ?_|refine zH .here rfl rfl rfl rfl ?_|refine zH (.there .here) rfl rfl rfl rfl ?_|refine zH (.there (.there .here)) rfl rfl rfl rfl ?_)
        exact J_ret1 rfl rfl [] rfl (PH.ler _) ⟨rfl, rfl⟩
    · obtain rfl : j = x.length := by omega
      have hf : decide (x = y) = true := decide_eq_true (by rw [List.take_length, hlen, List.take_length] at hall; exact hall)
      rw [hf]
      repeat (first|refine zJ rfl rfl ?_|refine jr rfl ?_|refine jn ?_|refine zM rfl rfl ?_|(refine zC rfl rfl ?_ rfl ?_;omega)|(refine zD rfl rfl ?_ rfl ?_;omega)|(refine zP rfl ?_ rfl ?_;omega)|refine zG rfl rfl rfl rfl ?_|(refine jdq rfl rfl ?_ ?_ ?_;kernel_rfl;kernel_rfl)|refine zB rfl rfl rfl (by repeat constructor) rfl ?_|refine zH .here rfl rfl rfl rfl ?_|refine zH (.there .here) rfl rfl rfl rfl ?_|refine zH (.there (.there .here)) rfl rfl rfl rfl ?_)
      exact J_ret1 rfl rfl [] rfl (PH.ler _) ⟨rfl, rfl⟩
  · have hf : decide (x = y) = false := decide_eq_false fun hh => hlen (by rw [hh])
    rw [hf]
    repeat (first|refine zJ rfl rfl ?_|refine jr rfl ?_|refine jn ?_|refine zM rfl rfl ?_|(refine zC rfl rfl ?_ rfl ?_;omega)|(refine zD rfl rfl ?_ rfl ?_;omega)|(refine zP rfl ?_ rfl ?_;omega)|refine zG rfl rfl rfl rfl ?_|(refine jdq rfl rfl ?_ ?_ ?_;kernel_rfl;kernel_rfl)|refine zB rfl rfl rfl (by repeat constructor) rfl ?_|refine zH .here rfl rfl rfl rfl ?_|refine zH (.there .here) rfl rfl rfl rfl ?_|refine zH (.there (.there .here)) rfl rfl rfl rfl ?_)
    exact J_ret1 rfl rfl [] rfl (PH.ler _) ⟨rfl, rfl⟩
end Go.Proofs.Ytohlmhoacjodjaa
