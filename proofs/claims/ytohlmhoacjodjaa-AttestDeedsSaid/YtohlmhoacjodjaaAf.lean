/-
  What stands beside a leaf, from it up. Conditions are typed with each.
-/
import Derived.Test.YtohlmhoacjodjaaAe
namespace Go.Proofs.Ytohlmhoacjodjaa
open Go.RowKit
set_option maxRecDepth 100000
/-- From the top down: what stands beside. -/
def downF (C : Cry) : Nat → C.σ → List (List UInt8) → Nat → List (List UInt8) × C.σ
  | 0, s, _, _ => ([], s)
  | n + 1, s, l, i =>
    if l.length ≤ 1 then ([], s)
    else if i < halfP l.length then
      let p := rootP C s (l.drop (halfP l.length))
      let q := downF C n p.2 (l.take (halfP l.length)) i
      (p.1 :: q.1, q.2)
    else
      let p := rootP C s (l.take (halfP l.length))
      let q := downF C n p.2 (l.drop (halfP l.length)) (i - halfP l.length)
      (p.1 :: q.1, q.2)
theorem downF_fuel (C : Cry) : ∀ (n m : Nat) (s : C.σ) (l : List (List UInt8)) (i : Nat), l.length < n → l.length < m → downF C n s l i = downF C m s l i
  | 0, _, _, _, _, h, _ => absurd h (Nat.not_lt_zero _)
  | _ + 1, 0, _, _, _, _, h => absurd h (Nat.not_lt_zero _)
  | n + 1, m + 1, s, l, i, h1, h2 => by
    unfold downF
    by_cases h0 : l.length ≤ 1
    · rw [if_pos h0, if_pos h0]
    · rw [if_neg h0, if_neg h0]
      obtain ⟨hp, hl⟩ := halfP_lt (n := l.length) (by omega)
      by_cases hi : i < halfP l.length
      · rw [if_pos hi, if_pos hi]
        dsimp only
        rw [downF_fuel C n m _ (l.take (halfP l.length)) i (by rw [List.length_take]; omega) (by rw [List.length_take]; omega)]
      · rw [if_neg hi, if_neg hi]
        dsimp only
        rw [downF_fuel C n m _ (l.drop (halfP l.length)) _ (by rw [List.length_drop]; omega) (by rw [List.length_drop]; omega)]
def downP (C : Cry) (s : C.σ) (l : List (List UInt8)) (i : Nat) : List (List UInt8) × C.σ := downF C (l.length + 1) s l i
theorem downP_1 (C : Cry) (s : C.σ) (l : List (List UInt8)) (i : Nat) (h : l.length ≤ 1) : downP C s l i = ([], s) := by
  unfold downP downF
  rw [if_pos h]
theorem downP_l (C : Cry) (s : C.σ) (l : List (List UInt8)) (i : Nat) (h : 2 ≤ l.length) (hi : i < halfP l.length) :
    downP C s l i = ((rootP C s (l.drop (halfP l.length))).1 :: (downP C (rootP C s (l.drop (halfP l.length))).2 (l.take (halfP l.length)) i).1, (downP C (rootP C s (l.drop (halfP l.length))).2 (l.take (halfP l.length)) i).2) := by
  obtain ⟨hp, hl⟩ := halfP_lt h
  have e := downF_fuel C l.length ((l.take (halfP l.length)).length + 1) (rootP C s (l.drop (halfP l.length))).2 (l.take (halfP l.length)) i (by rw [List.length_take]; omega) (by omega)
  unfold downP
  rw [← e]
  show (if l.length ≤ 1 then _ else if i < halfP l.length then _ else _) = _
  rw [if_neg (by omega), if_pos hi]
theorem downP_r (C : Cry) (s : C.σ) (l : List (List UInt8)) (i : Nat) (h : 2 ≤ l.length) (hi : ¬ i < halfP l.length) :
    downP C s l i = ((rootP C s (l.take (halfP l.length))).1 :: (downP C (rootP C s (l.take (halfP l.length))).2 (l.drop (halfP l.length)) (i - halfP l.length)).1, (downP C (rootP C s (l.take (halfP l.length))).2 (l.drop (halfP l.length)) (i - halfP l.length)).2) := by
  obtain ⟨hp, hl⟩ := halfP_lt h
  have e := downF_fuel C l.length ((l.drop (halfP l.length)).length + 1) (rootP C s (l.take (halfP l.length))).2 (l.drop (halfP l.length)) (i - halfP l.length) (by rw [List.length_drop]; omega) (by omega)
  unfold downP
  rw [← e]
  show (if l.length ≤ 1 then _ else if i < halfP l.length then _ else _) = _
  rw [if_neg (by omega), if_neg hi]
def pathP (C : Cry) (s : C.σ) (l : List (List UInt8)) (i : Nat) : List (List UInt8) × C.σ := ((downP C s l i).1.reverse, (downP C s l i).2)
theorem elD : Elem Try.prog 31 28 32 32 (.agg (u8s zd32).toArray) := ⟨by kernel_rfl, ⟨(Try.prog.info? 28).get!, by kernel_rfl, by kernel_rfl, by kernel_rfl, by kernel_rfl, by kernel_rfl, by decide⟩, by kernel_rfl, rfl⟩
def tyDg : Ty Try.prog 28 (List UInt8) := tyArr Try.underlying28 Try.underlying5 (by kernel_rfl) (by kernel_rfl)
/-- Digests' cells. -/
def dgC (ds : List (List UInt8)) : List Value := (ds.map u8s).flatten
def D32 (ds : List (List UInt8)) : Prop := ∀ d ∈ ds, d.length = 32
theorem dgC_len {ds : List (List UInt8)} (h : D32 ds) : (dgC ds).length = ds.length * 32 := by
  unfold dgC
  rw [flat_len (n := 32) (fun c hc => by obtain ⟨d, hd, rfl⟩ := List.mem_map.1 hc; rw [u8s_len]; exact h d hd), List.length_map]
theorem dgC_snoc (ds : List (List UInt8)) (d : List UInt8) : dgC (ds ++ [d]) = dgC ds ++ u8s d := by simp [dgC]
theorem dgC_app (ds es : List (List UInt8)) : dgC (ds ++ es) = dgC ds ++ dgC es := by simp [dgC]
theorem dgC_ones (ds : List (List UInt8)) : Ones (dgC ds) := fun v hv => by
  obtain ⟨c, hc, hv⟩ := List.mem_flatten.1 hv
  obtain ⟨d, _, rfl⟩ := List.mem_map.1 hc
  exact u8s_ones d v hv
abbrev DgV (F : PH) (v : Value) (ds : List (List UInt8)) : Prop := SliceV F 32 v ds.length (dgC ds)
theorem DgV.at {F : PH} {a : Option Addr} {n c i : Nat} {ds : List (List UInt8)} {d : List UInt8} (h : SliceV F 32 (.slice a n c) n (dgC ds)) (h32 : D32 ds) (hi : ds[i]? = some d) (hn : i < n) : ∃ b off, a = some ⟨b, off, none⟩ ∧ Cells F b (off + i * 32) (u8s d) := by
  refine SliceV.row h (fun c hc => ?_) ?_ hn
  · obtain ⟨q, hq, rfl⟩ := List.mem_map.1 hc
    rw [u8s_len]
    exact h32 q hq
  · rw [List.getElem?_map, hi]; rfl
theorem downP_32 (C : Cry) : ∀ (n : Nat) (s : C.σ) (l : List (List UInt8)) (i : Nat), l.length ≤ n → D32 (downP C s l i).1
  | 0, s, l, i, h => by
    rw [downP_1 C s l i (by omega)]
    exact fun _ h => by cases h
  | n + 1, s, l, i, h => by
    by_cases h1 : l.length ≤ 1
    · rw [downP_1 C s l i h1]
      exact fun _ h => by cases h
    · obtain ⟨hp, hl⟩ := halfP_lt (n := l.length) (by omega)
      by_cases hi : i < halfP l.length
      · rw [downP_l C s l i (by omega) hi]
        intro d hd
        rcases List.mem_cons.1 hd with rfl | hd
        · exact rootP_len _ _ _
        · exact downP_32 C n _ _ _ (by rw [List.length_take]; omega) d hd
      · rw [downP_r C s l i (by omega) hi]
        intro d hd
        rcases List.mem_cons.1 hd with rfl | hd
        · exact rootP_len _ _ _
        · exact downP_32 C n _ _ _ (by rw [List.length_drop]; omega) d hd
theorem downP_n (C : Cry) : ∀ (n : Nat) (s : C.σ) (l : List (List UInt8)) (i : Nat), l.length ≤ n → (downP C s l i).1.length ≤ l.length ∧ C.room (downP C s l i).2 ≤ C.room s + 2 * l.length
  | 0, s, l, i, h => by
    rw [downP_1 C s l i (by omega)]
    exact ⟨Nat.zero_le _, by dsimp only; omega⟩
  | n + 1, s, l, i, h => by
    by_cases h1 : l.length ≤ 1
    · rw [downP_1 C s l i h1]
      exact ⟨Nat.zero_le _, by dsimp only; omega⟩
    · obtain ⟨hp, hl⟩ := halfP_lt (n := l.length) (by omega)
      by_cases hi : i < halfP l.length
      · rw [downP_l C s l i (by omega) hi]
        have r := rootP_room C _ s (l.drop (halfP l.length)) (Nat.le_refl _)
        obtain ⟨d1, d2⟩ := downP_n C n (rootP C s (l.drop (halfP l.length))).2 (l.take (halfP l.length)) i (by rw [List.length_take]; omega)
        rw [List.length_drop, if_neg (by omega)] at r
        rw [List.length_take] at d1 d2
        refine ⟨?_, ?_⟩
        · rw [List.length_cons]; omega
        · dsimp only; omega
      · rw [downP_r C s l i (by omega) hi]
        have r := rootP_room C _ s (l.take (halfP l.length)) (Nat.le_refl _)
        obtain ⟨d1, d2⟩ := downP_n C n (rootP C s (l.take (halfP l.length))).2 (l.drop (halfP l.length)) (i - halfP l.length) (by rw [List.length_drop]; omega)
        rw [List.length_take, if_neg (by omega)] at r
        rw [List.length_drop] at d1 d2
        refine ⟨?_, ?_⟩
        · rw [List.length_cons]; omega
        · dsimp only; omega
/-- A row of digests' state midway. -/
structure Pst (C : Cry) where
  G : PH
  s : C.σ
  l : List (List UInt8)
  lv : Value
  i : Nat
  ds : List (List UInt8)
  dv : Value
set_option maxHeartbeats 16000000 in
theorem path_spec (C : Cry) (l : List (List UInt8)) (s : C.σ) (v : Value) (i : Nat) (F : PH) (h : RowV tyByt F v l) (hs : Small l) (hr : C.room s + 2 * l.length ≤ 80000) (hi : i < l.length) : Spec Try.prog 13 [C.v, v, .int .i64 i] F (C.A s) fun u F' H' => DgV F' u (pathP C s l i).1 ∧ H' = C.A (pathP C s l i).2 := by
  obtain ⟨a, c, rfl, hc⟩ := h.form
  have hn := downP_n C _ s l i (Nat.le_refl _)
  have h32 := downP_32 C _ s l i (Nat.le_refl _)
  refine Spec.of3 Try.func13 rfl rfl fun X w0 => ?_
  repeat (first|refine zJ rfl rfl ?_|refine jr rfl ?_|refine jn ?_|refine zM rfl rfl ?_|(refine zC rfl rfl ?_ rfl ?_;omega)|(refine zD rfl rfl ?_ rfl ?_;omega)|(refine zP rfl ?_ rfl ?_;omega)|refine zG rfl rfl rfl rfl ?_|(refine jdq rfl rfl ?_ ?_ ?_;kernel_rfl;kernel_rfl)|refine zB rfl rfl rfl (by repeat constructor) rfl ?_|refine zH .here rfl rfl rfl rfl ?_|refine zH (.there .here) rfl rfl rfl rfl ?_|refine zH (.there (.there .here)) rfl rfl rfl rfl ?_)
  refine J_own_nil 28 32 ?_
  refine J_loop (ι := Pst C) (fun t => F.le t.G ∧ RowV tyByt t.G t.lv t.l ∧ Small t.l ∧ C.room t.s + 2 * t.l.length ≤ 80000 ∧ t.l.length ≤ l.length ∧ t.i < t.l.length ∧ D32 t.ds ∧ t.ds.length + t.l.length ≤ l.length + 1 ∧ (downP C s l i).1 = t.ds ++ (downP C t.s t.l t.i).1 ∧ (downP C s l i).2 = (downP C t.s t.l t.i).2) (fun t => t.l.length)
    (fun t => [(0, C.v), (1, t.lv), (2, .int .i64 t.i), (7, t.dv)]) (fun t => t.G) (fun t => own t.dv 28 32 t.ds.length (dgC t.ds) :: (C.A t.s ++ X)) ⟨F, s, l, .slice a l.length c, i, [], .slice none 0 0⟩
    ⟨PH.ler _, h, hs, hr, Nat.le_refl _, hi, (fun _ h => by cases h), by dsimp only [List.length_nil]; omega, rfl, rfl⟩ ⟨⟨rfl, rfl, rfl, rfl, trivial⟩, fun _ s => s⟩ ?_
  rintro ⟨G, s1, l1, lv, i1, ds, dv⟩ ⟨hG, hrow, hs1, hr1, hll, hi1, hd32, hdl, he1, he2⟩
  dsimp only at hG hrow hs1 hr1 hll hi1 hd32 hdl he1 he2 ⊢
  obtain ⟨a1, c1, rfl, hc1⟩ := hrow.form
  by_cases h1 : l1.length ≤ 1
  · rw [downP_1 C s1 l1 i1 h1] at he1 he2
    dsimp only at he1 he2
    rw [List.append_nil] at he1
    refine jOwn .here fun a7 k7 hv7 _ _ _ => ?_
    subst hv7
    repeat (first|refine zJ rfl rfl ?_|refine jr rfl ?_|refine jn ?_|refine zM rfl rfl ?_|(refine zC rfl rfl ?_ rfl ?_;omega)|(refine zD rfl rfl ?_ rfl ?_;omega)|(refine zP rfl ?_ rfl ?_;omega)|refine zG rfl rfl rfl rfl ?_|(refine jdq rfl rfl ?_ ?_ ?_;kernel_rfl;kernel_rfl)|refine zB rfl rfl rfl (by repeat constructor) rfl ?_|refine zH .here rfl rfl rfl rfl ?_|refine zH (.there .here) rfl rfl rfl rfl ?_|refine zH (.there (.there .here)) rfl rfl rfl rfl ?_)
    refine oE (ev_make_full (c := ds.length) rfl rfl elD (by omega)) rfl ?_
    rintro _ _ _ _ ⟨rfl, ⟨b9, rfl⟩, rfl⟩
    refine oPick (.there .here) ?_
    refine oPersist fun hh hA hd => ?_
    have hdv := own_slice hA hd
    have hF1 := PH.le_l G hh
    generalize G.un hh = G1 at *
    have hrep : (List.replicate ds.length (Value.agg (u8s zd32).toArray).cells.toList).flatten = dgC (List.replicate (ds.length - 0) zd32 ++ (ds.take 0).reverse) := by
      rw [List.take_zero, List.reverse_nil, List.append_nil, Nat.sub_zero]
      unfold dgC
      rw [List.map_replicate]
      rfl
    rw [hrep]
    repeat (first|refine zJ rfl rfl ?_|refine jr rfl ?_|refine jn ?_|refine zM rfl rfl ?_|(refine zC rfl rfl ?_ rfl ?_;omega)|(refine zD rfl rfl ?_ rfl ?_;omega)|(refine zP rfl ?_ rfl ?_;omega)|refine zG rfl rfl rfl rfl ?_|(refine jdq rfl rfl ?_ ?_ ?_;kernel_rfl;kernel_rfl)|refine zB rfl rfl rfl (by repeat constructor) rfl ?_|refine zH .here rfl rfl rfl rfl ?_|refine zH (.there .here) rfl rfl rfl rfl ?_|refine zH (.there (.there .here)) rfl rfl rfl rfl ?_)
    refine J_loop (ι := Nat) (fun j => j ≤ ds.length) (fun j => ds.length - j) (fun j => [(7, .slice a7 ds.length k7), (9, .slice (some ⟨b9, 0, none⟩) ds.length ds.length), (57, .slice a7 ds.length k7), (58, .int .i64 ds.length), (59, .int .i64 j)]) (fun _ => G1)
      (fun j => own (.slice (some ⟨b9, 0, none⟩) ds.length ds.length) 28 32 ds.length (dgC (List.replicate (ds.length - j) zd32 ++ (ds.take j).reverse)) :: (C.A s1 ++ X)) 0 (Nat.zero_le _) ⟨⟨rfl, rfl, rfl, rfl, rfl, trivial⟩, fun _ s => s⟩ ?_
    intro j hj
    by_cases hjl : j < ds.length
    · have g1 : ds[j]? = some ds[j] := List.getElem?_eq_getElem hjl
      have hd1 := hd32 _ (List.getElem_mem hjl)
      obtain ⟨b5, o5, rfl, hc5⟩ := DgV.at hdv hd32 g1 hjl
      have ht : ds.take (j + 1) = ds.take j ++ [ds[j]] := by rw [List.take_add_one, g1]; rfl
      generalize ds[j] = d at *
      have hd8 : (u8s d).length = 32 := by rw [u8s_len, hd1]
      have e0 : dgC (List.replicate (ds.length - j) zd32 ++ (ds.take j).reverse) = dgC (List.replicate (ds.length - 1 - j) zd32) ++ (u8s zd32 ++ dgC (ds.take j).reverse) := by
        rw [show ds.length - j = (ds.length - 1 - j) + 1 from by omega, List.replicate_succ', List.append_assoc, dgC_app]
        rfl
      have e1 : dgC (List.replicate (ds.length - (j + 1)) zd32 ++ (ds.take (j + 1)).reverse) = dgC (List.replicate (ds.length - 1 - j) zd32) ++ (u8s d ++ dgC (ds.take j).reverse) := by
        rw [show ds.length - (j + 1) = ds.length - 1 - j from by omega, ht, List.reverse_append, dgC_app]
        rfl
      have hpl : (dgC (List.replicate (ds.length - 1 - j) zd32)).length = (ds.length - 1 - j) * 32 := by
        rw [dgC_len (fun x hx => by rw [List.eq_of_mem_replicate hx]; rfl), List.length_replicate]
      have hlay : Lay (0 + (ds.length - 1 - j) * 32) (u8s d) (dgC (List.replicate (ds.length - j) zd32 ++ (ds.take j).reverse)) (dgC (List.replicate (ds.length - (j + 1)) zd32 ++ (ds.take (j + 1)).reverse)) := by
        rw [e0, e1, Nat.zero_add, ← hpl]
        exact layP (dgC (List.replicate (ds.length - 1 - j) zd32)) (layM (vs := u8s d) (zs := u8s zd32) (dgC (ds.take j).reverse) (by rw [hd8]; rfl))
      repeat (first|refine zJ rfl rfl ?_|refine jr rfl ?_|refine jn ?_|refine zM rfl rfl ?_|(refine zC rfl rfl ?_ rfl ?_;omega)|(refine zD rfl rfl ?_ rfl ?_;omega)|(refine zP rfl ?_ rfl ?_;omega)|refine zG rfl rfl rfl rfl ?_|(refine jdq rfl rfl ?_ ?_ ?_;kernel_rfl;kernel_rfl)|refine zB rfl rfl rfl (by repeat constructor) rfl ?_|refine zH .here rfl rfl rfl rfl ?_|refine zH (.there .here) rfl rfl rfl rfl ?_|refine zH (.there (.there .here)) rfl rfl rfl rfl ?_)
      refine oS (ev_indexAddr rfl rfl rfl hjl) rfl ?_
      refine oS (ev_load_agg rfl rfl (Rdb.ofF hc5) hd8) rfl ?_
      refine oE (ev_alloc (E := 28) (cs := u8s zd32) (by kernel_rfl)) rfl ?_
      rintro _ _ _ _ ⟨rfl, b11, rfl, rfl⟩
      repeat (first|refine zJ rfl rfl ?_|refine jr rfl ?_|refine jn ?_|refine zM rfl rfl ?_|(refine zC rfl rfl ?_ rfl ?_;omega)|(refine zD rfl rfl ?_ rfl ?_;omega)|(refine zP rfl ?_ rfl ?_;omega)|refine zG rfl rfl rfl rfl ?_|(refine jdq rfl rfl ?_ ?_ ?_;kernel_rfl;kernel_rfl)|refine zB rfl rfl rfl (by repeat constructor) rfl ?_|refine zH .here rfl rfl rfl rfl ?_|refine zH (.there .here) rfl rfl rfl rfl ?_|refine zH (.there (.there .here)) rfl rfl rfl rfl ?_)
      refine oN (ev_store (b := b11) rfl rfl .agg rfl hd8 (lay_all (zs := u8s zd32) (by rw [hd8]; rfl)) (u8s_ones _) .here) rfl ?_
      rintro _ _ _ _ ⟨rfl, _, rfl⟩
      repeat (first|refine zJ rfl rfl ?_|refine jr rfl ?_|refine jn ?_|refine zM rfl rfl ?_|(refine zC rfl rfl ?_ rfl ?_;omega)|(refine zD rfl rfl ?_ rfl ?_;omega)|(refine zP rfl ?_ rfl ?_;omega)|refine zG rfl rfl rfl rfl ?_|(refine jdq rfl rfl ?_ ?_ ?_;kernel_rfl;kernel_rfl)|refine zB rfl rfl rfl (by repeat constructor) rfl ?_|refine zH .here rfl rfl rfl rfl ?_|refine zH (.there .here) rfl rfl rfl rfl ?_|refine zH (.there (.there .here)) rfl rfl rfl rfl ?_)
      rw [show (ds.length : Int) - 1 - (j : Int) = ((ds.length - 1 - j : Nat) : Int) from by omega]
      refine oS (ev_load_agg (cs := u8s d) rfl rfl (Rdb.ofB (n := 0) .here (by rw [List.drop_zero, List.take_length])) hd8) rfl ?_
      refine oS (ev_indexAddr (i := ds.length - 1 - j) rfl rfl rfl (by omega)) rfl ?_
      refine oN (ev_store_own (vs := u8s d) rfl rfl .agg rfl hd8 hlay (u8s_ones _) (.there .here)) rfl ?_
      rintro _ _ _ _ ⟨rfl, _, rfl⟩
      repeat (first|refine zJ rfl rfl ?_|refine jr rfl ?_|refine jn ?_|refine zM rfl rfl ?_|(refine zC rfl rfl ?_ rfl ?_;omega)|(refine zD rfl rfl ?_ rfl ?_;omega)|(refine zP rfl ?_ rfl ?_;omega)|refine zG rfl rfl rfl rfl ?_|(refine jdq rfl rfl ?_ ?_ ?_;kernel_rfl;kernel_rfl)|refine zB rfl rfl rfl (by repeat constructor) rfl ?_|refine zH .here rfl rfl rfl rfl ?_|refine zH (.there .here) rfl rfl rfl rfl ?_|refine zH (.there (.there .here)) rfl rfl rfl rfl ?_)
      exact J_again (j + 1) hjl (by omega) ⟨⟨rfl, rfl, rfl, rfl, rfl, trivial⟩, fun w s => s.drop⟩
    · obtain rfl : j = ds.length := by omega
      rw [Nat.sub_self, List.take_length, List.replicate_zero, List.nil_append]
      repeat (first|refine zJ rfl rfl ?_|refine jr rfl ?_|refine jn ?_|refine zM rfl rfl ?_|(refine zC rfl rfl ?_ rfl ?_;omega)|(refine zD rfl rfl ?_ rfl ?_;omega)|(refine zP rfl ?_ rfl ?_;omega)|refine zG rfl rfl rfl rfl ?_|(refine jdq rfl rfl ?_ ?_ ?_;kernel_rfl;kernel_rfl)|refine zB rfl rfl rfl (by repeat constructor) rfl ?_|refine zH .here rfl rfl rfl rfl ?_|refine zH (.there .here) rfl rfl rfl rfl ?_|refine zH (.there (.there .here)) rfl rfl rfl rfl ?_)
      refine J_persist fun hh hA hd => ?_
      have hout := own_slice hA hd
      refine J_retv rfl (.tmp rfl .nil) (C.A s1) (fun w s => s) (hG.trans (hF1.trans (PH.le_l _ _))) ⟨?_, ?_⟩
      · unfold pathP DgV
        dsimp only
        rw [he1, List.length_reverse]
        exact hout
      · unfold pathP
        dsimp only
        rw [he2]
  · obtain ⟨hp, hl⟩ := halfP_lt (n := l1.length) (by omega)
    have hpre := hrow.pre (halfP l1.length) (by omega)
    have hsuf := hrow.suf (halfP l1.length) (by omega) hc1
    have hl1 : (l1.take (halfP l1.length)).length = halfP l1.length := by rw [List.length_take]; omega
    have hl2 : (l1.drop (halfP l1.length)).length = l1.length - halfP l1.length := by rw [List.length_drop]
    have hs1' : Small (l1.take (halfP l1.length)) := fun x hx => hs1 x (List.mem_of_mem_take hx)
    have hs2 : Small (l1.drop (halfP l1.length)) := fun x hx => hs1 x (List.mem_of_mem_drop hx)
    repeat (first|refine zJ rfl rfl ?_|refine jr rfl ?_|refine jn ?_|refine zM rfl rfl ?_|(refine zC rfl rfl ?_ rfl ?_;omega)|(refine zD rfl rfl ?_ rfl ?_;omega)|(refine zP rfl ?_ rfl ?_;omega)|refine zG rfl rfl rfl rfl ?_|(refine jdq rfl rfl ?_ ?_ ?_;kernel_rfl;kernel_rfl)|refine zB rfl rfl rfl (by repeat constructor) rfl ?_|refine zH .here rfl rfl rfl rfl ?_|refine zH (.there .here) rfl rfl rfl rfl ?_|refine zH (.there (.there .here)) rfl rfl rfl rfl ?_)
    refine oP (half_spec l1.length G (by omega) (by omega)) Try.call25 rfl rfl ?_
    by_cases him : i1 < halfP l1.length
    · rw [downP_l C s1 l1 i1 (by omega) him] at he1 he2
      dsimp only at he1 he2
      have r1 := rootP_room C _ s1 (l1.drop (halfP l1.length)) (Nat.le_refl _)
      rw [hl2, if_neg (by omega)] at r1
      have n1 := rootP_len C s1 (l1.drop (halfP l1.length))
      have h32r : (u8s (rootP C s1 (l1.drop (halfP l1.length))).1).length = 32 := by rw [u8s_len, n1]
      repeat (first|refine zJ rfl rfl ?_|refine jr rfl ?_|refine jn ?_|refine zM rfl rfl ?_|(refine zC rfl rfl ?_ rfl ?_;omega)|(refine zD rfl rfl ?_ rfl ?_;omega)|(refine zP rfl ?_ rfl ?_;omega)|refine zG rfl rfl rfl rfl ?_|(refine jdq rfl rfl ?_ ?_ ?_;kernel_rfl;kernel_rfl)|refine zB rfl rfl rfl (by repeat constructor) rfl ?_|refine zH .here rfl rfl rfl rfl ?_|refine zH (.there .here) rfl rfl rfl rfl ?_|refine zH (.there (.there .here)) rfl rfl rfl rfl ?_)
      refine ja G [] ?_ (fun w t => t.bare) ?_; kernel_rfl
      refine aT 0 rfl (ev_qe rfl) rfl rfl ?_ ?_ ?_ ?_; kernel_rfl; kernel_rfl; kernel_rfl
      refine aT 1 rfl (ev_qe rfl) rfl rfl ?_ ?_ ?_ ?_; kernel_rfl; kernel_rfl; kernel_rfl
      refine aT 2 rfl (ev_qe rfl) rfl rfl ?_ ?_ ?_ ?_; kernel_rfl; kernel_rfl; kernel_rfl
      refine aT 3 rfl (ev_qe rfl) rfl rfl ?_ ?_ ?_ ?_; kernel_rfl; kernel_rfl; kernel_rfl
      refine aT 4 rfl (ev_slice_lo (lo := halfP l1.length) rfl rfl rfl (by omega)) rfl rfl ?_ ?_ ?_ ?_; kernel_rfl; kernel_rfl; kernel_rfl
      refine aT 8 rfl (ev_qe rfl) rfl rfl ?_ ?_ ?_ ?_; kernel_rfl; kernel_rfl; kernel_rfl
      refine aT 9 rfl (ev_qe rfl) rfl rfl ?_ ?_ ?_ ?_; kernel_rfl; kernel_rfl; kernel_rfl
      refine aT 10 rfl (ev_slice_hi (h := halfP l1.length) rfl rfl rfl (by omega)) rfl rfl ?_ ?_ ?_ ?_; kernel_rfl; kernel_rfl; kernel_rfl
      refine aB (i := 5) (by kernel_rfl) (aC (Hc := C.A s1) (Hr := own dv 28 32 ds.length (dgC ds) :: X) rfl (root_spec C _ (l1.drop (halfP l1.length)) s1 _ G (Nat.le_refl _) (hsuf) hs2 (by omega)) Try.call11 rfl rfl rfl (fun _ t => t.front (A := [_])) (fun _ _ _ hF hq w t => t.bare.mono hF) ?_)
      rintro _ F1 _ hF1 ⟨rfl, rfl⟩
      refine aWeak (F' := F1) (H' := own dv 28 32 ds.length (dgC ds) :: (C.A (rootP C s1 (l1.drop (halfP l1.length))).2 ++ X)) ?_ (fun w t => t.bare.mono hF1) (fun w t => t.bring)
      refine aB (i := 6) (by kernel_rfl) (aE rfl (ev_one rfl .agg h32r elD) rfl rfl (fun _ _ _ hF hq w t => t.bare.mono (hF1.trans hF)) ?_)
      rintro _ _ _ _ ⟨rfl, bt, rfl, rfl⟩
      refine aB (i := 7) (by kernel_rfl) (aE rfl (ev_append (m := 1) (c := 1) (b := bt) (off := 0) (n := ds.length) (xs := dgC ds) (news := u8s (rootP C s1 (l1.drop (halfP l1.length))).1) (K := fun v' => blk bt 28 (u8s (rootP C s1 (l1.drop (halfP l1.length))).1) :: own v' 28 32 (ds.length + 1) (dgC ds ++ u8s (rootP C s1 (l1.drop (halfP l1.length))).1) :: (C.A (rootP C s1 (l1.drop (halfP l1.length))).2 ++ X)) rfl rfl elD (Rdb.ofB (n := 0) .here (by rw [List.drop_zero, List.take_length])) (by rw [h32r]) (u8s_ones _) (by omega) (by unfold maxLen; omega) (fun v' => .there .here)) rfl rfl (fun _ _ _ hF hq w t => t.bare.mono (hF1.trans hF)) ?_)
      rintro u _ _ _ ⟨rfl, _, rfl⟩
      refine aT 11 rfl (ev_qe rfl) rfl rfl ?_ ?_ ?_ ?_; kernel_rfl; kernel_rfl; kernel_rfl
      refine aT 12 rfl (ev_qe rfl) rfl rfl ?_ ?_ ?_ ?_; kernel_rfl; kernel_rfl; kernel_rfl
      refine aD (by kernel_rfl) ?_
      repeat (first|refine zJ rfl rfl ?_|refine jr rfl ?_|refine jn ?_|refine zM rfl rfl ?_|(refine zC rfl rfl ?_ rfl ?_;omega)|(refine zD rfl rfl ?_ rfl ?_;omega)|(refine zP rfl ?_ rfl ?_;omega)|refine zG rfl rfl rfl rfl ?_|(refine jdq rfl rfl ?_ ?_ ?_;kernel_rfl;kernel_rfl)|refine zB rfl rfl rfl (by repeat constructor) rfl ?_|refine zH .here rfl rfl rfl rfl ?_|refine zH (.there .here) rfl rfl rfl rfl ?_|refine zH (.there (.there .here)) rfl rfl rfl rfl ?_)
      refine J_again ⟨F1, (rootP C s1 (l1.drop (halfP l1.length))).2, (l1.take (halfP l1.length)), .slice a1 (halfP l1.length) c1, i1, ds ++ [(rootP C s1 (l1.drop (halfP l1.length))).1], u⟩ ⟨hG.trans hF1, hpre.mono hF1, hs1', ?_, ?_, ?_, ?_, ?_, ?_, he2⟩ ?_ ⟨⟨rfl, rfl, ?_, rfl, trivial⟩, fun w s => ?_⟩
      · dsimp only; rw [hl1]; omega
      · dsimp only; rw [hl1]; omega
      · dsimp only; rw [hl1]; omega
      · intro d hd
        rcases List.mem_append.1 hd with hd | hd
        · exact hd32 d hd
        · rw [List.mem_singleton] at hd; rw [hd]; exact n1
      · dsimp only; rw [hl1, List.length_append, List.length_singleton]; omega
      · rw [he1, List.append_assoc]; rfl
      · dsimp only; rw [hl1]; omega
      · rfl
      · dsimp only
        rw [List.length_append, List.length_singleton, dgC_snoc]
        exact s.drop
    · rw [downP_r C s1 l1 i1 (by omega) him] at he1 he2
      dsimp only at he1 he2
      have r1 := rootP_room C _ s1 (l1.take (halfP l1.length)) (Nat.le_refl _)
      rw [hl1, if_neg (by omega)] at r1
      have n1 := rootP_len C s1 (l1.take (halfP l1.length))
      have h32r : (u8s (rootP C s1 (l1.take (halfP l1.length))).1).length = 32 := by rw [u8s_len, n1]
      repeat (first|refine zJ rfl rfl ?_|refine jr rfl ?_|refine jn ?_|refine zM rfl rfl ?_|(refine zC rfl rfl ?_ rfl ?_;omega)|(refine zD rfl rfl ?_ rfl ?_;omega)|(refine zP rfl ?_ rfl ?_;omega)|refine zG rfl rfl rfl rfl ?_|(refine jdq rfl rfl ?_ ?_ ?_;kernel_rfl;kernel_rfl)|refine zB rfl rfl rfl (by repeat constructor) rfl ?_|refine zH .here rfl rfl rfl rfl ?_|refine zH (.there .here) rfl rfl rfl rfl ?_|refine zH (.there (.there .here)) rfl rfl rfl rfl ?_)
      refine ja G [] ?_ (fun w t => t.bare) ?_; kernel_rfl
      refine aT 0 rfl (ev_qe rfl) rfl rfl ?_ ?_ ?_ ?_; kernel_rfl; kernel_rfl; kernel_rfl
      refine aT 1 rfl (ev_qe rfl) rfl rfl ?_ ?_ ?_ ?_; kernel_rfl; kernel_rfl; kernel_rfl
      refine aT 2 rfl (ev_qe rfl) rfl rfl ?_ ?_ ?_ ?_; kernel_rfl; kernel_rfl; kernel_rfl
      refine aT 3 rfl (ev_qe rfl) rfl rfl ?_ ?_ ?_ ?_; kernel_rfl; kernel_rfl; kernel_rfl
      refine aT 4 rfl (ev_slice_hi (h := halfP l1.length) rfl rfl rfl (by omega)) rfl rfl ?_ ?_ ?_ ?_; kernel_rfl; kernel_rfl; kernel_rfl
      refine aT 8 rfl (ev_qe rfl) rfl rfl ?_ ?_ ?_ ?_; kernel_rfl; kernel_rfl; kernel_rfl
      refine aT 9 rfl (ev_qe rfl) rfl rfl ?_ ?_ ?_ ?_; kernel_rfl; kernel_rfl; kernel_rfl
      refine aT 10 rfl (ev_slice_lo (lo := halfP l1.length) rfl rfl rfl (by omega)) rfl rfl ?_ ?_ ?_ ?_; kernel_rfl; kernel_rfl; kernel_rfl
      refine aT 11 rfl (ev_qe rfl) rfl rfl ?_ ?_ ?_ ?_; kernel_rfl; kernel_rfl; kernel_rfl
      refine aT 12 rfl (ev_qe rfl) rfl rfl ?_ ?_ ?_ ?_; kernel_rfl; kernel_rfl; kernel_rfl
      refine aT 13 rfl (ev_sub (m := (i1 : Int)) (n := (halfP l1.length : Int)) rfl rfl (by dsimp only [InK]; omega)) rfl rfl ?_ ?_ ?_ ?_; kernel_rfl; kernel_rfl; kernel_rfl
      refine aB (i := 5) (by kernel_rfl) (aC (Hc := C.A s1) (Hr := own dv 28 32 ds.length (dgC ds) :: X) rfl (root_spec C _ (l1.take (halfP l1.length)) s1 _ G (Nat.le_refl _) (hpre) hs1' (by omega)) Try.call11 rfl rfl rfl (fun _ t => t.front (A := [_])) (fun _ _ _ hF hq w t => t.bare.mono hF) ?_)
      rintro _ F1 _ hF1 ⟨rfl, rfl⟩
      refine aWeak (F' := F1) (H' := own dv 28 32 ds.length (dgC ds) :: (C.A (rootP C s1 (l1.take (halfP l1.length))).2 ++ X)) ?_ (fun w t => t.bare.mono hF1) (fun w t => t.bring)
      refine aB (i := 6) (by kernel_rfl) (aE rfl (ev_one rfl .agg h32r elD) rfl rfl (fun _ _ _ hF hq w t => t.bare.mono (hF1.trans hF)) ?_)
      rintro _ _ _ _ ⟨rfl, bt, rfl, rfl⟩
      refine aB (i := 7) (by kernel_rfl) (aE rfl (ev_append (m := 1) (c := 1) (b := bt) (off := 0) (n := ds.length) (xs := dgC ds) (news := u8s (rootP C s1 (l1.take (halfP l1.length))).1) (K := fun v' => blk bt 28 (u8s (rootP C s1 (l1.take (halfP l1.length))).1) :: own v' 28 32 (ds.length + 1) (dgC ds ++ u8s (rootP C s1 (l1.take (halfP l1.length))).1) :: (C.A (rootP C s1 (l1.take (halfP l1.length))).2 ++ X)) rfl rfl elD (Rdb.ofB (n := 0) .here (by rw [List.drop_zero, List.take_length])) (by rw [h32r]) (u8s_ones _) (by omega) (by unfold maxLen; omega) (fun v' => .there .here)) rfl rfl (fun _ _ _ hF hq w t => t.bare.mono (hF1.trans hF)) ?_)
      rintro u _ _ _ ⟨rfl, _, rfl⟩
      refine aT 14 rfl (ev_qe rfl) rfl rfl ?_ ?_ ?_ ?_; kernel_rfl; kernel_rfl; kernel_rfl
      refine aT 15 rfl (ev_qe rfl) rfl rfl ?_ ?_ ?_ ?_; kernel_rfl; kernel_rfl; kernel_rfl
      refine aT 16 rfl (ev_qe rfl) rfl rfl ?_ ?_ ?_ ?_; kernel_rfl; kernel_rfl; kernel_rfl
      refine aD (by kernel_rfl) ?_
      repeat (first|refine zJ rfl rfl ?_|refine jr rfl ?_|refine jn ?_|refine zM rfl rfl ?_|(refine zC rfl rfl ?_ rfl ?_;omega)|(refine zD rfl rfl ?_ rfl ?_;omega)|(refine zP rfl ?_ rfl ?_;omega)|refine zG rfl rfl rfl rfl ?_|(refine jdq rfl rfl ?_ ?_ ?_;kernel_rfl;kernel_rfl)|refine zB rfl rfl rfl (by repeat constructor) rfl ?_|refine zH .here rfl rfl rfl rfl ?_|refine zH (.there .here) rfl rfl rfl rfl ?_|refine zH (.there (.there .here)) rfl rfl rfl rfl ?_)
      refine J_again ⟨F1, (rootP C s1 (l1.take (halfP l1.length))).2, (l1.drop (halfP l1.length)), cutV a1 tyByt.sz c1 (halfP l1.length) l1.length c1, (i1 - halfP l1.length), ds ++ [(rootP C s1 (l1.take (halfP l1.length))).1], u⟩ ⟨hG.trans hF1, hsuf.mono hF1, hs2, ?_, ?_, ?_, ?_, ?_, ?_, he2⟩ ?_ ⟨⟨rfl, rfl, ?_, rfl, trivial⟩, fun w s => ?_⟩
      · dsimp only; rw [hl2]; omega
      · dsimp only; rw [hl2]; omega
      · dsimp only; rw [hl2]; omega
      · intro d hd
        rcases List.mem_append.1 hd with hd | hd
        · exact hd32 d hd
        · rw [List.mem_singleton] at hd; rw [hd]; exact n1
      · dsimp only; rw [hl2, List.length_append, List.length_singleton]; omega
      · rw [he1, List.append_assoc]; rfl
      · dsimp only; rw [hl2]; omega
      · dsimp only; rw [show ((i1 - halfP l1.length : Nat) : Int) = (i1 : Int) - (halfP l1.length : Int) from by omega]; rfl
      · dsimp only
        rw [List.length_append, List.length_singleton, dgC_snoc]
        exact s.drop
end Go.Proofs.Ytohlmhoacjodjaa
