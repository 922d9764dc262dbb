/-
  Ledgers with a letter or an outcome more, by the program and by the document. Conditions are typed with each. (Printed by wip/gen/dc.py.)
  Ledgers with a letter or an outcome more, by the document. Conditions are typed with each. (Printed by wip/gen/dc.py.)
-/
import Derived.Test.YtifdlhafcfbeaaaDa
namespace Go.Proofs.Ytifdlhafcfbeaaa
open Go.RowKit
set_option maxRecDepth 100000
theorem rowC_one {α : Type} (cs : α → List Value) (L : List α) (z : α) : rowC cs (L ++ [z]) = rowC cs L ++ cs z := by rw [rowC_append]; simp [rowC]
def withP (l : LgX) (x : LtX) : LgX × Int := if nameB x.1 = false then (nLg, 7) else if 16 < (putP (ltEq x.1) (ltGt x.1) x l.2.2.1).length then (nLg, 11) else ((l.1, l.2.1, putP (ltEq x.1) (ltGt x.1) x l.2.2.1, l.2.2.2.1, ()), 0)
def toldP (l : LgX) (o : OuX) : LgX := (l.1, l.2.1, l.2.2.1, putP (ouEq o.1) (ouGt o.1) o l.2.2.2.1, ())
theorem putP_len {α : Type} (eqk gtk : α → Bool) (x : α) (L : List α) : (putP eqk gtk x L).length ≤ L.length + 1 := by
  rcases place_cases eqk gtk x L with ⟨A, y, B, rfl, _, _, _, e⟩ | ⟨_, A, B, rfl, _, e⟩ <;> rw [e] <;> simp only [List.length_append, List.length_cons] <;> omega
/-- How far the document has put one in. -/
def PutI {α : Type} (eqk gtk : α → Bool) (x : α) (L : List α) (i : Nat) (A : List α) (pl : Bool) : Prop := i ≤ L.length ∧ A.length ≤ i + 1 ∧ (pl = false → A = L.take i ∧ ∀ z ∈ L.take i, (if L.any eqk then eqk z else gtk z) = false) ∧ (pl = true → A ++ L.drop i = putP eqk gtk x L)
section
variable {α : Type} {eqk gtk : α → Bool} {x y : α} {L A : List α} {i : Nat} {pl : Bool}
theorem PutI.zero (eqk gtk : α → Bool) (x : α) (L : List α) : PutI eqk gtk x L 0 [] false := ⟨Nat.zero_le _, by simp, fun _ => ⟨rfl, fun z h => absurd h (by simp)⟩, fun h => by cases h⟩
theorem split_at (hg : L[i]? = some y) : L = L.take i ++ y :: L.drop (i + 1) := by
  obtain ⟨hlt, rfl⟩ := List.getElem?_eq_some_iff.1 hg
  rw [← List.drop_eq_getElem_cons, List.take_append_drop]
theorem PutI.more (h : PutI eqk gtk x L i A true) (hg : L[i]? = some y) : PutI eqk gtk x L (i + 1) (A ++ [y]) true := by
  obtain ⟨h1, h2, _, h4⟩ := h
  obtain ⟨hlt, rfl⟩ := List.getElem?_eq_some_iff.1 hg
  refine ⟨hlt, by simp; omega, fun h => (by cases h), fun _ => ?_⟩
  rw [← h4 rfl, List.append_assoc, List.singleton_append, ← List.drop_eq_getElem_cons]
theorem PutI.not (h : PutI eqk gtk x L i A false) (hg : L[i]? = some y) (hy : (if L.any eqk then eqk y else gtk y) = false) : PutI eqk gtk x L (i + 1) (A ++ [y]) false := by
  obtain ⟨h1, h2, h3, _⟩ := h
  obtain ⟨rfl, h5⟩ := h3 rfl
  obtain ⟨hlt, rfl⟩ := List.getElem?_eq_some_iff.1 hg
  have htk : L.take (i + 1) = L.take i ++ [L[i]] := List.take_succ_eq_append_getElem hlt
  refine ⟨hlt, by simp; omega, fun _ => ⟨htk.symm, fun z hz => ?_⟩, fun h => (by cases h)⟩
  rw [htk] at hz
  rcases List.mem_append.1 hz with hz | hz
  · exact h5 z hz
  · obtain rfl := List.mem_singleton.1 hz
    exact hy
theorem PutI.in (h : PutI eqk gtk x L i A false) (hg : L[i]? = some y) (ht : L.any eqk = true) (hy : eqk y = true) : PutI eqk gtk x L (i + 1) (A ++ [x]) true := by
  obtain ⟨h1, h2, h3, _⟩ := h
  obtain ⟨rfl, h5⟩ := h3 rfl
  have hlt := (List.getElem?_eq_some_iff.1 hg).1
  refine ⟨hlt, by simp; omega, fun h => (by cases h), fun _ => ?_⟩
  unfold putP
  rw [ht, if_pos rfl] at *
  have hs := split_at hg
  rw [List.append_assoc, List.singleton_append]
  exact ((congrArg (replP eqk x) hs).trans (replP_at hy fun z hz => by have := h5 z hz; rwa [if_pos rfl] at this)).symm
theorem PutI.ahead (h : PutI eqk gtk x L i A false) (hg : L[i]? = some y) (ht : L.any eqk = false) (hy : gtk y = true) : PutI eqk gtk x L (i + 1) (A ++ [x] ++ [y]) true := by
  obtain ⟨h1, h2, h3, _⟩ := h
  obtain ⟨rfl, h5⟩ := h3 rfl
  have hlt := (List.getElem?_eq_some_iff.1 hg).1
  refine ⟨hlt, by simp; omega, fun h => (by cases h), fun _ => ?_⟩
  unfold putP
  rw [ht, if_neg (by decide)] at *
  have hs := split_at hg
  rw [List.append_assoc, List.append_assoc, List.singleton_append, List.singleton_append]
  exact ((congrArg (inssP gtk x) hs).trans (inssP_at hy fun z hz => by have := h5 z hz; rwa [if_neg (by decide)] at this)).symm
theorem PutI.end1 (h : PutI eqk gtk x L L.length A true) : A = putP eqk gtk x L := by
  have := h.2.2.2 rfl
  rwa [List.drop_length, List.append_nil] at this
theorem PutI.end0 (h : PutI eqk gtk x L L.length A false) : A ++ [x] = putP eqk gtk x L := by
  obtain ⟨rfl, h5⟩ := h.2.2.1 rfl
  rw [List.take_length] at *
  unfold putP
  cases ht : L.any eqk with
  | true =>
    obtain ⟨z, hz, hq⟩ := List.any_eq_true.1 ht
    have := h5 z hz
    rw [ht, if_pos rfl, hq] at this
    cases this
  | false =>
    rw [if_neg (by decide)]
    exact (inssP_end fun z hz => by have := h5 z hz; rwa [ht, if_neg (by decide)] at this).symm
end

set_option maxHeartbeats 8000000 in
theorem with_spec (l : LgX) (cs : List Value) (x : LtX) (F : PH) (h : LgV F cs l) (hn : l.2.2.1.length ≤ 800) (hm : l.2.2.2.1.length ≤ 800) (hx : x.1.length ≤ 1000) : Spec Try.prog 13 [.agg cs.toArray, .agg (ltC x).toArray] F [] fun u F' H' => H' = [] ∧ ∃ cs', u = .tuple #[.agg cs'.toArray, .int .i64 (withP l x).2] ∧ LgV F' cs' (withP l x).1 := by
  obtain ⟨s, t, L, O, _⟩ := l
  obtain ⟨vl, vo, rfl, hL, hO⟩ := h
  dsimp only at hL hO hn hm ⊢
  refine Spec.of2 Try.func13 rfl rfl fun X w0 => ?_
  obtain ⟨al, cl, rfl, _⟩ := hL.form
  obtain ⟨ao, co, rfl, _⟩ := hO.form
  unfold lgC
  refine jc rfl rfl ?_
  refine jr rfl ?_
  refine oE (ev_box rfl .agg) rfl ?_; rintro _ _ _ _ ⟨rfl, b2, rfl, rfl⟩
  refine oE (ev_box rfl .agg) rfl ?_; rintro _ _ _ _ ⟨rfl, b3, rfl, rfl⟩
  refine oE (ev_alloc (cs := zLg) rfl) rfl ?_
  rintro _ _ _ _ ⟨rfl, b4, rfl, rfl⟩
  repeat (first|refine zJ rfl rfl ?_|refine jr rfl ?_|refine jn ?_|refine zM rfl rfl ?_|(refine zC rfl rfl ?_ rfl ?_;omega)|(refine zD rfl rfl ?_ rfl ?_;omega)|(refine zP rfl ?_ rfl ?_;omega)|refine zG rfl rfl rfl rfl ?_|(refine jdq rfl rfl ?_ ?_ ?_;kernel_rfl;kernel_rfl)|refine zB rfl rfl rfl (by repeat constructor) rfl ?_|refine zH .here rfl rfl rfl rfl ?_|refine zH (.there .here) rfl rfl rfl rfl ?_|refine zH (.there (.there .here)) rfl rfl rfl rfl ?_)
  have sn := isName_spec x.1 (by omega) F
  unfold withP
  cases hb : nameB x.1 with
  | false =>
    rw [hb] at sn
    rw [if_pos rfl]
    refine oP (sn) Try.call21 rfl rfl ?_
    repeat (first|refine zJ rfl rfl ?_|refine jr rfl ?_|refine jn ?_|refine zM rfl rfl ?_|(refine zC rfl rfl ?_ rfl ?_;omega)|(refine zD rfl rfl ?_ rfl ?_;omega)|(refine zP rfl ?_ rfl ?_;omega)|refine zG rfl rfl rfl rfl ?_|(refine jdq rfl rfl ?_ ?_ ?_;kernel_rfl;kernel_rfl)|refine zB rfl rfl rfl (by repeat constructor) rfl ?_|refine zH .here rfl rfl rfl rfl ?_|refine zH (.there .here) rfl rfl rfl rfl ?_|refine zH (.there (.there .here)) rfl rfl rfl rfl ?_)
    refine oN (ev_store (b := b4) (off := 0) rfl rfl .agg rfl rfl (lay_all (vs := zLg) (zs := zLg) rfl) zLg_ones .here) rfl ?_
    rintro _ _ _ _ ⟨rfl, _, rfl⟩
    repeat (first|refine zJ rfl rfl ?_|refine jr rfl ?_|refine jn ?_|refine zM rfl rfl ?_|(refine zC rfl rfl ?_ rfl ?_;omega)|(refine zD rfl rfl ?_ rfl ?_;omega)|(refine zP rfl ?_ rfl ?_;omega)|refine zG rfl rfl rfl rfl ?_|(refine jdq rfl rfl ?_ ?_ ?_;kernel_rfl;kernel_rfl)|refine zB rfl rfl rfl (by repeat constructor) rfl ?_|refine zH .here rfl rfl rfl rfl ?_|refine zH (.there .here) rfl rfl rfl rfl ?_|refine zH (.there (.there .here)) rfl rfl rfl rfl ?_)
    exact J_retv (vs := [.agg zLg.toArray, .int .i64 7]) rfl (.agg rfl rfl (Rdb.ofB (n := 0) .here rfl) rfl (.tmp rfl .nil)) [] (fun w s => s.drop.drop.drop) (PH.ler _) ⟨rfl, _, rfl, LgV.nil _⟩
  | true =>
  rw [hb] at sn
  rw [if_neg (by decide)]
  refine oP (sn) Try.call21 rfl rfl ?_
  repeat (first|refine zJ rfl rfl ?_|refine jr rfl ?_|refine jn ?_|refine zM rfl rfl ?_|(refine zC rfl rfl ?_ rfl ?_;omega)|(refine zD rfl rfl ?_ rfl ?_;omega)|(refine zP rfl ?_ rfl ?_;omega)|refine zG rfl rfl rfl rfl ?_|(refine jdq rfl rfl ?_ ?_ ?_;kernel_rfl;kernel_rfl)|refine zB rfl rfl rfl (by repeat constructor) rfl ?_|refine zH .here rfl rfl rfl rfl ?_|refine zH (.there .here) rfl rfl rfl rfl ?_|refine zH (.there (.there .here)) rfl rfl rfl rfl ?_)
  refine oS (ev_load_agg (cs := [.int .i64 s, .int .i64 t, .slice al L.length cl, .slice ao O.length co]) rfl rfl (Rdb.ofB (n := 0) (.there (.there .here)) rfl) rfl) rfl ?_
  refine oC (Hc := []) (Hr := blk b4 27 zLg :: blk b3 37 (ltC x) :: blk b2 27 [.int .i64 s, .int .i64 t, .slice al L.length cl, .slice ao O.length co] :: X) (copied_spec (s, t, L, O, ()) (lgC s t (.slice al L.length cl) (.slice ao O.length co)) F ⟨_, _, rfl, hL, hO⟩ (by dsimp only; omega) (by dsimp only; omega)) Try.call39 rfl rfl (fun _ s => s) ?_
  rintro _ F1 _ hF1 ⟨rfl, _, rfl, vl1, vo1, rfl, hL1, hO1⟩
  obtain ⟨al1, cl1, rfl, _⟩ := hL1.form
  obtain ⟨ao1, co1, rfl, _⟩ := hO1.form
  dsimp only
  refine oE (ev_alloc (cs := zLg) rfl) rfl ?_
  rintro _ _ _ _ ⟨rfl, b6, rfl, rfl⟩
  refine oN (ev_store (b := b6) (off := 0) rfl rfl .agg rfl rfl (lay_all (zs := zLg) rfl) lgC_ones .here) rfl ?_
  rintro _ _ _ _ ⟨rfl, _, rfl⟩
  repeat (first|refine zJ rfl rfl ?_|refine jr rfl ?_|refine jn ?_|refine zM rfl rfl ?_|(refine zC rfl rfl ?_ rfl ?_;omega)|(refine zD rfl rfl ?_ rfl ?_;omega)|(refine zP rfl ?_ rfl ?_;omega)|refine zG rfl rfl rfl rfl ?_|(refine jdq rfl rfl ?_ ?_ ?_;kernel_rfl;kernel_rfl)|refine zB rfl rfl rfl (by repeat constructor) rfl ?_|refine zH .here rfl rfl rfl rfl ?_|refine zH (.there .here) rfl rfl rfl rfl ?_|refine zH (.there (.there .here)) rfl rfl rfl rfl ?_)
  refine oS (ev_load (v := .slice al L.length cl) rfl rfl (Rdb.ofB (n := 0) (.there (.there (.there .here))) rfl)) rfl ?_
  refine oS (ev_load_agg (cs := ltC x) rfl rfl (Rdb.ofB (n := 0) (.there (.there .here)) rfl) (lt_len x)) rfl ?_
  refine oC (Hc := []) (Hr := blk b6 27 (lgC s t (.slice al1 L.length cl1) (.slice ao1 O.length co1)) :: blk b4 27 zLg :: blk b3 37 (ltC x) :: blk b2 27 [.int .i64 s, .int .i64 t, .slice al L.length cl, .slice ao O.length co] :: X) (lt_put_spec (.slice al L.length cl) L x F1 (hL.mono hF1) (by omega)) Try.call40 rfl rfl (fun _ s => s) ?_
  rintro u F2 _ hF2 rfl
  refine oPersist fun hh hA hd => ?_
  have row := ltRow.of hA hd
  have hF3 := PH.le_l F2 hh
  generalize F2.un hh = F3 at *
  have hpl := putP_len (ltEq x.1) (ltGt x.1) x L
  generalize putP (ltEq x.1) (ltGt x.1) x L = M at *
  obtain ⟨ap, cp, rfl, _⟩ := row.form
  have hle := hF1.trans (hF2.trans hF3)
  have hO3 := hO1.mono (hF2.trans hF3)
  have hL3 := hL1.mono (hF2.trans hF3)
  repeat (first|refine zJ rfl rfl ?_|refine jr rfl ?_|refine jn ?_|refine zM rfl rfl ?_|(refine zC rfl rfl ?_ rfl ?_;omega)|(refine zD rfl rfl ?_ rfl ?_;omega)|(refine zP rfl ?_ rfl ?_;omega)|refine zG rfl rfl rfl rfl ?_|(refine jdq rfl rfl ?_ ?_ ?_;kernel_rfl;kernel_rfl)|refine zB rfl rfl rfl (by repeat constructor) rfl ?_|refine zH .here rfl rfl rfl rfl ?_|refine zH (.there .here) rfl rfl rfl rfl ?_|refine zH (.there (.there .here)) rfl rfl rfl rfl ?_)
  refine oN (ev_store (b := b6) (off := 0 + 2) (vs := [.slice ap M.length cp]) rfl rfl .slice rfl rfl (s := lgC s t (.slice ap M.length cp) (.slice ao1 O.length co1)) (.skip (.skip (.put .nil))) (ones_cons rfl ones_nil) .here) rfl ?_
  rintro _ _ _ _ ⟨rfl, _, rfl⟩
  repeat (first|refine zJ rfl rfl ?_|refine jr rfl ?_|refine jn ?_|refine zM rfl rfl ?_|(refine zC rfl rfl ?_ rfl ?_;omega)|(refine zD rfl rfl ?_ rfl ?_;omega)|(refine zP rfl ?_ rfl ?_;omega)|refine zG rfl rfl rfl rfl ?_|(refine jdq rfl rfl ?_ ?_ ?_;kernel_rfl;kernel_rfl)|refine zB rfl rfl rfl (by repeat constructor) rfl ?_|refine zH .here rfl rfl rfl rfl ?_|refine zH (.there .here) rfl rfl rfl rfl ?_|refine zH (.there (.there .here)) rfl rfl rfl rfl ?_)
  by_cases h16 : 16 < M.length
  · rw [if_pos h16]
    try rw [decide_eq_true (show (16 : Int) < (M.length : Int) by omega)]
    repeat (first|refine zJ rfl rfl ?_|refine jr rfl ?_|refine jn ?_|refine zM rfl rfl ?_|(refine zC rfl rfl ?_ rfl ?_;omega)|(refine zD rfl rfl ?_ rfl ?_;omega)|(refine zP rfl ?_ rfl ?_;omega)|refine zG rfl rfl rfl rfl ?_|(refine jdq rfl rfl ?_ ?_ ?_;kernel_rfl;kernel_rfl)|refine zB rfl rfl rfl (by repeat constructor) rfl ?_|refine zH .here rfl rfl rfl rfl ?_|refine zH (.there .here) rfl rfl rfl rfl ?_|refine zH (.there (.there .here)) rfl rfl rfl rfl ?_)
    refine oN (ev_store (b := b4) (off := 0) rfl rfl .agg rfl rfl (lay_all (vs := zLg) (zs := zLg) rfl) zLg_ones (.there .here)) rfl ?_
    rintro _ _ _ _ ⟨rfl, _, rfl⟩
    repeat (first|refine zJ rfl rfl ?_|refine jr rfl ?_|refine jn ?_|refine zM rfl rfl ?_|(refine zC rfl rfl ?_ rfl ?_;omega)|(refine zD rfl rfl ?_ rfl ?_;omega)|(refine zP rfl ?_ rfl ?_;omega)|refine zG rfl rfl rfl rfl ?_|(refine jdq rfl rfl ?_ ?_ ?_;kernel_rfl;kernel_rfl)|refine zB rfl rfl rfl (by repeat constructor) rfl ?_|refine zH .here rfl rfl rfl rfl ?_|refine zH (.there .here) rfl rfl rfl rfl ?_|refine zH (.there (.there .here)) rfl rfl rfl rfl ?_)
    exact J_retv (vs := [.agg zLg.toArray, .int .i64 11]) rfl (.agg rfl rfl (Rdb.ofB (n := 0) (.there .here) rfl) rfl (.tmp rfl .nil)) [] (fun w s => s.drop.drop.drop.drop) hle ⟨rfl, _, rfl, LgV.nil _⟩
  rw [if_neg h16]
  try rw [decide_eq_false (show ¬ (16 : Int) < (M.length : Int) by omega)]
  repeat (first|refine zJ rfl rfl ?_|refine jr rfl ?_|refine jn ?_|refine zM rfl rfl ?_|(refine zC rfl rfl ?_ rfl ?_;omega)|(refine zD rfl rfl ?_ rfl ?_;omega)|(refine zP rfl ?_ rfl ?_;omega)|refine zG rfl rfl rfl rfl ?_|(refine jdq rfl rfl ?_ ?_ ?_;kernel_rfl;kernel_rfl)|refine zB rfl rfl rfl (by repeat constructor) rfl ?_|refine zH .here rfl rfl rfl rfl ?_|refine zH (.there .here) rfl rfl rfl rfl ?_|refine zH (.there (.there .here)) rfl rfl rfl rfl ?_)
  refine oS (ev_load_agg (cs := lgC s t (.slice ap M.length cp) (.slice ao1 O.length co1)) rfl rfl (Rdb.ofB (n := 0) .here rfl) rfl) rfl ?_
  refine oN (ev_store (b := b4) (off := 0) rfl rfl .agg rfl rfl (lay_all (zs := zLg) rfl) lgC_ones (.there .here)) rfl ?_
  rintro _ _ _ _ ⟨rfl, _, rfl⟩
  repeat (first|refine zJ rfl rfl ?_|refine jr rfl ?_|refine jn ?_|refine zM rfl rfl ?_|(refine zC rfl rfl ?_ rfl ?_;omega)|(refine zD rfl rfl ?_ rfl ?_;omega)|(refine zP rfl ?_ rfl ?_;omega)|refine zG rfl rfl rfl rfl ?_|(refine jdq rfl rfl ?_ ?_ ?_;kernel_rfl;kernel_rfl)|refine zB rfl rfl rfl (by repeat constructor) rfl ?_|refine zH .here rfl rfl rfl rfl ?_|refine zH (.there .here) rfl rfl rfl rfl ?_|refine zH (.there (.there .here)) rfl rfl rfl rfl ?_)
  exact J_retv (vs := [.agg (lgC s t (.slice ap M.length cp) (.slice ao1 O.length co1)).toArray, .int .i64 0]) rfl (.agg rfl rfl (Rdb.ofB (n := 0) (.there .here) rfl) rfl (.tmp rfl .nil)) [] (fun w s => s.drop.drop.drop.drop) hle ⟨rfl, _, rfl, _, _, rfl, row, hO3⟩

set_option maxHeartbeats 8000000 in
theorem told_spec (l : LgX) (cs : List Value) (x : OuX) (F : PH) (h : LgV F cs l) (hn : l.2.2.1.length ≤ 800) (hm : l.2.2.2.1.length ≤ 800) : Spec Try.prog 15 [.agg cs.toArray, .agg (ouC x).toArray] F [] fun u F' H' => H' = [] ∧ ∃ cs', u = .agg cs'.toArray ∧ LgV F' cs' (toldP l x) := by
  obtain ⟨s, t, L, O, _⟩ := l
  obtain ⟨vl, vo, rfl, hL, hO⟩ := h
  dsimp only at hL hO hn hm ⊢
  refine Spec.of2 Try.func15 rfl rfl fun X w0 => ?_
  obtain ⟨al, cl, rfl, _⟩ := hL.form
  obtain ⟨ao, co, rfl, _⟩ := hO.form
  unfold lgC
  refine jc rfl rfl ?_
  refine jr rfl ?_
  refine oE (ev_box rfl .agg) rfl ?_; rintro _ _ _ _ ⟨rfl, b2, rfl, rfl⟩
  refine oE (ev_box rfl .agg) rfl ?_; rintro _ _ _ _ ⟨rfl, b3, rfl, rfl⟩
  refine oE (ev_alloc (cs := zLg) rfl) rfl ?_
  rintro _ _ _ _ ⟨rfl, b4, rfl, rfl⟩
  repeat (first|refine zJ rfl rfl ?_|refine jr rfl ?_|refine jn ?_|refine zM rfl rfl ?_|(refine zC rfl rfl ?_ rfl ?_;omega)|(refine zD rfl rfl ?_ rfl ?_;omega)|(refine zP rfl ?_ rfl ?_;omega)|refine zG rfl rfl rfl rfl ?_|(refine jdq rfl rfl ?_ ?_ ?_;kernel_rfl;kernel_rfl)|refine zB rfl rfl rfl (by repeat constructor) rfl ?_|refine zH .here rfl rfl rfl rfl ?_|refine zH (.there .here) rfl rfl rfl rfl ?_|refine zH (.there (.there .here)) rfl rfl rfl rfl ?_)
  unfold toldP
  refine oS (ev_load_agg (cs := [.int .i64 s, .int .i64 t, .slice al L.length cl, .slice ao O.length co]) rfl rfl (Rdb.ofB (n := 0) (.there (.there .here)) rfl) rfl) rfl ?_
  refine oC (Hc := []) (Hr := blk b4 27 zLg :: blk b3 39 (ouC x) :: blk b2 27 [.int .i64 s, .int .i64 t, .slice al L.length cl, .slice ao O.length co] :: X) (copied_spec (s, t, L, O, ()) (lgC s t (.slice al L.length cl) (.slice ao O.length co)) F ⟨_, _, rfl, hL, hO⟩ (by dsimp only; omega) (by dsimp only; omega)) Try.call39 rfl rfl (fun _ s => s) ?_
  rintro _ F1 _ hF1 ⟨rfl, _, rfl, vl1, vo1, rfl, hL1, hO1⟩
  obtain ⟨al1, cl1, rfl, _⟩ := hL1.form
  obtain ⟨ao1, co1, rfl, _⟩ := hO1.form
  dsimp only
  refine oE (ev_alloc (cs := zLg) rfl) rfl ?_
  rintro _ _ _ _ ⟨rfl, b6, rfl, rfl⟩
  refine oN (ev_store (b := b6) (off := 0) rfl rfl .agg rfl rfl (lay_all (zs := zLg) rfl) lgC_ones .here) rfl ?_
  rintro _ _ _ _ ⟨rfl, _, rfl⟩
  repeat (first|refine zJ rfl rfl ?_|refine jr rfl ?_|refine jn ?_|refine zM rfl rfl ?_|(refine zC rfl rfl ?_ rfl ?_;omega)|(refine zD rfl rfl ?_ rfl ?_;omega)|(refine zP rfl ?_ rfl ?_;omega)|refine zG rfl rfl rfl rfl ?_|(refine jdq rfl rfl ?_ ?_ ?_;kernel_rfl;kernel_rfl)|refine zB rfl rfl rfl (by repeat constructor) rfl ?_|refine zH .here rfl rfl rfl rfl ?_|refine zH (.there .here) rfl rfl rfl rfl ?_|refine zH (.there (.there .here)) rfl rfl rfl rfl ?_)
  refine oS (ev_load (v := .slice ao O.length co) rfl rfl (Rdb.ofB (n := 0) (.there (.there (.there .here))) rfl)) rfl ?_
  refine oS (ev_load_agg (cs := ouC x) rfl rfl (Rdb.ofB (n := 0) (.there (.there .here)) rfl) (ou_len x)) rfl ?_
  refine oC (Hc := []) (Hr := blk b6 27 (lgC s t (.slice al1 L.length cl1) (.slice ao1 O.length co1)) :: blk b4 27 zLg :: blk b3 39 (ouC x) :: blk b2 27 [.int .i64 s, .int .i64 t, .slice al L.length cl, .slice ao O.length co] :: X) (ou_put_spec (.slice ao O.length co) O x F1 (hO.mono hF1) (by omega)) Try.call42 rfl rfl (fun _ s => s) ?_
  rintro u F2 _ hF2 rfl
  refine oPersist fun hh hA hd => ?_
  have row := ouRow.of hA hd
  have hF3 := PH.le_l F2 hh
  generalize F2.un hh = F3 at *
  have hpl := putP_len (ouEq x.1) (ouGt x.1) x O
  generalize putP (ouEq x.1) (ouGt x.1) x O = M at *
  obtain ⟨ap, cp, rfl, _⟩ := row.form
  have hle := hF1.trans (hF2.trans hF3)
  have hO3 := hO1.mono (hF2.trans hF3)
  have hL3 := hL1.mono (hF2.trans hF3)
  repeat (first|refine zJ rfl rfl ?_|refine jr rfl ?_|refine jn ?_|refine zM rfl rfl ?_|(refine zC rfl rfl ?_ rfl ?_;omega)|(refine zD rfl rfl ?_ rfl ?_;omega)|(refine zP rfl ?_ rfl ?_;omega)|refine zG rfl rfl rfl rfl ?_|(refine jdq rfl rfl ?_ ?_ ?_;kernel_rfl;kernel_rfl)|refine zB rfl rfl rfl (by repeat constructor) rfl ?_|refine zH .here rfl rfl rfl rfl ?_|refine zH (.there .here) rfl rfl rfl rfl ?_|refine zH (.there (.there .here)) rfl rfl rfl rfl ?_)
  refine oN (ev_store (b := b6) (off := 0 + 3) (vs := [.slice ap M.length cp]) rfl rfl .slice rfl rfl (s := lgC s t (.slice al1 L.length cl1) (.slice ap M.length cp)) (.skip (.skip (.skip (.put .nil)))) (ones_cons rfl ones_nil) .here) rfl ?_
  rintro _ _ _ _ ⟨rfl, _, rfl⟩
  repeat (first|refine zJ rfl rfl ?_|refine jr rfl ?_|refine jn ?_|refine zM rfl rfl ?_|(refine zC rfl rfl ?_ rfl ?_;omega)|(refine zD rfl rfl ?_ rfl ?_;omega)|(refine zP rfl ?_ rfl ?_;omega)|refine zG rfl rfl rfl rfl ?_|(refine jdq rfl rfl ?_ ?_ ?_;kernel_rfl;kernel_rfl)|refine zB rfl rfl rfl (by repeat constructor) rfl ?_|refine zH .here rfl rfl rfl rfl ?_|refine zH (.there .here) rfl rfl rfl rfl ?_|refine zH (.there (.there .here)) rfl rfl rfl rfl ?_)
  refine oS (ev_load_agg (cs := lgC s t (.slice al1 L.length cl1) (.slice ap M.length cp)) rfl rfl (Rdb.ofB (n := 0) .here rfl) rfl) rfl ?_
  refine oN (ev_store (b := b4) (off := 0) rfl rfl .agg rfl rfl (lay_all (zs := zLg) rfl) lgC_ones (.there .here)) rfl ?_
  rintro _ _ _ _ ⟨rfl, _, rfl⟩
  repeat (first|refine zJ rfl rfl ?_|refine jr rfl ?_|refine jn ?_|refine zM rfl rfl ?_|(refine zC rfl rfl ?_ rfl ?_;omega)|(refine zD rfl rfl ?_ rfl ?_;omega)|(refine zP rfl ?_ rfl ?_;omega)|refine zG rfl rfl rfl rfl ?_|(refine jdq rfl rfl ?_ ?_ ?_;kernel_rfl;kernel_rfl)|refine zB rfl rfl rfl (by repeat constructor) rfl ?_|refine zH .here rfl rfl rfl rfl ?_|refine zH (.there .here) rfl rfl rfl rfl ?_|refine zH (.there (.there .here)) rfl rfl rfl rfl ?_)
  exact J_retv (vs := [.agg (lgC s t (.slice al1 L.length cl1) (.slice ap M.length cp)).toArray]) rfl (.agg rfl rfl (Rdb.ofB (n := 0) (.there .here) rfl) rfl .nil) [] (fun w s => s.drop.drop.drop.drop) hle ⟨rfl, _, rfl, _, _, rfl, hL3, row⟩
end Go.Proofs.Ytifdlhafcfbeaaa
namespace Go.Proofs.Ytifdlhafcfbeaaa
open Go.RowKit
set_option maxRecDepth 100000

set_option maxHeartbeats 16000000 in
theorem With_spec (l : LgX) (cs : List Value) (x : LtX) (F : PH) (h : LgV F cs l) (hn : l.2.2.1.length ≤ 800) (hm : l.2.2.2.1.length ≤ 800) (hx : x.1.length ≤ 1000) : Spec Try.prog 14 [.agg cs.toArray, .agg (ltC x).toArray] F [] fun u F' H' => H' = [] ∧ ∃ cs', u = .tuple #[.agg cs'.toArray, .int .i64 (withP l x).2] ∧ LgV F' cs' (withP l x).1 := by
  obtain ⟨s, t, L, O, _⟩ := l
  obtain ⟨vl, vo, rfl, hL, hO⟩ := h
  dsimp only at hL hO hn hm ⊢
  refine Spec.of2 Try.func14 rfl rfl fun X w0 => ?_
  obtain ⟨al, cl, rfl, _⟩ := hL.form
  obtain ⟨ao, co, rfl, _⟩ := hO.form
  unfold lgC
  refine jc rfl rfl ?_
  refine jr rfl ?_
  refine oE (ev_box rfl .agg) rfl ?_; rintro _ _ _ _ ⟨rfl, b2, rfl, rfl⟩
  refine oE (ev_box rfl .agg) rfl ?_; rintro _ _ _ _ ⟨rfl, b3, rfl, rfl⟩
  refine oE (ev_alloc (cs := zLg) rfl) rfl ?_
  rintro _ _ _ _ ⟨rfl, b4, rfl, rfl⟩
  repeat (first|refine zJ rfl rfl ?_|refine jr rfl ?_|refine jn ?_|refine zM rfl rfl ?_|(refine zC rfl rfl ?_ rfl ?_;omega)|(refine zD rfl rfl ?_ rfl ?_;omega)|(refine zP rfl ?_ rfl ?_;omega)|refine zG rfl rfl rfl rfl ?_|(refine jdq rfl rfl ?_ ?_ ?_;kernel_rfl;kernel_rfl)|refine zB rfl rfl rfl (by repeat constructor) rfl ?_|refine zH .here rfl rfl rfl rfl ?_|refine zH (.there .here) rfl rfl rfl rfl ?_|refine zH (.there (.there .here)) rfl rfl rfl rfl ?_)
  have sn := IsName_spec x.1 (by omega) F
  unfold withP
  cases hb : nameB x.1 with
  | false =>
    rw [hb] at sn
    rw [if_pos rfl]
    refine oP (sn) Try.call22 rfl rfl ?_
    repeat (first|refine zJ rfl rfl ?_|refine jr rfl ?_|refine jn ?_|refine zM rfl rfl ?_|(refine zC rfl rfl ?_ rfl ?_;omega)|(refine zD rfl rfl ?_ rfl ?_;omega)|(refine zP rfl ?_ rfl ?_;omega)|refine zG rfl rfl rfl rfl ?_|(refine jdq rfl rfl ?_ ?_ ?_;kernel_rfl;kernel_rfl)|refine zB rfl rfl rfl (by repeat constructor) rfl ?_|refine zH .here rfl rfl rfl rfl ?_|refine zH (.there .here) rfl rfl rfl rfl ?_|refine zH (.there (.there .here)) rfl rfl rfl rfl ?_)
    refine oN (ev_store (b := b4) (off := 0) rfl rfl .agg rfl rfl (lay_all (vs := zLg) (zs := zLg) rfl) zLg_ones .here) rfl ?_
    rintro _ _ _ _ ⟨rfl, _, rfl⟩
    repeat (first|refine zJ rfl rfl ?_|refine jr rfl ?_|refine jn ?_|refine zM rfl rfl ?_|(refine zC rfl rfl ?_ rfl ?_;omega)|(refine zD rfl rfl ?_ rfl ?_;omega)|(refine zP rfl ?_ rfl ?_;omega)|refine zG rfl rfl rfl rfl ?_|(refine jdq rfl rfl ?_ ?_ ?_;kernel_rfl;kernel_rfl)|refine zB rfl rfl rfl (by repeat constructor) rfl ?_|refine zH .here rfl rfl rfl rfl ?_|refine zH (.there .here) rfl rfl rfl rfl ?_|refine zH (.there (.there .here)) rfl rfl rfl rfl ?_)
    exact J_retv (vs := [.agg zLg.toArray, .int .i64 7]) rfl (.agg rfl rfl (Rdb.ofB (n := 0) .here rfl) rfl (.tmp rfl .nil)) [] (fun w s => s.drop.drop.drop) (PH.ler _) ⟨rfl, _, rfl, LgV.nil _⟩
  | true =>
  rw [hb] at sn
  rw [if_neg (by decide)]
  refine oP (sn) Try.call22 rfl rfl ?_
  repeat (first|refine zJ rfl rfl ?_|refine jr rfl ?_|refine jn ?_|refine zM rfl rfl ?_|(refine zC rfl rfl ?_ rfl ?_;omega)|(refine zD rfl rfl ?_ rfl ?_;omega)|(refine zP rfl ?_ rfl ?_;omega)|refine zG rfl rfl rfl rfl ?_|(refine jdq rfl rfl ?_ ?_ ?_;kernel_rfl;kernel_rfl)|refine zB rfl rfl rfl (by repeat constructor) rfl ?_|refine zH .here rfl rfl rfl rfl ?_|refine zH (.there .here) rfl rfl rfl rfl ?_|refine zH (.there (.there .here)) rfl rfl rfl rfl ?_)
  refine oS (ev_load_agg (cs := [.int .i64 s, .int .i64 t, .slice al L.length cl, .slice ao O.length co]) rfl rfl (Rdb.ofB (n := 0) (.there (.there .here)) rfl) rfl) rfl ?_
  refine oS (ev_fieldAddr rfl rfl) rfl ?_
  refine oS (ev_load (v := ltK x.1) rfl rfl (Rdb.ofB (n := 0) (.there .here) rfl)) rfl ?_
  have sf := lt_rfind_spec (s, t, L, O, ()) (lgC s t (.slice al L.length cl) (.slice ao O.length co)) x.1 F ⟨_, _, rfl, hL, hO⟩ (by dsimp only; omega)
  rw [findP_any] at sf
  dsimp only at sf
  refine oP (sf) Try.call18 rfl rfl ?_
  repeat (first|refine zJ rfl rfl ?_|refine jr rfl ?_|refine jn ?_|refine zM rfl rfl ?_|(refine zC rfl rfl ?_ rfl ?_;omega)|(refine zD rfl rfl ?_ rfl ?_;omega)|(refine zP rfl ?_ rfl ?_;omega)|refine zG rfl rfl rfl rfl ?_|(refine jdq rfl rfl ?_ ?_ ?_;kernel_rfl;kernel_rfl)|refine zB rfl rfl rfl (by repeat constructor) rfl ?_|refine zH .here rfl rfl rfl rfl ?_|refine zH (.there .here) rfl rfl rfl rfl ?_|refine zH (.there (.there .here)) rfl rfl rfl rfl ?_)
  generalize (findP nLt (ltEq x.1) L).1 = r at *
  refine oE (ev_alloc (cs := zLt) rfl) rfl ?_
  rintro _ _ _ _ ⟨rfl, b7, rfl, rfl⟩
  refine oN (ev_store (b := b7) (off := 0) rfl rfl .agg rfl rfl (lay_all (zs := zLt) rfl) (lt_ones r) .here) rfl ?_
  rintro _ _ _ _ ⟨rfl, _, rfl⟩
  repeat (first|refine zJ rfl rfl ?_|refine jr rfl ?_|refine jn ?_|refine zM rfl rfl ?_|(refine zC rfl rfl ?_ rfl ?_;omega)|(refine zD rfl rfl ?_ rfl ?_;omega)|(refine zP rfl ?_ rfl ?_;omega)|refine zG rfl rfl rfl rfl ?_|(refine jdq rfl rfl ?_ ?_ ?_;kernel_rfl;kernel_rfl)|refine zB rfl rfl rfl (by repeat constructor) rfl ?_|refine zH .here rfl rfl rfl rfl ?_|refine zH (.there .here) rfl rfl rfl rfl ?_|refine zH (.there (.there .here)) rfl rfl rfl rfl ?_)
  refine oS (ev_load (v := .slice al L.length cl) rfl rfl (Rdb.ofB (n := 0) (.there (.there (.there .here))) rfl)) rfl ?_
  repeat (first|refine zJ rfl rfl ?_|refine jr rfl ?_|refine jn ?_|refine zM rfl rfl ?_|(refine zC rfl rfl ?_ rfl ?_;omega)|(refine zD rfl rfl ?_ rfl ?_;omega)|(refine zP rfl ?_ rfl ?_;omega)|refine zG rfl rfl rfl rfl ?_|(refine jdq rfl rfl ?_ ?_ ?_;kernel_rfl;kernel_rfl)|refine zB rfl rfl rfl (by repeat constructor) rfl ?_|refine zH .here rfl rfl rfl rfl ?_|refine zH (.there .here) rfl rfl rfl rfl ?_|refine zH (.there (.there .here)) rfl rfl rfl rfl ?_)
  refine J_own_nil 37 6 ?_
  generalize hth : L.any (ltEq x.1) = th at *
  refine J_loop (ι := Nat × List LtX × Value × Bool) (fun p => PutI (ltEq x.1) (ltGt x.1) x L p.1 p.2.1 p.2.2.2) (fun p => L.length - p.1) (fun p => [(2, .pointer (some ⟨b2, 0, none⟩)), (3, .pointer (some ⟨b3, 0, none⟩)), (4, .pointer (some ⟨b4, 0, none⟩)), (6, p.2.2.1), (8, .bool th), (9, .bool p.2.2.2), (25, .slice al L.length cl), (26, .int .i64 L.length), (27, .int .i64 p.1)]) (fun _ => F) (fun p => ltO p.2.2.1 p.2.1 :: blk b7 37 (ltC r) :: blk b4 27 zLg :: blk b3 37 (ltC x) :: blk b2 27 [.int .i64 s, .int .i64 t, .slice al L.length cl, .slice ao O.length co] :: X) (0, [], .slice none 0 0, false) (PutI.zero _ _ _ _) ⟨⟨rfl, rfl, rfl, rfl, rfl, rfl, rfl, rfl, rfl, trivial⟩, fun w s => s⟩ ?_
  rintro ⟨i, A, v, pl⟩ hinv
  have hi := hinv.1
  have hAl := hinv.2.1
  dsimp only at hinv hi hAl ⊢
  by_cases hlt : i < L.length
  · have g1 : L[i]? = some L[i] := List.getElem?_eq_getElem hlt
    generalize L[i] = y at *
    obtain ⟨b, off, rfl, hc⟩ := hL.at g1
    repeat (first|refine zJ rfl rfl ?_|refine jr rfl ?_|refine jn ?_|refine zM rfl rfl ?_|(refine zC rfl rfl ?_ rfl ?_;omega)|(refine zD rfl rfl ?_ rfl ?_;omega)|(refine zP rfl ?_ rfl ?_;omega)|refine zG rfl rfl rfl rfl ?_|(refine jdq rfl rfl ?_ ?_ ?_;kernel_rfl;kernel_rfl)|refine zB rfl rfl rfl (by repeat constructor) rfl ?_|refine zH .here rfl rfl rfl rfl ?_|refine zH (.there .here) rfl rfl rfl rfl ?_|refine zH (.there (.there .here)) rfl rfl rfl rfl ?_)
    refine oS (ev_indexAddr (i := i) rfl rfl rfl hlt) rfl ?_
    refine oS (ev_load_agg (cs := ltC y) rfl rfl (Rdb.ofF hc) (lt_len y)) rfl ?_
    refine oE (ev_alloc (cs := zLt) rfl) rfl ?_
    rintro _ _ _ _ ⟨rfl, b11, rfl, rfl⟩
    refine oN (ev_store (b := b11) (off := 0) rfl rfl .agg rfl rfl (lay_all (zs := zLt) rfl) (lt_ones y) .here) rfl ?_
    rintro _ _ _ _ ⟨rfl, _, rfl⟩
    generalize (some (⟨b, off, none⟩ : Addr)) = al at *
    cases pl with
    | true =>
      repeat (first|refine zJ rfl rfl ?_|refine jr rfl ?_|refine jn ?_|refine zM rfl rfl ?_|(refine zC rfl rfl ?_ rfl ?_;omega)|(refine zD rfl rfl ?_ rfl ?_;omega)|(refine zP rfl ?_ rfl ?_;omega)|refine zG rfl rfl rfl rfl ?_|(refine jdq rfl rfl ?_ ?_ ?_;kernel_rfl;kernel_rfl)|refine zB rfl rfl rfl (by repeat constructor) rfl ?_|refine zH .here rfl rfl rfl rfl ?_|refine zH (.there .here) rfl rfl rfl rfl ?_|refine zH (.there (.there .here)) rfl rfl rfl rfl ?_)
      refine oS (ev_load_agg (cs := ltC y) rfl rfl (Rdb.ofB (n := 0) .here rfl) (lt_len y)) rfl ?_
      refine oA (vs := ltC y) (K := fun v' => blk b11 37 (ltC y) :: own v' 37 6 (A.length + 1) (rowC ltC A ++ ltC y) :: blk b7 37 (ltC r) :: blk b4 27 zLg :: blk b3 37 (ltC x) :: blk b2 27 [.int .i64 s, .int .i64 t, .slice al L.length cl, .slice ao O.length co] :: X) (fun _ => rfl) rfl .agg (lt_len y) lt_el (lt_ones y) (by omega) (fun _ => .there .here) rfl (fun _ => rfl) fun u _ => ?_
      repeat (first|refine zJ rfl rfl ?_|refine jr rfl ?_|refine jn ?_|refine zM rfl rfl ?_|(refine zC rfl rfl ?_ rfl ?_;omega)|(refine zD rfl rfl ?_ rfl ?_;omega)|(refine zP rfl ?_ rfl ?_;omega)|refine zG rfl rfl rfl rfl ?_|(refine jdq rfl rfl ?_ ?_ ?_;kernel_rfl;kernel_rfl)|refine zB rfl rfl rfl (by repeat constructor) rfl ?_|refine zH .here rfl rfl rfl rfl ?_|refine zH (.there .here) rfl rfl rfl rfl ?_|refine zH (.there (.there .here)) rfl rfl rfl rfl ?_)
      refine J_again (i + 1, A ++ [y], u, true) (hinv.more g1) (by dsimp only; omega) ⟨⟨rfl, rfl, rfl, rfl, rfl, rfl, rfl, rfl, rfl, trivial⟩, fun w s => ?_⟩
      dsimp only
      unfold ltO
      rw [rowC_one, List.length_append, List.length_singleton]
      exact s.drop
    | false =>
    cases th with
    | true =>
      repeat (first|refine zJ rfl rfl ?_|refine jr rfl ?_|refine jn ?_|refine zM rfl rfl ?_|(refine zC rfl rfl ?_ rfl ?_;omega)|(refine zD rfl rfl ?_ rfl ?_;omega)|(refine zP rfl ?_ rfl ?_;omega)|refine zG rfl rfl rfl rfl ?_|(refine jdq rfl rfl ?_ ?_ ?_;kernel_rfl;kernel_rfl)|refine zB rfl rfl rfl (by repeat constructor) rfl ?_|refine zH .here rfl rfl rfl rfl ?_|refine zH (.there .here) rfl rfl rfl rfl ?_|refine zH (.there (.there .here)) rfl rfl rfl rfl ?_)
      refine oS (ev_load (v := ltK x.1) rfl rfl (Rdb.ofB (n := 0) (.there (.there (.there (.there .here)))) rfl)) rfl ?_
      refine oS (v := .bool (ltEq x.1 y)) (ev_seql rfl rfl rfl) rfl ?_
      cases hy : ltEq x.1 y with
      | true =>
        repeat (first|refine zJ rfl rfl ?_|refine jr rfl ?_|refine jn ?_|refine zM rfl rfl ?_|(refine zC rfl rfl ?_ rfl ?_;omega)|(refine zD rfl rfl ?_ rfl ?_;omega)|(refine zP rfl ?_ rfl ?_;omega)|refine zG rfl rfl rfl rfl ?_|(refine jdq rfl rfl ?_ ?_ ?_;kernel_rfl;kernel_rfl)|refine zB rfl rfl rfl (by repeat constructor) rfl ?_|refine zH .here rfl rfl rfl rfl ?_|refine zH (.there .here) rfl rfl rfl rfl ?_|refine zH (.there (.there .here)) rfl rfl rfl rfl ?_)
        refine oS (ev_load_agg (cs := ltC x) rfl rfl (Rdb.ofB (n := 0) (.there (.there (.there (.there .here)))) rfl) (lt_len x)) rfl ?_
        refine oA (vs := ltC x) (K := fun v' => blk b11 37 (ltC y) :: own v' 37 6 (A.length + 1) (rowC ltC A ++ ltC x) :: blk b7 37 (ltC r) :: blk b4 27 zLg :: blk b3 37 (ltC x) :: blk b2 27 [.int .i64 s, .int .i64 t, .slice al L.length cl, .slice ao O.length co] :: X) (fun _ => rfl) rfl .agg (lt_len x) lt_el (lt_ones x) (by omega) (fun _ => .there .here) rfl (fun _ => rfl) fun u _ => ?_
        repeat (first|refine zJ rfl rfl ?_|refine jr rfl ?_|refine jn ?_|refine zM rfl rfl ?_|(refine zC rfl rfl ?_ rfl ?_;omega)|(refine zD rfl rfl ?_ rfl ?_;omega)|(refine zP rfl ?_ rfl ?_;omega)|refine zG rfl rfl rfl rfl ?_|(refine jdq rfl rfl ?_ ?_ ?_;kernel_rfl;kernel_rfl)|refine zB rfl rfl rfl (by repeat constructor) rfl ?_|refine zH .here rfl rfl rfl rfl ?_|refine zH (.there .here) rfl rfl rfl rfl ?_|refine zH (.there (.there .here)) rfl rfl rfl rfl ?_)
        refine J_again (i + 1, A ++ [x], u, true) (hinv.in g1 hth hy) (by dsimp only; omega) ⟨⟨rfl, rfl, rfl, rfl, rfl, rfl, rfl, rfl, rfl, trivial⟩, fun w s => ?_⟩
        dsimp only
        unfold ltO
        rw [rowC_one, List.length_append, List.length_singleton]
        exact s.drop
      | false =>
        repeat (first|refine zJ rfl rfl ?_|refine jr rfl ?_|refine jn ?_|refine zM rfl rfl ?_|(refine zC rfl rfl ?_ rfl ?_;omega)|(refine zD rfl rfl ?_ rfl ?_;omega)|(refine zP rfl ?_ rfl ?_;omega)|refine zG rfl rfl rfl rfl ?_|(refine jdq rfl rfl ?_ ?_ ?_;kernel_rfl;kernel_rfl)|refine zB rfl rfl rfl (by repeat constructor) rfl ?_|refine zH .here rfl rfl rfl rfl ?_|refine zH (.there .here) rfl rfl rfl rfl ?_|refine zH (.there (.there .here)) rfl rfl rfl rfl ?_)
        refine oS (ev_load_agg (cs := ltC y) rfl rfl (Rdb.ofB (n := 0) .here rfl) (lt_len y)) rfl ?_
        refine oA (vs := ltC y) (K := fun v' => blk b11 37 (ltC y) :: own v' 37 6 (A.length + 1) (rowC ltC A ++ ltC y) :: blk b7 37 (ltC r) :: blk b4 27 zLg :: blk b3 37 (ltC x) :: blk b2 27 [.int .i64 s, .int .i64 t, .slice al L.length cl, .slice ao O.length co] :: X) (fun _ => rfl) rfl .agg (lt_len y) lt_el (lt_ones y) (by omega) (fun _ => .there .here) rfl (fun _ => rfl) fun u _ => ?_
        repeat (first|refine zJ rfl rfl ?_|refine jr rfl ?_|refine jn ?_|refine zM rfl rfl ?_|(refine zC rfl rfl ?_ rfl ?_;omega)|(refine zD rfl rfl ?_ rfl ?_;omega)|(refine zP rfl ?_ rfl ?_;omega)|refine zG rfl rfl rfl rfl ?_|(refine jdq rfl rfl ?_ ?_ ?_;kernel_rfl;kernel_rfl)|refine zB rfl rfl rfl (by repeat constructor) rfl ?_|refine zH .here rfl rfl rfl rfl ?_|refine zH (.there .here) rfl rfl rfl rfl ?_|refine zH (.there (.there .here)) rfl rfl rfl rfl ?_)
        refine J_again (i + 1, A ++ [y], u, false) (hinv.not g1 (by rw [hth, if_pos rfl]; exact hy)) (by dsimp only; omega) ⟨⟨rfl, rfl, rfl, rfl, rfl, rfl, rfl, rfl, rfl, trivial⟩, fun w s => ?_⟩
        dsimp only
        unfold ltO
        rw [rowC_one, List.length_append, List.length_singleton]
        exact s.drop
    | false =>
      repeat (first|refine zJ rfl rfl ?_|refine jr rfl ?_|refine jn ?_|refine zM rfl rfl ?_|(refine zC rfl rfl ?_ rfl ?_;omega)|(refine zD rfl rfl ?_ rfl ?_;omega)|(refine zP rfl ?_ rfl ?_;omega)|refine zG rfl rfl rfl rfl ?_|(refine jdq rfl rfl ?_ ?_ ?_;kernel_rfl;kernel_rfl)|refine zB rfl rfl rfl (by repeat constructor) rfl ?_|refine zH .here rfl rfl rfl rfl ?_|refine zH (.there .here) rfl rfl rfl rfl ?_|refine zH (.there (.there .here)) rfl rfl rfl rfl ?_)
      refine oS (ev_load (v := ltK x.1) rfl rfl (Rdb.ofB (n := 0) (.there (.there (.there (.there .here)))) rfl)) rfl ?_
      refine oS (v := .bool (ltGt x.1 y)) (ev_sgtr rfl rfl) rfl ?_
      cases hy : ltGt x.1 y with
      | true =>
        repeat (first|refine zJ rfl rfl ?_|refine jr rfl ?_|refine jn ?_|refine zM rfl rfl ?_|(refine zC rfl rfl ?_ rfl ?_;omega)|(refine zD rfl rfl ?_ rfl ?_;omega)|(refine zP rfl ?_ rfl ?_;omega)|refine zG rfl rfl rfl rfl ?_|(refine jdq rfl rfl ?_ ?_ ?_;kernel_rfl;kernel_rfl)|refine zB rfl rfl rfl (by repeat constructor) rfl ?_|refine zH .here rfl rfl rfl rfl ?_|refine zH (.there .here) rfl rfl rfl rfl ?_|refine zH (.there (.there .here)) rfl rfl rfl rfl ?_)
        refine oS (ev_load_agg (cs := ltC x) rfl rfl (Rdb.ofB (n := 0) (.there (.there (.there (.there .here)))) rfl) (lt_len x)) rfl ?_
        refine oA (vs := ltC x) (K := fun v' => blk b11 37 (ltC y) :: own v' 37 6 (A.length + 1) (rowC ltC A ++ ltC x) :: blk b7 37 (ltC r) :: blk b4 27 zLg :: blk b3 37 (ltC x) :: blk b2 27 [.int .i64 s, .int .i64 t, .slice al L.length cl, .slice ao O.length co] :: X) (fun _ => rfl) rfl .agg (lt_len x) lt_el (lt_ones x) (by omega) (fun _ => .there .here) rfl (fun _ => rfl) fun u _ => ?_
        repeat (first|refine zJ rfl rfl ?_|refine jr rfl ?_|refine jn ?_|refine zM rfl rfl ?_|(refine zC rfl rfl ?_ rfl ?_;omega)|(refine zD rfl rfl ?_ rfl ?_;omega)|(refine zP rfl ?_ rfl ?_;omega)|refine zG rfl rfl rfl rfl ?_|(refine jdq rfl rfl ?_ ?_ ?_;kernel_rfl;kernel_rfl)|refine zB rfl rfl rfl (by repeat constructor) rfl ?_|refine zH .here rfl rfl rfl rfl ?_|refine zH (.there .here) rfl rfl rfl rfl ?_|refine zH (.there (.there .here)) rfl rfl rfl rfl ?_)
        refine oS (ev_load_agg (cs := ltC y) rfl rfl (Rdb.ofB (n := 0) .here rfl) (lt_len y)) rfl ?_
        refine oA (vs := ltC y) (K := fun v' => blk b11 37 (ltC y) :: own v' 37 6 ((A.length + 1) + 1) ((rowC ltC A ++ ltC x) ++ ltC y) :: blk b7 37 (ltC r) :: blk b4 27 zLg :: blk b3 37 (ltC x) :: blk b2 27 [.int .i64 s, .int .i64 t, .slice al L.length cl, .slice ao O.length co] :: X) (fun _ => rfl) rfl .agg (lt_len y) lt_el (lt_ones y) (by omega) (fun _ => .there .here) rfl (fun _ => rfl) fun u2 _ => ?_
        repeat (first|refine zJ rfl rfl ?_|refine jr rfl ?_|refine jn ?_|refine zM rfl rfl ?_|(refine zC rfl rfl ?_ rfl ?_;omega)|(refine zD rfl rfl ?_ rfl ?_;omega)|(refine zP rfl ?_ rfl ?_;omega)|refine zG rfl rfl rfl rfl ?_|(refine jdq rfl rfl ?_ ?_ ?_;kernel_rfl;kernel_rfl)|refine zB rfl rfl rfl (by repeat constructor) rfl ?_|refine zH .here rfl rfl rfl rfl ?_|refine zH (.there .here) rfl rfl rfl rfl ?_|refine zH (.there (.there .here)) rfl rfl rfl rfl ?_)
        refine J_again (i + 1, A ++ [x] ++ [y], u2, true) (hinv.ahead g1 hth hy) (by dsimp only; omega) ⟨⟨rfl, rfl, rfl, rfl, rfl, rfl, rfl, rfl, rfl, trivial⟩, fun w s => ?_⟩
        dsimp only
        unfold ltO
        rw [rowC_one, rowC_one, List.length_append, List.length_append, List.length_singleton, List.length_singleton]
        exact s.drop
      | false =>
        repeat (first|refine zJ rfl rfl ?_|refine jr rfl ?_|refine jn ?_|refine zM rfl rfl ?_|(refine zC rfl rfl ?_ rfl ?_;omega)|(refine zD rfl rfl ?_ rfl ?_;omega)|(refine zP rfl ?_ rfl ?_;omega)|refine zG rfl rfl rfl rfl ?_|(refine jdq rfl rfl ?_ ?_ ?_;kernel_rfl;kernel_rfl)|refine zB rfl rfl rfl (by repeat constructor) rfl ?_|refine zH .here rfl rfl rfl rfl ?_|refine zH (.there .here) rfl rfl rfl rfl ?_|refine zH (.there (.there .here)) rfl rfl rfl rfl ?_)
        refine oS (ev_load_agg (cs := ltC y) rfl rfl (Rdb.ofB (n := 0) .here rfl) (lt_len y)) rfl ?_
        refine oA (vs := ltC y) (K := fun v' => blk b11 37 (ltC y) :: own v' 37 6 (A.length + 1) (rowC ltC A ++ ltC y) :: blk b7 37 (ltC r) :: blk b4 27 zLg :: blk b3 37 (ltC x) :: blk b2 27 [.int .i64 s, .int .i64 t, .slice al L.length cl, .slice ao O.length co] :: X) (fun _ => rfl) rfl .agg (lt_len y) lt_el (lt_ones y) (by omega) (fun _ => .there .here) rfl (fun _ => rfl) fun u _ => ?_
        repeat (first|refine zJ rfl rfl ?_|refine jr rfl ?_|refine jn ?_|refine zM rfl rfl ?_|(refine zC rfl rfl ?_ rfl ?_;omega)|(refine zD rfl rfl ?_ rfl ?_;omega)|(refine zP rfl ?_ rfl ?_;omega)|refine zG rfl rfl rfl rfl ?_|(refine jdq rfl rfl ?_ ?_ ?_;kernel_rfl;kernel_rfl)|refine zB rfl rfl rfl (by repeat constructor) rfl ?_|refine zH .here rfl rfl rfl rfl ?_|refine zH (.there .here) rfl rfl rfl rfl ?_|refine zH (.there (.there .here)) rfl rfl rfl rfl ?_)
        refine J_again (i + 1, A ++ [y], u, false) (hinv.not g1 (by rw [hth, if_neg (by decide)]; exact hy)) (by dsimp only; omega) ⟨⟨rfl, rfl, rfl, rfl, rfl, rfl, rfl, rfl, rfl, trivial⟩, fun w s => ?_⟩
        dsimp only
        unfold ltO
        rw [rowC_one, List.length_append, List.length_singleton]
        exact s.drop
  · obtain rfl : i = L.length := by omega
    cases pl with
    | true =>
      obtain rfl := hinv.end1
      repeat (first|refine zJ rfl rfl ?_|refine jr rfl ?_|refine jn ?_|refine zM rfl rfl ?_|(refine zC rfl rfl ?_ rfl ?_;omega)|(refine zD rfl rfl ?_ rfl ?_;omega)|(refine zP rfl ?_ rfl ?_;omega)|refine zG rfl rfl rfl rfl ?_|(refine jdq rfl rfl ?_ ?_ ?_;kernel_rfl;kernel_rfl)|refine zB rfl rfl rfl (by repeat constructor) rfl ?_|refine zH .here rfl rfl rfl rfl ?_|refine zH (.there .here) rfl rfl rfl rfl ?_|refine zH (.there (.there .here)) rfl rfl rfl rfl ?_)
      unfold ltO
      generalize putP (ltEq x.1) (ltGt x.1) x L = M at *
      refine oPersist fun hh hA hd => ?_
      have row : ltRow (F.un hh) v M := ltRow.of hA hd
      have hF1 := PH.le_l F hh
      generalize F.un hh = F1 at *
      have hO1 := hO.mono hF1
      have hL1 := hL.mono hF1
      obtain ⟨ap, cp, hv, _⟩ := row.form
      subst hv
      repeat (first|refine zJ rfl rfl ?_|refine jr rfl ?_|refine jn ?_|refine zM rfl rfl ?_|(refine zC rfl rfl ?_ rfl ?_;omega)|(refine zD rfl rfl ?_ rfl ?_;omega)|(refine zP rfl ?_ rfl ?_;omega)|refine zG rfl rfl rfl rfl ?_|(refine jdq rfl rfl ?_ ?_ ?_;kernel_rfl;kernel_rfl)|refine zB rfl rfl rfl (by repeat constructor) rfl ?_|refine zH .here rfl rfl rfl rfl ?_|refine zH (.there .here) rfl rfl rfl rfl ?_|refine zH (.there (.there .here)) rfl rfl rfl rfl ?_)
      by_cases h16 : 16 < M.length
      · rw [if_pos h16]
        try rw [decide_eq_true (show (16 : Int) < (M.length : Int) by omega)]
        repeat (first|refine zJ rfl rfl ?_|refine jr rfl ?_|refine jn ?_|refine zM rfl rfl ?_|(refine zC rfl rfl ?_ rfl ?_;omega)|(refine zD rfl rfl ?_ rfl ?_;omega)|(refine zP rfl ?_ rfl ?_;omega)|refine zG rfl rfl rfl rfl ?_|(refine jdq rfl rfl ?_ ?_ ?_;kernel_rfl;kernel_rfl)|refine zB rfl rfl rfl (by repeat constructor) rfl ?_|refine zH .here rfl rfl rfl rfl ?_|refine zH (.there .here) rfl rfl rfl rfl ?_|refine zH (.there (.there .here)) rfl rfl rfl rfl ?_)
        refine oN (ev_store (b := b4) (off := 0) rfl rfl .agg rfl rfl (lay_all (vs := zLg) (zs := zLg) rfl) zLg_ones (.there .here)) rfl ?_
        rintro _ _ _ _ ⟨rfl, _, rfl⟩
        repeat (first|refine zJ rfl rfl ?_|refine jr rfl ?_|refine jn ?_|refine zM rfl rfl ?_|(refine zC rfl rfl ?_ rfl ?_;omega)|(refine zD rfl rfl ?_ rfl ?_;omega)|(refine zP rfl ?_ rfl ?_;omega)|refine zG rfl rfl rfl rfl ?_|(refine jdq rfl rfl ?_ ?_ ?_;kernel_rfl;kernel_rfl)|refine zB rfl rfl rfl (by repeat constructor) rfl ?_|refine zH .here rfl rfl rfl rfl ?_|refine zH (.there .here) rfl rfl rfl rfl ?_|refine zH (.there (.there .here)) rfl rfl rfl rfl ?_)
        exact J_retv (vs := [.agg zLg.toArray, .int .i64 11]) rfl (.agg rfl rfl (Rdb.ofB (n := 0) (.there .here) rfl) rfl (.tmp rfl .nil)) [] (fun w s => s.drop.drop.drop.drop) hF1 ⟨rfl, _, rfl, LgV.nil _⟩
      rw [if_neg h16]
      try rw [decide_eq_false (show ¬ (16 : Int) < (M.length : Int) by omega)]
      repeat (first|refine zJ rfl rfl ?_|refine jr rfl ?_|refine jn ?_|refine zM rfl rfl ?_|(refine zC rfl rfl ?_ rfl ?_;omega)|(refine zD rfl rfl ?_ rfl ?_;omega)|(refine zP rfl ?_ rfl ?_;omega)|refine zG rfl rfl rfl rfl ?_|(refine jdq rfl rfl ?_ ?_ ?_;kernel_rfl;kernel_rfl)|refine zB rfl rfl rfl (by repeat constructor) rfl ?_|refine zH .here rfl rfl rfl rfl ?_|refine zH (.there .here) rfl rfl rfl rfl ?_|refine zH (.there (.there .here)) rfl rfl rfl rfl ?_)
      refine oN (ev_store (b := b2) (off := 0 + 2) (vs := [.slice ap M.length cp]) rfl rfl .slice rfl rfl (s := lgC s t (.slice ap M.length cp) (.slice ao O.length co)) (.skip (.skip (.put .nil))) (ones_cons rfl ones_nil) (.there (.there (.there .here)))) rfl ?_
      rintro _ _ _ _ ⟨rfl, _, rfl⟩
      repeat (first|refine zJ rfl rfl ?_|refine jr rfl ?_|refine jn ?_|refine zM rfl rfl ?_|(refine zC rfl rfl ?_ rfl ?_;omega)|(refine zD rfl rfl ?_ rfl ?_;omega)|(refine zP rfl ?_ rfl ?_;omega)|refine zG rfl rfl rfl rfl ?_|(refine jdq rfl rfl ?_ ?_ ?_;kernel_rfl;kernel_rfl)|refine zB rfl rfl rfl (by repeat constructor) rfl ?_|refine zH .here rfl rfl rfl rfl ?_|refine zH (.there .here) rfl rfl rfl rfl ?_|refine zH (.there (.there .here)) rfl rfl rfl rfl ?_)
      refine oS (ev_load_agg (cs := lgC s t (.slice ap M.length cp) (.slice ao O.length co)) rfl rfl (Rdb.ofB (n := 0) (.there (.there (.there .here))) rfl) rfl) rfl ?_
      refine oN (ev_store (b := b4) (off := 0) rfl rfl .agg rfl rfl (lay_all (zs := zLg) rfl) lgC_ones (.there .here)) rfl ?_
      rintro _ _ _ _ ⟨rfl, _, rfl⟩
      repeat (first|refine zJ rfl rfl ?_|refine jr rfl ?_|refine jn ?_|refine zM rfl rfl ?_|(refine zC rfl rfl ?_ rfl ?_;omega)|(refine zD rfl rfl ?_ rfl ?_;omega)|(refine zP rfl ?_ rfl ?_;omega)|refine zG rfl rfl rfl rfl ?_|(refine jdq rfl rfl ?_ ?_ ?_;kernel_rfl;kernel_rfl)|refine zB rfl rfl rfl (by repeat constructor) rfl ?_|refine zH .here rfl rfl rfl rfl ?_|refine zH (.there .here) rfl rfl rfl rfl ?_|refine zH (.there (.there .here)) rfl rfl rfl rfl ?_)
      exact J_retv (vs := [.agg (lgC s t (.slice ap M.length cp) (.slice ao O.length co)).toArray, .int .i64 0]) rfl (.agg rfl rfl (Rdb.ofB (n := 0) (.there .here) rfl) rfl (.tmp rfl .nil)) [] (fun w s => s.drop.drop.drop.drop) hF1 ⟨rfl, _, rfl, _, _, rfl, row, hO1⟩
    | false =>
      have he := hinv.end0
      repeat (first|refine zJ rfl rfl ?_|refine jr rfl ?_|refine jn ?_|refine zM rfl rfl ?_|(refine zC rfl rfl ?_ rfl ?_;omega)|(refine zD rfl rfl ?_ rfl ?_;omega)|(refine zP rfl ?_ rfl ?_;omega)|refine zG rfl rfl rfl rfl ?_|(refine jdq rfl rfl ?_ ?_ ?_;kernel_rfl;kernel_rfl)|refine zB rfl rfl rfl (by repeat constructor) rfl ?_|refine zH .here rfl rfl rfl rfl ?_|refine zH (.there .here) rfl rfl rfl rfl ?_|refine zH (.there (.there .here)) rfl rfl rfl rfl ?_)
      refine oS (ev_load_agg (cs := ltC x) rfl rfl (Rdb.ofB (n := 0) (.there (.there (.there .here))) rfl) (lt_len x)) rfl ?_
      refine oA (vs := ltC x) (K := fun v' =>  own v' 37 6 (A.length + 1) (rowC ltC A ++ ltC x) :: blk b7 37 (ltC r) :: blk b4 27 zLg :: blk b3 37 (ltC x) :: blk b2 27 [.int .i64 s, .int .i64 t, .slice al L.length cl, .slice ao O.length co] :: X) (fun _ => rfl) rfl .agg (lt_len x) lt_el (lt_ones x) (by omega) (fun _ => .here) rfl (fun _ => rfl) fun u _ => ?_
      rw [show own u 37 6 (A.length + 1) (rowC ltC A ++ ltC x) = own u 37 6 (putP (ltEq x.1) (ltGt x.1) x L).length (rowC ltC (putP (ltEq x.1) (ltGt x.1) x L)) from by rw [← he, rowC_one, List.length_append, List.length_singleton]]
      have hAl' : (putP (ltEq x.1) (ltGt x.1) x L).length ≤ L.length + 1 := putP_len _ _ _ _
      generalize putP (ltEq x.1) (ltGt x.1) x L = M at *
      refine oPersist fun hh hA hd => ?_
      have row : ltRow (F.un hh) u M := ltRow.of hA hd
      have hF1 := PH.le_l F hh
      generalize F.un hh = F1 at *
      have hO1 := hO.mono hF1
      have hL1 := hL.mono hF1
      obtain ⟨ap, cp, hv, _⟩ := row.form
      subst hv
      repeat (first|refine zJ rfl rfl ?_|refine jr rfl ?_|refine jn ?_|refine zM rfl rfl ?_|(refine zC rfl rfl ?_ rfl ?_;omega)|(refine zD rfl rfl ?_ rfl ?_;omega)|(refine zP rfl ?_ rfl ?_;omega)|refine zG rfl rfl rfl rfl ?_|(refine jdq rfl rfl ?_ ?_ ?_;kernel_rfl;kernel_rfl)|refine zB rfl rfl rfl (by repeat constructor) rfl ?_|refine zH .here rfl rfl rfl rfl ?_|refine zH (.there .here) rfl rfl rfl rfl ?_|refine zH (.there (.there .here)) rfl rfl rfl rfl ?_)
      by_cases h16 : 16 < M.length
      · rw [if_pos h16]
        try rw [decide_eq_true (show (16 : Int) < (M.length : Int) by omega)]
        repeat (first|refine zJ rfl rfl ?_|refine jr rfl ?_|refine jn ?_|refine zM rfl rfl ?_|(refine zC rfl rfl ?_ rfl ?_;omega)|(refine zD rfl rfl ?_ rfl ?_;omega)|(refine zP rfl ?_ rfl ?_;omega)|refine zG rfl rfl rfl rfl ?_|(refine jdq rfl rfl ?_ ?_ ?_;kernel_rfl;kernel_rfl)|refine zB rfl rfl rfl (by repeat constructor) rfl ?_|refine zH .here rfl rfl rfl rfl ?_|refine zH (.there .here) rfl rfl rfl rfl ?_|refine zH (.there (.there .here)) rfl rfl rfl rfl ?_)
        refine oN (ev_store (b := b4) (off := 0) rfl rfl .agg rfl rfl (lay_all (vs := zLg) (zs := zLg) rfl) zLg_ones (.there .here)) rfl ?_
        rintro _ _ _ _ ⟨rfl, _, rfl⟩
        repeat (first|refine zJ rfl rfl ?_|refine jr rfl ?_|refine jn ?_|refine zM rfl rfl ?_|(refine zC rfl rfl ?_ rfl ?_;omega)|(refine zD rfl rfl ?_ rfl ?_;omega)|(refine zP rfl ?_ rfl ?_;omega)|refine zG rfl rfl rfl rfl ?_|(refine jdq rfl rfl ?_ ?_ ?_;kernel_rfl;kernel_rfl)|refine zB rfl rfl rfl (by repeat constructor) rfl ?_|refine zH .here rfl rfl rfl rfl ?_|refine zH (.there .here) rfl rfl rfl rfl ?_|refine zH (.there (.there .here)) rfl rfl rfl rfl ?_)
        exact J_retv (vs := [.agg zLg.toArray, .int .i64 11]) rfl (.agg rfl rfl (Rdb.ofB (n := 0) (.there .here) rfl) rfl (.tmp rfl .nil)) [] (fun w s => s.drop.drop.drop.drop) hF1 ⟨rfl, _, rfl, LgV.nil _⟩
      rw [if_neg h16]
      try rw [decide_eq_false (show ¬ (16 : Int) < (M.length : Int) by omega)]
      repeat (first|refine zJ rfl rfl ?_|refine jr rfl ?_|refine jn ?_|refine zM rfl rfl ?_|(refine zC rfl rfl ?_ rfl ?_;omega)|(refine zD rfl rfl ?_ rfl ?_;omega)|(refine zP rfl ?_ rfl ?_;omega)|refine zG rfl rfl rfl rfl ?_|(refine jdq rfl rfl ?_ ?_ ?_;kernel_rfl;kernel_rfl)|refine zB rfl rfl rfl (by repeat constructor) rfl ?_|refine zH .here rfl rfl rfl rfl ?_|refine zH (.there .here) rfl rfl rfl rfl ?_|refine zH (.there (.there .here)) rfl rfl rfl rfl ?_)
      refine oN (ev_store (b := b2) (off := 0 + 2) (vs := [.slice ap M.length cp]) rfl rfl .slice rfl rfl (s := lgC s t (.slice ap M.length cp) (.slice ao O.length co)) (.skip (.skip (.put .nil))) (ones_cons rfl ones_nil) (.there (.there (.there .here)))) rfl ?_
      rintro _ _ _ _ ⟨rfl, _, rfl⟩
      repeat (first|refine zJ rfl rfl ?_|refine jr rfl ?_|refine jn ?_|refine zM rfl rfl ?_|(refine zC rfl rfl ?_ rfl ?_;omega)|(refine zD rfl rfl ?_ rfl ?_;omega)|(refine zP rfl ?_ rfl ?_;omega)|refine zG rfl rfl rfl rfl ?_|(refine jdq rfl rfl ?_ ?_ ?_;kernel_rfl;kernel_rfl)|refine zB rfl rfl rfl (by repeat constructor) rfl ?_|refine zH .here rfl rfl rfl rfl ?_|refine zH (.there .here) rfl rfl rfl rfl ?_|refine zH (.there (.there .here)) rfl rfl rfl rfl ?_)
      refine oS (ev_load_agg (cs := lgC s t (.slice ap M.length cp) (.slice ao O.length co)) rfl rfl (Rdb.ofB (n := 0) (.there (.there (.there .here))) rfl) rfl) rfl ?_
      refine oN (ev_store (b := b4) (off := 0) rfl rfl .agg rfl rfl (lay_all (zs := zLg) rfl) lgC_ones (.there .here)) rfl ?_
      rintro _ _ _ _ ⟨rfl, _, rfl⟩
      repeat (first|refine zJ rfl rfl ?_|refine jr rfl ?_|refine jn ?_|refine zM rfl rfl ?_|(refine zC rfl rfl ?_ rfl ?_;omega)|(refine zD rfl rfl ?_ rfl ?_;omega)|(refine zP rfl ?_ rfl ?_;omega)|refine zG rfl rfl rfl rfl ?_|(refine jdq rfl rfl ?_ ?_ ?_;kernel_rfl;kernel_rfl)|refine zB rfl rfl rfl (by repeat constructor) rfl ?_|refine zH .here rfl rfl rfl rfl ?_|refine zH (.there .here) rfl rfl rfl rfl ?_|refine zH (.there (.there .here)) rfl rfl rfl rfl ?_)
      exact J_retv (vs := [.agg (lgC s t (.slice ap M.length cp) (.slice ao O.length co)).toArray, .int .i64 0]) rfl (.agg rfl rfl (Rdb.ofB (n := 0) (.there .here) rfl) rfl (.tmp rfl .nil)) [] (fun w s => s.drop.drop.drop.drop) hF1 ⟨rfl, _, rfl, _, _, rfl, row, hO1⟩

set_option maxHeartbeats 16000000 in
theorem Told_spec (l : LgX) (cs : List Value) (x : OuX) (F : PH) (h : LgV F cs l) (hn : l.2.2.1.length ≤ 800) (hm : l.2.2.2.1.length ≤ 800) : Spec Try.prog 16 [.agg cs.toArray, .agg (ouC x).toArray] F [] fun u F' H' => H' = [] ∧ ∃ cs', u = .agg cs'.toArray ∧ LgV F' cs' (toldP l x) := by
  obtain ⟨s, t, L, O, _⟩ := l
  obtain ⟨vl, vo, rfl, hL, hO⟩ := h
  dsimp only at hL hO hn hm ⊢
  refine Spec.of2 Try.func16 rfl rfl fun X w0 => ?_
  obtain ⟨al, cl, rfl, _⟩ := hL.form
  obtain ⟨ao, co, rfl, _⟩ := hO.form
  unfold lgC
  refine jc rfl rfl ?_
  refine jr rfl ?_
  refine oE (ev_box rfl .agg) rfl ?_; rintro _ _ _ _ ⟨rfl, b2, rfl, rfl⟩
  refine oE (ev_box rfl .agg) rfl ?_; rintro _ _ _ _ ⟨rfl, b3, rfl, rfl⟩
  refine oE (ev_alloc (cs := zLg) rfl) rfl ?_
  rintro _ _ _ _ ⟨rfl, b4, rfl, rfl⟩
  repeat (first|refine zJ rfl rfl ?_|refine jr rfl ?_|refine jn ?_|refine zM rfl rfl ?_|(refine zC rfl rfl ?_ rfl ?_;omega)|(refine zD rfl rfl ?_ rfl ?_;omega)|(refine zP rfl ?_ rfl ?_;omega)|refine zG rfl rfl rfl rfl ?_|(refine jdq rfl rfl ?_ ?_ ?_;kernel_rfl;kernel_rfl)|refine zB rfl rfl rfl (by repeat constructor) rfl ?_|refine zH .here rfl rfl rfl rfl ?_|refine zH (.there .here) rfl rfl rfl rfl ?_|refine zH (.there (.there .here)) rfl rfl rfl rfl ?_)
  unfold toldP
  refine oS (ev_load_agg (cs := [.int .i64 s, .int .i64 t, .slice al L.length cl, .slice ao O.length co]) rfl rfl (Rdb.ofB (n := 0) (.there (.there .here)) rfl) rfl) rfl ?_
  refine oS (ev_fieldAddr rfl rfl) rfl ?_
  refine oS (ev_load (v := ouK x.1) rfl rfl (Rdb.ofB (n := 0) (.there .here) rfl)) rfl ?_
  have sf := ou_rfind_spec (s, t, L, O, ()) (lgC s t (.slice al L.length cl) (.slice ao O.length co)) x.1 F ⟨_, _, rfl, hL, hO⟩ (by dsimp only; omega)
  rw [findP_any] at sf
  dsimp only at sf
  refine oP (sf) Try.call20 rfl rfl ?_
  repeat (first|refine zJ rfl rfl ?_|refine jr rfl ?_|refine jn ?_|refine zM rfl rfl ?_|(refine zC rfl rfl ?_ rfl ?_;omega)|(refine zD rfl rfl ?_ rfl ?_;omega)|(refine zP rfl ?_ rfl ?_;omega)|refine zG rfl rfl rfl rfl ?_|(refine jdq rfl rfl ?_ ?_ ?_;kernel_rfl;kernel_rfl)|refine zB rfl rfl rfl (by repeat constructor) rfl ?_|refine zH .here rfl rfl rfl rfl ?_|refine zH (.there .here) rfl rfl rfl rfl ?_|refine zH (.there (.there .here)) rfl rfl rfl rfl ?_)
  generalize (findP nOu (ouEq x.1) O).1 = r at *
  refine oE (ev_alloc (cs := zOu) rfl) rfl ?_
  rintro _ _ _ _ ⟨rfl, b7, rfl, rfl⟩
  refine oN (ev_store (b := b7) (off := 0) rfl rfl .agg rfl rfl (lay_all (zs := zOu) rfl) (ou_ones r) .here) rfl ?_
  rintro _ _ _ _ ⟨rfl, _, rfl⟩
  repeat (first|refine zJ rfl rfl ?_|refine jr rfl ?_|refine jn ?_|refine zM rfl rfl ?_|(refine zC rfl rfl ?_ rfl ?_;omega)|(refine zD rfl rfl ?_ rfl ?_;omega)|(refine zP rfl ?_ rfl ?_;omega)|refine zG rfl rfl rfl rfl ?_|(refine jdq rfl rfl ?_ ?_ ?_;kernel_rfl;kernel_rfl)|refine zB rfl rfl rfl (by repeat constructor) rfl ?_|refine zH .here rfl rfl rfl rfl ?_|refine zH (.there .here) rfl rfl rfl rfl ?_|refine zH (.there (.there .here)) rfl rfl rfl rfl ?_)
  refine oS (ev_load (v := .slice ao O.length co) rfl rfl (Rdb.ofB (n := 0) (.there (.there (.there .here))) rfl)) rfl ?_
  repeat (first|refine zJ rfl rfl ?_|refine jr rfl ?_|refine jn ?_|refine zM rfl rfl ?_|(refine zC rfl rfl ?_ rfl ?_;omega)|(refine zD rfl rfl ?_ rfl ?_;omega)|(refine zP rfl ?_ rfl ?_;omega)|refine zG rfl rfl rfl rfl ?_|(refine jdq rfl rfl ?_ ?_ ?_;kernel_rfl;kernel_rfl)|refine zB rfl rfl rfl (by repeat constructor) rfl ?_|refine zH .here rfl rfl rfl rfl ?_|refine zH (.there .here) rfl rfl rfl rfl ?_|refine zH (.there (.there .here)) rfl rfl rfl rfl ?_)
  refine J_own_nil 39 3 ?_
  generalize hth : O.any (ouEq x.1) = th at *
  refine J_loop (ι := Nat × List OuX × Value × Bool) (fun p => PutI (ouEq x.1) (ouGt x.1) x O p.1 p.2.1 p.2.2.2) (fun p => O.length - p.1) (fun p => [(2, .pointer (some ⟨b2, 0, none⟩)), (3, .pointer (some ⟨b3, 0, none⟩)), (4, .pointer (some ⟨b4, 0, none⟩)), (5, p.2.2.1), (7, .bool th), (8, .bool p.2.2.2), (19, .slice ao O.length co), (20, .int .i64 O.length), (21, .int .i64 p.1)]) (fun _ => F) (fun p => ouO p.2.2.1 p.2.1 :: blk b7 39 (ouC r) :: blk b4 27 zLg :: blk b3 39 (ouC x) :: blk b2 27 [.int .i64 s, .int .i64 t, .slice al L.length cl, .slice ao O.length co] :: X) (0, [], .slice none 0 0, false) (PutI.zero _ _ _ _) ⟨⟨rfl, rfl, rfl, rfl, rfl, rfl, rfl, rfl, rfl, trivial⟩, fun w s => s⟩ ?_
  rintro ⟨i, A, v, pl⟩ hinv
  have hi := hinv.1
  have hAl := hinv.2.1
  dsimp only at hinv hi hAl ⊢
  by_cases hlt : i < O.length
  · have g1 : O[i]? = some O[i] := List.getElem?_eq_getElem hlt
    generalize O[i] = y at *
    obtain ⟨b, off, rfl, hc⟩ := hO.at g1
    repeat (first|refine zJ rfl rfl ?_|refine jr rfl ?_|refine jn ?_|refine zM rfl rfl ?_|(refine zC rfl rfl ?_ rfl ?_;omega)|(refine zD rfl rfl ?_ rfl ?_;omega)|(refine zP rfl ?_ rfl ?_;omega)|refine zG rfl rfl rfl rfl ?_|(refine jdq rfl rfl ?_ ?_ ?_;kernel_rfl;kernel_rfl)|refine zB rfl rfl rfl (by repeat constructor) rfl ?_|refine zH .here rfl rfl rfl rfl ?_|refine zH (.there .here) rfl rfl rfl rfl ?_|refine zH (.there (.there .here)) rfl rfl rfl rfl ?_)
    refine oS (ev_indexAddr (i := i) rfl rfl rfl hlt) rfl ?_
    refine oS (ev_load_agg (cs := ouC y) rfl rfl (Rdb.ofF hc) (ou_len y)) rfl ?_
    refine oE (ev_alloc (cs := zOu) rfl) rfl ?_
    rintro _ _ _ _ ⟨rfl, b11, rfl, rfl⟩
    refine oN (ev_store (b := b11) (off := 0) rfl rfl .agg rfl rfl (lay_all (zs := zOu) rfl) (ou_ones y) .here) rfl ?_
    rintro _ _ _ _ ⟨rfl, _, rfl⟩
    generalize (some (⟨b, off, none⟩ : Addr)) = ao at *
    cases pl with
    | true =>
      repeat (first|refine zJ rfl rfl ?_|refine jr rfl ?_|refine jn ?_|refine zM rfl rfl ?_|(refine zC rfl rfl ?_ rfl ?_;omega)|(refine zD rfl rfl ?_ rfl ?_;omega)|(refine zP rfl ?_ rfl ?_;omega)|refine zG rfl rfl rfl rfl ?_|(refine jdq rfl rfl ?_ ?_ ?_;kernel_rfl;kernel_rfl)|refine zB rfl rfl rfl (by repeat constructor) rfl ?_|refine zH .here rfl rfl rfl rfl ?_|refine zH (.there .here) rfl rfl rfl rfl ?_|refine zH (.there (.there .here)) rfl rfl rfl rfl ?_)
      refine oS (ev_load_agg (cs := ouC y) rfl rfl (Rdb.ofB (n := 0) .here rfl) (ou_len y)) rfl ?_
      refine oA (vs := ouC y) (K := fun v' => blk b11 39 (ouC y) :: own v' 39 3 (A.length + 1) (rowC ouC A ++ ouC y) :: blk b7 39 (ouC r) :: blk b4 27 zLg :: blk b3 39 (ouC x) :: blk b2 27 [.int .i64 s, .int .i64 t, .slice al L.length cl, .slice ao O.length co] :: X) (fun _ => rfl) rfl .agg (ou_len y) ou_el (ou_ones y) (by omega) (fun _ => .there .here) rfl (fun _ => rfl) fun u _ => ?_
      repeat (first|refine zJ rfl rfl ?_|refine jr rfl ?_|refine jn ?_|refine zM rfl rfl ?_|(refine zC rfl rfl ?_ rfl ?_;omega)|(refine zD rfl rfl ?_ rfl ?_;omega)|(refine zP rfl ?_ rfl ?_;omega)|refine zG rfl rfl rfl rfl ?_|(refine jdq rfl rfl ?_ ?_ ?_;kernel_rfl;kernel_rfl)|refine zB rfl rfl rfl (by repeat constructor) rfl ?_|refine zH .here rfl rfl rfl rfl ?_|refine zH (.there .here) rfl rfl rfl rfl ?_|refine zH (.there (.there .here)) rfl rfl rfl rfl ?_)
      refine J_again (i + 1, A ++ [y], u, true) (hinv.more g1) (by dsimp only; omega) ⟨⟨rfl, rfl, rfl, rfl, rfl, rfl, rfl, rfl, rfl, trivial⟩, fun w s => ?_⟩
      dsimp only
      unfold ouO
      rw [rowC_one, List.length_append, List.length_singleton]
      exact s.drop
    | false =>
    cases th with
    | true =>
      repeat (first|refine zJ rfl rfl ?_|refine jr rfl ?_|refine jn ?_|refine zM rfl rfl ?_|(refine zC rfl rfl ?_ rfl ?_;omega)|(refine zD rfl rfl ?_ rfl ?_;omega)|(refine zP rfl ?_ rfl ?_;omega)|refine zG rfl rfl rfl rfl ?_|(refine jdq rfl rfl ?_ ?_ ?_;kernel_rfl;kernel_rfl)|refine zB rfl rfl rfl (by repeat constructor) rfl ?_|refine zH .here rfl rfl rfl rfl ?_|refine zH (.there .here) rfl rfl rfl rfl ?_|refine zH (.there (.there .here)) rfl rfl rfl rfl ?_)
      refine oS (ev_load (v := ouK x.1) rfl rfl (Rdb.ofB (n := 0) (.there (.there (.there (.there .here)))) rfl)) rfl ?_
      refine oS (v := .bool (ouEq x.1 y)) (ev_ieq rfl rfl) rfl ?_
      cases hy : ouEq x.1 y with
      | true =>
        repeat (first|refine zJ rfl rfl ?_|refine jr rfl ?_|refine jn ?_|refine zM rfl rfl ?_|(refine zC rfl rfl ?_ rfl ?_;omega)|(refine zD rfl rfl ?_ rfl ?_;omega)|(refine zP rfl ?_ rfl ?_;omega)|refine zG rfl rfl rfl rfl ?_|(refine jdq rfl rfl ?_ ?_ ?_;kernel_rfl;kernel_rfl)|refine zB rfl rfl rfl (by repeat constructor) rfl ?_|refine zH .here rfl rfl rfl rfl ?_|refine zH (.there .here) rfl rfl rfl rfl ?_|refine zH (.there (.there .here)) rfl rfl rfl rfl ?_)
        refine oS (ev_load_agg (cs := ouC x) rfl rfl (Rdb.ofB (n := 0) (.there (.there (.there (.there .here)))) rfl) (ou_len x)) rfl ?_
        refine oA (vs := ouC x) (K := fun v' => blk b11 39 (ouC y) :: own v' 39 3 (A.length + 1) (rowC ouC A ++ ouC x) :: blk b7 39 (ouC r) :: blk b4 27 zLg :: blk b3 39 (ouC x) :: blk b2 27 [.int .i64 s, .int .i64 t, .slice al L.length cl, .slice ao O.length co] :: X) (fun _ => rfl) rfl .agg (ou_len x) ou_el (ou_ones x) (by omega) (fun _ => .there .here) rfl (fun _ => rfl) fun u _ => ?_
        repeat (first|refine zJ rfl rfl ?_|refine jr rfl ?_|refine jn ?_|refine zM rfl rfl ?_|(refine zC rfl rfl ?_ rfl ?_;omega)|(refine zD rfl rfl ?_ rfl ?_;omega)|(refine zP rfl ?_ rfl ?_;omega)|refine zG rfl rfl rfl rfl ?_|(refine jdq rfl rfl ?_ ?_ ?_;kernel_rfl;kernel_rfl)|refine zB rfl rfl rfl (by repeat constructor) rfl ?_|refine zH .here rfl rfl rfl rfl ?_|refine zH (.there .here) rfl rfl rfl rfl ?_|refine zH (.there (.there .here)) rfl rfl rfl rfl ?_)
        refine J_again (i + 1, A ++ [x], u, true) (hinv.in g1 hth hy) (by dsimp only; omega) ⟨⟨rfl, rfl, rfl, rfl, rfl, rfl, rfl, rfl, rfl, trivial⟩, fun w s => ?_⟩
        dsimp only
        unfold ouO
        rw [rowC_one, List.length_append, List.length_singleton]
        exact s.drop
      | false =>
        repeat (first|refine zJ rfl rfl ?_|refine jr rfl ?_|refine jn ?_|refine zM rfl rfl ?_|(refine zC rfl rfl ?_ rfl ?_;omega)|(refine zD rfl rfl ?_ rfl ?_;omega)|(refine zP rfl ?_ rfl ?_;omega)|refine zG rfl rfl rfl rfl ?_|(refine jdq rfl rfl ?_ ?_ ?_;kernel_rfl;kernel_rfl)|refine zB rfl rfl rfl (by repeat constructor) rfl ?_|refine zH .here rfl rfl rfl rfl ?_|refine zH (.there .here) rfl rfl rfl rfl ?_|refine zH (.there (.there .here)) rfl rfl rfl rfl ?_)
        refine oS (ev_load_agg (cs := ouC y) rfl rfl (Rdb.ofB (n := 0) .here rfl) (ou_len y)) rfl ?_
        refine oA (vs := ouC y) (K := fun v' => blk b11 39 (ouC y) :: own v' 39 3 (A.length + 1) (rowC ouC A ++ ouC y) :: blk b7 39 (ouC r) :: blk b4 27 zLg :: blk b3 39 (ouC x) :: blk b2 27 [.int .i64 s, .int .i64 t, .slice al L.length cl, .slice ao O.length co] :: X) (fun _ => rfl) rfl .agg (ou_len y) ou_el (ou_ones y) (by omega) (fun _ => .there .here) rfl (fun _ => rfl) fun u _ => ?_
        repeat (first|refine zJ rfl rfl ?_|refine jr rfl ?_|refine jn ?_|refine zM rfl rfl ?_|(refine zC rfl rfl ?_ rfl ?_;omega)|(refine zD rfl rfl ?_ rfl ?_;omega)|(refine zP rfl ?_ rfl ?_;omega)|refine zG rfl rfl rfl rfl ?_|(refine jdq rfl rfl ?_ ?_ ?_;kernel_rfl;kernel_rfl)|refine zB rfl rfl rfl (by repeat constructor) rfl ?_|refine zH .here rfl rfl rfl rfl ?_|refine zH (.there .here) rfl rfl rfl rfl ?_|refine zH (.there (.there .here)) rfl rfl rfl rfl ?_)
        refine J_again (i + 1, A ++ [y], u, false) (hinv.not g1 (by rw [hth, if_pos rfl]; exact hy)) (by dsimp only; omega) ⟨⟨rfl, rfl, rfl, rfl, rfl, rfl, rfl, rfl, rfl, trivial⟩, fun w s => ?_⟩
        dsimp only
        unfold ouO
        rw [rowC_one, List.length_append, List.length_singleton]
        exact s.drop
    | false =>
      repeat (first|refine zJ rfl rfl ?_|refine jr rfl ?_|refine jn ?_|refine zM rfl rfl ?_|(refine zC rfl rfl ?_ rfl ?_;omega)|(refine zD rfl rfl ?_ rfl ?_;omega)|(refine zP rfl ?_ rfl ?_;omega)|refine zG rfl rfl rfl rfl ?_|(refine jdq rfl rfl ?_ ?_ ?_;kernel_rfl;kernel_rfl)|refine zB rfl rfl rfl (by repeat constructor) rfl ?_|refine zH .here rfl rfl rfl rfl ?_|refine zH (.there .here) rfl rfl rfl rfl ?_|refine zH (.there (.there .here)) rfl rfl rfl rfl ?_)
      refine oS (ev_load (v := ouK x.1) rfl rfl (Rdb.ofB (n := 0) (.there (.there (.there (.there .here)))) rfl)) rfl ?_
      refine oS (v := .bool (ouGt x.1 y)) (ev_igt rfl rfl) rfl ?_
      cases hy : ouGt x.1 y with
      | true =>
        repeat (first|refine zJ rfl rfl ?_|refine jr rfl ?_|refine jn ?_|refine zM rfl rfl ?_|(refine zC rfl rfl ?_ rfl ?_;omega)|(refine zD rfl rfl ?_ rfl ?_;omega)|(refine zP rfl ?_ rfl ?_;omega)|refine zG rfl rfl rfl rfl ?_|(refine jdq rfl rfl ?_ ?_ ?_;kernel_rfl;kernel_rfl)|refine zB rfl rfl rfl (by repeat constructor) rfl ?_|refine zH .here rfl rfl rfl rfl ?_|refine zH (.there .here) rfl rfl rfl rfl ?_|refine zH (.there (.there .here)) rfl rfl rfl rfl ?_)
        refine oS (ev_load_agg (cs := ouC x) rfl rfl (Rdb.ofB (n := 0) (.there (.there (.there (.there .here)))) rfl) (ou_len x)) rfl ?_
        refine oA (vs := ouC x) (K := fun v' => blk b11 39 (ouC y) :: own v' 39 3 (A.length + 1) (rowC ouC A ++ ouC x) :: blk b7 39 (ouC r) :: blk b4 27 zLg :: blk b3 39 (ouC x) :: blk b2 27 [.int .i64 s, .int .i64 t, .slice al L.length cl, .slice ao O.length co] :: X) (fun _ => rfl) rfl .agg (ou_len x) ou_el (ou_ones x) (by omega) (fun _ => .there .here) rfl (fun _ => rfl) fun u _ => ?_
        repeat (first|refine zJ rfl rfl ?_|refine jr rfl ?_|refine jn ?_|refine zM rfl rfl ?_|(refine zC rfl rfl ?_ rfl ?_;omega)|(refine zD rfl rfl ?_ rfl ?_;omega)|(refine zP rfl ?_ rfl ?_;omega)|refine zG rfl rfl rfl rfl ?_|(refine jdq rfl rfl ?_ ?_ ?_;kernel_rfl;kernel_rfl)|refine zB rfl rfl rfl (by repeat constructor) rfl ?_|refine zH .here rfl rfl rfl rfl ?_|refine zH (.there .here) rfl rfl rfl rfl ?_|refine zH (.there (.there .here)) rfl rfl rfl rfl ?_)
        refine oS (ev_load_agg (cs := ouC y) rfl rfl (Rdb.ofB (n := 0) .here rfl) (ou_len y)) rfl ?_
        refine oA (vs := ouC y) (K := fun v' => blk b11 39 (ouC y) :: own v' 39 3 ((A.length + 1) + 1) ((rowC ouC A ++ ouC x) ++ ouC y) :: blk b7 39 (ouC r) :: blk b4 27 zLg :: blk b3 39 (ouC x) :: blk b2 27 [.int .i64 s, .int .i64 t, .slice al L.length cl, .slice ao O.length co] :: X) (fun _ => rfl) rfl .agg (ou_len y) ou_el (ou_ones y) (by omega) (fun _ => .there .here) rfl (fun _ => rfl) fun u2 _ => ?_
        repeat (first|refine zJ rfl rfl ?_|refine jr rfl ?_|refine jn ?_|refine zM rfl rfl ?_|(refine zC rfl rfl ?_ rfl ?_;omega)|(refine zD rfl rfl ?_ rfl ?_;omega)|(refine zP rfl ?_ rfl ?_;omega)|refine zG rfl rfl rfl rfl ?_|(refine jdq rfl rfl ?_ ?_ ?_;kernel_rfl;kernel_rfl)|refine zB rfl rfl rfl (by repeat constructor) rfl ?_|refine zH .here rfl rfl rfl rfl ?_|refine zH (.there .here) rfl rfl rfl rfl ?_|refine zH (.there (.there .here)) rfl rfl rfl rfl ?_)
        refine J_again (i + 1, A ++ [x] ++ [y], u2, true) (hinv.ahead g1 hth hy) (by dsimp only; omega) ⟨⟨rfl, rfl, rfl, rfl, rfl, rfl, rfl, rfl, rfl, trivial⟩, fun w s => ?_⟩
        dsimp only
        unfold ouO
        rw [rowC_one, rowC_one, List.length_append, List.length_append, List.length_singleton, List.length_singleton]
        exact s.drop
      | false =>
        repeat (first|refine zJ rfl rfl ?_|refine jr rfl ?_|refine jn ?_|refine zM rfl rfl ?_|(refine zC rfl rfl ?_ rfl ?_;omega)|(refine zD rfl rfl ?_ rfl ?_;omega)|(refine zP rfl ?_ rfl ?_;omega)|refine zG rfl rfl rfl rfl ?_|(refine jdq rfl rfl ?_ ?_ ?_;kernel_rfl;kernel_rfl)|refine zB rfl rfl rfl (by repeat constructor) rfl ?_|refine zH .here rfl rfl rfl rfl ?_|refine zH (.there .here) rfl rfl rfl rfl ?_|refine zH (.there (.there .here)) rfl rfl rfl rfl ?_)
        refine oS (ev_load_agg (cs := ouC y) rfl rfl (Rdb.ofB (n := 0) .here rfl) (ou_len y)) rfl ?_
        refine oA (vs := ouC y) (K := fun v' => blk b11 39 (ouC y) :: own v' 39 3 (A.length + 1) (rowC ouC A ++ ouC y) :: blk b7 39 (ouC r) :: blk b4 27 zLg :: blk b3 39 (ouC x) :: blk b2 27 [.int .i64 s, .int .i64 t, .slice al L.length cl, .slice ao O.length co] :: X) (fun _ => rfl) rfl .agg (ou_len y) ou_el (ou_ones y) (by omega) (fun _ => .there .here) rfl (fun _ => rfl) fun u _ => ?_
        repeat (first|refine zJ rfl rfl ?_|refine jr rfl ?_|refine jn ?_|refine zM rfl rfl ?_|(refine zC rfl rfl ?_ rfl ?_;omega)|(refine zD rfl rfl ?_ rfl ?_;omega)|(refine zP rfl ?_ rfl ?_;omega)|refine zG rfl rfl rfl rfl ?_|(refine jdq rfl rfl ?_ ?_ ?_;kernel_rfl;kernel_rfl)|refine zB rfl rfl rfl (by repeat constructor) rfl ?_|refine zH .here rfl rfl rfl rfl ?_|refine zH (.there .here) rfl rfl rfl rfl ?_|refine zH (.there (.there .here)) rfl rfl rfl rfl ?_)
        refine J_again (i + 1, A ++ [y], u, false) (hinv.not g1 (by rw [hth, if_neg (by decide)]; exact hy)) (by dsimp only; omega) ⟨⟨rfl, rfl, rfl, rfl, rfl, rfl, rfl, rfl, rfl, trivial⟩, fun w s => ?_⟩
        dsimp only
        unfold ouO
        rw [rowC_one, List.length_append, List.length_singleton]
        exact s.drop
  · obtain rfl : i = O.length := by omega
    cases pl with
    | true =>
      obtain rfl := hinv.end1
      repeat (first|refine zJ rfl rfl ?_|refine jr rfl ?_|refine jn ?_|refine zM rfl rfl ?_|(refine zC rfl rfl ?_ rfl ?_;omega)|(refine zD rfl rfl ?_ rfl ?_;omega)|(refine zP rfl ?_ rfl ?_;omega)|refine zG rfl rfl rfl rfl ?_|(refine jdq rfl rfl ?_ ?_ ?_;kernel_rfl;kernel_rfl)|refine zB rfl rfl rfl (by repeat constructor) rfl ?_|refine zH .here rfl rfl rfl rfl ?_|refine zH (.there .here) rfl rfl rfl rfl ?_|refine zH (.there (.there .here)) rfl rfl rfl rfl ?_)
      unfold ouO
      generalize putP (ouEq x.1) (ouGt x.1) x O = M at *
      refine oPersist fun hh hA hd => ?_
      have row : ouRow (F.un hh) v M := ouRow.of hA hd
      have hF1 := PH.le_l F hh
      generalize F.un hh = F1 at *
      have hO1 := hO.mono hF1
      have hL1 := hL.mono hF1
      obtain ⟨ap, cp, hv, _⟩ := row.form
      subst hv
      repeat (first|refine zJ rfl rfl ?_|refine jr rfl ?_|refine jn ?_|refine zM rfl rfl ?_|(refine zC rfl rfl ?_ rfl ?_;omega)|(refine zD rfl rfl ?_ rfl ?_;omega)|(refine zP rfl ?_ rfl ?_;omega)|refine zG rfl rfl rfl rfl ?_|(refine jdq rfl rfl ?_ ?_ ?_;kernel_rfl;kernel_rfl)|refine zB rfl rfl rfl (by repeat constructor) rfl ?_|refine zH .here rfl rfl rfl rfl ?_|refine zH (.there .here) rfl rfl rfl rfl ?_|refine zH (.there (.there .here)) rfl rfl rfl rfl ?_)
      refine oN (ev_store (b := b2) (off := 0 + 3) (vs := [.slice ap M.length cp]) rfl rfl .slice rfl rfl (s := lgC s t (.slice al L.length cl) (.slice ap M.length cp)) (.skip (.skip (.skip (.put .nil)))) (ones_cons rfl ones_nil) (.there (.there (.there .here)))) rfl ?_
      rintro _ _ _ _ ⟨rfl, _, rfl⟩
      repeat (first|refine zJ rfl rfl ?_|refine jr rfl ?_|refine jn ?_|refine zM rfl rfl ?_|(refine zC rfl rfl ?_ rfl ?_;omega)|(refine zD rfl rfl ?_ rfl ?_;omega)|(refine zP rfl ?_ rfl ?_;omega)|refine zG rfl rfl rfl rfl ?_|(refine jdq rfl rfl ?_ ?_ ?_;kernel_rfl;kernel_rfl)|refine zB rfl rfl rfl (by repeat constructor) rfl ?_|refine zH .here rfl rfl rfl rfl ?_|refine zH (.there .here) rfl rfl rfl rfl ?_|refine zH (.there (.there .here)) rfl rfl rfl rfl ?_)
      refine oS (ev_load_agg (cs := lgC s t (.slice al L.length cl) (.slice ap M.length cp)) rfl rfl (Rdb.ofB (n := 0) (.there (.there (.there .here))) rfl) rfl) rfl ?_
      refine oN (ev_store (b := b4) (off := 0) rfl rfl .agg rfl rfl (lay_all (zs := zLg) rfl) lgC_ones (.there .here)) rfl ?_
      rintro _ _ _ _ ⟨rfl, _, rfl⟩
      repeat (first|refine zJ rfl rfl ?_|refine jr rfl ?_|refine jn ?_|refine zM rfl rfl ?_|(refine zC rfl rfl ?_ rfl ?_;omega)|(refine zD rfl rfl ?_ rfl ?_;omega)|(refine zP rfl ?_ rfl ?_;omega)|refine zG rfl rfl rfl rfl ?_|(refine jdq rfl rfl ?_ ?_ ?_;kernel_rfl;kernel_rfl)|refine zB rfl rfl rfl (by repeat constructor) rfl ?_|refine zH .here rfl rfl rfl rfl ?_|refine zH (.there .here) rfl rfl rfl rfl ?_|refine zH (.there (.there .here)) rfl rfl rfl rfl ?_)
      exact J_retv (vs := [.agg (lgC s t (.slice al L.length cl) (.slice ap M.length cp)).toArray]) rfl (.agg rfl rfl (Rdb.ofB (n := 0) (.there .here) rfl) rfl .nil) [] (fun w s => s.drop.drop.drop.drop) hF1 ⟨rfl, _, rfl, _, _, rfl, hL1, row⟩
    | false =>
      have he := hinv.end0
      repeat (first|refine zJ rfl rfl ?_|refine jr rfl ?_|refine jn ?_|refine zM rfl rfl ?_|(refine zC rfl rfl ?_ rfl ?_;omega)|(refine zD rfl rfl ?_ rfl ?_;omega)|(refine zP rfl ?_ rfl ?_;omega)|refine zG rfl rfl rfl rfl ?_|(refine jdq rfl rfl ?_ ?_ ?_;kernel_rfl;kernel_rfl)|refine zB rfl rfl rfl (by repeat constructor) rfl ?_|refine zH .here rfl rfl rfl rfl ?_|refine zH (.there .here) rfl rfl rfl rfl ?_|refine zH (.there (.there .here)) rfl rfl rfl rfl ?_)
      refine oS (ev_load_agg (cs := ouC x) rfl rfl (Rdb.ofB (n := 0) (.there (.there (.there .here))) rfl) (ou_len x)) rfl ?_
      refine oA (vs := ouC x) (K := fun v' =>  own v' 39 3 (A.length + 1) (rowC ouC A ++ ouC x) :: blk b7 39 (ouC r) :: blk b4 27 zLg :: blk b3 39 (ouC x) :: blk b2 27 [.int .i64 s, .int .i64 t, .slice al L.length cl, .slice ao O.length co] :: X) (fun _ => rfl) rfl .agg (ou_len x) ou_el (ou_ones x) (by omega) (fun _ => .here) rfl (fun _ => rfl) fun u _ => ?_
      rw [show own u 39 3 (A.length + 1) (rowC ouC A ++ ouC x) = own u 39 3 (putP (ouEq x.1) (ouGt x.1) x O).length (rowC ouC (putP (ouEq x.1) (ouGt x.1) x O)) from by rw [← he, rowC_one, List.length_append, List.length_singleton]]
      have hAl' : (putP (ouEq x.1) (ouGt x.1) x O).length ≤ O.length + 1 := putP_len _ _ _ _
      generalize putP (ouEq x.1) (ouGt x.1) x O = M at *
      refine oPersist fun hh hA hd => ?_
      have row : ouRow (F.un hh) u M := ouRow.of hA hd
      have hF1 := PH.le_l F hh
      generalize F.un hh = F1 at *
      have hO1 := hO.mono hF1
      have hL1 := hL.mono hF1
      obtain ⟨ap, cp, hv, _⟩ := row.form
      subst hv
      repeat (first|refine zJ rfl rfl ?_|refine jr rfl ?_|refine jn ?_|refine zM rfl rfl ?_|(refine zC rfl rfl ?_ rfl ?_;omega)|(refine zD rfl rfl ?_ rfl ?_;omega)|(refine zP rfl ?_ rfl ?_;omega)|refine zG rfl rfl rfl rfl ?_|(refine jdq rfl rfl ?_ ?_ ?_;kernel_rfl;kernel_rfl)|refine zB rfl rfl rfl (by repeat constructor) rfl ?_|refine zH .here rfl rfl rfl rfl ?_|refine zH (.there .here) rfl rfl rfl rfl ?_|refine zH (.there (.there .here)) rfl rfl rfl rfl ?_)
      refine oN (ev_store (b := b2) (off := 0 + 3) (vs := [.slice ap M.length cp]) rfl rfl .slice rfl rfl (s := lgC s t (.slice al L.length cl) (.slice ap M.length cp)) (.skip (.skip (.skip (.put .nil)))) (ones_cons rfl ones_nil) (.there (.there (.there .here)))) rfl ?_
      rintro _ _ _ _ ⟨rfl, _, rfl⟩
      repeat (first|refine zJ rfl rfl ?_|refine jr rfl ?_|refine jn ?_|refine zM rfl rfl ?_|(refine zC rfl rfl ?_ rfl ?_;omega)|(refine zD rfl rfl ?_ rfl ?_;omega)|(refine zP rfl ?_ rfl ?_;omega)|refine zG rfl rfl rfl rfl ?_|(refine jdq rfl rfl ?_ ?_ ?_;kernel_rfl;kernel_rfl)|refine zB rfl rfl rfl (by repeat constructor) rfl ?_|refine zH .here rfl rfl rfl rfl ?_|refine zH (.there .here) rfl rfl rfl rfl ?_|refine zH (.there (.there .here)) rfl rfl rfl rfl ?_)
      refine oS (ev_load_agg (cs := lgC s t (.slice al L.length cl) (.slice ap M.length cp)) rfl rfl (Rdb.ofB (n := 0) (.there (.there (.there .here))) rfl) rfl) rfl ?_
      refine oN (ev_store (b := b4) (off := 0) rfl rfl .agg rfl rfl (lay_all (zs := zLg) rfl) lgC_ones (.there .here)) rfl ?_
      rintro _ _ _ _ ⟨rfl, _, rfl⟩
      repeat (first|refine zJ rfl rfl ?_|refine jr rfl ?_|refine jn ?_|refine zM rfl rfl ?_|(refine zC rfl rfl ?_ rfl ?_;omega)|(refine zD rfl rfl ?_ rfl ?_;omega)|(refine zP rfl ?_ rfl ?_;omega)|refine zG rfl rfl rfl rfl ?_|(refine jdq rfl rfl ?_ ?_ ?_;kernel_rfl;kernel_rfl)|refine zB rfl rfl rfl (by repeat constructor) rfl ?_|refine zH .here rfl rfl rfl rfl ?_|refine zH (.there .here) rfl rfl rfl rfl ?_|refine zH (.there (.there .here)) rfl rfl rfl rfl ?_)
      exact J_retv (vs := [.agg (lgC s t (.slice al L.length cl) (.slice ap M.length cp)).toArray]) rfl (.agg rfl rfl (Rdb.ofB (n := 0) (.there .here) rfl) rfl .nil) [] (fun w s => s.drop.drop.drop.drop) hF1 ⟨rfl, _, rfl, _, _, rfl, hL1, row⟩
end Go.Proofs.Ytifdlhafcfbeaaa
