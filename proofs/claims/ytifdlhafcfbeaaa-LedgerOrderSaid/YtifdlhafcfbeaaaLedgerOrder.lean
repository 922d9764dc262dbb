/-
  In whatever order letters and outcomes come, the ledger is the same, and it may be, if each may (LedgerOrder). No condition.
-/
import Derived.Test.YtifdlhafcfbeaaaDm
namespace Go.Proofs.Ytifdlhafcfbeaaa
open Go.RowKit
set_option maxRecDepth 100000
/-- Two, in their order. -/
def lt2 (a b : LtX) : List LtX := if gtY a.1 b.1 then [b, a] else [a, b]
def ou2 (o p : OuX) : List OuX := if p.1 < o.1 then [p, o] else [o, p]
theorem lt2_swap {a b : LtX} (h : ¬ a.1 = b.1) : lt2 b a = lt2 a b := by
  unfold lt2 gtY
  cases h1 : ltY b.1 a.1 with
  | true => rw [ltY_asym _ _ h1, if_pos rfl, if_neg (by decide)]
  | false =>
    cases h2 : ltY a.1 b.1 with
    | true => rw [if_pos rfl, if_neg (by decide)]
    | false => exact absurd (ltY_tot _ _ h2 h1) h
theorem lt2_two (a b : LtX) (h : ¬ a.1 = b.1) : ∃ p q, lt2 a b = [p, q] ∧ ltY p.1 q.1 = true := by
  unfold lt2 gtY
  cases h1 : ltY b.1 a.1 with
  | true => exact ⟨b, a, by rw [if_pos rfl], h1⟩
  | false =>
    refine ⟨a, b, by rw [if_neg (by decide)], ?_⟩
    cases h2 : ltY a.1 b.1 with
    | true => rfl
    | false => exact absurd (ltY_tot _ _ h2 h1) h
theorem ou2_swap {o p : OuX} (h : ¬ o.1 = p.1) : ou2 p o = ou2 o p := by
  unfold ou2
  by_cases h1 : p.1 < o.1
  · rw [if_pos h1, if_neg (by omega)]
  · rw [if_neg h1, if_pos (by omega)]
theorem ou2_two (o p : OuX) (h : ¬ o.1 = p.1) : ∃ x y, ou2 o p = [x, y] ∧ x.1 < y.1 := by
  unfold ou2
  by_cases h1 : p.1 < o.1
  · exact ⟨p, o, by rw [if_pos h1], h1⟩
  · exact ⟨o, p, by rw [if_neg h1], by omega⟩
theorem with_a {a : LtX} (h : nameB a.1 = true) : withP nLg a = ((0, 0, [a], [], ()), 0) := by
  unfold withP
  rw [if_neg (by rw [h]; decide)]
  rfl
theorem with_ab {a b : LtX} (h : nameB b.1 = true) (hne : ¬ a.1 = b.1) : withP (0, 0, [a], [], ()) b = ((0, 0, lt2 a b, [], ()), 0) := by
  have e : putP (ltEq b.1) (ltGt b.1) b [a] = lt2 a b := by
    unfold putP
    rw [show [a].any (ltEq b.1) = false from by simp [ltEq, hne], if_neg (by decide)]
    rfl
  unfold withP
  rw [if_neg (by rw [h]; decide)]
  dsimp only
  rw [e, if_neg (by unfold lt2; split <;> simp)]
theorem told_o (s t : Int) (L : List LtX) (o : OuX) : toldP (s, t, L, [], ()) o = (s, t, L, [o], ()) := rfl
theorem told_op {s t : Int} {L : List LtX} {o p : OuX} (hne : ¬ o.1 = p.1) : toldP (s, t, L, [o], ()) p = (s, t, L, ou2 o p, ()) := by
  have e : putP (ouEq p.1) (ouGt p.1) p [o] = ou2 o p := by
    unfold putP
    rw [show [o].any (ouEq p.1) = false from by simp [ouEq, hne], if_neg (by decide)]
    show (if decide (p.1 < o.1) = true then [p, o] else [o, p]) = _
    unfold ou2
    by_cases h : p.1 < o.1
    · rw [if_pos (decide_eq_true h), if_pos h]
    · rw [if_neg (by rw [decide_eq_false h]; decide), if_neg h]
  unfold toldP
  dsimp only
  rw [e]
/-- Four cells, and what they are. -/
theorem LgV.len {F : PH} {cs : List Value} {l : LgX} (h : LgV F cs l) : cs.length = 4 ∧ Ones cs := by
  obtain ⟨vl, vo, rfl, hL, hO⟩ := h
  obtain ⟨al, cl, rfl, _⟩ := hL.form
  obtain ⟨ao, co, rfl, _⟩ := hO.form
  exact ⟨rfl, lgC_ones⟩
theorem rdb_all {F : PH} {H Hr : List Asrt} {b : Nat} {E : TypeId} {cs : List Value} (p : Pick (blk b E cs) H Hr) : Rdb F H b 0 cs := Rdb.ofB (n := 0) p (by rw [List.drop_zero, List.take_length])
-- begin walk
set_option maxHeartbeats 16000000 in
theorem LedgerOrder_walk (a b : LtX) (o p : OuX) (F : PH) (ha : a.1.length ≤ maxLen) (hb : b.1.length ≤ maxLen) : Spec Try.prog 6 [.agg (ltC a).toArray, .agg (ltC b).toArray, .agg (ouC o).toArray, .agg (ouC p).toArray] F [] fun u F' H' => u = .bool true ∧ H' = [] := by
  unfold maxLen at ha hb
  have hz1 := strOf_size a.1
  have hz2 := strOf_size b.1
  refine Spec.of4 Try.func6 rfl rfl fun X w0 => ?_
  refine jc rfl rfl ?_
  refine jr rfl ?_
  refine oE (ev_box rfl .agg) rfl ?_; rintro _ _ _ _ ⟨rfl, b4, rfl, rfl⟩
  refine oE (ev_box rfl .agg) rfl ?_; rintro _ _ _ _ ⟨rfl, b5, rfl, rfl⟩
  refine oE (ev_box rfl .agg) rfl ?_; rintro _ _ _ _ ⟨rfl, b6, rfl, rfl⟩
  refine oE (ev_box rfl .agg) rfl ?_; rintro _ _ _ _ ⟨rfl, b7, rfl, rfl⟩
  repeat (first|refine zJ rfl rfl ?_|refine jr rfl ?_|refine jn ?_|refine zM rfl rfl ?_|(refine zC rfl rfl ?_ rfl ?_;omega)|(refine zD rfl rfl ?_ rfl ?_;omega)|(refine zP rfl ?_ rfl ?_;omega)|refine zG rfl rfl rfl rfl ?_|(refine jdq rfl rfl ?_ ?_ ?_;kernel_rfl;kernel_rfl)|refine zB rfl rfl rfl (by repeat constructor) rfl ?_)
  refine oC (Hc := []) (Hr := blk b7 39 (ouC p) :: blk b6 39 (ouC o) :: blk b5 37 (ltC b) :: blk b4 37 (ltC a) :: X) (fixed11_spec F) Try.call7 rfl rfl (fun _ s => s) ?_
  rintro _ F1 _ hF1 ⟨rfl, rfl⟩
  repeat (first|refine zJ rfl rfl ?_|refine jr rfl ?_|refine jn ?_|refine zM rfl rfl ?_|(refine zC rfl rfl ?_ rfl ?_;omega)|(refine zD rfl rfl ?_ rfl ?_;omega)|(refine zP rfl ?_ rfl ?_;omega)|refine zG rfl rfl rfl rfl ?_|(refine jdq rfl rfl ?_ ?_ ?_;kernel_rfl;kernel_rfl)|refine zB rfl rfl rfl (by repeat constructor) rfl ?_)
  refine oS (ev_load (v := .string (strOf a.1)) rfl rfl (Rdb.ofB (n := 0) (.there (.there (.there .here))) rfl)) rfl ?_
  by_cases c1 : 100 < a.1.length
  · repeat (first|refine zJ rfl rfl ?_|refine jr rfl ?_|refine jn ?_|refine zM rfl rfl ?_|(refine zC rfl rfl ?_ rfl ?_;omega)|(refine zD rfl rfl ?_ rfl ?_;omega)|(refine zP rfl ?_ rfl ?_;omega)|refine zG rfl rfl rfl rfl ?_|(refine jdq rfl rfl ?_ ?_ ?_;kernel_rfl;kernel_rfl)|refine zB rfl rfl rfl (by repeat constructor) rfl ?_)
    exact J_retv rfl (.tmp rfl .nil) [] (fun w s => s.drop.drop.drop.drop) hF1 ⟨rfl, rfl⟩
  repeat (first|refine zJ rfl rfl ?_|refine jr rfl ?_|refine jn ?_|refine zM rfl rfl ?_|(refine zC rfl rfl ?_ rfl ?_;omega)|(refine zD rfl rfl ?_ rfl ?_;omega)|(refine zP rfl ?_ rfl ?_;omega)|refine zG rfl rfl rfl rfl ?_|(refine jdq rfl rfl ?_ ?_ ?_;kernel_rfl;kernel_rfl)|refine zB rfl rfl rfl (by repeat constructor) rfl ?_)
  refine oS (ev_load (v := .string (strOf b.1)) rfl rfl (Rdb.ofB (n := 0) (.there (.there .here)) rfl)) rfl ?_
  by_cases c2 : 100 < b.1.length
  · repeat (first|refine zJ rfl rfl ?_|refine jr rfl ?_|refine jn ?_|refine zM rfl rfl ?_|(refine zC rfl rfl ?_ rfl ?_;omega)|(refine zD rfl rfl ?_ rfl ?_;omega)|(refine zP rfl ?_ rfl ?_;omega)|refine zG rfl rfl rfl rfl ?_|(refine jdq rfl rfl ?_ ?_ ?_;kernel_rfl;kernel_rfl)|refine zB rfl rfl rfl (by repeat constructor) rfl ?_)
    exact J_retv rfl (.tmp rfl .nil) [] (fun w s => s.drop.drop.drop.drop) hF1 ⟨rfl, rfl⟩
  repeat (first|refine zJ rfl rfl ?_|refine jr rfl ?_|refine jn ?_|refine zM rfl rfl ?_|(refine zC rfl rfl ?_ rfl ?_;omega)|(refine zD rfl rfl ?_ rfl ?_;omega)|(refine zP rfl ?_ rfl ?_;omega)|refine zG rfl rfl rfl rfl ?_|(refine jdq rfl rfl ?_ ?_ ?_;kernel_rfl;kernel_rfl)|refine zB rfl rfl rfl (by repeat constructor) rfl ?_)
  refine oS (ev_load (v := .string (strOf a.1)) rfl rfl (Rdb.ofB (n := 0) (.there (.there (.there .here))) rfl)) rfl ?_
  repeat (first|refine zJ rfl rfl ?_|refine jr rfl ?_|refine jn ?_|refine zM rfl rfl ?_|(refine zC rfl rfl ?_ rfl ?_;omega)|(refine zD rfl rfl ?_ rfl ?_;omega)|(refine zP rfl ?_ rfl ?_;omega)|refine zG rfl rfl rfl rfl ?_|(refine jdq rfl rfl ?_ ?_ ?_;kernel_rfl;kernel_rfl)|refine zB rfl rfl rfl (by repeat constructor) rfl ?_)
  refine oS (ev_load (v := .string (strOf b.1)) rfl rfl (Rdb.ofB (n := 0) (.there (.there .here)) rfl)) rfl ?_
  by_cases c3 : a.1 = b.1
  · refine oS (ev_seql (r := true) rfl rfl (decide_eq_true c3)) rfl ?_
    repeat (first|refine zJ rfl rfl ?_|refine jr rfl ?_|refine jn ?_|refine zM rfl rfl ?_|(refine zC rfl rfl ?_ rfl ?_;omega)|(refine zD rfl rfl ?_ rfl ?_;omega)|(refine zP rfl ?_ rfl ?_;omega)|refine zG rfl rfl rfl rfl ?_|(refine jdq rfl rfl ?_ ?_ ?_;kernel_rfl;kernel_rfl)|refine zB rfl rfl rfl (by repeat constructor) rfl ?_)
    exact J_retv rfl (.tmp rfl .nil) [] (fun w s => s.drop.drop.drop.drop) hF1 ⟨rfl, rfl⟩
  refine oS (ev_seql (r := false) rfl rfl (decide_eq_false c3)) rfl ?_
  by_cases c4 : o.1 = p.1
  · repeat (first|refine zJ rfl rfl ?_|refine jr rfl ?_|refine jn ?_|refine zM rfl rfl ?_|(refine zC rfl rfl ?_ rfl ?_;omega)|(refine zD rfl rfl ?_ rfl ?_;omega)|(refine zP rfl ?_ rfl ?_;omega)|refine zG rfl rfl rfl rfl ?_|(refine jdq rfl rfl ?_ ?_ ?_;kernel_rfl;kernel_rfl)|refine zB rfl rfl rfl (by repeat constructor) rfl ?_)
    refine oS (ev_load (v := .int .i64 o.1) rfl rfl (Rdb.ofB (n := 0) (.there .here) rfl)) rfl ?_
    repeat (first|refine zJ rfl rfl ?_|refine jr rfl ?_|refine jn ?_|refine zM rfl rfl ?_|(refine zC rfl rfl ?_ rfl ?_;omega)|(refine zD rfl rfl ?_ rfl ?_;omega)|(refine zP rfl ?_ rfl ?_;omega)|refine zG rfl rfl rfl rfl ?_|(refine jdq rfl rfl ?_ ?_ ?_;kernel_rfl;kernel_rfl)|refine zB rfl rfl rfl (by repeat constructor) rfl ?_)
    refine oS (ev_load (v := .int .i64 p.1) rfl rfl (Rdb.ofB (n := 0) .here rfl)) rfl ?_
    repeat (first|refine zJ rfl rfl ?_|refine jr rfl ?_|refine jn ?_|refine zM rfl rfl ?_|(refine zC rfl rfl ?_ rfl ?_;omega)|(refine zD rfl rfl ?_ rfl ?_;omega)|(refine zP rfl ?_ rfl ?_;omega)|refine zG rfl rfl rfl rfl ?_|(refine jdq rfl rfl ?_ ?_ ?_;kernel_rfl;kernel_rfl)|refine zB rfl rfl rfl (by repeat constructor) rfl ?_)
    exact J_retv rfl (.tmp rfl .nil) [] (fun w s => s.drop.drop.drop.drop) hF1 ⟨rfl, rfl⟩
  repeat (first|refine zJ rfl rfl ?_|refine jr rfl ?_|refine jn ?_|refine zM rfl rfl ?_|(refine zC rfl rfl ?_ rfl ?_;omega)|(refine zD rfl rfl ?_ rfl ?_;omega)|(refine zP rfl ?_ rfl ?_;omega)|refine zG rfl rfl rfl rfl ?_|(refine jdq rfl rfl ?_ ?_ ?_;kernel_rfl;kernel_rfl)|refine zB rfl rfl rfl (by repeat constructor) rfl ?_)
  refine oS (ev_load (v := .int .i64 o.1) rfl rfl (Rdb.ofB (n := 0) (.there .here) rfl)) rfl ?_
  repeat (first|refine zJ rfl rfl ?_|refine jr rfl ?_|refine jn ?_|refine zM rfl rfl ?_|(refine zC rfl rfl ?_ rfl ?_;omega)|(refine zD rfl rfl ?_ rfl ?_;omega)|(refine zP rfl ?_ rfl ?_;omega)|refine zG rfl rfl rfl rfl ?_|(refine jdq rfl rfl ?_ ?_ ?_;kernel_rfl;kernel_rfl)|refine zB rfl rfl rfl (by repeat constructor) rfl ?_)
  refine oS (ev_load (v := .int .i64 p.1) rfl rfl (Rdb.ofB (n := 0) .here rfl)) rfl ?_
  repeat (first|refine zJ rfl rfl ?_|refine jr rfl ?_|refine jn ?_|refine zM rfl rfl ?_|(refine zC rfl rfl ?_ rfl ?_;omega)|(refine zD rfl rfl ?_ rfl ?_;omega)|(refine zP rfl ?_ rfl ?_;omega)|refine zG rfl rfl rfl rfl ?_|(refine jdq rfl rfl ?_ ?_ ?_;kernel_rfl;kernel_rfl)|refine zB rfl rfl rfl (by repeat constructor) rfl ?_)
  refine oS (ev_load (v := .string (strOf a.1)) rfl rfl (Rdb.ofB (n := 0) (.there (.there (.there .here))) rfl)) rfl ?_
  have sa := isName_spec a.1 (by omega) F1
  have sb := isName_spec b.1 (by omega) F1
  cases na : nameB a.1 with
  | false =>
    rw [na] at sa
    refine oP (sa) Try.call21 rfl rfl ?_
    repeat (first|refine zJ rfl rfl ?_|refine jr rfl ?_|refine jn ?_|refine zM rfl rfl ?_|(refine zC rfl rfl ?_ rfl ?_;omega)|(refine zD rfl rfl ?_ rfl ?_;omega)|(refine zP rfl ?_ rfl ?_;omega)|refine zG rfl rfl rfl rfl ?_|(refine jdq rfl rfl ?_ ?_ ?_;kernel_rfl;kernel_rfl)|refine zB rfl rfl rfl (by repeat constructor) rfl ?_)
    exact J_retv rfl (.tmp rfl .nil) [] (fun w s => s.drop.drop.drop.drop) hF1 ⟨rfl, rfl⟩
  | true =>
  rw [na] at sa
  refine oP (sa) Try.call21 rfl rfl ?_
  repeat (first|refine zJ rfl rfl ?_|refine jr rfl ?_|refine jn ?_|refine zM rfl rfl ?_|(refine zC rfl rfl ?_ rfl ?_;omega)|(refine zD rfl rfl ?_ rfl ?_;omega)|(refine zP rfl ?_ rfl ?_;omega)|refine zG rfl rfl rfl rfl ?_|(refine jdq rfl rfl ?_ ?_ ?_;kernel_rfl;kernel_rfl)|refine zB rfl rfl rfl (by repeat constructor) rfl ?_)
  refine oS (ev_load (v := .string (strOf b.1)) rfl rfl (Rdb.ofB (n := 0) (.there (.there .here)) rfl)) rfl ?_
  cases nb : nameB b.1 with
  | false =>
    rw [nb] at sb
    refine oP (sb) Try.call21 rfl rfl ?_
    repeat (first|refine zJ rfl rfl ?_|refine jr rfl ?_|refine jn ?_|refine zM rfl rfl ?_|(refine zC rfl rfl ?_ rfl ?_;omega)|(refine zD rfl rfl ?_ rfl ?_;omega)|(refine zP rfl ?_ rfl ?_;omega)|refine zG rfl rfl rfl rfl ?_|(refine jdq rfl rfl ?_ ?_ ?_;kernel_rfl;kernel_rfl)|refine zB rfl rfl rfl (by repeat constructor) rfl ?_)
    exact J_retv rfl (.tmp rfl .nil) [] (fun w s => s.drop.drop.drop.drop) hF1 ⟨rfl, rfl⟩
  | true =>
  rw [nb] at sb
  refine oP (sb) Try.call21 rfl rfl ?_
  repeat (first|refine zJ rfl rfl ?_|refine jr rfl ?_|refine jn ?_|refine zM rfl rfl ?_|(refine zC rfl rfl ?_ rfl ?_;omega)|(refine zD rfl rfl ?_ rfl ?_;omega)|(refine zP rfl ?_ rfl ?_;omega)|refine zG rfl rfl rfl rfl ?_|(refine jdq rfl rfl ?_ ?_ ?_;kernel_rfl;kernel_rfl)|refine zB rfl rfl rfl (by repeat constructor) rfl ?_)
  clear sa sb
  refine oS (ev_load_agg (cs := ltC a) rfl rfl (rdb_all (.there (.there (.there .here)))) (lt_len a)) rfl ?_
  have sw := with_spec nLg zLg a F1 (LgV.nil F1) (by first | decide | simp) (by first | decide | simp) (by omega)
  rw [(with_a na)] at sw
  refine oC (Hc := []) (Hr := blk b7 39 (ouC p) :: blk b6 39 (ouC o) :: blk b5 37 (ltC b) :: blk b4 37 (ltC a) :: X) sw Try.call13 rfl rfl (fun _ s => s) ?_
  rintro _ F2 _ hF2 ⟨rfl, d1, rfl, hv1⟩
  dsimp only at hv1 ⊢
  have q1 := hv1.len
  repeat (first|refine zJ rfl rfl ?_|refine jr rfl ?_|refine jn ?_|refine zM rfl rfl ?_|(refine zC rfl rfl ?_ rfl ?_;omega)|(refine zD rfl rfl ?_ rfl ?_;omega)|(refine zP rfl ?_ rfl ?_;omega)|refine zG rfl rfl rfl rfl ?_|(refine jdq rfl rfl ?_ ?_ ?_;kernel_rfl;kernel_rfl)|refine zB rfl rfl rfl (by repeat constructor) rfl ?_)
  refine oE (ev_alloc (cs := zLg) rfl) rfl ?_
  rintro _ _ _ _ ⟨rfl, b9, rfl, rfl⟩
  refine oN (ev_store (b := b9) (off := 0) rfl rfl .agg rfl q1.1 (lay_all (zs := zLg) q1.1) q1.2 .here) rfl ?_
  rintro _ _ _ _ ⟨rfl, _, rfl⟩
  repeat (first|refine zJ rfl rfl ?_|refine jr rfl ?_|refine jn ?_|refine zM rfl rfl ?_|(refine zC rfl rfl ?_ rfl ?_;omega)|(refine zD rfl rfl ?_ rfl ?_;omega)|(refine zP rfl ?_ rfl ?_;omega)|refine zG rfl rfl rfl rfl ?_|(refine jdq rfl rfl ?_ ?_ ?_;kernel_rfl;kernel_rfl)|refine zB rfl rfl rfl (by repeat constructor) rfl ?_)
  refine oS (ev_load_agg (cs := d1) rfl rfl (rdb_all (.here)) q1.1) rfl ?_
  refine oS (ev_load_agg (cs := ltC b) rfl rfl (rdb_all (.there (.there (.there .here)))) (lt_len b)) rfl ?_
  have sw := with_spec (0, 0, [a], [], ()) d1 b F2 hv1 (by first | decide | simp) (by first | decide | simp) (by omega)
  rw [(with_ab nb c3)] at sw
  refine oC (Hc := []) (Hr := blk b9 27 d1 :: blk b7 39 (ouC p) :: blk b6 39 (ouC o) :: blk b5 37 (ltC b) :: blk b4 37 (ltC a) :: X) sw Try.call13 rfl rfl (fun _ s => s) ?_
  rintro _ F3 _ hF3 ⟨rfl, d2, rfl, hv2⟩
  dsimp only at hv2 ⊢
  have q2 := hv2.len
  repeat (first|refine zJ rfl rfl ?_|refine jr rfl ?_|refine jn ?_|refine zM rfl rfl ?_|(refine zC rfl rfl ?_ rfl ?_;omega)|(refine zD rfl rfl ?_ rfl ?_;omega)|(refine zP rfl ?_ rfl ?_;omega)|refine zG rfl rfl rfl rfl ?_|(refine jdq rfl rfl ?_ ?_ ?_;kernel_rfl;kernel_rfl)|refine zB rfl rfl rfl (by repeat constructor) rfl ?_)
  refine oN (ev_store (b := b9) (off := 0) rfl rfl .agg rfl q2.1 (lay_all (zs := d1) (q2.1.trans q1.1.symm)) q2.2 .here) rfl ?_
  rintro _ _ _ _ ⟨rfl, _, rfl⟩
  repeat (first|refine zJ rfl rfl ?_|refine jr rfl ?_|refine jn ?_|refine zM rfl rfl ?_|(refine zC rfl rfl ?_ rfl ?_;omega)|(refine zD rfl rfl ?_ rfl ?_;omega)|(refine zP rfl ?_ rfl ?_;omega)|refine zG rfl rfl rfl rfl ?_|(refine jdq rfl rfl ?_ ?_ ?_;kernel_rfl;kernel_rfl)|refine zB rfl rfl rfl (by repeat constructor) rfl ?_)
  refine oS (ev_load_agg (cs := ltC b) rfl rfl (rdb_all (.there (.there (.there .here)))) (lt_len b)) rfl ?_
  have sw := with_spec nLg zLg b F3 (LgV.nil F3) (by first | decide | simp) (by first | decide | simp) (by omega)
  rw [(with_a nb)] at sw
  refine oC (Hc := []) (Hr := blk b9 27 d2 :: blk b7 39 (ouC p) :: blk b6 39 (ouC o) :: blk b5 37 (ltC b) :: blk b4 37 (ltC a) :: X) sw Try.call13 rfl rfl (fun _ s => s) ?_
  rintro _ F4 _ hF4 ⟨rfl, d3, rfl, hv3⟩
  dsimp only at hv3 ⊢
  have q3 := hv3.len
  repeat (first|refine zJ rfl rfl ?_|refine jr rfl ?_|refine jn ?_|refine zM rfl rfl ?_|(refine zC rfl rfl ?_ rfl ?_;omega)|(refine zD rfl rfl ?_ rfl ?_;omega)|(refine zP rfl ?_ rfl ?_;omega)|refine zG rfl rfl rfl rfl ?_|(refine jdq rfl rfl ?_ ?_ ?_;kernel_rfl;kernel_rfl)|refine zB rfl rfl rfl (by repeat constructor) rfl ?_)
  refine oE (ev_alloc (cs := zLg) rfl) rfl ?_
  rintro _ _ _ _ ⟨rfl, b12, rfl, rfl⟩
  refine oN (ev_store (b := b12) (off := 0) rfl rfl .agg rfl q3.1 (lay_all (zs := zLg) q3.1) q3.2 .here) rfl ?_
  rintro _ _ _ _ ⟨rfl, _, rfl⟩
  repeat (first|refine zJ rfl rfl ?_|refine jr rfl ?_|refine jn ?_|refine zM rfl rfl ?_|(refine zC rfl rfl ?_ rfl ?_;omega)|(refine zD rfl rfl ?_ rfl ?_;omega)|(refine zP rfl ?_ rfl ?_;omega)|refine zG rfl rfl rfl rfl ?_|(refine jdq rfl rfl ?_ ?_ ?_;kernel_rfl;kernel_rfl)|refine zB rfl rfl rfl (by repeat constructor) rfl ?_)
  refine oS (ev_load_agg (cs := d3) rfl rfl (rdb_all (.here)) q3.1) rfl ?_
  refine oS (ev_load_agg (cs := ltC a) rfl rfl (rdb_all (.there (.there (.there (.there (.there .here)))))) (lt_len a)) rfl ?_
  have sw := with_spec (0, 0, [b], [], ()) d3 a F4 hv3 (by first | decide | simp) (by first | decide | simp) (by omega)
  rw [(with_ab na (fun e => c3 e.symm))] at sw
  refine oC (Hc := []) (Hr := blk b12 27 d3 :: blk b9 27 d2 :: blk b7 39 (ouC p) :: blk b6 39 (ouC o) :: blk b5 37 (ltC b) :: blk b4 37 (ltC a) :: X) sw Try.call13 rfl rfl (fun _ s => s) ?_
  rintro _ F5 _ hF5 ⟨rfl, d4, rfl, hv4⟩
  dsimp only at hv4 ⊢
  have q4 := hv4.len
  repeat (first|refine zJ rfl rfl ?_|refine jr rfl ?_|refine jn ?_|refine zM rfl rfl ?_|(refine zC rfl rfl ?_ rfl ?_;omega)|(refine zD rfl rfl ?_ rfl ?_;omega)|(refine zP rfl ?_ rfl ?_;omega)|refine zG rfl rfl rfl rfl ?_|(refine jdq rfl rfl ?_ ?_ ?_;kernel_rfl;kernel_rfl)|refine zB rfl rfl rfl (by repeat constructor) rfl ?_)
  refine oN (ev_store (b := b12) (off := 0) rfl rfl .agg rfl q4.1 (lay_all (zs := d3) (q4.1.trans q3.1.symm)) q4.2 .here) rfl ?_
  rintro _ _ _ _ ⟨rfl, _, rfl⟩
  rw [lt2_swap c3] at hv4
  have hv2' := hv2.mono (hF4.trans hF5)
  have hle := hF1.trans (hF2.trans (hF3.trans (hF4.trans hF5)))
  have hl2 : (lt2 a b).length ≤ 800 := by unfold lt2; split <;> simp
  have ho2 : (ou2 o p).length ≤ 800 := by unfold ou2; split <;> simp
  clear hv1 hv2 hv3 hF1 hF2 hF3 hF4 hF5
  repeat (first|refine zJ rfl rfl ?_|refine jr rfl ?_|refine jn ?_|refine zM rfl rfl ?_|(refine zC rfl rfl ?_ rfl ?_;omega)|(refine zD rfl rfl ?_ rfl ?_;omega)|(refine zP rfl ?_ rfl ?_;omega)|refine zG rfl rfl rfl rfl ?_|(refine jdq rfl rfl ?_ ?_ ?_;kernel_rfl;kernel_rfl)|refine zB rfl rfl rfl (by repeat constructor) rfl ?_)
  have hSS : ∀ (G : PH) (w : World), Sat G (blk b12 27 d4 :: blk b9 27 d2 :: blk b7 39 (ouC p) :: blk b6 39 (ouC o) :: blk b5 37 (ltC b) :: blk b4 37 (ltC a) :: X) w → Sat G [blk b12 27 d4, blk b7 39 (ouC p), blk b6 39 (ouC o)] w := fun G w s => Sat.left (A := [_, _, _]) (s.pm 6 [0, 2, 3, 1, 4, 5] rfl rfl)
  refine jaL F5 [blk b12 27 d4, blk b7 39 (ouC p), blk b6 39 (ouC o)] rfl ?_ ?_ (fun w s => hSS _ _ s) ?_; kernel_rfl; kernel_rfl; dsimp only [List.dropLast]
  refine aT 1 rfl (ev_load_agg (cs := ouC o) rfl rfl (rdb_all (.there (.there .here))) (ou_len o)) rfl rfl ?_ ?_ ?_ ?_; kernel_rfl; kernel_rfl; kernel_rfl
  refine aT 3 rfl (ev_load_agg (cs := ouC p) rfl rfl (rdb_all (.there .here)) (ou_len p)) rfl rfl ?_ ?_ ?_ ?_; kernel_rfl; kernel_rfl; kernel_rfl
  refine aT 5 rfl (ev_load_agg (cs := d4) rfl rfl (rdb_all .here) q4.1) rfl rfl ?_ ?_ ?_ ?_; kernel_rfl; kernel_rfl; kernel_rfl
  refine aT 6 rfl (ev_load_agg (cs := ouC p) rfl rfl (rdb_all (.there .here)) (ou_len p)) rfl rfl ?_ ?_ ?_ ?_; kernel_rfl; kernel_rfl; kernel_rfl
  refine aT 8 rfl (ev_load_agg (cs := ouC o) rfl rfl (rdb_all (.there (.there .here))) (ou_len o)) rfl rfl ?_ ?_ ?_ ?_; kernel_rfl; kernel_rfl; kernel_rfl
  refine aB (i := 0) (by kernel_rfl) (aV rfl (ev_load_agg (cs := d2) rfl rfl (rdb_all (.there .here)) q2.1) rfl rfl ?_)
  have st := told_spec (0, 0, lt2 a b, [], ()) d2 o F5 hv2' (by dsimp only; omega) (by simp)
  rw [(told_o _ _ _ _)] at st
  refine aB (i := 2) (by kernel_rfl) (aC (Hc := []) (Hr := blk b12 27 d4 :: blk b9 27 d2 :: blk b7 39 (ouC p) :: blk b6 39 (ouC o) :: blk b5 37 (ltC b) :: blk b4 37 (ltC a) :: X) rfl st Try.call15 rfl rfl rfl (fun _ s => s) (fun _ _ _ hF hq w s => by obtain ⟨rfl, _⟩ := hq; exact (hSS _ _ s).mono (hF)) ?_)
  clear st
  rintro _ G1 _ hG1 ⟨rfl, e1, rfl, hve1⟩
  have qe1 := hve1.len
  have st := told_spec (0, 0, lt2 a b, [o], ()) e1 p G1 hve1 (by dsimp only; omega) (by simp)
  rw [(told_op c4)] at st
  refine aB (i := 4) (by kernel_rfl) (aC (Hc := []) (Hr := blk b12 27 d4 :: blk b9 27 d2 :: blk b7 39 (ouC p) :: blk b6 39 (ouC o) :: blk b5 37 (ltC b) :: blk b4 37 (ltC a) :: X) rfl st Try.call15 rfl rfl rfl (fun _ s => s) (fun _ _ _ hF hq w s => by obtain ⟨rfl, _⟩ := hq; exact (hSS _ _ s).mono (hG1.trans hF)) ?_)
  clear st
  rintro _ G2 _ hG2 ⟨rfl, e2, rfl, hve2⟩
  have qe2 := hve2.len
  have st := told_spec (0, 0, lt2 a b, [], ()) d4 p G2 (hv4.mono (hG1.trans hG2)) (by dsimp only; omega) (by simp)
  rw [(told_o _ _ _ _)] at st
  refine aB (i := 7) (by kernel_rfl) (aC (Hc := []) (Hr := blk b12 27 d4 :: blk b9 27 d2 :: blk b7 39 (ouC p) :: blk b6 39 (ouC o) :: blk b5 37 (ltC b) :: blk b4 37 (ltC a) :: X) rfl st Try.call15 rfl rfl rfl (fun _ s => s) (fun _ _ _ hF hq w s => by obtain ⟨rfl, _⟩ := hq; exact (hSS _ _ s).mono (hG1.trans (hG2.trans hF))) ?_)
  clear st
  rintro _ G3 _ hG3 ⟨rfl, e3, rfl, hve3⟩
  have qe3 := hve3.len
  have st := told_spec (0, 0, lt2 a b, [p], ()) e3 o G3 hve3 (by dsimp only; omega) (by simp)
  rw [(told_op (fun e => c4 e.symm))] at st
  refine aB (i := 9) (by kernel_rfl) (aC (Hc := []) (Hr := blk b12 27 d4 :: blk b9 27 d2 :: blk b7 39 (ouC p) :: blk b6 39 (ouC o) :: blk b5 37 (ltC b) :: blk b4 37 (ltC a) :: X) rfl st Try.call15 rfl rfl rfl (fun _ s => s) (fun _ _ _ hF hq w s => by obtain ⟨rfl, _⟩ := hq; exact (hSS _ _ s).mono (hG1.trans (hG2.trans (hG3.trans hF)))) ?_)
  clear st
  rintro _ G4 _ hG4 ⟨rfl, e4, rfl, hve4⟩
  have qe4 := hve4.len
  refine aB (i := 10) (by kernel_rfl) (aN rfl (ev_store (b := b9) (off := 0) rfl rfl .agg rfl qe2.1 (lay_all (zs := d2) (qe2.1.trans q2.1.symm)) qe2.2 (.there .here)) rfl (fun _ _ _ _ hq w s => by obtain ⟨rfl, _, rfl⟩ := hq; exact (Sat.left (A := [_, _, _]) (s.pm 6 [0, 2, 3, 1, 4, 5] rfl rfl)).mono (hG1.trans (hG2.trans (hG3.trans hG4)))) ?_)
  rintro _ _ _ _ ⟨rfl, _, rfl⟩
  refine aD (by kernel_rfl) ?_
  refine jL rfl ?_
  refine oN (ev_store (b := b12) (off := 0) rfl rfl .agg rfl qe4.1 (lay_all (zs := d4) (qe4.1.trans q4.1.symm)) qe4.2 .here) rfl ?_
  rintro _ _ _ _ ⟨rfl, _, rfl⟩
  rw [ou2_swap c4] at hve4
  have hx := hve2.mono (hG3.trans hG4)
  have hle2 := hle.trans (hG1.trans (hG2.trans (hG3.trans hG4)))
  have ss := lsame_spec (0, 0, lt2 a b, ou2 o p, ()) (0, 0, lt2 a b, ou2 o p, ()) e2 e4 G4 hx hve4 (by unfold maxLen; dsimp only; omega) (by unfold maxLen; dsimp only; omega) (by unfold maxLen; dsimp only; omega) (by unfold maxLen; dsimp only; omega)
  rw [sameL_refl] at ss
  obtain ⟨x, y, el, hxy⟩ := lt2_two a b c3
  obtain ⟨x', y', eo, hxy'⟩ := ou2_two o p c4
  rw [el, eo] at hx hve4
  obtain ⟨vl, vo, rfl, hL, hO⟩ := hx
  obtain ⟨al, cl, rfl, _⟩ := hL.form
  obtain ⟨ao, co, rfl, _⟩ := hO.form
  dsimp only at hL hO ⊢
  obtain ⟨z1, o1, w1, hc1⟩ := hL.at (i := 0) (x := x) rfl
  obtain ⟨z2, o2, w2, hc2⟩ := hL.at (i := 1) (x := y) rfl
  obtain ⟨z3, o3, w3, hc3⟩ := hO.at (i := 0) (x := x') rfl
  obtain ⟨z4, o4, w4, hc4⟩ := hO.at (i := 1) (x := y') rfl
  subst w1 w3
  injection w2 with w2
  injection w2 with w5 w6
  injection w4 with w4
  injection w4 with w7 w8
  subst w5 w6 w7 w8
  have q2l : (lgC 0 0 (.slice (some ⟨z1, o1, none⟩) [x, y].length cl) (.slice (some ⟨z3, o3, none⟩) [x', y'].length co)).length = 4 := rfl
  refine jn ?_
  refine jc rfl rfl ?_
  refine jd rfl ?_ ?_ ?_; kernel_rfl; kernel_rfl
  repeat (first|refine zJ rfl rfl ?_|refine jr rfl ?_|refine jn ?_|refine zM rfl rfl ?_|(refine zC rfl rfl ?_ rfl ?_;omega)|(refine zD rfl rfl ?_ rfl ?_;omega)|(refine zP rfl ?_ rfl ?_;omega)|refine zG rfl rfl rfl rfl ?_|(refine jdq rfl rfl ?_ ?_ ?_;kernel_rfl;kernel_rfl)|refine zB rfl rfl rfl (by repeat constructor) rfl ?_)
  refine oS (ev_load_agg (cs := lgC 0 0 (.slice (some ⟨z1, o1, none⟩) [x, y].length cl) (.slice (some ⟨z3, o3, none⟩) [x', y'].length co)) rfl rfl (rdb_all (.there .here)) rfl) rfl ?_
  refine oS (ev_load_agg (cs := e4) rfl rfl (rdb_all .here) qe4.1) rfl ?_
  refine oP (ss) Try.call25 rfl rfl ?_
  repeat (first|refine zJ rfl rfl ?_|refine jr rfl ?_|refine jn ?_|refine zM rfl rfl ?_|(refine zC rfl rfl ?_ rfl ?_;omega)|(refine zD rfl rfl ?_ rfl ?_;omega)|(refine zP rfl ?_ rfl ?_;omega)|refine zG rfl rfl rfl rfl ?_|(refine jdq rfl rfl ?_ ?_ ?_;kernel_rfl;kernel_rfl)|refine zB rfl rfl rfl (by repeat constructor) rfl ?_)
  refine oS (ev_load (v := (.slice (some ⟨z1, o1, none⟩) 2 cl)) rfl rfl (Rdb.ofB (n := 0) (.there .here) rfl)) rfl ?_
  repeat (first|refine zJ rfl rfl ?_|refine jr rfl ?_|refine jn ?_|refine zM rfl rfl ?_|(refine zC rfl rfl ?_ rfl ?_;omega)|(refine zD rfl rfl ?_ rfl ?_;omega)|(refine zP rfl ?_ rfl ?_;omega)|refine zG rfl rfl rfl rfl ?_|(refine jdq rfl rfl ?_ ?_ ?_;kernel_rfl;kernel_rfl)|refine zB rfl rfl rfl (by repeat constructor) rfl ?_)
  refine oS (ev_load (v := (.slice (some ⟨z3, o3, none⟩) 2 co)) rfl rfl (Rdb.ofB (n := 0) (.there .here) rfl)) rfl ?_
  repeat (first|refine zJ rfl rfl ?_|refine jr rfl ?_|refine jn ?_|refine zM rfl rfl ?_|(refine zC rfl rfl ?_ rfl ?_;omega)|(refine zD rfl rfl ?_ rfl ?_;omega)|(refine zP rfl ?_ rfl ?_;omega)|refine zG rfl rfl rfl rfl ?_|(refine jdq rfl rfl ?_ ?_ ?_;kernel_rfl;kernel_rfl)|refine zB rfl rfl rfl (by repeat constructor) rfl ?_)
  refine oS (ev_load (v := (.slice (some ⟨z1, o1, none⟩) 2 cl)) rfl rfl (Rdb.ofB (n := 0) (.there .here) rfl)) rfl ?_
  repeat (first|refine zJ rfl rfl ?_|refine jr rfl ?_|refine jn ?_|refine zM rfl rfl ?_|(refine zC rfl rfl ?_ rfl ?_;omega)|(refine zD rfl rfl ?_ rfl ?_;omega)|(refine zP rfl ?_ rfl ?_;omega)|refine zG rfl rfl rfl rfl ?_|(refine jdq rfl rfl ?_ ?_ ?_;kernel_rfl;kernel_rfl)|refine zB rfl rfl rfl (by repeat constructor) rfl ?_)
  refine oS (ev_indexAddr (n := 2) (i := 0) rfl rfl rfl (by decide)) rfl ?_
  refine oS (ev_fieldAddr rfl rfl) rfl ?_
  refine oS (ev_load (v := .string (strOf x.1)) rfl rfl (Rdb.ofF (Cells.one hc1 0 rfl))) rfl ?_
  repeat (first|refine zJ rfl rfl ?_|refine jr rfl ?_|refine jn ?_|refine zM rfl rfl ?_|(refine zC rfl rfl ?_ rfl ?_;omega)|(refine zD rfl rfl ?_ rfl ?_;omega)|(refine zP rfl ?_ rfl ?_;omega)|refine zG rfl rfl rfl rfl ?_|(refine jdq rfl rfl ?_ ?_ ?_;kernel_rfl;kernel_rfl)|refine zB rfl rfl rfl (by repeat constructor) rfl ?_)
  refine oS (ev_load (v := (.slice (some ⟨z1, o1, none⟩) 2 cl)) rfl rfl (Rdb.ofB (n := 0) (.there .here) rfl)) rfl ?_
  repeat (first|refine zJ rfl rfl ?_|refine jr rfl ?_|refine jn ?_|refine zM rfl rfl ?_|(refine zC rfl rfl ?_ rfl ?_;omega)|(refine zD rfl rfl ?_ rfl ?_;omega)|(refine zP rfl ?_ rfl ?_;omega)|refine zG rfl rfl rfl rfl ?_|(refine jdq rfl rfl ?_ ?_ ?_;kernel_rfl;kernel_rfl)|refine zB rfl rfl rfl (by repeat constructor) rfl ?_)
  refine oS (ev_indexAddr (n := 2) (i := 1) rfl rfl rfl (by decide)) rfl ?_
  refine oS (ev_fieldAddr rfl rfl) rfl ?_
  refine oS (ev_load (v := .string (strOf y.1)) rfl rfl (Rdb.ofF (Cells.one hc2 0 rfl))) rfl ?_
  refine oS (v := .bool (ltY x.1 y.1)) (ev_slss rfl rfl) rfl ?_
  rw [hxy]
  repeat (first|refine zJ rfl rfl ?_|refine jr rfl ?_|refine jn ?_|refine zM rfl rfl ?_|(refine zC rfl rfl ?_ rfl ?_;omega)|(refine zD rfl rfl ?_ rfl ?_;omega)|(refine zP rfl ?_ rfl ?_;omega)|refine zG rfl rfl rfl rfl ?_|(refine jdq rfl rfl ?_ ?_ ?_;kernel_rfl;kernel_rfl)|refine zB rfl rfl rfl (by repeat constructor) rfl ?_)
  refine oS (ev_load (v := (.slice (some ⟨z3, o3, none⟩) 2 co)) rfl rfl (Rdb.ofB (n := 0) (.there .here) rfl)) rfl ?_
  repeat (first|refine zJ rfl rfl ?_|refine jr rfl ?_|refine jn ?_|refine zM rfl rfl ?_|(refine zC rfl rfl ?_ rfl ?_;omega)|(refine zD rfl rfl ?_ rfl ?_;omega)|(refine zP rfl ?_ rfl ?_;omega)|refine zG rfl rfl rfl rfl ?_|(refine jdq rfl rfl ?_ ?_ ?_;kernel_rfl;kernel_rfl)|refine zB rfl rfl rfl (by repeat constructor) rfl ?_)
  refine oS (ev_indexAddr (n := 2) (i := 0) rfl rfl rfl (by decide)) rfl ?_
  refine oS (ev_fieldAddr rfl rfl) rfl ?_
  refine oS (ev_load (v := .int .i64 x'.1) rfl rfl (Rdb.ofF (Cells.one hc3 0 rfl))) rfl ?_
  repeat (first|refine zJ rfl rfl ?_|refine jr rfl ?_|refine jn ?_|refine zM rfl rfl ?_|(refine zC rfl rfl ?_ rfl ?_;omega)|(refine zD rfl rfl ?_ rfl ?_;omega)|(refine zP rfl ?_ rfl ?_;omega)|refine zG rfl rfl rfl rfl ?_|(refine jdq rfl rfl ?_ ?_ ?_;kernel_rfl;kernel_rfl)|refine zB rfl rfl rfl (by repeat constructor) rfl ?_)
  refine oS (ev_load (v := (.slice (some ⟨z3, o3, none⟩) 2 co)) rfl rfl (Rdb.ofB (n := 0) (.there .here) rfl)) rfl ?_
  repeat (first|refine zJ rfl rfl ?_|refine jr rfl ?_|refine jn ?_|refine zM rfl rfl ?_|(refine zC rfl rfl ?_ rfl ?_;omega)|(refine zD rfl rfl ?_ rfl ?_;omega)|(refine zP rfl ?_ rfl ?_;omega)|refine zG rfl rfl rfl rfl ?_|(refine jdq rfl rfl ?_ ?_ ?_;kernel_rfl;kernel_rfl)|refine zB rfl rfl rfl (by repeat constructor) rfl ?_)
  refine oS (ev_indexAddr (n := 2) (i := 1) rfl rfl rfl (by decide)) rfl ?_
  refine oS (ev_fieldAddr rfl rfl) rfl ?_
  refine oS (ev_load (v := .int .i64 y'.1) rfl rfl (Rdb.ofF (Cells.one hc4 0 rfl))) rfl ?_
  repeat (first|refine zJ rfl rfl ?_|refine jr rfl ?_|refine jn ?_|refine zM rfl rfl ?_|(refine zC rfl rfl ?_ rfl ?_;omega)|(refine zD rfl rfl ?_ rfl ?_;omega)|(refine zP rfl ?_ rfl ?_;omega)|refine zG rfl rfl rfl rfl ?_|(refine jdq rfl rfl ?_ ?_ ?_;kernel_rfl;kernel_rfl)|refine zB rfl rfl rfl (by repeat constructor) rfl ?_)
  exact J_retv rfl (.tmp rfl .nil) [] (fun w s => s.drop.drop.drop.drop.drop.drop) hle2 ⟨rfl, rfl⟩
-- end walk
open Go.ChangeShapes Go.WideShapes Go.ChangeAt
set_option maxRecDepth 100000 in theorem LedgerOrder_lifted (os : Os) (started : os.Started) (H : Type) (enc : TypeId × Value → H) : ReturnsInHanded {} Try.checked os 6 .any (Rows.ledgerOrderSpec.pre6 enc Try.prog Try.f6 Rows.ledgerOrderRow.domain false) (Rows.ledgerOrderSpec.post enc Try.prog Try.f6 false true false false) := by
  refine returnsInHanded_of_change (C := Try.checked) own_knob started (by kernel_rfl) Try.func6 (ChangeSpec.witness6 (enc := enc) (C := Try.checked) false ⟨#[], #[.agg zLt.toArray, .agg zLt.toArray, .agg zOu.toArray, .agg zOu.toArray], []⟩ 8 (by kernel_rfl) (by kernel_rfl) (by kernel_rfl) (by kernel_rfl)) ?_; intro W base args ds gs before hval0 hW hcnd _; have hval : ∀ (j : Nat) t v, Try.f6.params[j]? = some t → args[j]? = some v → Value.okWide Try.prog W .any base t v := hval0; have hW' := hW; obtain ⟨p, q, hA0, hV, hp, hfz, hnd⟩ := hW; have hA : DataW.TrodAll enc Try.prog W 0 (fun _ => true) true Try.f6.params.toList args.toList ds p := hA0; obtain ⟨rfl, rfl⟩ := trodVars_none hV; rw [List.append_nil] at hp; have hA' := hA; rw [Try.params6] at hA hval
  obtain ⟨v0, vs0, d0, ds0, p0, q0, hargs, rfl, rfl, h0, r0⟩ := trodAll_cons hA; obtain ⟨v1, vs1, d1, ds1, p1, q1, rfl, rfl, rfl, h1, r1⟩ := trodAll_cons r0; obtain ⟨v2, vs2, d2, ds2, p2, q2, rfl, rfl, rfl, h2, r2⟩ := trodAll_cons r1; obtain ⟨v3, vs3, d3, ds3, p3, q3, rfl, rfl, rfl, h3, r3⟩ := trodAll_cons r2; obtain ⟨rfl, rfl, rfl⟩ := trodAll_nil r3; obtain rfl : args = #[v0, v1, v2, v3] := by cases args; simp_all
  obtain ⟨a, ca, rfl, ha⟩ := open_struct lyLt Try.underlying37 (hval 0 37 v0 rfl rfl) h0
  obtain ⟨b, cb, rfl, hb⟩ := open_struct lyLt Try.underlying37 (hval 1 37 v1 rfl rfl) h1
  obtain ⟨o, co, rfl, ho⟩ := open_struct lyOu Try.underlying39 (hval 2 39 v2 rfl rfl) h2
  obtain ⟨p', cp, rfl, hp'⟩ := open_struct lyOu Try.underlying39 (hval 3 39 v3 rfl rfl) h3
  obtain ⟨rfl, ia⟩ := lt_of ha
  obtain ⟨rfl, ib⟩ := lt_of hb
  obtain rfl := ou_of ho
  obtain rfl := ou_of hp'
  refine (law_walk (LedgerOrder_walk a b o p' (ph W) ia.1 ib.1)).mono fun e W' ⟨he, hb'⟩ => ?_
  subst he
  exact ⟨_, rfl, law_post laid_out (by kernel_rfl) rfl rfl Try.underlying4 hW' hA' hp rfl hb'⟩
theorem LedgerOrder_holds : Rows.LedgerOrderSaid := OpenClaim.holds_of_wide 6 Try.f6 rfl rfl rfl rfl rfl rfl rfl ⟨rfl, rfl, rfl, rfl, rfl⟩ rfl rfl rfl rfl rfl (by kernel_rfl) Try.func6 (by kernel_rfl) (of_decide_eq_true (by kernel_rfl)) (by unfold Func.isWrapper; first | (rw [if_pos (by decide +kernel)]; kernel_rfl) | (rw [if_neg (by decide +kernel)]; exact ⟨rfl, rfl⟩)) (fun os started H enc _ => LedgerOrder_lifted os started H enc)
#print axioms LedgerOrder_holds
end Go.Proofs.Ytifdlhafcfbeaaa
