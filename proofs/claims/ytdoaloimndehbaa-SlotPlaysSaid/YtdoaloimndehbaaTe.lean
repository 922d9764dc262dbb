/-
  A slot takes a proposal; whether it is prepared. Conditions are typed with each.
-/
import Derived.Test.YtdoaloimndehbaaTd
namespace Go.Proofs.Ytdoaloimndehbaa
open Go.RowKit
set_option maxRecDepth 100000
abbrev zEt : List Value := [.int .i64 0, .int .i64 0, .int .i64 0, .string .empty, .int .i64 0, .int .i64 0, .string .empty, .int .u32 0]
theorem elEt : Elem Try.prog 33 101 8 80 (.agg zEt.toArray) := ⟨rfl, ⟨_, rfl, rfl, rfl, rfl, rfl, by decide⟩, rfl, rfl⟩
theorem eclone_spec (v : Value) (n : Nat) (cs : List Value) (F : PH) (h : SliceV F 8 v n cs) (ho : Ones cs) (hn : n ≤ 1000) :
    Spec Try.prog 42 [v] F [] fun u F' H' => H' = [] ∧ SliceV F' 8 u n cs := by
  refine Spec.of1 Try.func42 rfl rfl fun X w0 => ?_
  obtain ⟨hl, a, c, rfl, hc, h2⟩ := id h
  repeat (first|refine zJ rfl rfl ?_|refine jr rfl ?_|refine jn ?_|refine zM rfl rfl ?_|(refine zC rfl rfl ?_ rfl ?_;omega)|(refine zD rfl rfl ?_ rfl ?_;omega)|(refine zP rfl ?_ rfl ?_;omega)|refine zG rfl rfl rfl rfl ?_|(refine jdq rfl rfl ?_ ?_ ?_;kernel_rfl;kernel_rfl)|refine zB rfl rfl rfl (by repeat constructor) rfl ?_)
  refine oS (ev_slice_eql_nil rfl rfl rfl) rfl ?_
  cases a with
  | none =>
    have h0 : n = 0 := by
      by_cases hz : 0 < n
      · obtain ⟨_, _, h3, _⟩ := h2 hz; cases h3
      · omega
    subst h0
    have hcs : cs = [] := List.eq_nil_of_length_eq_zero (by omega)
    subst hcs
    repeat (first|refine zJ rfl rfl ?_|refine jr rfl ?_|refine jn ?_|refine zM rfl rfl ?_|(refine zC rfl rfl ?_ rfl ?_;omega)|(refine zD rfl rfl ?_ rfl ?_;omega)|(refine zP rfl ?_ rfl ?_;omega)|refine zG rfl rfl rfl rfl ?_|(refine jdq rfl rfl ?_ ?_ ?_;kernel_rfl;kernel_rfl)|refine zB rfl rfl rfl (by repeat constructor) rfl ?_)
    exact J_retv rfl (.tmp rfl .nil) [] (fun w s => s) (PH.ler _) ⟨rfl, SliceV.nil _ _⟩
  | some ad =>
    repeat (first|refine zJ rfl rfl ?_|refine jr rfl ?_|refine jn ?_|refine zM rfl rfl ?_|(refine zC rfl rfl ?_ rfl ?_;omega)|(refine zD rfl rfl ?_ rfl ?_;omega)|(refine zP rfl ?_ rfl ?_;omega)|refine zG rfl rfl rfl rfl ?_|(refine jdq rfl rfl ?_ ?_ ?_;kernel_rfl;kernel_rfl)|refine zB rfl rfl rfl (by repeat constructor) rfl ?_)
    refine oE (ev_mt elEt) rfl ?_
    rintro u _ _ _ ⟨rfl, ⟨b, rfl⟩, rfl⟩
    repeat (first|refine zJ rfl rfl ?_|refine jr rfl ?_|refine jn ?_|refine zM rfl rfl ?_|(refine zC rfl rfl ?_ rfl ?_;omega)|(refine zD rfl rfl ?_ rfl ?_;omega)|(refine zP rfl ?_ rfl ?_;omega)|refine zG rfl rfl rfl rfl ?_|(refine jdq rfl rfl ?_ ?_ ?_;kernel_rfl;kernel_rfl)|refine zB rfl rfl rfl (by repeat constructor) rfl ?_)
    refine oE (ev_append_s (n := 0) (m := n) (xs := []) (news := cs) (K := fun v' => own v' 101 8 n cs :: X) rfl rfl elEt h.rds ho (by omega) (fun v' => by rw [Nat.zero_add, List.nil_append]; exact .here)) rfl ?_
    rintro u _ _ _ ⟨rfl, hu, rfl⟩
    repeat (first|refine zJ rfl rfl ?_|refine jr rfl ?_|refine jn ?_|refine zM rfl rfl ?_|(refine zC rfl rfl ?_ rfl ?_;omega)|(refine zD rfl rfl ?_ rfl ?_;omega)|(refine zP rfl ?_ rfl ?_;omega)|refine zG rfl rfl rfl rfl ?_|(refine jdq rfl rfl ?_ ?_ ?_;kernel_rfl;kernel_rfl)|refine zB rfl rfl rfl (by repeat constructor) rfl ?_)
    refine J_persist fun hh hA hd => ?_
    exact J_retv rfl (.tmp rfl .nil) [] (fun w s => s) (PH.le_l _ _) ⟨rfl, own_slice hA hd⟩
theorem lay_dv (d : Dg) (w v : Value) : Lay 32 [v] (u8s d.1 ++ [w]) (u8s d.1 ++ [v]) := by
  have h := layP (u8s d.1) (Lay.put Lay.nil : Lay 0 [v] [w] [v])
  rw [dig_len] at h
  exact h
/-- What is proposed afterwards. -/
def propO (o : Option Pr) (d : Dg) (u : Value) (n : Nat) (cs : List Value) : Option Pr := match o with
  | none => some ⟨d, u, n, cs⟩
  | some q => some q
def propC (o : Option Pr) (d : Dg) : Int := match o with
  | none => 0
  | some q => if q.d = d then 15 else 2
set_option maxHeartbeats 4000000 in
theorem propose_spec (A : SA) (n : Int) (p : Value) (o : Option Pr) (ps cs : Vts) (d : Dg) (v : Value) (m : Nat) (es : List Value) (F : PH) (hp : PrV F p o) (h : SliceV F 8 v m es) (ho : Ones es) (hn : m ≤ 1000) :
    Spec Try.prog 11 [pT A.s, d.v, v] F (SL A n p ps cs) fun u F' H' => ∃ p' u', PrV F' p' (propO o d u' m es) ∧ u = .int .i64 (propC o d) ∧ H' = SL A n p' ps cs := by
  refine Spec.of3 Try.func11 rfl rfl fun X w0 => ?_
  obtain ⟨s, b1, v1, c1, b2, v2, c2⟩ := A
  dsimp only [SL, TA, pT, List.cons_append, List.nil_append]
  repeat (first|refine zJ rfl rfl ?_|refine jr rfl ?_|refine jn ?_|refine zM rfl rfl ?_|(refine zC rfl rfl ?_ rfl ?_;omega)|(refine zD rfl rfl ?_ rfl ?_;omega)|(refine zP rfl ?_ rfl ?_;omega)|refine zG rfl rfl rfl rfl ?_|(refine jdq rfl rfl ?_ ?_ ?_;kernel_rfl;kernel_rfl)|refine zB rfl rfl rfl (by repeat constructor) rfl ?_|refine zH .here rfl rfl rfl rfl ?_|refine zH (.there .here) rfl rfl rfl rfl ?_|refine zH (.there (.there .here)) rfl rfl rfl rfl ?_|refine zH (.there (.there (.there .here))) rfl rfl rfl rfl ?_|refine zH (.there (.there (.there (.there .here)))) rfl rfl rfl rfl ?_)
  refine oE (ev_box rfl .agg) rfl ?_; rintro _ _ _ _ ⟨rfl, b4, rfl, rfl⟩
  cases o with
  | none =>
    cases hp
    repeat (first|refine zJ rfl rfl ?_|refine jr rfl ?_|refine jn ?_|refine zM rfl rfl ?_|(refine zC rfl rfl ?_ rfl ?_;omega)|(refine zD rfl rfl ?_ rfl ?_;omega)|(refine zP rfl ?_ rfl ?_;omega)|refine zG rfl rfl rfl rfl ?_|(refine jdq rfl rfl ?_ ?_ ?_;kernel_rfl;kernel_rfl)|refine zB rfl rfl rfl (by repeat constructor) rfl ?_|refine zH .here rfl rfl rfl rfl ?_|refine zH (.there .here) rfl rfl rfl rfl ?_|refine zH (.there (.there .here)) rfl rfl rfl rfl ?_|refine zH (.there (.there (.there .here))) rfl rfl rfl rfl ?_|refine zH (.there (.there (.there (.there .here)))) rfl rfl rfl rfl ?_)
    refine ja F [blk b4 29 (u8s d.1)] ?_ (fun w t => t.head) ?_; kernel_rfl
    refine aT 0 rfl (ev_qe rfl) rfl rfl ?_ ?_ ?_ ?_; kernel_rfl; kernel_rfl; kernel_rfl
    refine aT 1 rfl (ev_ldD .here rfl (dig_all d)) rfl rfl ?_ ?_ ?_ ?_; kernel_rfl; kernel_rfl; kernel_rfl
    refine aT 2 rfl (ev_qe rfl) rfl rfl ?_ ?_ ?_ ?_; kernel_rfl; kernel_rfl; kernel_rfl
    refine aB (i := 3) (by kernel_rfl) (aC (Hc := []) (Hr := blk b4 29 (u8s d.1) :: (SL ⟨s, b1, v1, c1, b2, v2, c2⟩ n (.pointer none) ps cs ++ X)) rfl (eclone_spec v m es F h ho hn) Try.call42 rfl rfl rfl (fun w t => t) (fun _ _ _ hF hq w t => by obtain ⟨rfl, _⟩ := hq; exact t.head.mono hF) ?_)
    rintro u F1 _ hF1 ⟨rfl, hs1⟩
    obtain ⟨_, a', c', rfl, _, _⟩ := id hs1
    refine aT 4 rfl (ev_build (t := u8s d.1 ++ [.slice a' m c']) (zs := u8s zDg.1 ++ [.slice none 0 0]) rfl rfl rfl (.cons .agg rfl (dig_len d) (layM _ (by rw [dig_len, dig_len])) (.cons (vs := [.slice a' m c']) (by constructor) rfl rfl (lay_dv d _ _) .nil))) rfl rfl ?_ ?_ ?_ ?_; kernel_rfl; kernel_rfl; kernel_rfl
    refine aB (i := 5) (by kernel_rfl) (aE rfl (ev_box rfl .agg) rfl rfl (fun _ _ _ hF hq w t => by obtain ⟨rfl, _, rfl, rfl⟩ := hq; exact t.drop.head.mono hF1) ?_)
    rintro _ _ _ _ ⟨rfl, pb, rfl, rfl⟩
    refine aPersist fun hh hA hd => ?_
    have hc := blk_cells hA hd
    have hs2 := hs1.mono (PH.le_l F1 hh)
    have hF2 := hF1.trans (PH.le_l F1 hh)
    have hc2 := hc.right
    rw [dig_len, Nat.zero_add] at hc2
    generalize F1.un hh = F2 at *
    dsimp only [SL, TA, pT, List.cons_append, List.nil_append]
    refine aT 6 rfl (ev_qe rfl) rfl rfl ?_ ?_ ?_ ?_; kernel_rfl; kernel_rfl; kernel_rfl
    refine aT 7 rfl (ev_qe rfl) rfl rfl ?_ ?_ ?_ ?_; kernel_rfl; kernel_rfl; kernel_rfl
    refine aB (i := 8) (by kernel_rfl) (aN rfl (ev_store (b := s) (off := 0 + 1) (vs := [pT pb]) rfl rfl (by constructor) rfl rfl (.skip (.put .nil)) (ones_cons rfl ones_nil) (.there .here)) rfl (fun _ _ _ hF hq w t => by obtain ⟨rfl, _, rfl⟩ := hq; exact t.head.mono hF2) ?_)
    rintro _ _ _ _ ⟨rfl, _, rfl⟩
    refine aD (by kernel_rfl) ?_
    repeat (first|refine zJ rfl rfl ?_|refine jr rfl ?_|refine jn ?_|refine zM rfl rfl ?_|(refine zC rfl rfl ?_ rfl ?_;omega)|(refine zD rfl rfl ?_ rfl ?_;omega)|(refine zP rfl ?_ rfl ?_;omega)|refine zG rfl rfl rfl rfl ?_|(refine jdq rfl rfl ?_ ?_ ?_;kernel_rfl;kernel_rfl)|refine zB rfl rfl rfl (by repeat constructor) rfl ?_|refine zH .here rfl rfl rfl rfl ?_|refine zH (.there .here) rfl rfl rfl rfl ?_|refine zH (.there (.there .here)) rfl rfl rfl rfl ?_|refine zH (.there (.there (.there .here))) rfl rfl rfl rfl ?_|refine zH (.there (.there (.there (.there .here)))) rfl rfl rfl rfl ?_)
    exact J_retv rfl (.tmp rfl .nil) _ (fun w t => t.drop) hF2 ⟨pT pb, .slice a' m c', ⟨pb, rfl, hc.left, hc2, hs2⟩, rfl, rfl⟩
  | some q =>
    obtain ⟨pb, rfl, hc1, hc2, hc3⟩ := hp
    dsimp only [pT]
    repeat (first|refine zJ rfl rfl ?_|refine jr rfl ?_|refine jn ?_|refine zM rfl rfl ?_|(refine zC rfl rfl ?_ rfl ?_;omega)|(refine zD rfl rfl ?_ rfl ?_;omega)|(refine zP rfl ?_ rfl ?_;omega)|refine zG rfl rfl rfl rfl ?_|(refine jdq rfl rfl ?_ ?_ ?_;kernel_rfl;kernel_rfl)|refine zB rfl rfl rfl (by repeat constructor) rfl ?_|refine zH .here rfl rfl rfl rfl ?_|refine zH (.there .here) rfl rfl rfl rfl ?_|refine zH (.there (.there .here)) rfl rfl rfl rfl ?_|refine zH (.there (.there (.there .here))) rfl rfl rfl rfl ?_|refine zH (.there (.there (.there (.there .here)))) rfl rfl rfl rfl ?_)
    refine oS (ev_load_agg (cs := u8s q.d.1) rfl rfl (Rdb.ofF hc1) (dig_len _)) rfl ?_
    refine oS (ev_ldD (.here) rfl (dig_all _)) rfl ?_
    refine oS (ev_eqD (d := q.d) (e := d) rfl rfl) rfl ?_
    unfold propC propO
    dsimp only
    by_cases hed : q.d = d
    · rw [if_pos hed, decide_eq_true hed]
      repeat (first|refine zJ rfl rfl ?_|refine jr rfl ?_|refine jn ?_|refine zM rfl rfl ?_|(refine zC rfl rfl ?_ rfl ?_;omega)|(refine zD rfl rfl ?_ rfl ?_;omega)|(refine zP rfl ?_ rfl ?_;omega)|refine zG rfl rfl rfl rfl ?_|(refine jdq rfl rfl ?_ ?_ ?_;kernel_rfl;kernel_rfl)|refine zB rfl rfl rfl (by repeat constructor) rfl ?_|refine zH .here rfl rfl rfl rfl ?_|refine zH (.there .here) rfl rfl rfl rfl ?_|refine zH (.there (.there .here)) rfl rfl rfl rfl ?_|refine zH (.there (.there (.there .here))) rfl rfl rfl rfl ?_|refine zH (.there (.there (.there (.there .here)))) rfl rfl rfl rfl ?_)
      exact J_retv rfl (.tmp rfl .nil) _ (fun w t => t.drop) (PH.ler _) ⟨pT pb, v, ⟨pb, rfl, hc1, hc2, hc3⟩, rfl, rfl⟩
    · rw [if_neg hed, decide_eq_false hed]
      repeat (first|refine zJ rfl rfl ?_|refine jr rfl ?_|refine jn ?_|refine zM rfl rfl ?_|(refine zC rfl rfl ?_ rfl ?_;omega)|(refine zD rfl rfl ?_ rfl ?_;omega)|(refine zP rfl ?_ rfl ?_;omega)|refine zG rfl rfl rfl rfl ?_|(refine jdq rfl rfl ?_ ?_ ?_;kernel_rfl;kernel_rfl)|refine zB rfl rfl rfl (by repeat constructor) rfl ?_|refine zH .here rfl rfl rfl rfl ?_|refine zH (.there .here) rfl rfl rfl rfl ?_|refine zH (.there (.there .here)) rfl rfl rfl rfl ?_|refine zH (.there (.there (.there .here))) rfl rfl rfl rfl ?_|refine zH (.there (.there (.there (.there .here)))) rfl rfl rfl rfl ?_)
      exact J_retv rfl (.tmp rfl .nil) _ (fun w t => t.drop) (PH.ler _) ⟨pT pb, v, ⟨pb, rfl, hc1, hc2, hc3⟩, rfl, rfl⟩
def preparedP (n : Int) (o : Option Pr) (ps : Vts) (primary : Int) : Bool := match o with
  | none => false
  | some q => decide (quoI n - 1 ≤ (cntV ps q.d : Int) - if hasV ps primary = some q.d then 1 else 0)
set_option maxHeartbeats 4000000 in
theorem prepared_spec (A : SA) (n : Int) (p : Value) (o : Option Pr) (ps cs : Vts) (primary : Int) (F : PH) (hp : PrV F p o) (h1 : 1 ≤ n) (h7 : n ≤ 7) (hl : ps.length ≤ 1000) :
    Spec Try.prog 17 [pT A.s, .int .i64 primary] F (SL A n p ps cs) fun u _ H' => u = .bool (preparedP n o ps primary) ∧ H' = SL A n p ps cs := by
  refine Spec.of2 Try.func17 rfl rfl fun X w0 => ?_
  obtain ⟨s, b1, v1, c1, b2, v2, c2⟩ := A
  dsimp only [SL, TA, pT, List.cons_append, List.nil_append]
  cases o with
  | none =>
    cases hp
    repeat (first|refine zJ rfl rfl ?_|refine jr rfl ?_|refine jn ?_|refine zM rfl rfl ?_|(refine zC rfl rfl ?_ rfl ?_;omega)|(refine zD rfl rfl ?_ rfl ?_;omega)|(refine zP rfl ?_ rfl ?_;omega)|refine zG rfl rfl rfl rfl ?_|(refine jdq rfl rfl ?_ ?_ ?_;kernel_rfl;kernel_rfl)|refine zB rfl rfl rfl (by repeat constructor) rfl ?_|refine zH .here rfl rfl rfl rfl ?_|refine zH (.there .here) rfl rfl rfl rfl ?_|refine zH (.there (.there .here)) rfl rfl rfl rfl ?_|refine zH (.there (.there (.there .here))) rfl rfl rfl rfl ?_|refine zH (.there (.there (.there (.there .here)))) rfl rfl rfl rfl ?_)
    exact J_retv rfl (.tmp rfl .nil) _ (fun w t => t) (PH.ler _) ⟨rfl, rfl⟩
  | some q =>
    obtain ⟨pb, rfl, hc1, hc2, hc3⟩ := hp
    have hcl := cntV_le ps q.d
    dsimp only [pT]
    repeat (first|refine zJ rfl rfl ?_|refine jr rfl ?_|refine jn ?_|refine zM rfl rfl ?_|(refine zC rfl rfl ?_ rfl ?_;omega)|(refine zD rfl rfl ?_ rfl ?_;omega)|(refine zP rfl ?_ rfl ?_;omega)|refine zG rfl rfl rfl rfl ?_|(refine jdq rfl rfl ?_ ?_ ?_;kernel_rfl;kernel_rfl)|refine zB rfl rfl rfl (by repeat constructor) rfl ?_|refine zH .here rfl rfl rfl rfl ?_|refine zH (.there .here) rfl rfl rfl rfl ?_|refine zH (.there (.there .here)) rfl rfl rfl rfl ?_|refine zH (.there (.there (.there .here))) rfl rfl rfl rfl ?_|refine zH (.there (.there (.there (.there .here)))) rfl rfl rfl rfl ?_)
    refine ja PH.emp [] ?_ (fun w s => s.any) ?_; kernel_rfl
    refine aL (fun o => o.take 11) [11, 12] [0, 1, 2, 3, 4, 5, 6, 7, 8, 9, 10] 2 rfl ?_ ?_ ?_ ?_ ?_ ?_; kernel_rfl; kernel_rfl; kernel_rfl; kernel_rfl; kernel_rfl; dsimp only [List.take]
    repeat (first|refine zJ rfl rfl ?_|refine jr rfl ?_|refine jn ?_|refine zM rfl rfl ?_|(refine zC rfl rfl ?_ rfl ?_;omega)|(refine zD rfl rfl ?_ rfl ?_;omega)|(refine zP rfl ?_ rfl ?_;omega)|refine zG rfl rfl rfl rfl ?_|(refine jdq rfl rfl ?_ ?_ ?_;kernel_rfl;kernel_rfl)|refine zB rfl rfl rfl (by repeat constructor) rfl ?_|refine zH .here rfl rfl rfl rfl ?_|refine zH (.there .here) rfl rfl rfl rfl ?_|refine zH (.there (.there .here)) rfl rfl rfl rfl ?_|refine zH (.there (.there (.there .here))) rfl rfl rfl rfl ?_|refine zH (.there (.there (.there (.there .here)))) rfl rfl rfl rfl ?_)
    refine oS (ev_load_agg (cs := u8s q.d.1) rfl rfl (Rdb.ofF hc1) (dig_len _)) rfl ?_
    refine jn ?_
    refine aR ?_
    refine aB (i := 11) (by kernel_rfl) (aC (Hc := TA b1 v1 c1 ps) (Hr := blk s 96 [.int .i64 n, pT pb, pT b1, pT b2] :: (TA b2 v2 c2 cs ++ X)) rfl (count_spec b1 v1 c1 ps q.d F) Try.call44 rfl rfl rfl (fun w t => t.pm 4 [1, 2, 3, 0] rfl rfl) (fun _ _ _ _ _ w t => t.any) ?_)
    rintro _ F1 _ hF1 ⟨rfl, rfl⟩
    refine aT 12 rfl (ev_qe rfl) rfl rfl ?_ ?_ ?_ ?_; kernel_rfl; kernel_rfl; kernel_rfl
    refine aD (by kernel_rfl) ?_
    repeat (first|refine zJ rfl rfl ?_|refine jr rfl ?_|refine jn ?_|refine zM rfl rfl ?_|(refine zC rfl rfl ?_ rfl ?_;omega)|(refine zD rfl rfl ?_ rfl ?_;omega)|(refine zP rfl ?_ rfl ?_;omega)|refine zG rfl rfl rfl rfl ?_|(refine jdq rfl rfl ?_ ?_ ?_;kernel_rfl;kernel_rfl)|refine zB rfl rfl rfl (by repeat constructor) rfl ?_|refine zH .here rfl rfl rfl rfl ?_|refine zH (.there .here) rfl rfl rfl rfl ?_|refine zH (.there (.there .here)) rfl rfl rfl rfl ?_|refine zH (.there (.there (.there .here))) rfl rfl rfl rfl ?_|refine zH (.there (.there (.there (.there .here)))) rfl rfl rfl rfl ?_)
    refine oC (Hc := TA b1 v1 c1 ps) (Hr := blk s 96 [.int .i64 n, pT pb, pT b1, pT b2] :: (TA b2 v2 c2 cs ++ X)) (of_spec b1 v1 c1 ps primary F1) Try.call47 rfl rfl (fun w t => t) ?_
    rintro _ F2 _ hF2 ⟨rfl, rfl⟩
    dsimp only [TA, pT, List.cons_append, List.nil_append]
    have hF := hF1.trans hF2
    have hc1' := hc1.mono hF
    unfold preparedP quoI
    dsimp only
    cases hv : hasV ps primary with
    | none =>
      dsimp only [voteV]
      rw [if_neg (by simp)]
      repeat (first|refine zJ rfl rfl ?_|refine jr rfl ?_|refine jn ?_|refine zM rfl rfl ?_|(refine zC rfl rfl ?_ rfl ?_;omega)|(refine zD rfl rfl ?_ rfl ?_;omega)|(refine zP rfl ?_ rfl ?_;omega)|refine zG rfl rfl rfl rfl ?_|(refine jdq rfl rfl ?_ ?_ ?_;kernel_rfl;kernel_rfl)|refine zB rfl rfl rfl (by repeat constructor) rfl ?_|refine zH .here rfl rfl rfl rfl ?_|refine zH (.there .here) rfl rfl rfl rfl ?_|refine zH (.there (.there .here)) rfl rfl rfl rfl ?_|refine zH (.there (.there (.there .here))) rfl rfl rfl rfl ?_|refine zH (.there (.there (.there (.there .here)))) rfl rfl rfl rfl ?_)
      refine oE (ev_alloc (cs := u8s zDg.1) rfl) rfl ?_; rintro _ _ _ _ ⟨rfl, b6, rfl, rfl⟩
      refine oN (ev_store rfl rfl .agg rfl (dig_len (zDg)) (lay_D (zDg) zDg) (dig_ones (zDg)) (.here)) rfl ?_; rintro _ _ _ _ ⟨rfl, _, rfl⟩
      repeat (first|refine zJ rfl rfl ?_|refine jr rfl ?_|refine jn ?_|refine zM rfl rfl ?_|(refine zC rfl rfl ?_ rfl ?_;omega)|(refine zD rfl rfl ?_ rfl ?_;omega)|(refine zP rfl ?_ rfl ?_;omega)|refine zG rfl rfl rfl rfl ?_|(refine jdq rfl rfl ?_ ?_ ?_;kernel_rfl;kernel_rfl)|refine zB rfl rfl rfl (by repeat constructor) rfl ?_|refine zH .here rfl rfl rfl rfl ?_|refine zH (.there .here) rfl rfl rfl rfl ?_|refine zH (.there (.there .here)) rfl rfl rfl rfl ?_|refine zH (.there (.there (.there .here))) rfl rfl rfl rfl ?_|refine zH (.there (.there (.there (.there .here)))) rfl rfl rfl rfl ?_)
      refine oP (quorum_spec n (by omega) (by omega) F2) Try.call45 rfl rfl ?_
      by_cases hq : 2 * ((max n 1 - 1) / 3) + 1 - 1 ≤ (cntV ps q.d : Int) - 0
      · rw [decide_eq_true hq]
        repeat (first|refine zJ rfl rfl ?_|refine jr rfl ?_|refine jn ?_|refine zM rfl rfl ?_|(refine zC rfl rfl ?_ rfl ?_;omega)|(refine zD rfl rfl ?_ rfl ?_;omega)|(refine zP rfl ?_ rfl ?_;omega)|refine zG rfl rfl rfl rfl ?_|(refine jdq rfl rfl ?_ ?_ ?_;kernel_rfl;kernel_rfl)|refine zB rfl rfl rfl (by repeat constructor) rfl ?_|refine zH .here rfl rfl rfl rfl ?_|refine zH (.there .here) rfl rfl rfl rfl ?_|refine zH (.there (.there .here)) rfl rfl rfl rfl ?_|refine zH (.there (.there (.there .here))) rfl rfl rfl rfl ?_|refine zH (.there (.there (.there (.there .here)))) rfl rfl rfl rfl ?_)
        exact J_retv rfl (.tmp rfl .nil) _ (fun w t => t.drop.pm 7 [3, 0, 1, 2, 4, 5, 6] rfl rfl) hF ⟨rfl, rfl⟩
      · rw [decide_eq_false hq]
        repeat (first|refine zJ rfl rfl ?_|refine jr rfl ?_|refine jn ?_|refine zM rfl rfl ?_|(refine zC rfl rfl ?_ rfl ?_;omega)|(refine zD rfl rfl ?_ rfl ?_;omega)|(refine zP rfl ?_ rfl ?_;omega)|refine zG rfl rfl rfl rfl ?_|(refine jdq rfl rfl ?_ ?_ ?_;kernel_rfl;kernel_rfl)|refine zB rfl rfl rfl (by repeat constructor) rfl ?_|refine zH .here rfl rfl rfl rfl ?_|refine zH (.there .here) rfl rfl rfl rfl ?_|refine zH (.there (.there .here)) rfl rfl rfl rfl ?_|refine zH (.there (.there (.there .here))) rfl rfl rfl rfl ?_|refine zH (.there (.there (.there (.there .here)))) rfl rfl rfl rfl ?_)
        exact J_retv rfl (.tmp rfl .nil) _ (fun w t => t.drop.pm 7 [3, 0, 1, 2, 4, 5, 6] rfl rfl) hF ⟨rfl, rfl⟩
    | some e =>
      dsimp only [voteV]
      repeat (first|refine zJ rfl rfl ?_|refine jr rfl ?_|refine jn ?_|refine zM rfl rfl ?_|(refine zC rfl rfl ?_ rfl ?_;omega)|(refine zD rfl rfl ?_ rfl ?_;omega)|(refine zP rfl ?_ rfl ?_;omega)|refine zG rfl rfl rfl rfl ?_|(refine jdq rfl rfl ?_ ?_ ?_;kernel_rfl;kernel_rfl)|refine zB rfl rfl rfl (by repeat constructor) rfl ?_|refine zH .here rfl rfl rfl rfl ?_|refine zH (.there .here) rfl rfl rfl rfl ?_|refine zH (.there (.there .here)) rfl rfl rfl rfl ?_|refine zH (.there (.there (.there .here))) rfl rfl rfl rfl ?_|refine zH (.there (.there (.there (.there .here)))) rfl rfl rfl rfl ?_)
      refine oE (ev_alloc (cs := u8s zDg.1) rfl) rfl ?_; rintro _ _ _ _ ⟨rfl, b6, rfl, rfl⟩
      refine oN (ev_store rfl rfl .agg rfl (dig_len (e)) (lay_D (e) zDg) (dig_ones (e)) (.here)) rfl ?_; rintro _ _ _ _ ⟨rfl, _, rfl⟩
      repeat (first|refine zJ rfl rfl ?_|refine jr rfl ?_|refine jn ?_|refine zM rfl rfl ?_|(refine zC rfl rfl ?_ rfl ?_;omega)|(refine zD rfl rfl ?_ rfl ?_;omega)|(refine zP rfl ?_ rfl ?_;omega)|refine zG rfl rfl rfl rfl ?_|(refine jdq rfl rfl ?_ ?_ ?_;kernel_rfl;kernel_rfl)|refine zB rfl rfl rfl (by repeat constructor) rfl ?_|refine zH .here rfl rfl rfl rfl ?_|refine zH (.there .here) rfl rfl rfl rfl ?_|refine zH (.there (.there .here)) rfl rfl rfl rfl ?_|refine zH (.there (.there (.there .here))) rfl rfl rfl rfl ?_|refine zH (.there (.there (.there (.there .here)))) rfl rfl rfl rfl ?_)
      refine oS (ev_ldD (.here) rfl (dig_all _)) rfl ?_
      repeat (first|refine zJ rfl rfl ?_|refine jr rfl ?_|refine jn ?_|refine zM rfl rfl ?_|(refine zC rfl rfl ?_ rfl ?_;omega)|(refine zD rfl rfl ?_ rfl ?_;omega)|(refine zP rfl ?_ rfl ?_;omega)|refine zG rfl rfl rfl rfl ?_|(refine jdq rfl rfl ?_ ?_ ?_;kernel_rfl;kernel_rfl)|refine zB rfl rfl rfl (by repeat constructor) rfl ?_|refine zH .here rfl rfl rfl rfl ?_|refine zH (.there .here) rfl rfl rfl rfl ?_|refine zH (.there (.there .here)) rfl rfl rfl rfl ?_|refine zH (.there (.there (.there .here))) rfl rfl rfl rfl ?_|refine zH (.there (.there (.there (.there .here)))) rfl rfl rfl rfl ?_)
      refine oS (ev_load_agg (cs := u8s q.d.1) rfl rfl (Rdb.ofF hc1') (dig_len _)) rfl ?_
      refine oS (ev_eqD (d := e) (e := q.d) rfl rfl) rfl ?_
      by_cases hed : e = q.d
      · rw [if_pos (by rw [hed]), decide_eq_true hed]
        repeat (first|refine zJ rfl rfl ?_|refine jr rfl ?_|refine jn ?_|refine zM rfl rfl ?_|(refine zC rfl rfl ?_ rfl ?_;omega)|(refine zD rfl rfl ?_ rfl ?_;omega)|(refine zP rfl ?_ rfl ?_;omega)|refine zG rfl rfl rfl rfl ?_|(refine jdq rfl rfl ?_ ?_ ?_;kernel_rfl;kernel_rfl)|refine zB rfl rfl rfl (by repeat constructor) rfl ?_|refine zH .here rfl rfl rfl rfl ?_|refine zH (.there .here) rfl rfl rfl rfl ?_|refine zH (.there (.there .here)) rfl rfl rfl rfl ?_|refine zH (.there (.there (.there .here))) rfl rfl rfl rfl ?_|refine zH (.there (.there (.there (.there .here)))) rfl rfl rfl rfl ?_)
        refine oP (quorum_spec n (by omega) (by omega) F2) Try.call45 rfl rfl ?_
        by_cases hq : 2 * ((max n 1 - 1) / 3) + 1 - 1 ≤ (cntV ps q.d : Int) - 1
        · rw [decide_eq_true hq]
          repeat (first|refine zJ rfl rfl ?_|refine jr rfl ?_|refine jn ?_|refine zM rfl rfl ?_|(refine zC rfl rfl ?_ rfl ?_;omega)|(refine zD rfl rfl ?_ rfl ?_;omega)|(refine zP rfl ?_ rfl ?_;omega)|refine zG rfl rfl rfl rfl ?_|(refine jdq rfl rfl ?_ ?_ ?_;kernel_rfl;kernel_rfl)|refine zB rfl rfl rfl (by repeat constructor) rfl ?_|refine zH .here rfl rfl rfl rfl ?_|refine zH (.there .here) rfl rfl rfl rfl ?_|refine zH (.there (.there .here)) rfl rfl rfl rfl ?_|refine zH (.there (.there (.there .here))) rfl rfl rfl rfl ?_|refine zH (.there (.there (.there (.there .here)))) rfl rfl rfl rfl ?_)
          exact J_retv rfl (.tmp rfl .nil) _ (fun w t => t.drop.pm 7 [3, 0, 1, 2, 4, 5, 6] rfl rfl) hF ⟨rfl, rfl⟩
        · rw [decide_eq_false hq]
          repeat (first|refine zJ rfl rfl ?_|refine jr rfl ?_|refine jn ?_|refine zM rfl rfl ?_|(refine zC rfl rfl ?_ rfl ?_;omega)|(refine zD rfl rfl ?_ rfl ?_;omega)|(refine zP rfl ?_ rfl ?_;omega)|refine zG rfl rfl rfl rfl ?_|(refine jdq rfl rfl ?_ ?_ ?_;kernel_rfl;kernel_rfl)|refine zB rfl rfl rfl (by repeat constructor) rfl ?_|refine zH .here rfl rfl rfl rfl ?_|refine zH (.there .here) rfl rfl rfl rfl ?_|refine zH (.there (.there .here)) rfl rfl rfl rfl ?_|refine zH (.there (.there (.there .here))) rfl rfl rfl rfl ?_|refine zH (.there (.there (.there (.there .here)))) rfl rfl rfl rfl ?_)
          exact J_retv rfl (.tmp rfl .nil) _ (fun w t => t.drop.pm 7 [3, 0, 1, 2, 4, 5, 6] rfl rfl) hF ⟨rfl, rfl⟩
      · rw [if_neg (fun h => hed (Option.some.inj h)), decide_eq_false hed]
        repeat (first|refine zJ rfl rfl ?_|refine jr rfl ?_|refine jn ?_|refine zM rfl rfl ?_|(refine zC rfl rfl ?_ rfl ?_;omega)|(refine zD rfl rfl ?_ rfl ?_;omega)|(refine zP rfl ?_ rfl ?_;omega)|refine zG rfl rfl rfl rfl ?_|(refine jdq rfl rfl ?_ ?_ ?_;kernel_rfl;kernel_rfl)|refine zB rfl rfl rfl (by repeat constructor) rfl ?_|refine zH .here rfl rfl rfl rfl ?_|refine zH (.there .here) rfl rfl rfl rfl ?_|refine zH (.there (.there .here)) rfl rfl rfl rfl ?_|refine zH (.there (.there (.there .here))) rfl rfl rfl rfl ?_|refine zH (.there (.there (.there (.there .here)))) rfl rfl rfl rfl ?_)
        refine oP (quorum_spec n (by omega) (by omega) F2) Try.call45 rfl rfl ?_
        by_cases hq : 2 * ((max n 1 - 1) / 3) + 1 - 1 ≤ (cntV ps q.d : Int) - 0
        · rw [decide_eq_true hq]
          repeat (first|refine zJ rfl rfl ?_|refine jr rfl ?_|refine jn ?_|refine zM rfl rfl ?_|(refine zC rfl rfl ?_ rfl ?_;omega)|(refine zD rfl rfl ?_ rfl ?_;omega)|(refine zP rfl ?_ rfl ?_;omega)|refine zG rfl rfl rfl rfl ?_|(refine jdq rfl rfl ?_ ?_ ?_;kernel_rfl;kernel_rfl)|refine zB rfl rfl rfl (by repeat constructor) rfl ?_|refine zH .here rfl rfl rfl rfl ?_|refine zH (.there .here) rfl rfl rfl rfl ?_|refine zH (.there (.there .here)) rfl rfl rfl rfl ?_|refine zH (.there (.there (.there .here))) rfl rfl rfl rfl ?_|refine zH (.there (.there (.there (.there .here)))) rfl rfl rfl rfl ?_)
          exact J_retv rfl (.tmp rfl .nil) _ (fun w t => t.drop.pm 7 [3, 0, 1, 2, 4, 5, 6] rfl rfl) hF ⟨rfl, rfl⟩
        · rw [decide_eq_false hq]
          repeat (first|refine zJ rfl rfl ?_|refine jr rfl ?_|refine jn ?_|refine zM rfl rfl ?_|(refine zC rfl rfl ?_ rfl ?_;omega)|(refine zD rfl rfl ?_ rfl ?_;omega)|(refine zP rfl ?_ rfl ?_;omega)|refine zG rfl rfl rfl rfl ?_|(refine jdq rfl rfl ?_ ?_ ?_;kernel_rfl;kernel_rfl)|refine zB rfl rfl rfl (by repeat constructor) rfl ?_|refine zH .here rfl rfl rfl rfl ?_|refine zH (.there .here) rfl rfl rfl rfl ?_|refine zH (.there (.there .here)) rfl rfl rfl rfl ?_|refine zH (.there (.there (.there .here))) rfl rfl rfl rfl ?_|refine zH (.there (.there (.there (.there .here)))) rfl rfl rfl rfl ?_)
          exact J_retv rfl (.tmp rfl .nil) _ (fun w t => t.drop.pm 7 [3, 0, 1, 2, 4, 5, 6] rfl rfl) hF ⟨rfl, rfl⟩
end Go.Proofs.Ytdoaloimndehbaa
