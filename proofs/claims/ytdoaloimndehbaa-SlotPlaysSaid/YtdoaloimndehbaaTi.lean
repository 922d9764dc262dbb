/-
  The document's slot takes votes, and a proposal. Conditions are typed with each. (Printed by wip/gen/ti.py.)
-/
import Derived.Test.YtdoaloimndehbaaTh
namespace Go.Proofs.Ytdoaloimndehbaa
open Go.RowKit
set_option maxRecDepth 100000
theorem lay_bv (n : Int) (has : Bool) (d : Dg) (bv pv cv v : Value) : Lay (0 + 34) [v] (rsC n has d bv pv cv) (rsC n has d v pv cv) := by
  have h := layP (u8s d.1) (Lay.put Lay.nil : Lay 0 [v] [bv, pv, cv] [v, pv, cv])
  rw [dig_len] at h
  exact .skip (.skip h)
theorem lay_pv (n : Int) (has : Bool) (d : Dg) (bv pv cv v : Value) : Lay (0 + 35) [v] (rsC n has d bv pv cv) (rsC n has d bv v cv) := by
  have h := layP (u8s d.1) (Lay.skip (Lay.put Lay.nil) : Lay 1 [v] [bv, pv, cv] [bv, v, cv])
  rw [dig_len] at h
  exact .skip (.skip h)
theorem lay_cv (n : Int) (has : Bool) (d : Dg) (bv pv cv v : Value) : Lay (0 + 36) [v] (rsC n has d bv pv cv) (rsC n has d bv pv v) := by
  have h := layP (u8s d.1) (Lay.skip (Lay.skip (Lay.put Lay.nil)) : Lay 2 [v] [bv, pv, cv] [bv, pv, v])
  rw [dig_len] at h
  exact .skip (.skip h)
theorem lay_rd (n : Int) (has : Bool) (d e : Dg) (bv pv cv : Value) : Lay (0 + 2) (u8s e.1) (rsC n has d bv pv cv) (rsC n has e bv pv cv) := .skip (.skip (layM _ (by rw [dig_len, dig_len])))
set_option maxHeartbeats 8000000 in
theorem Prepare_spec (r : Nat) (n : Int) (has : Bool) (e : Dg) (bv pv cv : Value) (vs : Vts) (who : Int) (d : Dg) (F : PH) (h : Wrd F pv vs) (hn : vs.length ≤ 1000) :
    Spec Try.prog 19 [pT r, .int .i64 who, d.v] F [RS r n has e bv pv cv] fun u F' H' => ∃ v', u = .int .i64 (voteP n vs who d).1 ∧ Wrd F' v' (voteP n vs who d).2 ∧ H' = [RS r n has e bv v' cv] := by
  refine Spec.of3 Try.func19 rfl rfl fun X w0 => ?_
  dsimp only [List.cons_append, List.nil_append, pT]
  repeat (first|refine zJ rfl rfl ?_|refine jr rfl ?_|refine jn ?_|refine zM rfl rfl ?_|(refine zC rfl rfl ?_ rfl ?_;omega)|(refine zD rfl rfl ?_ rfl ?_;omega)|(refine zP rfl ?_ rfl ?_;omega)|refine zG rfl rfl rfl rfl ?_|(refine jdq rfl rfl ?_ ?_ ?_;kernel_rfl;kernel_rfl)|refine zB rfl rfl rfl (by repeat constructor) rfl ?_|refine zH .here rfl rfl rfl rfl ?_|refine zH (.there .here) rfl rfl rfl rfl ?_|refine zH (.there (.there .here)) rfl rfl rfl rfl ?_|refine zH (.there (.there (.there .here))) rfl rfl rfl rfl ?_|refine zH (.there (.there (.there (.there .here)))) rfl rfl rfl rfl ?_)
  refine oE (ev_box rfl .agg) rfl ?_; rintro _ _ _ _ ⟨rfl, b5, rfl, rfl⟩
  repeat (first|refine zJ rfl rfl ?_|refine jr rfl ?_|refine jn ?_|refine zM rfl rfl ?_|(refine zC rfl rfl ?_ rfl ?_;omega)|(refine zD rfl rfl ?_ rfl ?_;omega)|(refine zP rfl ?_ rfl ?_;omega)|refine zG rfl rfl rfl rfl ?_|(refine jdq rfl rfl ?_ ?_ ?_;kernel_rfl;kernel_rfl)|refine zB rfl rfl rfl (by repeat constructor) rfl ?_|refine zH .here rfl rfl rfl rfl ?_|refine zH (.there .here) rfl rfl rfl rfl ?_|refine zH (.there (.there .here)) rfl rfl rfl rfl ?_|refine zH (.there (.there (.there .here))) rfl rfl rfl rfl ?_|refine zH (.there (.there (.there (.there .here)))) rfl rfl rfl rfl ?_)
  refine ja PH.emp [] ?_ (fun w s => s.any) ?_; kernel_rfl
  refine aL (fun o => o.take 7) [7, 8, 9, 10, 11, 12] [0, 1, 2, 3, 4, 5, 6] 6 rfl ?_ ?_ ?_ ?_ ?_ ?_; kernel_rfl; kernel_rfl; kernel_rfl; kernel_rfl; kernel_rfl; dsimp only [List.take]
  repeat (first|refine zJ rfl rfl ?_|refine jr rfl ?_|refine jn ?_|refine zM rfl rfl ?_|(refine zC rfl rfl ?_ rfl ?_;omega)|(refine zD rfl rfl ?_ rfl ?_;omega)|(refine zP rfl ?_ rfl ?_;omega)|refine zG rfl rfl rfl rfl ?_|(refine jdq rfl rfl ?_ ?_ ?_;kernel_rfl;kernel_rfl)|refine zB rfl rfl rfl (by repeat constructor) rfl ?_|refine zH .here rfl rfl rfl rfl ?_|refine zH (.there .here) rfl rfl rfl rfl ?_|refine zH (.there (.there .here)) rfl rfl rfl rfl ?_|refine zH (.there (.there (.there .here))) rfl rfl rfl rfl ?_|refine zH (.there (.there (.there (.there .here)))) rfl rfl rfl rfl ?_)
  refine oS (ev_load (v := pv) rfl rfl (Rdb.ofB (n := 0) (.there .here) (rs_at n has e bv pv cv).2.1)) rfl ?_
  repeat (first|refine zJ rfl rfl ?_|refine jr rfl ?_|refine jn ?_|refine zM rfl rfl ?_|(refine zC rfl rfl ?_ rfl ?_;omega)|(refine zD rfl rfl ?_ rfl ?_;omega)|(refine zP rfl ?_ rfl ?_;omega)|refine zG rfl rfl rfl rfl ?_|(refine jdq rfl rfl ?_ ?_ ?_;kernel_rfl;kernel_rfl)|refine zB rfl rfl rfl (by repeat constructor) rfl ?_|refine zH .here rfl rfl rfl rfl ?_|refine zH (.there .here) rfl rfl rfl rfl ?_|refine zH (.there (.there .here)) rfl rfl rfl rfl ?_|refine zH (.there (.there (.there .here))) rfl rfl rfl rfl ?_|refine zH (.there (.there (.there (.there .here)))) rfl rfl rfl rfl ?_)
  refine oS (ev_ldD (.here) rfl (dig_all _)) rfl ?_
  refine jn ?_
  refine aR ?_
  refine aB (i := 7) (by kernel_rfl) (aC (Hc := [RS r n has e bv pv cv]) (Hr := blk b5 29 (u8s d.1) :: X) rfl (Vote_spec r n (.bool has :: (u8s e.1 ++ [bv, pv, cv])) pv vs who d F h hn) Try.call48 rfl rfl rfl (fun w t => t.pm 2 [1, 0] rfl rfl) (fun _ _ _ _ _ w t => t.any) ?_)
  rintro _ F1 _ hF1 ⟨v', rfl, hv', rfl⟩
  obtain ⟨_, a', c', rfl, _, _⟩ := id hv'
  refine aT 8 rfl (ev_qe rfl) rfl rfl ?_ ?_ ?_ ?_; kernel_rfl; kernel_rfl; kernel_rfl
  refine aT 9 rfl (ev_qe rfl) rfl rfl ?_ ?_ ?_ ?_; kernel_rfl; kernel_rfl; kernel_rfl
  refine aT 10 rfl (ev_qe rfl) rfl rfl ?_ ?_ ?_ ?_; kernel_rfl; kernel_rfl; kernel_rfl
  refine aT 11 rfl (ev_qe rfl) rfl rfl ?_ ?_ ?_ ?_; kernel_rfl; kernel_rfl; kernel_rfl
  refine aT 12 rfl (ev_qe rfl) rfl rfl ?_ ?_ ?_ ?_; kernel_rfl; kernel_rfl; kernel_rfl
  refine aD (by kernel_rfl) ?_
  repeat (first|refine zJ rfl rfl ?_|refine jr rfl ?_|refine jn ?_|refine zM rfl rfl ?_|(refine zC rfl rfl ?_ rfl ?_;omega)|(refine zD rfl rfl ?_ rfl ?_;omega)|(refine zP rfl ?_ rfl ?_;omega)|refine zG rfl rfl rfl rfl ?_|(refine jdq rfl rfl ?_ ?_ ?_;kernel_rfl;kernel_rfl)|refine zB rfl rfl rfl (by repeat constructor) rfl ?_|refine zH .here rfl rfl rfl rfl ?_|refine zH (.there .here) rfl rfl rfl rfl ?_|refine zH (.there (.there .here)) rfl rfl rfl rfl ?_|refine zH (.there (.there (.there .here))) rfl rfl rfl rfl ?_|refine zH (.there (.there (.there (.there .here)))) rfl rfl rfl rfl ?_)
  refine oN (ev_store (b := r) (off := 0 + 35) (vs := [.slice a' (voteP n vs who d).2.length c']) rfl rfl (by constructor) rfl rfl (lay_pv n has e bv pv cv _) (ones_cons rfl ones_nil) .here) rfl ?_
  rintro _ _ _ _ ⟨rfl, _, rfl⟩
  repeat (first|refine zJ rfl rfl ?_|refine jr rfl ?_|refine jn ?_|refine zM rfl rfl ?_|(refine zC rfl rfl ?_ rfl ?_;omega)|(refine zD rfl rfl ?_ rfl ?_;omega)|(refine zP rfl ?_ rfl ?_;omega)|refine zG rfl rfl rfl rfl ?_|(refine jdq rfl rfl ?_ ?_ ?_;kernel_rfl;kernel_rfl)|refine zB rfl rfl rfl (by repeat constructor) rfl ?_|refine zH .here rfl rfl rfl rfl ?_|refine zH (.there .here) rfl rfl rfl rfl ?_|refine zH (.there (.there .here)) rfl rfl rfl rfl ?_|refine zH (.there (.there (.there .here))) rfl rfl rfl rfl ?_|refine zH (.there (.there (.there (.there .here)))) rfl rfl rfl rfl ?_)
  exact J_retv rfl (.tmp rfl .nil) [_] (fun w t => (t.pm 2 [1, 0] rfl rfl).drop) hF1 ⟨_, rfl, hv', rfl⟩
set_option maxHeartbeats 8000000 in
theorem Commit_spec (r : Nat) (n : Int) (has : Bool) (e : Dg) (bv pv cv : Value) (vs : Vts) (who : Int) (d : Dg) (F : PH) (h : Wrd F cv vs) (hn : vs.length ≤ 1000) :
    Spec Try.prog 20 [pT r, .int .i64 who, d.v] F [RS r n has e bv pv cv] fun u F' H' => ∃ v', u = .int .i64 (voteP n vs who d).1 ∧ Wrd F' v' (voteP n vs who d).2 ∧ H' = [RS r n has e bv pv v'] := by
  refine Spec.of3 Try.func20 rfl rfl fun X w0 => ?_
  dsimp only [List.cons_append, List.nil_append, pT]
  repeat (first|refine zJ rfl rfl ?_|refine jr rfl ?_|refine jn ?_|refine zM rfl rfl ?_|(refine zC rfl rfl ?_ rfl ?_;omega)|(refine zD rfl rfl ?_ rfl ?_;omega)|(refine zP rfl ?_ rfl ?_;omega)|refine zG rfl rfl rfl rfl ?_|(refine jdq rfl rfl ?_ ?_ ?_;kernel_rfl;kernel_rfl)|refine zB rfl rfl rfl (by repeat constructor) rfl ?_|refine zH .here rfl rfl rfl rfl ?_|refine zH (.there .here) rfl rfl rfl rfl ?_|refine zH (.there (.there .here)) rfl rfl rfl rfl ?_|refine zH (.there (.there (.there .here))) rfl rfl rfl rfl ?_|refine zH (.there (.there (.there (.there .here)))) rfl rfl rfl rfl ?_)
  refine oE (ev_box rfl .agg) rfl ?_; rintro _ _ _ _ ⟨rfl, b5, rfl, rfl⟩
  repeat (first|refine zJ rfl rfl ?_|refine jr rfl ?_|refine jn ?_|refine zM rfl rfl ?_|(refine zC rfl rfl ?_ rfl ?_;omega)|(refine zD rfl rfl ?_ rfl ?_;omega)|(refine zP rfl ?_ rfl ?_;omega)|refine zG rfl rfl rfl rfl ?_|(refine jdq rfl rfl ?_ ?_ ?_;kernel_rfl;kernel_rfl)|refine zB rfl rfl rfl (by repeat constructor) rfl ?_|refine zH .here rfl rfl rfl rfl ?_|refine zH (.there .here) rfl rfl rfl rfl ?_|refine zH (.there (.there .here)) rfl rfl rfl rfl ?_|refine zH (.there (.there (.there .here))) rfl rfl rfl rfl ?_|refine zH (.there (.there (.there (.there .here)))) rfl rfl rfl rfl ?_)
  refine ja PH.emp [] ?_ (fun w s => s.any) ?_; kernel_rfl
  refine aL (fun o => o.take 7) [7, 8, 9, 10, 11, 12] [0, 1, 2, 3, 4, 5, 6] 6 rfl ?_ ?_ ?_ ?_ ?_ ?_; kernel_rfl; kernel_rfl; kernel_rfl; kernel_rfl; kernel_rfl; dsimp only [List.take]
  repeat (first|refine zJ rfl rfl ?_|refine jr rfl ?_|refine jn ?_|refine zM rfl rfl ?_|(refine zC rfl rfl ?_ rfl ?_;omega)|(refine zD rfl rfl ?_ rfl ?_;omega)|(refine zP rfl ?_ rfl ?_;omega)|refine zG rfl rfl rfl rfl ?_|(refine jdq rfl rfl ?_ ?_ ?_;kernel_rfl;kernel_rfl)|refine zB rfl rfl rfl (by repeat constructor) rfl ?_|refine zH .here rfl rfl rfl rfl ?_|refine zH (.there .here) rfl rfl rfl rfl ?_|refine zH (.there (.there .here)) rfl rfl rfl rfl ?_|refine zH (.there (.there (.there .here))) rfl rfl rfl rfl ?_|refine zH (.there (.there (.there (.there .here)))) rfl rfl rfl rfl ?_)
  refine oS (ev_load (v := cv) rfl rfl (Rdb.ofB (n := 0) (.there .here) (rs_at n has e bv pv cv).2.2.1)) rfl ?_
  repeat (first|refine zJ rfl rfl ?_|refine jr rfl ?_|refine jn ?_|refine zM rfl rfl ?_|(refine zC rfl rfl ?_ rfl ?_;omega)|(refine zD rfl rfl ?_ rfl ?_;omega)|(refine zP rfl ?_ rfl ?_;omega)|refine zG rfl rfl rfl rfl ?_|(refine jdq rfl rfl ?_ ?_ ?_;kernel_rfl;kernel_rfl)|refine zB rfl rfl rfl (by repeat constructor) rfl ?_|refine zH .here rfl rfl rfl rfl ?_|refine zH (.there .here) rfl rfl rfl rfl ?_|refine zH (.there (.there .here)) rfl rfl rfl rfl ?_|refine zH (.there (.there (.there .here))) rfl rfl rfl rfl ?_|refine zH (.there (.there (.there (.there .here)))) rfl rfl rfl rfl ?_)
  refine oS (ev_ldD (.here) rfl (dig_all _)) rfl ?_
  refine jn ?_
  refine aR ?_
  refine aB (i := 7) (by kernel_rfl) (aC (Hc := [RS r n has e bv pv cv]) (Hr := blk b5 29 (u8s d.1) :: X) rfl (Vote_spec r n (.bool has :: (u8s e.1 ++ [bv, pv, cv])) cv vs who d F h hn) Try.call48 rfl rfl rfl (fun w t => t.pm 2 [1, 0] rfl rfl) (fun _ _ _ _ _ w t => t.any) ?_)
  rintro _ F1 _ hF1 ⟨v', rfl, hv', rfl⟩
  obtain ⟨_, a', c', rfl, _, _⟩ := id hv'
  refine aT 8 rfl (ev_qe rfl) rfl rfl ?_ ?_ ?_ ?_; kernel_rfl; kernel_rfl; kernel_rfl
  refine aT 9 rfl (ev_qe rfl) rfl rfl ?_ ?_ ?_ ?_; kernel_rfl; kernel_rfl; kernel_rfl
  refine aT 10 rfl (ev_qe rfl) rfl rfl ?_ ?_ ?_ ?_; kernel_rfl; kernel_rfl; kernel_rfl
  refine aT 11 rfl (ev_qe rfl) rfl rfl ?_ ?_ ?_ ?_; kernel_rfl; kernel_rfl; kernel_rfl
  refine aT 12 rfl (ev_qe rfl) rfl rfl ?_ ?_ ?_ ?_; kernel_rfl; kernel_rfl; kernel_rfl
  refine aD (by kernel_rfl) ?_
  repeat (first|refine zJ rfl rfl ?_|refine jr rfl ?_|refine jn ?_|refine zM rfl rfl ?_|(refine zC rfl rfl ?_ rfl ?_;omega)|(refine zD rfl rfl ?_ rfl ?_;omega)|(refine zP rfl ?_ rfl ?_;omega)|refine zG rfl rfl rfl rfl ?_|(refine jdq rfl rfl ?_ ?_ ?_;kernel_rfl;kernel_rfl)|refine zB rfl rfl rfl (by repeat constructor) rfl ?_|refine zH .here rfl rfl rfl rfl ?_|refine zH (.there .here) rfl rfl rfl rfl ?_|refine zH (.there (.there .here)) rfl rfl rfl rfl ?_|refine zH (.there (.there (.there .here))) rfl rfl rfl rfl ?_|refine zH (.there (.there (.there (.there .here)))) rfl rfl rfl rfl ?_)
  refine oN (ev_store (b := r) (off := 0 + 36) (vs := [.slice a' (voteP n vs who d).2.length c']) rfl rfl (by constructor) rfl rfl (lay_cv n has e bv pv cv _) (ones_cons rfl ones_nil) .here) rfl ?_
  rintro _ _ _ _ ⟨rfl, _, rfl⟩
  repeat (first|refine zJ rfl rfl ?_|refine jr rfl ?_|refine jn ?_|refine zM rfl rfl ?_|(refine zC rfl rfl ?_ rfl ?_;omega)|(refine zD rfl rfl ?_ rfl ?_;omega)|(refine zP rfl ?_ rfl ?_;omega)|refine zG rfl rfl rfl rfl ?_|(refine jdq rfl rfl ?_ ?_ ?_;kernel_rfl;kernel_rfl)|refine zB rfl rfl rfl (by repeat constructor) rfl ?_|refine zH .here rfl rfl rfl rfl ?_|refine zH (.there .here) rfl rfl rfl rfl ?_|refine zH (.there (.there .here)) rfl rfl rfl rfl ?_|refine zH (.there (.there (.there .here))) rfl rfl rfl rfl ?_|refine zH (.there (.there (.there (.there .here)))) rfl rfl rfl rfl ?_)
  exact J_retv rfl (.tmp rfl .nil) [_] (fun w t => (t.pm 2 [1, 0] rfl rfl).drop) hF1 ⟨_, rfl, hv', rfl⟩
/-- What is proposed, in the document's slot. -/
def DO (F : PH) (o : Option Pr) (has : Bool) (d : Dg) (bv : Value) : Prop := match o with
  | none => has = false ∧ d = zDg ∧ bv = .slice none 0 0
  | some q => has = true ∧ d = q.d ∧ SliceV F 8 bv q.n q.cs
theorem DO.mono {F G : PH} {o : Option Pr} {has : Bool} {d : Dg} {bv : Value} (h : DO F o has d bv) (hl : F.le G) : DO G o has d bv := by
  cases o with
  | none => exact h
  | some q => exact ⟨h.1, h.2.1, h.2.2.mono hl⟩
set_option maxHeartbeats 8000000 in
theorem Propose_spec (r : Nat) (n : Int) (o : Option Pr) (has : Bool) (e : Dg) (bv pv cv : Value) (d : Dg) (v u0 : Value) (m : Nat) (es : List Value) (F : PH) (ho : DO F o has e bv) (h : SliceV F 8 v m es) (h1 : Ones es) (hn : m ≤ 1000) :
    Spec Try.prog 18 [pT r, d.v, v] F [RS r n has e bv pv cv] fun u F' H' => ∃ has' e' bv', u = .int .i64 (propC o d) ∧ DO F' (propO o d u0 m es) has' e' bv' ∧ H' = [RS r n has' e' bv' pv cv] := by
  refine Spec.of3 Try.func18 rfl rfl fun X w0 => ?_
  dsimp only [List.cons_append, List.nil_append, pT]
  repeat (first|refine zJ rfl rfl ?_|refine jr rfl ?_|refine jn ?_|refine zM rfl rfl ?_|(refine zC rfl rfl ?_ rfl ?_;omega)|(refine zD rfl rfl ?_ rfl ?_;omega)|(refine zP rfl ?_ rfl ?_;omega)|refine zG rfl rfl rfl rfl ?_|(refine jdq rfl rfl ?_ ?_ ?_;kernel_rfl;kernel_rfl)|refine zB rfl rfl rfl (by repeat constructor) rfl ?_|refine zH .here rfl rfl rfl rfl ?_|refine zH (.there .here) rfl rfl rfl rfl ?_|refine zH (.there (.there .here)) rfl rfl rfl rfl ?_|refine zH (.there (.there (.there .here))) rfl rfl rfl rfl ?_|refine zH (.there (.there (.there (.there .here)))) rfl rfl rfl rfl ?_)
  refine oE (ev_box rfl .agg) rfl ?_; rintro _ _ _ _ ⟨rfl, b4, rfl, rfl⟩
  cases o with
  | some q =>
    obtain ⟨rfl, rfl, hb⟩ := ho
    repeat (first|refine zJ rfl rfl ?_|refine jr rfl ?_|refine jn ?_|refine zM rfl rfl ?_|(refine zC rfl rfl ?_ rfl ?_;omega)|(refine zD rfl rfl ?_ rfl ?_;omega)|(refine zP rfl ?_ rfl ?_;omega)|refine zG rfl rfl rfl rfl ?_|(refine jdq rfl rfl ?_ ?_ ?_;kernel_rfl;kernel_rfl)|refine zB rfl rfl rfl (by repeat constructor) rfl ?_|refine zH .here rfl rfl rfl rfl ?_|refine zH (.there .here) rfl rfl rfl rfl ?_|refine zH (.there (.there .here)) rfl rfl rfl rfl ?_|refine zH (.there (.there (.there .here))) rfl rfl rfl rfl ?_|refine zH (.there (.there (.there (.there .here)))) rfl rfl rfl rfl ?_)
    refine oS (ev_ldD (d := q.d) (.there .here) rfl (rs_at n true q.d bv pv cv).2.2.2) rfl ?_
    refine oS (ev_ldD (.here) rfl (dig_all _)) rfl ?_
    refine oS (ev_eqD (d := q.d) (e := d) rfl rfl) rfl ?_
    unfold propC propO
    dsimp only
    by_cases hed : q.d = d
    · rw [if_pos hed, decide_eq_true hed]
      repeat (first|refine zJ rfl rfl ?_|refine jr rfl ?_|refine jn ?_|refine zM rfl rfl ?_|(refine zC rfl rfl ?_ rfl ?_;omega)|(refine zD rfl rfl ?_ rfl ?_;omega)|(refine zP rfl ?_ rfl ?_;omega)|refine zG rfl rfl rfl rfl ?_|(refine jdq rfl rfl ?_ ?_ ?_;kernel_rfl;kernel_rfl)|refine zB rfl rfl rfl (by repeat constructor) rfl ?_|refine zH .here rfl rfl rfl rfl ?_|refine zH (.there .here) rfl rfl rfl rfl ?_|refine zH (.there (.there .here)) rfl rfl rfl rfl ?_|refine zH (.there (.there (.there .here))) rfl rfl rfl rfl ?_|refine zH (.there (.there (.there (.there .here)))) rfl rfl rfl rfl ?_)
      exact J_retv rfl (.tmp rfl .nil) [_] (fun w t => t.drop) (PH.ler _) ⟨_, _, _, rfl, ⟨rfl, rfl, hb⟩, rfl⟩
    · rw [if_neg hed, decide_eq_false hed]
      repeat (first|refine zJ rfl rfl ?_|refine jr rfl ?_|refine jn ?_|refine zM rfl rfl ?_|(refine zC rfl rfl ?_ rfl ?_;omega)|(refine zD rfl rfl ?_ rfl ?_;omega)|(refine zP rfl ?_ rfl ?_;omega)|refine zG rfl rfl rfl rfl ?_|(refine jdq rfl rfl ?_ ?_ ?_;kernel_rfl;kernel_rfl)|refine zB rfl rfl rfl (by repeat constructor) rfl ?_|refine zH .here rfl rfl rfl rfl ?_|refine zH (.there .here) rfl rfl rfl rfl ?_|refine zH (.there (.there .here)) rfl rfl rfl rfl ?_|refine zH (.there (.there (.there .here))) rfl rfl rfl rfl ?_|refine zH (.there (.there (.there (.there .here)))) rfl rfl rfl rfl ?_)
      exact J_retv rfl (.tmp rfl .nil) [_] (fun w t => t.drop) (PH.ler _) ⟨_, _, _, rfl, ⟨rfl, rfl, hb⟩, rfl⟩
  | none =>
    obtain ⟨rfl, rfl, rfl⟩ := ho
    obtain ⟨_, a, c, rfl, _, _⟩ := id h
    repeat (first|refine zJ rfl rfl ?_|refine jr rfl ?_|refine jn ?_|refine zM rfl rfl ?_|(refine zC rfl rfl ?_ rfl ?_;omega)|(refine zD rfl rfl ?_ rfl ?_;omega)|(refine zP rfl ?_ rfl ?_;omega)|refine zG rfl rfl rfl rfl ?_|(refine jdq rfl rfl ?_ ?_ ?_;kernel_rfl;kernel_rfl)|refine zB rfl rfl rfl (by repeat constructor) rfl ?_|refine zH .here rfl rfl rfl rfl ?_|refine zH (.there .here) rfl rfl rfl rfl ?_|refine zH (.there (.there .here)) rfl rfl rfl rfl ?_|refine zH (.there (.there (.there .here))) rfl rfl rfl rfl ?_|refine zH (.there (.there (.there (.there .here)))) rfl rfl rfl rfl ?_)
    refine ja F [blk b4 29 (u8s d.1)] ?_ (fun w t => t.head) ?_; kernel_rfl
    refine aT 0 rfl (ev_qe rfl) rfl rfl ?_ ?_ ?_ ?_; kernel_rfl; kernel_rfl; kernel_rfl
    refine aT 1 rfl (ev_qe rfl) rfl rfl ?_ ?_ ?_ ?_; kernel_rfl; kernel_rfl; kernel_rfl
    refine aT 2 rfl (ev_qe rfl) rfl rfl ?_ ?_ ?_ ?_; kernel_rfl; kernel_rfl; kernel_rfl
    refine aT 3 rfl (ev_ldD .here rfl (dig_all d)) rfl rfl ?_ ?_ ?_ ?_; kernel_rfl; kernel_rfl; kernel_rfl
    refine aT 5 rfl (ev_qe rfl) rfl rfl ?_ ?_ ?_ ?_; kernel_rfl; kernel_rfl; kernel_rfl
    refine aB (i := 4) (by kernel_rfl) (aE rfl (ev_mt elEt) rfl rfl (fun _ _ _ hF hq w t => by obtain ⟨rfl, _, rfl⟩ := hq; exact t.drop.head) ?_)
    rintro _ _ _ _ ⟨rfl, ⟨b0, rfl⟩, rfl⟩
    refine aB (i := 6) (by kernel_rfl) (aE rfl (ev_append_s (n := 0) (m := m) (xs := []) (news := es) (K := fun v' => own v' 101 8 m es :: blk b4 29 (u8s d.1) :: RS r n false zDg (.slice none 0 0) pv cv :: X) rfl rfl elEt h.rds h1 (by omega) (fun v' => by rw [Nat.zero_add, List.nil_append]; exact .here)) rfl rfl (fun _ _ _ hF hq w t => by obtain ⟨rfl, _, rfl⟩ := hq; exact t.drop.head) ?_)
    rintro u _ _ _ ⟨rfl, _, rfl⟩
    refine aPersist fun hh hA hd => ?_
    have hs := own_slice hA hd
    have hle := PH.le_l F hh
    generalize F.un hh = F1 at *
    obtain ⟨_, a', c', rfl, _, _⟩ := id hs
    refine aT 7 rfl (ev_qe rfl) rfl rfl ?_ ?_ ?_ ?_; kernel_rfl; kernel_rfl; kernel_rfl
    refine aT 8 rfl (ev_qe rfl) rfl rfl ?_ ?_ ?_ ?_; kernel_rfl; kernel_rfl; kernel_rfl
    refine aB (i := 9) (by kernel_rfl) (aN rfl (ev_store (b := r) (off := 0 + 1) (vs := [.bool true]) (s := rsC n true zDg (.slice none 0 0) pv cv) rfl rfl (by constructor) rfl rfl (.skip (.put .nil)) (ones_cons rfl ones_nil) (.there .here)) rfl (fun _ _ _ hF hq w t => by obtain ⟨rfl, _, rfl⟩ := hq; exact t.head.mono hle) ?_)
    rintro _ _ _ _ ⟨rfl, _, rfl⟩
    refine aT 10 rfl (ev_qe rfl) rfl rfl ?_ ?_ ?_ ?_; kernel_rfl; kernel_rfl; kernel_rfl
    refine aT 11 rfl (ev_qe rfl) rfl rfl ?_ ?_ ?_ ?_; kernel_rfl; kernel_rfl; kernel_rfl
    refine aB (i := 12) (by kernel_rfl) (aN rfl (ev_store (b := r) (off := 0 + 2) (vs := u8s d.1) rfl rfl .agg rfl (dig_len d) (lay_rd n true zDg d (.slice none 0 0) pv cv) (dig_ones d) (.there .here)) rfl (fun _ _ _ hF hq w t => by obtain ⟨rfl, _, rfl⟩ := hq; exact t.head.mono hle) ?_)
    rintro _ _ _ _ ⟨rfl, _, rfl⟩
    refine aT 13 rfl (ev_qe rfl) rfl rfl ?_ ?_ ?_ ?_; kernel_rfl; kernel_rfl; kernel_rfl
    refine aT 14 rfl (ev_qe rfl) rfl rfl ?_ ?_ ?_ ?_; kernel_rfl; kernel_rfl; kernel_rfl
    refine aB (i := 15) (by kernel_rfl) (aN rfl (ev_store (b := r) (off := 0 + 34) (vs := [.slice a' m c']) rfl rfl (by constructor) rfl rfl (lay_bv n true d (.slice none 0 0) pv cv _) (ones_cons rfl ones_nil) (.there .here)) rfl (fun _ _ _ hF hq w t => by obtain ⟨rfl, _, rfl⟩ := hq; exact t.head.mono hle) ?_)
    rintro _ _ _ _ ⟨rfl, _, rfl⟩
    refine aD (by kernel_rfl) ?_
    repeat (first|refine zJ rfl rfl ?_|refine jr rfl ?_|refine jn ?_|refine zM rfl rfl ?_|(refine zC rfl rfl ?_ rfl ?_;omega)|(refine zD rfl rfl ?_ rfl ?_;omega)|(refine zP rfl ?_ rfl ?_;omega)|refine zG rfl rfl rfl rfl ?_|(refine jdq rfl rfl ?_ ?_ ?_;kernel_rfl;kernel_rfl)|refine zB rfl rfl rfl (by repeat constructor) rfl ?_|refine zH .here rfl rfl rfl rfl ?_|refine zH (.there .here) rfl rfl rfl rfl ?_|refine zH (.there (.there .here)) rfl rfl rfl rfl ?_|refine zH (.there (.there (.there .here))) rfl rfl rfl rfl ?_|refine zH (.there (.there (.there (.there .here)))) rfl rfl rfl rfl ?_)
    exact J_retv rfl (.tmp rfl .nil) [_] (fun w t => t.drop) hle ⟨_, _, _, rfl, ⟨rfl, rfl, hs⟩, rfl⟩
end Go.Proofs.Ytdoaloimndehbaa
