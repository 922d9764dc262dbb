/-
  The document's slot: whether it is prepared, and committed; equal batches are the same. Conditions are typed with each.
-/
import Derived.Test.YtdoaloimndehbaaTi
import Derived.Test.YtdoaloimndehbaaTg
import Derived.Test.YtdoaloimndehbaaKz
namespace Go.Proofs.Ytdoaloimndehbaa
open Go.RowKit
set_option maxRecDepth 100000
/-- How many others vote for d. -/
def cntO (vs : Vts) (who : Int) (d : Dg) : Nat := (vs.filter fun p => decide (p.1 ≠ who) && decide (p.2 = d)).length
theorem cntO_take {vs : Vts} {i : Nat} {p : Int × Dg} (who : Int) (d : Dg) (hi : vs[i]? = some p) : cntO (vs.take (i + 1)) who d = cntO (vs.take i) who d + if decide (p.1 ≠ who) && decide (p.2 = d) then 1 else 0 := by
  unfold cntO
  rw [take_snc hi, List.filter_append, List.length_append]
  congr 1
  rw [List.filter_cons]
  split <;> simp_all
theorem cntV_take {vs : Vts} {i : Nat} {p : Int × Dg} (d : Dg) (hi : vs[i]? = some p) : cntV (vs.take (i + 1)) d = cntV (vs.take i) d + if p.2 = d then 1 else 0 := by
  rw [take_snc hi, cntV_append]
  congr 1
  unfold cntV
  rw [List.filter_cons]
  split <;> simp_all
theorem cntO_le (vs : Vts) (who : Int) (d : Dg) : cntO vs who d ≤ vs.length := List.length_filter_le _ _
/-- Each votes once. -/
def Uq (vs : Vts) : Prop := (vs.map (·.1)).Nodup
theorem hasV_none : ∀ {vs : Vts} {who : Int}, hasV vs who = none → who ∉ vs.map (·.1)
  | [], _, _ => by simp
  | (w, d) :: r, who, h => by
    rw [hasV] at h
    by_cases hw : who = w
    · rw [if_pos hw] at h; cases h
    · rw [if_neg hw] at h
      have := hasV_none h
      simp only [List.map_cons, List.mem_cons, not_or]
      exact ⟨hw, this⟩
theorem hasV_mem : ∀ {vs : Vts} {who : Int}, who ∉ vs.map (·.1) → hasV vs who = none
  | [], _, _ => rfl
  | (w, d) :: r, who, h => by
    simp only [List.map_cons, List.mem_cons, not_or] at h
    rw [hasV, if_neg h.1]
    exact hasV_mem h.2
theorem Uq.vote {vs : Vts} (h : Uq vs) (n who : Int) (d : Dg) : Uq (voteP n vs who d).2 := by
  unfold voteP
  split
  · exact h
  · cases hv : hasV vs who with
    | some e => exact h
    | none =>
      unfold Uq
      rw [List.map_append, List.nodup_append]
      refine ⟨h, by simp, fun a ha b hb => ?_⟩
      simp at hb
      subst hb
      exact fun e => hasV_none hv (e ▸ ha)
theorem vote_len (n : Int) (vs : Vts) (who : Int) (d : Dg) : (voteP n vs who d).2.length ≤ vs.length + 1 := by
  unfold voteP
  split
  · simp
  · cases hasV vs who <;> simp
/-- All but the primary: one less, if the primary votes so. -/
theorem cntO_eq : ∀ {vs : Vts} (who : Int) (d : Dg), Uq vs → (cntO vs who d : Int) = (cntV vs d : Int) - if hasV vs who = some d then 1 else 0
  | [], who, d, _ => by simp [cntO, cntV, hasV]
  | (w, e) :: r, who, d, h => by
    have hr : Uq r := (List.nodup_cons.1 h).2
    have hw : w ∉ r.map (·.1) := (List.nodup_cons.1 h).1
    have ih := cntO_eq who d hr
    unfold cntO cntV at ih ⊢
    rw [List.filter_cons, List.filter_cons, hasV]
    by_cases h1 : w = who
    · subst h1
      rw [hasV_mem hw] at ih
      rw [if_pos rfl]
      by_cases h2 : e = d
      · subst h2; simp at ih ⊢; omega
      · simp [h2] at ih ⊢; omega
    · rw [if_neg (show ¬ who = w from fun e => h1 e.symm)]
      by_cases h2 : e = d
      · subst h2; simp [h1] at ih ⊢; omega
      · simp [h1, h2] at ih ⊢; omega
/-- The document's answers. -/
def committedR (n : Int) (has : Bool) (d : Dg) (cs : Vts) : Bool := has && decide (2 * ((n - 1) / 3) < (cntV cs d : Int))
def preparedR (n : Int) (has : Bool) (d : Dg) (ps : Vts) (primary : Int) : Bool := has && decide (2 * ((n - 1) / 3) ≤ (cntO ps primary d : Int))
theorem committed_eq {n : Int} {o : Option Pr} {has : Bool} {d : Dg} {bv : Value} {F : PH} (h : DO F o has d bv) (h1 : 1 ≤ n) (cs : Vts) : committedR n has d cs = committedP n o cs := by
  unfold committedR committedP quoI
  cases o with
  | none => obtain ⟨rfl, _, _⟩ := h; rfl
  | some q =>
    obtain ⟨rfl, rfl, _⟩ := h
    rw [Bool.true_and, Bool.eq_iff_iff]
    simp only [decide_eq_true_eq]
    have : max n 1 = n := by omega
    rw [this]
    omega
theorem prepared_eq {n : Int} {o : Option Pr} {has : Bool} {d : Dg} {bv : Value} {F : PH} (h : DO F o has d bv) (h1 : 1 ≤ n) {ps : Vts} (hu : Uq ps) (primary : Int) : preparedR n has d ps primary = preparedP n o ps primary := by
  unfold preparedR preparedP quoI
  cases o with
  | none => obtain ⟨rfl, _, _⟩ := h; rfl
  | some q =>
    obtain ⟨rfl, rfl, _⟩ := h
    rw [Bool.true_and, Bool.eq_iff_iff, cntO_eq primary q.d hu]
    simp only [decide_eq_true_eq]
    have : max n 1 = n := by omega
    rw [this]
    omega
set_option maxHeartbeats 8000000 in
theorem Committed_spec (r : Nat) (n : Int) (has : Bool) (e : Dg) (bv pv cv : Value) (cs : Vts) (F : PH) (h : Wrd F cv cs) (hn : cs.length ≤ 1000) (h1 : 1 ≤ n) (h7 : n ≤ 7) :
    Spec Try.prog 23 [pT r] F [RS r n has e bv pv cv] fun u F' H' => u = .bool (committedR n has e cs) ∧ H' = [RS r n has e bv pv cv] := by
  refine Spec.of1 Try.func23 rfl rfl fun X w0 => ?_
  obtain ⟨_, a, c, rfl, _, _⟩ := id h
  dsimp only [List.cons_append, List.nil_append, pT]
  repeat (first|refine zJ rfl rfl ?_|refine jr rfl ?_|refine jn ?_|refine zM rfl rfl ?_|(refine zC rfl rfl ?_ rfl ?_;omega)|(refine zD rfl rfl ?_ rfl ?_;omega)|(refine zP rfl ?_ rfl ?_;omega)|refine zG rfl rfl rfl rfl ?_|(refine jdq rfl rfl ?_ ?_ ?_;kernel_rfl;kernel_rfl)|refine zB rfl rfl rfl (by repeat constructor) rfl ?_|refine zH .here rfl rfl rfl rfl ?_|refine zH (.there .here) rfl rfl rfl rfl ?_|refine zH (.there (.there .here)) rfl rfl rfl rfl ?_|refine zH (.there (.there (.there .here))) rfl rfl rfl rfl ?_|refine zH (.there (.there (.there (.there .here)))) rfl rfl rfl rfl ?_)
  refine oS (ev_load (v := .slice a cs.length c) rfl rfl (Rdb.ofB (n := 0) .here (rs_at n has e bv pv _).2.2.1)) rfl ?_
  repeat (first|refine zJ rfl rfl ?_|refine jr rfl ?_|refine jn ?_|refine zM rfl rfl ?_|(refine zC rfl rfl ?_ rfl ?_;omega)|(refine zD rfl rfl ?_ rfl ?_;omega)|(refine zP rfl ?_ rfl ?_;omega)|refine zG rfl rfl rfl rfl ?_|(refine jdq rfl rfl ?_ ?_ ?_;kernel_rfl;kernel_rfl)|refine zB rfl rfl rfl (by repeat constructor) rfl ?_|refine zH .here rfl rfl rfl rfl ?_|refine zH (.there .here) rfl rfl rfl rfl ?_|refine zH (.there (.there .here)) rfl rfl rfl rfl ?_|refine zH (.there (.there (.there .here))) rfl rfl rfl rfl ?_|refine zH (.there (.there (.there (.there .here)))) rfl rfl rfl rfl ?_)
  refine J_loop (ι := Nat) (fun i => i ≤ cs.length) (fun i => cs.length - i) (fun i => [(0, .pointer (some ⟨r, 0, none⟩)), (2, .bool false), (3, .int .i64 (cntV (cs.take i) e)), (9, .slice a cs.length c), (10, .int .i64 cs.length), (11, .int .i64 i)]) (fun _ => F) (fun _ => RS r n has e bv pv (.slice a cs.length c) :: X) 0 (Nat.zero_le _) ⟨⟨rfl, rfl, rfl, rfl, rfl, rfl, trivial⟩, fun w s => s⟩ ?_
  intro i hi
  by_cases hlt : i < cs.length
  · have hg : cs[i]? = some cs[i] := List.getElem?_eq_getElem hlt
    obtain ⟨b, off, rfl, hcc⟩ := h.at hg
    have htk := cntV_take e hg
    have hcl := Nat.le_trans (cntV_le (cs.take i) e) (by rw [List.length_take]; omega : (cs.take i).length ≤ i)
    generalize cs[i] = p at *
    have hl1 := wC_len p
    have ho1 := wC_ones p
    have hd1 := wC_dig p
    repeat (first|refine zJ rfl rfl ?_|refine jr rfl ?_|refine jn ?_|refine zM rfl rfl ?_|(refine zC rfl rfl ?_ rfl ?_;omega)|(refine zD rfl rfl ?_ rfl ?_;omega)|(refine zP rfl ?_ rfl ?_;omega)|refine zG rfl rfl rfl rfl ?_|(refine jdq rfl rfl ?_ ?_ ?_;kernel_rfl;kernel_rfl)|refine zB rfl rfl rfl (by repeat constructor) rfl ?_|refine zH .here rfl rfl rfl rfl ?_|refine zH (.there .here) rfl rfl rfl rfl ?_|refine zH (.there (.there .here)) rfl rfl rfl rfl ?_|refine zH (.there (.there (.there .here))) rfl rfl rfl rfl ?_|refine zH (.there (.there (.there (.there .here)))) rfl rfl rfl rfl ?_)
    refine oS (ev_indexAddr (i := i) rfl rfl rfl hlt) rfl ?_
    refine oS (ev_load_agg (cs := wC p) rfl rfl (Rdb.ofF hcc) hl1) rfl ?_
    refine oE (ev_alloc (cs := wC (0, zDg)) rfl) rfl ?_
    rintro _ _ _ _ ⟨rfl, b11, rfl, rfl⟩
    refine oN (ev_store rfl rfl .agg rfl hl1 (lay_all (by rw [hl1]; rfl)) ho1 .here) rfl ?_
    rintro _ _ _ _ ⟨rfl, _, rfl⟩
    repeat (first|refine zJ rfl rfl ?_|refine jr rfl ?_|refine jn ?_|refine zM rfl rfl ?_|(refine zC rfl rfl ?_ rfl ?_;omega)|(refine zD rfl rfl ?_ rfl ?_;omega)|(refine zP rfl ?_ rfl ?_;omega)|refine zG rfl rfl rfl rfl ?_|(refine jdq rfl rfl ?_ ?_ ?_;kernel_rfl;kernel_rfl)|refine zB rfl rfl rfl (by repeat constructor) rfl ?_|refine zH .here rfl rfl rfl rfl ?_|refine zH (.there .here) rfl rfl rfl rfl ?_|refine zH (.there (.there .here)) rfl rfl rfl rfl ?_|refine zH (.there (.there (.there .here))) rfl rfl rfl rfl ?_|refine zH (.there (.there (.there (.there .here)))) rfl rfl rfl rfl ?_)
    refine oS (ev_ldD (d := p.2) .here rfl hd1) rfl ?_
    repeat (first|refine zJ rfl rfl ?_|refine jr rfl ?_|refine jn ?_|refine zM rfl rfl ?_|(refine zC rfl rfl ?_ rfl ?_;omega)|(refine zD rfl rfl ?_ rfl ?_;omega)|(refine zP rfl ?_ rfl ?_;omega)|refine zG rfl rfl rfl rfl ?_|(refine jdq rfl rfl ?_ ?_ ?_;kernel_rfl;kernel_rfl)|refine zB rfl rfl rfl (by repeat constructor) rfl ?_|refine zH .here rfl rfl rfl rfl ?_|refine zH (.there .here) rfl rfl rfl rfl ?_|refine zH (.there (.there .here)) rfl rfl rfl rfl ?_|refine zH (.there (.there (.there .here))) rfl rfl rfl rfl ?_|refine zH (.there (.there (.there (.there .here)))) rfl rfl rfl rfl ?_)
    refine oS (ev_ldD (d := e) (.there .here) rfl (rs_at n has e bv pv _).2.2.2) rfl ?_
    refine oS (ev_eqD (d := p.2) (e := e) rfl rfl) rfl ?_
    by_cases hed : p.2 = e
    · rw [if_pos hed] at htk
      rw [decide_eq_true hed]
      repeat (first|refine zJ rfl rfl ?_|refine jr rfl ?_|refine jn ?_|refine zM rfl rfl ?_|(refine zC rfl rfl ?_ rfl ?_;omega)|(refine zD rfl rfl ?_ rfl ?_;omega)|(refine zP rfl ?_ rfl ?_;omega)|refine zG rfl rfl rfl rfl ?_|(refine jdq rfl rfl ?_ ?_ ?_;kernel_rfl;kernel_rfl)|refine zB rfl rfl rfl (by repeat constructor) rfl ?_|refine zH .here rfl rfl rfl rfl ?_|refine zH (.there .here) rfl rfl rfl rfl ?_|refine zH (.there (.there .here)) rfl rfl rfl rfl ?_|refine zH (.there (.there (.there .here))) rfl rfl rfl rfl ?_|refine zH (.there (.there (.there (.there .here)))) rfl rfl rfl rfl ?_)
      refine J_again (i + 1) hlt (by omega) ⟨⟨rfl, rfl, by rw [htk]; rfl, rfl, rfl, rfl, trivial⟩, fun w s => s.drop⟩
    · rw [if_neg hed] at htk
      rw [decide_eq_false hed]
      repeat (first|refine zJ rfl rfl ?_|refine jr rfl ?_|refine jn ?_|refine zM rfl rfl ?_|(refine zC rfl rfl ?_ rfl ?_;omega)|(refine zD rfl rfl ?_ rfl ?_;omega)|(refine zP rfl ?_ rfl ?_;omega)|refine zG rfl rfl rfl rfl ?_|(refine jdq rfl rfl ?_ ?_ ?_;kernel_rfl;kernel_rfl)|refine zB rfl rfl rfl (by repeat constructor) rfl ?_|refine zH .here rfl rfl rfl rfl ?_|refine zH (.there .here) rfl rfl rfl rfl ?_|refine zH (.there (.there .here)) rfl rfl rfl rfl ?_|refine zH (.there (.there (.there .here))) rfl rfl rfl rfl ?_|refine zH (.there (.there (.there (.there .here)))) rfl rfl rfl rfl ?_)
      refine J_again (i + 1) hlt (by omega) ⟨⟨rfl, rfl, by rw [htk]; rfl, rfl, rfl, rfl, trivial⟩, fun w s => s.drop⟩
  obtain rfl : i = cs.length := by omega
  rw [List.take_length]
  have hcl := cntV_le cs e
  unfold committedR
  cases has with
  | false =>
    repeat (first|refine zJ rfl rfl ?_|refine jr rfl ?_|refine jn ?_|refine zM rfl rfl ?_|(refine zC rfl rfl ?_ rfl ?_;omega)|(refine zD rfl rfl ?_ rfl ?_;omega)|(refine zP rfl ?_ rfl ?_;omega)|refine zG rfl rfl rfl rfl ?_|(refine jdq rfl rfl ?_ ?_ ?_;kernel_rfl;kernel_rfl)|refine zB rfl rfl rfl (by repeat constructor) rfl ?_|refine zH .here rfl rfl rfl rfl ?_|refine zH (.there .here) rfl rfl rfl rfl ?_|refine zH (.there (.there .here)) rfl rfl rfl rfl ?_|refine zH (.there (.there (.there .here))) rfl rfl rfl rfl ?_|refine zH (.there (.there (.there (.there .here)))) rfl rfl rfl rfl ?_)
    exact J_retv rfl (.tmp rfl .nil) [_] (fun w t => t) (PH.ler _) ⟨rfl, rfl⟩
  | true =>
    repeat (first|refine zJ rfl rfl ?_|refine jr rfl ?_|refine jn ?_|refine zM rfl rfl ?_|(refine zC rfl rfl ?_ rfl ?_;omega)|(refine zD rfl rfl ?_ rfl ?_;omega)|(refine zP rfl ?_ rfl ?_;omega)|refine zG rfl rfl rfl rfl ?_|(refine jdq rfl rfl ?_ ?_ ?_;kernel_rfl;kernel_rfl)|refine zB rfl rfl rfl (by repeat constructor) rfl ?_|refine zH .here rfl rfl rfl rfl ?_|refine zH (.there .here) rfl rfl rfl rfl ?_|refine zH (.there (.there .here)) rfl rfl rfl rfl ?_|refine zH (.there (.there (.there .here))) rfl rfl rfl rfl ?_|refine zH (.there (.there (.there (.there .here)))) rfl rfl rfl rfl ?_)
    refine oP (Faults_spec n h1 h7 F) Try.call49 rfl rfl ?_
    by_cases hq : 2 * ((n - 1) / 3) < (cntV cs e : Int)
    · rw [decide_eq_true hq]
      repeat (first|refine zJ rfl rfl ?_|refine jr rfl ?_|refine jn ?_|refine zM rfl rfl ?_|(refine zC rfl rfl ?_ rfl ?_;omega)|(refine zD rfl rfl ?_ rfl ?_;omega)|(refine zP rfl ?_ rfl ?_;omega)|refine zG rfl rfl rfl rfl ?_|(refine jdq rfl rfl ?_ ?_ ?_;kernel_rfl;kernel_rfl)|refine zB rfl rfl rfl (by repeat constructor) rfl ?_|refine zH .here rfl rfl rfl rfl ?_|refine zH (.there .here) rfl rfl rfl rfl ?_|refine zH (.there (.there .here)) rfl rfl rfl rfl ?_|refine zH (.there (.there (.there .here))) rfl rfl rfl rfl ?_|refine zH (.there (.there (.there (.there .here)))) rfl rfl rfl rfl ?_)
      try rw [decide_eq_true hq]
      repeat (first|refine zJ rfl rfl ?_|refine jr rfl ?_|refine jn ?_|refine zM rfl rfl ?_|(refine zC rfl rfl ?_ rfl ?_;omega)|(refine zD rfl rfl ?_ rfl ?_;omega)|(refine zP rfl ?_ rfl ?_;omega)|refine zG rfl rfl rfl rfl ?_|(refine jdq rfl rfl ?_ ?_ ?_;kernel_rfl;kernel_rfl)|refine zB rfl rfl rfl (by repeat constructor) rfl ?_|refine zH .here rfl rfl rfl rfl ?_|refine zH (.there .here) rfl rfl rfl rfl ?_|refine zH (.there (.there .here)) rfl rfl rfl rfl ?_|refine zH (.there (.there (.there .here))) rfl rfl rfl rfl ?_|refine zH (.there (.there (.there (.there .here)))) rfl rfl rfl rfl ?_)
      exact J_retv rfl (.tmp rfl .nil) [_] (fun w t => t) (PH.ler _) ⟨rfl, rfl⟩
    · rw [decide_eq_false hq]
      repeat (first|refine zJ rfl rfl ?_|refine jr rfl ?_|refine jn ?_|refine zM rfl rfl ?_|(refine zC rfl rfl ?_ rfl ?_;omega)|(refine zD rfl rfl ?_ rfl ?_;omega)|(refine zP rfl ?_ rfl ?_;omega)|refine zG rfl rfl rfl rfl ?_|(refine jdq rfl rfl ?_ ?_ ?_;kernel_rfl;kernel_rfl)|refine zB rfl rfl rfl (by repeat constructor) rfl ?_|refine zH .here rfl rfl rfl rfl ?_|refine zH (.there .here) rfl rfl rfl rfl ?_|refine zH (.there (.there .here)) rfl rfl rfl rfl ?_|refine zH (.there (.there (.there .here))) rfl rfl rfl rfl ?_|refine zH (.there (.there (.there (.there .here)))) rfl rfl rfl rfl ?_)
      try rw [decide_eq_false hq]
      repeat (first|refine zJ rfl rfl ?_|refine jr rfl ?_|refine jn ?_|refine zM rfl rfl ?_|(refine zC rfl rfl ?_ rfl ?_;omega)|(refine zD rfl rfl ?_ rfl ?_;omega)|(refine zP rfl ?_ rfl ?_;omega)|refine zG rfl rfl rfl rfl ?_|(refine jdq rfl rfl ?_ ?_ ?_;kernel_rfl;kernel_rfl)|refine zB rfl rfl rfl (by repeat constructor) rfl ?_|refine zH .here rfl rfl rfl rfl ?_|refine zH (.there .here) rfl rfl rfl rfl ?_|refine zH (.there (.there .here)) rfl rfl rfl rfl ?_|refine zH (.there (.there (.there .here))) rfl rfl rfl rfl ?_|refine zH (.there (.there (.there (.there .here)))) rfl rfl rfl rfl ?_)
      exact J_retv rfl (.tmp rfl .nil) [_] (fun w t => t) (PH.ler _) ⟨rfl, rfl⟩
set_option maxHeartbeats 8000000 in
theorem Prepared_spec (r : Nat) (n : Int) (has : Bool) (e : Dg) (bv pv cv : Value) (ps : Vts) (primary : Int) (F : PH) (h : Wrd F pv ps) (hn : ps.length ≤ 1000) (h1 : 1 ≤ n) (h7 : n ≤ 7) :
    Spec Try.prog 22 [pT r, .int .i64 primary] F [RS r n has e bv pv cv] fun u _ H' => u = .bool (preparedR n has e ps primary) ∧ H' = [RS r n has e bv pv cv] := by
  refine Spec.of2 Try.func22 rfl rfl fun X w0 => ?_
  obtain ⟨_, a, c, rfl, _, _⟩ := id h
  dsimp only [List.cons_append, List.nil_append, pT]
  repeat (first|refine zJ rfl rfl ?_|refine jr rfl ?_|refine jn ?_|refine zM rfl rfl ?_|(refine zC rfl rfl ?_ rfl ?_;omega)|(refine zD rfl rfl ?_ rfl ?_;omega)|(refine zP rfl ?_ rfl ?_;omega)|refine zG rfl rfl rfl rfl ?_|(refine jdq rfl rfl ?_ ?_ ?_;kernel_rfl;kernel_rfl)|refine zB rfl rfl rfl (by repeat constructor) rfl ?_|refine zH .here rfl rfl rfl rfl ?_|refine zH (.there .here) rfl rfl rfl rfl ?_|refine zH (.there (.there .here)) rfl rfl rfl rfl ?_|refine zH (.there (.there (.there .here))) rfl rfl rfl rfl ?_|refine zH (.there (.there (.there (.there .here)))) rfl rfl rfl rfl ?_)
  refine oS (ev_load (v := .slice a ps.length c) rfl rfl (Rdb.ofB (n := 0) .here (rs_at n has e bv _ cv).2.1)) rfl ?_
  repeat (first|refine zJ rfl rfl ?_|refine jr rfl ?_|refine jn ?_|refine zM rfl rfl ?_|(refine zC rfl rfl ?_ rfl ?_;omega)|(refine zD rfl rfl ?_ rfl ?_;omega)|(refine zP rfl ?_ rfl ?_;omega)|refine zG rfl rfl rfl rfl ?_|(refine jdq rfl rfl ?_ ?_ ?_;kernel_rfl;kernel_rfl)|refine zB rfl rfl rfl (by repeat constructor) rfl ?_|refine zH .here rfl rfl rfl rfl ?_|refine zH (.there .here) rfl rfl rfl rfl ?_|refine zH (.there (.there .here)) rfl rfl rfl rfl ?_|refine zH (.there (.there (.there .here))) rfl rfl rfl rfl ?_|refine zH (.there (.there (.there (.there .here)))) rfl rfl rfl rfl ?_)
  refine J_loop (ι := Nat) (fun i => i ≤ ps.length) (fun i => ps.length - i) (fun i => [(0, .pointer (some ⟨r, 0, none⟩)), (1, .int .i64 primary), (4, .bool false), (5, .int .i64 (cntO (ps.take i) primary e)), (11, .slice a ps.length c), (12, .int .i64 ps.length), (13, .int .i64 i)]) (fun _ => F) (fun _ => RS r n has e bv (.slice a ps.length c) cv :: X) 0 (Nat.zero_le _) ⟨⟨rfl, rfl, rfl, rfl, rfl, rfl, rfl, trivial⟩, fun w s => s⟩ ?_
  intro i hi
  by_cases hlt : i < ps.length
  · have hg : ps[i]? = some ps[i] := List.getElem?_eq_getElem hlt
    obtain ⟨b, off, rfl, hcc⟩ := h.at hg
    have htk := cntO_take primary e hg
    have hcl := Nat.le_trans (cntO_le (ps.take i) primary e) (by rw [List.length_take]; omega : (ps.take i).length ≤ i)
    generalize ps[i] = p at *
    have hl1 := wC_len p
    have ho1 := wC_ones p
    have hd1 := wC_dig p
    repeat (first|refine zJ rfl rfl ?_|refine jr rfl ?_|refine jn ?_|refine zM rfl rfl ?_|(refine zC rfl rfl ?_ rfl ?_;omega)|(refine zD rfl rfl ?_ rfl ?_;omega)|(refine zP rfl ?_ rfl ?_;omega)|refine zG rfl rfl rfl rfl ?_|(refine jdq rfl rfl ?_ ?_ ?_;kernel_rfl;kernel_rfl)|refine zB rfl rfl rfl (by repeat constructor) rfl ?_|refine zH .here rfl rfl rfl rfl ?_|refine zH (.there .here) rfl rfl rfl rfl ?_|refine zH (.there (.there .here)) rfl rfl rfl rfl ?_|refine zH (.there (.there (.there .here))) rfl rfl rfl rfl ?_|refine zH (.there (.there (.there (.there .here)))) rfl rfl rfl rfl ?_)
    refine oS (ev_indexAddr (i := i) rfl rfl rfl hlt) rfl ?_
    refine oS (ev_load_agg (cs := wC p) rfl rfl (Rdb.ofF hcc) hl1) rfl ?_
    refine oE (ev_alloc (cs := wC (0, zDg)) rfl) rfl ?_
    rintro _ _ _ _ ⟨rfl, b11, rfl, rfl⟩
    refine oN (ev_store rfl rfl .agg rfl hl1 (lay_all (by rw [hl1]; rfl)) ho1 .here) rfl ?_
    rintro _ _ _ _ ⟨rfl, _, rfl⟩
    repeat (first|refine zJ rfl rfl ?_|refine jr rfl ?_|refine jn ?_|refine zM rfl rfl ?_|(refine zC rfl rfl ?_ rfl ?_;omega)|(refine zD rfl rfl ?_ rfl ?_;omega)|(refine zP rfl ?_ rfl ?_;omega)|refine zG rfl rfl rfl rfl ?_|(refine jdq rfl rfl ?_ ?_ ?_;kernel_rfl;kernel_rfl)|refine zB rfl rfl rfl (by repeat constructor) rfl ?_|refine zH .here rfl rfl rfl rfl ?_|refine zH (.there .here) rfl rfl rfl rfl ?_|refine zH (.there (.there .here)) rfl rfl rfl rfl ?_|refine zH (.there (.there (.there .here))) rfl rfl rfl rfl ?_|refine zH (.there (.there (.there (.there .here)))) rfl rfl rfl rfl ?_)
    by_cases hw : p.1 = primary
    · rw [if_neg (by simp [hw])] at htk
      rw [decide_eq_true hw]
      repeat (first|refine zJ rfl rfl ?_|refine jr rfl ?_|refine jn ?_|refine zM rfl rfl ?_|(refine zC rfl rfl ?_ rfl ?_;omega)|(refine zD rfl rfl ?_ rfl ?_;omega)|(refine zP rfl ?_ rfl ?_;omega)|refine zG rfl rfl rfl rfl ?_|(refine jdq rfl rfl ?_ ?_ ?_;kernel_rfl;kernel_rfl)|refine zB rfl rfl rfl (by repeat constructor) rfl ?_|refine zH .here rfl rfl rfl rfl ?_|refine zH (.there .here) rfl rfl rfl rfl ?_|refine zH (.there (.there .here)) rfl rfl rfl rfl ?_|refine zH (.there (.there (.there .here))) rfl rfl rfl rfl ?_|refine zH (.there (.there (.there (.there .here)))) rfl rfl rfl rfl ?_)
      refine J_again (i + 1) hlt (by omega) ⟨⟨rfl, rfl, rfl, by rw [htk]; rfl, rfl, rfl, rfl, trivial⟩, fun w s => s.drop⟩
    rw [decide_eq_false hw]
    repeat (first|refine zJ rfl rfl ?_|refine jr rfl ?_|refine jn ?_|refine zM rfl rfl ?_|(refine zC rfl rfl ?_ rfl ?_;omega)|(refine zD rfl rfl ?_ rfl ?_;omega)|(refine zP rfl ?_ rfl ?_;omega)|refine zG rfl rfl rfl rfl ?_|(refine jdq rfl rfl ?_ ?_ ?_;kernel_rfl;kernel_rfl)|refine zB rfl rfl rfl (by repeat constructor) rfl ?_|refine zH .here rfl rfl rfl rfl ?_|refine zH (.there .here) rfl rfl rfl rfl ?_|refine zH (.there (.there .here)) rfl rfl rfl rfl ?_|refine zH (.there (.there (.there .here))) rfl rfl rfl rfl ?_|refine zH (.there (.there (.there (.there .here)))) rfl rfl rfl rfl ?_)
    refine oS (ev_ldD (d := p.2) .here rfl hd1) rfl ?_
    repeat (first|refine zJ rfl rfl ?_|refine jr rfl ?_|refine jn ?_|refine zM rfl rfl ?_|(refine zC rfl rfl ?_ rfl ?_;omega)|(refine zD rfl rfl ?_ rfl ?_;omega)|(refine zP rfl ?_ rfl ?_;omega)|refine zG rfl rfl rfl rfl ?_|(refine jdq rfl rfl ?_ ?_ ?_;kernel_rfl;kernel_rfl)|refine zB rfl rfl rfl (by repeat constructor) rfl ?_|refine zH .here rfl rfl rfl rfl ?_|refine zH (.there .here) rfl rfl rfl rfl ?_|refine zH (.there (.there .here)) rfl rfl rfl rfl ?_|refine zH (.there (.there (.there .here))) rfl rfl rfl rfl ?_|refine zH (.there (.there (.there (.there .here)))) rfl rfl rfl rfl ?_)
    refine oS (ev_ldD (d := e) (.there .here) rfl (rs_at n has e bv _ cv).2.2.2) rfl ?_
    refine oS (ev_eqD (d := p.2) (e := e) rfl rfl) rfl ?_
    by_cases hed : p.2 = e
    · rw [if_pos (by simp [hw, hed])] at htk
      rw [decide_eq_true hed]
      repeat (first|refine zJ rfl rfl ?_|refine jr rfl ?_|refine jn ?_|refine zM rfl rfl ?_|(refine zC rfl rfl ?_ rfl ?_;omega)|(refine zD rfl rfl ?_ rfl ?_;omega)|(refine zP rfl ?_ rfl ?_;omega)|refine zG rfl rfl rfl rfl ?_|(refine jdq rfl rfl ?_ ?_ ?_;kernel_rfl;kernel_rfl)|refine zB rfl rfl rfl (by repeat constructor) rfl ?_|refine zH .here rfl rfl rfl rfl ?_|refine zH (.there .here) rfl rfl rfl rfl ?_|refine zH (.there (.there .here)) rfl rfl rfl rfl ?_|refine zH (.there (.there (.there .here))) rfl rfl rfl rfl ?_|refine zH (.there (.there (.there (.there .here)))) rfl rfl rfl rfl ?_)
      refine J_again (i + 1) hlt (by omega) ⟨⟨rfl, rfl, rfl, by rw [htk]; rfl, rfl, rfl, rfl, trivial⟩, fun w s => s.drop⟩
    · rw [if_neg (by simp [hed])] at htk
      rw [decide_eq_false hed]
      repeat (first|refine zJ rfl rfl ?_|refine jr rfl ?_|refine jn ?_|refine zM rfl rfl ?_|(refine zC rfl rfl ?_ rfl ?_;omega)|(refine zD rfl rfl ?_ rfl ?_;omega)|(refine zP rfl ?_ rfl ?_;omega)|refine zG rfl rfl rfl rfl ?_|(refine jdq rfl rfl ?_ ?_ ?_;kernel_rfl;kernel_rfl)|refine zB rfl rfl rfl (by repeat constructor) rfl ?_|refine zH .here rfl rfl rfl rfl ?_|refine zH (.there .here) rfl rfl rfl rfl ?_|refine zH (.there (.there .here)) rfl rfl rfl rfl ?_|refine zH (.there (.there (.there .here))) rfl rfl rfl rfl ?_|refine zH (.there (.there (.there (.there .here)))) rfl rfl rfl rfl ?_)
      refine J_again (i + 1) hlt (by omega) ⟨⟨rfl, rfl, rfl, by rw [htk]; rfl, rfl, rfl, rfl, trivial⟩, fun w s => s.drop⟩
  obtain rfl : i = ps.length := by omega
  rw [List.take_length]
  have hcl := cntO_le ps primary e
  unfold preparedR
  cases has with
  | false =>
    repeat (first|refine zJ rfl rfl ?_|refine jr rfl ?_|refine jn ?_|refine zM rfl rfl ?_|(refine zC rfl rfl ?_ rfl ?_;omega)|(refine zD rfl rfl ?_ rfl ?_;omega)|(refine zP rfl ?_ rfl ?_;omega)|refine zG rfl rfl rfl rfl ?_|(refine jdq rfl rfl ?_ ?_ ?_;kernel_rfl;kernel_rfl)|refine zB rfl rfl rfl (by repeat constructor) rfl ?_|refine zH .here rfl rfl rfl rfl ?_|refine zH (.there .here) rfl rfl rfl rfl ?_|refine zH (.there (.there .here)) rfl rfl rfl rfl ?_|refine zH (.there (.there (.there .here))) rfl rfl rfl rfl ?_|refine zH (.there (.there (.there (.there .here)))) rfl rfl rfl rfl ?_)
    exact J_retv rfl (.tmp rfl .nil) [_] (fun w t => t) (PH.ler _) ⟨rfl, rfl⟩
  | true =>
    repeat (first|refine zJ rfl rfl ?_|refine jr rfl ?_|refine jn ?_|refine zM rfl rfl ?_|(refine zC rfl rfl ?_ rfl ?_;omega)|(refine zD rfl rfl ?_ rfl ?_;omega)|(refine zP rfl ?_ rfl ?_;omega)|refine zG rfl rfl rfl rfl ?_|(refine jdq rfl rfl ?_ ?_ ?_;kernel_rfl;kernel_rfl)|refine zB rfl rfl rfl (by repeat constructor) rfl ?_|refine zH .here rfl rfl rfl rfl ?_|refine zH (.there .here) rfl rfl rfl rfl ?_|refine zH (.there (.there .here)) rfl rfl rfl rfl ?_|refine zH (.there (.there (.there .here))) rfl rfl rfl rfl ?_|refine zH (.there (.there (.there (.there .here)))) rfl rfl rfl rfl ?_)
    refine oP (Faults_spec n h1 h7 F) Try.call49 rfl rfl ?_
    by_cases hq : 2 * ((n - 1) / 3) ≤ (cntO ps primary e : Int)
    · rw [decide_eq_true hq]
      repeat (first|refine zJ rfl rfl ?_|refine jr rfl ?_|refine jn ?_|refine zM rfl rfl ?_|(refine zC rfl rfl ?_ rfl ?_;omega)|(refine zD rfl rfl ?_ rfl ?_;omega)|(refine zP rfl ?_ rfl ?_;omega)|refine zG rfl rfl rfl rfl ?_|(refine jdq rfl rfl ?_ ?_ ?_;kernel_rfl;kernel_rfl)|refine zB rfl rfl rfl (by repeat constructor) rfl ?_|refine zH .here rfl rfl rfl rfl ?_|refine zH (.there .here) rfl rfl rfl rfl ?_|refine zH (.there (.there .here)) rfl rfl rfl rfl ?_|refine zH (.there (.there (.there .here))) rfl rfl rfl rfl ?_|refine zH (.there (.there (.there (.there .here)))) rfl rfl rfl rfl ?_)
      try rw [decide_eq_true hq]
      repeat (first|refine zJ rfl rfl ?_|refine jr rfl ?_|refine jn ?_|refine zM rfl rfl ?_|(refine zC rfl rfl ?_ rfl ?_;omega)|(refine zD rfl rfl ?_ rfl ?_;omega)|(refine zP rfl ?_ rfl ?_;omega)|refine zG rfl rfl rfl rfl ?_|(refine jdq rfl rfl ?_ ?_ ?_;kernel_rfl;kernel_rfl)|refine zB rfl rfl rfl (by repeat constructor) rfl ?_|refine zH .here rfl rfl rfl rfl ?_|refine zH (.there .here) rfl rfl rfl rfl ?_|refine zH (.there (.there .here)) rfl rfl rfl rfl ?_|refine zH (.there (.there (.there .here))) rfl rfl rfl rfl ?_|refine zH (.there (.there (.there (.there .here)))) rfl rfl rfl rfl ?_)
      exact J_retv rfl (.tmp rfl .nil) [_] (fun w t => t) (PH.ler _) ⟨rfl, rfl⟩
    · rw [decide_eq_false hq]
      repeat (first|refine zJ rfl rfl ?_|refine jr rfl ?_|refine jn ?_|refine zM rfl rfl ?_|(refine zC rfl rfl ?_ rfl ?_;omega)|(refine zD rfl rfl ?_ rfl ?_;omega)|(refine zP rfl ?_ rfl ?_;omega)|refine zG rfl rfl rfl rfl ?_|(refine jdq rfl rfl ?_ ?_ ?_;kernel_rfl;kernel_rfl)|refine zB rfl rfl rfl (by repeat constructor) rfl ?_|refine zH .here rfl rfl rfl rfl ?_|refine zH (.there .here) rfl rfl rfl rfl ?_|refine zH (.there (.there .here)) rfl rfl rfl rfl ?_|refine zH (.there (.there (.there .here))) rfl rfl rfl rfl ?_|refine zH (.there (.there (.there (.there .here)))) rfl rfl rfl rfl ?_)
      try rw [decide_eq_false hq]
      repeat (first|refine zJ rfl rfl ?_|refine jr rfl ?_|refine jn ?_|refine zM rfl rfl ?_|(refine zC rfl rfl ?_ rfl ?_;omega)|(refine zD rfl rfl ?_ rfl ?_;omega)|(refine zP rfl ?_ rfl ?_;omega)|refine zG rfl rfl rfl rfl ?_|(refine jdq rfl rfl ?_ ?_ ?_;kernel_rfl;kernel_rfl)|refine zB rfl rfl rfl (by repeat constructor) rfl ?_|refine zH .here rfl rfl rfl rfl ?_|refine zH (.there .here) rfl rfl rfl rfl ?_|refine zH (.there (.there .here)) rfl rfl rfl rfl ?_|refine zH (.there (.there (.there .here))) rfl rfl rfl rfl ?_|refine zH (.there (.there (.there (.there .here)))) rfl rfl rfl rfl ?_)
      exact J_retv rfl (.tmp rfl .nil) [_] (fun w t => t) (PH.ler _) ⟨rfl, rfl⟩
/-- An entry's cells. -/
structure E8 where
  client : Int
  stamp : Int
  op : Int
  letter : ByteArray
  a : Int
  b : Int
  text : ByteArray
  mask : Int
def E8.core (e : E8) : List Value := [.int .i64 e.client, .int .i64 e.stamp, .int .i64 e.op, .string e.letter, .int .i64 e.a, .int .i64 e.b, .string e.text]
def E8.cells (e : E8) : List Value := [.int .i64 e.client, .int .i64 e.stamp, .int .i64 e.op, .string e.letter, .int .i64 e.a, .int .i64 e.b, .string e.text, .int .u32 e.mask]
def eCs (es : List E8) : List Value := (es.map E8.cells).flatten
theorem eCs_ones (es : List E8) : Ones (eCs es) := fun v hv => by
  obtain ⟨c, hc, hvc⟩ := List.mem_flatten.1 hv
  obtain ⟨q, _, rfl⟩ := List.mem_map.1 hc
  unfold E8.cells at hvc
  simp only [List.mem_cons, List.not_mem_nil, or_false] at hvc
  rcases hvc with rfl | rfl | rfl | rfl | rfl | rfl | rfl | rfl <;> rfl
theorem e8_eq (e : E8) : EqC Try.prog 9999 0 e.cells e.cells (Try.prog.fieldsOf 101).toList true := by
  have hc : EqC Try.prog 9998 0 e.core e.core (Try.prog.fieldsOf 99).toList _ := .int (by decide) rfl rfl (.int (by decide) rfl rfl (.int (by decide) rfl rfl (.str (by decide) rfl rfl (.int (by decide) rfl rfl (.int (by decide) rfl rfl (.str (by decide) rfl rfl .nil))))))
  have h : EqC Try.prog 9999 0 (e.core ++ [Value.int .u32 e.mask]) (e.core ++ [Value.int .u32 e.mask]) (Try.prog.fieldsOf 101).toList _ :=
    .sub (n := 7) (by decide) rfl rfl rfl rfl (fun w => eqC_struct (d := 9996) (by kernel_rfl) (by kernel_rfl) hc w) (.int (by decide) rfl rfl .nil)
  simpa [E8.cells, E8.core] using h
theorem ev_e8_neq {l : Env} {F : PH} {H : List Asrt} {d : Option Nat} {T' U : TypeId} {pos : String} {af : Array Edge} {g : Option (Nat × Bool)} {x y : Operand} {e : E8} (hx : opv l x = some (.agg e.cells.toArray)) (hy : opv l y = some (.agg e.cells.toArray)) : Ev Try.prog ⟨d, .binOp .neq 101 x y T', U, pos, af, g⟩ l F H (.bool false) :=
  ev_st_neq hx hy (by kernel_rfl) (by kernel_rfl) (by kernel_rfl) (e8_eq e)
theorem e8_at {F : PH} {a : Option Addr} {n c i : Nat} {es : List E8} {e : E8} (h : SliceV F 8 (.slice a n c) n (eCs es)) (hi : es[i]? = some e) (hn : i < n) : ∃ b off, a = some ⟨b, off, none⟩ ∧ Cells F b (off + i * 8) e.cells := by
  refine SliceV.row h (fun c hc => ?_) ?_ hn
  · obtain ⟨q, _, rfl⟩ := List.mem_map.1 hc; rfl
  · rw [List.getElem?_map, hi]; rfl
set_option maxHeartbeats 8000000 in
theorem Same_spec (v v' : Value) (es : List E8) (F : PH) (h : SliceV F 8 v es.length (eCs es)) (h' : SliceV F 8 v' es.length (eCs es)) (hn : es.length ≤ 1000) : Pure Try.prog 21 [v, v'] F (.bool true) := by
  refine Spec.of2 Try.func21 rfl rfl fun X w0 => ?_
  obtain ⟨_, a, c, rfl, _, _⟩ := id h
  obtain ⟨_, a', c', rfl, _, _⟩ := id h'
  repeat (first|refine zJ rfl rfl ?_|refine jr rfl ?_|refine jn ?_|refine zM rfl rfl ?_|(refine zC rfl rfl ?_ rfl ?_;omega)|(refine zD rfl rfl ?_ rfl ?_;omega)|(refine zP rfl ?_ rfl ?_;omega)|refine zG rfl rfl rfl rfl ?_|(refine jdq rfl rfl ?_ ?_ ?_;kernel_rfl;kernel_rfl)|refine zB rfl rfl rfl (by repeat constructor) rfl ?_|refine zH .here rfl rfl rfl rfl ?_|refine zH (.there .here) rfl rfl rfl rfl ?_|refine zH (.there (.there .here)) rfl rfl rfl rfl ?_|refine zH (.there (.there (.there .here))) rfl rfl rfl rfl ?_|refine zH (.there (.there (.there (.there .here)))) rfl rfl rfl rfl ?_)
  try rw [decide_eq_false (show ¬ (es.length : Int) ≠ (es.length : Int) from fun h => h rfl)]
  repeat (first|refine zJ rfl rfl ?_|refine jr rfl ?_|refine jn ?_|refine zM rfl rfl ?_|(refine zC rfl rfl ?_ rfl ?_;omega)|(refine zD rfl rfl ?_ rfl ?_;omega)|(refine zP rfl ?_ rfl ?_;omega)|refine zG rfl rfl rfl rfl ?_|(refine jdq rfl rfl ?_ ?_ ?_;kernel_rfl;kernel_rfl)|refine zB rfl rfl rfl (by repeat constructor) rfl ?_|refine zH .here rfl rfl rfl rfl ?_|refine zH (.there .here) rfl rfl rfl rfl ?_|refine zH (.there (.there .here)) rfl rfl rfl rfl ?_|refine zH (.there (.there (.there .here))) rfl rfl rfl rfl ?_|refine zH (.there (.there (.there (.there .here)))) rfl rfl rfl rfl ?_)
  refine J_loop (ι := Nat) (fun i => i ≤ es.length) (fun i => es.length - i) (fun i => [(0, .slice a es.length c), (1, .slice a' es.length c'), (4, .bool false), (12, .int .i64 es.length), (13, .int .i64 i)]) (fun _ => F) (fun _ => X) 0 (Nat.zero_le _) ⟨⟨rfl, rfl, rfl, rfl, rfl, trivial⟩, fun w s => s⟩ ?_
  intro i hi
  by_cases hlt : i < es.length
  · have hg : es[i]? = some es[i] := List.getElem?_eq_getElem hlt
    obtain ⟨b, off, rfl, hcc⟩ := e8_at h hg hlt
    obtain ⟨b', off', rfl, hcc'⟩ := e8_at h' hg hlt
    generalize es[i] = e at *
    repeat (first|refine zJ rfl rfl ?_|refine jr rfl ?_|refine jn ?_|refine zM rfl rfl ?_|(refine zC rfl rfl ?_ rfl ?_;omega)|(refine zD rfl rfl ?_ rfl ?_;omega)|(refine zP rfl ?_ rfl ?_;omega)|refine zG rfl rfl rfl rfl ?_|(refine jdq rfl rfl ?_ ?_ ?_;kernel_rfl;kernel_rfl)|refine zB rfl rfl rfl (by repeat constructor) rfl ?_|refine zH .here rfl rfl rfl rfl ?_|refine zH (.there .here) rfl rfl rfl rfl ?_|refine zH (.there (.there .here)) rfl rfl rfl rfl ?_|refine zH (.there (.there (.there .here))) rfl rfl rfl rfl ?_|refine zH (.there (.there (.there (.there .here)))) rfl rfl rfl rfl ?_)
    try refine jd rfl ?_ ?_ ?_; kernel_rfl; kernel_rfl
    repeat (first|refine zJ rfl rfl ?_|refine jr rfl ?_|refine jn ?_|refine zM rfl rfl ?_|(refine zC rfl rfl ?_ rfl ?_;omega)|(refine zD rfl rfl ?_ rfl ?_;omega)|(refine zP rfl ?_ rfl ?_;omega)|refine zG rfl rfl rfl rfl ?_|(refine jdq rfl rfl ?_ ?_ ?_;kernel_rfl;kernel_rfl)|refine zB rfl rfl rfl (by repeat constructor) rfl ?_|refine zH .here rfl rfl rfl rfl ?_|refine zH (.there .here) rfl rfl rfl rfl ?_|refine zH (.there (.there .here)) rfl rfl rfl rfl ?_|refine zH (.there (.there (.there .here))) rfl rfl rfl rfl ?_|refine zH (.there (.there (.there (.there .here)))) rfl rfl rfl rfl ?_)
    refine oS (ev_indexAddr (i := i) rfl rfl rfl hlt) rfl ?_
    refine oS (ev_load_agg (cs := e.cells) rfl rfl (Rdb.ofF hcc) rfl) rfl ?_
    repeat (first|refine zJ rfl rfl ?_|refine jr rfl ?_|refine jn ?_|refine zM rfl rfl ?_|(refine zC rfl rfl ?_ rfl ?_;omega)|(refine zD rfl rfl ?_ rfl ?_;omega)|(refine zP rfl ?_ rfl ?_;omega)|refine zG rfl rfl rfl rfl ?_|(refine jdq rfl rfl ?_ ?_ ?_;kernel_rfl;kernel_rfl)|refine zB rfl rfl rfl (by repeat constructor) rfl ?_|refine zH .here rfl rfl rfl rfl ?_|refine zH (.there .here) rfl rfl rfl rfl ?_|refine zH (.there (.there .here)) rfl rfl rfl rfl ?_|refine zH (.there (.there (.there .here))) rfl rfl rfl rfl ?_|refine zH (.there (.there (.there (.there .here)))) rfl rfl rfl rfl ?_)
    refine oS (ev_indexAddr (i := i) rfl rfl rfl hlt) rfl ?_
    refine oS (ev_load_agg (cs := e.cells) rfl rfl (Rdb.ofF hcc') rfl) rfl ?_
    refine oS (ev_e8_neq (e := e) rfl rfl) rfl ?_
    repeat (first|refine zJ rfl rfl ?_|refine jr rfl ?_|refine jn ?_|refine zM rfl rfl ?_|(refine zC rfl rfl ?_ rfl ?_;omega)|(refine zD rfl rfl ?_ rfl ?_;omega)|(refine zP rfl ?_ rfl ?_;omega)|refine zG rfl rfl rfl rfl ?_|(refine jdq rfl rfl ?_ ?_ ?_;kernel_rfl;kernel_rfl)|refine zB rfl rfl rfl (by repeat constructor) rfl ?_|refine zH .here rfl rfl rfl rfl ?_|refine zH (.there .here) rfl rfl rfl rfl ?_|refine zH (.there (.there .here)) rfl rfl rfl rfl ?_|refine zH (.there (.there (.there .here))) rfl rfl rfl rfl ?_|refine zH (.there (.there (.there (.there .here)))) rfl rfl rfl rfl ?_)
    refine J_again (i + 1) hlt (by omega) ⟨⟨rfl, rfl, rfl, rfl, rfl, trivial⟩, fun w s => s⟩
  obtain rfl : i = es.length := by omega
  repeat (first|refine zJ rfl rfl ?_|refine jr rfl ?_|refine jn ?_|refine zM rfl rfl ?_|(refine zC rfl rfl ?_ rfl ?_;omega)|(refine zD rfl rfl ?_ rfl ?_;omega)|(refine zP rfl ?_ rfl ?_;omega)|refine zG rfl rfl rfl rfl ?_|(refine jdq rfl rfl ?_ ?_ ?_;kernel_rfl;kernel_rfl)|refine zB rfl rfl rfl (by repeat constructor) rfl ?_|refine zH .here rfl rfl rfl rfl ?_|refine zH (.there .here) rfl rfl rfl rfl ?_|refine zH (.there (.there .here)) rfl rfl rfl rfl ?_|refine zH (.there (.there (.there .here))) rfl rfl rfl rfl ?_|refine zH (.there (.there (.there (.there .here)))) rfl rfl rfl rfl ?_)
  exact J_ret1 rfl rfl [] rfl (PH.ler _) ⟨rfl, rfl⟩
end Go.Proofs.Ytdoaloimndehbaa
