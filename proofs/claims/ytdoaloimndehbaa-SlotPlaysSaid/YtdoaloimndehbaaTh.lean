/-
  The document's slot: words, and how a vote ends. Conditions are typed with each.
-/
import Derived.Test.YtdoaloimndehbaaTf
namespace Go.Proofs.Ytdoaloimndehbaa
open Go.RowKit
set_option maxRecDepth 100000
theorem Faults_spec (n : Int) (h1 : 1 ≤ n) (h7 : n ≤ 7) (F : PH) : Pure Try.prog 49 [.int .i64 n] F (.int .i64 ((n - 1) / 3)) := by
  refine Spec.of1 Try.func49 rfl rfl fun X w0 => ?_
  repeat (first|refine zJ rfl rfl ?_|refine jr rfl ?_|refine jn ?_|refine zM rfl rfl ?_|(refine zC rfl rfl ?_ rfl ?_;omega)|(refine zD rfl rfl ?_ rfl ?_;omega)|(refine zP rfl ?_ rfl ?_;omega)|refine zG rfl rfl rfl rfl ?_|(refine jdq rfl rfl ?_ ?_ ?_;kernel_rfl;kernel_rfl)|refine zB rfl rfl rfl (by repeat constructor) rfl ?_)
  refine J_loop (ι := Nat) (fun f => 3 * (f : Int) + 1 ≤ n) (fun f => 7 - f) (fun f => [(0, .int .i64 (n - 3 * f)), (2, .int .i64 0), (3, .int .i64 f)]) (fun _ => F) (fun _ => X) 0 (by omega) ⟨⟨by simp; rfl, rfl, rfl, trivial⟩, fun w s => s⟩ ?_
  intro f hf
  by_cases h4 : 4 ≤ n - 3 * (f : Int)
  · repeat (first|refine zJ rfl rfl ?_|refine jr rfl ?_|refine jn ?_|refine zM rfl rfl ?_|(refine zC rfl rfl ?_ rfl ?_;omega)|(refine zD rfl rfl ?_ rfl ?_;omega)|(refine zP rfl ?_ rfl ?_;omega)|refine zG rfl rfl rfl rfl ?_|(refine jdq rfl rfl ?_ ?_ ?_;kernel_rfl;kernel_rfl)|refine zB rfl rfl rfl (by repeat constructor) rfl ?_)
    refine J_again (f + 1) (by push_cast; omega) (by omega) ⟨⟨?_, rfl, rfl, trivial⟩, fun w s => s⟩
    rw [show n - 3 * ((f + 1 : Nat) : Int) = n - 3 * (f : Int) - 3 from by push_cast; omega]
    rfl
  · have hfv : (n - 1) / 3 = (f : Int) := by omega
    rw [hfv]
    repeat (first|refine zJ rfl rfl ?_|refine jr rfl ?_|refine jn ?_|refine zM rfl rfl ?_|(refine zC rfl rfl ?_ rfl ?_;omega)|(refine zD rfl rfl ?_ rfl ?_;omega)|(refine zP rfl ?_ rfl ?_;omega)|refine zG rfl rfl rfl rfl ?_|(refine jdq rfl rfl ?_ ?_ ?_;kernel_rfl;kernel_rfl)|refine zB rfl rfl rfl (by repeat constructor) rfl ?_)
    exact J_ret1 rfl rfl [] rfl (PH.ler _) ⟨rfl, rfl⟩
/-- A word's cells, and a row's. -/
def wC (p : Int × Dg) : List Value := .int .i64 p.1 :: u8s p.2.1
def wrd (vs : Vts) : List Value := (vs.map wC).flatten
theorem wC_len (p : Int × Dg) : (wC p).length = 33 := by unfold wC; rw [List.length_cons, dig_len]
theorem wC_ones (p : Int × Dg) : Ones (wC p) := ones_cons rfl (dig_ones p.2)
theorem wC_dig (p : Int × Dg) : ((wC p).drop 1).take (u8s p.2.1).length = u8s p.2.1 := by unfold wC; rw [List.drop_succ_cons, List.drop_zero, List.take_length]
abbrev Wrd (F : PH) (v : Value) (vs : Vts) : Prop := SliceV F 33 v vs.length (wrd vs)
theorem Wrd.at {F : PH} {a : Option Addr} {c i : Nat} {vs : Vts} {p : Int × Dg} (h : Wrd F (.slice a vs.length c) vs) (hi : vs[i]? = some p) : ∃ b off, a = some ⟨b, off, none⟩ ∧ Cells F b (off + i * 33) (wC p) := by
  refine SliceV.row h (fun c hc => ?_) ?_ (List.getElem?_eq_some_iff.1 hi).1
  · obtain ⟨q, _, rfl⟩ := List.mem_map.1 hc; exact wC_len q
  · rw [List.getElem?_map, hi]; rfl
theorem wrd_ones (vs : Vts) : Ones (wrd vs) := fun v hv => by
  obtain ⟨c, hc, hvc⟩ := List.mem_flatten.1 hv
  obtain ⟨q, _, rfl⟩ := List.mem_map.1 hc
  exact wC_ones q v hvc
theorem elW : Elem Try.prog 40 113 33 40 (.agg (wC (0, zDg)).toArray) := ⟨rfl, ⟨_, rfl, rfl, rfl, rfl, rfl, by decide⟩, rfl, rfl⟩
theorem hasV_take {vs : Vts} {i : Nat} {p : Int × Dg} {who : Int} (h0 : hasV (vs.take i) who = none) (hi : vs[i]? = some p) : hasV (vs.take (i + 1)) who = (if who = p.1 then some p.2 else none) ∧ (who = p.1 → hasV vs who = some p.2) := by
  have hap : ∀ (xs ys : Vts), hasV (xs ++ ys) who = match hasV xs who with | some e => some e | none => hasV ys who := by
    intro xs ys
    induction xs with
    | nil => rfl
    | cons q r ih =>
      obtain ⟨w, d⟩ := q
      rw [List.cons_append, hasV, hasV]
      by_cases h : who = w
      · rw [if_pos h, if_pos h]
      · rw [if_neg h, if_neg h, ih]
  refine ⟨?_, fun hw => ?_⟩
  · rw [List.take_add_one, hi, hap, h0]
    obtain ⟨w, d⟩ := p
    rfl
  · have hs : vs = vs.take i ++ (p :: vs.drop (i + 1)) := by
      have hlt := (List.getElem?_eq_some_iff.1 hi).1
      have := (List.getElem?_eq_some_iff.1 hi).2
      rw [← this, ← List.drop_eq_getElem_cons hlt, List.take_append_drop]
    rw [hs, hap, h0]
    obtain ⟨w, d⟩ := p
    dsimp only [hasV]
    rw [if_pos hw]
/-- The document's slot: its block. -/
def rsC (n : Int) (has : Bool) (d : Dg) (bv pv cv : Value) : List Value := .int .i64 n :: .bool has :: (u8s d.1 ++ [bv, pv, cv])
abbrev RS (r : Nat) (n : Int) (has : Bool) (d : Dg) (bv pv cv : Value) : Asrt := blk r 42 (rsC n has d bv pv cv)
theorem rs_at (n : Int) (has : Bool) (d : Dg) (bv pv cv : Value) : ((rsC n has d bv pv cv).drop 34).take 1 = [bv] ∧ ((rsC n has d bv pv cv).drop 35).take 1 = [pv] ∧ ((rsC n has d bv pv cv).drop 36).take 1 = [cv] ∧ ((rsC n has d bv pv cv).drop 2).take (u8s d.1).length = u8s d.1 := by
  have hk : ∀ k, ((rsC n has d bv pv cv).drop (2 + (32 + k))) = [bv, pv, cv].drop k := fun k => by
    unfold rsC
    rw [← List.drop_drop, ← List.drop_drop]
    show List.drop k (List.drop 32 (u8s d.1 ++ [bv, pv, cv])) = _
    have h := List.drop_left (l₁ := u8s d.1) (l₂ := [bv, pv, cv])
    rw [dig_len] at h
    rw [h]
  refine ⟨by rw [show (34 : Nat) = 2 + (32 + 0) from rfl, hk]; rfl, by rw [show (35 : Nat) = 2 + (32 + 1) from rfl, hk]; rfl, by rw [show (36 : Nat) = 2 + (32 + 2) from rfl, hk]; rfl, ?_⟩
  show (u8s d.1 ++ [bv, pv, cv]).take (u8s d.1).length = _
  rw [List.take_left]
set_option maxHeartbeats 8000000 in
theorem Vote_spec (r : Nat) (n : Int) (rest : List Value) (v : Value) (vs : Vts) (who : Int) (d : Dg) (F : PH) (h : Wrd F v vs) (hn : vs.length ≤ 1000) :
    Spec Try.prog 48 [pT r, v, .int .i64 who, d.v] F [blk r 42 (.int .i64 n :: rest)] fun u F' H' => ∃ v', u = .tuple #[v', .int .i64 (voteP n vs who d).1] ∧ Wrd F' v' (voteP n vs who d).2 ∧ H' = [blk r 42 (.int .i64 n :: rest)] := by
  refine Spec.of4 Try.func48 rfl rfl fun X w0 => ?_
  obtain ⟨_, a, c, rfl, hvc, _⟩ := id h
  dsimp only [List.cons_append, List.nil_append, pT]
  unfold voteP
  repeat (first|refine zJ rfl rfl ?_|refine jr rfl ?_|refine jn ?_|refine zM rfl rfl ?_|(refine zC rfl rfl ?_ rfl ?_;omega)|(refine zD rfl rfl ?_ rfl ?_;omega)|(refine zP rfl ?_ rfl ?_;omega)|refine zG rfl rfl rfl rfl ?_|(refine jdq rfl rfl ?_ ?_ ?_;kernel_rfl;kernel_rfl)|refine zB rfl rfl rfl (by repeat constructor) rfl ?_|refine zH .here rfl rfl rfl rfl ?_|refine zH (.there .here) rfl rfl rfl rfl ?_|refine zH (.there (.there .here)) rfl rfl rfl rfl ?_|refine zH (.there (.there (.there .here))) rfl rfl rfl rfl ?_|refine zH (.there (.there (.there (.there .here)))) rfl rfl rfl rfl ?_)
  refine oE (ev_box rfl .agg) rfl ?_; rintro _ _ _ _ ⟨rfl, b7, rfl, rfl⟩
  by_cases h0 : who < 0
  · rw [if_pos (.inl h0)]
    repeat (first|refine zJ rfl rfl ?_|refine jr rfl ?_|refine jn ?_|refine zM rfl rfl ?_|(refine zC rfl rfl ?_ rfl ?_;omega)|(refine zD rfl rfl ?_ rfl ?_;omega)|(refine zP rfl ?_ rfl ?_;omega)|refine zG rfl rfl rfl rfl ?_|(refine jdq rfl rfl ?_ ?_ ?_;kernel_rfl;kernel_rfl)|refine zB rfl rfl rfl (by repeat constructor) rfl ?_|refine zH .here rfl rfl rfl rfl ?_|refine zH (.there .here) rfl rfl rfl rfl ?_|refine zH (.there (.there .here)) rfl rfl rfl rfl ?_|refine zH (.there (.there (.there .here))) rfl rfl rfl rfl ?_|refine zH (.there (.there (.there (.there .here)))) rfl rfl rfl rfl ?_)
    exact J_retv rfl (.tmp rfl (.tmp rfl .nil)) _ (fun w s => s.drop) (PH.ler _) ⟨_, rfl, h, rfl⟩
  by_cases h1 : n ≤ who
  · rw [if_pos (.inr h1)]
    repeat (first|refine zJ rfl rfl ?_|refine jr rfl ?_|refine jn ?_|refine zM rfl rfl ?_|(refine zC rfl rfl ?_ rfl ?_;omega)|(refine zD rfl rfl ?_ rfl ?_;omega)|(refine zP rfl ?_ rfl ?_;omega)|refine zG rfl rfl rfl rfl ?_|(refine jdq rfl rfl ?_ ?_ ?_;kernel_rfl;kernel_rfl)|refine zB rfl rfl rfl (by repeat constructor) rfl ?_|refine zH .here rfl rfl rfl rfl ?_|refine zH (.there .here) rfl rfl rfl rfl ?_|refine zH (.there (.there .here)) rfl rfl rfl rfl ?_|refine zH (.there (.there (.there .here))) rfl rfl rfl rfl ?_|refine zH (.there (.there (.there (.there .here)))) rfl rfl rfl rfl ?_)
    exact J_retv rfl (.tmp rfl (.tmp rfl .nil)) _ (fun w s => s.drop) (PH.ler _) ⟨_, rfl, h, rfl⟩
  rw [if_neg (by omega)]
  repeat (first|refine zJ rfl rfl ?_|refine jr rfl ?_|refine jn ?_|refine zM rfl rfl ?_|(refine zC rfl rfl ?_ rfl ?_;omega)|(refine zD rfl rfl ?_ rfl ?_;omega)|(refine zP rfl ?_ rfl ?_;omega)|refine zG rfl rfl rfl rfl ?_|(refine jdq rfl rfl ?_ ?_ ?_;kernel_rfl;kernel_rfl)|refine zB rfl rfl rfl (by repeat constructor) rfl ?_|refine zH .here rfl rfl rfl rfl ?_|refine zH (.there .here) rfl rfl rfl rfl ?_|refine zH (.there (.there .here)) rfl rfl rfl rfl ?_|refine zH (.there (.there (.there .here))) rfl rfl rfl rfl ?_|refine zH (.there (.there (.there (.there .here)))) rfl rfl rfl rfl ?_)
  refine J_loop (ι := Nat) (fun i => i ≤ vs.length ∧ hasV (vs.take i) who = none) (fun i => vs.length - i) (fun i => [(0, .pointer (some ⟨r, 0, none⟩)), (1, .slice a vs.length c), (2, .int .i64 who), (7, .pointer (some ⟨b7, 0, none⟩)), (8, .slice none 0 0), (9, .int .i64 0), (23, .slice a vs.length c), (24, .int .i64 vs.length), (25, .int .i64 i)]) (fun _ => F) (fun _ => blk b7 29 (u8s d.1) :: blk r 42 (.int .i64 n :: rest) :: X) 0 ⟨Nat.zero_le _, rfl⟩ ⟨⟨rfl, rfl, rfl, rfl, rfl, rfl, rfl, rfl, rfl, trivial⟩, fun w s => s⟩ ?_
  rintro i ⟨hi, hno⟩
  by_cases hlt : i < vs.length
  · have hg : vs[i]? = some vs[i] := List.getElem?_eq_getElem hlt
    obtain ⟨b, off, rfl, hcc⟩ := h.at hg
    obtain ⟨ht1, ht2⟩ := hasV_take hno hg
    generalize vs[i] = p at *
    have hl1 := wC_len p
    have ho1 := wC_ones p
    have hd1 := wC_dig p
    repeat (first|refine zJ rfl rfl ?_|refine jr rfl ?_|refine jn ?_|refine zM rfl rfl ?_|(refine zC rfl rfl ?_ rfl ?_;omega)|(refine zD rfl rfl ?_ rfl ?_;omega)|(refine zP rfl ?_ rfl ?_;omega)|refine zG rfl rfl rfl rfl ?_|(refine jdq rfl rfl ?_ ?_ ?_;kernel_rfl;kernel_rfl)|refine zB rfl rfl rfl (by repeat constructor) rfl ?_|refine zH .here rfl rfl rfl rfl ?_|refine zH (.there .here) rfl rfl rfl rfl ?_|refine zH (.there (.there .here)) rfl rfl rfl rfl ?_|refine zH (.there (.there (.there .here))) rfl rfl rfl rfl ?_|refine zH (.there (.there (.there (.there .here)))) rfl rfl rfl rfl ?_)
    refine oS (ev_indexAddr (i := i) rfl rfl rfl hlt) rfl ?_
    refine oS (ev_load_agg (cs := wC p) rfl rfl (Rdb.ofF hcc) hl1) rfl ?_
    refine oE (ev_alloc (cs := wC (0, zDg)) rfl) rfl ?_
    rintro _ _ _ _ ⟨rfl, b11, rfl, rfl⟩
    refine oN (ev_store rfl rfl .agg rfl hl1 (lay_all (by rw [hl1]; rfl)) ho1 .here) rfl ?_
    rintro _ _ _ _ ⟨rfl, _, rfl⟩
    repeat (first|refine zJ rfl rfl ?_|refine jr rfl ?_|refine jn ?_|refine zM rfl rfl ?_|(refine zC rfl rfl ?_ rfl ?_;omega)|(refine zD rfl rfl ?_ rfl ?_;omega)|(refine zP rfl ?_ rfl ?_;omega)|refine zG rfl rfl rfl rfl ?_|(refine jdq rfl rfl ?_ ?_ ?_;kernel_rfl;kernel_rfl)|refine zB rfl rfl rfl (by repeat constructor) rfl ?_|refine zH .here rfl rfl rfl rfl ?_|refine zH (.there .here) rfl rfl rfl rfl ?_|refine zH (.there (.there .here)) rfl rfl rfl rfl ?_|refine zH (.there (.there (.there .here))) rfl rfl rfl rfl ?_|refine zH (.there (.there (.there (.there .here)))) rfl rfl rfl rfl ?_)
    by_cases hw : p.1 = who
    · rw [decide_eq_true hw, ht2 hw.symm]
      dsimp only
      repeat (first|refine zJ rfl rfl ?_|refine jr rfl ?_|refine jn ?_|refine zM rfl rfl ?_|(refine zC rfl rfl ?_ rfl ?_;omega)|(refine zD rfl rfl ?_ rfl ?_;omega)|(refine zP rfl ?_ rfl ?_;omega)|refine zG rfl rfl rfl rfl ?_|(refine jdq rfl rfl ?_ ?_ ?_;kernel_rfl;kernel_rfl)|refine zB rfl rfl rfl (by repeat constructor) rfl ?_|refine zH .here rfl rfl rfl rfl ?_|refine zH (.there .here) rfl rfl rfl rfl ?_|refine zH (.there (.there .here)) rfl rfl rfl rfl ?_|refine zH (.there (.there (.there .here))) rfl rfl rfl rfl ?_|refine zH (.there (.there (.there (.there .here)))) rfl rfl rfl rfl ?_)
      refine oS (ev_ldD (d := p.2) .here rfl hd1) rfl ?_
      refine oS (ev_ldD (d := d) (.there .here) rfl (dig_all d)) rfl ?_
      refine oS (ev_eqD (d := p.2) (e := d) rfl rfl) rfl ?_
      by_cases hed : p.2 = d
      · rw [if_pos hed, decide_eq_true hed]
        repeat (first|refine zJ rfl rfl ?_|refine jr rfl ?_|refine jn ?_|refine zM rfl rfl ?_|(refine zC rfl rfl ?_ rfl ?_;omega)|(refine zD rfl rfl ?_ rfl ?_;omega)|(refine zP rfl ?_ rfl ?_;omega)|refine zG rfl rfl rfl rfl ?_|(refine jdq rfl rfl ?_ ?_ ?_;kernel_rfl;kernel_rfl)|refine zB rfl rfl rfl (by repeat constructor) rfl ?_|refine zH .here rfl rfl rfl rfl ?_|refine zH (.there .here) rfl rfl rfl rfl ?_|refine zH (.there (.there .here)) rfl rfl rfl rfl ?_|refine zH (.there (.there (.there .here))) rfl rfl rfl rfl ?_|refine zH (.there (.there (.there (.there .here)))) rfl rfl rfl rfl ?_)
        exact J_retv rfl (.tmp rfl (.tmp rfl .nil)) _ (fun w s => s.drop.drop) (PH.ler _) ⟨_, rfl, h, rfl⟩
      · rw [if_neg hed, decide_eq_false hed]
        repeat (first|refine zJ rfl rfl ?_|refine jr rfl ?_|refine jn ?_|refine zM rfl rfl ?_|(refine zC rfl rfl ?_ rfl ?_;omega)|(refine zD rfl rfl ?_ rfl ?_;omega)|(refine zP rfl ?_ rfl ?_;omega)|refine zG rfl rfl rfl rfl ?_|(refine jdq rfl rfl ?_ ?_ ?_;kernel_rfl;kernel_rfl)|refine zB rfl rfl rfl (by repeat constructor) rfl ?_|refine zH .here rfl rfl rfl rfl ?_|refine zH (.there .here) rfl rfl rfl rfl ?_|refine zH (.there (.there .here)) rfl rfl rfl rfl ?_|refine zH (.there (.there (.there .here))) rfl rfl rfl rfl ?_|refine zH (.there (.there (.there (.there .here)))) rfl rfl rfl rfl ?_)
        exact J_retv rfl (.tmp rfl (.tmp rfl .nil)) _ (fun w s => s.drop.drop) (PH.ler _) ⟨_, rfl, h, rfl⟩
    · rw [decide_eq_false hw]
      repeat (first|refine zJ rfl rfl ?_|refine jr rfl ?_|refine jn ?_|refine zM rfl rfl ?_|(refine zC rfl rfl ?_ rfl ?_;omega)|(refine zD rfl rfl ?_ rfl ?_;omega)|(refine zP rfl ?_ rfl ?_;omega)|refine zG rfl rfl rfl rfl ?_|(refine jdq rfl rfl ?_ ?_ ?_;kernel_rfl;kernel_rfl)|refine zB rfl rfl rfl (by repeat constructor) rfl ?_|refine zH .here rfl rfl rfl rfl ?_|refine zH (.there .here) rfl rfl rfl rfl ?_|refine zH (.there (.there .here)) rfl rfl rfl rfl ?_|refine zH (.there (.there (.there .here))) rfl rfl rfl rfl ?_|refine zH (.there (.there (.there (.there .here)))) rfl rfl rfl rfl ?_)
      refine J_again (i + 1) ⟨hlt, by rw [ht1, if_neg (fun e => hw e.symm)]⟩ (by omega) ⟨⟨rfl, rfl, rfl, rfl, rfl, rfl, rfl, rfl, rfl, trivial⟩, fun w s => s.drop⟩
  obtain rfl : i = vs.length := by omega
  rw [List.take_length] at hno
  rw [hno]
  dsimp only
  repeat (first|refine zJ rfl rfl ?_|refine jr rfl ?_|refine jn ?_|refine zM rfl rfl ?_|(refine zC rfl rfl ?_ rfl ?_;omega)|(refine zD rfl rfl ?_ rfl ?_;omega)|(refine zP rfl ?_ rfl ?_;omega)|refine zG rfl rfl rfl rfl ?_|(refine jdq rfl rfl ?_ ?_ ?_;kernel_rfl;kernel_rfl)|refine zB rfl rfl rfl (by repeat constructor) rfl ?_|refine zH .here rfl rfl rfl rfl ?_|refine zH (.there .here) rfl rfl rfl rfl ?_|refine zH (.there (.there .here)) rfl rfl rfl rfl ?_|refine zH (.there (.there (.there .here))) rfl rfl rfl rfl ?_|refine zH (.there (.there (.there (.there .here)))) rfl rfl rfl rfl ?_)
  refine ja F [blk b7 29 (u8s d.1)] ?_ (fun w t => t.head) ?_; kernel_rfl
  refine aT 1 rfl (ev_qe rfl) rfl rfl ?_ ?_ ?_ ?_; kernel_rfl; kernel_rfl; kernel_rfl
  refine aT 3 rfl (ev_qe rfl) rfl rfl ?_ ?_ ?_ ?_; kernel_rfl; kernel_rfl; kernel_rfl
  refine aT 4 rfl (ev_ldD .here rfl (dig_all d)) rfl rfl ?_ ?_ ?_ ?_; kernel_rfl; kernel_rfl; kernel_rfl
  refine aT 5 rfl (ev_build (t := wC (who, d)) (zs := wC (0, zDg)) rfl rfl rfl (.cons .int rfl rfl (.put .nil) (.cons .agg rfl (dig_len d) (.skip (lay_D d zDg)) .nil))) rfl rfl ?_ ?_ ?_ ?_; kernel_rfl; kernel_rfl; kernel_rfl
  obtain ⟨Y, hY⟩ : ∃ Y, Y = blk b7 29 (u8s d.1) :: blk r 42 (.int .i64 n :: rest) :: X := ⟨_, rfl⟩
  rw [← hY]
  have hS : ∀ {w : World}, Sat F Y w → Sat F [blk b7 29 (u8s d.1)] w := fun t => by rw [hY] at t; exact t.head
  have hfin : ∀ (G : PH) (u : Value), SliceV G 33 u (vs.length + 1) (wrd vs ++ wC (who, d)) → Wrd G u (vs ++ [(who, d)]) := fun G u hu => by
    unfold Wrd
    rw [List.length_append, show wrd (vs ++ [(who, d)]) = wrd vs ++ wC (who, d) from by simp [wrd]]
    exact hu
  refine aB2 (i := 0) (i' := 6) (by kernel_rfl)
    (aE rfl (ev_mt elW) rfl rfl (fun _ _ _ hF hq w t => by obtain ⟨rfl, _, rfl⟩ := hq; exact hS t.drop) ?_)
    (aE rfl (ev_buildSlice (E := 113) (zs := wC (0, zDg)) (t := wC (who, d)) rfl rfl rfl rfl rfl rfl (.cons .agg (wC_len _) (by rw [Nat.zero_mul]; exact lay_all (by rw [wC_len]; rfl)) .nil)) rfl rfl (fun _ _ _ hF hq w t => by obtain ⟨rfl, _, rfl, rfl⟩ := hq; exact hS t.drop) ?_)
  · rintro _ _ _ _ ⟨rfl, ⟨b0, rfl⟩, rfl⟩
    refine aB2 (i := 2) (i' := 6) (by kernel_rfl)
      (aE rfl (ev_append_s (n := 0) (m := vs.length) (xs := []) (news := wrd vs) (K := fun v' => own v' 113 33 vs.length (wrd vs) :: Y) rfl rfl elW h.rds (wrd_ones _) (by omega) (fun v' => by rw [Nat.zero_add, List.nil_append]; exact .here)) rfl rfl (fun _ _ _ hF hq w t => by obtain ⟨rfl, _, rfl⟩ := hq; exact hS t.drop) ?_)
      (aE rfl (ev_buildSlice (E := 113) (zs := wC (0, zDg)) (t := wC (who, d)) rfl rfl rfl rfl rfl rfl (.cons .agg (wC_len _) (by rw [Nat.zero_mul]; exact lay_all (by rw [wC_len]; rfl)) .nil)) rfl rfl (fun _ _ _ hF hq w t => by obtain ⟨rfl, _, rfl, rfl⟩ := hq; exact hS t.drop.drop) ?_)
    · rintro _ _ _ _ ⟨rfl, _, rfl⟩
      refine aB (i := 6) (by kernel_rfl)
        (aE rfl (ev_buildSlice (E := 113) (zs := wC (0, zDg)) (t := wC (who, d)) rfl rfl rfl rfl rfl rfl (.cons .agg (wC_len _) (by rw [Nat.zero_mul]; exact lay_all (by rw [wC_len]; rfl)) .nil)) rfl rfl (fun _ _ _ hF hq w t => by obtain ⟨rfl, _, rfl, rfl⟩ := hq; exact hS t.drop.drop) ?_)
      rintro _ _ _ _ ⟨rfl, b6, rfl, rfl⟩
      refine aB (i := 7) (by kernel_rfl) (aE rfl (ev_append_s (n := vs.length) (m := 1) (xs := wrd vs) (news := wC (who, d)) (K := fun v' => blk b6 113 (wC (who, d)) :: own v' 113 33 (vs.length + 1) (wrd vs ++ wC (who, d)) :: Y) rfl rfl elW (RdS.blk .here (by rw [wC_len]) (by rw [List.drop_zero, List.take_length]) (Nat.le_refl _)) (wC_ones _) (by omega) (fun v' => .there .here)) rfl rfl (fun _ _ _ hF hq w t => by obtain ⟨rfl, _, rfl⟩ := hq; exact hS t.drop.drop) ?_)
      rintro u3 _ _ _ ⟨rfl, _, rfl⟩
      refine aT 8 rfl (ev_qe rfl) rfl rfl ?_ ?_ ?_ ?_; kernel_rfl; kernel_rfl; kernel_rfl
      refine aT 9 rfl (ev_qe rfl) rfl rfl ?_ ?_ ?_ ?_; kernel_rfl; kernel_rfl; kernel_rfl
      refine aD (by kernel_rfl) ?_
      repeat (first|refine zJ rfl rfl ?_|refine jr rfl ?_|refine jn ?_|refine zM rfl rfl ?_|(refine zC rfl rfl ?_ rfl ?_;omega)|(refine zD rfl rfl ?_ rfl ?_;omega)|(refine zP rfl ?_ rfl ?_;omega)|refine zG rfl rfl rfl rfl ?_|(refine jdq rfl rfl ?_ ?_ ?_;kernel_rfl;kernel_rfl)|refine zB rfl rfl rfl (by repeat constructor) rfl ?_|refine zH .here rfl rfl rfl rfl ?_|refine zH (.there .here) rfl rfl rfl rfl ?_|refine zH (.there (.there .here)) rfl rfl rfl rfl ?_|refine zH (.there (.there (.there .here))) rfl rfl rfl rfl ?_|refine zH (.there (.there (.there (.there .here)))) rfl rfl rfl rfl ?_)
      refine J_pick (.there .here) ?_
      refine J_persist fun hh hA hd => ?_
      refine J_retv rfl (.tmp rfl (.tmp rfl .nil)) [blk r 42 (.int .i64 n :: rest)] (fun w t => ?_) (PH.le_l _ _) ⟨u3, rfl, hfin _ _ (own_slice hA hd), rfl⟩
      have t2 := t.drop
      rw [hY] at t2
      exact t2.drop
    · rintro _ _ _ _ ⟨rfl, b6, rfl, rfl⟩
      refine aB (i := 2) (by kernel_rfl)
        (aE rfl (ev_append_s (n := 0) (m := vs.length) (xs := []) (news := wrd vs) (K := fun v' => blk b6 113 (wC (who, d)) :: own v' 113 33 vs.length (wrd vs) :: Y) rfl rfl elW h.rds (wrd_ones _) (by omega) (fun v' => by rw [Nat.zero_add, List.nil_append]; exact .there .here)) rfl rfl (fun _ _ _ hF hq w t => by obtain ⟨rfl, _, rfl⟩ := hq; exact hS t.drop.drop) ?_)
      rintro _ _ _ _ ⟨rfl, _, rfl⟩
      refine aB (i := 7) (by kernel_rfl) (aE rfl (ev_append_s (n := vs.length) (m := 1) (xs := wrd vs) (news := wC (who, d)) (K := fun v' => blk b6 113 (wC (who, d)) :: own v' 113 33 (vs.length + 1) (wrd vs ++ wC (who, d)) :: Y) rfl rfl elW (RdS.blk .here (by rw [wC_len]) (by rw [List.drop_zero, List.take_length]) (Nat.le_refl _)) (wC_ones _) (by omega) (fun v' => .there .here)) rfl rfl (fun _ _ _ hF hq w t => by obtain ⟨rfl, _, rfl⟩ := hq; exact hS t.drop.drop) ?_)
      rintro u3 _ _ _ ⟨rfl, _, rfl⟩
      refine aT 8 rfl (ev_qe rfl) rfl rfl ?_ ?_ ?_ ?_; kernel_rfl; kernel_rfl; kernel_rfl
      refine aT 9 rfl (ev_qe rfl) rfl rfl ?_ ?_ ?_ ?_; kernel_rfl; kernel_rfl; kernel_rfl
      refine aD (by kernel_rfl) ?_
      repeat (first|refine zJ rfl rfl ?_|refine jr rfl ?_|refine jn ?_|refine zM rfl rfl ?_|(refine zC rfl rfl ?_ rfl ?_;omega)|(refine zD rfl rfl ?_ rfl ?_;omega)|(refine zP rfl ?_ rfl ?_;omega)|refine zG rfl rfl rfl rfl ?_|(refine jdq rfl rfl ?_ ?_ ?_;kernel_rfl;kernel_rfl)|refine zB rfl rfl rfl (by repeat constructor) rfl ?_|refine zH .here rfl rfl rfl rfl ?_|refine zH (.there .here) rfl rfl rfl rfl ?_|refine zH (.there (.there .here)) rfl rfl rfl rfl ?_|refine zH (.there (.there (.there .here))) rfl rfl rfl rfl ?_|refine zH (.there (.there (.there (.there .here)))) rfl rfl rfl rfl ?_)
      refine J_pick (.there .here) ?_
      refine J_persist fun hh hA hd => ?_
      refine J_retv rfl (.tmp rfl (.tmp rfl .nil)) [blk r 42 (.int .i64 n :: rest)] (fun w t => ?_) (PH.le_l _ _) ⟨u3, rfl, hfin _ _ (own_slice hA hd), rfl⟩
      have t2 := t.drop
      rw [hY] at t2
      exact t2.drop
  · rintro _ _ _ _ ⟨rfl, b6, rfl, rfl⟩
    refine aB (i := 0) (by kernel_rfl)
      (aE rfl (ev_mt elW) rfl rfl (fun _ _ _ hF hq w t => by obtain ⟨rfl, _, rfl⟩ := hq; exact hS t.drop.drop) ?_)
    rintro _ _ _ _ ⟨rfl, ⟨b0, rfl⟩, rfl⟩
    refine aB (i := 2) (by kernel_rfl)
      (aE rfl (ev_append_s (n := 0) (m := vs.length) (xs := []) (news := wrd vs) (K := fun v' => own v' 113 33 vs.length (wrd vs) :: blk b6 113 (wC (who, d)) :: Y) rfl rfl elW h.rds (wrd_ones _) (by omega) (fun v' => by rw [Nat.zero_add, List.nil_append]; exact .here)) rfl rfl (fun _ _ _ hF hq w t => by obtain ⟨rfl, _, rfl⟩ := hq; exact hS t.drop.drop) ?_)
    rintro u2 _ _ _ ⟨rfl, _, rfl⟩
    refine aWeak (F' := F) (H' := blk b6 113 (wC (who, d)) :: own u2 113 33 vs.length (wrd vs) :: Y) ?_ (fun w t => hS t.drop.drop) (fun w t => t.pm 2 [1, 0] rfl rfl)
    refine aB (i := 7) (by kernel_rfl) (aE rfl (ev_append_s (n := vs.length) (m := 1) (xs := wrd vs) (news := wC (who, d)) (K := fun v' => blk b6 113 (wC (who, d)) :: own v' 113 33 (vs.length + 1) (wrd vs ++ wC (who, d)) :: Y) rfl rfl elW (RdS.blk .here (by rw [wC_len]) (by rw [List.drop_zero, List.take_length]) (Nat.le_refl _)) (wC_ones _) (by omega) (fun v' => .there .here)) rfl rfl (fun _ _ _ hF hq w t => by obtain ⟨rfl, _, rfl⟩ := hq; exact hS t.drop.drop) ?_)
    rintro u3 _ _ _ ⟨rfl, _, rfl⟩
    refine aT 8 rfl (ev_qe rfl) rfl rfl ?_ ?_ ?_ ?_; kernel_rfl; kernel_rfl; kernel_rfl
    refine aT 9 rfl (ev_qe rfl) rfl rfl ?_ ?_ ?_ ?_; kernel_rfl; kernel_rfl; kernel_rfl
    refine aD (by kernel_rfl) ?_
    repeat (first|refine zJ rfl rfl ?_|refine jr rfl ?_|refine jn ?_|refine zM rfl rfl ?_|(refine zC rfl rfl ?_ rfl ?_;omega)|(refine zD rfl rfl ?_ rfl ?_;omega)|(refine zP rfl ?_ rfl ?_;omega)|refine zG rfl rfl rfl rfl ?_|(refine jdq rfl rfl ?_ ?_ ?_;kernel_rfl;kernel_rfl)|refine zB rfl rfl rfl (by repeat constructor) rfl ?_|refine zH .here rfl rfl rfl rfl ?_|refine zH (.there .here) rfl rfl rfl rfl ?_|refine zH (.there (.there .here)) rfl rfl rfl rfl ?_|refine zH (.there (.there (.there .here))) rfl rfl rfl rfl ?_|refine zH (.there (.there (.there (.there .here)))) rfl rfl rfl rfl ?_)
    refine J_pick (.there .here) ?_
    refine J_persist fun hh hA hd => ?_
    refine J_retv rfl (.tmp rfl (.tmp rfl .nil)) [blk r 42 (.int .i64 n :: rest)] (fun w t => ?_) (PH.le_l _ _) ⟨u3, rfl, hfin _ _ (own_slice hA hd), rfl⟩
    have t2 := t.drop
    rw [hY] at t2
    exact t2.drop
end Go.Proofs.Ytdoaloimndehbaa
