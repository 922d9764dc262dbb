/-
  The slot: what is proposed, and who prepares and commits. Conditions are typed with each.
-/
import Derived.Test.YtdoaloimndehbaaTb
namespace Go.Proofs.Ytdoaloimndehbaa
open Go.RowKit
set_option maxRecDepth 100000
/-- Operation number i comes next, and isn't wanted. -/
theorem aXB {C : Ctx} {ops : Array Oper} {fuel : Nat} {listed : Array Bool} {k : List KItem} {l : Env} {F Fs : PH} {H Hs : List Asrt} {d i : Nat} {p : Op} {T : TypeId} {pos : String} {af : Array Edge} {g : Option (Nat × Bool)} (ho : ops[i]? = some ⟨some d, p, T, pos, af, g⟩) (hr : runs ops l ⟨some d, p, T, pos, af, g⟩ = some false) (hN : Nat.blt d C.N = true)
    (h : JA C (Sat Fs Hs) ops fuel (listed.setIfInBounds i true) k ((d, undef) :: l) F H) : JA1 C (Sat Fs Hs) ops fuel listed i k l F H := by
  unfold JA at h
  unfold JA1
  intro hS a w ha hm hs
  have hd : d < C.N := Nat.le_of_ble_eq_true hN
  unfold wpOp
  rw [ho]
  dsimp only
  rw [if_neg (by rw [runs_wanted hr ha]; simp)]
  exact ⟨hS w hs, h hS _ w (ha.put hd undef) hm hs⟩
theorem faults_spec (n : Int) (h0 : -1000 ≤ n) (h1 : n ≤ 1000) (F : PH) : Pure Try.prog 65 [.int .i64 n] F (.int .i64 ((max n 1 - 1) / 3)) := by
  refine Spec.of1 Try.func65 rfl rfl fun X w0 => ?_
  repeat (first|refine zJ rfl rfl ?_|refine jr rfl ?_|refine jn ?_|refine zM rfl rfl ?_|(refine zC rfl rfl ?_ rfl ?_;omega)|(refine zD rfl rfl ?_ rfl ?_;omega)|(refine zP rfl ?_ rfl ?_;omega)|refine zG rfl rfl rfl rfl ?_|(refine jdq rfl rfl ?_ ?_ ?_;kernel_rfl;kernel_rfl)|refine zB rfl rfl rfl (by repeat constructor) rfl ?_)
  exact J_ret1 rfl rfl [] rfl (PH.ler _) ⟨rfl, rfl⟩
set_option maxHeartbeats 1000000 in
theorem quorum_spec (n : Int) (h0 : -1000 ≤ n) (h1 : n ≤ 1000) (F : PH) : Pure Try.prog 45 [.int .i64 n] F (.int .i64 (2 * ((max n 1 - 1) / 3) + 1)) := by
  refine Spec.of1 Try.func45 rfl rfl fun X w0 => ?_
  repeat (first|refine zJ rfl rfl ?_|refine jr rfl ?_|refine jn ?_|refine zM rfl rfl ?_|(refine zC rfl rfl ?_ rfl ?_;omega)|(refine zD rfl rfl ?_ rfl ?_;omega)|(refine zP rfl ?_ rfl ?_;omega)|refine zG rfl rfl rfl rfl ?_|(refine jdq rfl rfl ?_ ?_ ?_;kernel_rfl;kernel_rfl)|refine zB rfl rfl rfl (by repeat constructor) rfl ?_)
  refine oP (faults_spec n h0 h1 F) Try.call65 rfl rfl ?_
  repeat (first|refine zJ rfl rfl ?_|refine jr rfl ?_|refine jn ?_|refine zM rfl rfl ?_|(refine zC rfl rfl ?_ rfl ?_;omega)|(refine zD rfl rfl ?_ rfl ?_;omega)|(refine zP rfl ?_ rfl ?_;omega)|refine zG rfl rfl rfl rfl ?_|(refine jdq rfl rfl ?_ ?_ ?_;kernel_rfl;kernel_rfl)|refine zB rfl rfl rfl (by repeat constructor) rfl ?_)
  exact J_ret1 rfl rfl [] rfl (PH.ler _) ⟨rfl, rfl⟩
/-- A proposal: its digest, and its batch. -/
structure Pr where
  d : Dg
  v : Value
  n : Nat
  cs : List Value
def PrV (F : PH) (p : Value) : Option Pr → Prop
  | none => p = .pointer none
  | some q => ∃ pb, p = pT pb ∧ Cells F pb 0 (u8s q.d.1) ∧ Cells F pb 32 [q.v] ∧ SliceV F 8 q.v q.n q.cs
theorem PrV.mono {F G : PH} {p : Value} {o : Option Pr} (h : PrV F p o) (hl : F.le G) : PrV G p o := by
  cases o with
  | none => exact h
  | some q =>
    obtain ⟨pb, h1, h2, h3, h4⟩ := h
    exact ⟨pb, h1, h2.mono hl, h3.mono hl, h4.mono hl⟩
/-- Where a slot lies. -/
structure SA where
  s : Nat
  b1 : Nat
  v1 : Nat
  c1 : Nat
  b2 : Nat
  v2 : Nat
  c2 : Nat
def SL (A : SA) (n : Int) (p : Value) (ps cs : Vts) : List Asrt := blk A.s 96 [.int .i64 n, p, pT A.b1, pT A.b2] :: (TA A.b1 A.v1 A.c1 ps ++ TA A.b2 A.v2 A.c2 cs)
theorem snew_spec (n : Int) (h1 : 1 ≤ n) (h7 : n ≤ 7) (F : PH) : Spec Try.prog 10 [.int .i64 n] F [] fun u _ H' => ∃ A : SA, u = pT A.s ∧ H' = SL A n (.pointer none) [] [] := by
  refine Spec.of1 Try.func10 rfl rfl fun X w0 => ?_
  repeat (first|refine zJ rfl rfl ?_|refine jr rfl ?_|refine jn ?_|refine zM rfl rfl ?_|(refine zC rfl rfl ?_ rfl ?_;omega)|(refine zD rfl rfl ?_ rfl ?_;omega)|(refine zP rfl ?_ rfl ?_;omega)|refine zG rfl rfl rfl rfl ?_|(refine jdq rfl rfl ?_ ?_ ?_;kernel_rfl;kernel_rfl)|refine zB rfl rfl rfl (by repeat constructor) rfl ?_|refine zH .here rfl rfl rfl rfl ?_|refine zH (.there .here) rfl rfl rfl rfl ?_|refine zH (.there (.there .here)) rfl rfl rfl rfl ?_|refine zH (.there (.there (.there .here))) rfl rfl rfl rfl ?_|refine zH (.there (.there (.there (.there .here)))) rfl rfl rfl rfl ?_)
  refine oC (Hc := []) (Hr := X) (tnew_spec F) Try.call41 rfl rfl (fun w s => s) ?_
  rintro _ F1 _ hF1 ⟨b1, v1, c1, rfl, rfl⟩
  refine oC (Hc := []) (Hr := TA b1 v1 c1 [] ++ X) (tnew_spec F1) Try.call41 rfl rfl (fun w s => s) ?_
  rintro _ F2 _ hF2 ⟨b2, v2, c2, rfl, rfl⟩
  repeat (first|refine zJ rfl rfl ?_|refine jr rfl ?_|refine jn ?_|refine zM rfl rfl ?_|(refine zC rfl rfl ?_ rfl ?_;omega)|(refine zD rfl rfl ?_ rfl ?_;omega)|(refine zP rfl ?_ rfl ?_;omega)|refine zG rfl rfl rfl rfl ?_|(refine jdq rfl rfl ?_ ?_ ?_;kernel_rfl;kernel_rfl)|refine zB rfl rfl rfl (by repeat constructor) rfl ?_|refine zH .here rfl rfl rfl rfl ?_|refine zH (.there .here) rfl rfl rfl rfl ?_|refine zH (.there (.there .here)) rfl rfl rfl rfl ?_|refine zH (.there (.there (.there .here))) rfl rfl rfl rfl ?_|refine zH (.there (.there (.there (.there .here)))) rfl rfl rfl rfl ?_)
  refine oE (ev_box rfl .agg) rfl ?_; rintro _ _ _ _ ⟨rfl, s, rfl, rfl⟩
  repeat (first|refine zJ rfl rfl ?_|refine jr rfl ?_|refine jn ?_|refine zM rfl rfl ?_|(refine zC rfl rfl ?_ rfl ?_;omega)|(refine zD rfl rfl ?_ rfl ?_;omega)|(refine zP rfl ?_ rfl ?_;omega)|refine zG rfl rfl rfl rfl ?_|(refine jdq rfl rfl ?_ ?_ ?_;kernel_rfl;kernel_rfl)|refine zB rfl rfl rfl (by repeat constructor) rfl ?_|refine zH .here rfl rfl rfl rfl ?_|refine zH (.there .here) rfl rfl rfl rfl ?_|refine zH (.there (.there .here)) rfl rfl rfl rfl ?_|refine zH (.there (.there (.there .here))) rfl rfl rfl rfl ?_|refine zH (.there (.there (.there (.there .here)))) rfl rfl rfl rfl ?_)
  refine J_retv rfl (.tmp rfl .nil) (SL ⟨s, b1, v1, c1, b2, v2, c2⟩ n (.pointer none) [] []) (fun w t => ?_) (hF1.trans hF2) ⟨⟨s, b1, v1, c1, b2, v2, c2⟩, rfl, rfl⟩
  exact t.perm (.cons _ (List.perm_append_comm_assoc (TA b2 v2 c2 []) (TA b1 v1 c1 []) X))
/-- One more vote, and how it ends. -/
def voteP (n : Int) (vs : Vts) (who : Int) (d : Dg) : Int × Vts :=
  if who < 0 ∨ n ≤ who then (17, vs) else match hasV vs who with
    | none => (0, vs ++ [(who, d)])
    | some e => (if e = d then 15 else 2, vs)
set_option maxHeartbeats 4000000 in
theorem vote_spec (s b bv bc : Nat) (n : Int) (r : List Value) (vs : Vts) (who : Int) (d : Dg) (F : PH) (hn : vs.length ≤ 1000) :
    Spec Try.prog 43 [pT s, pT b, .int .i64 who, d.v] F (blk s 96 (.int .i64 n :: r) :: TA b bv bc vs) fun u _ H' => u = .int .i64 (voteP n vs who d).1 ∧ H' = blk s 96 (.int .i64 n :: r) :: TA b bv bc (voteP n vs who d).2 := by
  refine Spec.of4 Try.func43 rfl rfl fun X w0 => ?_
  dsimp only [List.cons_append]
  unfold voteP
  repeat (first|refine zJ rfl rfl ?_|refine jr rfl ?_|refine jn ?_|refine zM rfl rfl ?_|(refine zC rfl rfl ?_ rfl ?_;omega)|(refine zD rfl rfl ?_ rfl ?_;omega)|(refine zP rfl ?_ rfl ?_;omega)|refine zG rfl rfl rfl rfl ?_|(refine jdq rfl rfl ?_ ?_ ?_;kernel_rfl;kernel_rfl)|refine zB rfl rfl rfl (by repeat constructor) rfl ?_|refine zH .here rfl rfl rfl rfl ?_|refine zH (.there .here) rfl rfl rfl rfl ?_|refine zH (.there (.there .here)) rfl rfl rfl rfl ?_|refine zH (.there (.there (.there .here))) rfl rfl rfl rfl ?_|refine zH (.there (.there (.there (.there .here)))) rfl rfl rfl rfl ?_)
  refine oE (ev_box rfl .agg) rfl ?_; rintro _ _ _ _ ⟨rfl, b7, rfl, rfl⟩
  by_cases h0 : who < 0
  · rw [if_pos (.inl h0)]
    repeat (first|refine zJ rfl rfl ?_|refine jr rfl ?_|refine jn ?_|refine zM rfl rfl ?_|(refine zC rfl rfl ?_ rfl ?_;omega)|(refine zD rfl rfl ?_ rfl ?_;omega)|(refine zP rfl ?_ rfl ?_;omega)|refine zG rfl rfl rfl rfl ?_|(refine jdq rfl rfl ?_ ?_ ?_;kernel_rfl;kernel_rfl)|refine zB rfl rfl rfl (by repeat constructor) rfl ?_|refine zH .here rfl rfl rfl rfl ?_|refine zH (.there .here) rfl rfl rfl rfl ?_|refine zH (.there (.there .here)) rfl rfl rfl rfl ?_|refine zH (.there (.there (.there .here))) rfl rfl rfl rfl ?_|refine zH (.there (.there (.there (.there .here)))) rfl rfl rfl rfl ?_)
    exact J_retv rfl (.tmp rfl .nil) _ (fun w s => s.drop) (PH.ler _) ⟨rfl, rfl⟩
  by_cases h1 : n ≤ who
  · rw [if_pos (.inr h1)]
    repeat (first|refine zJ rfl rfl ?_|refine jr rfl ?_|refine jn ?_|refine zM rfl rfl ?_|(refine zC rfl rfl ?_ rfl ?_;omega)|(refine zD rfl rfl ?_ rfl ?_;omega)|(refine zP rfl ?_ rfl ?_;omega)|refine zG rfl rfl rfl rfl ?_|(refine jdq rfl rfl ?_ ?_ ?_;kernel_rfl;kernel_rfl)|refine zB rfl rfl rfl (by repeat constructor) rfl ?_|refine zH .here rfl rfl rfl rfl ?_|refine zH (.there .here) rfl rfl rfl rfl ?_|refine zH (.there (.there .here)) rfl rfl rfl rfl ?_|refine zH (.there (.there (.there .here))) rfl rfl rfl rfl ?_|refine zH (.there (.there (.there (.there .here)))) rfl rfl rfl rfl ?_)
    exact J_retv rfl (.tmp rfl .nil) _ (fun w s => s.drop) (PH.ler _) ⟨rfl, rfl⟩
  rw [if_neg (by omega)]
  repeat (first|refine zJ rfl rfl ?_|refine jr rfl ?_|refine jn ?_|refine zM rfl rfl ?_|(refine zC rfl rfl ?_ rfl ?_;omega)|(refine zD rfl rfl ?_ rfl ?_;omega)|(refine zP rfl ?_ rfl ?_;omega)|refine zG rfl rfl rfl rfl ?_|(refine jdq rfl rfl ?_ ?_ ?_;kernel_rfl;kernel_rfl)|refine zB rfl rfl rfl (by repeat constructor) rfl ?_|refine zH .here rfl rfl rfl rfl ?_|refine zH (.there .here) rfl rfl rfl rfl ?_|refine zH (.there (.there .here)) rfl rfl rfl rfl ?_|refine zH (.there (.there (.there .here))) rfl rfl rfl rfl ?_|refine zH (.there (.there (.there (.there .here)))) rfl rfl rfl rfl ?_)
  refine oC (Hc := TA b bv bc vs) (Hr := blk b7 29 (u8s d.1) :: blk s 96 (.int .i64 n :: r) :: X) (of_spec b bv bc vs who F) Try.call47 rfl rfl (fun w s => s.front (A := [_, _])) ?_
  rintro _ F1 _ hF1 ⟨rfl, rfl⟩
  dsimp only [TA, List.cons_append, List.nil_append]
  cases hv : hasV vs who with
  | none =>
    dsimp only [voteV]
    repeat (first|refine zJ rfl rfl ?_|refine jr rfl ?_|refine jn ?_|refine zM rfl rfl ?_|(refine zC rfl rfl ?_ rfl ?_;omega)|(refine zD rfl rfl ?_ rfl ?_;omega)|(refine zP rfl ?_ rfl ?_;omega)|refine zG rfl rfl rfl rfl ?_|(refine jdq rfl rfl ?_ ?_ ?_;kernel_rfl;kernel_rfl)|refine zB rfl rfl rfl (by repeat constructor) rfl ?_|refine zH .here rfl rfl rfl rfl ?_|refine zH (.there .here) rfl rfl rfl rfl ?_|refine zH (.there (.there .here)) rfl rfl rfl rfl ?_|refine zH (.there (.there (.there .here))) rfl rfl rfl rfl ?_|refine zH (.there (.there (.there (.there .here)))) rfl rfl rfl rfl ?_)
    refine oE (ev_alloc (cs := u8s zDg.1) rfl) rfl ?_; rintro _ _ _ _ ⟨rfl, b9, rfl, rfl⟩
    refine oN (ev_store rfl rfl .agg rfl (dig_len (zDg)) (lay_D (zDg) zDg) (dig_ones (zDg)) (.here)) rfl ?_; rintro _ _ _ _ ⟨rfl, _, rfl⟩
    repeat (first|refine zJ rfl rfl ?_|refine jr rfl ?_|refine jn ?_|refine zM rfl rfl ?_|(refine zC rfl rfl ?_ rfl ?_;omega)|(refine zD rfl rfl ?_ rfl ?_;omega)|(refine zP rfl ?_ rfl ?_;omega)|refine zG rfl rfl rfl rfl ?_|(refine jdq rfl rfl ?_ ?_ ?_;kernel_rfl;kernel_rfl)|refine zB rfl rfl rfl (by repeat constructor) rfl ?_|refine zH .here rfl rfl rfl rfl ?_|refine zH (.there .here) rfl rfl rfl rfl ?_|refine zH (.there (.there .here)) rfl rfl rfl rfl ?_|refine zH (.there (.there (.there .here))) rfl rfl rfl rfl ?_|refine zH (.there (.there (.there (.there .here)))) rfl rfl rfl rfl ?_)
    refine oS (ev_ldD (.there (.there (.there (.there .here)))) rfl (dig_all _)) rfl ?_
    refine oC (Hc := TA b bv bc vs) (Hr := blk b9 29 (u8s zDg.1) :: blk b7 29 (u8s d.1) :: blk s 96 (.int .i64 n :: r) :: X) (add_spec b bv bc vs who d F1 hv hn) Try.call64 rfl rfl (fun w s => s.front (A := [_]) (B := TA b bv bc vs)) ?_
    rintro _ F2 _ hF2 ⟨rfl, rfl⟩
    repeat (first|refine zJ rfl rfl ?_|refine jr rfl ?_|refine jn ?_|refine zM rfl rfl ?_|(refine zC rfl rfl ?_ rfl ?_;omega)|(refine zD rfl rfl ?_ rfl ?_;omega)|(refine zP rfl ?_ rfl ?_;omega)|refine zG rfl rfl rfl rfl ?_|(refine jdq rfl rfl ?_ ?_ ?_;kernel_rfl;kernel_rfl)|refine zB rfl rfl rfl (by repeat constructor) rfl ?_|refine zH .here rfl rfl rfl rfl ?_|refine zH (.there .here) rfl rfl rfl rfl ?_|refine zH (.there (.there .here)) rfl rfl rfl rfl ?_|refine zH (.there (.there (.there .here))) rfl rfl rfl rfl ?_|refine zH (.there (.there (.there (.there .here)))) rfl rfl rfl rfl ?_)
    exact J_retv rfl (.tmp rfl .nil) _ (fun w t => (t.front (A := TA b bv bc (vs ++ [(who, d)])) (B := [_, _, _]) (C := X)).drop.drop) (hF1.trans hF2) ⟨rfl, rfl⟩
  | some e =>
    dsimp only [voteV]
    repeat (first|refine zJ rfl rfl ?_|refine jr rfl ?_|refine jn ?_|refine zM rfl rfl ?_|(refine zC rfl rfl ?_ rfl ?_;omega)|(refine zD rfl rfl ?_ rfl ?_;omega)|(refine zP rfl ?_ rfl ?_;omega)|refine zG rfl rfl rfl rfl ?_|(refine jdq rfl rfl ?_ ?_ ?_;kernel_rfl;kernel_rfl)|refine zB rfl rfl rfl (by repeat constructor) rfl ?_|refine zH .here rfl rfl rfl rfl ?_|refine zH (.there .here) rfl rfl rfl rfl ?_|refine zH (.there (.there .here)) rfl rfl rfl rfl ?_|refine zH (.there (.there (.there .here))) rfl rfl rfl rfl ?_|refine zH (.there (.there (.there (.there .here)))) rfl rfl rfl rfl ?_)
    refine oE (ev_alloc (cs := u8s zDg.1) rfl) rfl ?_; rintro _ _ _ _ ⟨rfl, b9, rfl, rfl⟩
    refine oN (ev_store rfl rfl .agg rfl (dig_len (e)) (lay_D (e) zDg) (dig_ones (e)) (.here)) rfl ?_; rintro _ _ _ _ ⟨rfl, _, rfl⟩
    repeat (first|refine zJ rfl rfl ?_|refine jr rfl ?_|refine jn ?_|refine zM rfl rfl ?_|(refine zC rfl rfl ?_ rfl ?_;omega)|(refine zD rfl rfl ?_ rfl ?_;omega)|(refine zP rfl ?_ rfl ?_;omega)|refine zG rfl rfl rfl rfl ?_|(refine jdq rfl rfl ?_ ?_ ?_;kernel_rfl;kernel_rfl)|refine zB rfl rfl rfl (by repeat constructor) rfl ?_|refine zH .here rfl rfl rfl rfl ?_|refine zH (.there .here) rfl rfl rfl rfl ?_|refine zH (.there (.there .here)) rfl rfl rfl rfl ?_|refine zH (.there (.there (.there .here))) rfl rfl rfl rfl ?_|refine zH (.there (.there (.there (.there .here)))) rfl rfl rfl rfl ?_)
    refine oS (ev_ldD (.here) rfl (dig_all _)) rfl ?_
    refine oS (ev_ldD (.there (.there (.there (.there .here)))) rfl (dig_all _)) rfl ?_
    refine oS (ev_eqD (d := e) (e := d) rfl rfl) rfl ?_
    by_cases hed : e = d
    · rw [if_pos hed, decide_eq_true hed]
      repeat (first|refine zJ rfl rfl ?_|refine jr rfl ?_|refine jn ?_|refine zM rfl rfl ?_|(refine zC rfl rfl ?_ rfl ?_;omega)|(refine zD rfl rfl ?_ rfl ?_;omega)|(refine zP rfl ?_ rfl ?_;omega)|refine zG rfl rfl rfl rfl ?_|(refine jdq rfl rfl ?_ ?_ ?_;kernel_rfl;kernel_rfl)|refine zB rfl rfl rfl (by repeat constructor) rfl ?_|refine zH .here rfl rfl rfl rfl ?_|refine zH (.there .here) rfl rfl rfl rfl ?_|refine zH (.there (.there .here)) rfl rfl rfl rfl ?_|refine zH (.there (.there (.there .here))) rfl rfl rfl rfl ?_|refine zH (.there (.there (.there (.there .here)))) rfl rfl rfl rfl ?_)
      exact J_retv rfl (.tmp rfl .nil) _ (fun w t => (t.drop.front (A := TA b bv bc vs) (B := [_, _]) (C := X)).drop) (hF1) ⟨rfl, rfl⟩
    · rw [if_neg hed, decide_eq_false hed]
      repeat (first|refine zJ rfl rfl ?_|refine jr rfl ?_|refine jn ?_|refine zM rfl rfl ?_|(refine zC rfl rfl ?_ rfl ?_;omega)|(refine zD rfl rfl ?_ rfl ?_;omega)|(refine zP rfl ?_ rfl ?_;omega)|refine zG rfl rfl rfl rfl ?_|(refine jdq rfl rfl ?_ ?_ ?_;kernel_rfl;kernel_rfl)|refine zB rfl rfl rfl (by repeat constructor) rfl ?_|refine zH .here rfl rfl rfl rfl ?_|refine zH (.there .here) rfl rfl rfl rfl ?_|refine zH (.there (.there .here)) rfl rfl rfl rfl ?_|refine zH (.there (.there (.there .here))) rfl rfl rfl rfl ?_|refine zH (.there (.there (.there (.there .here)))) rfl rfl rfl rfl ?_)
      exact J_retv rfl (.tmp rfl .nil) _ (fun w t => (t.drop.front (A := TA b bv bc vs) (B := [_, _]) (C := X)).drop) (hF1) ⟨rfl, rfl⟩
end Go.Proofs.Ytdoaloimndehbaa
