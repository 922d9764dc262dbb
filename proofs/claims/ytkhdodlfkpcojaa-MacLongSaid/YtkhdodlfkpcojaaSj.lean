/-
  The document's constants are the table's. No condition.
-/
import Derived.Test.YtkhdodlfkpcojaaSi
namespace Go.Proofs.Ytkhdodlfkpcojaa
open Go.RowKit
def conS : Nat → Nat × List W × List W
  | 0 => (2, [], [])
  | n + 1 => let s := conS n
    if primeN s.1 then (s.1 + 1, s.2.1 ++ [BitVec.ofNat 32 (rootN s.1 true)], if s.2.2.length < 8 then s.2.2 ++ [BitVec.ofNat 32 (rootN s.1 false)] else s.2.2) else (s.1 + 1, s.2.1, s.2.2)
theorem conS_p (n : Nat) : (conS n).1 = n + 2 := by
  induction n with
  | zero => rfl
  | succ n ih => unfold conS; dsimp only; split <;> simp [ih]
theorem conS_yes {n : Nat} (h : primeN (n + 2) = true) : conS (n + 1) = (n + 3, (conS n).2.1 ++ [BitVec.ofNat 32 (rootN (n + 2) true)], if (conS n).2.2.length < 8 then (conS n).2.2 ++ [BitVec.ofNat 32 (rootN (n + 2) false)] else (conS n).2.2) := by
  have := conS_p n
  show (if primeN (conS n).1 then _ else _) = _
  rw [this, h]; rfl
theorem conS_no {n : Nat} (h : primeN (n + 2) = false) : conS (n + 1) = (n + 3, (conS n).2.1, (conS n).2.2) := by
  have := conS_p n
  show (if primeN (conS n).1 then _ else _) = _
  rw [this, h]; rfl
theorem conS_mono (n : Nat) : (conS n).2.1.length ≤ (conS (n + 1)).2.1.length := by
  cases h : primeN (n + 2) with
  | true => rw [conS_yes h]; simp
  | false => rw [conS_no h]; simp
theorem conS_le (m n : Nat) : (conS m).2.1.length ≤ (conS (m + n)).2.1.length := by
  induction n with
  | zero => exact Nat.le_refl _
  | succ n ih => exact Nat.le_trans ih (conS_mono _)
theorem conS_end : (conS 310).2 = (kW, hW) := by decide +kernel
theorem conS_309 : (conS 309).2.1.length = 63 := by decide +kernel
theorem conS_lt {n : Nat} (h : n ≤ 309) : (conS n).2.1.length < 64 := by
  have := conS_le n (309 - n)
  rw [show n + (309 - n) = 309 from by omega, conS_309] at this
  omega
theorem conS_h8 (n : Nat) : (conS n).2.2.length ≤ 8 := by
  induction n with
  | zero => exact Nat.zero_le _
  | succ n ih =>
    cases h : primeN (n + 2) with
    | true =>
      rw [conS_yes h]
      dsimp only
      split
      · rw [List.length_append, List.length_singleton]; omega
      · exact ih
    | false => rw [conS_no h]; exact ih
theorem elW : Elem Try.prog 52 22 1 4 (.int .u32 0) := ⟨rfl, ⟨_, rfl, rfl, rfl, rfl, rfl, by decide⟩, rfl, rfl⟩
abbrev wrow (v : Value) (l : List W) : Asrt := own v 22 1 l.length (w32s l)
theorem w32s_app (a b : List W) : w32s (a ++ b) = w32s a ++ w32s b := by simp [w32s]
/-- One word more. -/
theorem ow_push {C : Ctx} {ops : Array Oper} {rest : List Oper} {k : List KItem} {l : Env} {F : PH} {H : List Asrt} {d1 d2 : Nat} {U1 U2 : TypeId} {pos1 pos2 : String} {af1 af2 : Array Edge} {g1 g2 : Option (Nat × Bool)} {x y : Operand} {v : Value} {L : List W} {b : W} {K : Value → List Asrt}
    (hP : C.P = Try.prog) (hx : ∀ w, opv ((d1, w) :: l) x = some v) (hy : opv l y = some (w32 b)) (hb : L.length < 1048576)
    (hu : ∀ v', Upd (wrow v L) (wrow v' (L ++ [b])) H (K v'))
    (hr1 : runs ops l ⟨some d1, .buildSlice 52 1 #[(0, y)], U1, pos1, af1, g1⟩ = some true)
    (hr2 : ∀ w, runs ops ((d1, w) :: l) ⟨some d2, .call { callee := .builtin .append, args := #[x, .tmp d1], argTypes := #[52, 52] }, U2, pos2, af2, g2⟩ = some true)
    (h : ∀ u w, JM C false ops rest k ((d2, u) :: (d1, w) :: l) F (K u)) :
    JM C false ops (⟨some d1, .buildSlice 52 1 #[(0, y)], U1, pos1, af1, g1⟩ :: ⟨some d2, .call { callee := .builtin .append, args := #[x, .tmp d1], argTypes := #[52, 52] }, U2, pos2, af2, g2⟩ :: rest) k l F H :=
  oA (E := 22) (size := 1) (bytes := 4) (n := L.length) (xs := w32s L) (vs := [w32 b]) hx hy .int rfl (hP ▸ elW) (ones_cons rfl ones_nil) (by omega)
    (fun v' => by have := hu v'; unfold wrow at this; rwa [w32s_app, List.length_append] at this) hr1 hr2 h
set_option maxHeartbeats 8000000 in
theorem constants_spec (F : PH) : Spec Try.prog 26 [] F [] fun u F' H' => F = F' ∧ ∃ v v', u = .tuple #[v, v'] ∧ H' = [wrow v kW, wrow v' hW] := by
  refine Spec.of0 Try.func26 rfl fun X w0 => ?_
  repeat (first | refine jc rfl rfl ?_ | refine jr rfl ?_ | refine jn ?_ | refine oM rfl rfl ?_ | refine oS (ev_pv rfl) rfl ?_ | refine oX rfl ?_ | refine J_cond_t rfl ?_ | refine J_cond_f rfl ?_ | refine oS (eb rfl) rfl ?_ | (refine oS (ev_cmp_t rfl rfl ?_) rfl ?_; (dsimp only [cmpP] <;> omega)) | (refine oS (ev_cmp_f rfl rfl ?_) rfl ?_; (dsimp only [cmpN] <;> omega)) | (refine oS (ea rfl rfl rfl ?_) rfl ?_; (dsimp only [InK]; first | omega | exact ⟨Int.natCast_nonneg _, by omega⟩)) | (refine oS (ed rfl rfl rfl ?_ ?_ ?_) rfl ?_; (first | omega | exact Int.natCast_nonneg _); (first | omega | exact Int.natCast_nonneg _); (dsimp only [InK]; first | omega | exact ⟨Int.natCast_nonneg _, by omega⟩)) | refine oS (ev_fieldAddr rfl rfl) rfl ?_ | (refine oS (ev_conv rfl rfl rfl (wrap_in ?_)) rfl ?_; (dsimp only [InK]; first | omega | exact ⟨Int.natCast_nonneg _, by omega⟩)) | refine oS (ev_bool_eql rfl rfl rfl) rfl ?_ | refine oS (eg rfl rfl rfl) rfl ?_ | (refine jdq rfl rfl ?_ ?_ ?_; kernel_rfl; kernel_rfl) | (refine oS (ev_build (t := ?_) rfl rfl rfl ?_) rfl ?_; rotate_left; (repeat (first | exact FillF.nil | refine FillF.cons (by constructor) rfl rfl (by repeat constructor) ?_))) | refine oS (ev_ptr_eql_nil rfl rfl rfl) rfl ?_)
  refine J_own_nil 22 1 ?_
  refine J_own_nil 22 1 ?_
  refine J_loop3 (fun (n : Nat) (_ _ : Value) => n ≤ 310) (fun n _ _ => 310 - n) (fun n v v' => [(2, v), (3, v'), (4, .int .u64 ((n + 2 : Nat) : Int))]) (fun _ _ _ => F) (fun n v v' => wrow v (conS n).2.1 :: wrow v' (conS n).2.2 :: X) 0 (.slice none 0 0) (.slice none 0 0) (Nat.zero_le _) ⟨⟨rfl, rfl, rfl, trivial⟩, fun _ s => s⟩ ?_
  intro n v v' hn
  refine jWith .here OwnForm.of fun hfx => ?_
  obtain ⟨av, cv, rfl, hcv, _, _⟩ := hfx
  refine jWith (.there .here) OwnForm.of fun hfx => ?_
  obtain ⟨aw, cw, rfl, hcw, _, _⟩ := hfx
  by_cases h310 : n < 310
  · have hlt := conS_lt (n := n) (by omega)
    have h8 := conS_h8 n
    have hps := prime_spec (n + 2) (by omega) F
    have e3 : ((n + 2 : Nat) : Int) + 1 = ((n + 1 + 2 : Nat) : Int) := by omega
    cases hp : primeN (n + 2) with
    | false =>
      have hc := conS_no hp
      rw [hp] at hps
      repeat (first | refine jc rfl rfl ?_ | refine jr rfl ?_ | refine jn ?_ | refine oM rfl rfl ?_ | refine oS (ev_pv rfl) rfl ?_ | refine oX rfl ?_ | refine J_cond_t rfl ?_ | refine J_cond_f rfl ?_ | refine oS (eb rfl) rfl ?_ | (refine oS (ev_cmp_t rfl rfl ?_) rfl ?_; (dsimp only [cmpP] <;> omega)) | (refine oS (ev_cmp_f rfl rfl ?_) rfl ?_; (dsimp only [cmpN] <;> omega)) | (refine oS (ea rfl rfl rfl ?_) rfl ?_; (dsimp only [InK]; first | omega | exact ⟨Int.natCast_nonneg _, by omega⟩)) | (refine oS (ed rfl rfl rfl ?_ ?_ ?_) rfl ?_; (first | omega | exact Int.natCast_nonneg _); (first | omega | exact Int.natCast_nonneg _); (dsimp only [InK]; first | omega | exact ⟨Int.natCast_nonneg _, by omega⟩)) | refine oS (ev_fieldAddr rfl rfl) rfl ?_ | (refine oS (ev_conv rfl rfl rfl (wrap_in ?_)) rfl ?_; (dsimp only [InK]; first | omega | exact ⟨Int.natCast_nonneg _, by omega⟩)) | refine oS (ev_bool_eql rfl rfl rfl) rfl ?_ | refine oS (eg rfl rfl rfl) rfl ?_ | (refine jdq rfl rfl ?_ ?_ ?_; kernel_rfl; kernel_rfl) | (refine oS (ev_build (t := ?_) rfl rfl rfl ?_) rfl ?_; rotate_left; (repeat (first | exact FillF.nil | refine FillF.cons (by constructor) rfl rfl (by repeat constructor) ?_))) | refine oS (ev_ptr_eql_nil rfl rfl rfl) rfl ?_)
      refine oP (hps) Try.call38 rfl rfl ?_
      repeat (first | refine jc rfl rfl ?_ | refine jr rfl ?_ | refine jn ?_ | refine oM rfl rfl ?_ | refine oS (ev_pv rfl) rfl ?_ | refine oX rfl ?_ | refine J_cond_t rfl ?_ | refine J_cond_f rfl ?_ | refine oS (eb rfl) rfl ?_ | (refine oS (ev_cmp_t rfl rfl ?_) rfl ?_; (dsimp only [cmpP] <;> omega)) | (refine oS (ev_cmp_f rfl rfl ?_) rfl ?_; (dsimp only [cmpN] <;> omega)) | (refine oS (ea rfl rfl rfl ?_) rfl ?_; (dsimp only [InK]; first | omega | exact ⟨Int.natCast_nonneg _, by omega⟩)) | (refine oS (ed rfl rfl rfl ?_ ?_ ?_) rfl ?_; (first | omega | exact Int.natCast_nonneg _); (first | omega | exact Int.natCast_nonneg _); (dsimp only [InK]; first | omega | exact ⟨Int.natCast_nonneg _, by omega⟩)) | refine oS (ev_fieldAddr rfl rfl) rfl ?_ | (refine oS (ev_conv rfl rfl rfl (wrap_in ?_)) rfl ?_; (dsimp only [InK]; first | omega | exact ⟨Int.natCast_nonneg _, by omega⟩)) | refine oS (ev_bool_eql rfl rfl rfl) rfl ?_ | refine oS (eg rfl rfl rfl) rfl ?_ | (refine jdq rfl rfl ?_ ?_ ?_; kernel_rfl; kernel_rfl) | (refine oS (ev_build (t := ?_) rfl rfl rfl ?_) rfl ?_; rotate_left; (repeat (first | exact FillF.nil | refine FillF.cons (by constructor) rfl rfl (by repeat constructor) ?_))) | refine oS (ev_ptr_eql_nil rfl rfl rfl) rfl ?_)
      refine J_again3 (n + 1) _ _ (by omega) (by omega) ⟨⟨rfl, rfl, by rw [← e3]; rfl, trivial⟩, fun w s => ?_⟩
      rw [hc]
      exact s
    | true =>
      have hc := conS_yes hp
      rw [hp] at hps
      have hr1 := root_spec (n + 2) true (by omega) F
      have hr2 := root_spec (n + 2) false (by omega) F
      generalize hk : (conS n).2.1 = ks at *
      generalize hh : (conS n).2.2 = hs at *
      repeat (first | refine jc rfl rfl ?_ | refine jr rfl ?_ | refine jn ?_ | refine oM rfl rfl ?_ | refine oS (ev_pv rfl) rfl ?_ | refine oX rfl ?_ | refine J_cond_t rfl ?_ | refine J_cond_f rfl ?_ | refine oS (eb rfl) rfl ?_ | (refine oS (ev_cmp_t rfl rfl ?_) rfl ?_; (dsimp only [cmpP] <;> omega)) | (refine oS (ev_cmp_f rfl rfl ?_) rfl ?_; (dsimp only [cmpN] <;> omega)) | (refine oS (ea rfl rfl rfl ?_) rfl ?_; (dsimp only [InK]; first | omega | exact ⟨Int.natCast_nonneg _, by omega⟩)) | (refine oS (ed rfl rfl rfl ?_ ?_ ?_) rfl ?_; (first | omega | exact Int.natCast_nonneg _); (first | omega | exact Int.natCast_nonneg _); (dsimp only [InK]; first | omega | exact ⟨Int.natCast_nonneg _, by omega⟩)) | refine oS (ev_fieldAddr rfl rfl) rfl ?_ | (refine oS (ev_conv rfl rfl rfl (wrap_in ?_)) rfl ?_; (dsimp only [InK]; first | omega | exact ⟨Int.natCast_nonneg _, by omega⟩)) | refine oS (ev_bool_eql rfl rfl rfl) rfl ?_ | refine oS (eg rfl rfl rfl) rfl ?_ | (refine jdq rfl rfl ?_ ?_ ?_; kernel_rfl; kernel_rfl) | (refine oS (ev_build (t := ?_) rfl rfl rfl ?_) rfl ?_; rotate_left; (repeat (first | exact FillF.nil | refine FillF.cons (by constructor) rfl rfl (by repeat constructor) ?_))) | refine oS (ev_ptr_eql_nil rfl rfl rfl) rfl ?_)
      refine oP (hps) Try.call38 rfl rfl ?_
      repeat (first | refine jc rfl rfl ?_ | refine jr rfl ?_ | refine jn ?_ | refine oM rfl rfl ?_ | refine oS (ev_pv rfl) rfl ?_ | refine oX rfl ?_ | refine J_cond_t rfl ?_ | refine J_cond_f rfl ?_ | refine oS (eb rfl) rfl ?_ | (refine oS (ev_cmp_t rfl rfl ?_) rfl ?_; (dsimp only [cmpP] <;> omega)) | (refine oS (ev_cmp_f rfl rfl ?_) rfl ?_; (dsimp only [cmpN] <;> omega)) | (refine oS (ea rfl rfl rfl ?_) rfl ?_; (dsimp only [InK]; first | omega | exact ⟨Int.natCast_nonneg _, by omega⟩)) | (refine oS (ed rfl rfl rfl ?_ ?_ ?_) rfl ?_; (first | omega | exact Int.natCast_nonneg _); (first | omega | exact Int.natCast_nonneg _); (dsimp only [InK]; first | omega | exact ⟨Int.natCast_nonneg _, by omega⟩)) | refine oS (ev_fieldAddr rfl rfl) rfl ?_ | (refine oS (ev_conv rfl rfl rfl (wrap_in ?_)) rfl ?_; (dsimp only [InK]; first | omega | exact ⟨Int.natCast_nonneg _, by omega⟩)) | refine oS (ev_bool_eql rfl rfl rfl) rfl ?_ | refine oS (eg rfl rfl rfl) rfl ?_ | (refine jdq rfl rfl ?_ ?_ ?_; kernel_rfl; kernel_rfl) | (refine oS (ev_build (t := ?_) rfl rfl rfl ?_) rfl ?_; rotate_left; (repeat (first | exact FillF.nil | refine FillF.cons (by constructor) rfl rfl (by repeat constructor) ?_))) | refine oS (ev_ptr_eql_nil rfl rfl rfl) rfl ?_)
      refine oP (hr1) Try.call39 rfl rfl ?_
      refine ow_push (L := ks) rfl (fun _ => rfl) rfl (by omega) (fun v' => .here) rfl (fun _ => rfl) fun u w => ?_
      by_cases hl8 : hs.length < 8
      · rw [if_pos hl8] at hc
        repeat (first | refine jc rfl rfl ?_ | refine jr rfl ?_ | refine jn ?_ | refine oM rfl rfl ?_ | refine oS (ev_pv rfl) rfl ?_ | refine oX rfl ?_ | refine J_cond_t rfl ?_ | refine J_cond_f rfl ?_ | refine oS (eb rfl) rfl ?_ | (refine oS (ev_cmp_t rfl rfl ?_) rfl ?_; (dsimp only [cmpP] <;> omega)) | (refine oS (ev_cmp_f rfl rfl ?_) rfl ?_; (dsimp only [cmpN] <;> omega)) | (refine oS (ea rfl rfl rfl ?_) rfl ?_; (dsimp only [InK]; first | omega | exact ⟨Int.natCast_nonneg _, by omega⟩)) | (refine oS (ed rfl rfl rfl ?_ ?_ ?_) rfl ?_; (first | omega | exact Int.natCast_nonneg _); (first | omega | exact Int.natCast_nonneg _); (dsimp only [InK]; first | omega | exact ⟨Int.natCast_nonneg _, by omega⟩)) | refine oS (ev_fieldAddr rfl rfl) rfl ?_ | (refine oS (ev_conv rfl rfl rfl (wrap_in ?_)) rfl ?_; (dsimp only [InK]; first | omega | exact ⟨Int.natCast_nonneg _, by omega⟩)) | refine oS (ev_bool_eql rfl rfl rfl) rfl ?_ | refine oS (eg rfl rfl rfl) rfl ?_ | (refine jdq rfl rfl ?_ ?_ ?_; kernel_rfl; kernel_rfl) | (refine oS (ev_build (t := ?_) rfl rfl rfl ?_) rfl ?_; rotate_left; (repeat (first | exact FillF.nil | refine FillF.cons (by constructor) rfl rfl (by repeat constructor) ?_))) | refine oS (ev_ptr_eql_nil rfl rfl rfl) rfl ?_)
        refine oP (hr2) Try.call39 rfl rfl ?_
        refine ow_push (L := hs) rfl (fun _ => rfl) rfl (by omega) (fun v' => .there .here) rfl (fun _ => rfl) fun u2 w2 => ?_
        repeat (first | refine jc rfl rfl ?_ | refine jr rfl ?_ | refine jn ?_ | refine oM rfl rfl ?_ | refine oS (ev_pv rfl) rfl ?_ | refine oX rfl ?_ | refine J_cond_t rfl ?_ | refine J_cond_f rfl ?_ | refine oS (eb rfl) rfl ?_ | (refine oS (ev_cmp_t rfl rfl ?_) rfl ?_; (dsimp only [cmpP] <;> omega)) | (refine oS (ev_cmp_f rfl rfl ?_) rfl ?_; (dsimp only [cmpN] <;> omega)) | (refine oS (ea rfl rfl rfl ?_) rfl ?_; (dsimp only [InK]; first | omega | exact ⟨Int.natCast_nonneg _, by omega⟩)) | (refine oS (ed rfl rfl rfl ?_ ?_ ?_) rfl ?_; (first | omega | exact Int.natCast_nonneg _); (first | omega | exact Int.natCast_nonneg _); (dsimp only [InK]; first | omega | exact ⟨Int.natCast_nonneg _, by omega⟩)) | refine oS (ev_fieldAddr rfl rfl) rfl ?_ | (refine oS (ev_conv rfl rfl rfl (wrap_in ?_)) rfl ?_; (dsimp only [InK]; first | omega | exact ⟨Int.natCast_nonneg _, by omega⟩)) | refine oS (ev_bool_eql rfl rfl rfl) rfl ?_ | refine oS (eg rfl rfl rfl) rfl ?_ | (refine jdq rfl rfl ?_ ?_ ?_; kernel_rfl; kernel_rfl) | (refine oS (ev_build (t := ?_) rfl rfl rfl ?_) rfl ?_; rotate_left; (repeat (first | exact FillF.nil | refine FillF.cons (by constructor) rfl rfl (by repeat constructor) ?_))) | refine oS (ev_ptr_eql_nil rfl rfl rfl) rfl ?_)
        refine J_again3 (n + 1) _ _ (by omega) (by omega) ⟨⟨rfl, rfl, by rw [← e3]; rfl, trivial⟩, fun w s => ?_⟩
        rw [hc]
        exact s
      · rw [if_neg hl8] at hc
        repeat (first | refine jc rfl rfl ?_ | refine jr rfl ?_ | refine jn ?_ | refine oM rfl rfl ?_ | refine oS (ev_pv rfl) rfl ?_ | refine oX rfl ?_ | refine J_cond_t rfl ?_ | refine J_cond_f rfl ?_ | refine oS (eb rfl) rfl ?_ | (refine oS (ev_cmp_t rfl rfl ?_) rfl ?_; (dsimp only [cmpP] <;> omega)) | (refine oS (ev_cmp_f rfl rfl ?_) rfl ?_; (dsimp only [cmpN] <;> omega)) | (refine oS (ea rfl rfl rfl ?_) rfl ?_; (dsimp only [InK]; first | omega | exact ⟨Int.natCast_nonneg _, by omega⟩)) | (refine oS (ed rfl rfl rfl ?_ ?_ ?_) rfl ?_; (first | omega | exact Int.natCast_nonneg _); (first | omega | exact Int.natCast_nonneg _); (dsimp only [InK]; first | omega | exact ⟨Int.natCast_nonneg _, by omega⟩)) | refine oS (ev_fieldAddr rfl rfl) rfl ?_ | (refine oS (ev_conv rfl rfl rfl (wrap_in ?_)) rfl ?_; (dsimp only [InK]; first | omega | exact ⟨Int.natCast_nonneg _, by omega⟩)) | refine oS (ev_bool_eql rfl rfl rfl) rfl ?_ | refine oS (eg rfl rfl rfl) rfl ?_ | (refine jdq rfl rfl ?_ ?_ ?_; kernel_rfl; kernel_rfl) | (refine oS (ev_build (t := ?_) rfl rfl rfl ?_) rfl ?_; rotate_left; (repeat (first | exact FillF.nil | refine FillF.cons (by constructor) rfl rfl (by repeat constructor) ?_))) | refine oS (ev_ptr_eql_nil rfl rfl rfl) rfl ?_)
        refine J_again3 (n + 1) _ _ (by omega) (by omega) ⟨⟨rfl, rfl, by rw [← e3]; rfl, trivial⟩, fun w s => ?_⟩
        rw [hc]
        exact s
  · obtain rfl : n = 310 := by omega
    have h64 : (conS 310).2.1 = kW := congrArg Prod.fst conS_end
    have h8 : (conS 310).2.2 = hW := congrArg Prod.snd conS_end
    rw [h64, h8]
    rw [show kW.length = 64 from rfl, show hW.length = 8 from rfl]
    repeat (first | refine jc rfl rfl ?_ | refine jr rfl ?_ | refine jn ?_ | refine oM rfl rfl ?_ | refine oS (ev_pv rfl) rfl ?_ | refine oX rfl ?_ | refine J_cond_t rfl ?_ | refine J_cond_f rfl ?_ | refine oS (eb rfl) rfl ?_ | (refine oS (ev_cmp_t rfl rfl ?_) rfl ?_; (dsimp only [cmpP] <;> omega)) | (refine oS (ev_cmp_f rfl rfl ?_) rfl ?_; (dsimp only [cmpN] <;> omega)) | (refine oS (ea rfl rfl rfl ?_) rfl ?_; (dsimp only [InK]; first | omega | exact ⟨Int.natCast_nonneg _, by omega⟩)) | (refine oS (ed rfl rfl rfl ?_ ?_ ?_) rfl ?_; (first | omega | exact Int.natCast_nonneg _); (first | omega | exact Int.natCast_nonneg _); (dsimp only [InK]; first | omega | exact ⟨Int.natCast_nonneg _, by omega⟩)) | refine oS (ev_fieldAddr rfl rfl) rfl ?_ | (refine oS (ev_conv rfl rfl rfl (wrap_in ?_)) rfl ?_; (dsimp only [InK]; first | omega | exact ⟨Int.natCast_nonneg _, by omega⟩)) | refine oS (ev_bool_eql rfl rfl rfl) rfl ?_ | refine oS (eg rfl rfl rfl) rfl ?_ | (refine jdq rfl rfl ?_ ?_ ?_; kernel_rfl; kernel_rfl) | (refine oS (ev_build (t := ?_) rfl rfl rfl ?_) rfl ?_; rotate_left; (repeat (first | exact FillF.nil | refine FillF.cons (by constructor) rfl rfl (by repeat constructor) ?_))) | refine oS (ev_ptr_eql_nil rfl rfl rfl) rfl ?_)
    exact J_retv (vs := [.slice av 64 cv, .slice aw 8 cw]) rfl (.tmp rfl (.tmp rfl .nil)) [_, _] (fun w s => s) (PH.ler _) ⟨rfl, _, _, rfl, rfl⟩
end Go.Proofs.Ytkhdodlfkpcojaa
