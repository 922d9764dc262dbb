/-
  What shares come to, and the calls whose answers are fixed. Conditions are typed with each.
-/
import Derived.Test.YtmicjjhkoicdnaaGe
import Derived.Test.YtmicjjhkoicdnaaRows
import Derived.Test.YtmicjjhkoicdnaaKs
namespace Go.Proofs.Ytmicjjhkoicdnaa
open Go.RowKit
set_option maxRecDepth 100000
theorem own_knob : ownKnob Try.prog.godebug = none := by kernel_rfl
theorem laid_out : laidOutB Try.prog = true := by kernel_rfl
theorem ev_neg {P : Program} {l : Env} {F : PH} {H : List Asrt} {d : Option Nat} {T U : TypeId} {pos : String} {af : Array Edge} {g : Option (Nat × Bool)} {x : Operand} {k : IntKind} {n : Int} (hx : opv l x = some (.int k n)) (hr : InK k (-n)) : Ev P ⟨d, .unOp .neg T x, U, pos, af, g⟩ l F H (.int k (-n)) := .of fun ρ hρ w _ => by
  have e1 := hρ _ _ hx
  have hw := wrap_in hr
  simp [execOp, e1, go_sem, Op.unary, hw]
theorem rSum_append (L M : List Pt) : rSum (L ++ M) = rSum L + rSum M := by simp [rSum]
theorem rSum_perm {L M : List Pt} (h : L.Perm M) : rSum L = rSum M := by
  unfold rSum
  induction h with
  | nil => rfl
  | cons x _ ih => simp [ih]
  | swap x y l => simp only [List.map_cons, List.sum_cons]; omega
  | trans _ _ i1 i2 => exact i1.trans i2
/-- What has one more has something left. -/
theorem left_pos {n : Nat} {P L : List Pt} {sum left : Int} (h : Sorted n P L) (hs : 1 ≤ sum) (hr : ∀ p ∈ L, p.r < sum) (hl : left * sum = rSum L) {k : Nat} {p : Pt} (hk : L[k]? = some p) (hkl : (k : Int) < left) : 0 < p.r := by
  rcases Int.lt_or_le 0 p.r with h0 | h0
  · exact h0
  exfalso
  have hkL := (List.getElem?_eq_some_iff.1 hk).1
  have hsplit : rSum L = rSum (L.take k) + rSum (L.drop k) := by rw [← rSum_append, List.take_append_drop]
  have h1 := rSum_le (s := sum - 1) (L := L.take k) fun q hq => by
    have hm := List.mem_of_mem_take hq
    exact ⟨h.pos q hm, by have := hr q hm; omega⟩
  have h2 := rSum_le (s := 0) (L := L.drop k) fun q hq => by
    refine ⟨h.pos q (List.mem_of_mem_drop hq), ?_⟩
    obtain ⟨j, hj, rfl⟩ := List.getElem_of_mem hq
    rw [List.getElem_drop]
    have hjL : k + j < L.length := by rw [List.length_drop] at hj; omega
    by_cases hj0 : j = 0
    · subst hj0
      have : L[k]'hkL = p := (List.getElem?_eq_some_iff.1 hk).2
      simp only [Nat.add_zero, this]
      exact h0
    · have := List.pairwise_iff_getElem.1 h.bef k (k + j) hkL hjL (by omega)
      rw [(List.getElem?_eq_some_iff.1 hk).2] at this
      unfold Bef at this
      omega
  rw [List.length_take, Nat.min_eq_left (by omega), Int.mul_sub, Int.mul_one] at h1
  rw [Int.mul_zero] at h2
  have h3 : ((k : Int) + 1) * sum ≤ left * sum := Int.mul_le_mul_of_nonneg_right (by omega) (by omega)
  rw [Int.add_mul, Int.one_mul] at h3
  omega
theorem sum_set : ∀ {O : List Int} {a : Nat} {q : Int} (x : Int), O[a]? = some q → (O.set a x).sum = O.sum - q + x
  | [], a, q, x, h => by simp at h
  | y :: O, 0, q, x, h => by
    simp at h
    subst h
    simp only [List.set_cons_zero, List.sum_cons]
    omega
  | y :: O, a + 1, q, x, h => by
    have := sum_set (O := O) (a := a) x (by simpa using h)
    simp only [List.set_cons_succ, List.sum_cons, this]
    omega
theorem outS_sum {n : Nat} {P L : List Pt} (h : Sorted n P L) (hP : P.length = n) : ∀ t : Nat, t ≤ n → ∃ O R, DocAt L n t O R ∧ O.sum = qSum P + t
  | 0, _ => ⟨_, _, doc_start h hP, by simp [qSum]⟩
  | t + 1, ht => by
    obtain ⟨O, R, hd, hs⟩ := outS_sum h hP t (by omega)
    have hg : L[t]? = some (L[t]'(by rw [h.len]; omega)) := List.getElem?_eq_getElem _
    obtain ⟨ho, hd'⟩ := doc_step h hd hg
    refine ⟨_, _, hd', ?_⟩
    rw [sum_set _ ho, hs]
    push_cast
    omega
/-- What is shared out, when it may be. -/
theorem split_facts {total : Int} {ws : List Int} (h : (chkP total ws).2 = 0) : (splitP total ws).2 = 0 ∧ (splitP total ws).1.length = ws.length ∧ (splitP total ws).1.sum = total ∧ ∀ (i : Nat) (w : Int), ws[i]? = some w → ∃ x, (splitP total ws).1[i]? = some x ∧ 0 ≤ x ∧ x ≤ 72057594037927937 ∧ (x * ws.sum - total * w < ws.sum) ∧ (-ws.sum < x * ws.sum - total * w) ∧ (w = 0 → x = 0) := by
  obtain ⟨ht, hws, h16, h0, he, hs1, hs2⟩ := chkP_ok h
  obtain ⟨hl1, hl2, hl3⟩ := left_bounds ht hws hs1 h0
  have hsrt := sorted_of ht hws hs1
  have hpl := ptsOf_len total ws.sum ws
  have hrp := rSum_perm (isortL_perm ptLt (ptsOf total ws.sum ws))
  unfold splitP
  rw [if_neg (fun hh => hh h), he]
  dsimp only
  have hrl : ∀ p ∈ isortL ptLt (ptsOf total ws.sum ws), p.r < ws.sum := fun p hp => by
    have h1 := hsrt.of p hp
    have ha := hsrt.at_lt p hp
    have hg : ws[p.at_]? = some ws[p.at_] := List.getElem?_eq_getElem ha
    have h2 := ptsOf_at (total := total) (sum := ws.sum) hg
    rw [h1] at h2
    rw [Option.some.inj h2]
    exact (part_bounds ht (hws _ (List.getElem_mem ha)) hs1).2.2.2
  have hat := fun (i : Nat) w (hg : ws[i]? = some w) => ptsOf_at (total := total) (sum := ws.sum) hg
  generalize hP : ptsOf total ws.sum ws = P at *
  generalize isortL ptLt P = L at *
  obtain ⟨lf, hlf⟩ : ∃ m : Nat, total - qSum P = m := ⟨(total - qSum P).toNat, by omega⟩
  obtain ⟨O, R, hd, hsum⟩ := outS_sum hsrt hpl lf (by omega)
  have hend := doc_end hsrt hd
  refine ⟨rfl, outS_len _ _ _ _, ?_, fun i w hg => ?_⟩
  · rw [hlf, ← hend, hsum]; omega
  · have hiw := (List.getElem?_eq_some_iff.1 hg).1
    obtain ⟨k, p, hk, rfl⟩ := hsrt.surj i hiw
    have hpo := hsrt.of p (List.mem_of_getElem? hk)
    have hpt := hat p.at_ w hg
    rw [hpo] at hpt
    have hpe := Option.some.inj hpt
    have hb := part_bounds ht (hws w (List.mem_of_getElem? hg)) hs1
    have hq : p.q = total * w / ws.sum := by rw [hpe]
    have hr : p.r = total * w % ws.sum := by rw [hpe]
    have hdm := Int.mul_ediv_add_emod (total * w) ws.sum
    have hkn : k < ws.length := by have := (List.getElem?_eq_some_iff.1 hk).1; rw [hsrt.len] at this; exact this
    rw [hsrt.outS_get _ _ (Nat.le_refl _) k p hk, if_pos hkn]
    have hpos := fun hkl => left_pos hsrt hs1 hrl (by rw [hl1, hrp] : (total - qSum P) * ws.sum = rSum L) hk hkl
    rw [← hq, ← hr] at hdm
    rw [← hq] at hb
    rw [← hr] at hb
    have hqs : p.q * ws.sum = ws.sum * p.q := Int.mul_comm _ _
    by_cases hkl : (k : Int) < total - qSum P
    · rw [if_pos hkl]
      have hp0 := hpos hkl
      refine ⟨_, rfl, by omega, by omega, ?_, ?_, fun hw0 => ?_⟩
      · rw [Int.add_mul, Int.one_mul, hqs]; omega
      · rw [Int.add_mul, Int.one_mul, hqs]; omega
      · subst hw0; rw [Int.mul_zero, Int.zero_emod] at hr; omega
    · rw [if_neg hkl, Int.add_zero]
      refine ⟨_, rfl, by omega, by omega, ?_, ?_, fun hw0 => ?_⟩
      · rw [hqs]; omega
      · rw [hqs]; omega
      · subst hw0; rw [Int.mul_zero, Int.zero_ediv] at hq; exact hq
theorem split_fixed : splitP 10 [1, 1, 1] = ([4, 3, 3], 0) := by decide +kernel
theorem fee_fixed : feeP 50 100 = (1, 0) := by decide +kernel
set_option maxHeartbeats 8000000 in
theorem fixed40_true (F : PH) : Spec Try.prog 8 [] F [] fun u _ H' => u = .bool true ∧ H' = [] := by
  refine Spec.of0 Try.func8 rfl fun X w0 => ?_
  repeat (first|refine zJ rfl rfl ?_|refine jr rfl ?_|refine jn ?_|refine zM rfl rfl ?_|(refine zC rfl rfl ?_ rfl ?_;omega)|(refine zD rfl rfl ?_ rfl ?_;omega)|(refine zP rfl ?_ rfl ?_;omega)|refine zG rfl rfl rfl rfl ?_|(refine jdq rfl rfl ?_ ?_ ?_;kernel_rfl;kernel_rfl)|refine zB rfl rfl rfl (by repeat constructor) rfl ?_)
  refine oE (ev_buildSlice (E := 2) (zs := [.int .i64 0]) (t := [.int .i64 1, .int .i64 1, .int .i64 1]) rfl rfl rfl rfl rfl rfl (by repeat constructor)) rfl ?_
  rintro _ _ _ _ ⟨rfl, b1, rfl, rfl⟩
  refine oPersist fun hh hA hd => ?_
  have hrow : Row64 (PH.un F hh) (.slice (some ⟨b1, 0, none⟩) 3 3) [1, 1, 1] := ⟨rfl, _, _, rfl, Nat.le_refl _, fun _ => ⟨b1, 0, rfl, blk_cells hA hd⟩⟩
  have hle := PH.le_l F hh
  generalize PH.un F hh = F1 at *
  refine oC (Hc := []) (Hr := X) (split_spec 10 _ [1, 1, 1] F1 hrow (by decide) (by decide)) Try.call9 rfl rfl (fun _ s => s) ?_
  rintro _ F2 _ hF2 ⟨rfl, v, rfl, hv⟩
  rw [split_fixed] at hv ⊢
  obtain ⟨a, c, rfl, hc⟩ := hv.form
  have hf := fee_spec 50 100 F2 (by decide)
  rw [fee_fixed] at hf
  obtain ⟨b, off, rfl, hc0, _⟩ := hv.at (i := 0) (x := 4) rfl
  obtain ⟨b', off', e1, hc1, _⟩ := hv.at (i := 1) (x := 3) rfl
  obtain ⟨b'', off'', e2, hc2, _⟩ := hv.at (i := 2) (x := 3) rfl
  injection e1 with e1
  injection e1 with e1 e1'
  injection e2 with e2
  injection e2 with e2 e2'
  subst e1 e1' e2 e2'
  repeat (first|refine zJ rfl rfl ?_|refine jr rfl ?_|refine jn ?_|refine zM rfl rfl ?_|(refine zC rfl rfl ?_ rfl ?_;omega)|(refine zD rfl rfl ?_ rfl ?_;omega)|(refine zP rfl ?_ rfl ?_;omega)|refine zG rfl rfl rfl rfl ?_|(refine jdq rfl rfl ?_ ?_ ?_;kernel_rfl;kernel_rfl)|refine zB rfl rfl rfl (by repeat constructor) rfl ?_)
  refine oP (hf) Try.call11 rfl rfl ?_
  repeat (first|refine zJ rfl rfl ?_|refine jr rfl ?_|refine jn ?_|refine zM rfl rfl ?_|(refine zC rfl rfl ?_ rfl ?_;omega)|(refine zD rfl rfl ?_ rfl ?_;omega)|(refine zP rfl ?_ rfl ?_;omega)|refine zG rfl rfl rfl rfl ?_|(refine jdq rfl rfl ?_ ?_ ?_;kernel_rfl;kernel_rfl)|refine zB rfl rfl rfl (by repeat constructor) rfl ?_)
  refine oS (ev_indexAddr (i := 0) rfl rfl rfl (by decide)) rfl ?_
  refine oS (ev_load rfl rfl (Rdb.ofF hc0)) rfl ?_
  repeat (first|refine zJ rfl rfl ?_|refine jr rfl ?_|refine jn ?_|refine zM rfl rfl ?_|(refine zC rfl rfl ?_ rfl ?_;omega)|(refine zD rfl rfl ?_ rfl ?_;omega)|(refine zP rfl ?_ rfl ?_;omega)|refine zG rfl rfl rfl rfl ?_|(refine jdq rfl rfl ?_ ?_ ?_;kernel_rfl;kernel_rfl)|refine zB rfl rfl rfl (by repeat constructor) rfl ?_)
  refine oS (ev_indexAddr (i := 1) rfl rfl rfl (by decide)) rfl ?_
  refine oS (ev_load rfl rfl (Rdb.ofF hc1)) rfl ?_
  repeat (first|refine zJ rfl rfl ?_|refine jr rfl ?_|refine jn ?_|refine zM rfl rfl ?_|(refine zC rfl rfl ?_ rfl ?_;omega)|(refine zD rfl rfl ?_ rfl ?_;omega)|(refine zP rfl ?_ rfl ?_;omega)|refine zG rfl rfl rfl rfl ?_|(refine jdq rfl rfl ?_ ?_ ?_;kernel_rfl;kernel_rfl)|refine zB rfl rfl rfl (by repeat constructor) rfl ?_)
  refine oS (ev_indexAddr (i := 2) rfl rfl rfl (by decide)) rfl ?_
  refine oS (ev_load rfl rfl (Rdb.ofF hc2)) rfl ?_
  repeat (first|refine zJ rfl rfl ?_|refine jr rfl ?_|refine jn ?_|refine zM rfl rfl ?_|(refine zC rfl rfl ?_ rfl ?_;omega)|(refine zD rfl rfl ?_ rfl ?_;omega)|(refine zP rfl ?_ rfl ?_;omega)|refine zG rfl rfl rfl rfl ?_|(refine jdq rfl rfl ?_ ?_ ?_;kernel_rfl;kernel_rfl)|refine zB rfl rfl rfl (by repeat constructor) rfl ?_)
  exact J_retv rfl (.tmp rfl .nil) [] (fun w s => s) (hle.trans hF2) ⟨rfl, rfl⟩
def ty64 : Ty Try.prog 2 Int := tyInt Try.underlying2
theorem row64_of {F : PH} {v : Value} {xs : List Int} (h : RowV ty64 F v xs) : Row64 F v xs := by
  obtain ⟨css, h1, h2⟩ := h
  have h3 : css.flatten = i64s xs := by
    clear h1
    induction h2 with
    | nil => rfl
    | cons h _ ih => obtain ⟨rfl, _⟩ := h; rw [List.flatten_cons, ih]; rfl
  rw [h3] at h1
  exact h1
end Go.Proofs.Ytmicjjhkoicdnaa
