/-
  An amount shared out by the document. Conditions are typed with each.
-/
import Derived.Test.YtmicjjhkoicdnaaGd
namespace Go.Proofs.Ytmicjjhkoicdnaa
open Go.RowKit
set_option maxRecDepth 100000
theorem any_snoc {ws : List Int} {i : Nat} {w : Int} (h : ws[i]? = some w) : (ws.take (i + 1)).any oddW = ((ws.take i).any oddW || oddW w) := by rw [take_snoc h, List.any_append]; simp
set_option maxHeartbeats 32000000 in
theorem Split_spec (total : Int) (v : Value) (ws : List Int) (F : PH) (h : Row64 F v ws) (hl : ws.length ≤ 1048576) : Spec Try.prog 10 [.int .i64 total, v] F [] (SplitQ (splitP total ws)) := by
  have hm := Money_spec total F
  obtain ⟨a, c, rfl, hc⟩ := h.form
  refine Spec.of2 Try.func10 rfl rfl fun X w0 => ?_
  repeat (first|refine zJ rfl rfl ?_|refine jr rfl ?_|refine jn ?_|refine zM rfl rfl ?_|(refine zC rfl rfl ?_ rfl ?_;omega)|(refine zD rfl rfl ?_ rfl ?_;omega)|(refine zP rfl ?_ rfl ?_;omega)|refine zG rfl rfl rfl rfl ?_|(refine jdq rfl rfl ?_ ?_ ?_;kernel_rfl;kernel_rfl)|refine zB rfl rfl rfl (by repeat constructor) rfl ?_)
  refine oP (hm) Try.call30 rfl rfl ?_
  repeat (first|refine zJ rfl rfl ?_|refine jr rfl ?_|refine jn ?_|refine zM rfl rfl ?_|(refine zC rfl rfl ?_ rfl ?_;omega)|(refine zD rfl rfl ?_ rfl ?_;omega)|(refine zP rfl ?_ rfl ?_;omega)|refine zG rfl rfl rfl rfl ?_|(refine jdq rfl rfl ?_ ?_ ?_;kernel_rfl;kernel_rfl)|refine zB rfl rfl rfl (by repeat constructor) rfl ?_)
  refine J_loop (ι := Nat) (fun i => i ≤ ws.length) (fun i => ws.length - i) (fun i => [(0, .int .i64 total), (1, .slice a ws.length c), (6, .int .i64 0), (7, .bool (moneyB total && !(ws.take i).any oddW)), (21, .slice a ws.length c), (22, .int .i64 ws.length), (23, .int .i64 i)]) (fun _ => F) (fun _ => X) 0 (Nat.zero_le _) ⟨⟨rfl, rfl, rfl, by simp; rfl, rfl, rfl, rfl, trivial⟩, fun _ s => s⟩ ?_
  intro i hi
  by_cases hlt : i < ws.length
  · have hg : ws[i]? = some ws[i] := List.getElem?_eq_getElem hlt
    have han := any_snoc hg
    obtain ⟨b, off, rfl, hcc, _⟩ := h.at hg
    generalize ws[i] = w at *
    repeat (first|refine zJ rfl rfl ?_|refine jr rfl ?_|refine jn ?_|refine zM rfl rfl ?_|(refine zC rfl rfl ?_ rfl ?_;omega)|(refine zD rfl rfl ?_ rfl ?_;omega)|(refine zP rfl ?_ rfl ?_;omega)|refine zG rfl rfl rfl rfl ?_|(refine jdq rfl rfl ?_ ?_ ?_;kernel_rfl;kernel_rfl)|refine zB rfl rfl rfl (by repeat constructor) rfl ?_)
    refine oS (ev_indexAddr rfl rfl rfl hlt) rfl ?_
    refine oS (ev_load rfl rfl (Rdb.ofF hcc)) rfl ?_
    cases hr : moneyB total && !(ws.take i).any oddW with
    | false =>
      repeat (first|refine zJ rfl rfl ?_|refine jr rfl ?_|refine jn ?_|refine zM rfl rfl ?_|(refine zC rfl rfl ?_ rfl ?_;omega)|(refine zD rfl rfl ?_ rfl ?_;omega)|(refine zP rfl ?_ rfl ?_;omega)|refine zG rfl rfl rfl rfl ?_|(refine jdq rfl rfl ?_ ?_ ?_;kernel_rfl;kernel_rfl)|refine zB rfl rfl rfl (by repeat constructor) rfl ?_)
      refine J_again (i + 1) hlt (by omega) ⟨⟨rfl, rfl, rfl, ?_, rfl, rfl, rfl, trivial⟩, fun w s => s⟩
      rw [han, Bool.not_or, ← Bool.and_assoc, hr]
      rfl
    | true =>
      by_cases h1 : 0 ≤ w
      · by_cases h2 : w ≤ 65536
        · repeat (first|refine zJ rfl rfl ?_|refine jr rfl ?_|refine jn ?_|refine zM rfl rfl ?_|(refine zC rfl rfl ?_ rfl ?_;omega)|(refine zD rfl rfl ?_ rfl ?_;omega)|(refine zP rfl ?_ rfl ?_;omega)|refine zG rfl rfl rfl rfl ?_|(refine jdq rfl rfl ?_ ?_ ?_;kernel_rfl;kernel_rfl)|refine zB rfl rfl rfl (by repeat constructor) rfl ?_)
          refine J_again (i + 1) hlt (by omega) ⟨⟨rfl, rfl, rfl, ?_, rfl, rfl, rfl, trivial⟩, fun w s => s⟩
          rw [han, Bool.not_or, ← Bool.and_assoc, hr, show oddW w = false from by unfold oddW; rw [decide_eq_false (by omega), decide_eq_false (by omega)]; rfl]
          rfl
        · repeat (first|refine zJ rfl rfl ?_|refine jr rfl ?_|refine jn ?_|refine zM rfl rfl ?_|(refine zC rfl rfl ?_ rfl ?_;omega)|(refine zD rfl rfl ?_ rfl ?_;omega)|(refine zP rfl ?_ rfl ?_;omega)|refine zG rfl rfl rfl rfl ?_|(refine jdq rfl rfl ?_ ?_ ?_;kernel_rfl;kernel_rfl)|refine zB rfl rfl rfl (by repeat constructor) rfl ?_)
          refine J_again (i + 1) hlt (by omega) ⟨⟨rfl, rfl, rfl, ?_, rfl, rfl, rfl, trivial⟩, fun w s => s⟩
          rw [han, Bool.not_or, ← Bool.and_assoc, hr, show oddW w = true from by unfold oddW; rw [decide_eq_true (show 65536 < w by omega), Bool.or_true]]
          rfl
      · repeat (first|refine zJ rfl rfl ?_|refine jr rfl ?_|refine jn ?_|refine zM rfl rfl ?_|(refine zC rfl rfl ?_ rfl ?_;omega)|(refine zD rfl rfl ?_ rfl ?_;omega)|(refine zP rfl ?_ rfl ?_;omega)|refine zG rfl rfl rfl rfl ?_|(refine jdq rfl rfl ?_ ?_ ?_;kernel_rfl;kernel_rfl)|refine zB rfl rfl rfl (by repeat constructor) rfl ?_)
        refine J_again (i + 1) hlt (by omega) ⟨⟨rfl, rfl, rfl, ?_, rfl, rfl, rfl, trivial⟩, fun w s => s⟩
        rw [han, Bool.not_or, ← Bool.and_assoc, hr, show oddW w = true from by unfold oddW; rw [decide_eq_true (show w < 0 by omega)]; rfl]
        rfl
  obtain rfl : i = ws.length := by omega
  rw [List.take_length]
  have hok := @chkP_ok total ws
  unfold splitP
  cases hr : moneyB total && !ws.any oddW with
  | false =>
    have hck : chkP total ws = (0, 5) := by
      unfold chkP
      rw [if_pos]
      cases hb : moneyB total with
      | false => exact .inl rfl
      | true => rw [hb] at hr; right; simpa using hr
    rw [hck, if_pos (by decide)]
    repeat (first|refine zJ rfl rfl ?_|refine jr rfl ?_|refine jn ?_|refine zM rfl rfl ?_|(refine zC rfl rfl ?_ rfl ?_;omega)|(refine zD rfl rfl ?_ rfl ?_;omega)|(refine zP rfl ?_ rfl ?_;omega)|refine zG rfl rfl rfl rfl ?_|(refine jdq rfl rfl ?_ ?_ ?_;kernel_rfl;kernel_rfl)|refine zB rfl rfl rfl (by repeat constructor) rfl ?_)
    exact J_retv rfl (.tmp rfl (.tmp rfl .nil)) [] (fun w s => s) (PH.ler _) ⟨rfl, _, rfl, SliceV.nil _ _⟩
  | true =>
  rw [Bool.and_eq_true] at hr
  have hodd : ws.any oddW = false := by simpa using hr.2
  have hws := notOdd hodd
  have hck0 : chkP total ws = if 16 < ws.length then (0, 4) else if ws.sum = 0 then (0, 2) else (ws.sum, 0) := by
    unfold chkP
    rw [if_neg (by simp [hr.1, hodd])]
  by_cases h16 : 16 < ws.length
  · rw [if_pos h16] at hck0
    rw [hck0, if_pos (by decide)]
    repeat (first|refine zJ rfl rfl ?_|refine jr rfl ?_|refine jn ?_|refine zM rfl rfl ?_|(refine zC rfl rfl ?_ rfl ?_;omega)|(refine zD rfl rfl ?_ rfl ?_;omega)|(refine zP rfl ?_ rfl ?_;omega)|refine zG rfl rfl rfl rfl ?_|(refine jdq rfl rfl ?_ ?_ ?_;kernel_rfl;kernel_rfl)|refine zB rfl rfl rfl (by repeat constructor) rfl ?_)
    exact J_retv rfl (.tmp rfl (.tmp rfl .nil)) [] (fun w s => s) (PH.ler _) ⟨rfl, _, rfl, SliceV.nil _ _⟩
  rw [if_neg h16] at hck0
  repeat (first|refine zJ rfl rfl ?_|refine jr rfl ?_|refine jn ?_|refine zM rfl rfl ?_|(refine zC rfl rfl ?_ rfl ?_;omega)|(refine zD rfl rfl ?_ rfl ?_;omega)|(refine zP rfl ?_ rfl ?_;omega)|refine zG rfl rfl rfl rfl ?_|(refine jdq rfl rfl ?_ ?_ ?_;kernel_rfl;kernel_rfl)|refine zB rfl rfl rfl (by repeat constructor) rfl ?_)
  refine J_loop (ι := Nat) (fun i => i ≤ ws.length) (fun i => ws.length - i) (fun i => [(0, .int .i64 total), (1, .slice a ws.length c), (6, .int .i64 (ws.take i).sum), (42, .slice a ws.length c), (43, .int .i64 ws.length), (44, .int .i64 i)]) (fun _ => F) (fun _ => X) 0 (Nat.zero_le _) ⟨⟨rfl, rfl, rfl, rfl, rfl, rfl, trivial⟩, fun _ s => s⟩ ?_
  intro i hi
  by_cases hlt : i < ws.length
  · have hg : ws[i]? = some ws[i] := List.getElem?_eq_getElem hlt
    have htk := take_snoc hg
    have hmem := hws _ (List.getElem_mem hlt)
    have hsl := sum_take_le hws i (by omega)
    obtain ⟨b, off, rfl, hcc, _⟩ := h.at hg
    generalize ws[i] = w at *
    repeat (first|refine zJ rfl rfl ?_|refine jr rfl ?_|refine jn ?_|refine zM rfl rfl ?_|(refine zC rfl rfl ?_ rfl ?_;omega)|(refine zD rfl rfl ?_ rfl ?_;omega)|(refine zP rfl ?_ rfl ?_;omega)|refine zG rfl rfl rfl rfl ?_|(refine jdq rfl rfl ?_ ?_ ?_;kernel_rfl;kernel_rfl)|refine zB rfl rfl rfl (by repeat constructor) rfl ?_)
    refine oS (ev_indexAddr rfl rfl rfl hlt) rfl ?_
    refine oS (ev_load rfl rfl (Rdb.ofF hcc)) rfl ?_
    repeat (first|refine zJ rfl rfl ?_|refine jr rfl ?_|refine jn ?_|refine zM rfl rfl ?_|(refine zC rfl rfl ?_ rfl ?_;omega)|(refine zD rfl rfl ?_ rfl ?_;omega)|(refine zP rfl ?_ rfl ?_;omega)|refine zG rfl rfl rfl rfl ?_|(refine jdq rfl rfl ?_ ?_ ?_;kernel_rfl;kernel_rfl)|refine zB rfl rfl rfl (by repeat constructor) rfl ?_)
    refine J_again (i + 1) hlt (by omega) ⟨⟨rfl, rfl, ?_, rfl, rfl, rfl, trivial⟩, fun w s => s⟩
    rw [htk, List.sum_append, List.sum_singleton]
    rfl
  obtain rfl : i = ws.length := by omega
  rw [List.take_length]
  by_cases hs0 : ws.sum = 0
  · rw [if_pos hs0] at hck0
    rw [hck0, if_pos (by decide)]
    repeat (first|refine zJ rfl rfl ?_|refine jr rfl ?_|refine jn ?_|refine zM rfl rfl ?_|(refine zC rfl rfl ?_ rfl ?_;omega)|(refine zD rfl rfl ?_ rfl ?_;omega)|(refine zP rfl ?_ rfl ?_;omega)|refine zG rfl rfl rfl rfl ?_|(refine jdq rfl rfl ?_ ?_ ?_;kernel_rfl;kernel_rfl)|refine zB rfl rfl rfl (by repeat constructor) rfl ?_)
    exact J_retv rfl (.tmp rfl (.tmp rfl .nil)) [] (fun w s => s) (PH.ler _) ⟨rfl, _, rfl, SliceV.nil _ _⟩
  rw [if_neg hs0] at hck0
  rw [hck0] at hok ⊢
  dsimp only at hok ⊢
  rw [if_neg (by simp)]
  obtain ⟨ht, _, _, h0, _, hs1, hs2⟩ := hok rfl
  have hlb := left_bounds ht hws hs1 h0
  have hsrt := sorted_of ht hws hs1
  have hpl := ptsOf_len total ws.sum ws
  have hqs := fun i hi => qSum_bounds (total := total) (sum := ws.sum) ht hws hs1 i hi
  have hpat := fun i w (hg : ws[i]? = some w) => ptsOf_at (total := total) (sum := ws.sum) hg
  generalize hS : ws.sum = sum at *
  generalize hP : ptsOf total sum ws = P at *
  generalize hn : ws.length = n at *
  repeat (first|refine zJ rfl rfl ?_|refine jr rfl ?_|refine jn ?_|refine zM rfl rfl ?_|(refine zC rfl rfl ?_ rfl ?_;omega)|(refine zD rfl rfl ?_ rfl ?_;omega)|(refine zP rfl ?_ rfl ?_;omega)|refine zG rfl rfl rfl rfl ?_|(refine jdq rfl rfl ?_ ?_ ?_;kernel_rfl;kernel_rfl)|refine zB rfl rfl rfl (by repeat constructor) rfl ?_)
  refine J_own_nil 2 1 ?_
  refine J_own_nil 2 1 ?_
  refine J_loop2 (fun (i : Nat) (_ : Value × Value) => i ≤ n) (fun i _ => n - i) (fun i t => [(0, .int .i64 total), (6, .int .i64 sum), (12, t.1), (13, t.2), (14, .int .i64 (total - qSum (P.take i))), (55, .slice a n c), (56, .int .i64 n), (57, .int .i64 i)]) (fun _ _ => F) (fun i t => own t.1 2 1 i (rowC c1 ((P.take i).map (·.q))) :: own t.2 2 1 i (rowC c1 ((P.take i).map (·.r))) :: X) 0 (.slice none 0 0, .slice none 0 0) (Nat.zero_le _) ⟨⟨rfl, rfl, rfl, rfl, by simp [qSum]; rfl, rfl, rfl, rfl, trivial⟩, fun w s => s⟩ ?_
  rintro i ⟨v1, v2⟩ hi
  dsimp only
  by_cases hlt : i < n
  · have hg : ws[i]? = some (ws[i]'(by omega)) := List.getElem?_eq_getElem _
    have hwi := hws _ (List.getElem_mem (by omega : i < ws.length))
    have hb := part_bounds ht hwi hs1
    have hq := hqs i (by omega)
    have hpt := hpat i _ hg
    have htk := take_snoc hpt
    obtain ⟨bw, ow, hab, hcc, _⟩ := h.at hg
    subst hab
    have hsn := qSum_snoc (P.take i) ⟨i, total * ws[i] / sum, total * ws[i] % sum⟩
    rw [← htk] at hsn
    dsimp only at hsn
    have hqi : qSum (P.take i) ≤ 16 * 72057594037927936 := by omega
    generalize hQ : qSum (P.take i) = Q at *
    generalize ws[i] = w at *
    repeat (first|refine zJ rfl rfl ?_|refine jr rfl ?_|refine jn ?_|refine zM rfl rfl ?_|(refine zC rfl rfl ?_ rfl ?_;omega)|(refine zD rfl rfl ?_ rfl ?_;omega)|(refine zP rfl ?_ rfl ?_;omega)|refine zG rfl rfl rfl rfl ?_|(refine jdq rfl rfl ?_ ?_ ?_;kernel_rfl;kernel_rfl)|refine zB rfl rfl rfl (by repeat constructor) rfl ?_)
    refine oS (ev_indexAddr rfl rfl rfl hlt) rfl ?_
    refine oS (ev_load rfl rfl (Rdb.ofF hcc)) rfl ?_
    repeat (first|refine zJ rfl rfl ?_|refine jr rfl ?_|refine jn ?_|refine zM rfl rfl ?_|(refine zC rfl rfl ?_ rfl ?_;omega)|(refine zD rfl rfl ?_ rfl ?_;omega)|(refine zP rfl ?_ rfl ?_;omega)|refine zG rfl rfl rfl rfl ?_|(refine jdq rfl rfl ?_ ?_ ?_;kernel_rfl;kernel_rfl)|refine zB rfl rfl rfl (by repeat constructor) rfl ?_)
    refine oA (vs := c1 (total * w / sum)) (K := fun v' => own v' 2 1 (i + 1) (rowC c1 ((P.take i).map (·.q)) ++ c1 (total * w / sum)) :: own v2 2 1 i (rowC c1 ((P.take i).map (·.r))) :: X) (fun _ => rfl) rfl .int rfl el64 (ones_cons rfl ones_nil) (by omega) (fun _ => .here) rfl (fun _ => rfl) fun u1 w1 => ?_
    repeat (first|refine zJ rfl rfl ?_|refine jr rfl ?_|refine jn ?_|refine zM rfl rfl ?_|(refine zC rfl rfl ?_ rfl ?_;omega)|(refine zD rfl rfl ?_ rfl ?_;omega)|(refine zP rfl ?_ rfl ?_;omega)|refine zG rfl rfl rfl rfl ?_|(refine jdq rfl rfl ?_ ?_ ?_;kernel_rfl;kernel_rfl)|refine zB rfl rfl rfl (by repeat constructor) rfl ?_)
    refine oA (vs := c1 (total * w % sum)) (K := fun v' => own u1 2 1 (i + 1) (rowC c1 ((P.take i).map (·.q)) ++ c1 (total * w / sum)) :: own v' 2 1 (i + 1) (rowC c1 ((P.take i).map (·.r)) ++ c1 (total * w % sum)) :: X) (fun _ => rfl) rfl .int rfl el64 (ones_cons rfl ones_nil) (by omega) (fun _ => .there .here) rfl (fun _ => rfl) fun u2 w2 => ?_
    repeat (first|refine zJ rfl rfl ?_|refine jr rfl ?_|refine jn ?_|refine zM rfl rfl ?_|(refine zC rfl rfl ?_ rfl ?_;omega)|(refine zD rfl rfl ?_ rfl ?_;omega)|(refine zP rfl ?_ rfl ?_;omega)|refine zG rfl rfl rfl rfl ?_|(refine jdq rfl rfl ?_ ?_ ?_;kernel_rfl;kernel_rfl)|refine zB rfl rfl rfl (by repeat constructor) rfl ?_)
    refine J_again2 (i + 1) (u1, u2) hlt (by omega) ⟨⟨rfl, rfl, rfl, rfl, ?_, rfl, rfl, rfl, trivial⟩, fun w s => ?_⟩
    · rw [hsn, show total - (Q + total * w / sum) = total - Q - total * w / sum from by omega]
      rfl
    · dsimp only
      rw [htk, List.map_append, List.map_append, rowC_append, rowC_append]
      exact s
  obtain rfl : i = n := by omega
  have hfull : P.take i = P := List.take_of_length_le (by omega)
  rw [hfull]
  have hds := doc_start hsrt hpl
  generalize isortL ptLt P = L at *
  have hO0 : (P.map (·.q)).length = i := by simp [hpl]
  have hR0 : (P.map (·.r)).length = i := by simp [hpl]
  refine jWith .here (fun h ho => own_form ho h0) fun hf1 => ?_
  refine jWith (.there .here) (fun h ho => own_form ho h0) fun hf2 => ?_
  obtain ⟨g1, k1, rfl, hk1⟩ := hf1
  obtain ⟨g2, k2, rfl, hk2⟩ := hf2
  generalize hleft : total - qSum P = left at *
  obtain ⟨lf, rfl⟩ : ∃ m : Nat, left = m := ⟨left.toNat, by omega⟩
  repeat (first|refine zJ rfl rfl ?_|refine jr rfl ?_|refine jn ?_|refine zM rfl rfl ?_|(refine zC rfl rfl ?_ rfl ?_;omega)|(refine zD rfl rfl ?_ rfl ?_;omega)|(refine zP rfl ?_ rfl ?_;omega)|refine zG rfl rfl rfl rfl ?_|(refine jdq rfl rfl ?_ ?_ ?_;kernel_rfl;kernel_rfl)|refine zB rfl rfl rfl (by repeat constructor) rfl ?_)
  refine J_loop3 (fun (t : Nat) (O R : List Int) => t ≤ lf ∧ DocAt L i t O R) (fun t _ _ => lf - t) (fun t _ _ => [(12, .slice (some ⟨g1, 0, none⟩) i k1), (13, .slice (some ⟨g2, 0, none⟩) i k2), (14, .int .i64 ((lf - t : Nat) : Int))]) (fun _ _ _ => F) (fun _ O R => own (.slice (some ⟨g1, 0, none⟩) i k1) 2 1 i (rowC c1 O) :: own (.slice (some ⟨g2, 0, none⟩) i k2) 2 1 i (rowC c1 R) :: X) 0 (P.map (·.q)) (P.map (·.r)) ⟨Nat.zero_le _, hds⟩ ⟨⟨rfl, rfl, rfl, trivial⟩, fun w s => s⟩ ?_
  rintro t O R ⟨htl, hd⟩
  by_cases htlf : t < lf
  · have hgp : L[t]? = some (L[t]'(by rw [hsrt.len]; omega)) := List.getElem?_eq_getElem _
    generalize L[t]'(by rw [hsrt.len]; omega) = p at *
    have hbest := hsrt.best hd hgp
    obtain ⟨hO, hd'⟩ := doc_step hsrt hd hgp
    have hpa := hsrt.at_lt p (List.mem_of_getElem? hgp)
    have hpq : 0 ≤ p.q ∧ p.q ≤ 72057594037927936 := by
      have h1 := hsrt.of p (List.mem_of_getElem? hgp)
      have hg : ws[p.at_]? = some (ws[p.at_]'(by omega)) := List.getElem?_eq_getElem _
      have h2 := hpat p.at_ _ hg
      rw [h1] at h2
      have hb := part_bounds ht (hws _ (List.getElem_mem (by omega : p.at_ < ws.length))) hs1
      rw [Option.some.inj h2]
      exact hb.2.1
    have hRl := hd.rl
    have hOl := hd.ol
    repeat (first|refine zJ rfl rfl ?_|refine jr rfl ?_|refine jn ?_|refine zM rfl rfl ?_|(refine zC rfl rfl ?_ rfl ?_;omega)|(refine zD rfl rfl ?_ rfl ?_;omega)|(refine zP rfl ?_ rfl ?_;omega)|refine zG rfl rfl rfl rfl ?_|(refine jdq rfl rfl ?_ ?_ ?_;kernel_rfl;kernel_rfl)|refine zB rfl rfl rfl (by repeat constructor) rfl ?_)
    refine J_loop2 (fun (j : Nat) (best : Nat) => j ≤ i ∧ best < i ∧ ∃ x, R[best]? = some x ∧ (∀ (j' : Nat) y, j' < j → R[j']? = some y → y ≤ x) ∧ ∀ (j' : Nat) y, j' < best → R[j']? = some y → y < x) (fun j _ => i - j) (fun j best => [(12, .slice (some ⟨g1, 0, none⟩) i k1), (13, .slice (some ⟨g2, 0, none⟩) i k2), (14, .int .i64 ((lf - t : Nat) : Int)), (17, .int .i64 best), (88, .int .i64 i), (89, .int .i64 j)]) (fun _ _ => F) (fun _ _ => own (.slice (some ⟨g1, 0, none⟩) i k1) 2 1 i (rowC c1 O) :: own (.slice (some ⟨g2, 0, none⟩) i k2) 2 1 i (rowC c1 R) :: X) 0 0 ⟨Nat.zero_le _, h0, R[0]'(by omega), List.getElem?_eq_getElem _, fun _ _ hh => absurd hh (by omega), fun _ _ hh => absurd hh (by omega)⟩ ⟨⟨rfl, rfl, rfl, rfl, rfl, rfl, trivial⟩, fun w s => s⟩ ?_
    rintro j best ⟨hj, hbl, x, hx, hx1, hx2⟩
    by_cases hjl : j < i
    · have hgj : R[j]? = some (R[j]'(by omega)) := List.getElem?_eq_getElem _
      generalize R[j]'(by omega) = y at *
      repeat (first|refine zJ rfl rfl ?_|refine jr rfl ?_|refine jn ?_|refine zM rfl rfl ?_|(refine zC rfl rfl ?_ rfl ?_;omega)|(refine zD rfl rfl ?_ rfl ?_;omega)|(refine zP rfl ?_ rfl ?_;omega)|refine zG rfl rfl rfl rfl ?_|(refine jdq rfl rfl ?_ ?_ ?_;kernel_rfl;kernel_rfl)|refine zB rfl rfl rfl (by repeat constructor) rfl ?_)
      refine oS (ev_indexAddr (i := j) rfl rfl rfl hjl) rfl ?_
      refine oS (ev_load (v := .int .i64 y) rfl rfl (rdb_row (cs := c1) (.there .here) (fun _ => rfl) hgj)) rfl ?_
      repeat (first|refine zJ rfl rfl ?_|refine jr rfl ?_|refine jn ?_|refine zM rfl rfl ?_|(refine zC rfl rfl ?_ rfl ?_;omega)|(refine zD rfl rfl ?_ rfl ?_;omega)|(refine zP rfl ?_ rfl ?_;omega)|refine zG rfl rfl rfl rfl ?_|(refine jdq rfl rfl ?_ ?_ ?_;kernel_rfl;kernel_rfl)|refine zB rfl rfl rfl (by repeat constructor) rfl ?_)
      refine oS (ev_indexAddr (i := best) rfl rfl rfl hbl) rfl ?_
      refine oS (ev_load (v := .int .i64 x) rfl rfl (rdb_row (cs := c1) (.there .here) (fun _ => rfl) hx)) rfl ?_
      by_cases hxy : x < y
      · repeat (first|refine zJ rfl rfl ?_|refine jr rfl ?_|refine jn ?_|refine zM rfl rfl ?_|(refine zC rfl rfl ?_ rfl ?_;omega)|(refine zD rfl rfl ?_ rfl ?_;omega)|(refine zP rfl ?_ rfl ?_;omega)|refine zG rfl rfl rfl rfl ?_|(refine jdq rfl rfl ?_ ?_ ?_;kernel_rfl;kernel_rfl)|refine zB rfl rfl rfl (by repeat constructor) rfl ?_)
        refine J_again2 (j + 1) j ⟨hjl, hjl, y, hgj, fun j' y' hj' hy' => ?_, fun j' y' hj' hy' => ?_⟩ (by omega) ⟨⟨rfl, rfl, rfl, rfl, rfl, rfl, trivial⟩, fun w s => s⟩
        · by_cases he : j' = j
          · subst he; rw [hgj] at hy'; rw [Option.some.inj hy']; exact Int.le_refl _
          · have := hx1 j' y' (by omega) hy'; omega
        · have := hx1 j' y' hj' hy'; omega
      · repeat (first|refine zJ rfl rfl ?_|refine jr rfl ?_|refine jn ?_|refine zM rfl rfl ?_|(refine zC rfl rfl ?_ rfl ?_;omega)|(refine zD rfl rfl ?_ rfl ?_;omega)|(refine zP rfl ?_ rfl ?_;omega)|refine zG rfl rfl rfl rfl ?_|(refine jdq rfl rfl ?_ ?_ ?_;kernel_rfl;kernel_rfl)|refine zB rfl rfl rfl (by repeat constructor) rfl ?_)
        refine J_again2 (j + 1) best ⟨hjl, hbl, x, hx, fun j' y' hj' hy' => ?_, hx2⟩ (by omega) ⟨⟨rfl, rfl, rfl, rfl, rfl, rfl, trivial⟩, fun w s => s⟩
        by_cases he : j' = j
        · subst he; rw [hgj] at hy'; rw [← Option.some.inj hy']; omega
        · exact hx1 j' y' (by omega) hy'
    · obtain rfl : j = i := by omega
      have hbb : best = p.at_ := Best.uniq (i := j) ⟨by omega, x, hx, hx1, hx2⟩ hbest (by omega)
      subst hbb
      repeat (first|refine zJ rfl rfl ?_|refine jr rfl ?_|refine jn ?_|refine zM rfl rfl ?_|(refine zC rfl rfl ?_ rfl ?_;omega)|(refine zD rfl rfl ?_ rfl ?_;omega)|(refine zP rfl ?_ rfl ?_;omega)|refine zG rfl rfl rfl rfl ?_|(refine jdq rfl rfl ?_ ?_ ?_;kernel_rfl;kernel_rfl)|refine zB rfl rfl rfl (by repeat constructor) rfl ?_)
      refine oS (ev_indexAddr (i := p.at_) rfl rfl rfl hpa) rfl ?_
      refine oS (ev_load (v := .int .i64 p.q) rfl rfl (rdb_row (cs := c1) .here (fun _ => rfl) hO)) rfl ?_
      repeat (first|refine zJ rfl rfl ?_|refine jr rfl ?_|refine jn ?_|refine zM rfl rfl ?_|(refine zC rfl rfl ?_ rfl ?_;omega)|(refine zD rfl rfl ?_ rfl ?_;omega)|(refine zP rfl ?_ rfl ?_;omega)|refine zG rfl rfl rfl rfl ?_|(refine jdq rfl rfl ?_ ?_ ?_;kernel_rfl;kernel_rfl)|refine zB rfl rfl rfl (by repeat constructor) rfl ?_)
      refine oS (ev_indexAddr (i := p.at_) rfl rfl rfl hpa) rfl ?_
      refine oN (ev_store_own (vs := c1 (p.q + 1)) rfl rfl .int rfl rfl (by rw [Nat.zero_add]; exact lay_row (cs := c1) (fun _ => rfl) (p.q + 1) O p.at_ (by omega)) (ones_cons rfl ones_nil) .here) rfl ?_
      rintro _ _ _ _ ⟨rfl, _, rfl⟩
      repeat (first|refine zJ rfl rfl ?_|refine jr rfl ?_|refine jn ?_|refine zM rfl rfl ?_|(refine zC rfl rfl ?_ rfl ?_;omega)|(refine zD rfl rfl ?_ rfl ?_;omega)|(refine zP rfl ?_ rfl ?_;omega)|refine zG rfl rfl rfl rfl ?_|(refine jdq rfl rfl ?_ ?_ ?_;kernel_rfl;kernel_rfl)|refine zB rfl rfl rfl (by repeat constructor) rfl ?_)
      refine oS (ev_indexAddr (i := p.at_) rfl rfl rfl hpa) rfl ?_
      refine oN (ev_store_own (vs := c1 (-1)) rfl rfl .int rfl rfl (by rw [Nat.zero_add]; exact lay_row (cs := c1) (fun _ => rfl) (-1) R p.at_ (by omega)) (ones_cons rfl ones_nil) (.there .here)) rfl ?_
      rintro _ _ _ _ ⟨rfl, _, rfl⟩
      repeat (first|refine zJ rfl rfl ?_|refine jr rfl ?_|refine jn ?_|refine zM rfl rfl ?_|(refine zC rfl rfl ?_ rfl ?_;omega)|(refine zD rfl rfl ?_ rfl ?_;omega)|(refine zP rfl ?_ rfl ?_;omega)|refine zG rfl rfl rfl rfl ?_|(refine jdq rfl rfl ?_ ?_ ?_;kernel_rfl;kernel_rfl)|refine zB rfl rfl rfl (by repeat constructor) rfl ?_)
      refine J_again3 (t + 1) (O.set p.at_ (p.q + 1)) (R.set p.at_ (-1)) ⟨htlf, hd'⟩ (by omega) ⟨⟨rfl, rfl, ?_, trivial⟩, fun w s => s⟩
      rw [show ((lf - (t + 1) : Nat) : Int) = ((lf - t : Nat) : Int) - 1 from by omega]
      rfl
  · obtain rfl : t = lf := by omega
    have hend := doc_end hsrt hd
    rw [← hend]
    have hOl := hd.ol
    refine J_persist fun hh hA hdj => ?_
    have hrow : Row64 (PH.un F hh) (.slice (some ⟨g1, 0, none⟩) i k1) O := by
      have hs := own_slice hA hdj
      rw [row_i64s] at hs
      unfold Row64
      rw [hOl]
      exact hs
    rw [Nat.sub_self]
    repeat (first|refine zJ rfl rfl ?_|refine jr rfl ?_|refine jn ?_|refine zM rfl rfl ?_|(refine zC rfl rfl ?_ rfl ?_;omega)|(refine zD rfl rfl ?_ rfl ?_;omega)|(refine zP rfl ?_ rfl ?_;omega)|refine zG rfl rfl rfl rfl ?_|(refine jdq rfl rfl ?_ ?_ ?_;kernel_rfl;kernel_rfl)|refine zB rfl rfl rfl (by repeat constructor) rfl ?_)
    exact J_retv rfl (.tmp rfl (.tmp rfl .nil)) [] (fun w s => s.drop) (PH.le_l _ _) ⟨rfl, _, rfl, hrow⟩
end Go.Proofs.Ytmicjjhkoicdnaa
