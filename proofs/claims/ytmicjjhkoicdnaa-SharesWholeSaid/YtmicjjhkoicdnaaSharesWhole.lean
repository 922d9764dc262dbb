/-
  Nothing is lost or made: parts make the total together, none is below 0, or as much as 1 away from its due; who weighs nothing gets nothing (SharesWhole). No condition.
-/
import Derived.Test.YtmicjjhkoicdnaaGf
namespace Go.Proofs.Ytmicjjhkoicdnaa
open Go.RowKit
set_option maxRecDepth 100000
theorem part_sum_le {xs : List Int} (h : ∀ x ∈ xs, 0 ≤ x ∧ x ≤ 72057594037927937) (i : Nat) (hi : i ≤ 16) : 0 ≤ (xs.take i).sum ∧ (xs.take i).sum ≤ 16 * 72057594037927937 := by
  have key : ∀ ys : List Int, (∀ x ∈ ys, 0 ≤ x ∧ x ≤ 72057594037927937) → 0 ≤ ys.sum ∧ ys.sum ≤ ys.length * 72057594037927937 := by
    intro ys
    induction ys with
    | nil => intro _; simp
    | cons y ys ih =>
      intro h
      have h1 := h y (by simp)
      have h2 := ih fun x hx => h x (by simp [hx])
      simp only [List.sum_cons, List.length_cons]
      push_cast
      omega
  have h1 := key (xs.take i) fun x hx => h x (List.mem_of_mem_take hx)
  have h2 : (xs.take i).length ≤ 16 := by rw [List.length_take]; omega
  omega
set_option maxHeartbeats 16000000 in
theorem SharesWhole_walk (total : Int) (v : Value) (ws : List Int) (F : PH) (hx : InK .i64 total) (h : Row64 F v ws) : Pure Try.prog 4 [.int .i64 total, v] F (.bool true) := by
  obtain ⟨a, c, rfl, hc⟩ := h.form
  refine Spec.of2 Try.func4 rfl rfl fun X w0 => ?_
  repeat (first|refine zJ rfl rfl ?_|refine jr rfl ?_|refine jn ?_|refine zM rfl rfl ?_|(refine zC rfl rfl ?_ rfl ?_;omega)|(refine zD rfl rfl ?_ rfl ?_;omega)|(refine zP rfl ?_ rfl ?_;omega)|refine zG rfl rfl rfl rfl ?_|(refine jdq rfl rfl ?_ ?_ ?_;kernel_rfl;kernel_rfl)|refine zB rfl rfl rfl (by repeat constructor) rfl ?_)
  refine oC (Hc := []) (Hr := X) (fixed40_true F) Try.call8 rfl rfl (fun _ s => s) ?_
  rintro _ F1 _ hF1 ⟨rfl, rfl⟩
  by_cases h100 : 100 < ws.length
  · repeat (first|refine zJ rfl rfl ?_|refine jr rfl ?_|refine jn ?_|refine zM rfl rfl ?_|(refine zC rfl rfl ?_ rfl ?_;omega)|(refine zD rfl rfl ?_ rfl ?_;omega)|(refine zP rfl ?_ rfl ?_;omega)|refine zG rfl rfl rfl rfl ?_|(refine jdq rfl rfl ?_ ?_ ?_;kernel_rfl;kernel_rfl)|refine zB rfl rfl rfl (by repeat constructor) rfl ?_)
    exact J_retv rfl (.tmp rfl .nil) [] (fun w s => s) hF1 ⟨rfl, rfl⟩
  repeat (first|refine zJ rfl rfl ?_|refine jr rfl ?_|refine jn ?_|refine zM rfl rfl ?_|(refine zC rfl rfl ?_ rfl ?_;omega)|(refine zD rfl rfl ?_ rfl ?_;omega)|(refine zP rfl ?_ rfl ?_;omega)|refine zG rfl rfl rfl rfl ?_|(refine jdq rfl rfl ?_ ?_ ?_;kernel_rfl;kernel_rfl)|refine zB rfl rfl rfl (by repeat constructor) rfl ?_)
  refine oC (Hc := []) (Hr := X) (split_spec total _ ws F1 (h.mono hF1) hx (by omega)) Try.call9 rfl rfl (fun _ s => s) ?_
  rintro _ F2 _ hF2 ⟨rfl, va, rfl, hva⟩
  have hFF := hF1.trans hF2
  replace h := (h.mono hF1).mono hF2
  by_cases he : (chkP total ws).2 ≠ 0
  · have hs : splitP total ws = ([], (chkP total ws).2) := if_pos he
    rw [hs] at hva ⊢
    obtain ⟨aa, ca, rfl, _⟩ := hva.form
    dsimp only [List.length_nil] at *
    repeat (first|refine zJ rfl rfl ?_|refine jr rfl ?_|refine jn ?_|refine zM rfl rfl ?_|(refine zC rfl rfl ?_ rfl ?_;omega)|(refine zD rfl rfl ?_ rfl ?_;omega)|(refine zP rfl ?_ rfl ?_;omega)|refine zG rfl rfl rfl rfl ?_|(refine jdq rfl rfl ?_ ?_ ?_;kernel_rfl;kernel_rfl)|refine zB rfl rfl rfl (by repeat constructor) rfl ?_)
    exact J_retv rfl (.tmp rfl .nil) [] (fun w s => s) hFF ⟨rfl, rfl⟩
  have he0 : (chkP total ws).2 = 0 := by omega
  obtain ⟨ht, hws, h16, h0, _, hs1, hs2⟩ := chkP_ok he0
  obtain ⟨f1, f2, f3, f4⟩ := split_facts he0
  generalize splitP total ws = r at *
  obtain ⟨xs, e⟩ := r
  dsimp only at *
  subst f1
  obtain ⟨aa, ca, rfl, _⟩ := hva.form
  have hxb : ∀ x ∈ xs, 0 ≤ x ∧ x ≤ 72057594037927937 := fun x hx => by
    obtain ⟨i, hi, rfl⟩ := List.getElem_of_mem hx
    obtain ⟨y, hy, h1, h2, _⟩ := f4 i (ws[i]'(by omega)) (List.getElem?_eq_getElem _)
    rw [List.getElem?_eq_getElem hi] at hy
    rw [Option.some.inj hy]
    exact ⟨h1, h2⟩
  rw [f2] at hva ⊢
  repeat (first|refine zJ rfl rfl ?_|refine jr rfl ?_|refine jn ?_|refine zM rfl rfl ?_|(refine zC rfl rfl ?_ rfl ?_;omega)|(refine zD rfl rfl ?_ rfl ?_;omega)|(refine zP rfl ?_ rfl ?_;omega)|refine zG rfl rfl rfl rfl ?_|(refine jdq rfl rfl ?_ ?_ ?_;kernel_rfl;kernel_rfl)|refine zB rfl rfl rfl (by repeat constructor) rfl ?_)
  refine J_loop (ι := Nat) (fun i => i ≤ ws.length) (fun i => ws.length - i) (fun i => [(0, .int .i64 total), (1, .slice a ws.length c), (5, .slice aa ws.length ca), (7, .int .i64 (xs.take i).sum), (8, .int .i64 (ws.take i).sum), (30, .slice a ws.length c), (31, .int .i64 ws.length), (32, .int .i64 i)]) (fun _ => F2) (fun _ => X) 0 (Nat.zero_le _) ⟨⟨rfl, rfl, rfl, rfl, rfl, rfl, rfl, rfl, trivial⟩, fun _ s => s⟩ ?_
  intro i hi
  by_cases hlt : i < ws.length
  · have hg : ws[i]? = some ws[i] := List.getElem?_eq_getElem hlt
    have hgx : xs[i]? = some (xs[i]'(by omega)) := List.getElem?_eq_getElem _
    have htk := take_snoc hg
    have htx := take_snoc hgx
    have hmem := hws _ (List.getElem_mem hlt)
    have hsl := sum_take_le hws i (by omega)
    have hxm := hxb _ (List.getElem_mem (by omega : i < xs.length))
    have hsx := part_sum_le hxb i (by omega)
    obtain ⟨b, off, rfl, hcc, _⟩ := h.at hg
    obtain ⟨b', off', rfl, hcc', _⟩ := hva.at hgx
    generalize ws[i] = w at *
    generalize xs[i]'(by omega) = x at *
    repeat (first|refine zJ rfl rfl ?_|refine jr rfl ?_|refine jn ?_|refine zM rfl rfl ?_|(refine zC rfl rfl ?_ rfl ?_;omega)|(refine zD rfl rfl ?_ rfl ?_;omega)|(refine zP rfl ?_ rfl ?_;omega)|refine zG rfl rfl rfl rfl ?_|(refine jdq rfl rfl ?_ ?_ ?_;kernel_rfl;kernel_rfl)|refine zB rfl rfl rfl (by repeat constructor) rfl ?_)
    refine oS (ev_indexAddr rfl rfl rfl hlt) rfl ?_
    refine oS (ev_load rfl rfl (Rdb.ofF hcc)) rfl ?_
    repeat (first|refine zJ rfl rfl ?_|refine jr rfl ?_|refine jn ?_|refine zM rfl rfl ?_|(refine zC rfl rfl ?_ rfl ?_;omega)|(refine zD rfl rfl ?_ rfl ?_;omega)|(refine zP rfl ?_ rfl ?_;omega)|refine zG rfl rfl rfl rfl ?_|(refine jdq rfl rfl ?_ ?_ ?_;kernel_rfl;kernel_rfl)|refine zB rfl rfl rfl (by repeat constructor) rfl ?_)
    refine oS (ev_indexAddr rfl rfl rfl hlt) rfl ?_
    refine oS (ev_load rfl rfl (Rdb.ofF hcc')) rfl ?_
    repeat (first|refine zJ rfl rfl ?_|refine jr rfl ?_|refine jn ?_|refine zM rfl rfl ?_|(refine zC rfl rfl ?_ rfl ?_;omega)|(refine zD rfl rfl ?_ rfl ?_;omega)|(refine zP rfl ?_ rfl ?_;omega)|refine zG rfl rfl rfl rfl ?_|(refine jdq rfl rfl ?_ ?_ ?_;kernel_rfl;kernel_rfl)|refine zB rfl rfl rfl (by repeat constructor) rfl ?_)
    refine J_again (i + 1) hlt (by omega) ⟨⟨rfl, rfl, rfl, ?_, ?_, rfl, rfl, rfl, trivial⟩, fun w s => s⟩
    · rw [htx, List.sum_append, List.sum_singleton]; rfl
    · rw [htk, List.sum_append, List.sum_singleton]; rfl
  obtain rfl : i = ws.length := by omega
  rw [List.take_length, show xs.take ws.length = xs from List.take_of_length_le (by omega), f3]
  repeat (first|refine zJ rfl rfl ?_|refine jr rfl ?_|refine jn ?_|refine zM rfl rfl ?_|(refine zC rfl rfl ?_ rfl ?_;omega)|(refine zD rfl rfl ?_ rfl ?_;omega)|(refine zP rfl ?_ rfl ?_;omega)|refine zG rfl rfl rfl rfl ?_|(refine jdq rfl rfl ?_ ?_ ?_;kernel_rfl;kernel_rfl)|refine zB rfl rfl rfl (by repeat constructor) rfl ?_)
  refine J_loop (ι := Nat) (fun i => i ≤ ws.length) (fun i => ws.length - i) (fun i => [(0, .int .i64 total), (1, .slice a ws.length c), (5, .slice aa ws.length ca), (7, .int .i64 total), (8, .int .i64 ws.sum), (47, .slice a ws.length c), (48, .int .i64 ws.length), (49, .int .i64 i)]) (fun _ => F2) (fun _ => X) 0 (Nat.zero_le _) ⟨⟨rfl, rfl, rfl, rfl, rfl, rfl, rfl, rfl, trivial⟩, fun _ s => s⟩ ?_
  intro i hi
  by_cases hlt : i < ws.length
  · have hg : ws[i]? = some ws[i] := List.getElem?_eq_getElem hlt
    have hgx : xs[i]? = some (xs[i]'(by omega)) := List.getElem?_eq_getElem _
    obtain ⟨x', hx', k1, k2, k3, k4, k5⟩ := f4 i _ hg
    rw [hgx] at hx'
    have hxx := Option.some.inj hx'
    have hb := (part_bounds ht (hws _ (List.getElem_mem hlt)) hs1).1
    obtain ⟨b, off, rfl, hcc, _⟩ := h.at hg
    obtain ⟨b', off', rfl, hcc', _⟩ := hva.at hgx
    rw [← hxx] at k1 k2 k3 k4 k5
    generalize ws[i] = w at *
    generalize xs[i]'(by omega) = x at *
    generalize ws.sum = s at *
    repeat (first|refine zJ rfl rfl ?_|refine jr rfl ?_|refine jn ?_|refine zM rfl rfl ?_|(refine zC rfl rfl ?_ rfl ?_;omega)|(refine zD rfl rfl ?_ rfl ?_;omega)|(refine zP rfl ?_ rfl ?_;omega)|refine zG rfl rfl rfl rfl ?_|(refine jdq rfl rfl ?_ ?_ ?_;kernel_rfl;kernel_rfl)|refine zB rfl rfl rfl (by repeat constructor) rfl ?_)
    refine oS (ev_indexAddr rfl rfl rfl hlt) rfl ?_
    refine oS (ev_load rfl rfl (Rdb.ofF hcc)) rfl ?_
    repeat (first|refine zJ rfl rfl ?_|refine jr rfl ?_|refine jn ?_|refine zM rfl rfl ?_|(refine zC rfl rfl ?_ rfl ?_;omega)|(refine zD rfl rfl ?_ rfl ?_;omega)|(refine zP rfl ?_ rfl ?_;omega)|refine zG rfl rfl rfl rfl ?_|(refine jdq rfl rfl ?_ ?_ ?_;kernel_rfl;kernel_rfl)|refine zB rfl rfl rfl (by repeat constructor) rfl ?_)
    refine oS (ev_indexAddr rfl rfl rfl hlt) rfl ?_
    refine oS (ev_load rfl rfl (Rdb.ofF hcc')) rfl ?_
    repeat (first|refine zJ rfl rfl ?_|refine jr rfl ?_|refine jn ?_|refine zM rfl rfl ?_|(refine zC rfl rfl ?_ rfl ?_;omega)|(refine zD rfl rfl ?_ rfl ?_;omega)|(refine zP rfl ?_ rfl ?_;omega)|refine zG rfl rfl rfl rfl ?_|(refine jdq rfl rfl ?_ ?_ ?_;kernel_rfl;kernel_rfl)|refine zB rfl rfl rfl (by repeat constructor) rfl ?_)
    refine oS (ev_indexAddr rfl rfl rfl hlt) rfl ?_
    refine oS (ev_load rfl rfl (Rdb.ofF hcc')) rfl ?_
    repeat (first|refine zJ rfl rfl ?_|refine jr rfl ?_|refine jn ?_|refine zM rfl rfl ?_|(refine zC rfl rfl ?_ rfl ?_;omega)|(refine zD rfl rfl ?_ rfl ?_;omega)|(refine zP rfl ?_ rfl ?_;omega)|refine zG rfl rfl rfl rfl ?_|(refine jdq rfl rfl ?_ ?_ ?_;kernel_rfl;kernel_rfl)|refine zB rfl rfl rfl (by repeat constructor) rfl ?_)
    refine oS (ev_neg rfl (by dsimp only [InK]; omega)) rfl ?_
    by_cases hw0 : w = 0
    · have hx0 := k5 hw0
      subst hw0 hx0
      repeat (first|refine zJ rfl rfl ?_|refine jr rfl ?_|refine jn ?_|refine zM rfl rfl ?_|(refine zC rfl rfl ?_ rfl ?_;omega)|(refine zD rfl rfl ?_ rfl ?_;omega)|(refine zP rfl ?_ rfl ?_;omega)|refine zG rfl rfl rfl rfl ?_|(refine jdq rfl rfl ?_ ?_ ?_;kernel_rfl;kernel_rfl)|refine zB rfl rfl rfl (by repeat constructor) rfl ?_)
      refine oS (ev_indexAddr rfl rfl rfl hlt) rfl ?_
      refine oS (ev_load rfl rfl (Rdb.ofF hcc')) rfl ?_
      repeat (first|refine zJ rfl rfl ?_|refine jr rfl ?_|refine jn ?_|refine zM rfl rfl ?_|(refine zC rfl rfl ?_ rfl ?_;omega)|(refine zD rfl rfl ?_ rfl ?_;omega)|(refine zP rfl ?_ rfl ?_;omega)|refine zG rfl rfl rfl rfl ?_|(refine jdq rfl rfl ?_ ?_ ?_;kernel_rfl;kernel_rfl)|refine zB rfl rfl rfl (by repeat constructor) rfl ?_)
      exact J_again (i + 1) hlt (by omega) ⟨⟨rfl, rfl, rfl, rfl, rfl, rfl, rfl, rfl, trivial⟩, fun w s => s⟩
    · repeat (first|refine zJ rfl rfl ?_|refine jr rfl ?_|refine jn ?_|refine zM rfl rfl ?_|(refine zC rfl rfl ?_ rfl ?_;omega)|(refine zD rfl rfl ?_ rfl ?_;omega)|(refine zP rfl ?_ rfl ?_;omega)|refine zG rfl rfl rfl rfl ?_|(refine jdq rfl rfl ?_ ?_ ?_;kernel_rfl;kernel_rfl)|refine zB rfl rfl rfl (by repeat constructor) rfl ?_)
      exact J_again (i + 1) hlt (by omega) ⟨⟨rfl, rfl, rfl, rfl, rfl, rfl, rfl, rfl, trivial⟩, fun w s => s⟩
  · repeat (first|refine zJ rfl rfl ?_|refine jr rfl ?_|refine jn ?_|refine zM rfl rfl ?_|(refine zC rfl rfl ?_ rfl ?_;omega)|(refine zD rfl rfl ?_ rfl ?_;omega)|(refine zP rfl ?_ rfl ?_;omega)|refine zG rfl rfl rfl rfl ?_|(refine jdq rfl rfl ?_ ?_ ?_;kernel_rfl;kernel_rfl)|refine zB rfl rfl rfl (by repeat constructor) rfl ?_)
    exact J_retv rfl (.tmp rfl .nil) [] (fun w s => s) hFF ⟨rfl, rfl⟩
open Go.ChangeShapes Go.WideShapes Go.ChangeAt
set_option maxRecDepth 100000 in theorem SharesWhole_lifted (os : Os) (started : os.Started) (H : Type) (enc : TypeId × Value → H) : ReturnsInHanded {} Try.checked os 4 .any (Rows.sharesWholeSpec.pre6 enc Try.prog Try.f4 Rows.sharesWholeRow.domain false) (Rows.sharesWholeSpec.post enc Try.prog Try.f4 false true false false) := by
  refine returnsInHanded_of_change (C := Try.checked) own_knob started (by kernel_rfl) Try.func4 (ChangeSpec.witness6 (enc := enc) (C := Try.checked) false ⟨#[], #[.int .i64 0, .slice none 0 0], []⟩ 8 (by kernel_rfl) (by kernel_rfl) (by kernel_rfl) (by kernel_rfl)) ?_; intro W base args ds gs before hval0 hW hcnd _; have hval : ∀ (j : Nat) t v, Try.f4.params[j]? = some t → args[j]? = some v → Value.okWide Try.prog W .any base t v := hval0; have hW' := hW; obtain ⟨p, q, hA0, hV, hp, hfz, hnd⟩ := hW; have hA : DataW.TrodAll enc Try.prog W 0 (fun _ => true) true Try.f4.params.toList args.toList ds p := hA0; obtain ⟨rfl, rfl⟩ := trodVars_none hV; rw [List.append_nil] at hp; have hA' := hA; rw [Try.params4] at hA hval
  obtain ⟨v0, vs0, d0, ds0, p0, q0, hargs, rfl, rfl, h0, r0⟩ := trodAll_cons hA; obtain ⟨v1, vs1, d1, ds1, p1, q1, rfl, rfl, rfl, h1, r1⟩ := trodAll_cons r0; obtain ⟨rfl, rfl, rfl⟩ := trodAll_nil r1; obtain rfl : args = #[v0, v1] := by cases args; simp_all
  obtain ⟨x, rfl, rfl, rfl, w0⟩ := open_int Try.underlying2 (hval 0 2 v0 rfl rfl) h0
  obtain ⟨xs, q1⟩ := open_row ty64 Try.underlying22 (by kernel_rfl) (by decide) (hval 1 22 v1 rfl rfl) h1
  refine (law_walk (SharesWhole_walk x v1 xs (ph W) (inK_i64 w0) (row64_of q1))).mono fun e W' ⟨he, hb⟩ => ?_
  subst he
  exact ⟨_, rfl, law_post laid_out (by kernel_rfl) rfl rfl Try.underlying4 hW' hA' hp rfl hb⟩
theorem SharesWhole_holds : Rows.SharesWholeSaid := OpenClaim.holds_of_wide 4 Try.f4 rfl rfl rfl rfl rfl rfl rfl ⟨rfl, rfl, rfl, rfl, rfl⟩ rfl rfl rfl rfl rfl (by kernel_rfl) Try.func4 (by kernel_rfl) (of_decide_eq_true (by kernel_rfl)) (by unfold Func.isWrapper; first | (rw [if_pos (by decide +kernel)]; kernel_rfl) | (rw [if_neg (by decide +kernel)]; exact ⟨rfl, rfl⟩)) (fun os started H enc _ => SharesWhole_lifted os started H enc)
#print axioms SharesWhole_holds
end Go.Proofs.Ytmicjjhkoicdnaa
