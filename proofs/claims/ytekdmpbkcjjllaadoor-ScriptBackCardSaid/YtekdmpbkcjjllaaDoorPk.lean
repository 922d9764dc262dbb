/-
  The program's reader of a liar's request, walked. Conditions are typed with each.
  The program's reader of a message as it is, and of a line, walked. Conditions are typed with each.
  The program's reader of a line, walked. Conditions are typed with each.
-/
import Derived.Test.YtekdmpbkcjjllaaDoorPi
import Derived.Test.YtekdmpbkcjjllaaDoorLc
import Derived.Test.YtekdmpbkcjjllaaDoorLh
namespace Go.Proofs.YtekdmpbkcjjllaaDoor
open Go.RowKit
set_option maxRecDepth 100000
/-- What a reader of all that is left leaves. -/
def RdE {α : Type} (odd : Bool) (r : Option α) (x : α) (ws' : List W8) (odd' : Bool) : Prop := (odd' = false → odd = false ∧ ws' = [] ∧ r = some x) ∧ (odd = false → r ≠ none → odd' = false)
theorem RdAll.e {α : Type} {odd odd' : Bool} {r : Option (List α)} {l : List α} {ws' : List W8} (h : RdAll odd r l ws' odd') : RdE odd r l ws' odd' := h
theorem Rd.e {α : Type} {odd odd' : Bool} {r : Option α} {x : α} {ws' : List W8} (h : Rd odd r x odd') : RdE odd (if ws' = [] then r else none) x ws' (odd' || !ws'.isEmpty) := by
  by_cases h0 : ws' = []
  · subst h0
    rw [if_pos rfl]
    refine ⟨fun e => ?_, fun e hr => ?_⟩
    · rw [List.isEmpty_nil, Bool.not_true, Bool.or_false] at e
      exact ⟨(h.1 e).1, rfl, (h.1 e).2⟩
    · rw [List.isEmpty_nil, Bool.not_true, Bool.or_false]
      exact h.2 e hr
  · rw [if_neg h0]
    have : ws'.isEmpty = false := by cases ws' <;> simp_all
    rw [this]
    exact ⟨fun e => by simp at e, fun _ h => absurd rfl h⟩
theorem Rd.bindE {α β : Type} {odd odd1 odd2 : Bool} {r : Option α} {n : α} {g : α → Option β} {m : β} {ws' : List W8} (h1 : Rd odd r n odd1) (h2 : RdE odd1 (g n) m ws' odd2) : RdE odd (r.bind g) m ws' odd2 := by
  refine ⟨fun e => ?_, fun e hr => ?_⟩
  · obtain ⟨e1, e2, e3⟩ := h2.1 e
    obtain ⟨ho, hr⟩ := h1.1 e1
    exact ⟨ho, e2, by rw [hr, Option.bind_some, e3]⟩
  · rcases h1.case with ⟨e1, _, e2⟩ | ⟨_, e2⟩
    · refine h2.2 e1 fun e3 => hr ?_
      rw [e2, Option.bind_some, e3]
    · rw [e2 e] at hr
      exact absurd rfl hr
theorem RdE.map {α β : Type} {odd odd1 : Bool} {r : Option α} {n : α} {ws' : List W8} (h : RdE odd r n ws' odd1) (f : α → β) : RdE odd (r.map f) (f n) ws' odd1 := by
  refine ⟨fun e => ?_, fun e hr => h.2 e fun e2 => hr (by rw [e2]; rfl)⟩
  obtain ⟨e1, e2, e3⟩ := h.1 e
  exact ⟨e1, e2, by rw [e3]; rfl⟩
noncomputable def blankW (w : W8) : Option Int := (numW w).bind fun n => if 0 ≤ n ∧ n < 4294967296 then some n else none
noncomputable def reqR (ws : List W8) : Option St := (tk1 numW ws).bind fun who => (tk1 numW (ws.drop 1)).bind fun to => (tk1 blankW (ws.drop 2)).bind fun bl => (tk1 numW (ws.drop 3)).bind fun cl => (tk1 numW (ws.drop 4)).bind fun st => (coreR (ws.drop 5)).bind fun c => (allW numW (ws.drop 10)).map fun os => ⟨7, who, to, 0, { c with client := cl, stamp := st }, os, bl, 1, 0, [], []⟩
theorem tk1_bind {α β : Type} (f : W8 → Option α) (g : α → Option β) (ws : List W8) : tk1 (fun w => (f w).bind g) ws = (tk1 f ws).bind g := by
  cases ws <;> rfl
theorem inI7 : InI 7 := ⟨by decide, by decide⟩
theorem inI1 : InI 1 := ⟨by decide, by decide⟩
theorem u32_in (n : Int) : 0 ≤ (IntKind.u32).wrap n ∧ (IntKind.u32).wrap n ≤ 4294967295 := by
  have : (IntKind.u32).wrap n = n % 4294967296 := rfl
  rw [this]
  omega
theorem tk1_blank (ws : List W8) : tk1 blankW ws = (tk1 numW ws).bind fun n => if 0 ≤ n ∧ n < 4294967296 then some n else none := tk1_bind numW (fun n => if 0 ≤ n ∧ n < 4294967296 then some n else none) ws
theorem blank_bad {ws : List W8} {o o3 : Bool} {bl : Int} (r : Rd o (tk1 numW ws) bl o3) (h : ¬ (0 ≤ bl ∧ bl < 4294967296)) : o = false → tk1 blankW ws = none := fun e => by
  rw [tk1_blank]
  rcases r.case with ⟨_, _, e2⟩ | ⟨_, e2⟩
  · rw [e2, Option.bind_some, if_neg h]
  · rw [e2 e]; rfl
theorem u32_id {n : Int} (h : 0 ≤ n ∧ n < 4294967296) : (IntKind.u32).wrap n = n := wrap_in (by dsimp only [InK]; omega)
theorem blank_ok {ws : List W8} {o o3 : Bool} {bl : Int} (r : Rd o (tk1 numW ws) bl o3) (h : 0 ≤ bl ∧ bl < 4294967296) : Rd o (tk1 blankW ws) ((IntKind.u32).wrap bl) o3 := by
  rw [tk1_blank, u32_id h]
  rcases r.case with ⟨rfl, rfl, e2⟩ | ⟨rfl, e2⟩
  · rw [e2, Option.bind_some, if_pos h]; exact Rd.yes
  · exact Rd.no fun e => by rw [e2 e]; rfl
set_option maxHeartbeats 16000000 in
theorem request_spec (b : Nat) (v : Value) (ws : List W8) (odd : Bool) (F : PH) (hF : LibF F) (h : WRow F v ws) (hwl : ws.length ≤ 1000000000) : Spec Tryd.prog 35 [pW b] F [wd b v odd] fun u F' H' => ∃ x vo v' odd' ws', u = .agg (stC x vo nl nl).toArray ∧ StOk F' x vo nl nl ∧ x.core.letter.length ≤ 2000000 ∧ H' = [wd b v' odd'] ∧ WRow F' v' ws' ∧ RdE odd (reqR ws) x ws' odd' := by
  refine Spec.of1 Tryd.func35 rfl rfl fun X w0 => ?_
  repeat (first|refine zJ rfl rfl ?_|refine jr rfl ?_|refine jn ?_|refine zM rfl rfl ?_|(refine zC rfl rfl ?_ rfl ?_;omega)|(refine zD rfl rfl ?_ rfl ?_;omega)|(refine zP rfl ?_ rfl ?_;omega)|refine zG rfl rfl rfl rfl ?_|(refine jdq rfl rfl ?_ ?_ ?_;kernel_rfl;kernel_rfl)|refine zB rfl rfl rfl (by repeat constructor) rfl ?_|refine zH .here rfl rfl rfl rfl ?_|refine zH (.there .here) rfl rfl rfl rfl ?_|refine zH (.there (.there .here)) rfl rfl rfl rfl ?_|refine zH (.there (.there (.there .here))) rfl rfl rfl rfl ?_|refine zH (.there (.there (.there (.there .here)))) rfl rfl rfl rfl ?_)
  refine oE (ev_alloc (cs := zStC) rfl) rfl ?_
  rintro _ _ _ _ ⟨rfl, b2, rfl, rfl⟩
  repeat (first|refine zJ rfl rfl ?_|refine jr rfl ?_|refine jn ?_|refine zM rfl rfl ?_|(refine zC rfl rfl ?_ rfl ?_;omega)|(refine zD rfl rfl ?_ rfl ?_;omega)|(refine zP rfl ?_ rfl ?_;omega)|refine zG rfl rfl rfl rfl ?_|(refine jdq rfl rfl ?_ ?_ ?_;kernel_rfl;kernel_rfl)|refine zB rfl rfl rfl (by repeat constructor) rfl ?_|refine zH .here rfl rfl rfl rfl ?_|refine zH (.there .here) rfl rfl rfl rfl ?_|refine zH (.there (.there .here)) rfl rfl rfl rfl ?_|refine zH (.there (.there (.there .here))) rfl rfl rfl rfl ?_|refine zH (.there (.there (.there (.there .here)))) rfl rfl rfl rfl ?_)
  refine oE (ev_alloc (cs := zStC) rfl) rfl ?_
  rintro _ _ _ _ ⟨rfl, b3, rfl, rfl⟩
  refine oN (ev_store (vs := stC { zSt with kind := 7, mk1 := 1 } nl nl nl) rfl rfl .agg rfl rfl (lay_all (zs := zStC) rfl) (by unfold stC; (repeat (first | exact ones_nil | refine ones_cons rfl ?_))) .here) rfl ?_
  rintro _ _ _ _ ⟨rfl, _, rfl⟩
  repeat (first|refine zJ rfl rfl ?_|refine jr rfl ?_|refine jn ?_|refine zM rfl rfl ?_|(refine zC rfl rfl ?_ rfl ?_;omega)|(refine zD rfl rfl ?_ rfl ?_;omega)|(refine zP rfl ?_ rfl ?_;omega)|refine zG rfl rfl rfl rfl ?_|(refine jdq rfl rfl ?_ ?_ ?_;kernel_rfl;kernel_rfl)|refine zB rfl rfl rfl (by repeat constructor) rfl ?_|refine zH .here rfl rfl rfl rfl ?_|refine zH (.there .here) rfl rfl rfl rfl ?_|refine zH (.there (.there .here)) rfl rfl rfl rfl ?_|refine zH (.there (.there (.there .here))) rfl rfl rfl rfl ?_|refine zH (.there (.there (.there (.there .here)))) rfl rfl rfl rfl ?_)
  refine oC (Hc := [wd b v odd]) (Hr := blk b3 31 _ :: blk b2 31 zStC :: X) (int_spec b v ws odd F hF h) Tryd.call32 rfl rfl (fun _ s => s.pick (.there (.there .here))) ?_
  rintro _ F1 _ hF1 ⟨who, v1, odd1, ⟨rfl, hwho⟩, rfl, hv1, r1⟩
  rw [tail_1] at hv1
  have hL1 := hF.mono hF1
  repeat (first|refine zJ rfl rfl ?_|refine jr rfl ?_|refine jn ?_|refine zM rfl rfl ?_|(refine zC rfl rfl ?_ rfl ?_;omega)|(refine zD rfl rfl ?_ rfl ?_;omega)|(refine zP rfl ?_ rfl ?_;omega)|refine zG rfl rfl rfl rfl ?_|(refine jdq rfl rfl ?_ ?_ ?_;kernel_rfl;kernel_rfl)|refine zB rfl rfl rfl (by repeat constructor) rfl ?_|refine zH .here rfl rfl rfl rfl ?_|refine zH (.there .here) rfl rfl rfl rfl ?_|refine zH (.there (.there .here)) rfl rfl rfl rfl ?_|refine zH (.there (.there (.there .here))) rfl rfl rfl rfl ?_|refine zH (.there (.there (.there (.there .here)))) rfl rfl rfl rfl ?_)
  refine oC (Hc := [wd b v1 odd1]) (Hr := _ :: _ :: X) (int_spec b v1 _ odd1 F1 hL1 hv1) Tryd.call32 rfl rfl (fun _ s => s) ?_
  rintro _ F2 _ hF2 ⟨to, v2, odd2, ⟨rfl, hto⟩, rfl, hv2, r2⟩
  rw [tail_d] at hv2
  have hL2 := hL1.mono hF2
  repeat (first|refine zJ rfl rfl ?_|refine jr rfl ?_|refine jn ?_|refine zM rfl rfl ?_|(refine zC rfl rfl ?_ rfl ?_;omega)|(refine zD rfl rfl ?_ rfl ?_;omega)|(refine zP rfl ?_ rfl ?_;omega)|refine zG rfl rfl rfl rfl ?_|(refine jdq rfl rfl ?_ ?_ ?_;kernel_rfl;kernel_rfl)|refine zB rfl rfl rfl (by repeat constructor) rfl ?_|refine zH .here rfl rfl rfl rfl ?_|refine zH (.there .here) rfl rfl rfl rfl ?_|refine zH (.there (.there .here)) rfl rfl rfl rfl ?_|refine zH (.there (.there (.there .here))) rfl rfl rfl rfl ?_|refine zH (.there (.there (.there (.there .here)))) rfl rfl rfl rfl ?_)
  refine oN (ev_store rfl rfl .int rfl rfl (.skip (.put .nil)) (ones_cons rfl ones_nil) (.there .here)) rfl ?_
  rintro _ _ _ _ ⟨rfl, _, rfl⟩
  repeat (first|refine zJ rfl rfl ?_|refine jr rfl ?_|refine jn ?_|refine zM rfl rfl ?_|(refine zC rfl rfl ?_ rfl ?_;omega)|(refine zD rfl rfl ?_ rfl ?_;omega)|(refine zP rfl ?_ rfl ?_;omega)|refine zG rfl rfl rfl rfl ?_|(refine jdq rfl rfl ?_ ?_ ?_;kernel_rfl;kernel_rfl)|refine zB rfl rfl rfl (by repeat constructor) rfl ?_|refine zH .here rfl rfl rfl rfl ?_|refine zH (.there .here) rfl rfl rfl rfl ?_|refine zH (.there (.there .here)) rfl rfl rfl rfl ?_|refine zH (.there (.there (.there .here))) rfl rfl rfl rfl ?_|refine zH (.there (.there (.there (.there .here)))) rfl rfl rfl rfl ?_)
  refine oN (ev_store rfl rfl .int rfl rfl (.skip (.skip (.put .nil))) (ones_cons rfl ones_nil) (.there .here)) rfl ?_
  rintro _ _ _ _ ⟨rfl, _, rfl⟩
  repeat (first|refine zJ rfl rfl ?_|refine jr rfl ?_|refine jn ?_|refine zM rfl rfl ?_|(refine zC rfl rfl ?_ rfl ?_;omega)|(refine zD rfl rfl ?_ rfl ?_;omega)|(refine zP rfl ?_ rfl ?_;omega)|refine zG rfl rfl rfl rfl ?_|(refine jdq rfl rfl ?_ ?_ ?_;kernel_rfl;kernel_rfl)|refine zB rfl rfl rfl (by repeat constructor) rfl ?_|refine zH .here rfl rfl rfl rfl ?_|refine zH (.there .here) rfl rfl rfl rfl ?_|refine zH (.there (.there .here)) rfl rfl rfl rfl ?_|refine zH (.there (.there (.there .here))) rfl rfl rfl rfl ?_|refine zH (.there (.there (.there (.there .here)))) rfl rfl rfl rfl ?_)
  refine oC (Hc := [wd b v2 odd2]) (Hr := _ :: _ :: X) (long_spec b v2 _ odd2 F2 hL2 hv2) Tryd.call57 rfl rfl (fun _ s => s) ?_
  rintro _ F3 _ hF3 ⟨bl, v3, odd3, ⟨rfl, hbl⟩, rfl, hv3, r3⟩
  rw [tail_d] at hv3
  have hL3 := hL2.mono hF3
  repeat (first | refine oM rfl rfl ?_ | refine oS (ev_pv rfl) rfl ?_)
  refine jn ?_
  refine J_seq ?_
  refine J_join (ι := Bool) [_] (fun o => Rd odd2 (tk1 blankW (ws.drop (1 + 1))) ((IntKind.u32).wrap bl) o) (fun _ => [(0, pW b), (2, pW b2), (3, pW b3), (4, .int .i64 bl)]) (fun _ => F3) (fun o => wd b v3 o :: blk b3 31 (stC { zSt with kind := 7, mk1 := 1, who := who, to := to } nl nl nl) :: blk b2 31 zStC :: X) ?_ ?_
  · show J _ (_ :: _) _ _ _
    by_cases hneg : bl < 0
    · repeat (first|refine zJ rfl rfl ?_|refine jr rfl ?_|refine jn ?_|refine zM rfl rfl ?_|(refine zC rfl rfl ?_ rfl ?_;omega)|(refine zD rfl rfl ?_ rfl ?_;omega)|(refine zP rfl ?_ rfl ?_;omega)|refine zG rfl rfl rfl rfl ?_|(refine jdq rfl rfl ?_ ?_ ?_;kernel_rfl;kernel_rfl)|refine zB rfl rfl rfl (by repeat constructor) rfl ?_|refine zH .here rfl rfl rfl rfl ?_|refine zH (.there .here) rfl rfl rfl rfl ?_|refine zH (.there (.there .here)) rfl rfl rfl rfl ?_|refine zH (.there (.there (.there .here))) rfl rfl rfl rfl ?_|refine zH (.there (.there (.there (.there .here)))) rfl rfl rfl rfl ?_)
      refine oN (ev_store rfl rfl .bool rfl rfl (.skip (.put .nil)) (ones_cons rfl ones_nil) .here) rfl ?_
      rintro _ _ _ _ ⟨rfl, _, rfl⟩
      repeat (first|refine zJ rfl rfl ?_|refine jr rfl ?_|refine jn ?_|refine zM rfl rfl ?_|(refine zC rfl rfl ?_ rfl ?_;omega)|(refine zD rfl rfl ?_ rfl ?_;omega)|(refine zP rfl ?_ rfl ?_;omega)|refine zG rfl rfl rfl rfl ?_|(refine jdq rfl rfl ?_ ?_ ?_;kernel_rfl;kernel_rfl)|refine zB rfl rfl rfl (by repeat constructor) rfl ?_|refine zH .here rfl rfl rfl rfl ?_|refine zH (.there .here) rfl rfl rfl rfl ?_|refine zH (.there (.there .here)) rfl rfl rfl rfl ?_|refine zH (.there (.there (.there .here))) rfl rfl rfl rfl ?_|refine zH (.there (.there (.there (.there .here)))) rfl rfl rfl rfl ?_)
      exact J_joined true (Rd.no (blank_bad r3 (by omega))) ⟨⟨rfl, rfl, rfl, rfl, trivial⟩, fun w s => s⟩
    · obtain ⟨m, rfl⟩ : ∃ m : Nat, bl = m := ⟨bl.toNat, by omega⟩
      have hm := hbl.2
      repeat (first|refine zJ rfl rfl ?_|refine jr rfl ?_|refine jn ?_|refine zM rfl rfl ?_|(refine zC rfl rfl ?_ rfl ?_;omega)|(refine zD rfl rfl ?_ rfl ?_;omega)|(refine zP rfl ?_ rfl ?_;omega)|refine zG rfl rfl rfl rfl ?_|(refine jdq rfl rfl ?_ ?_ ?_;kernel_rfl;kernel_rfl)|refine zB rfl rfl rfl (by repeat constructor) rfl ?_|refine zH .here rfl rfl rfl rfl ?_|refine zH (.there .here) rfl rfl rfl rfl ?_|refine zH (.there (.there .here)) rfl rfl rfl rfl ?_|refine zH (.there (.there (.there .here))) rfl rfl rfl rfl ?_|refine zH (.there (.there (.there (.there .here)))) rfl rfl rfl rfl ?_)
      refine oS (ev_shr (m := m) (n := 32) rfl rfl (show m < 18446744073709551616 by omega)) rfl ?_
      rw [Nat.shiftRight_eq_div_pow, show (2 ^ 32 : Nat) = 4294967296 from rfl]
      by_cases hlt : m < 4294967296
      · have h0 : m / 4294967296 = 0 := by omega
        rw [h0]
        repeat (first|refine zJ rfl rfl ?_|refine jr rfl ?_|refine jn ?_|refine zM rfl rfl ?_|(refine zC rfl rfl ?_ rfl ?_;omega)|(refine zD rfl rfl ?_ rfl ?_;omega)|(refine zP rfl ?_ rfl ?_;omega)|refine zG rfl rfl rfl rfl ?_|(refine jdq rfl rfl ?_ ?_ ?_;kernel_rfl;kernel_rfl)|refine zB rfl rfl rfl (by repeat constructor) rfl ?_|refine zH .here rfl rfl rfl rfl ?_|refine zH (.there .here) rfl rfl rfl rfl ?_|refine zH (.there (.there .here)) rfl rfl rfl rfl ?_|refine zH (.there (.there (.there .here))) rfl rfl rfl rfl ?_|refine zH (.there (.there (.there (.there .here)))) rfl rfl rfl rfl ?_)
        exact J_joined odd3 (blank_ok r3 (by omega)) ⟨⟨rfl, rfl, rfl, rfl, trivial⟩, fun w s => s⟩
      · have h1 : 1 ≤ m / 4294967296 := by omega
        generalize m / 4294967296 = q at *
        repeat (first|refine zJ rfl rfl ?_|refine jr rfl ?_|refine jn ?_|refine zM rfl rfl ?_|(refine zC rfl rfl ?_ rfl ?_;omega)|(refine zD rfl rfl ?_ rfl ?_;omega)|(refine zP rfl ?_ rfl ?_;omega)|refine zG rfl rfl rfl rfl ?_|(refine jdq rfl rfl ?_ ?_ ?_;kernel_rfl;kernel_rfl)|refine zB rfl rfl rfl (by repeat constructor) rfl ?_|refine zH .here rfl rfl rfl rfl ?_|refine zH (.there .here) rfl rfl rfl rfl ?_|refine zH (.there (.there .here)) rfl rfl rfl rfl ?_|refine zH (.there (.there (.there .here))) rfl rfl rfl rfl ?_|refine zH (.there (.there (.there (.there .here)))) rfl rfl rfl rfl ?_)
        refine oN (ev_store rfl rfl .bool rfl rfl (.skip (.put .nil)) (ones_cons rfl ones_nil) .here) rfl ?_
        rintro _ _ _ _ ⟨rfl, _, rfl⟩
        repeat (first|refine zJ rfl rfl ?_|refine jr rfl ?_|refine jn ?_|refine zM rfl rfl ?_|(refine zC rfl rfl ?_ rfl ?_;omega)|(refine zD rfl rfl ?_ rfl ?_;omega)|(refine zP rfl ?_ rfl ?_;omega)|refine zG rfl rfl rfl rfl ?_|(refine jdq rfl rfl ?_ ?_ ?_;kernel_rfl;kernel_rfl)|refine zB rfl rfl rfl (by repeat constructor) rfl ?_|refine zH .here rfl rfl rfl rfl ?_|refine zH (.there .here) rfl rfl rfl rfl ?_|refine zH (.there (.there .here)) rfl rfl rfl rfl ?_|refine zH (.there (.there (.there .here))) rfl rfl rfl rfl ?_|refine zH (.there (.there (.there (.there .here)))) rfl rfl rfl rfl ?_)
        exact J_joined true (Rd.no (blank_bad r3 (by omega))) ⟨⟨rfl, rfl, rfl, rfl, trivial⟩, fun w s => s⟩
  rintro odd4 r4
  repeat (first|refine zJ rfl rfl ?_|refine jr rfl ?_|refine jn ?_|refine zM rfl rfl ?_|(refine zC rfl rfl ?_ rfl ?_;omega)|(refine zD rfl rfl ?_ rfl ?_;omega)|(refine zP rfl ?_ rfl ?_;omega)|refine zG rfl rfl rfl rfl ?_|(refine jdq rfl rfl ?_ ?_ ?_;kernel_rfl;kernel_rfl)|refine zB rfl rfl rfl (by repeat constructor) rfl ?_|refine zH .here rfl rfl rfl rfl ?_|refine zH (.there .here) rfl rfl rfl rfl ?_|refine zH (.there (.there .here)) rfl rfl rfl rfl ?_|refine zH (.there (.there (.there .here))) rfl rfl rfl rfl ?_|refine zH (.there (.there (.there (.there .here)))) rfl rfl rfl rfl ?_)
  refine oC (Hc := [wd b v3 odd4]) (Hr := _ :: _ :: X) (int_spec b v3 _ odd4 F3 hL3 hv3) Tryd.call32 rfl rfl (fun _ s => s) ?_
  rintro _ F4 _ hF4 ⟨cl, v5, odd5, ⟨rfl, hcl⟩, rfl, hv5, r5⟩
  rw [tail_d] at hv5
  have hL4 := hL3.mono hF4
  repeat (first|refine zJ rfl rfl ?_|refine jr rfl ?_|refine jn ?_|refine zM rfl rfl ?_|(refine zC rfl rfl ?_ rfl ?_;omega)|(refine zD rfl rfl ?_ rfl ?_;omega)|(refine zP rfl ?_ rfl ?_;omega)|refine zG rfl rfl rfl rfl ?_|(refine jdq rfl rfl ?_ ?_ ?_;kernel_rfl;kernel_rfl)|refine zB rfl rfl rfl (by repeat constructor) rfl ?_|refine zH .here rfl rfl rfl rfl ?_|refine zH (.there .here) rfl rfl rfl rfl ?_|refine zH (.there (.there .here)) rfl rfl rfl rfl ?_|refine zH (.there (.there (.there .here))) rfl rfl rfl rfl ?_|refine zH (.there (.there (.there (.there .here)))) rfl rfl rfl rfl ?_)
  refine oC (Hc := [wd b v5 odd5]) (Hr := _ :: _ :: X) (long_spec b v5 _ odd5 F4 hL4 hv5) Tryd.call57 rfl rfl (fun _ s => s) ?_
  rintro _ F5 _ hF5 ⟨st, v6, odd6, ⟨rfl, hst⟩, rfl, hv6, r6⟩
  rw [tail_d] at hv6
  have hL5 := hL4.mono hF5
  repeat (first|refine zJ rfl rfl ?_|refine jr rfl ?_|refine jn ?_|refine zM rfl rfl ?_|(refine zC rfl rfl ?_ rfl ?_;omega)|(refine zD rfl rfl ?_ rfl ?_;omega)|(refine zP rfl ?_ rfl ?_;omega)|refine zG rfl rfl rfl rfl ?_|(refine jdq rfl rfl ?_ ?_ ?_;kernel_rfl;kernel_rfl)|refine zB rfl rfl rfl (by repeat constructor) rfl ?_|refine zH .here rfl rfl rfl rfl ?_|refine zH (.there .here) rfl rfl rfl rfl ?_|refine zH (.there (.there .here)) rfl rfl rfl rfl ?_|refine zH (.there (.there (.there .here))) rfl rfl rfl rfl ?_|refine zH (.there (.there (.there (.there .here)))) rfl rfl rfl rfl ?_)
  refine oS (ev_conv (r := (IntKind.u32).wrap bl) rfl rfl rfl rfl) rfl ?_
  have hu := u32_in bl
  generalize (IntKind.u32).wrap bl = ub at *
  repeat (first|refine zJ rfl rfl ?_|refine jr rfl ?_|refine jn ?_|refine zM rfl rfl ?_|(refine zC rfl rfl ?_ rfl ?_;omega)|(refine zD rfl rfl ?_ rfl ?_;omega)|(refine zP rfl ?_ rfl ?_;omega)|refine zG rfl rfl rfl rfl ?_|(refine jdq rfl rfl ?_ ?_ ?_;kernel_rfl;kernel_rfl)|refine zB rfl rfl rfl (by repeat constructor) rfl ?_|refine zH .here rfl rfl rfl rfl ?_|refine zH (.there .here) rfl rfl rfl rfl ?_|refine zH (.there (.there .here)) rfl rfl rfl rfl ?_|refine zH (.there (.there (.there .here))) rfl rfl rfl rfl ?_|refine zH (.there (.there (.there (.there .here)))) rfl rfl rfl rfl ?_)
  refine oC (Hc := [wd b v6 odd6]) (Hr := _ :: _ :: X) (rcore_spec b v6 _ odd6 F5 hL5 hv6) Tryd.call33 rfl rfl (fun _ s => s) ?_
  rintro _ F6 _ hF6 ⟨co, v7, odd7, rfl, hco, rfl, hv7, r7⟩
  rw [List.drop_drop] at hv7
  have hL6 := hL5.mono hF6
  repeat (first|refine zJ rfl rfl ?_|refine jr rfl ?_|refine jn ?_|refine zM rfl rfl ?_|(refine zC rfl rfl ?_ rfl ?_;omega)|(refine zD rfl rfl ?_ rfl ?_;omega)|(refine zP rfl ?_ rfl ?_;omega)|refine zG rfl rfl rfl rfl ?_|(refine jdq rfl rfl ?_ ?_ ?_;kernel_rfl;kernel_rfl)|refine zB rfl rfl rfl (by repeat constructor) rfl ?_|refine zH .here rfl rfl rfl rfl ?_|refine zH (.there .here) rfl rfl rfl rfl ?_|refine zH (.there (.there .here)) rfl rfl rfl rfl ?_|refine zH (.there (.there (.there .here))) rfl rfl rfl rfl ?_|refine zH (.there (.there (.there (.there .here)))) rfl rfl rfl rfl ?_)
  refine oN (ev_store rfl rfl .int rfl rfl (.skip (.skip (.skip (.skip (.skip (.skip (.skip (.skip (.skip (.skip (.skip (.skip (.put .nil))))))))))))) (ones_cons rfl ones_nil) (.there .here)) rfl ?_
  rintro _ _ _ _ ⟨rfl, _, rfl⟩
  repeat (first|refine zJ rfl rfl ?_|refine jr rfl ?_|refine jn ?_|refine zM rfl rfl ?_|(refine zC rfl rfl ?_ rfl ?_;omega)|(refine zD rfl rfl ?_ rfl ?_;omega)|(refine zP rfl ?_ rfl ?_;omega)|refine zG rfl rfl rfl rfl ?_|(refine jdq rfl rfl ?_ ?_ ?_;kernel_rfl;kernel_rfl)|refine zB rfl rfl rfl (by repeat constructor) rfl ?_|refine zH .here rfl rfl rfl rfl ?_|refine zH (.there .here) rfl rfl rfl rfl ?_|refine zH (.there (.there .here)) rfl rfl rfl rfl ?_|refine zH (.there (.there (.there .here))) rfl rfl rfl rfl ?_|refine zH (.there (.there (.there (.there .here)))) rfl rfl rfl rfl ?_)
  refine oN (ev_store (vs := coC co) rfl rfl .agg rfl rfl (.skip (.skip (.skip (.skip (.put (.put (.put (.put (.put (.put (.put .nil))))))))))) (by unfold coC; (repeat (first | exact ones_nil | refine ones_cons rfl ?_))) (.there .here)) rfl ?_
  rintro _ _ _ _ ⟨rfl, _, rfl⟩
  repeat (first|refine zJ rfl rfl ?_|refine jr rfl ?_|refine jn ?_|refine zM rfl rfl ?_|(refine zC rfl rfl ?_ rfl ?_;omega)|(refine zD rfl rfl ?_ rfl ?_;omega)|(refine zP rfl ?_ rfl ?_;omega)|refine zG rfl rfl rfl rfl ?_|(refine jdq rfl rfl ?_ ?_ ?_;kernel_rfl;kernel_rfl)|refine zB rfl rfl rfl (by repeat constructor) rfl ?_|refine zH .here rfl rfl rfl rfl ?_|refine zH (.there .here) rfl rfl rfl rfl ?_|refine zH (.there (.there .here)) rfl rfl rfl rfl ?_|refine zH (.there (.there (.there .here))) rfl rfl rfl rfl ?_|refine zH (.there (.there (.there (.there .here)))) rfl rfl rfl rfl ?_)
  refine oN (ev_store rfl rfl .int rfl rfl (.skip (.skip (.skip (.skip (.put .nil))))) (ones_cons rfl ones_nil) (.there .here)) rfl ?_
  rintro _ _ _ _ ⟨rfl, _, rfl⟩
  repeat (first|refine zJ rfl rfl ?_|refine jr rfl ?_|refine jn ?_|refine zM rfl rfl ?_|(refine zC rfl rfl ?_ rfl ?_;omega)|(refine zD rfl rfl ?_ rfl ?_;omega)|(refine zP rfl ?_ rfl ?_;omega)|refine zG rfl rfl rfl rfl ?_|(refine jdq rfl rfl ?_ ?_ ?_;kernel_rfl;kernel_rfl)|refine zB rfl rfl rfl (by repeat constructor) rfl ?_|refine zH .here rfl rfl rfl rfl ?_|refine zH (.there .here) rfl rfl rfl rfl ?_|refine zH (.there (.there .here)) rfl rfl rfl rfl ?_|refine zH (.there (.there (.there .here))) rfl rfl rfl rfl ?_|refine zH (.there (.there (.there (.there .here)))) rfl rfl rfl rfl ?_)
  refine oN (ev_store rfl rfl .int rfl rfl (.skip (.skip (.skip (.skip (.skip (.put .nil)))))) (ones_cons rfl ones_nil) (.there .here)) rfl ?_
  rintro _ _ _ _ ⟨rfl, _, rfl⟩
  repeat (first|refine zJ rfl rfl ?_|refine jr rfl ?_|refine jn ?_|refine zM rfl rfl ?_|(refine zC rfl rfl ?_ rfl ?_;omega)|(refine zD rfl rfl ?_ rfl ?_;omega)|(refine zP rfl ?_ rfl ?_;omega)|refine zG rfl rfl rfl rfl ?_|(refine jdq rfl rfl ?_ ?_ ?_;kernel_rfl;kernel_rfl)|refine zB rfl rfl rfl (by repeat constructor) rfl ?_|refine zH .here rfl rfl rfl rfl ?_|refine zH (.there .here) rfl rfl rfl rfl ?_|refine zH (.there (.there .here)) rfl rfl rfl rfl ?_|refine zH (.there (.there (.there .here))) rfl rfl rfl rfl ?_|refine zH (.there (.there (.there (.there .here)))) rfl rfl rfl rfl ?_)
  refine oC (Hc := [wd b v7 odd7]) (Hr := _ :: _ :: X) (rints_spec b v7 _ odd7 F6 hL6 hv7 (by rw [List.length_drop]; omega)) Tryd.call34 rfl rfl (fun _ s => s) ?_
  rintro vo F7 _ hF7 ⟨os, v8, odd8, ws8, hos, rfl, hv8, r8⟩
  obtain ⟨_, oa, oc, rfl, _, _⟩ := slice1 hos.1
  repeat (first|refine zJ rfl rfl ?_|refine jr rfl ?_|refine jn ?_|refine zM rfl rfl ?_|(refine zC rfl rfl ?_ rfl ?_;omega)|(refine zD rfl rfl ?_ rfl ?_;omega)|(refine zP rfl ?_ rfl ?_;omega)|refine zG rfl rfl rfl rfl ?_|(refine jdq rfl rfl ?_ ?_ ?_;kernel_rfl;kernel_rfl)|refine zB rfl rfl rfl (by repeat constructor) rfl ?_|refine zH .here rfl rfl rfl rfl ?_|refine zH (.there .here) rfl rfl rfl rfl ?_|refine zH (.there (.there .here)) rfl rfl rfl rfl ?_|refine zH (.there (.there (.there .here))) rfl rfl rfl rfl ?_|refine zH (.there (.there (.there (.there .here)))) rfl rfl rfl rfl ?_)
  refine oN (ev_store rfl rfl .slice rfl rfl (.skip (.skip (.skip (.skip (.skip (.skip (.skip (.skip (.skip (.skip (.skip (.put .nil)))))))))))) (ones_cons rfl ones_nil) (.there .here)) rfl ?_
  rintro _ _ _ _ ⟨rfl, _, rfl⟩
  repeat (first|refine zJ rfl rfl ?_|refine jr rfl ?_|refine jn ?_|refine zM rfl rfl ?_|(refine zC rfl rfl ?_ rfl ?_;omega)|(refine zD rfl rfl ?_ rfl ?_;omega)|(refine zP rfl ?_ rfl ?_;omega)|refine zG rfl rfl rfl rfl ?_|(refine jdq rfl rfl ?_ ?_ ?_;kernel_rfl;kernel_rfl)|refine zB rfl rfl rfl (by repeat constructor) rfl ?_|refine zH .here rfl rfl rfl rfl ?_|refine zH (.there .here) rfl rfl rfl rfl ?_|refine zH (.there (.there .here)) rfl rfl rfl rfl ?_|refine zH (.there (.there (.there .here))) rfl rfl rfl rfl ?_|refine zH (.there (.there (.there (.there .here)))) rfl rfl rfl rfl ?_)
  refine oS (ev_load_agg (cs := stC ⟨7, who, to, 0, { co with client := cl, stamp := st }, os, ub, 1, 0, [], []⟩ (.slice oa os.length oc) nl nl) rfl rfl (Rdb.ofB (n := 0) (.there .here) rfl) rfl) rfl ?_
  refine oN (ev_store rfl rfl .agg rfl rfl (lay_all (zs := zStC) rfl) (by unfold stC; (repeat (first | exact ones_nil | refine ones_cons rfl ?_))) (.there (.there .here))) rfl ?_
  rintro _ _ _ _ ⟨rfl, _, rfl⟩
  repeat (first|refine zJ rfl rfl ?_|refine jr rfl ?_|refine jn ?_|refine zM rfl rfl ?_|(refine zC rfl rfl ?_ rfl ?_;omega)|(refine zD rfl rfl ?_ rfl ?_;omega)|(refine zP rfl ?_ rfl ?_;omega)|refine zG rfl rfl rfl rfl ?_|(refine jdq rfl rfl ?_ ?_ ?_;kernel_rfl;kernel_rfl)|refine zB rfl rfl rfl (by repeat constructor) rfl ?_|refine zH .here rfl rfl rfl rfl ?_|refine zH (.there .here) rfl rfl rfl rfl ?_|refine zH (.there (.there .here)) rfl rfl rfl rfl ?_|refine zH (.there (.there (.there .here))) rfl rfl rfl rfl ?_|refine zH (.there (.there (.there (.there .here)))) rfl rfl rfl rfl ?_)
  have hok := hco.ok
  refine J_retv (vs := [.agg (stC ⟨7, who, to, 0, { co with client := cl, stamp := st }, os, ub, 1, 0, [], []⟩ (.slice oa os.length oc) nl nl).toArray]) rfl (.agg rfl rfl (Rdb.ofB (n := 0) (.there (.there .here)) rfl) rfl .nil) [wd b v8 odd8] (fun w s => (s.perm (List.Perm.symm (List.perm_middle (l₁ := [_, _])))).drop.drop) (hF1.trans (hF2.trans (hF3.trans (hF4.trans (hF5.trans (hF6.trans hF7)))))) ⟨⟨7, who, to, 0, { co with client := cl, stamp := st }, os, ub, 1, 0, [], []⟩, .slice oa os.length oc, v8, odd8, ws8, rfl, ⟨inI7, hwho, hto, inI0, ⟨hcl, hst, hok.op, hok.a, hok.b⟩, hos, hu.1, hu.2, inI1, inI0, SliceV.nil _ _, TagRow.nil _⟩, hco.letter, rfl, hv8, ?_⟩
  exact r1.bindE (r2.bindE (r4.bindE (r5.bindE (r6.bindE (r7.bindE (r8.e.map fun os => (⟨7, who, to, 0, { co with client := cl, stamp := st }, os, ub, 1, 0, [], []⟩ : St)))))))
end Go.Proofs.YtekdmpbkcjjllaaDoor
namespace Go.Proofs.YtekdmpbkcjjllaaDoor
open Go.RowKit
set_option maxRecDepth 100000
def tagW (w : W8) : Option W8 := (bytesW w).bind fun b => if b.length = 32 then some b else none
noncomputable def forgeR (ws : List W8) : Option St := (tk1 numW ws).bind fun to => (tk1 numW (ws.drop 1)).bind fun k => (tk1 numW (ws.drop 2)).bind fun f => (tk1 bytesW (ws.drop 3)).bind fun body => (allW tagW (ws.drop 4)).map fun ts => ⟨8, 0, to, 0, zCo, [], 0, k, f, body, ts⟩
theorem elTag : Elem Tryd.prog 27 66 32 32 (.agg (List.replicate 32 (.int .u8 0)).toArray) := ⟨rfl, ⟨_, rfl, rfl, rfl, rfl, rfl, by decide⟩, rfl, rfl⟩
theorem inI8 : InI 8 := ⟨by decide, by decide⟩
def tagC (l : List W8) : List Value := (l.map u8s).flatten
theorem tagC_snoc (l : List W8) (t : W8) : tagC (l ++ [t]) = tagC l ++ u8s t := by simp [tagC]
theorem zCo_in : CoIn zCo := ⟨inI0, inI0, inI0, inI0, inI0⟩
set_option maxHeartbeats 16000000 in
theorem forge_spec (b : Nat) (v : Value) (ws : List W8) (odd : Bool) (F : PH) (hF : LibF F) (h : WRow F v ws) (hwl : ws.length ≤ 1000000000) : Spec Tryd.prog 37 [pW b] F [wd b v odd] fun u F' H' => ∃ x vb vt v' odd' ws', u = .agg (stC x nl vb vt).toArray ∧ StOk F' x nl vb vt ∧ x.core.letter.length ≤ 2000000 ∧ H' = [wd b v' odd'] ∧ WRow F' v' ws' ∧ RdE odd (forgeR ws) x ws' odd' := by
  refine Spec.of1 Tryd.func37 rfl rfl fun X w0 => ?_
  repeat (first|refine zJ rfl rfl ?_|refine jr rfl ?_|refine jn ?_|refine zM rfl rfl ?_|(refine zC rfl rfl ?_ rfl ?_;omega)|(refine zD rfl rfl ?_ rfl ?_;omega)|(refine zP rfl ?_ rfl ?_;omega)|refine zG rfl rfl rfl rfl ?_|(refine jdq rfl rfl ?_ ?_ ?_;kernel_rfl;kernel_rfl)|refine zB rfl rfl rfl (by repeat constructor) rfl ?_|refine zH .here rfl rfl rfl rfl ?_|refine zH (.there .here) rfl rfl rfl rfl ?_|refine zH (.there (.there .here)) rfl rfl rfl rfl ?_|refine zH (.there (.there (.there .here))) rfl rfl rfl rfl ?_|refine zH (.there (.there (.there (.there .here)))) rfl rfl rfl rfl ?_)
  refine oE (ev_alloc (cs := zStC) rfl) rfl ?_
  rintro _ _ _ _ ⟨rfl, b2, rfl, rfl⟩
  repeat (first|refine zJ rfl rfl ?_|refine jr rfl ?_|refine jn ?_|refine zM rfl rfl ?_|(refine zC rfl rfl ?_ rfl ?_;omega)|(refine zD rfl rfl ?_ rfl ?_;omega)|(refine zP rfl ?_ rfl ?_;omega)|refine zG rfl rfl rfl rfl ?_|(refine jdq rfl rfl ?_ ?_ ?_;kernel_rfl;kernel_rfl)|refine zB rfl rfl rfl (by repeat constructor) rfl ?_|refine zH .here rfl rfl rfl rfl ?_|refine zH (.there .here) rfl rfl rfl rfl ?_|refine zH (.there (.there .here)) rfl rfl rfl rfl ?_|refine zH (.there (.there (.there .here))) rfl rfl rfl rfl ?_|refine zH (.there (.there (.there (.there .here)))) rfl rfl rfl rfl ?_)
  refine oC (Hc := [wd b v odd]) (Hr := blk b2 31 zStC :: X) (int_spec b v ws odd F hF h) Tryd.call32 rfl rfl (fun _ s => s.pick (.there .here)) ?_
  rintro _ F1 _ hF1 ⟨to, v1, odd1, ⟨rfl, hto⟩, rfl, hv1, r1⟩
  rw [tail_1] at hv1
  have hL1 := hF.mono hF1
  repeat (first|refine zJ rfl rfl ?_|refine jr rfl ?_|refine jn ?_|refine zM rfl rfl ?_|(refine zC rfl rfl ?_ rfl ?_;omega)|(refine zD rfl rfl ?_ rfl ?_;omega)|(refine zP rfl ?_ rfl ?_;omega)|refine zG rfl rfl rfl rfl ?_|(refine jdq rfl rfl ?_ ?_ ?_;kernel_rfl;kernel_rfl)|refine zB rfl rfl rfl (by repeat constructor) rfl ?_|refine zH .here rfl rfl rfl rfl ?_|refine zH (.there .here) rfl rfl rfl rfl ?_|refine zH (.there (.there .here)) rfl rfl rfl rfl ?_|refine zH (.there (.there (.there .here))) rfl rfl rfl rfl ?_|refine zH (.there (.there (.there (.there .here)))) rfl rfl rfl rfl ?_)
  refine oE (ev_alloc (cs := zStC) rfl) rfl ?_
  rintro _ _ _ _ ⟨rfl, b3, rfl, rfl⟩
  refine oN (ev_store (vs := stC { zSt with kind := 8, to := to } nl nl nl) rfl rfl .agg rfl rfl (lay_all (zs := zStC) rfl) (by unfold stC; (repeat (first | exact ones_nil | refine ones_cons rfl ?_))) .here) rfl ?_
  rintro _ _ _ _ ⟨rfl, _, rfl⟩
  repeat (first|refine zJ rfl rfl ?_|refine jr rfl ?_|refine jn ?_|refine zM rfl rfl ?_|(refine zC rfl rfl ?_ rfl ?_;omega)|(refine zD rfl rfl ?_ rfl ?_;omega)|(refine zP rfl ?_ rfl ?_;omega)|refine zG rfl rfl rfl rfl ?_|(refine jdq rfl rfl ?_ ?_ ?_;kernel_rfl;kernel_rfl)|refine zB rfl rfl rfl (by repeat constructor) rfl ?_|refine zH .here rfl rfl rfl rfl ?_|refine zH (.there .here) rfl rfl rfl rfl ?_|refine zH (.there (.there .here)) rfl rfl rfl rfl ?_|refine zH (.there (.there (.there .here))) rfl rfl rfl rfl ?_|refine zH (.there (.there (.there (.there .here)))) rfl rfl rfl rfl ?_)
  refine oC (Hc := [wd b v1 odd1]) (Hr := _ :: _ :: X) (int_spec b v1 _ odd1 F1 hL1 hv1) Tryd.call32 rfl rfl (fun _ s => s.pick (.there .here)) ?_
  rintro _ F2 _ hF2 ⟨mk, v2, odd2, ⟨rfl, hmk⟩, rfl, hv2, r2⟩
  rw [tail_d] at hv2
  have hL2 := hL1.mono hF2
  repeat (first|refine zJ rfl rfl ?_|refine jr rfl ?_|refine jn ?_|refine zM rfl rfl ?_|(refine zC rfl rfl ?_ rfl ?_;omega)|(refine zD rfl rfl ?_ rfl ?_;omega)|(refine zP rfl ?_ rfl ?_;omega)|refine zG rfl rfl rfl rfl ?_|(refine jdq rfl rfl ?_ ?_ ?_;kernel_rfl;kernel_rfl)|refine zB rfl rfl rfl (by repeat constructor) rfl ?_|refine zH .here rfl rfl rfl rfl ?_|refine zH (.there .here) rfl rfl rfl rfl ?_|refine zH (.there (.there .here)) rfl rfl rfl rfl ?_|refine zH (.there (.there (.there .here))) rfl rfl rfl rfl ?_|refine zH (.there (.there (.there (.there .here)))) rfl rfl rfl rfl ?_)
  refine oC (Hc := [wd b v2 odd2]) (Hr := _ :: _ :: X) (int_spec b v2 _ odd2 F2 hL2 hv2) Tryd.call32 rfl rfl (fun _ s => s) ?_
  rintro _ F3 _ hF3 ⟨mf, v3, odd3, ⟨rfl, hmf⟩, rfl, hv3, r3⟩
  rw [tail_d] at hv3
  repeat (first|refine zJ rfl rfl ?_|refine jr rfl ?_|refine jn ?_|refine zM rfl rfl ?_|(refine zC rfl rfl ?_ rfl ?_;omega)|(refine zD rfl rfl ?_ rfl ?_;omega)|(refine zP rfl ?_ rfl ?_;omega)|refine zG rfl rfl rfl rfl ?_|(refine jdq rfl rfl ?_ ?_ ?_;kernel_rfl;kernel_rfl)|refine zB rfl rfl rfl (by repeat constructor) rfl ?_|refine zH .here rfl rfl rfl rfl ?_|refine zH (.there .here) rfl rfl rfl rfl ?_|refine zH (.there (.there .here)) rfl rfl rfl rfl ?_|refine zH (.there (.there (.there .here))) rfl rfl rfl rfl ?_|refine zH (.there (.there (.there (.there .here)))) rfl rfl rfl rfl ?_)
  refine oN (ev_store rfl rfl .int rfl rfl (.skip (.skip (.skip (.skip (.skip (.skip (.skip (.skip (.skip (.skip (.skip (.skip (.skip (.put .nil)))))))))))))) (ones_cons rfl ones_nil) (.there .here)) rfl ?_
  rintro _ _ _ _ ⟨rfl, _, rfl⟩
  repeat (first|refine zJ rfl rfl ?_|refine jr rfl ?_|refine jn ?_|refine zM rfl rfl ?_|(refine zC rfl rfl ?_ rfl ?_;omega)|(refine zD rfl rfl ?_ rfl ?_;omega)|(refine zP rfl ?_ rfl ?_;omega)|refine zG rfl rfl rfl rfl ?_|(refine jdq rfl rfl ?_ ?_ ?_;kernel_rfl;kernel_rfl)|refine zB rfl rfl rfl (by repeat constructor) rfl ?_|refine zH .here rfl rfl rfl rfl ?_|refine zH (.there .here) rfl rfl rfl rfl ?_|refine zH (.there (.there .here)) rfl rfl rfl rfl ?_|refine zH (.there (.there (.there .here))) rfl rfl rfl rfl ?_|refine zH (.there (.there (.there (.there .here)))) rfl rfl rfl rfl ?_)
  refine oN (ev_store rfl rfl .int rfl rfl (.skip (.skip (.skip (.skip (.skip (.skip (.skip (.skip (.skip (.skip (.skip (.skip (.skip (.skip (.put .nil))))))))))))))) (ones_cons rfl ones_nil) (.there .here)) rfl ?_
  rintro _ _ _ _ ⟨rfl, _, rfl⟩
  repeat (first|refine zJ rfl rfl ?_|refine jr rfl ?_|refine jn ?_|refine zM rfl rfl ?_|(refine zC rfl rfl ?_ rfl ?_;omega)|(refine zD rfl rfl ?_ rfl ?_;omega)|(refine zP rfl ?_ rfl ?_;omega)|refine zG rfl rfl rfl rfl ?_|(refine jdq rfl rfl ?_ ?_ ?_;kernel_rfl;kernel_rfl)|refine zB rfl rfl rfl (by repeat constructor) rfl ?_|refine zH .here rfl rfl rfl rfl ?_|refine zH (.there .here) rfl rfl rfl rfl ?_|refine zH (.there (.there .here)) rfl rfl rfl rfl ?_|refine zH (.there (.there (.there .here))) rfl rfl rfl rfl ?_|refine zH (.there (.there (.there (.there .here)))) rfl rfl rfl rfl ?_)
  refine oC (Hc := [wd b v3 odd3]) (Hr := _ :: _ :: X) (rbytes_spec b v3 _ odd3 F3 hv3) Tryd.call36 rfl rfl (fun _ s => s) ?_
  rintro vb F4 _ hF4 ⟨body, v4, odd4, hvb, rfl, hv4, r4⟩
  rw [tail_d] at hv4
  have hvb1 : Byt F4 vb body := hvb
  obtain ⟨_, ab, cb, rfl, _, _⟩ := slice1 hvb1
  have hL4 := (hL2.mono hF3).mono hF4
  repeat (first|refine zJ rfl rfl ?_|refine jr rfl ?_|refine jn ?_|refine zM rfl rfl ?_|(refine zC rfl rfl ?_ rfl ?_;omega)|(refine zD rfl rfl ?_ rfl ?_;omega)|(refine zP rfl ?_ rfl ?_;omega)|refine zG rfl rfl rfl rfl ?_|(refine jdq rfl rfl ?_ ?_ ?_;kernel_rfl;kernel_rfl)|refine zB rfl rfl rfl (by repeat constructor) rfl ?_|refine zH .here rfl rfl rfl rfl ?_|refine zH (.there .here) rfl rfl rfl rfl ?_|refine zH (.there (.there .here)) rfl rfl rfl rfl ?_|refine zH (.there (.there (.there .here))) rfl rfl rfl rfl ?_|refine zH (.there (.there (.there (.there .here)))) rfl rfl rfl rfl ?_)
  refine oN (ev_store rfl rfl .slice rfl rfl (.skip (.skip (.skip (.skip (.skip (.skip (.skip (.skip (.skip (.skip (.skip (.skip (.skip (.skip (.skip (.put .nil)))))))))))))))) (ones_cons rfl ones_nil) (.there .here)) rfl ?_
  rintro _ _ _ _ ⟨rfl, _, rfl⟩
  have hFF := hF1.trans (hF2.trans (hF3.trans hF4))
  have r1234 : ∀ {ts ws8 odd8}, RdE odd4 (allW tagW (ws.drop 4)) ts ws8 odd8 → RdE odd (forgeR ws) ⟨8, 0, to, 0, zCo, [], 0, mk, mf, body, ts⟩ ws8 odd8 := fun h8 => r1.bindE (r2.bindE (r3.bindE (r4.bindE (h8.map fun ts => (⟨8, 0, to, 0, zCo, [], 0, mk, mf, body, ts⟩ : St)))))
  generalize hW : ws.drop 4 = W at *
  have hWl : W.length ≤ ws.length := by rw [← hW, List.length_drop]; omega
  repeat (first|refine zJ rfl rfl ?_|refine jr rfl ?_|refine jn ?_|refine zM rfl rfl ?_|(refine zC rfl rfl ?_ rfl ?_;omega)|(refine zD rfl rfl ?_ rfl ?_;omega)|(refine zP rfl ?_ rfl ?_;omega)|refine zG rfl rfl rfl rfl ?_|(refine jdq rfl rfl ?_ ?_ ?_;kernel_rfl;kernel_rfl)|refine zB rfl rfl rfl (by repeat constructor) rfl ?_|refine zH .here rfl rfl rfl rfl ?_|refine zH (.there .here) rfl rfl rfl rfl ?_|refine zH (.there (.there .here)) rfl rfl rfl rfl ?_|refine zH (.there (.there (.there .here))) rfl rfl rfl rfl ?_|refine zH (.there (.there (.there (.there .here)))) rfl rfl rfl rfl ?_)
  refine J_join (ι := List W8 × Value × Bool × List W8 × Value × PH) [_, _] (fun p => F4.le p.2.2.2.2.2 ∧ WRow p.2.2.2.2.2 p.2.1 p.1 ∧ TagRow p.2.2.2.2.2 p.2.2.2.2.1 p.2.2.2.1 ∧ RdE odd4 (allW tagW W) p.2.2.2.1 p.1 p.2.2.1) (fun p => [(2, pW b2), (3, pW b3)]) (fun p => p.2.2.2.2.2)
    (fun p => wd b p.2.1 p.2.2.1 :: blk b3 31 (stC ⟨8, 0, to, 0, zCo, [], 0, mk, mf, body, []⟩ nl (.slice ab body.length cb) p.2.2.2.2.1) :: blk b2 31 zStC :: X) ?_ ?_
  · show J _ (_ :: _ :: _) _ _ _
    refine J_own_nil 66 32 ?_
    refine J_loop (ι := List W8 × Value × Bool × List W8 × Value × PH) (fun p => F4.le p.2.2.2.2.2 ∧ WRow p.2.2.2.2.2 p.2.1 p.1 ∧ (∀ t ∈ p.2.2.2.1, t.length = 32) ∧ p.2.2.2.1.length + p.1.length ≤ W.length ∧ KeepAll odd4 (allW tagW W) p.2.2.2.1 (allW tagW p.1) p.2.2.1) (fun p => p.1.length) (fun p => [(0, pW b), (2, pW b2), (3, pW b3)]) (fun p => p.2.2.2.2.2)
      (fun p => wd b p.2.1 p.2.2.1 :: own p.2.2.2.2.1 66 32 p.2.2.2.1.length (tagC p.2.2.2.1) :: blk b3 31 (stC ⟨8, 0, to, 0, zCo, [], 0, mk, mf, body, []⟩ nl (.slice ab body.length cb) p.2.2.2.2.1) :: blk b2 31 zStC :: X) (W, v4, odd4, [], .slice none 0 0, F4) ⟨PH.ler _, hv4, by simp, by simp, fun e => ⟨e, by simp⟩, fun e e2 => by rw [e] at e2; cases e2⟩ ⟨⟨rfl, rfl, rfl, trivial⟩, fun w s => s.pick (.there .here)⟩ ?_
    rintro ⟨ws1, v1, odd1, l, u, G⟩ ⟨hG, hv1, hin, hlen, hk⟩
    dsimp only at *
    obtain ⟨_, a, c, rfl, hc, _⟩ := slice1 hv1.1
    cases ws1 with
    | nil =>
      show J _ _ _ _ (blk b 74 [.slice a 0 c, .bool odd1] :: _)
      refine J_pick (.there .here) ?_
      refine J_persist fun hh hA hd => ?_
      have hrow : TagRow (G.un hh) u l := ⟨own_slice hA hd, hin⟩
      have hG2 := PH.le_l G hh
      generalize G.un hh = G2 at *
      unfold pW
      repeat (first|refine zJ rfl rfl ?_|refine jr rfl ?_|refine jn ?_|refine zM rfl rfl ?_|(refine zC rfl rfl ?_ rfl ?_;omega)|(refine zD rfl rfl ?_ rfl ?_;omega)|(refine zP rfl ?_ rfl ?_;omega)|refine zG rfl rfl rfl rfl ?_|(refine jdq rfl rfl ?_ ?_ ?_;kernel_rfl;kernel_rfl)|refine zB rfl rfl rfl (by repeat constructor) rfl ?_|refine zH .here rfl rfl rfl rfl ?_|refine zH (.there .here) rfl rfl rfl rfl ?_|refine zH (.there (.there .here)) rfl rfl rfl rfl ?_|refine zH (.there (.there (.there .here))) rfl rfl rfl rfl ?_|refine zH (.there (.there (.there (.there .here)))) rfl rfl rfl rfl ?_)
      exact J_joined (ι := List W8 × Value × Bool × List W8 × Value × PH) ([], _, odd1, l, u, G2) ⟨hG.trans hG2, hv1.mono hG2, hrow, hk.done (.inl rfl)⟩ ⟨⟨rfl, rfl, trivial⟩, fun w s => s⟩
    | cons w1 r1 =>
      rw [List.length_cons] at *
      cases odd1 with
      | true =>
        show J _ _ _ _ (blk b 74 [.slice a (r1.length + 1) c, .bool true] :: _)
        refine J_pick (.there .here) ?_
        refine J_persist fun hh hA hd => ?_
        have hrow : TagRow (G.un hh) u l := ⟨own_slice hA hd, hin⟩
        have hG2 := PH.le_l G hh
        generalize G.un hh = G2 at *
        unfold pW
        repeat (first|refine zJ rfl rfl ?_|refine jr rfl ?_|refine jn ?_|refine zM rfl rfl ?_|(refine zC rfl rfl ?_ rfl ?_;omega)|(refine zD rfl rfl ?_ rfl ?_;omega)|(refine zP rfl ?_ rfl ?_;omega)|refine zG rfl rfl rfl rfl ?_|(refine jdq rfl rfl ?_ ?_ ?_;kernel_rfl;kernel_rfl)|refine zB rfl rfl rfl (by repeat constructor) rfl ?_|refine zH .here rfl rfl rfl rfl ?_|refine zH (.there .here) rfl rfl rfl rfl ?_|refine zH (.there (.there .here)) rfl rfl rfl rfl ?_|refine zH (.there (.there (.there .here))) rfl rfl rfl rfl ?_|refine zH (.there (.there (.there (.there .here)))) rfl rfl rfl rfl ?_)
        exact J_joined (ι := List W8 × Value × Bool × List W8 × Value × PH) (w1 :: r1, _, true, l, u, G2) ⟨hG.trans hG2, hv1.mono hG2, hrow, hk.done (.inr rfl)⟩ ⟨⟨rfl, rfl, trivial⟩, fun w s => s⟩
      | false =>
        show J _ _ _ _ (blk b 74 [.slice a (r1.length + 1) c, .bool false] :: _)
        unfold pW
        repeat (first|refine zJ rfl rfl ?_|refine jr rfl ?_|refine jn ?_|refine zM rfl rfl ?_|(refine zC rfl rfl ?_ rfl ?_;omega)|(refine zD rfl rfl ?_ rfl ?_;omega)|(refine zP rfl ?_ rfl ?_;omega)|refine zG rfl rfl rfl rfl ?_|(refine jdq rfl rfl ?_ ?_ ?_;kernel_rfl;kernel_rfl)|refine zB rfl rfl rfl (by repeat constructor) rfl ?_|refine zH .here rfl rfl rfl rfl ?_|refine zH (.there .here) rfl rfl rfl rfl ?_|refine zH (.there (.there .here)) rfl rfl rfl rfl ?_|refine zH (.there (.there (.there .here))) rfl rfl rfl rfl ?_|refine zH (.there (.there (.there (.there .here)))) rfl rfl rfl rfl ?_)
        refine oC (Hc := [wd b (.slice a (r1.length + 1) c) false]) (Hr := _ :: _ :: _ :: X) (rbytes_spec b _ (w1 :: r1) false G hv1) Tryd.call36 rfl rfl (fun _ s => s) ?_
        rintro vt G1 _ hG1 ⟨t, v2, odd2, ht, rfl, hv2, hr2⟩
        have ht1 : Byt G1 vt t := ht
        obtain ⟨_, ta, tc, rfl, htc, _⟩ := slice1 ht1
        replace hv2 : WRow G1 v2 r1 := hv2
        have hr2' : Rd false (bytesW w1) t odd2 := hr2
        show JM _ _ _ _ _ _ _ (blk b 74 [v2, .bool odd2] :: _)
        by_cases h32 : t.length = 32
        · have hrt : Rd false (tagW w1) t odd2 := by
            unfold tagW
            rcases hr2'.case with ⟨rfl, _, e⟩ | ⟨rfl, e⟩
            · rw [e, Option.bind_some, if_pos h32]; exact Rd.yes
            · exact Rd.no fun _ => by rw [e rfl]; rfl
          have hk2 : KeepAll odd4 (allW tagW W) (l ++ [t]) (allW tagW r1) odd2 := hk.step hrt
          obtain ⟨tb, to_, rfl, htcc⟩ : ∃ tb to_, ta = some ⟨tb, to_, none⟩ ∧ Cells G1 tb to_ (u8s t) := by
            obtain ⟨_, a', c', e, _, hcc⟩ := id ht1
            obtain ⟨tb, to_, e2, hc9⟩ := hcc (by omega)
            cases e
            exact ⟨tb, to_, e2, hc9⟩
          have hul : (u8s t).length = 32 := by rw [u8s_len]; exact h32
          refine oWith (.there .here) (q := ∃ ua uc, u = .slice ua l.length uc) (fun h' hA => by obtain ⟨a, c, e, _⟩ := own_is hA; exact ⟨a, c, e⟩) fun ⟨ua, uc, hu⟩ => ?_
          subst hu
          repeat (first|refine zJ rfl rfl ?_|refine jr rfl ?_|refine jn ?_|refine zM rfl rfl ?_|(refine zC rfl rfl ?_ rfl ?_;omega)|(refine zD rfl rfl ?_ rfl ?_;omega)|(refine zP rfl ?_ rfl ?_;omega)|refine zG rfl rfl rfl rfl ?_|(refine jdq rfl rfl ?_ ?_ ?_;kernel_rfl;kernel_rfl)|refine zB rfl rfl rfl (by repeat constructor) rfl ?_|refine zH .here rfl rfl rfl rfl ?_|refine zH (.there .here) rfl rfl rfl rfl ?_|refine zH (.there (.there .here)) rfl rfl rfl rfl ?_|refine zH (.there (.there (.there .here))) rfl rfl rfl rfl ?_|refine zH (.there (.there (.there (.there .here)))) rfl rfl rfl rfl ?_)
          refine jaL G1 [blk b3 31 (stC ⟨8, 0, to, 0, zCo, [], 0, mk, mf, body, []⟩ nl (.slice ab body.length cb) (.slice ua l.length uc))] rfl ?_ ?_ (fun w t => (t.pick (.there (.there .here))).head) ?_; kernel_rfl; kernel_rfl; dsimp only [List.dropLast]
          refine aT 0 rfl (ev_qe rfl) rfl rfl ?_ ?_ ?_ ?_; kernel_rfl; kernel_rfl; kernel_rfl
          refine aT 1 rfl (ev_qe rfl) rfl rfl ?_ ?_ ?_ ?_; kernel_rfl; kernel_rfl; kernel_rfl
          refine aT 2 rfl (ev_load (v := .slice ua l.length uc) rfl rfl (Rdb.ofB (n := 0) .here rfl)) rfl rfl ?_ ?_ ?_ ?_; kernel_rfl; kernel_rfl; kernel_rfl
          refine aT 3 rfl (ev_qe rfl) rfl rfl ?_ ?_ ?_ ?_; kernel_rfl; kernel_rfl; kernel_rfl
          refine aT 4 rfl (ev_s2a (m := 32) rfl rfl (by omega)) rfl rfl ?_ ?_ ?_ ?_; kernel_rfl; kernel_rfl; kernel_rfl
          refine aT 5 rfl (ev_load_agg (cs := u8s t) rfl rfl (Rdb.ofF htcc) hul) rfl rfl ?_ ?_ ?_ ?_; kernel_rfl; kernel_rfl; kernel_rfl
          refine aB (i := 6) (by kernel_rfl) (aE rfl (ev_one rfl .agg hul elTag) rfl rfl (fun _ _ _ _ hq w s => by obtain ⟨rfl, b9, _, rfl⟩ := hq; exact (s.pick (.there (.there (.there .here)))).head) ?_)
          rintro _ _ _ _ ⟨rfl, b9, rfl, rfl⟩
          refine aB (i := 7) (by kernel_rfl) (aE rfl (ev_append (m := 1) (c := 1) (b := b9) (off := 0) (n := l.length) (xs := tagC l) (news := u8s t) (K := fun v' => blk b9 66 (u8s t) :: blk b 74 [v2, .bool odd2] :: own v' 66 32 (l.length + 1) (tagC l ++ u8s t) :: blk b3 31 (stC ⟨8, 0, to, 0, zCo, [], 0, mk, mf, body, []⟩ nl (.slice ab body.length cb) (.slice ua l.length uc)) :: blk b2 31 zStC :: X) rfl rfl elTag (Rdb.ofB (n := 0) .here (by rw [List.drop_zero, List.take_length])) (by rw [hul]) (u8s_ones t) (by omega) (by unfold maxLen; omega) (fun v' => .there (.there .here))) rfl rfl (fun _ _ _ _ hq w s => by obtain ⟨rfl, _, rfl⟩ := hq; exact (s.pick (.there (.there (.there .here)))).head) ?_)
          rintro u2 _ _ _ ⟨rfl, _, rfl⟩
          refine aT 8 rfl (ev_qe rfl) rfl rfl ?_ ?_ ?_ ?_; kernel_rfl; kernel_rfl; kernel_rfl
          refine aT 9 rfl (ev_qe rfl) rfl rfl ?_ ?_ ?_ ?_; kernel_rfl; kernel_rfl; kernel_rfl
          refine aD (by kernel_rfl) ?_
          refine jL rfl ?_
          refine oWith (.there (.there .here)) (q := ∃ ua uc, u2 = .slice ua (l.length + 1) uc) (fun h' hA => by obtain ⟨a, c, e, _⟩ := own_is hA; exact ⟨a, c, e⟩) fun ⟨u2a, u2c, hu2⟩ => ?_
          subst hu2
          refine oN (ev_store rfl rfl .slice rfl rfl (.skip (.skip (.skip (.skip (.skip (.skip (.skip (.skip (.skip (.skip (.skip (.skip (.skip (.skip (.skip (.skip (.put .nil))))))))))))))))) (ones_cons rfl ones_nil) (.there (.there (.there .here)))) rfl ?_
          rintro _ _ _ _ ⟨rfl, _, rfl⟩
          repeat (first|refine zJ rfl rfl ?_|refine jr rfl ?_|refine jn ?_|refine zM rfl rfl ?_|(refine zC rfl rfl ?_ rfl ?_;omega)|(refine zD rfl rfl ?_ rfl ?_;omega)|(refine zP rfl ?_ rfl ?_;omega)|refine zG rfl rfl rfl rfl ?_|(refine jdq rfl rfl ?_ ?_ ?_;kernel_rfl;kernel_rfl)|refine zB rfl rfl rfl (by repeat constructor) rfl ?_|refine zH .here rfl rfl rfl rfl ?_|refine zH (.there .here) rfl rfl rfl rfl ?_|refine zH (.there (.there .here)) rfl rfl rfl rfl ?_|refine zH (.there (.there (.there .here))) rfl rfl rfl rfl ?_|refine zH (.there (.there (.there (.there .here)))) rfl rfl rfl rfl ?_)
          refine J_again (ι := List W8 × Value × Bool × List W8 × Value × PH) (r1, v2, odd2, l ++ [t], .slice u2a (l.length + 1) u2c, G1) ⟨hG.trans hG1, hv2, ?_, ?_, hk2⟩ (by dsimp only; simp) ⟨⟨rfl, rfl, rfl, trivial⟩, fun w s => ?_⟩
          · intro t2 h2
            rcases List.mem_append.1 h2 with h2 | h2
            · exact hin t2 h2
            · simp at h2; subst h2; exact h32
          · dsimp only
            rw [List.length_append, List.length_singleton]
            omega
          · dsimp only
            rw [tagC_snoc, List.length_append, List.length_singleton]
            exact s.drop
        · repeat (first|refine zJ rfl rfl ?_|refine jr rfl ?_|refine jn ?_|refine zM rfl rfl ?_|(refine zC rfl rfl ?_ rfl ?_;omega)|(refine zD rfl rfl ?_ rfl ?_;omega)|(refine zP rfl ?_ rfl ?_;omega)|refine zG rfl rfl rfl rfl ?_|(refine jdq rfl rfl ?_ ?_ ?_;kernel_rfl;kernel_rfl)|refine zB rfl rfl rfl (by repeat constructor) rfl ?_|refine zH .here rfl rfl rfl rfl ?_|refine zH (.there .here) rfl rfl rfl rfl ?_|refine zH (.there (.there .here)) rfl rfl rfl rfl ?_|refine zH (.there (.there (.there .here))) rfl rfl rfl rfl ?_|refine zH (.there (.there (.there (.there .here)))) rfl rfl rfl rfl ?_)
          refine oN (ev_store rfl rfl .bool rfl rfl (.skip (.put .nil)) (ones_cons rfl ones_nil) .here) rfl ?_
          rintro _ _ _ _ ⟨rfl, _, rfl⟩
          refine oPick (.there .here) ?_
          refine oPersist fun hh hA hd => ?_
          have hrow : TagRow (G1.un hh) u l := ⟨own_slice hA hd, hin⟩
          have hG2 := PH.le_l G1 hh
          generalize G1.un hh = G2 at *
          repeat (first|refine zJ rfl rfl ?_|refine jr rfl ?_|refine jn ?_|refine zM rfl rfl ?_|(refine zC rfl rfl ?_ rfl ?_;omega)|(refine zD rfl rfl ?_ rfl ?_;omega)|(refine zP rfl ?_ rfl ?_;omega)|refine zG rfl rfl rfl rfl ?_|(refine jdq rfl rfl ?_ ?_ ?_;kernel_rfl;kernel_rfl)|refine zB rfl rfl rfl (by repeat constructor) rfl ?_|refine zH .here rfl rfl rfl rfl ?_|refine zH (.there .here) rfl rfl rfl rfl ?_|refine zH (.there (.there .here)) rfl rfl rfl rfl ?_|refine zH (.there (.there (.there .here))) rfl rfl rfl rfl ?_|refine zH (.there (.there (.there (.there .here)))) rfl rfl rfl rfl ?_)
          have hno : tagW w1 = none := by
            unfold tagW
            rcases hr2'.case with ⟨_, _, e⟩ | ⟨_, e⟩
            · rw [e, Option.bind_some, if_neg h32]
            · rw [e rfl]; rfl
          have hk2 : KeepAll odd4 (allW tagW W) (l ++ [t]) (allW tagW r1) true := hk.step (Rd.no fun _ => hno)
          exact J_joined (ι := List W8 × Value × Bool × List W8 × Value × PH) (r1, v2, true, l, u, G2) ⟨hG.trans (hG1.trans hG2), hv2.mono hG2, hrow, ⟨fun e => (by cases e), fun e hr => absurd (hk2.2 e rfl) hr⟩⟩ ⟨⟨rfl, rfl, trivial⟩, fun w s => s⟩
  rintro ⟨ws8, v8, odd8, l, u, F9⟩ ⟨hF9, hv8, htg, hr8⟩
  dsimp only at *
  obtain ⟨ua, uc, rfl, _⟩ : ∃ ua uc, u = .slice ua l.length uc ∧ l.length ≤ uc := by
    obtain ⟨⟨_, a, c, e, h1, _⟩, _⟩ := htg
    exact ⟨a, c, e, h1⟩
  repeat (first|refine zJ rfl rfl ?_|refine jr rfl ?_|refine jn ?_|refine zM rfl rfl ?_|(refine zC rfl rfl ?_ rfl ?_;omega)|(refine zD rfl rfl ?_ rfl ?_;omega)|(refine zP rfl ?_ rfl ?_;omega)|refine zG rfl rfl rfl rfl ?_|(refine jdq rfl rfl ?_ ?_ ?_;kernel_rfl;kernel_rfl)|refine zB rfl rfl rfl (by repeat constructor) rfl ?_|refine zH .here rfl rfl rfl rfl ?_|refine zH (.there .here) rfl rfl rfl rfl ?_|refine zH (.there (.there .here)) rfl rfl rfl rfl ?_|refine zH (.there (.there (.there .here))) rfl rfl rfl rfl ?_|refine zH (.there (.there (.there (.there .here)))) rfl rfl rfl rfl ?_)
  refine oS (ev_load_agg (cs := stC ⟨8, 0, to, 0, zCo, [], 0, mk, mf, body, l⟩ nl (.slice ab body.length cb) (.slice ua l.length uc)) rfl rfl (Rdb.ofB (n := 0) (.there .here) rfl) rfl) rfl ?_
  refine oN (ev_store rfl rfl .agg rfl rfl (lay_all (zs := zStC) rfl) (by unfold stC; (repeat (first | exact ones_nil | refine ones_cons rfl ?_))) (.there (.there .here))) rfl ?_
  rintro _ _ _ _ ⟨rfl, _, rfl⟩
  repeat (first|refine zJ rfl rfl ?_|refine jr rfl ?_|refine jn ?_|refine zM rfl rfl ?_|(refine zC rfl rfl ?_ rfl ?_;omega)|(refine zD rfl rfl ?_ rfl ?_;omega)|(refine zP rfl ?_ rfl ?_;omega)|refine zG rfl rfl rfl rfl ?_|(refine jdq rfl rfl ?_ ?_ ?_;kernel_rfl;kernel_rfl)|refine zB rfl rfl rfl (by repeat constructor) rfl ?_|refine zH .here rfl rfl rfl rfl ?_|refine zH (.there .here) rfl rfl rfl rfl ?_|refine zH (.there (.there .here)) rfl rfl rfl rfl ?_|refine zH (.there (.there (.there .here))) rfl rfl rfl rfl ?_|refine zH (.there (.there (.there (.there .here)))) rfl rfl rfl rfl ?_)
  refine J_retv (vs := [.agg (stC ⟨8, 0, to, 0, zCo, [], 0, mk, mf, body, l⟩ nl (.slice ab body.length cb) (.slice ua l.length uc)).toArray]) rfl (.agg rfl rfl (Rdb.ofB (n := 0) (.there (.there .here)) rfl) rfl .nil) [wd b v8 odd8] (fun w s => (s.perm (List.Perm.symm (List.perm_middle (l₁ := [_, _])))).drop.drop) (hFF.trans hF9) ⟨⟨8, 0, to, 0, zCo, [], 0, mk, mf, body, l⟩, .slice ab body.length cb, .slice ua l.length uc, v8, odd8, ws8, rfl, ⟨inI8, inI0, hto, inI0, zCo_in, NumRow.nil _, Int.le_refl 0, by show (0 : Int) ≤ 4294967295; decide, hmk, hmf, SliceV.mono hvb1 hF9, htg⟩, by show ([] : W8).length ≤ 2000000; simp, rfl, hv8, r1234 hr8⟩
end Go.Proofs.YtekdmpbkcjjllaaDoor
namespace Go.Proofs.YtekdmpbkcjjllaaDoor
open Go.RowKit
set_option maxRecDepth 100000
noncomputable def lieR (r : List W8) : Option St := (tk1 numW r).bind fun who => (tk1 numW (r.drop 1)).bind fun to => (tk1 numW (r.drop 2)).bind fun k => (tk1 bytesW (r.drop 3)).bind fun body => if k = 1 then none else if r.drop 4 = [] then some ⟨7, who, to, 0, zCo, [], 0, k, 0, body, []⟩ else none
noncomputable def askR (r : List W8) : Option St := (tk1 numW r).bind fun who => (coreR (r.drop 1)).bind fun c => (allW numW (r.drop 6)).map fun os => ⟨1, who, 0, 0, c, os, 0, 0, 0, [], []⟩
/-- The step that a row of words tells. -/
noncomputable def parseP (ws : List W8) : Option St := match oneK (ws.headD []) with
  | some k => (tk1 numW ws.tail).bind fun n => if ws.tail.tail = [] then some (oneSt k n) else none
  | none => if ws.headD [] = wAsk then askR ws.tail else if ws.headD [] = wRequest then reqR ws.tail else if ws.headD [] = wLie then lieR ws.tail else if ws.headD [] = wForge then forgeR ws.tail else none
/-- What is known behind the switch. -/
structure Fin1 (odd : Bool) (r : Option St) (x : St) (ws' : List W8) (odd' : Bool) : Prop where
  yes : odd' = false → ws' = [] → odd = false ∧ r = some x
  all : odd = false → r ≠ none → odd' = false ∧ ws' = []
theorem RdE.fin {odd : Bool} {r : Option St} {x : St} {ws' : List W8} {odd' : Bool} (h : RdE odd r x ws' odd') : Fin1 odd r x ws' odd' := ⟨fun e _ => ⟨(h.1 e).1, (h.1 e).2.2⟩, fun e hr => ⟨h.2 e hr, (h.1 (h.2 e hr)).2.1⟩⟩
theorem Rd.fin {α : Type} {odd odd1 odd2 : Bool} {r : Option α} {n : α} {g : α → Option St} {x : St} {ws' : List W8} (h1 : Rd odd r n odd1) (h2 : Fin1 odd1 (g n) x ws' odd2) : Fin1 odd (r.bind g) x ws' odd2 := by
  refine ⟨fun e e2 => ?_, fun e hr => ?_⟩
  · obtain ⟨e1, e3⟩ := h2.yes e e2
    obtain ⟨ho, hr⟩ := h1.1 e1
    exact ⟨ho, by rw [hr, Option.bind_some, e3]⟩
  · rcases h1.case with ⟨e1, _, e2⟩ | ⟨_, e2⟩
    · exact h2.all e1 fun e3 => hr (by rw [e2, Option.bind_some, e3])
    · rw [e2 e] at hr
      exact absurd rfl hr
theorem Fin1.end {odd : Bool} {x : St} {ws' : List W8} : Fin1 odd (if ws' = [] then some x else none) x ws' odd :=
  ⟨fun e e2 => ⟨e, by rw [if_pos e2]⟩, fun e hr => ⟨e, by by_cases h : ws' = []; exact h; rw [if_neg h] at hr; exact absurd rfl hr⟩⟩
theorem Fin1.end2 {odd : Bool} {x : St} {ws' : List W8} {k : Int} : Fin1 odd (if k = 1 then none else if ws' = [] then some x else none) x ws' (odd || decide (k = 1)) := by
  by_cases hk : k = 1
  · rw [if_pos hk]
    exact ⟨fun e => by simp [hk] at e, fun _ h => absurd rfl h⟩
  · rw [if_neg hk, decide_eq_false hk, Bool.or_false]
    exact Fin1.end
theorem Fin1.no {x : St} {ws' : List W8} : Fin1 false none x ws' true := ⟨fun e => (by cases e), fun _ h => absurd rfl h⟩
theorem splW_mem (c : UInt8) : ∀ (s : W8), ∀ w ∈ splW c s, w.length ≤ s.length
  | [], w, h => by simp [splW] at h; subst h; simp
  | b :: r, w, h => by
    have ih := splW_mem c r
    unfold splW at h
    split at h
    · rcases List.mem_cons.1 h with rfl | h
      · simp
      · have := ih w h; simp; omega
    · cases e : splW c r with
      | nil => rw [e] at h; simp at h; subst h; simp
      | cons w1 ws1 =>
        rw [e] at h ih
        rcases List.mem_cons.1 h with rfl | h
        · have := ih w1 (by simp); simp; omega
        · have := ih w (by simp [h]); simp; omega
theorem splW_len_le (c : UInt8) (s : W8) : (splW c s).length ≤ s.length + 1 := by
  rw [splW_len]
  have : s.count c ≤ s.length := List.count_le_length
  omega
theorem WRow.of_blk {F h : PH} {b E : Nat} {ws : List W8} (hA : blk b E (strC ws) h) (hd : F.dj h) (hi : ∀ w ∈ ws, w.length ≤ 2000000) : WRow (F.un h) (.slice (some ⟨b, 0, none⟩) ws.length ws.length) ws :=
  ⟨⟨by simp [strC], _, _, rfl, Nat.le_refl _, fun _ => ⟨b, 0, rfl, blk_cells hA hd⟩⟩, hi⟩
theorem zSt_ok (F : PH) : StOk F zSt nl nl nl := ⟨inI0, inI0, inI0, inI0, zCo_in, NumRow.nil _, Int.le_refl 0, by show (0 : Int) ≤ 4294967295; decide, inI0, inI0, SliceV.nil _ _, TagRow.nil _⟩
theorem oneSt_ok {k n : Int} (F : PH) (hk : InI k) (hn : InI n) : StOk F (oneSt k n) nl nl nl := by
  unfold oneSt
  split
  · exact ⟨hk, hn, inI0, inI0, zCo_in, NumRow.nil _, Int.le_refl 0, by show (0 : Int) ≤ 4294967295; decide, inI0, inI0, SliceV.nil _ _, TagRow.nil _⟩
  · exact ⟨hk, inI0, inI0, hn, zCo_in, NumRow.nil _, Int.le_refl 0, by show (0 : Int) ≤ 4294967295; decide, inI0, inI0, SliceV.nil _ _, TagRow.nil _⟩
theorem oneSt_letter (k n : Int) : (oneSt k n).core.letter.length ≤ 2000000 := by unfold oneSt; split <;> (show ([] : W8).length ≤ 2000000; simp)
def ParsedQ (r : Option St) (u : Value) (F' : PH) : Prop := ∃ x vo vb vt ok, u = .tuple #[.agg (stC x vo vb vt).toArray, .bool ok] ∧ StOk F' x vo vb vt ∧ x.core.letter.length ≤ 2000000 ∧ match r with | some y => ok = true ∧ x = y | none => ok = false ∧ x = zSt
set_option maxHeartbeats 32000000 in
theorem parseLine_spec (t : W8) (ht : t.length ≤ 2000000) (F : PH) (hF : LibF F) : Spec Tryd.prog 10 [.string (strOf t)] F [] fun u F' H' => H' = [] ∧ ParsedQ (parseP (splW 32 t)) u F' := by
  refine Spec.of1 Tryd.func10 rfl rfl fun X w0 => ?_
  have hm := splW_mem 32 t
  have hl := splW_len_le 32 t
  have hne := splW_ne 32 t
  repeat (first|refine zJ rfl rfl ?_|refine jr rfl ?_|refine jn ?_|refine zM rfl rfl ?_|(refine zC rfl rfl ?_ rfl ?_;omega)|(refine zD rfl rfl ?_ rfl ?_;omega)|(refine zP rfl ?_ rfl ?_;omega)|refine zG rfl rfl rfl rfl ?_|(refine jdq rfl rfl ?_ ?_ ?_;kernel_rfl;kernel_rfl)|refine zB rfl rfl rfl (by repeat constructor) rfl ?_|refine zH .here rfl rfl rfl rfl ?_|refine zH (.there .here) rfl rfl rfl rfl ?_|refine zH (.there (.there .here)) rfl rfl rfl rfl ?_|refine zH (.there (.there (.there .here))) rfl rfl rfl rfl ?_|refine zH (.there (.there (.there (.there .here)))) rfl rfl rfl rfl ?_)
  refine oE (ev_alloc (cs := zStC) rfl) rfl ?_
  rintro _ _ _ _ ⟨rfl, b2, rfl, rfl⟩
  repeat (first|refine zJ rfl rfl ?_|refine jr rfl ?_|refine jn ?_|refine zM rfl rfl ?_|(refine zC rfl rfl ?_ rfl ?_;omega)|(refine zD rfl rfl ?_ rfl ?_;omega)|(refine zP rfl ?_ rfl ?_;omega)|refine zG rfl rfl rfl rfl ?_|(refine jdq rfl rfl ?_ ?_ ?_;kernel_rfl;kernel_rfl)|refine zB rfl rfl rfl (by repeat constructor) rfl ?_|refine zH .here rfl rfl rfl rfl ?_|refine zH (.there .here) rfl rfl rfl rfl ?_|refine zH (.there (.there .here)) rfl rfl rfl rfl ?_|refine zH (.there (.there (.there .here))) rfl rfl rfl rfl ?_|refine zH (.there (.there (.there (.there .here)))) rfl rfl rfl rfl ?_)
  refine oC (Hc := []) (Hr := _ :: X) (split_spec t 32 (by omega) F) Tryd.call29 rfl rfl (fun _ s => s) ?_
  rintro _ F0 _ hF0 ⟨bs, rfl, rfl⟩
  generalize splW 32 t = ws at *
  refine oPersist fun hh hA hd => ?_
  have hrow := WRow.of_blk hA hd (fun w hw => Nat.le_trans (hm w hw) ht)
  have hF1 := hF0.trans (PH.le_l F0 hh)
  generalize F0.un hh = F1 at *
  repeat (first|refine zJ rfl rfl ?_|refine jr rfl ?_|refine jn ?_|refine zM rfl rfl ?_|(refine zC rfl rfl ?_ rfl ?_;omega)|(refine zD rfl rfl ?_ rfl ?_;omega)|(refine zP rfl ?_ rfl ?_;omega)|refine zG rfl rfl rfl rfl ?_|(refine jdq rfl rfl ?_ ?_ ?_;kernel_rfl;kernel_rfl)|refine zB rfl rfl rfl (by repeat constructor) rfl ?_|refine zH .here rfl rfl rfl rfl ?_|refine zH (.there .here) rfl rfl rfl rfl ?_|refine zH (.there (.there .here)) rfl rfl rfl rfl ?_|refine zH (.there (.there (.there .here))) rfl rfl rfl rfl ?_|refine zH (.there (.there (.there (.there .here)))) rfl rfl rfl rfl ?_)
  refine oE (ev_box rfl .agg) rfl ?_; rintro _ _ _ _ ⟨rfl, b, rfl, rfl⟩
  repeat (first|refine zJ rfl rfl ?_|refine jr rfl ?_|refine jn ?_|refine zM rfl rfl ?_|(refine zC rfl rfl ?_ rfl ?_;omega)|(refine zD rfl rfl ?_ rfl ?_;omega)|(refine zP rfl ?_ rfl ?_;omega)|refine zG rfl rfl rfl rfl ?_|(refine jdq rfl rfl ?_ ?_ ?_;kernel_rfl;kernel_rfl)|refine zB rfl rfl rfl (by repeat constructor) rfl ?_|refine zH .here rfl rfl rfl rfl ?_|refine zH (.there .here) rfl rfl rfl rfl ?_|refine zH (.there (.there .here)) rfl rfl rfl rfl ?_|refine zH (.there (.there (.there .here))) rfl rfl rfl rfl ?_|refine zH (.there (.there (.there (.there .here)))) rfl rfl rfl rfl ?_)
  refine oC (Hc := [wd b (.slice (some ⟨bs, 0, none⟩) ws.length ws.length) false]) (Hr := _ :: X) (next_spec b _ ws false F1 hrow) Tryd.call30 rfl rfl (fun _ s => s) ?_
  rintro _ F2 _ hF2 ⟨v2, rfl, rfl, hv2⟩
  have hL2 := (hF.mono hF1).mono hF2
  repeat (first|refine zJ rfl rfl ?_|refine jr rfl ?_|refine jn ?_|refine zM rfl rfl ?_|(refine zC rfl rfl ?_ rfl ?_;omega)|(refine zD rfl rfl ?_ rfl ?_;omega)|(refine zP rfl ?_ rfl ?_;omega)|refine zG rfl rfl rfl rfl ?_|(refine jdq rfl rfl ?_ ?_ ?_;kernel_rfl;kernel_rfl)|refine zB rfl rfl rfl (by repeat constructor) rfl ?_|refine zH .here rfl rfl rfl rfl ?_|refine zH (.there .here) rfl rfl rfl rfl ?_|refine zH (.there (.there .here)) rfl rfl rfl rfl ?_|refine zH (.there (.there (.there .here))) rfl rfl rfl rfl ?_|refine zH (.there (.there (.there (.there .here)))) rfl rfl rfl rfl ?_)
  have hem : (false || ws.isEmpty) = false := by cases ws <;> simp_all
  rw [hem]
  refine oC (Hc := [wd b v2 false]) (Hr := _ :: X) (one_spec b v2 ws.tail false (ws.headD []) F2 hL2 hv2) Tryd.call31 rfl rfl (fun _ s => s) ?_
  rintro u3 F3 H3 hF3 hone
  have huni : ∃ x0 ok0 v3 odd3 ws3, u3 = .tuple #[.agg (stC x0 nl nl nl).toArray, .bool ok0] ∧ H3 = [wd b v3 odd3] ∧ WRow F3 v3 ws3 ∧ ws3.length ≤ ws.length ∧ StOk F3 x0 nl nl nl ∧ x0.core.letter.length ≤ 2000000 ∧
      ((ok0 = true ∧ Fin1 false (parseP ws) x0 ws3 odd3) ∨ (ok0 = false ∧ x0 = zSt ∧ odd3 = false ∧ ws3 = ws.tail ∧ oneK (ws.headD []) = none)) := by
    rcases hone with ⟨hn, rfl, rfl⟩ | ⟨k, n, v3, odd3, hk, rfl, hki, hni, rfl, hv3, hr⟩
    · exact ⟨zSt, false, v2, false, ws.tail, rfl, rfl, hv2.mono hF3, by rw [List.length_tail]; omega, zSt_ok F3, by show ([] : W8).length ≤ 2000000; simp, .inr ⟨rfl, rfl, rfl, rfl, hn⟩⟩
    · refine ⟨oneSt k n, true, v3, odd3, ws.tail.tail, rfl, rfl, hv3, by rw [List.length_tail, List.length_tail]; omega, oneSt_ok F3 hki hni, oneSt_letter k n, .inl ⟨rfl, ?_⟩⟩
      unfold parseP
      rw [hk]
      exact hr.fin Fin1.end
  obtain ⟨x0, ok0, v3, odd3, ws3, rfl, rfl, hv3, hwl3, hst0, hlt0, hcase⟩ := huni
  have hL3 := hL2.mono hF3
  repeat (first|refine zJ rfl rfl ?_|refine jr rfl ?_|refine jn ?_|refine zM rfl rfl ?_|(refine zC rfl rfl ?_ rfl ?_;omega)|(refine zD rfl rfl ?_ rfl ?_;omega)|(refine zP rfl ?_ rfl ?_;omega)|refine zG rfl rfl rfl rfl ?_|(refine jdq rfl rfl ?_ ?_ ?_;kernel_rfl;kernel_rfl)|refine zB rfl rfl rfl (by repeat constructor) rfl ?_|refine zH .here rfl rfl rfl rfl ?_|refine zH (.there .here) rfl rfl rfl rfl ?_|refine zH (.there (.there .here)) rfl rfl rfl rfl ?_|refine zH (.there (.there (.there .here))) rfl rfl rfl rfl ?_|refine zH (.there (.there (.there (.there .here)))) rfl rfl rfl rfl ?_)
  refine oE (ev_alloc (cs := zStC) rfl) rfl ?_
  rintro _ _ _ _ ⟨rfl, b6, rfl, rfl⟩
  refine oN (ev_store (vs := stC x0 nl nl nl) rfl rfl .agg rfl rfl (lay_all (zs := zStC) rfl) (by unfold stC; (repeat (first | exact ones_nil | refine ones_cons rfl ?_))) .here) rfl ?_
  rintro _ _ _ _ ⟨rfl, _, rfl⟩
  repeat (first | refine oM rfl rfl ?_ | refine oS (ev_pv rfl) rfl ?_)
  refine jn ?_
  refine J_seq ?_
  refine J_join (ι := St × Value × Value × Value × Value × List W8 × Bool × PH) [_] (fun p => F3.le p.2.2.2.2.2.2.2 ∧ StOk p.2.2.2.2.2.2.2 p.1 p.2.1 p.2.2.1 p.2.2.2.1 ∧ p.1.core.letter.length ≤ 2000000 ∧ WRow p.2.2.2.2.2.2.2 p.2.2.2.2.1 p.2.2.2.2.2.1 ∧ Fin1 false (parseP ws) p.1 p.2.2.2.2.2.1 p.2.2.2.2.2.2.1)
    (fun p => [(2, pW b2), (4, pW b), (6, pW b6)]) (fun p => p.2.2.2.2.2.2.2) (fun p => blk b6 31 (stC p.1 p.2.1 p.2.2.1 p.2.2.2.1) :: wd b p.2.2.2.2.1 p.2.2.2.2.2.2.1 :: blk b2 31 zStC :: X) ?_ ?_
  · show J _ (_ :: _) _ _ _
    rcases hcase with ⟨rfl, hfin⟩ | ⟨rfl, rfl, rfl, rfl, hno⟩
    · repeat (first|refine zJ rfl rfl ?_|refine jr rfl ?_|refine jn ?_|refine zM rfl rfl ?_|(refine zC rfl rfl ?_ rfl ?_;omega)|(refine zD rfl rfl ?_ rfl ?_;omega)|(refine zP rfl ?_ rfl ?_;omega)|refine zG rfl rfl rfl rfl ?_|(refine jdq rfl rfl ?_ ?_ ?_;kernel_rfl;kernel_rfl)|refine zB rfl rfl rfl (by repeat constructor) rfl ?_|refine zH .here rfl rfl rfl rfl ?_|refine zH (.there .here) rfl rfl rfl rfl ?_|refine zH (.there (.there .here)) rfl rfl rfl rfl ?_|refine zH (.there (.there (.there .here))) rfl rfl rfl rfl ?_|refine zH (.there (.there (.there (.there .here)))) rfl rfl rfl rfl ?_)
      exact J_joined (ι := St × Value × Value × Value × Value × List W8 × Bool × PH) (x0, nl, nl, nl, v3, ws3, odd3, F3) ⟨PH.ler _, hst0, hlt0, hv3, hfin⟩ ⟨⟨rfl, rfl, rfl, trivial⟩, fun w s => s⟩
    · generalize hR : ws.tail = R at *
      generalize hN : ws.headD [] = name at *
      have hP : parseP ws = if name = wAsk then askR R else if name = wRequest then reqR R else if name = wLie then lieR R else if name = wForge then forgeR R else none := by
        unfold parseP
        rw [hN, hno, hR]
      clear hone hN
      have hL9 := hL3
      by_cases h : name = wAsk
      · rw [if_pos h] at hP
        repeat (first|refine zJ rfl rfl ?_|refine jr rfl ?_|refine jn ?_|refine zM rfl rfl ?_|(refine zC rfl rfl ?_ rfl ?_;omega)|(refine zD rfl rfl ?_ rfl ?_;omega)|(refine zP rfl ?_ rfl ?_;omega)|refine zG rfl rfl rfl rfl ?_|(refine jdq rfl rfl ?_ ?_ ?_;kernel_rfl;kernel_rfl)|refine zB rfl rfl rfl (by repeat constructor) rfl ?_|refine zH .here rfl rfl rfl rfl ?_|refine zH (.there .here) rfl rfl rfl rfl ?_|refine zH (.there (.there .here)) rfl rfl rfl rfl ?_|refine zH (.there (.there (.there .here))) rfl rfl rfl rfl ?_|refine zH (.there (.there (.there (.there .here)))) rfl rfl rfl rfl ?_)
        refine oS (ev_seql (bs := name) (cs := wAsk) (r := true) rfl rfl (by simp [h])) rfl ?_
        repeat (first|refine zJ rfl rfl ?_|refine jr rfl ?_|refine jn ?_|refine zM rfl rfl ?_|(refine zC rfl rfl ?_ rfl ?_;omega)|(refine zD rfl rfl ?_ rfl ?_;omega)|(refine zP rfl ?_ rfl ?_;omega)|refine zG rfl rfl rfl rfl ?_|(refine jdq rfl rfl ?_ ?_ ?_;kernel_rfl;kernel_rfl)|refine zB rfl rfl rfl (by repeat constructor) rfl ?_|refine zH .here rfl rfl rfl rfl ?_|refine zH (.there .here) rfl rfl rfl rfl ?_|refine zH (.there (.there .here)) rfl rfl rfl rfl ?_|refine zH (.there (.there (.there .here))) rfl rfl rfl rfl ?_|refine zH (.there (.there (.there (.there .here)))) rfl rfl rfl rfl ?_)
        refine oC (Hc := [wd b v3 false]) (Hr := _ :: _ :: X) (int_spec b v3 R false F3 hL3 hv3) Tryd.call32 rfl rfl (fun _ s => s.pick (.there .here)) ?_
        rintro _ G1 _ hG1 ⟨who, v4, odd4, ⟨rfl, hwho⟩, rfl, hv4, r1⟩
        rw [tail_1] at hv4
        have hM1 := hL3.mono hG1
        repeat (first|refine zJ rfl rfl ?_|refine jr rfl ?_|refine jn ?_|refine zM rfl rfl ?_|(refine zC rfl rfl ?_ rfl ?_;omega)|(refine zD rfl rfl ?_ rfl ?_;omega)|(refine zP rfl ?_ rfl ?_;omega)|refine zG rfl rfl rfl rfl ?_|(refine jdq rfl rfl ?_ ?_ ?_;kernel_rfl;kernel_rfl)|refine zB rfl rfl rfl (by repeat constructor) rfl ?_|refine zH .here rfl rfl rfl rfl ?_|refine zH (.there .here) rfl rfl rfl rfl ?_|refine zH (.there (.there .here)) rfl rfl rfl rfl ?_|refine zH (.there (.there (.there .here))) rfl rfl rfl rfl ?_|refine zH (.there (.there (.there (.there .here)))) rfl rfl rfl rfl ?_)
        refine oN (ev_store (vs := stC { zSt with kind := 1, who := who } nl nl nl) rfl rfl .agg rfl rfl (lay_all (zs := stC zSt nl nl nl) rfl) (by unfold stC; (repeat (first | exact ones_nil | refine ones_cons rfl ?_))) (.there .here)) rfl ?_
        rintro _ _ _ _ ⟨rfl, _, rfl⟩
        repeat (first|refine zJ rfl rfl ?_|refine jr rfl ?_|refine jn ?_|refine zM rfl rfl ?_|(refine zC rfl rfl ?_ rfl ?_;omega)|(refine zD rfl rfl ?_ rfl ?_;omega)|(refine zP rfl ?_ rfl ?_;omega)|refine zG rfl rfl rfl rfl ?_|(refine jdq rfl rfl ?_ ?_ ?_;kernel_rfl;kernel_rfl)|refine zB rfl rfl rfl (by repeat constructor) rfl ?_|refine zH .here rfl rfl rfl rfl ?_|refine zH (.there .here) rfl rfl rfl rfl ?_|refine zH (.there (.there .here)) rfl rfl rfl rfl ?_|refine zH (.there (.there (.there .here))) rfl rfl rfl rfl ?_|refine zH (.there (.there (.there (.there .here)))) rfl rfl rfl rfl ?_)
        refine oC (Hc := [wd b v4 odd4]) (Hr := _ :: _ :: X) (rcore_spec b v4 _ odd4 G1 hM1 hv4) Tryd.call33 rfl rfl (fun _ s => s) ?_
        rintro _ G2 _ hG2 ⟨co, v5, odd5, rfl, hco, rfl, hv5, r2⟩
        rw [List.drop_drop] at hv5
        have hM2 := hM1.mono hG2
        repeat (first|refine zJ rfl rfl ?_|refine jr rfl ?_|refine jn ?_|refine zM rfl rfl ?_|(refine zC rfl rfl ?_ rfl ?_;omega)|(refine zD rfl rfl ?_ rfl ?_;omega)|(refine zP rfl ?_ rfl ?_;omega)|refine zG rfl rfl rfl rfl ?_|(refine jdq rfl rfl ?_ ?_ ?_;kernel_rfl;kernel_rfl)|refine zB rfl rfl rfl (by repeat constructor) rfl ?_|refine zH .here rfl rfl rfl rfl ?_|refine zH (.there .here) rfl rfl rfl rfl ?_|refine zH (.there (.there .here)) rfl rfl rfl rfl ?_|refine zH (.there (.there (.there .here))) rfl rfl rfl rfl ?_|refine zH (.there (.there (.there (.there .here)))) rfl rfl rfl rfl ?_)
        refine oN (ev_store (vs := coC co) rfl rfl .agg rfl rfl (.skip (.skip (.skip (.skip (.put (.put (.put (.put (.put (.put (.put .nil))))))))))) (by unfold coC; (repeat (first | exact ones_nil | refine ones_cons rfl ?_))) (.there .here)) rfl ?_
        rintro _ _ _ _ ⟨rfl, _, rfl⟩
        repeat (first|refine zJ rfl rfl ?_|refine jr rfl ?_|refine jn ?_|refine zM rfl rfl ?_|(refine zC rfl rfl ?_ rfl ?_;omega)|(refine zD rfl rfl ?_ rfl ?_;omega)|(refine zP rfl ?_ rfl ?_;omega)|refine zG rfl rfl rfl rfl ?_|(refine jdq rfl rfl ?_ ?_ ?_;kernel_rfl;kernel_rfl)|refine zB rfl rfl rfl (by repeat constructor) rfl ?_|refine zH .here rfl rfl rfl rfl ?_|refine zH (.there .here) rfl rfl rfl rfl ?_|refine zH (.there (.there .here)) rfl rfl rfl rfl ?_|refine zH (.there (.there (.there .here))) rfl rfl rfl rfl ?_|refine zH (.there (.there (.there (.there .here)))) rfl rfl rfl rfl ?_)
        refine oC (Hc := [wd b v5 odd5]) (Hr := _ :: _ :: X) (rints_spec b v5 _ odd5 G2 hM2 hv5 (by rw [List.length_drop]; omega)) Tryd.call34 rfl rfl (fun _ s => s) ?_
        rintro vo G3 _ hG3 ⟨os, v6, odd6, ws6, hos, rfl, hv6, r3⟩
        obtain ⟨_, oa, oc, rfl, _, _⟩ := slice1 hos.1
        repeat (first|refine zJ rfl rfl ?_|refine jr rfl ?_|refine jn ?_|refine zM rfl rfl ?_|(refine zC rfl rfl ?_ rfl ?_;omega)|(refine zD rfl rfl ?_ rfl ?_;omega)|(refine zP rfl ?_ rfl ?_;omega)|refine zG rfl rfl rfl rfl ?_|(refine jdq rfl rfl ?_ ?_ ?_;kernel_rfl;kernel_rfl)|refine zB rfl rfl rfl (by repeat constructor) rfl ?_|refine zH .here rfl rfl rfl rfl ?_|refine zH (.there .here) rfl rfl rfl rfl ?_|refine zH (.there (.there .here)) rfl rfl rfl rfl ?_|refine zH (.there (.there (.there .here))) rfl rfl rfl rfl ?_|refine zH (.there (.there (.there (.there .here)))) rfl rfl rfl rfl ?_)
        refine oN (ev_store rfl rfl .slice rfl rfl (.skip (.skip (.skip (.skip (.skip (.skip (.skip (.skip (.skip (.skip (.skip (.put .nil)))))))))))) (ones_cons rfl ones_nil) (.there .here)) rfl ?_
        rintro _ _ _ _ ⟨rfl, _, rfl⟩
        repeat (first|refine zJ rfl rfl ?_|refine jr rfl ?_|refine jn ?_|refine zM rfl rfl ?_|(refine zC rfl rfl ?_ rfl ?_;omega)|(refine zD rfl rfl ?_ rfl ?_;omega)|(refine zP rfl ?_ rfl ?_;omega)|refine zG rfl rfl rfl rfl ?_|(refine jdq rfl rfl ?_ ?_ ?_;kernel_rfl;kernel_rfl)|refine zB rfl rfl rfl (by repeat constructor) rfl ?_|refine zH .here rfl rfl rfl rfl ?_|refine zH (.there .here) rfl rfl rfl rfl ?_|refine zH (.there (.there .here)) rfl rfl rfl rfl ?_|refine zH (.there (.there (.there .here))) rfl rfl rfl rfl ?_|refine zH (.there (.there (.there (.there .here)))) rfl rfl rfl rfl ?_)
        have hok := hco.ok
        exact J_joined (ι := St × Value × Value × Value × Value × List W8 × Bool × PH) (⟨1, who, 0, 0, co, os, 0, 0, 0, [], []⟩, .slice oa os.length oc, nl, nl, v6, ws6, odd6, G3) ⟨hG1.trans (hG2.trans hG3), ⟨inI1, hwho, inI0, inI0, hok, hos, Int.le_refl 0, by show (0 : Int) ≤ 4294967295; decide, inI0, inI0, SliceV.nil _ _, TagRow.nil _⟩, hco.letter, hv6, by dsimp only; rw [hP]; exact (r1.bindE (r2.bindE (r3.e.map fun os => (⟨1, who, 0, 0, co, os, 0, 0, 0, [], []⟩ : St)))).fin⟩ ⟨⟨rfl, rfl, rfl, trivial⟩, fun w s => s.pick (.there .here)⟩
      rw [if_neg h] at hP
      by_cases h2 : name = wRequest
      · rw [if_pos h2] at hP
        repeat (first|refine zJ rfl rfl ?_|refine jr rfl ?_|refine jn ?_|refine zM rfl rfl ?_|(refine zC rfl rfl ?_ rfl ?_;omega)|(refine zD rfl rfl ?_ rfl ?_;omega)|(refine zP rfl ?_ rfl ?_;omega)|refine zG rfl rfl rfl rfl ?_|(refine jdq rfl rfl ?_ ?_ ?_;kernel_rfl;kernel_rfl)|refine zB rfl rfl rfl (by repeat constructor) rfl ?_|refine zH .here rfl rfl rfl rfl ?_|refine zH (.there .here) rfl rfl rfl rfl ?_|refine zH (.there (.there .here)) rfl rfl rfl rfl ?_|refine zH (.there (.there (.there .here))) rfl rfl rfl rfl ?_|refine zH (.there (.there (.there (.there .here)))) rfl rfl rfl rfl ?_)
        refine oS (ev_seql (bs := name) (cs := wAsk) (r := false) rfl rfl (by simp [h])) rfl ?_
        repeat (first|refine zJ rfl rfl ?_|refine jr rfl ?_|refine jn ?_|refine zM rfl rfl ?_|(refine zC rfl rfl ?_ rfl ?_;omega)|(refine zD rfl rfl ?_ rfl ?_;omega)|(refine zP rfl ?_ rfl ?_;omega)|refine zG rfl rfl rfl rfl ?_|(refine jdq rfl rfl ?_ ?_ ?_;kernel_rfl;kernel_rfl)|refine zB rfl rfl rfl (by repeat constructor) rfl ?_|refine zH .here rfl rfl rfl rfl ?_|refine zH (.there .here) rfl rfl rfl rfl ?_|refine zH (.there (.there .here)) rfl rfl rfl rfl ?_|refine zH (.there (.there (.there .here))) rfl rfl rfl rfl ?_|refine zH (.there (.there (.there (.there .here)))) rfl rfl rfl rfl ?_)
        refine oS (ev_seql (bs := name) (cs := wRequest) (r := true) rfl rfl (by simp [h2])) rfl ?_
        repeat (first|refine zJ rfl rfl ?_|refine jr rfl ?_|refine jn ?_|refine zM rfl rfl ?_|(refine zC rfl rfl ?_ rfl ?_;omega)|(refine zD rfl rfl ?_ rfl ?_;omega)|(refine zP rfl ?_ rfl ?_;omega)|refine zG rfl rfl rfl rfl ?_|(refine jdq rfl rfl ?_ ?_ ?_;kernel_rfl;kernel_rfl)|refine zB rfl rfl rfl (by repeat constructor) rfl ?_|refine zH .here rfl rfl rfl rfl ?_|refine zH (.there .here) rfl rfl rfl rfl ?_|refine zH (.there (.there .here)) rfl rfl rfl rfl ?_|refine zH (.there (.there (.there .here))) rfl rfl rfl rfl ?_|refine zH (.there (.there (.there (.there .here)))) rfl rfl rfl rfl ?_)
        refine oC (Hc := [wd b v3 false]) (Hr := _ :: _ :: X) (request_spec b v3 R false F3 hL3 hv3 (by omega)) Tryd.call35 rfl rfl (fun _ s => s.pick (.there .here)) ?_
        rintro _ G1 _ hG1 ⟨x, vo, v4, odd4, ws4, rfl, hx, hxl, rfl, hv4, r1⟩
        obtain ⟨_, oa, oc, rfl, _, _⟩ := slice1 hx.orgs.1
        repeat (first|refine zJ rfl rfl ?_|refine jr rfl ?_|refine jn ?_|refine zM rfl rfl ?_|(refine zC rfl rfl ?_ rfl ?_;omega)|(refine zD rfl rfl ?_ rfl ?_;omega)|(refine zP rfl ?_ rfl ?_;omega)|refine zG rfl rfl rfl rfl ?_|(refine jdq rfl rfl ?_ ?_ ?_;kernel_rfl;kernel_rfl)|refine zB rfl rfl rfl (by repeat constructor) rfl ?_|refine zH .here rfl rfl rfl rfl ?_|refine zH (.there .here) rfl rfl rfl rfl ?_|refine zH (.there (.there .here)) rfl rfl rfl rfl ?_|refine zH (.there (.there (.there .here))) rfl rfl rfl rfl ?_|refine zH (.there (.there (.there (.there .here)))) rfl rfl rfl rfl ?_)
        refine oN (ev_store (vs := stC x (.slice oa x.orgs.length oc) nl nl) rfl rfl .agg rfl rfl (lay_all (zs := stC zSt nl nl nl) rfl) (by unfold stC; (repeat (first | exact ones_nil | refine ones_cons rfl ?_))) (.there .here)) rfl ?_
        rintro _ _ _ _ ⟨rfl, _, rfl⟩
        repeat (first|refine zJ rfl rfl ?_|refine jr rfl ?_|refine jn ?_|refine zM rfl rfl ?_|(refine zC rfl rfl ?_ rfl ?_;omega)|(refine zD rfl rfl ?_ rfl ?_;omega)|(refine zP rfl ?_ rfl ?_;omega)|refine zG rfl rfl rfl rfl ?_|(refine jdq rfl rfl ?_ ?_ ?_;kernel_rfl;kernel_rfl)|refine zB rfl rfl rfl (by repeat constructor) rfl ?_|refine zH .here rfl rfl rfl rfl ?_|refine zH (.there .here) rfl rfl rfl rfl ?_|refine zH (.there (.there .here)) rfl rfl rfl rfl ?_|refine zH (.there (.there (.there .here))) rfl rfl rfl rfl ?_|refine zH (.there (.there (.there (.there .here)))) rfl rfl rfl rfl ?_)
        exact J_joined (ι := St × Value × Value × Value × Value × List W8 × Bool × PH) (x, .slice oa x.orgs.length oc, nl, nl, v4, ws4, odd4, G1) ⟨hG1, hx, hxl, hv4, by dsimp only; rw [hP]; exact r1.fin⟩ ⟨⟨rfl, rfl, rfl, trivial⟩, fun w s => s.pick (.there .here)⟩
      rw [if_neg h2] at hP
      by_cases h3 : name = wLie
      · rw [if_pos h3] at hP
        repeat (first|refine zJ rfl rfl ?_|refine jr rfl ?_|refine jn ?_|refine zM rfl rfl ?_|(refine zC rfl rfl ?_ rfl ?_;omega)|(refine zD rfl rfl ?_ rfl ?_;omega)|(refine zP rfl ?_ rfl ?_;omega)|refine zG rfl rfl rfl rfl ?_|(refine jdq rfl rfl ?_ ?_ ?_;kernel_rfl;kernel_rfl)|refine zB rfl rfl rfl (by repeat constructor) rfl ?_|refine zH .here rfl rfl rfl rfl ?_|refine zH (.there .here) rfl rfl rfl rfl ?_|refine zH (.there (.there .here)) rfl rfl rfl rfl ?_|refine zH (.there (.there (.there .here))) rfl rfl rfl rfl ?_|refine zH (.there (.there (.there (.there .here)))) rfl rfl rfl rfl ?_)
        refine oS (ev_seql (bs := name) (cs := wAsk) (r := false) rfl rfl (by simp [h])) rfl ?_
        repeat (first|refine zJ rfl rfl ?_|refine jr rfl ?_|refine jn ?_|refine zM rfl rfl ?_|(refine zC rfl rfl ?_ rfl ?_;omega)|(refine zD rfl rfl ?_ rfl ?_;omega)|(refine zP rfl ?_ rfl ?_;omega)|refine zG rfl rfl rfl rfl ?_|(refine jdq rfl rfl ?_ ?_ ?_;kernel_rfl;kernel_rfl)|refine zB rfl rfl rfl (by repeat constructor) rfl ?_|refine zH .here rfl rfl rfl rfl ?_|refine zH (.there .here) rfl rfl rfl rfl ?_|refine zH (.there (.there .here)) rfl rfl rfl rfl ?_|refine zH (.there (.there (.there .here))) rfl rfl rfl rfl ?_|refine zH (.there (.there (.there (.there .here)))) rfl rfl rfl rfl ?_)
        refine oS (ev_seql (bs := name) (cs := wRequest) (r := false) rfl rfl (by simp [h2])) rfl ?_
        repeat (first|refine zJ rfl rfl ?_|refine jr rfl ?_|refine jn ?_|refine zM rfl rfl ?_|(refine zC rfl rfl ?_ rfl ?_;omega)|(refine zD rfl rfl ?_ rfl ?_;omega)|(refine zP rfl ?_ rfl ?_;omega)|refine zG rfl rfl rfl rfl ?_|(refine jdq rfl rfl ?_ ?_ ?_;kernel_rfl;kernel_rfl)|refine zB rfl rfl rfl (by repeat constructor) rfl ?_|refine zH .here rfl rfl rfl rfl ?_|refine zH (.there .here) rfl rfl rfl rfl ?_|refine zH (.there (.there .here)) rfl rfl rfl rfl ?_|refine zH (.there (.there (.there .here))) rfl rfl rfl rfl ?_|refine zH (.there (.there (.there (.there .here)))) rfl rfl rfl rfl ?_)
        refine oS (ev_seql (bs := name) (cs := wLie) (r := true) rfl rfl (by simp [h3])) rfl ?_
        repeat (first|refine zJ rfl rfl ?_|refine jr rfl ?_|refine jn ?_|refine zM rfl rfl ?_|(refine zC rfl rfl ?_ rfl ?_;omega)|(refine zD rfl rfl ?_ rfl ?_;omega)|(refine zP rfl ?_ rfl ?_;omega)|refine zG rfl rfl rfl rfl ?_|(refine jdq rfl rfl ?_ ?_ ?_;kernel_rfl;kernel_rfl)|refine zB rfl rfl rfl (by repeat constructor) rfl ?_|refine zH .here rfl rfl rfl rfl ?_|refine zH (.there .here) rfl rfl rfl rfl ?_|refine zH (.there (.there .here)) rfl rfl rfl rfl ?_|refine zH (.there (.there (.there .here))) rfl rfl rfl rfl ?_|refine zH (.there (.there (.there (.there .here)))) rfl rfl rfl rfl ?_)
        refine oC (Hc := [wd b v3 false]) (Hr := _ :: _ :: X) (int_spec b v3 R false F3 hL3 hv3) Tryd.call32 rfl rfl (fun _ s => s.pick (.there .here)) ?_
        rintro _ G1 _ hG1 ⟨who, v4, odd4, ⟨rfl, hwho⟩, rfl, hv4, r1⟩
        rw [tail_1] at hv4
        have hM1 := hL3.mono hG1
        repeat (first|refine zJ rfl rfl ?_|refine jr rfl ?_|refine jn ?_|refine zM rfl rfl ?_|(refine zC rfl rfl ?_ rfl ?_;omega)|(refine zD rfl rfl ?_ rfl ?_;omega)|(refine zP rfl ?_ rfl ?_;omega)|refine zG rfl rfl rfl rfl ?_|(refine jdq rfl rfl ?_ ?_ ?_;kernel_rfl;kernel_rfl)|refine zB rfl rfl rfl (by repeat constructor) rfl ?_|refine zH .here rfl rfl rfl rfl ?_|refine zH (.there .here) rfl rfl rfl rfl ?_|refine zH (.there (.there .here)) rfl rfl rfl rfl ?_|refine zH (.there (.there (.there .here))) rfl rfl rfl rfl ?_|refine zH (.there (.there (.there (.there .here)))) rfl rfl rfl rfl ?_)
        refine oC (Hc := [wd b v4 odd4]) (Hr := _ :: _ :: X) (int_spec b v4 _ odd4 G1 hM1 hv4) Tryd.call32 rfl rfl (fun _ s => s) ?_
        rintro _ G2 _ hG2 ⟨to, v5, odd5, ⟨rfl, hto⟩, rfl, hv5, r2⟩
        rw [tail_d] at hv5
        have hM2 := hM1.mono hG2
        repeat (first|refine zJ rfl rfl ?_|refine jr rfl ?_|refine jn ?_|refine zM rfl rfl ?_|(refine zC rfl rfl ?_ rfl ?_;omega)|(refine zD rfl rfl ?_ rfl ?_;omega)|(refine zP rfl ?_ rfl ?_;omega)|refine zG rfl rfl rfl rfl ?_|(refine jdq rfl rfl ?_ ?_ ?_;kernel_rfl;kernel_rfl)|refine zB rfl rfl rfl (by repeat constructor) rfl ?_|refine zH .here rfl rfl rfl rfl ?_|refine zH (.there .here) rfl rfl rfl rfl ?_|refine zH (.there (.there .here)) rfl rfl rfl rfl ?_|refine zH (.there (.there (.there .here))) rfl rfl rfl rfl ?_|refine zH (.there (.there (.there (.there .here)))) rfl rfl rfl rfl ?_)
        refine oN (ev_store (vs := stC { zSt with kind := 7, who := who, to := to } nl nl nl) rfl rfl .agg rfl rfl (lay_all (zs := stC zSt nl nl nl) rfl) (by unfold stC; (repeat (first | exact ones_nil | refine ones_cons rfl ?_))) (.there .here)) rfl ?_
        rintro _ _ _ _ ⟨rfl, _, rfl⟩
        repeat (first|refine zJ rfl rfl ?_|refine jr rfl ?_|refine jn ?_|refine zM rfl rfl ?_|(refine zC rfl rfl ?_ rfl ?_;omega)|(refine zD rfl rfl ?_ rfl ?_;omega)|(refine zP rfl ?_ rfl ?_;omega)|refine zG rfl rfl rfl rfl ?_|(refine jdq rfl rfl ?_ ?_ ?_;kernel_rfl;kernel_rfl)|refine zB rfl rfl rfl (by repeat constructor) rfl ?_|refine zH .here rfl rfl rfl rfl ?_|refine zH (.there .here) rfl rfl rfl rfl ?_|refine zH (.there (.there .here)) rfl rfl rfl rfl ?_|refine zH (.there (.there (.there .here))) rfl rfl rfl rfl ?_|refine zH (.there (.there (.there (.there .here)))) rfl rfl rfl rfl ?_)
        refine oC (Hc := [wd b v5 odd5]) (Hr := _ :: _ :: X) (int_spec b v5 _ odd5 G2 hM2 hv5) Tryd.call32 rfl rfl (fun _ s => s) ?_
        rintro _ G3 _ hG3 ⟨k, v6, odd6, ⟨rfl, hk⟩, rfl, hv6, r3⟩
        rw [tail_d] at hv6
        repeat (first|refine zJ rfl rfl ?_|refine jr rfl ?_|refine jn ?_|refine zM rfl rfl ?_|(refine zC rfl rfl ?_ rfl ?_;omega)|(refine zD rfl rfl ?_ rfl ?_;omega)|(refine zP rfl ?_ rfl ?_;omega)|refine zG rfl rfl rfl rfl ?_|(refine jdq rfl rfl ?_ ?_ ?_;kernel_rfl;kernel_rfl)|refine zB rfl rfl rfl (by repeat constructor) rfl ?_|refine zH .here rfl rfl rfl rfl ?_|refine zH (.there .here) rfl rfl rfl rfl ?_|refine zH (.there (.there .here)) rfl rfl rfl rfl ?_|refine zH (.there (.there (.there .here))) rfl rfl rfl rfl ?_|refine zH (.there (.there (.there (.there .here)))) rfl rfl rfl rfl ?_)
        refine oN (ev_store rfl rfl .int rfl rfl (.skip (.skip (.skip (.skip (.skip (.skip (.skip (.skip (.skip (.skip (.skip (.skip (.skip (.put .nil)))))))))))))) (ones_cons rfl ones_nil) (.there .here)) rfl ?_
        rintro _ _ _ _ ⟨rfl, _, rfl⟩
        repeat (first|refine zJ rfl rfl ?_|refine jr rfl ?_|refine jn ?_|refine zM rfl rfl ?_|(refine zC rfl rfl ?_ rfl ?_;omega)|(refine zD rfl rfl ?_ rfl ?_;omega)|(refine zP rfl ?_ rfl ?_;omega)|refine zG rfl rfl rfl rfl ?_|(refine jdq rfl rfl ?_ ?_ ?_;kernel_rfl;kernel_rfl)|refine zB rfl rfl rfl (by repeat constructor) rfl ?_|refine zH .here rfl rfl rfl rfl ?_|refine zH (.there .here) rfl rfl rfl rfl ?_|refine zH (.there (.there .here)) rfl rfl rfl rfl ?_|refine zH (.there (.there (.there .here))) rfl rfl rfl rfl ?_|refine zH (.there (.there (.there (.there .here)))) rfl rfl rfl rfl ?_)
        refine oC (Hc := [wd b v6 odd6]) (Hr := _ :: _ :: X) (rbytes_spec b v6 _ odd6 G3 hv6) Tryd.call36 rfl rfl (fun _ s => s) ?_
        rintro vb G4 _ hG4 ⟨body, v7, odd7, hvb, rfl, hv7, r4⟩
        rw [tail_d] at hv7
        have hvb1 : Byt G4 vb body := hvb
        obtain ⟨_, ab, cb, rfl, _, _⟩ := slice1 hvb1
        repeat (first|refine zJ rfl rfl ?_|refine jr rfl ?_|refine jn ?_|refine zM rfl rfl ?_|(refine zC rfl rfl ?_ rfl ?_;omega)|(refine zD rfl rfl ?_ rfl ?_;omega)|(refine zP rfl ?_ rfl ?_;omega)|refine zG rfl rfl rfl rfl ?_|(refine jdq rfl rfl ?_ ?_ ?_;kernel_rfl;kernel_rfl)|refine zB rfl rfl rfl (by repeat constructor) rfl ?_|refine zH .here rfl rfl rfl rfl ?_|refine zH (.there .here) rfl rfl rfl rfl ?_|refine zH (.there (.there .here)) rfl rfl rfl rfl ?_|refine zH (.there (.there (.there .here))) rfl rfl rfl rfl ?_|refine zH (.there (.there (.there (.there .here)))) rfl rfl rfl rfl ?_)
        refine oN (ev_store rfl rfl .slice rfl rfl (.skip (.skip (.skip (.skip (.skip (.skip (.skip (.skip (.skip (.skip (.skip (.skip (.skip (.skip (.skip (.put .nil)))))))))))))))) (ones_cons rfl ones_nil) (.there .here)) rfl ?_
        rintro _ _ _ _ ⟨rfl, _, rfl⟩
        have hst7 : StOk G4 ⟨7, who, to, 0, zCo, [], 0, k, 0, body, []⟩ nl (.slice ab body.length cb) nl := ⟨inI7, hwho, hto, inI0, zCo_in, NumRow.nil _, Int.le_refl 0, by show (0 : Int) ≤ 4294967295; decide, hk, inI0, hvb1, TagRow.nil _⟩
        have hfin : Fin1 false (parseP ws) ⟨7, who, to, 0, zCo, [], 0, k, 0, body, []⟩ (R.drop 4) (odd7 || decide (k = 1)) := by
          rw [hP]
          exact r1.fin (r2.fin (r3.fin (r4.fin Fin1.end2)))
        have hle := hG1.trans (hG2.trans (hG3.trans hG4))
        cases odd7 with
        | true =>
          repeat (first|refine zJ rfl rfl ?_|refine jr rfl ?_|refine jn ?_|refine zM rfl rfl ?_|(refine zC rfl rfl ?_ rfl ?_;omega)|(refine zD rfl rfl ?_ rfl ?_;omega)|(refine zP rfl ?_ rfl ?_;omega)|refine zG rfl rfl rfl rfl ?_|(refine jdq rfl rfl ?_ ?_ ?_;kernel_rfl;kernel_rfl)|refine zB rfl rfl rfl (by repeat constructor) rfl ?_|refine zH .here rfl rfl rfl rfl ?_|refine zH (.there .here) rfl rfl rfl rfl ?_|refine zH (.there (.there .here)) rfl rfl rfl rfl ?_|refine zH (.there (.there (.there .here))) rfl rfl rfl rfl ?_|refine zH (.there (.there (.there (.there .here)))) rfl rfl rfl rfl ?_)
          refine oN (ev_store rfl rfl .bool rfl rfl (.skip (.put .nil)) (ones_cons rfl ones_nil) .here) rfl ?_
          rintro _ _ _ _ ⟨rfl, _, rfl⟩
          repeat (first|refine zJ rfl rfl ?_|refine jr rfl ?_|refine jn ?_|refine zM rfl rfl ?_|(refine zC rfl rfl ?_ rfl ?_;omega)|(refine zD rfl rfl ?_ rfl ?_;omega)|(refine zP rfl ?_ rfl ?_;omega)|refine zG rfl rfl rfl rfl ?_|(refine jdq rfl rfl ?_ ?_ ?_;kernel_rfl;kernel_rfl)|refine zB rfl rfl rfl (by repeat constructor) rfl ?_|refine zH .here rfl rfl rfl rfl ?_|refine zH (.there .here) rfl rfl rfl rfl ?_|refine zH (.there (.there .here)) rfl rfl rfl rfl ?_|refine zH (.there (.there (.there .here))) rfl rfl rfl rfl ?_|refine zH (.there (.there (.there (.there .here)))) rfl rfl rfl rfl ?_)
          exact J_joined (ι := St × Value × Value × Value × Value × List W8 × Bool × PH) (⟨7, who, to, 0, zCo, [], 0, k, 0, body, []⟩, nl, .slice ab body.length cb, nl, v7, R.drop 4, true, G4) ⟨hle, hst7, by show ([] : W8).length ≤ 2000000; simp, hv7, hfin⟩ ⟨⟨rfl, rfl, rfl, trivial⟩, fun w s => s.pick (.there .here)⟩
        | false =>
          by_cases hk1 : k = 1
          · rw [decide_eq_true hk1] at hfin
            repeat (first|refine zJ rfl rfl ?_|refine jr rfl ?_|refine jn ?_|refine zM rfl rfl ?_|(refine zC rfl rfl ?_ rfl ?_;omega)|(refine zD rfl rfl ?_ rfl ?_;omega)|(refine zP rfl ?_ rfl ?_;omega)|refine zG rfl rfl rfl rfl ?_|(refine jdq rfl rfl ?_ ?_ ?_;kernel_rfl;kernel_rfl)|refine zB rfl rfl rfl (by repeat constructor) rfl ?_|refine zH .here rfl rfl rfl rfl ?_|refine zH (.there .here) rfl rfl rfl rfl ?_|refine zH (.there (.there .here)) rfl rfl rfl rfl ?_|refine zH (.there (.there (.there .here))) rfl rfl rfl rfl ?_|refine zH (.there (.there (.there (.there .here)))) rfl rfl rfl rfl ?_)
            refine oN (ev_store rfl rfl .bool rfl rfl (.skip (.put .nil)) (ones_cons rfl ones_nil) .here) rfl ?_
            rintro _ _ _ _ ⟨rfl, _, rfl⟩
            repeat (first|refine zJ rfl rfl ?_|refine jr rfl ?_|refine jn ?_|refine zM rfl rfl ?_|(refine zC rfl rfl ?_ rfl ?_;omega)|(refine zD rfl rfl ?_ rfl ?_;omega)|(refine zP rfl ?_ rfl ?_;omega)|refine zG rfl rfl rfl rfl ?_|(refine jdq rfl rfl ?_ ?_ ?_;kernel_rfl;kernel_rfl)|refine zB rfl rfl rfl (by repeat constructor) rfl ?_|refine zH .here rfl rfl rfl rfl ?_|refine zH (.there .here) rfl rfl rfl rfl ?_|refine zH (.there (.there .here)) rfl rfl rfl rfl ?_|refine zH (.there (.there (.there .here))) rfl rfl rfl rfl ?_|refine zH (.there (.there (.there (.there .here)))) rfl rfl rfl rfl ?_)
            exact J_joined (ι := St × Value × Value × Value × Value × List W8 × Bool × PH) (⟨7, who, to, 0, zCo, [], 0, k, 0, body, []⟩, nl, .slice ab body.length cb, nl, v7, R.drop 4, true, G4) ⟨hle, hst7, by show ([] : W8).length ≤ 2000000; simp, hv7, hfin⟩ ⟨⟨rfl, rfl, rfl, trivial⟩, fun w s => s.pick (.there .here)⟩
          · rw [decide_eq_false hk1] at hfin
            repeat (first|refine zJ rfl rfl ?_|refine jr rfl ?_|refine jn ?_|refine zM rfl rfl ?_|(refine zC rfl rfl ?_ rfl ?_;omega)|(refine zD rfl rfl ?_ rfl ?_;omega)|(refine zP rfl ?_ rfl ?_;omega)|refine zG rfl rfl rfl rfl ?_|(refine jdq rfl rfl ?_ ?_ ?_;kernel_rfl;kernel_rfl)|refine zB rfl rfl rfl (by repeat constructor) rfl ?_|refine zH .here rfl rfl rfl rfl ?_|refine zH (.there .here) rfl rfl rfl rfl ?_|refine zH (.there (.there .here)) rfl rfl rfl rfl ?_|refine zH (.there (.there (.there .here))) rfl rfl rfl rfl ?_|refine zH (.there (.there (.there (.there .here)))) rfl rfl rfl rfl ?_)
            refine oN (ev_store rfl rfl .bool rfl rfl (.skip (.put .nil)) (ones_cons rfl ones_nil) .here) rfl ?_
            rintro _ _ _ _ ⟨rfl, _, rfl⟩
            repeat (first|refine zJ rfl rfl ?_|refine jr rfl ?_|refine jn ?_|refine zM rfl rfl ?_|(refine zC rfl rfl ?_ rfl ?_;omega)|(refine zD rfl rfl ?_ rfl ?_;omega)|(refine zP rfl ?_ rfl ?_;omega)|refine zG rfl rfl rfl rfl ?_|(refine jdq rfl rfl ?_ ?_ ?_;kernel_rfl;kernel_rfl)|refine zB rfl rfl rfl (by repeat constructor) rfl ?_|refine zH .here rfl rfl rfl rfl ?_|refine zH (.there .here) rfl rfl rfl rfl ?_|refine zH (.there (.there .here)) rfl rfl rfl rfl ?_|refine zH (.there (.there (.there .here))) rfl rfl rfl rfl ?_|refine zH (.there (.there (.there (.there .here)))) rfl rfl rfl rfl ?_)
            exact J_joined (ι := St × Value × Value × Value × Value × List W8 × Bool × PH) (⟨7, who, to, 0, zCo, [], 0, k, 0, body, []⟩, nl, .slice ab body.length cb, nl, v7, R.drop 4, false, G4) ⟨hle, hst7, by show ([] : W8).length ≤ 2000000; simp, hv7, hfin⟩ ⟨⟨rfl, rfl, rfl, trivial⟩, fun w s => s.pick (.there .here)⟩
      rw [if_neg h3] at hP
      by_cases h4 : name = wForge
      · rw [if_pos h4] at hP
        repeat (first|refine zJ rfl rfl ?_|refine jr rfl ?_|refine jn ?_|refine zM rfl rfl ?_|(refine zC rfl rfl ?_ rfl ?_;omega)|(refine zD rfl rfl ?_ rfl ?_;omega)|(refine zP rfl ?_ rfl ?_;omega)|refine zG rfl rfl rfl rfl ?_|(refine jdq rfl rfl ?_ ?_ ?_;kernel_rfl;kernel_rfl)|refine zB rfl rfl rfl (by repeat constructor) rfl ?_|refine zH .here rfl rfl rfl rfl ?_|refine zH (.there .here) rfl rfl rfl rfl ?_|refine zH (.there (.there .here)) rfl rfl rfl rfl ?_|refine zH (.there (.there (.there .here))) rfl rfl rfl rfl ?_|refine zH (.there (.there (.there (.there .here)))) rfl rfl rfl rfl ?_)
        refine oS (ev_seql (bs := name) (cs := wAsk) (r := false) rfl rfl (by simp [h])) rfl ?_
        repeat (first|refine zJ rfl rfl ?_|refine jr rfl ?_|refine jn ?_|refine zM rfl rfl ?_|(refine zC rfl rfl ?_ rfl ?_;omega)|(refine zD rfl rfl ?_ rfl ?_;omega)|(refine zP rfl ?_ rfl ?_;omega)|refine zG rfl rfl rfl rfl ?_|(refine jdq rfl rfl ?_ ?_ ?_;kernel_rfl;kernel_rfl)|refine zB rfl rfl rfl (by repeat constructor) rfl ?_|refine zH .here rfl rfl rfl rfl ?_|refine zH (.there .here) rfl rfl rfl rfl ?_|refine zH (.there (.there .here)) rfl rfl rfl rfl ?_|refine zH (.there (.there (.there .here))) rfl rfl rfl rfl ?_|refine zH (.there (.there (.there (.there .here)))) rfl rfl rfl rfl ?_)
        refine oS (ev_seql (bs := name) (cs := wRequest) (r := false) rfl rfl (by simp [h2])) rfl ?_
        repeat (first|refine zJ rfl rfl ?_|refine jr rfl ?_|refine jn ?_|refine zM rfl rfl ?_|(refine zC rfl rfl ?_ rfl ?_;omega)|(refine zD rfl rfl ?_ rfl ?_;omega)|(refine zP rfl ?_ rfl ?_;omega)|refine zG rfl rfl rfl rfl ?_|(refine jdq rfl rfl ?_ ?_ ?_;kernel_rfl;kernel_rfl)|refine zB rfl rfl rfl (by repeat constructor) rfl ?_|refine zH .here rfl rfl rfl rfl ?_|refine zH (.there .here) rfl rfl rfl rfl ?_|refine zH (.there (.there .here)) rfl rfl rfl rfl ?_|refine zH (.there (.there (.there .here))) rfl rfl rfl rfl ?_|refine zH (.there (.there (.there (.there .here)))) rfl rfl rfl rfl ?_)
        refine oS (ev_seql (bs := name) (cs := wLie) (r := false) rfl rfl (by simp [h3])) rfl ?_
        repeat (first|refine zJ rfl rfl ?_|refine jr rfl ?_|refine jn ?_|refine zM rfl rfl ?_|(refine zC rfl rfl ?_ rfl ?_;omega)|(refine zD rfl rfl ?_ rfl ?_;omega)|(refine zP rfl ?_ rfl ?_;omega)|refine zG rfl rfl rfl rfl ?_|(refine jdq rfl rfl ?_ ?_ ?_;kernel_rfl;kernel_rfl)|refine zB rfl rfl rfl (by repeat constructor) rfl ?_|refine zH .here rfl rfl rfl rfl ?_|refine zH (.there .here) rfl rfl rfl rfl ?_|refine zH (.there (.there .here)) rfl rfl rfl rfl ?_|refine zH (.there (.there (.there .here))) rfl rfl rfl rfl ?_|refine zH (.there (.there (.there (.there .here)))) rfl rfl rfl rfl ?_)
        refine oS (ev_seql (bs := name) (cs := wForge) (r := true) rfl rfl (by simp [h4])) rfl ?_
        repeat (first|refine zJ rfl rfl ?_|refine jr rfl ?_|refine jn ?_|refine zM rfl rfl ?_|(refine zC rfl rfl ?_ rfl ?_;omega)|(refine zD rfl rfl ?_ rfl ?_;omega)|(refine zP rfl ?_ rfl ?_;omega)|refine zG rfl rfl rfl rfl ?_|(refine jdq rfl rfl ?_ ?_ ?_;kernel_rfl;kernel_rfl)|refine zB rfl rfl rfl (by repeat constructor) rfl ?_|refine zH .here rfl rfl rfl rfl ?_|refine zH (.there .here) rfl rfl rfl rfl ?_|refine zH (.there (.there .here)) rfl rfl rfl rfl ?_|refine zH (.there (.there (.there .here))) rfl rfl rfl rfl ?_|refine zH (.there (.there (.there (.there .here)))) rfl rfl rfl rfl ?_)
        refine oC (Hc := [wd b v3 false]) (Hr := _ :: _ :: X) (forge_spec b v3 R false F3 hL3 hv3 (by omega)) Tryd.call37 rfl rfl (fun _ s => s.pick (.there .here)) ?_
        rintro _ G1 _ hG1 ⟨x, vb, vt, v4, odd4, ws4, rfl, hx, hxl, rfl, hv4, r1⟩
        obtain ⟨_, ab, cb, rfl, _, _⟩ := slice1 hx.body
        obtain ⟨ta, tc, rfl⟩ : ∃ ta tc, vt = .slice ta x.tags.length tc := by
          obtain ⟨⟨_, a, c, e, _, _⟩, _⟩ := hx.tags
          exact ⟨a, c, e⟩
        repeat (first|refine zJ rfl rfl ?_|refine jr rfl ?_|refine jn ?_|refine zM rfl rfl ?_|(refine zC rfl rfl ?_ rfl ?_;omega)|(refine zD rfl rfl ?_ rfl ?_;omega)|(refine zP rfl ?_ rfl ?_;omega)|refine zG rfl rfl rfl rfl ?_|(refine jdq rfl rfl ?_ ?_ ?_;kernel_rfl;kernel_rfl)|refine zB rfl rfl rfl (by repeat constructor) rfl ?_|refine zH .here rfl rfl rfl rfl ?_|refine zH (.there .here) rfl rfl rfl rfl ?_|refine zH (.there (.there .here)) rfl rfl rfl rfl ?_|refine zH (.there (.there (.there .here))) rfl rfl rfl rfl ?_|refine zH (.there (.there (.there (.there .here)))) rfl rfl rfl rfl ?_)
        refine oN (ev_store (vs := stC x nl (.slice ab x.body.length cb) (.slice ta x.tags.length tc)) rfl rfl .agg rfl rfl (lay_all (zs := stC zSt nl nl nl) rfl) (by unfold stC; (repeat (first | exact ones_nil | refine ones_cons rfl ?_))) (.there .here)) rfl ?_
        rintro _ _ _ _ ⟨rfl, _, rfl⟩
        repeat (first|refine zJ rfl rfl ?_|refine jr rfl ?_|refine jn ?_|refine zM rfl rfl ?_|(refine zC rfl rfl ?_ rfl ?_;omega)|(refine zD rfl rfl ?_ rfl ?_;omega)|(refine zP rfl ?_ rfl ?_;omega)|refine zG rfl rfl rfl rfl ?_|(refine jdq rfl rfl ?_ ?_ ?_;kernel_rfl;kernel_rfl)|refine zB rfl rfl rfl (by repeat constructor) rfl ?_|refine zH .here rfl rfl rfl rfl ?_|refine zH (.there .here) rfl rfl rfl rfl ?_|refine zH (.there (.there .here)) rfl rfl rfl rfl ?_|refine zH (.there (.there (.there .here))) rfl rfl rfl rfl ?_|refine zH (.there (.there (.there (.there .here)))) rfl rfl rfl rfl ?_)
        exact J_joined (ι := St × Value × Value × Value × Value × List W8 × Bool × PH) (x, nl, .slice ab x.body.length cb, .slice ta x.tags.length tc, v4, ws4, odd4, G1) ⟨hG1, hx, hxl, hv4, by dsimp only; rw [hP]; exact r1.fin⟩ ⟨⟨rfl, rfl, rfl, trivial⟩, fun w s => s.pick (.there .here)⟩
      · rw [if_neg h4] at hP
        repeat (first|refine zJ rfl rfl ?_|refine jr rfl ?_|refine jn ?_|refine zM rfl rfl ?_|(refine zC rfl rfl ?_ rfl ?_;omega)|(refine zD rfl rfl ?_ rfl ?_;omega)|(refine zP rfl ?_ rfl ?_;omega)|refine zG rfl rfl rfl rfl ?_|(refine jdq rfl rfl ?_ ?_ ?_;kernel_rfl;kernel_rfl)|refine zB rfl rfl rfl (by repeat constructor) rfl ?_|refine zH .here rfl rfl rfl rfl ?_|refine zH (.there .here) rfl rfl rfl rfl ?_|refine zH (.there (.there .here)) rfl rfl rfl rfl ?_|refine zH (.there (.there (.there .here))) rfl rfl rfl rfl ?_|refine zH (.there (.there (.there (.there .here)))) rfl rfl rfl rfl ?_)
        refine oS (ev_seql (bs := name) (cs := wAsk) (r := false) rfl rfl (by simp [h])) rfl ?_
        repeat (first|refine zJ rfl rfl ?_|refine jr rfl ?_|refine jn ?_|refine zM rfl rfl ?_|(refine zC rfl rfl ?_ rfl ?_;omega)|(refine zD rfl rfl ?_ rfl ?_;omega)|(refine zP rfl ?_ rfl ?_;omega)|refine zG rfl rfl rfl rfl ?_|(refine jdq rfl rfl ?_ ?_ ?_;kernel_rfl;kernel_rfl)|refine zB rfl rfl rfl (by repeat constructor) rfl ?_|refine zH .here rfl rfl rfl rfl ?_|refine zH (.there .here) rfl rfl rfl rfl ?_|refine zH (.there (.there .here)) rfl rfl rfl rfl ?_|refine zH (.there (.there (.there .here))) rfl rfl rfl rfl ?_|refine zH (.there (.there (.there (.there .here)))) rfl rfl rfl rfl ?_)
        refine oS (ev_seql (bs := name) (cs := wRequest) (r := false) rfl rfl (by simp [h2])) rfl ?_
        repeat (first|refine zJ rfl rfl ?_|refine jr rfl ?_|refine jn ?_|refine zM rfl rfl ?_|(refine zC rfl rfl ?_ rfl ?_;omega)|(refine zD rfl rfl ?_ rfl ?_;omega)|(refine zP rfl ?_ rfl ?_;omega)|refine zG rfl rfl rfl rfl ?_|(refine jdq rfl rfl ?_ ?_ ?_;kernel_rfl;kernel_rfl)|refine zB rfl rfl rfl (by repeat constructor) rfl ?_|refine zH .here rfl rfl rfl rfl ?_|refine zH (.there .here) rfl rfl rfl rfl ?_|refine zH (.there (.there .here)) rfl rfl rfl rfl ?_|refine zH (.there (.there (.there .here))) rfl rfl rfl rfl ?_|refine zH (.there (.there (.there (.there .here)))) rfl rfl rfl rfl ?_)
        refine oS (ev_seql (bs := name) (cs := wLie) (r := false) rfl rfl (by simp [h3])) rfl ?_
        repeat (first|refine zJ rfl rfl ?_|refine jr rfl ?_|refine jn ?_|refine zM rfl rfl ?_|(refine zC rfl rfl ?_ rfl ?_;omega)|(refine zD rfl rfl ?_ rfl ?_;omega)|(refine zP rfl ?_ rfl ?_;omega)|refine zG rfl rfl rfl rfl ?_|(refine jdq rfl rfl ?_ ?_ ?_;kernel_rfl;kernel_rfl)|refine zB rfl rfl rfl (by repeat constructor) rfl ?_|refine zH .here rfl rfl rfl rfl ?_|refine zH (.there .here) rfl rfl rfl rfl ?_|refine zH (.there (.there .here)) rfl rfl rfl rfl ?_|refine zH (.there (.there (.there .here))) rfl rfl rfl rfl ?_|refine zH (.there (.there (.there (.there .here)))) rfl rfl rfl rfl ?_)
        refine oS (ev_seql (bs := name) (cs := wForge) (r := false) rfl rfl (by simp [h4])) rfl ?_
        repeat (first|refine zJ rfl rfl ?_|refine jr rfl ?_|refine jn ?_|refine zM rfl rfl ?_|(refine zC rfl rfl ?_ rfl ?_;omega)|(refine zD rfl rfl ?_ rfl ?_;omega)|(refine zP rfl ?_ rfl ?_;omega)|refine zG rfl rfl rfl rfl ?_|(refine jdq rfl rfl ?_ ?_ ?_;kernel_rfl;kernel_rfl)|refine zB rfl rfl rfl (by repeat constructor) rfl ?_|refine zH .here rfl rfl rfl rfl ?_|refine zH (.there .here) rfl rfl rfl rfl ?_|refine zH (.there (.there .here)) rfl rfl rfl rfl ?_|refine zH (.there (.there (.there .here))) rfl rfl rfl rfl ?_|refine zH (.there (.there (.there (.there .here)))) rfl rfl rfl rfl ?_)
        refine oN (ev_store rfl rfl .bool rfl rfl (.skip (.put .nil)) (ones_cons rfl ones_nil) (.there .here)) rfl ?_
        rintro _ _ _ _ ⟨rfl, _, rfl⟩
        repeat (first|refine zJ rfl rfl ?_|refine jr rfl ?_|refine jn ?_|refine zM rfl rfl ?_|(refine zC rfl rfl ?_ rfl ?_;omega)|(refine zD rfl rfl ?_ rfl ?_;omega)|(refine zP rfl ?_ rfl ?_;omega)|refine zG rfl rfl rfl rfl ?_|(refine jdq rfl rfl ?_ ?_ ?_;kernel_rfl;kernel_rfl)|refine zB rfl rfl rfl (by repeat constructor) rfl ?_|refine zH .here rfl rfl rfl rfl ?_|refine zH (.there .here) rfl rfl rfl rfl ?_|refine zH (.there (.there .here)) rfl rfl rfl rfl ?_|refine zH (.there (.there (.there .here))) rfl rfl rfl rfl ?_|refine zH (.there (.there (.there (.there .here)))) rfl rfl rfl rfl ?_)
        exact J_joined (ι := St × Value × Value × Value × Value × List W8 × Bool × PH) (zSt, nl, nl, nl, v3, R, true, F3) ⟨PH.ler _, hst0, hlt0, hv3, by dsimp only; rw [hP]; exact Fin1.no⟩ ⟨⟨rfl, rfl, rfl, trivial⟩, fun w s => s⟩
  rintro ⟨x, vo, vb, vt, v8, ws8, odd8, F8⟩ ⟨hF8, hst, hlt, hv8, hfin⟩
  dsimp only at *
  have hFF := hF1.trans (hF2.trans (hF3.trans hF8))
  obtain ⟨_, wa, wc, rfl, _, _⟩ := slice1 hv8.1
  obtain ⟨_, oa, oc, rfl, _, _⟩ := slice1 hst.orgs.1
  obtain ⟨_, ab, cb, rfl, _, _⟩ := slice1 hst.body
  obtain ⟨ta, tc, rfl⟩ : ∃ ta tc, vt = .slice ta x.tags.length tc := by
    obtain ⟨⟨_, a, c, e, _, _⟩, _⟩ := hst.tags
    exact ⟨a, c, e⟩
  show J _ _ _ _ (blk b6 31 (stC x (.slice oa x.orgs.length oc) (.slice ab x.body.length cb) (.slice ta x.tags.length tc)) :: blk b 74 [.slice wa ws8.length wc, .bool odd8] :: _)
  unfold pW
  have hbad : (odd8 = true ∨ ws8 ≠ []) → parseP ws = none := fun h => by
    cases e : parseP ws with
    | none => rfl
    | some y =>
      obtain ⟨e1, e2⟩ := hfin.all rfl (by rw [e]; simp)
      rcases h with h | h
      · rw [e1] at h; cases h
      · exact absurd e2 h
  cases odd8 with
  | true =>
    repeat (first|refine zJ rfl rfl ?_|refine jr rfl ?_|refine jn ?_|refine zM rfl rfl ?_|(refine zC rfl rfl ?_ rfl ?_;omega)|(refine zD rfl rfl ?_ rfl ?_;omega)|(refine zP rfl ?_ rfl ?_;omega)|refine zG rfl rfl rfl rfl ?_|(refine jdq rfl rfl ?_ ?_ ?_;kernel_rfl;kernel_rfl)|refine zB rfl rfl rfl (by repeat constructor) rfl ?_|refine zH .here rfl rfl rfl rfl ?_|refine zH (.there .here) rfl rfl rfl rfl ?_|refine zH (.there (.there .here)) rfl rfl rfl rfl ?_|refine zH (.there (.there (.there .here))) rfl rfl rfl rfl ?_|refine zH (.there (.there (.there (.there .here)))) rfl rfl rfl rfl ?_)
    refine oN (ev_store (vs := zStC) rfl rfl .agg rfl rfl (lay_all (zs := zStC) rfl) (by unfold zStC stC; (repeat (first | exact ones_nil | refine ones_cons rfl ?_))) (.there (.there .here))) rfl ?_
    rintro _ _ _ _ ⟨rfl, _, rfl⟩
    repeat (first|refine zJ rfl rfl ?_|refine jr rfl ?_|refine jn ?_|refine zM rfl rfl ?_|(refine zC rfl rfl ?_ rfl ?_;omega)|(refine zD rfl rfl ?_ rfl ?_;omega)|(refine zP rfl ?_ rfl ?_;omega)|refine zG rfl rfl rfl rfl ?_|(refine jdq rfl rfl ?_ ?_ ?_;kernel_rfl;kernel_rfl)|refine zB rfl rfl rfl (by repeat constructor) rfl ?_|refine zH .here rfl rfl rfl rfl ?_|refine zH (.there .here) rfl rfl rfl rfl ?_|refine zH (.there (.there .here)) rfl rfl rfl rfl ?_|refine zH (.there (.there (.there .here))) rfl rfl rfl rfl ?_|refine zH (.there (.there (.there (.there .here)))) rfl rfl rfl rfl ?_)
    refine J_retv (vs := [.agg zStC.toArray, .bool false]) rfl (.agg rfl rfl (Rdb.ofB (n := 0) (.there (.there .here)) rfl) rfl (.tmp rfl .nil)) [] (fun w s => s.drop.drop.drop) hFF ⟨rfl, zSt, nl, nl, nl, false, rfl, zSt_ok F8, by show ([] : W8).length ≤ 2000000; simp, ?_⟩
    rw [hbad (.inl rfl)]
    exact ⟨rfl, rfl⟩
  | false =>
    by_cases h0 : ws8 = []
    · subst h0
      rw [List.length_nil]
      repeat (first|refine zJ rfl rfl ?_|refine jr rfl ?_|refine jn ?_|refine zM rfl rfl ?_|(refine zC rfl rfl ?_ rfl ?_;omega)|(refine zD rfl rfl ?_ rfl ?_;omega)|(refine zP rfl ?_ rfl ?_;omega)|refine zG rfl rfl rfl rfl ?_|(refine jdq rfl rfl ?_ ?_ ?_;kernel_rfl;kernel_rfl)|refine zB rfl rfl rfl (by repeat constructor) rfl ?_|refine zH .here rfl rfl rfl rfl ?_|refine zH (.there .here) rfl rfl rfl rfl ?_|refine zH (.there (.there .here)) rfl rfl rfl rfl ?_|refine zH (.there (.there (.there .here))) rfl rfl rfl rfl ?_|refine zH (.there (.there (.there (.there .here)))) rfl rfl rfl rfl ?_)
      refine oS (ev_load_agg (cs := stC x (.slice oa x.orgs.length oc) (.slice ab x.body.length cb) (.slice ta x.tags.length tc)) rfl rfl (Rdb.ofB (n := 0) .here rfl) rfl) rfl ?_
      refine oN (ev_store rfl rfl .agg rfl rfl (lay_all (zs := zStC) rfl) (by unfold stC; (repeat (first | exact ones_nil | refine ones_cons rfl ?_))) (.there (.there .here))) rfl ?_
      rintro _ _ _ _ ⟨rfl, _, rfl⟩
      repeat (first|refine zJ rfl rfl ?_|refine jr rfl ?_|refine jn ?_|refine zM rfl rfl ?_|(refine zC rfl rfl ?_ rfl ?_;omega)|(refine zD rfl rfl ?_ rfl ?_;omega)|(refine zP rfl ?_ rfl ?_;omega)|refine zG rfl rfl rfl rfl ?_|(refine jdq rfl rfl ?_ ?_ ?_;kernel_rfl;kernel_rfl)|refine zB rfl rfl rfl (by repeat constructor) rfl ?_|refine zH .here rfl rfl rfl rfl ?_|refine zH (.there .here) rfl rfl rfl rfl ?_|refine zH (.there (.there .here)) rfl rfl rfl rfl ?_|refine zH (.there (.there (.there .here))) rfl rfl rfl rfl ?_|refine zH (.there (.there (.there (.there .here)))) rfl rfl rfl rfl ?_)
      refine J_retv (vs := [.agg (stC x (.slice oa x.orgs.length oc) (.slice ab x.body.length cb) (.slice ta x.tags.length tc)).toArray, .bool true]) rfl (.agg rfl rfl (Rdb.ofB (n := 0) (.there (.there .here)) rfl) rfl (.tmp rfl .nil)) [] (fun w s => s.drop.drop.drop) hFF ⟨rfl, x, _, _, _, true, rfl, hst, hlt, ?_⟩
      rw [(hfin.yes rfl rfl).2]
      exact ⟨rfl, rfl⟩
    · have hpos : 0 < ws8.length := List.length_pos_iff.2 h0
      repeat (first|refine zJ rfl rfl ?_|refine jr rfl ?_|refine jn ?_|refine zM rfl rfl ?_|(refine zC rfl rfl ?_ rfl ?_;omega)|(refine zD rfl rfl ?_ rfl ?_;omega)|(refine zP rfl ?_ rfl ?_;omega)|refine zG rfl rfl rfl rfl ?_|(refine jdq rfl rfl ?_ ?_ ?_;kernel_rfl;kernel_rfl)|refine zB rfl rfl rfl (by repeat constructor) rfl ?_|refine zH .here rfl rfl rfl rfl ?_|refine zH (.there .here) rfl rfl rfl rfl ?_|refine zH (.there (.there .here)) rfl rfl rfl rfl ?_|refine zH (.there (.there (.there .here))) rfl rfl rfl rfl ?_|refine zH (.there (.there (.there (.there .here)))) rfl rfl rfl rfl ?_)
      refine oN (ev_store (vs := zStC) rfl rfl .agg rfl rfl (lay_all (zs := zStC) rfl) (by unfold zStC stC; (repeat (first | exact ones_nil | refine ones_cons rfl ?_))) (.there (.there .here))) rfl ?_
      rintro _ _ _ _ ⟨rfl, _, rfl⟩
      repeat (first|refine zJ rfl rfl ?_|refine jr rfl ?_|refine jn ?_|refine zM rfl rfl ?_|(refine zC rfl rfl ?_ rfl ?_;omega)|(refine zD rfl rfl ?_ rfl ?_;omega)|(refine zP rfl ?_ rfl ?_;omega)|refine zG rfl rfl rfl rfl ?_|(refine jdq rfl rfl ?_ ?_ ?_;kernel_rfl;kernel_rfl)|refine zB rfl rfl rfl (by repeat constructor) rfl ?_|refine zH .here rfl rfl rfl rfl ?_|refine zH (.there .here) rfl rfl rfl rfl ?_|refine zH (.there (.there .here)) rfl rfl rfl rfl ?_|refine zH (.there (.there (.there .here))) rfl rfl rfl rfl ?_|refine zH (.there (.there (.there (.there .here)))) rfl rfl rfl rfl ?_)
      refine J_retv (vs := [.agg zStC.toArray, .bool false]) rfl (.agg rfl rfl (Rdb.ofB (n := 0) (.there (.there .here)) rfl) rfl (.tmp rfl .nil)) [] (fun w s => s.drop.drop.drop) hFF ⟨rfl, zSt, nl, nl, nl, false, rfl, zSt_ok F8, by show ([] : W8).length ≤ 2000000; simp, ?_⟩
      rw [hbad (.inr h0)]
      exact ⟨rfl, rfl⟩
end Go.Proofs.YtekdmpbkcjjllaaDoor
