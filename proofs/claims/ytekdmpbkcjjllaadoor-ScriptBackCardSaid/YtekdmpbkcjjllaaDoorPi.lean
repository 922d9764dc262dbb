/-
  The program's readers of rows of numbers and of cores, walked. Conditions are typed with each.
  The kinds of steps that have one number: the map of their names, and their reader, walked. Conditions are typed with each.
-/
import Derived.Test.YtekdmpbkcjjllaaDoorPf
import Derived.Test.YtekdmpbkcjjllaaDoorLr
namespace Go.Proofs.YtekdmpbkcjjllaaDoor
open Go.RowKit
set_option maxRecDepth 100000
/-- What a reader of all words that are left leaves. -/
def RdAll {α : Type} (odd : Bool) (r : Option (List α)) (l : List α) (ws' : List W8) (odd' : Bool) : Prop := (odd' = false → odd = false ∧ ws' = [] ∧ r = some l) ∧ (odd = false → r ≠ none → odd' = false)
theorem allW_cons {α : Type} (f : W8 → Option α) (w : W8) (r : List W8) : allW f (w :: r) = (f w).bind fun x => (allW f r).map fun t => x :: t := rfl
def KeepAll {α : Type} (odd : Bool) (r : Option (List α)) (l : List α) (r1 : Option (List α)) (odd1 : Bool) : Prop :=
  (odd1 = false → odd = false ∧ r = r1.map fun t => l ++ t) ∧ (odd = false → odd1 = true → r = none)
theorem KeepAll.step {α : Type} {f : W8 → Option α} {odd odd1 odd2 : Bool} {r : Option (List α)} {l : List α} {w : W8} {ws : List W8} {n : α} (h : KeepAll odd r l (allW f (w :: ws)) odd1) (h1 : Rd odd1 (f w) n odd2) : KeepAll odd r (l ++ [n]) (allW f ws) odd2 := by
  rcases h1.case with ⟨rfl, rfl, e⟩ | ⟨rfl, e⟩
  · refine ⟨fun _ => ⟨(h.1 rfl).1, ?_⟩, fun _ h => by cases h⟩
    rw [(h.1 rfl).2, allW_cons, e]
    cases allW f ws <;> simp
  · refine ⟨fun h => (by cases h), fun ho _ => ?_⟩
    cases odd1 with
    | true => exact h.2 ho rfl
    | false =>
      rw [(h.1 rfl).2, allW_cons, e rfl]
      rfl
theorem KeepAll.done {α : Type} {f : W8 → Option α} {odd odd1 : Bool} {r : Option (List α)} {l : List α} {ws : List W8} (h : KeepAll odd r l (allW f ws) odd1) (h0 : ws = [] ∨ odd1 = true) : RdAll odd r l ws odd1 := by
  refine ⟨fun e => ?_, fun e hr => ?_⟩
  · rcases h0 with rfl | h0
    · refine ⟨(h.1 e).1, rfl, ?_⟩
      rw [(h.1 e).2]
      simp [allW]
    · rw [e] at h0; cases h0
  · cases odd1 with
    | false => rfl
    | true => exact absurd (h.2 e rfl) hr
set_option maxHeartbeats 4000000 in
theorem rints_spec (b : Nat) (v : Value) (ws : List W8) (odd : Bool) (F : PH) (hF : LibF F) (h : WRow F v ws) (hwl : ws.length ≤ 1000000000) : Spec Tryd.prog 34 [pW b] F [wd b v odd] fun u F' H' => ∃ l v' odd' ws', NumRow F' u l ∧ H' = [wd b v' odd'] ∧ WRow F' v' ws' ∧ RdAll odd (allW numW ws) l ws' odd' := by
  refine Spec.of1 Tryd.func34 rfl rfl fun X w0 => ?_
  repeat (first|refine zJ rfl rfl ?_|refine jr rfl ?_|refine jn ?_|refine zM rfl rfl ?_|(refine zC rfl rfl ?_ rfl ?_;omega)|(refine zD rfl rfl ?_ rfl ?_;omega)|(refine zP rfl ?_ rfl ?_;omega)|refine zG rfl rfl rfl rfl ?_|(refine jdq rfl rfl ?_ ?_ ?_;kernel_rfl;kernel_rfl)|refine zB rfl rfl rfl (by repeat constructor) rfl ?_|refine zH .here rfl rfl rfl rfl ?_|refine zH (.there .here) rfl rfl rfl rfl ?_|refine zH (.there (.there .here)) rfl rfl rfl rfl ?_|refine zH (.there (.there (.there .here))) rfl rfl rfl rfl ?_|refine zH (.there (.there (.there (.there .here)))) rfl rfl rfl rfl ?_)
  refine J_own_nil 3 1 ?_
  refine J_loop (ι := List W8 × Value × Bool × List Int × Value × PH) (fun p => F.le p.2.2.2.2.2 ∧ WRow p.2.2.2.2.2 p.2.1 p.1 ∧ (∀ n ∈ p.2.2.2.1, InI n) ∧ p.2.2.2.1.length + p.1.length ≤ ws.length ∧ KeepAll odd (allW numW ws) p.2.2.2.1 (allW numW p.1) p.2.2.1) (fun p => p.1.length) (fun p => [(0, pW b), (3, p.2.2.2.2.1)]) (fun p => p.2.2.2.2.2)
    (fun p => own p.2.2.2.2.1 3 1 p.2.2.2.1.length (ints p.2.2.2.1) :: wd b p.2.1 p.2.2.1 :: X) (ws, v, odd, [], .slice none 0 0, F) ⟨PH.ler _, h, by simp, by simp, fun e => ⟨e, by simp⟩, fun e e2 => by rw [e] at e2; cases e2⟩ ⟨⟨rfl, rfl, trivial⟩, fun w s => s⟩ ?_
  rintro ⟨ws1, v1, odd1, l, u, G⟩ ⟨hG, hv1, hin, hlen, hk⟩
  dsimp only at *
  obtain ⟨_, a, c, rfl, hc, _⟩ := slice1 hv1.1
  cases ws1 with
  | nil =>
    refine J_persist fun hh hA hd => ?_
    have hrow : NumRow (G.un hh) u l := ⟨own_slice hA hd, hin⟩
    have hG2 := PH.le_l G hh
    generalize G.un hh = G2 at *
    show J _ _ _ _ (blk b 74 [.slice a 0 c, .bool odd1] :: X)
    unfold pW
    repeat (first|refine zJ rfl rfl ?_|refine jr rfl ?_|refine jn ?_|refine zM rfl rfl ?_|(refine zC rfl rfl ?_ rfl ?_;omega)|(refine zD rfl rfl ?_ rfl ?_;omega)|(refine zP rfl ?_ rfl ?_;omega)|refine zG rfl rfl rfl rfl ?_|(refine jdq rfl rfl ?_ ?_ ?_;kernel_rfl;kernel_rfl)|refine zB rfl rfl rfl (by repeat constructor) rfl ?_|refine zH .here rfl rfl rfl rfl ?_|refine zH (.there .here) rfl rfl rfl rfl ?_|refine zH (.there (.there .here)) rfl rfl rfl rfl ?_|refine zH (.there (.there (.there .here))) rfl rfl rfl rfl ?_|refine zH (.there (.there (.there (.there .here)))) rfl rfl rfl rfl ?_)
    exact J_ret1 rfl rfl [wd b (.slice a 0 c) odd1] rfl (hG.trans hG2) ⟨l, _, odd1, [], hrow, rfl, hv1.mono hG2, hk.done (.inl rfl)⟩
  | cons w1 r1 =>
    cases odd1 with
    | true =>
      refine J_persist fun hh hA hd => ?_
      have hrow : NumRow (G.un hh) u l := ⟨own_slice hA hd, hin⟩
      have hG2 := PH.le_l G hh
      generalize G.un hh = G2 at *
      show J _ _ _ _ (blk b 74 [.slice a (w1 :: r1).length c, .bool true] :: X)
      unfold pW
      rw [List.length_cons] at *
      repeat (first|refine zJ rfl rfl ?_|refine jr rfl ?_|refine jn ?_|refine zM rfl rfl ?_|(refine zC rfl rfl ?_ rfl ?_;omega)|(refine zD rfl rfl ?_ rfl ?_;omega)|(refine zP rfl ?_ rfl ?_;omega)|refine zG rfl rfl rfl rfl ?_|(refine jdq rfl rfl ?_ ?_ ?_;kernel_rfl;kernel_rfl)|refine zB rfl rfl rfl (by repeat constructor) rfl ?_|refine zH .here rfl rfl rfl rfl ?_|refine zH (.there .here) rfl rfl rfl rfl ?_|refine zH (.there (.there .here)) rfl rfl rfl rfl ?_|refine zH (.there (.there (.there .here))) rfl rfl rfl rfl ?_|refine zH (.there (.there (.there (.there .here)))) rfl rfl rfl rfl ?_)
      exact J_ret1 rfl rfl [wd b (.slice a (r1.length + 1) c) true] rfl (hG.trans hG2) ⟨l, _, true, w1 :: r1, hrow, rfl, hv1.mono hG2, hk.done (.inr rfl)⟩
    | false =>
      refine J_pick (.there .here) ?_
      show J _ _ _ _ (blk b 74 [.slice a (w1 :: r1).length c, .bool false] :: _)
      unfold pW
      rw [List.length_cons] at *
      repeat (first|refine zJ rfl rfl ?_|refine jr rfl ?_|refine jn ?_|refine zM rfl rfl ?_|(refine zC rfl rfl ?_ rfl ?_;omega)|(refine zD rfl rfl ?_ rfl ?_;omega)|(refine zP rfl ?_ rfl ?_;omega)|refine zG rfl rfl rfl rfl ?_|(refine jdq rfl rfl ?_ ?_ ?_;kernel_rfl;kernel_rfl)|refine zB rfl rfl rfl (by repeat constructor) rfl ?_|refine zH .here rfl rfl rfl rfl ?_|refine zH (.there .here) rfl rfl rfl rfl ?_|refine zH (.there (.there .here)) rfl rfl rfl rfl ?_|refine zH (.there (.there (.there .here))) rfl rfl rfl rfl ?_|refine zH (.there (.there (.there (.there .here)))) rfl rfl rfl rfl ?_)
      refine oC (Hc := [wd b (.slice a (r1.length + 1) c) false]) (Hr := own u 3 1 l.length (ints l) :: X) (int_spec b _ (w1 :: r1) false G (hF.mono hG) hv1) Tryd.call32 rfl rfl (fun _ s => s) ?_
      rintro _ G1 _ hG1 ⟨n, v2, odd2, ⟨rfl, hn⟩, rfl, hv2, hr2⟩
      have e : ints l ++ [.int .i64 n] = ints (l ++ [n]) := by simp [ints]
      refine oA (n := l.length) (xs := ints l) (size := 1) (bytes := 8) (vs := [.int .i64 n]) (K := fun v' => wd b v2 odd2 :: own v' 3 1 (l.length + 1) (ints l ++ [.int .i64 n]) :: X) (fun _ => rfl) rfl .int rfl elI (ones_cons rfl ones_nil) (by omega) (fun v' => .there .here) rfl (fun _ => rfl) fun u2 w2 => ?_
      repeat (first|refine zJ rfl rfl ?_|refine jr rfl ?_|refine jn ?_|refine zM rfl rfl ?_|(refine zC rfl rfl ?_ rfl ?_;omega)|(refine zD rfl rfl ?_ rfl ?_;omega)|(refine zP rfl ?_ rfl ?_;omega)|refine zG rfl rfl rfl rfl ?_|(refine jdq rfl rfl ?_ ?_ ?_;kernel_rfl;kernel_rfl)|refine zB rfl rfl rfl (by repeat constructor) rfl ?_|refine zH .here rfl rfl rfl rfl ?_|refine zH (.there .here) rfl rfl rfl rfl ?_|refine zH (.there (.there .here)) rfl rfl rfl rfl ?_|refine zH (.there (.there (.there .here))) rfl rfl rfl rfl ?_|refine zH (.there (.there (.there (.there .here)))) rfl rfl rfl rfl ?_)
      refine J_again (ι := List W8 × Value × Bool × List Int × Value × PH) (r1, v2, odd2, l ++ [n], u2, G1) ⟨hG.trans hG1, hv2, ?_, ?_, hk.step hr2⟩ (by dsimp only; simp) ⟨⟨rfl, rfl, trivial⟩, fun w s => ?_⟩
      · intro m hm
        rcases List.mem_append.1 hm with hm | hm
        · exact hin m hm
        · simp at hm; subst hm; exact hn
      · dsimp only
        rw [List.length_append, List.length_singleton]
        omega
      · dsimp only
        rw [← e, List.length_append, List.length_singleton]
        exact s.pick (.there .here)
theorem Rd.bind {α β : Type} {odd odd1 odd2 : Bool} {r : Option α} {n : α} {g : α → Option β} {m : β} (h1 : Rd odd r n odd1) (h2 : Rd odd1 (g n) m odd2) : Rd odd (r.bind g) m odd2 := by
  rcases h2.case with ⟨rfl, rfl, e⟩ | ⟨rfl, e⟩
  · obtain ⟨ho, hr⟩ := h1.1 rfl
    subst ho hr
    rw [Option.bind_some, e]
    exact Rd.yes
  · refine Rd.no fun ho => ?_
    rcases h1.case with ⟨rfl, _, e1⟩ | ⟨_, e1⟩
    · rw [e1, Option.bind_some, e rfl]
    · rw [e1 ho]; rfl
theorem Rd.map {α β : Type} {odd odd1 : Bool} {r : Option α} {n : α} (h1 : Rd odd r n odd1) (f : α → β) : Rd odd (r.map f) (f n) odd1 := by
  rcases h1.case with ⟨rfl, rfl, e⟩ | ⟨rfl, e⟩
  · subst e; exact Rd.yes
  · exact Rd.no fun ho => by rw [e ho]; rfl
noncomputable def coreR (ws : List W8) : Option Co := (tk1 numW ws).bind fun op => (tk1 letterW (ws.drop 1)).bind fun le => (tk1 numW (ws.drop 2)).bind fun a => (tk1 numW (ws.drop 3)).bind fun b => (tk1 bytesW (ws.drop 4)).map fun t => ⟨0, 0, op, le, a, b, t⟩
theorem tail_d (ws : List W8) (k : Nat) : (ws.drop k).tail = ws.drop (k + 1) := by rw [List.tail_drop]
theorem tail_1 (ws : List W8) : ws.tail = ws.drop 1 := by rw [List.drop_one]
theorem inI0 : InI 0 := ⟨by decide, by decide⟩
structure CoOk (c : Co) : Prop where
  ok : CoIn c
  letter : c.letter.length ≤ 2000000
  client : c.client = 0
  stamp : c.stamp = 0
set_option maxHeartbeats 8000000 in
theorem rcore_spec (b : Nat) (v : Value) (ws : List W8) (odd : Bool) (F : PH) (hF : LibF F) (h : WRow F v ws) : Spec Tryd.prog 33 [pW b] F [wd b v odd] fun u F' H' => ∃ c v' odd', u = .agg (coC c).toArray ∧ CoOk c ∧ H' = [wd b v' odd'] ∧ WRow F' v' (ws.drop 5) ∧ Rd odd (coreR ws) c odd' := by
  refine Spec.of1 Tryd.func33 rfl rfl fun X w0 => ?_
  repeat (first|refine zJ rfl rfl ?_|refine jr rfl ?_|refine jn ?_|refine zM rfl rfl ?_|(refine zC rfl rfl ?_ rfl ?_;omega)|(refine zD rfl rfl ?_ rfl ?_;omega)|(refine zP rfl ?_ rfl ?_;omega)|refine zG rfl rfl rfl rfl ?_|(refine jdq rfl rfl ?_ ?_ ?_;kernel_rfl;kernel_rfl)|refine zB rfl rfl rfl (by repeat constructor) rfl ?_|refine zH .here rfl rfl rfl rfl ?_|refine zH (.there .here) rfl rfl rfl rfl ?_|refine zH (.there (.there .here)) rfl rfl rfl rfl ?_|refine zH (.there (.there (.there .here))) rfl rfl rfl rfl ?_|refine zH (.there (.there (.there (.there .here)))) rfl rfl rfl rfl ?_)
  refine oE (ev_alloc (cs := coC zCo) rfl) rfl ?_
  rintro _ _ _ _ ⟨rfl, b2, rfl, rfl⟩
  repeat (first|refine zJ rfl rfl ?_|refine jr rfl ?_|refine jn ?_|refine zM rfl rfl ?_|(refine zC rfl rfl ?_ rfl ?_;omega)|(refine zD rfl rfl ?_ rfl ?_;omega)|(refine zP rfl ?_ rfl ?_;omega)|refine zG rfl rfl rfl rfl ?_|(refine jdq rfl rfl ?_ ?_ ?_;kernel_rfl;kernel_rfl)|refine zB rfl rfl rfl (by repeat constructor) rfl ?_|refine zH .here rfl rfl rfl rfl ?_|refine zH (.there .here) rfl rfl rfl rfl ?_|refine zH (.there (.there .here)) rfl rfl rfl rfl ?_|refine zH (.there (.there (.there .here))) rfl rfl rfl rfl ?_|refine zH (.there (.there (.there (.there .here)))) rfl rfl rfl rfl ?_)
  refine oC (Hc := [wd b v odd]) (Hr := blk b2 23 (coC zCo) :: X) (int_spec b v ws odd F hF h) Tryd.call32 rfl rfl (fun _ s => s.pick (.there .here)) ?_
  rintro _ F1 _ hF1 ⟨op, v1, odd1, ⟨rfl, hop⟩, rfl, hv1, r1⟩
  repeat (first|refine zJ rfl rfl ?_|refine jr rfl ?_|refine jn ?_|refine zM rfl rfl ?_|(refine zC rfl rfl ?_ rfl ?_;omega)|(refine zD rfl rfl ?_ rfl ?_;omega)|(refine zP rfl ?_ rfl ?_;omega)|refine zG rfl rfl rfl rfl ?_|(refine jdq rfl rfl ?_ ?_ ?_;kernel_rfl;kernel_rfl)|refine zB rfl rfl rfl (by repeat constructor) rfl ?_|refine zH .here rfl rfl rfl rfl ?_|refine zH (.there .here) rfl rfl rfl rfl ?_|refine zH (.there (.there .here)) rfl rfl rfl rfl ?_|refine zH (.there (.there (.there .here))) rfl rfl rfl rfl ?_|refine zH (.there (.there (.there (.there .here)))) rfl rfl rfl rfl ?_)
  refine oN (ev_store rfl rfl .int rfl rfl (.skip (.skip (.put .nil))) (ones_cons rfl ones_nil) (.there .here)) rfl ?_
  rintro _ _ _ _ ⟨rfl, _, rfl⟩
  rw [tail_1] at hv1
  repeat (first|refine zJ rfl rfl ?_|refine jr rfl ?_|refine jn ?_|refine zM rfl rfl ?_|(refine zC rfl rfl ?_ rfl ?_;omega)|(refine zD rfl rfl ?_ rfl ?_;omega)|(refine zP rfl ?_ rfl ?_;omega)|refine zG rfl rfl rfl rfl ?_|(refine jdq rfl rfl ?_ ?_ ?_;kernel_rfl;kernel_rfl)|refine zB rfl rfl rfl (by repeat constructor) rfl ?_|refine zH .here rfl rfl rfl rfl ?_|refine zH (.there .here) rfl rfl rfl rfl ?_|refine zH (.there (.there .here)) rfl rfl rfl rfl ?_|refine zH (.there (.there (.there .here))) rfl rfl rfl rfl ?_|refine zH (.there (.there (.there (.there .here)))) rfl rfl rfl rfl ?_)
  refine oC (Hc := [wd b v1 odd1]) (Hr := _ :: X) (letter_spec b v1 _ odd1 F1 hv1) Tryd.call58 rfl rfl (fun _ s => s) ?_
  rintro _ F2 _ hF2 ⟨le, v2, odd2, ⟨rfl, hle⟩, rfl, hv2, r2⟩
  repeat (first|refine zJ rfl rfl ?_|refine jr rfl ?_|refine jn ?_|refine zM rfl rfl ?_|(refine zC rfl rfl ?_ rfl ?_;omega)|(refine zD rfl rfl ?_ rfl ?_;omega)|(refine zP rfl ?_ rfl ?_;omega)|refine zG rfl rfl rfl rfl ?_|(refine jdq rfl rfl ?_ ?_ ?_;kernel_rfl;kernel_rfl)|refine zB rfl rfl rfl (by repeat constructor) rfl ?_|refine zH .here rfl rfl rfl rfl ?_|refine zH (.there .here) rfl rfl rfl rfl ?_|refine zH (.there (.there .here)) rfl rfl rfl rfl ?_|refine zH (.there (.there (.there .here))) rfl rfl rfl rfl ?_|refine zH (.there (.there (.there (.there .here)))) rfl rfl rfl rfl ?_)
  refine oN (ev_store rfl rfl .string rfl rfl (.skip (.skip (.skip (.put .nil)))) (ones_cons rfl ones_nil) (.there .here)) rfl ?_
  rintro _ _ _ _ ⟨rfl, _, rfl⟩
  rw [tail_d] at hv2
  repeat (first|refine zJ rfl rfl ?_|refine jr rfl ?_|refine jn ?_|refine zM rfl rfl ?_|(refine zC rfl rfl ?_ rfl ?_;omega)|(refine zD rfl rfl ?_ rfl ?_;omega)|(refine zP rfl ?_ rfl ?_;omega)|refine zG rfl rfl rfl rfl ?_|(refine jdq rfl rfl ?_ ?_ ?_;kernel_rfl;kernel_rfl)|refine zB rfl rfl rfl (by repeat constructor) rfl ?_|refine zH .here rfl rfl rfl rfl ?_|refine zH (.there .here) rfl rfl rfl rfl ?_|refine zH (.there (.there .here)) rfl rfl rfl rfl ?_|refine zH (.there (.there (.there .here))) rfl rfl rfl rfl ?_|refine zH (.there (.there (.there (.there .here)))) rfl rfl rfl rfl ?_)
  refine oC (Hc := [wd b v2 odd2]) (Hr := _ :: X) (long_spec b v2 _ odd2 F2 ((hF.mono hF1).mono hF2) hv2) Tryd.call57 rfl rfl (fun _ s => s) ?_
  rintro _ F3 _ hF3 ⟨a, v3, odd3, ⟨rfl, ha⟩, rfl, hv3, r3⟩
  rw [tail_d] at hv3
  repeat (first|refine zJ rfl rfl ?_|refine jr rfl ?_|refine jn ?_|refine zM rfl rfl ?_|(refine zC rfl rfl ?_ rfl ?_;omega)|(refine zD rfl rfl ?_ rfl ?_;omega)|(refine zP rfl ?_ rfl ?_;omega)|refine zG rfl rfl rfl rfl ?_|(refine jdq rfl rfl ?_ ?_ ?_;kernel_rfl;kernel_rfl)|refine zB rfl rfl rfl (by repeat constructor) rfl ?_|refine zH .here rfl rfl rfl rfl ?_|refine zH (.there .here) rfl rfl rfl rfl ?_|refine zH (.there (.there .here)) rfl rfl rfl rfl ?_|refine zH (.there (.there (.there .here))) rfl rfl rfl rfl ?_|refine zH (.there (.there (.there (.there .here)))) rfl rfl rfl rfl ?_)
  refine oC (Hc := [wd b v3 odd3]) (Hr := _ :: X) (long_spec b v3 _ odd3 F3 (((hF.mono hF1).mono hF2).mono hF3) hv3) Tryd.call57 rfl rfl (fun _ s => s) ?_
  rintro _ F4 _ hF4 ⟨bb, v4, odd4, ⟨rfl, hb⟩, rfl, hv4, r4⟩
  rw [tail_d] at hv4
  repeat (first|refine zJ rfl rfl ?_|refine jr rfl ?_|refine jn ?_|refine zM rfl rfl ?_|(refine zC rfl rfl ?_ rfl ?_;omega)|(refine zD rfl rfl ?_ rfl ?_;omega)|(refine zP rfl ?_ rfl ?_;omega)|refine zG rfl rfl rfl rfl ?_|(refine jdq rfl rfl ?_ ?_ ?_;kernel_rfl;kernel_rfl)|refine zB rfl rfl rfl (by repeat constructor) rfl ?_|refine zH .here rfl rfl rfl rfl ?_|refine zH (.there .here) rfl rfl rfl rfl ?_|refine zH (.there (.there .here)) rfl rfl rfl rfl ?_|refine zH (.there (.there (.there .here))) rfl rfl rfl rfl ?_|refine zH (.there (.there (.there (.there .here)))) rfl rfl rfl rfl ?_)
  refine oN (ev_store rfl rfl .int rfl rfl (.skip (.skip (.skip (.skip (.put .nil))))) (ones_cons rfl ones_nil) (.there .here)) rfl ?_
  rintro _ _ _ _ ⟨rfl, _, rfl⟩
  repeat (first|refine zJ rfl rfl ?_|refine jr rfl ?_|refine jn ?_|refine zM rfl rfl ?_|(refine zC rfl rfl ?_ rfl ?_;omega)|(refine zD rfl rfl ?_ rfl ?_;omega)|(refine zP rfl ?_ rfl ?_;omega)|refine zG rfl rfl rfl rfl ?_|(refine jdq rfl rfl ?_ ?_ ?_;kernel_rfl;kernel_rfl)|refine zB rfl rfl rfl (by repeat constructor) rfl ?_|refine zH .here rfl rfl rfl rfl ?_|refine zH (.there .here) rfl rfl rfl rfl ?_|refine zH (.there (.there .here)) rfl rfl rfl rfl ?_|refine zH (.there (.there (.there .here))) rfl rfl rfl rfl ?_|refine zH (.there (.there (.there (.there .here)))) rfl rfl rfl rfl ?_)
  refine oN (ev_store rfl rfl .int rfl rfl (.skip (.skip (.skip (.skip (.skip (.put .nil)))))) (ones_cons rfl ones_nil) (.there .here)) rfl ?_
  rintro _ _ _ _ ⟨rfl, _, rfl⟩
  repeat (first|refine zJ rfl rfl ?_|refine jr rfl ?_|refine jn ?_|refine zM rfl rfl ?_|(refine zC rfl rfl ?_ rfl ?_;omega)|(refine zD rfl rfl ?_ rfl ?_;omega)|(refine zP rfl ?_ rfl ?_;omega)|refine zG rfl rfl rfl rfl ?_|(refine jdq rfl rfl ?_ ?_ ?_;kernel_rfl;kernel_rfl)|refine zB rfl rfl rfl (by repeat constructor) rfl ?_|refine zH .here rfl rfl rfl rfl ?_|refine zH (.there .here) rfl rfl rfl rfl ?_|refine zH (.there (.there .here)) rfl rfl rfl rfl ?_|refine zH (.there (.there (.there .here))) rfl rfl rfl rfl ?_|refine zH (.there (.there (.there (.there .here)))) rfl rfl rfl rfl ?_)
  refine oC (Hc := [wd b v4 odd4]) (Hr := _ :: X) (rbytes_spec b v4 _ odd4 F4 hv4) Tryd.call36 rfl rfl (fun _ s => s) ?_
  rintro u5 F5 _ hF5 ⟨t, v5, odd5, ht, rfl, hv5, r5⟩
  rw [tail_d] at hv5
  repeat (first|refine zJ rfl rfl ?_|refine jr rfl ?_|refine jn ?_|refine zM rfl rfl ?_|(refine zC rfl rfl ?_ rfl ?_;omega)|(refine zD rfl rfl ?_ rfl ?_;omega)|(refine zP rfl ?_ rfl ?_;omega)|refine zG rfl rfl rfl rfl ?_|(refine jdq rfl rfl ?_ ?_ ?_;kernel_rfl;kernel_rfl)|refine zB rfl rfl rfl (by repeat constructor) rfl ?_|refine zH .here rfl rfl rfl rfl ?_|refine zH (.there .here) rfl rfl rfl rfl ?_|refine zH (.there (.there .here)) rfl rfl rfl rfl ?_|refine zH (.there (.there (.there .here))) rfl rfl rfl rfl ?_|refine zH (.there (.there (.there (.there .here)))) rfl rfl rfl rfl ?_)
  refine oS (eb_string rfl (SliceV.rds ht)) rfl ?_
  repeat (first|refine zJ rfl rfl ?_|refine jr rfl ?_|refine jn ?_|refine zM rfl rfl ?_|(refine zC rfl rfl ?_ rfl ?_;omega)|(refine zD rfl rfl ?_ rfl ?_;omega)|(refine zP rfl ?_ rfl ?_;omega)|refine zG rfl rfl rfl rfl ?_|(refine jdq rfl rfl ?_ ?_ ?_;kernel_rfl;kernel_rfl)|refine zB rfl rfl rfl (by repeat constructor) rfl ?_|refine zH .here rfl rfl rfl rfl ?_|refine zH (.there .here) rfl rfl rfl rfl ?_|refine zH (.there (.there .here)) rfl rfl rfl rfl ?_|refine zH (.there (.there (.there .here))) rfl rfl rfl rfl ?_|refine zH (.there (.there (.there (.there .here)))) rfl rfl rfl rfl ?_)
  refine oN (ev_store rfl rfl .string rfl rfl (.skip (.skip (.skip (.skip (.skip (.skip (.put .nil))))))) (ones_cons rfl ones_nil) (.there .here)) rfl ?_
  rintro _ _ _ _ ⟨rfl, _, rfl⟩
  repeat (first|refine zJ rfl rfl ?_|refine jr rfl ?_|refine jn ?_|refine zM rfl rfl ?_|(refine zC rfl rfl ?_ rfl ?_;omega)|(refine zD rfl rfl ?_ rfl ?_;omega)|(refine zP rfl ?_ rfl ?_;omega)|refine zG rfl rfl rfl rfl ?_|(refine jdq rfl rfl ?_ ?_ ?_;kernel_rfl;kernel_rfl)|refine zB rfl rfl rfl (by repeat constructor) rfl ?_|refine zH .here rfl rfl rfl rfl ?_|refine zH (.there .here) rfl rfl rfl rfl ?_|refine zH (.there (.there .here)) rfl rfl rfl rfl ?_|refine zH (.there (.there (.there .here))) rfl rfl rfl rfl ?_|refine zH (.there (.there (.there (.there .here)))) rfl rfl rfl rfl ?_)
  refine oS (ev_load_agg (cs := coC ⟨0, 0, op, le, a, bb, t⟩) rfl rfl (Rdb.ofB (n := 0) (.there .here) rfl) rfl) rfl ?_
  refine oN (ev_store rfl rfl .agg rfl rfl (lay_all rfl) (by unfold coC; (repeat (first | exact ones_nil | refine ones_cons rfl ?_))) (.there .here)) rfl ?_
  rintro _ _ _ _ ⟨rfl, _, rfl⟩
  repeat (first|refine zJ rfl rfl ?_|refine jr rfl ?_|refine jn ?_|refine zM rfl rfl ?_|(refine zC rfl rfl ?_ rfl ?_;omega)|(refine zD rfl rfl ?_ rfl ?_;omega)|(refine zP rfl ?_ rfl ?_;omega)|refine zG rfl rfl rfl rfl ?_|(refine jdq rfl rfl ?_ ?_ ?_;kernel_rfl;kernel_rfl)|refine zB rfl rfl rfl (by repeat constructor) rfl ?_|refine zH .here rfl rfl rfl rfl ?_|refine zH (.there .here) rfl rfl rfl rfl ?_|refine zH (.there (.there .here)) rfl rfl rfl rfl ?_|refine zH (.there (.there (.there .here))) rfl rfl rfl rfl ?_|refine zH (.there (.there (.there (.there .here)))) rfl rfl rfl rfl ?_)
  refine J_retv (vs := [.agg (coC ⟨0, 0, op, le, a, bb, t⟩).toArray]) rfl (.agg rfl rfl (Rdb.ofB (n := 0) (.there .here) rfl) rfl .nil) [wd b v5 odd5] (fun w s => (s.pick (.there .here)).drop) (hF1.trans (hF2.trans (hF3.trans (hF4.trans hF5)))) ⟨⟨0, 0, op, le, a, bb, t⟩, v5, odd5, rfl, ⟨⟨inI0, inI0, hop, ha, hb⟩, hle, rfl, rfl⟩, rfl, hv5, ?_⟩
  exact r1.bind (r2.bind (r3.bind (r4.bind (r5.map fun t => (⟨0, 0, op, le, a, bb, t⟩ : Co)))))
end Go.Proofs.YtekdmpbkcjjllaaDoor
namespace Go.Proofs.YtekdmpbkcjjllaaDoor
open Go.RowKit
set_option maxRecDepth 100000
def wAsk : W8 := [97, 115, 107]
def wAgain : W8 := [97, 103, 97, 105, 110]
def wTick : W8 := [116, 105, 99, 107]
def wDeliver : W8 := [100, 101, 108, 105, 118, 101, 114]
def wTwice : W8 := [116, 119, 105, 99, 101]
def wLose : W8 := [108, 111, 115, 101]
def wRequest : W8 := [114, 101, 113, 117, 101, 115, 116]
def wLie : W8 := [108, 105, 101]
def wForge : W8 := [102, 111, 114, 103, 101]
def wCluster : W8 := [99, 108, 117, 115, 116, 101, 114]
def nmS (w : W8) : Value := .string (strOf w)
def nmM : List (Int × Value) := [(2, nmS wAgain), (6, nmS wTick), (3, nmS wDeliver), (4, nmS wTwice), (5, nmS wLose)]
def oneK (name : W8) : Option Int := if name = wAgain then some 2 else if name = wTick then some 6 else if name = wDeliver then some 3 else if name = wTwice then some 4 else if name = wLose then some 5 else none
def keyI : KeyT Tryd.prog 3 Int := keyInt (k := .i64) rfl
section
variable {P : Program} {l : Env} {F : PH} {H H' : List Asrt} {d : Option Nat} {T U kt et : TypeId} {pos : String} {af : Array Edge} {g : Option (Nat × Bool)} {x y z : Operand} {α : Type} [DecidableEq α] {K : KeyT P kt α} {b : Nat} {M : List (α × Value)}
theorem ev_insert {a : α} {u : Value} (hx : opv l x = some (.map (some b))) (hy : opv l y = some (K.val a)) (hz : opv l z = some u) (ht : mapOf P T = some (kt, et)) (hu : Upd (mp K b M) (mp K b (setK M a u)) H H') :
    Ev' P ⟨d, .insert T x y z, U, pos, af, g⟩ l F H fun v F' H'' => F = F' ∧ v = undef ∧ H'' = H' := .of fun N a w ha hs => (ev_mapUpdate (d := d) (U := U) (pos := pos) (af := af) (g := g) hx hy hz ht hu).out N a w ha hs
end
set_option maxHeartbeats 1000000 in
theorem names_spec (F : PH) : Spec Tryd.prog 18 [] F [] fun u _ H' => ∃ bm, u = .map (some bm) ∧ H' = [mp keyI bm nmM] := by
  refine Spec.of0 Tryd.func18 rfl fun X w0 => ?_
  repeat (first|refine zJ rfl rfl ?_|refine jr rfl ?_|refine jn ?_|refine zM rfl rfl ?_|(refine zC rfl rfl ?_ rfl ?_;omega)|(refine zD rfl rfl ?_ rfl ?_;omega)|(refine zP rfl ?_ rfl ?_;omega)|refine zG rfl rfl rfl rfl ?_|(refine jdq rfl rfl ?_ ?_ ?_;kernel_rfl;kernel_rfl)|refine zB rfl rfl rfl (by repeat constructor) rfl ?_|refine zH .here rfl rfl rfl rfl ?_|refine zH (.there .here) rfl rfl rfl rfl ?_|refine zH (.there (.there .here)) rfl rfl rfl rfl ?_|refine zH (.there (.there (.there .here))) rfl rfl rfl rfl ?_|refine zH (.there (.there (.there (.there .here)))) rfl rfl rfl rfl ?_)
  refine oE (ev_makeMap (K := keyI)) rfl ?_
  rintro _ _ _ _ ⟨rfl, bm, rfl, rfl⟩
  refine oN (ev_insert (K := keyI) (a := 2) rfl rfl rfl rfl .here) rfl ?_
  rintro _ _ _ _ ⟨rfl, _, rfl⟩
  refine oN (ev_insert (K := keyI) (a := 6) rfl rfl rfl rfl .here) rfl ?_
  rintro _ _ _ _ ⟨rfl, _, rfl⟩
  refine oN (ev_insert (K := keyI) (a := 3) rfl rfl rfl rfl .here) rfl ?_
  rintro _ _ _ _ ⟨rfl, _, rfl⟩
  refine oN (ev_insert (K := keyI) (a := 4) rfl rfl rfl rfl .here) rfl ?_
  rintro _ _ _ _ ⟨rfl, _, rfl⟩
  refine oN (ev_insert (K := keyI) (a := 5) rfl rfl rfl rfl .here) rfl ?_
  rintro _ _ _ _ ⟨rfl, _, rfl⟩
  repeat (first|refine zJ rfl rfl ?_|refine jr rfl ?_|refine jn ?_|refine zM rfl rfl ?_|(refine zC rfl rfl ?_ rfl ?_;omega)|(refine zD rfl rfl ?_ rfl ?_;omega)|(refine zP rfl ?_ rfl ?_;omega)|refine zG rfl rfl rfl rfl ?_|(refine jdq rfl rfl ?_ ?_ ?_;kernel_rfl;kernel_rfl)|refine zB rfl rfl rfl (by repeat constructor) rfl ?_|refine zH .here rfl rfl rfl rfl ?_|refine zH (.there .here) rfl rfl rfl rfl ?_|refine zH (.there (.there .here)) rfl rfl rfl rfl ?_|refine zH (.there (.there (.there .here))) rfl rfl rfl rfl ?_|refine zH (.there (.there (.there (.there .here)))) rfl rfl rfl rfl ?_)
  exact J_ret1 rfl rfl [mp keyI bm nmM] rfl (PH.ler _) ⟨bm, rfl, rfl⟩
def whoK (k : Int) : Bool := decide (k = 2) || decide (k = 6)
theorem byWho_spec (k : Int) (F : PH) : Pure Tryd.prog 20 [.int .i64 k] F (.bool (whoK k)) := by
  refine Spec.of1 Tryd.func20 rfl rfl fun X w0 => ?_
  unfold whoK
  by_cases h : k = 2
  · subst h
    repeat (first|refine zJ rfl rfl ?_|refine jr rfl ?_|refine jn ?_|refine zM rfl rfl ?_|(refine zC rfl rfl ?_ rfl ?_;omega)|(refine zD rfl rfl ?_ rfl ?_;omega)|(refine zP rfl ?_ rfl ?_;omega)|refine zG rfl rfl rfl rfl ?_|(refine jdq rfl rfl ?_ ?_ ?_;kernel_rfl;kernel_rfl)|refine zB rfl rfl rfl (by repeat constructor) rfl ?_|refine zH .here rfl rfl rfl rfl ?_|refine zH (.there .here) rfl rfl rfl rfl ?_|refine zH (.there (.there .here)) rfl rfl rfl rfl ?_|refine zH (.there (.there (.there .here))) rfl rfl rfl rfl ?_|refine zH (.there (.there (.there (.there .here)))) rfl rfl rfl rfl ?_)
    exact J_ret1 rfl rfl [] rfl (PH.ler _) ⟨rfl, rfl⟩
  · rw [decide_eq_false h, Bool.false_or]
    by_cases h2 : k = 6
    · subst h2
      repeat (first|refine zJ rfl rfl ?_|refine jr rfl ?_|refine jn ?_|refine zM rfl rfl ?_|(refine zC rfl rfl ?_ rfl ?_;omega)|(refine zD rfl rfl ?_ rfl ?_;omega)|(refine zP rfl ?_ rfl ?_;omega)|refine zG rfl rfl rfl rfl ?_|(refine jdq rfl rfl ?_ ?_ ?_;kernel_rfl;kernel_rfl)|refine zB rfl rfl rfl (by repeat constructor) rfl ?_|refine zH .here rfl rfl rfl rfl ?_|refine zH (.there .here) rfl rfl rfl rfl ?_|refine zH (.there (.there .here)) rfl rfl rfl rfl ?_|refine zH (.there (.there (.there .here))) rfl rfl rfl rfl ?_|refine zH (.there (.there (.there (.there .here)))) rfl rfl rfl rfl ?_)
      exact J_ret1 rfl rfl [] rfl (PH.ler _) ⟨rfl, rfl⟩
    · rw [decide_eq_false h2]
      repeat (first|refine zJ rfl rfl ?_|refine jr rfl ?_|refine jn ?_|refine zM rfl rfl ?_|(refine zC rfl rfl ?_ rfl ?_;omega)|(refine zD rfl rfl ?_ rfl ?_;omega)|(refine zP rfl ?_ rfl ?_;omega)|refine zG rfl rfl rfl rfl ?_|(refine jdq rfl rfl ?_ ?_ ?_;kernel_rfl;kernel_rfl)|refine zB rfl rfl rfl (by repeat constructor) rfl ?_|refine zH .here rfl rfl rfl rfl ?_|refine zH (.there .here) rfl rfl rfl rfl ?_|refine zH (.there (.there .here)) rfl rfl rfl rfl ?_|refine zH (.there (.there (.there .here))) rfl rfl rfl rfl ?_|refine zH (.there (.there (.there (.there .here)))) rfl rfl rfl rfl ?_)
      exact J_ret1 rfl rfl [] rfl (PH.ler _) ⟨rfl, rfl⟩
def kSt (k : Int) : St := { zSt with kind := k }
def oneSt (k n : Int) : St := if whoK k then { zSt with kind := k, who := n } else { zSt with kind := k, at_ := n }
def nl : Value := .slice none 0 0
theorem nm_of {q : Int × Value} (h : q ∈ nmM) : ∃ w, q.2 = nmS w ∧ oneK w = some q.1 ∧ InI q.1 := by
  unfold nmM at h
  simp only [List.mem_cons, List.not_mem_nil, or_false] at h
  rcases h with rfl | rfl | rfl | rfl | rfl
  · exact ⟨wAgain, rfl, rfl, by decide, by decide⟩
  · exact ⟨wTick, rfl, rfl, by decide, by decide⟩
  · exact ⟨wDeliver, rfl, rfl, by decide, by decide⟩
  · exact ⟨wTwice, rfl, rfl, by decide, by decide⟩
  · exact ⟨wLose, rfl, rfl, by decide, by decide⟩
theorem oneK_mem {w : W8} {k : Int} (h : oneK w = some k) : (k, nmS w) ∈ nmM := by
  unfold oneK at h
  unfold nmM
  split at h
  · rename_i e; cases h; subst e; simp
  split at h
  · rename_i e; cases h; subst e; simp
  split at h
  · rename_i e; cases h; subst e; simp
  split at h
  · rename_i e; cases h; subst e; simp
  split at h
  · rename_i e; cases h; subst e; simp
  · cases h
set_option maxHeartbeats 8000000 in
theorem one_spec (b : Nat) (v : Value) (ws : List W8) (odd : Bool) (name : W8) (F : PH) (hF : LibF F) (h : WRow F v ws) : Spec Tryd.prog 31 [pW b, .string (strOf name)] F [wd b v odd] fun u F' H' =>
    (oneK name = none ∧ u = .tuple #[.agg zStC.toArray, .bool false] ∧ H' = [wd b v odd]) ∨
    ∃ k n v' odd', oneK name = some k ∧ u = .tuple #[.agg (stC (oneSt k n) nl nl nl).toArray, .bool true] ∧ InI k ∧ InI n ∧ H' = [wd b v' odd'] ∧ WRow F' v' ws.tail ∧ Rd odd (tk1 numW ws) n odd' := by
  refine Spec.of2 Tryd.func31 rfl rfl fun X w0 => ?_
  repeat (first|refine zJ rfl rfl ?_|refine jr rfl ?_|refine jn ?_|refine zM rfl rfl ?_|(refine zC rfl rfl ?_ rfl ?_;omega)|(refine zD rfl rfl ?_ rfl ?_;omega)|(refine zP rfl ?_ rfl ?_;omega)|refine zG rfl rfl rfl rfl ?_|(refine jdq rfl rfl ?_ ?_ ?_;kernel_rfl;kernel_rfl)|refine zB rfl rfl rfl (by repeat constructor) rfl ?_|refine zH .here rfl rfl rfl rfl ?_|refine zH (.there .here) rfl rfl rfl rfl ?_|refine zH (.there (.there .here)) rfl rfl rfl rfl ?_|refine zH (.there (.there (.there .here))) rfl rfl rfl rfl ?_|refine zH (.there (.there (.there (.there .here)))) rfl rfl rfl rfl ?_)
  refine oE (ev_alloc (cs := zStC) rfl) rfl ?_
  rintro _ _ _ _ ⟨rfl, b4, rfl, rfl⟩
  repeat (first|refine zJ rfl rfl ?_|refine jr rfl ?_|refine jn ?_|refine zM rfl rfl ?_|(refine zC rfl rfl ?_ rfl ?_;omega)|(refine zD rfl rfl ?_ rfl ?_;omega)|(refine zP rfl ?_ rfl ?_;omega)|refine zG rfl rfl rfl rfl ?_|(refine jdq rfl rfl ?_ ?_ ?_;kernel_rfl;kernel_rfl)|refine zB rfl rfl rfl (by repeat constructor) rfl ?_|refine zH .here rfl rfl rfl rfl ?_|refine zH (.there .here) rfl rfl rfl rfl ?_|refine zH (.there (.there .here)) rfl rfl rfl rfl ?_|refine zH (.there (.there (.there .here))) rfl rfl rfl rfl ?_|refine zH (.there (.there (.there (.there .here)))) rfl rfl rfl rfl ?_)
  refine oC (Hc := []) (Hr := blk b4 31 zStC :: wd b v odd :: X) (names_spec F) Tryd.call18 rfl rfl (fun _ s => s) ?_
  rintro _ F1 _ hF1 ⟨bm, rfl, rfl⟩
  refine oE (ev_range (K := keyI) rfl rfl .here) rfl ?_
  rintro _ _ _ _ ⟨rfl, r, es, clock, rfl, hM, hL, rfl⟩
  repeat (first|refine zJ rfl rfl ?_|refine jr rfl ?_|refine jn ?_|refine zM rfl rfl ?_|(refine zC rfl rfl ?_ rfl ?_;omega)|(refine zD rfl rfl ?_ rfl ?_;omega)|(refine zP rfl ?_ rfl ?_;omega)|refine zG rfl rfl rfl rfl ?_|(refine jdq rfl rfl ?_ ?_ ?_;kernel_rfl;kernel_rfl)|refine zB rfl rfl rfl (by repeat constructor) rfl ?_|refine zH .here rfl rfl rfl rfl ?_|refine zH (.there .here) rfl rfl rfl rfl ?_|refine zH (.there (.there .here)) rfl rfl rfl rfl ?_|refine zH (.there (.there (.there .here))) rfl rfl rfl rfl ?_|refine zH (.there (.there (.there (.there .here)))) rfl rfl rfl rfl ?_)
  refine J_loop (ι := Array Nat × List (Int × Value) × Bool × Int) (fun p => ToCome keyI es p.1 p.2.1 ∧ (∀ q ∈ p.2.1, q ∈ nmM) ∧ (p.2.2.1 = true → oneK name = some p.2.2.2) ∧ (p.2.2.1 = false → p.2.2.2 = 0 ∧ ∀ q ∈ nmM, q ∈ p.2.1 ∨ q.2 ≠ nmS name)) (fun p => p.2.1.length) (fun p => [(0, pW b), (1, .string (strOf name)), (4, .pointer (some ⟨b4, 0, none⟩)), (5, .bool p.2.2.1), (9, .pointer (some ⟨r, 0, none⟩))]) (fun _ => F1)
    (fun p => itr r bm clock p.1 :: ob bm (.map es clock) :: blk b4 31 (stC (kSt p.2.2.2) nl nl nl) :: wd b v odd :: X) (#[], nmM, false, 0) ⟨hL, fun _ h => h, fun h => (by cases h), fun _ => ⟨rfl, fun q hq => .inl hq⟩⟩ ⟨⟨rfl, rfl, rfl, rfl, rfl, trivial⟩, fun w s => s⟩ ?_
  rintro ⟨seen, L, ok, k⟩ ⟨hL, hsub, hok, hno⟩
  dsimp only at *
  repeat (first|refine zJ rfl rfl ?_|refine jr rfl ?_|refine jn ?_|refine zM rfl rfl ?_|(refine zC rfl rfl ?_ rfl ?_;omega)|(refine zD rfl rfl ?_ rfl ?_;omega)|(refine zP rfl ?_ rfl ?_;omega)|refine zG rfl rfl rfl rfl ?_|(refine jdq rfl rfl ?_ ?_ ?_;kernel_rfl;kernel_rfl)|refine zB rfl rfl rfl (by repeat constructor) rfl ?_|refine zH .here rfl rfl rfl rfl ?_|refine zH (.there .here) rfl rfl rfl rfl ?_|refine zH (.there (.there .here)) rfl rfl rfl rfl ?_|refine zH (.there (.there (.there .here))) rfl rfl rfl rfl ?_|refine zH (.there (.there (.there (.there .here)))) rfl rfl rfl rfl ?_)
  refine oE (ev_next rfl hM hL (.there .here) (fun _ => .here)) rfl ?_
  rintro _ _ _ _ ⟨rfl, ⟨rfl, rfl, rfl⟩ | ⟨q, L1, L2, s, rfl, rfl, hL2, hcm, rfl⟩⟩
  · cases ok with
    | false =>
      obtain ⟨rfl, hall⟩ := hno rfl
      have hn : oneK name = none := by
        cases e : oneK name with
        | none => rfl
        | some k =>
          rcases hall _ (oneK_mem e) with h | h
          · cases h
          · exact absurd rfl h
      repeat (first|refine zJ rfl rfl ?_|refine jr rfl ?_|refine jn ?_|refine zM rfl rfl ?_|(refine zC rfl rfl ?_ rfl ?_;omega)|(refine zD rfl rfl ?_ rfl ?_;omega)|(refine zP rfl ?_ rfl ?_;omega)|refine zG rfl rfl rfl rfl ?_|(refine jdq rfl rfl ?_ ?_ ?_;kernel_rfl;kernel_rfl)|refine zB rfl rfl rfl (by repeat constructor) rfl ?_|refine zH .here rfl rfl rfl rfl ?_|refine zH (.there .here) rfl rfl rfl rfl ?_|refine zH (.there (.there .here)) rfl rfl rfl rfl ?_|refine zH (.there (.there (.there .here))) rfl rfl rfl rfl ?_|refine zH (.there (.there (.there (.there .here)))) rfl rfl rfl rfl ?_)
      refine oS (ev_load_agg (cs := zStC) rfl rfl (Rdb.ofB (n := 0) (.there (.there .here)) rfl) rfl) rfl ?_
      repeat (first|refine zJ rfl rfl ?_|refine jr rfl ?_|refine jn ?_|refine zM rfl rfl ?_|(refine zC rfl rfl ?_ rfl ?_;omega)|(refine zD rfl rfl ?_ rfl ?_;omega)|(refine zP rfl ?_ rfl ?_;omega)|refine zG rfl rfl rfl rfl ?_|(refine jdq rfl rfl ?_ ?_ ?_;kernel_rfl;kernel_rfl)|refine zB rfl rfl rfl (by repeat constructor) rfl ?_|refine zH .here rfl rfl rfl rfl ?_|refine zH (.there .here) rfl rfl rfl rfl ?_|refine zH (.there (.there .here)) rfl rfl rfl rfl ?_|refine zH (.there (.there (.there .here))) rfl rfl rfl rfl ?_|refine zH (.there (.there (.there (.there .here)))) rfl rfl rfl rfl ?_)
      refine oN (ev_store rfl rfl .agg rfl rfl (lay_all rfl) (by unfold zStC stC; (repeat (first | exact ones_nil | refine ones_cons rfl ?_))) (.there (.there .here))) rfl ?_
      rintro _ _ _ _ ⟨rfl, _, rfl⟩
      repeat (first|refine zJ rfl rfl ?_|refine jr rfl ?_|refine jn ?_|refine zM rfl rfl ?_|(refine zC rfl rfl ?_ rfl ?_;omega)|(refine zD rfl rfl ?_ rfl ?_;omega)|(refine zP rfl ?_ rfl ?_;omega)|refine zG rfl rfl rfl rfl ?_|(refine jdq rfl rfl ?_ ?_ ?_;kernel_rfl;kernel_rfl)|refine zB rfl rfl rfl (by repeat constructor) rfl ?_|refine zH .here rfl rfl rfl rfl ?_|refine zH (.there .here) rfl rfl rfl rfl ?_|refine zH (.there (.there .here)) rfl rfl rfl rfl ?_|refine zH (.there (.there (.there .here))) rfl rfl rfl rfl ?_|refine zH (.there (.there (.there (.there .here)))) rfl rfl rfl rfl ?_)
      exact J_retv (vs := [.agg zStC.toArray, .bool false]) rfl (.agg rfl rfl (Rdb.ofB (n := 0) (.there (.there .here)) rfl) rfl (.tmp rfl .nil)) [wd b v odd] (fun w s => s.drop.drop.drop) hF1 (.inl ⟨hn, rfl, rfl⟩)
    | true =>
      have hk := hok rfl
      have hki : InI k := by obtain ⟨w, _, _, hi⟩ := nm_of (oneK_mem hk); exact hi
      have hbw := byWho_spec k F1
      unfold stC kSt
      cases hw : whoK k with
      | true =>
        rw [hw] at hbw
        repeat (first|refine zJ rfl rfl ?_|refine jr rfl ?_|refine jn ?_|refine zM rfl rfl ?_|(refine zC rfl rfl ?_ rfl ?_;omega)|(refine zD rfl rfl ?_ rfl ?_;omega)|(refine zP rfl ?_ rfl ?_;omega)|refine zG rfl rfl rfl rfl ?_|(refine jdq rfl rfl ?_ ?_ ?_;kernel_rfl;kernel_rfl)|refine zB rfl rfl rfl (by repeat constructor) rfl ?_|refine zH .here rfl rfl rfl rfl ?_|refine zH (.there .here) rfl rfl rfl rfl ?_|refine zH (.there (.there .here)) rfl rfl rfl rfl ?_|refine zH (.there (.there (.there .here))) rfl rfl rfl rfl ?_|refine zH (.there (.there (.there (.there .here)))) rfl rfl rfl rfl ?_)
        refine oP (hbw) Tryd.call20 rfl rfl ?_
        repeat (first|refine zJ rfl rfl ?_|refine jr rfl ?_|refine jn ?_|refine zM rfl rfl ?_|(refine zC rfl rfl ?_ rfl ?_;omega)|(refine zD rfl rfl ?_ rfl ?_;omega)|(refine zP rfl ?_ rfl ?_;omega)|refine zG rfl rfl rfl rfl ?_|(refine jdq rfl rfl ?_ ?_ ?_;kernel_rfl;kernel_rfl)|refine zB rfl rfl rfl (by repeat constructor) rfl ?_|refine zH .here rfl rfl rfl rfl ?_|refine zH (.there .here) rfl rfl rfl rfl ?_|refine zH (.there (.there .here)) rfl rfl rfl rfl ?_|refine zH (.there (.there (.there .here))) rfl rfl rfl rfl ?_|refine zH (.there (.there (.there (.there .here)))) rfl rfl rfl rfl ?_)
        refine oC (Hc := [wd b v odd]) (Hr := itr r bm clock seen :: ob bm (.map es clock) :: blk b4 31 (stC (kSt k) nl nl nl) :: X) (int_spec b v ws odd F1 (hF.mono hF1) (h.mono hF1)) Tryd.call32 rfl rfl (fun _ s => s.pick (.there (.there (.there .here)))) ?_
        rintro _ F2 _ hF2 ⟨n, v2, odd2, ⟨rfl, hn⟩, rfl, hv2, hr2⟩
        unfold stC kSt
        repeat (first|refine zJ rfl rfl ?_|refine jr rfl ?_|refine jn ?_|refine zM rfl rfl ?_|(refine zC rfl rfl ?_ rfl ?_;omega)|(refine zD rfl rfl ?_ rfl ?_;omega)|(refine zP rfl ?_ rfl ?_;omega)|refine zG rfl rfl rfl rfl ?_|(refine jdq rfl rfl ?_ ?_ ?_;kernel_rfl;kernel_rfl)|refine zB rfl rfl rfl (by repeat constructor) rfl ?_|refine zH .here rfl rfl rfl rfl ?_|refine zH (.there .here) rfl rfl rfl rfl ?_|refine zH (.there (.there .here)) rfl rfl rfl rfl ?_|refine zH (.there (.there (.there .here))) rfl rfl rfl rfl ?_|refine zH (.there (.there (.there (.there .here)))) rfl rfl rfl rfl ?_)
        refine oN (ev_store rfl rfl .int rfl rfl (.skip (.put .nil)) (ones_cons rfl ones_nil) (.there (.there (.there .here)))) rfl ?_
        rintro _ _ _ _ ⟨rfl, _, rfl⟩
        repeat (first|refine zJ rfl rfl ?_|refine jr rfl ?_|refine jn ?_|refine zM rfl rfl ?_|(refine zC rfl rfl ?_ rfl ?_;omega)|(refine zD rfl rfl ?_ rfl ?_;omega)|(refine zP rfl ?_ rfl ?_;omega)|refine zG rfl rfl rfl rfl ?_|(refine jdq rfl rfl ?_ ?_ ?_;kernel_rfl;kernel_rfl)|refine zB rfl rfl rfl (by repeat constructor) rfl ?_|refine zH .here rfl rfl rfl rfl ?_|refine zH (.there .here) rfl rfl rfl rfl ?_|refine zH (.there (.there .here)) rfl rfl rfl rfl ?_|refine zH (.there (.there (.there .here))) rfl rfl rfl rfl ?_|refine zH (.there (.there (.there (.there .here)))) rfl rfl rfl rfl ?_)
        have e : oneSt k n = { zSt with kind := k, who := n } := by unfold oneSt; rw [if_pos hw]
        refine oS (ev_load_agg (cs := stC { zSt with kind := k, who := n } nl nl nl) rfl rfl (Rdb.ofB (n := 0) (.there (.there (.there .here))) rfl) rfl) rfl ?_
        repeat (first|refine zJ rfl rfl ?_|refine jr rfl ?_|refine jn ?_|refine zM rfl rfl ?_|(refine zC rfl rfl ?_ rfl ?_;omega)|(refine zD rfl rfl ?_ rfl ?_;omega)|(refine zP rfl ?_ rfl ?_;omega)|refine zG rfl rfl rfl rfl ?_|(refine jdq rfl rfl ?_ ?_ ?_;kernel_rfl;kernel_rfl)|refine zB rfl rfl rfl (by repeat constructor) rfl ?_|refine zH .here rfl rfl rfl rfl ?_|refine zH (.there .here) rfl rfl rfl rfl ?_|refine zH (.there (.there .here)) rfl rfl rfl rfl ?_|refine zH (.there (.there (.there .here))) rfl rfl rfl rfl ?_|refine zH (.there (.there (.there (.there .here)))) rfl rfl rfl rfl ?_)
        refine oN (ev_store rfl rfl .agg rfl rfl (lay_all rfl) (by unfold stC; (repeat (first | exact ones_nil | refine ones_cons rfl ?_))) (.there (.there (.there .here)))) rfl ?_
        rintro _ _ _ _ ⟨rfl, _, rfl⟩
        repeat (first|refine zJ rfl rfl ?_|refine jr rfl ?_|refine jn ?_|refine zM rfl rfl ?_|(refine zC rfl rfl ?_ rfl ?_;omega)|(refine zD rfl rfl ?_ rfl ?_;omega)|(refine zP rfl ?_ rfl ?_;omega)|refine zG rfl rfl rfl rfl ?_|(refine jdq rfl rfl ?_ ?_ ?_;kernel_rfl;kernel_rfl)|refine zB rfl rfl rfl (by repeat constructor) rfl ?_|refine zH .here rfl rfl rfl rfl ?_|refine zH (.there .here) rfl rfl rfl rfl ?_|refine zH (.there (.there .here)) rfl rfl rfl rfl ?_|refine zH (.there (.there (.there .here))) rfl rfl rfl rfl ?_|refine zH (.there (.there (.there (.there .here)))) rfl rfl rfl rfl ?_)
        refine J_retv (vs := [.agg (stC { zSt with kind := k, who := n } nl nl nl).toArray, .bool true]) rfl (.agg rfl rfl (Rdb.ofB (n := 0) (.there (.there (.there .here))) rfl) rfl (.tmp rfl .nil)) [wd b v2 odd2] (fun w s => Sat.drop (Sat.drop (Sat.drop (s.perm (List.Perm.symm (List.perm_middle (l₁ := [_, _, _])))))))  (hF1.trans hF2) (.inr ⟨k, n, v2, odd2, hk, by rw [e]; rfl, hki, hn, rfl, hv2, hr2⟩)
      | false =>
        rw [hw] at hbw
        repeat (first|refine zJ rfl rfl ?_|refine jr rfl ?_|refine jn ?_|refine zM rfl rfl ?_|(refine zC rfl rfl ?_ rfl ?_;omega)|(refine zD rfl rfl ?_ rfl ?_;omega)|(refine zP rfl ?_ rfl ?_;omega)|refine zG rfl rfl rfl rfl ?_|(refine jdq rfl rfl ?_ ?_ ?_;kernel_rfl;kernel_rfl)|refine zB rfl rfl rfl (by repeat constructor) rfl ?_|refine zH .here rfl rfl rfl rfl ?_|refine zH (.there .here) rfl rfl rfl rfl ?_|refine zH (.there (.there .here)) rfl rfl rfl rfl ?_|refine zH (.there (.there (.there .here))) rfl rfl rfl rfl ?_|refine zH (.there (.there (.there (.there .here)))) rfl rfl rfl rfl ?_)
        refine oP (hbw) Tryd.call20 rfl rfl ?_
        repeat (first|refine zJ rfl rfl ?_|refine jr rfl ?_|refine jn ?_|refine zM rfl rfl ?_|(refine zC rfl rfl ?_ rfl ?_;omega)|(refine zD rfl rfl ?_ rfl ?_;omega)|(refine zP rfl ?_ rfl ?_;omega)|refine zG rfl rfl rfl rfl ?_|(refine jdq rfl rfl ?_ ?_ ?_;kernel_rfl;kernel_rfl)|refine zB rfl rfl rfl (by repeat constructor) rfl ?_|refine zH .here rfl rfl rfl rfl ?_|refine zH (.there .here) rfl rfl rfl rfl ?_|refine zH (.there (.there .here)) rfl rfl rfl rfl ?_|refine zH (.there (.there (.there .here))) rfl rfl rfl rfl ?_|refine zH (.there (.there (.there (.there .here)))) rfl rfl rfl rfl ?_)
        refine oC (Hc := [wd b v odd]) (Hr := itr r bm clock seen :: ob bm (.map es clock) :: blk b4 31 (stC (kSt k) nl nl nl) :: X) (int_spec b v ws odd F1 (hF.mono hF1) (h.mono hF1)) Tryd.call32 rfl rfl (fun _ s => s.pick (.there (.there (.there .here)))) ?_
        rintro _ F2 _ hF2 ⟨n, v2, odd2, ⟨rfl, hn⟩, rfl, hv2, hr2⟩
        unfold stC kSt
        repeat (first|refine zJ rfl rfl ?_|refine jr rfl ?_|refine jn ?_|refine zM rfl rfl ?_|(refine zC rfl rfl ?_ rfl ?_;omega)|(refine zD rfl rfl ?_ rfl ?_;omega)|(refine zP rfl ?_ rfl ?_;omega)|refine zG rfl rfl rfl rfl ?_|(refine jdq rfl rfl ?_ ?_ ?_;kernel_rfl;kernel_rfl)|refine zB rfl rfl rfl (by repeat constructor) rfl ?_|refine zH .here rfl rfl rfl rfl ?_|refine zH (.there .here) rfl rfl rfl rfl ?_|refine zH (.there (.there .here)) rfl rfl rfl rfl ?_|refine zH (.there (.there (.there .here))) rfl rfl rfl rfl ?_|refine zH (.there (.there (.there (.there .here)))) rfl rfl rfl rfl ?_)
        refine oN (ev_store rfl rfl .int rfl rfl (.skip (.skip (.skip (.put .nil)))) (ones_cons rfl ones_nil) (.there (.there (.there .here)))) rfl ?_
        rintro _ _ _ _ ⟨rfl, _, rfl⟩
        repeat (first|refine zJ rfl rfl ?_|refine jr rfl ?_|refine jn ?_|refine zM rfl rfl ?_|(refine zC rfl rfl ?_ rfl ?_;omega)|(refine zD rfl rfl ?_ rfl ?_;omega)|(refine zP rfl ?_ rfl ?_;omega)|refine zG rfl rfl rfl rfl ?_|(refine jdq rfl rfl ?_ ?_ ?_;kernel_rfl;kernel_rfl)|refine zB rfl rfl rfl (by repeat constructor) rfl ?_|refine zH .here rfl rfl rfl rfl ?_|refine zH (.there .here) rfl rfl rfl rfl ?_|refine zH (.there (.there .here)) rfl rfl rfl rfl ?_|refine zH (.there (.there (.there .here))) rfl rfl rfl rfl ?_|refine zH (.there (.there (.there (.there .here)))) rfl rfl rfl rfl ?_)
        have e : oneSt k n = { zSt with kind := k, at_ := n } := by unfold oneSt; rw [if_neg (by rw [hw]; simp)]
        refine oS (ev_load_agg (cs := stC { zSt with kind := k, at_ := n } nl nl nl) rfl rfl (Rdb.ofB (n := 0) (.there (.there (.there .here))) rfl) rfl) rfl ?_
        repeat (first|refine zJ rfl rfl ?_|refine jr rfl ?_|refine jn ?_|refine zM rfl rfl ?_|(refine zC rfl rfl ?_ rfl ?_;omega)|(refine zD rfl rfl ?_ rfl ?_;omega)|(refine zP rfl ?_ rfl ?_;omega)|refine zG rfl rfl rfl rfl ?_|(refine jdq rfl rfl ?_ ?_ ?_;kernel_rfl;kernel_rfl)|refine zB rfl rfl rfl (by repeat constructor) rfl ?_|refine zH .here rfl rfl rfl rfl ?_|refine zH (.there .here) rfl rfl rfl rfl ?_|refine zH (.there (.there .here)) rfl rfl rfl rfl ?_|refine zH (.there (.there (.there .here))) rfl rfl rfl rfl ?_|refine zH (.there (.there (.there (.there .here)))) rfl rfl rfl rfl ?_)
        refine oN (ev_store rfl rfl .agg rfl rfl (lay_all rfl) (by unfold stC; (repeat (first | exact ones_nil | refine ones_cons rfl ?_))) (.there (.there (.there .here)))) rfl ?_
        rintro _ _ _ _ ⟨rfl, _, rfl⟩
        repeat (first|refine zJ rfl rfl ?_|refine jr rfl ?_|refine jn ?_|refine zM rfl rfl ?_|(refine zC rfl rfl ?_ rfl ?_;omega)|(refine zD rfl rfl ?_ rfl ?_;omega)|(refine zP rfl ?_ rfl ?_;omega)|refine zG rfl rfl rfl rfl ?_|(refine jdq rfl rfl ?_ ?_ ?_;kernel_rfl;kernel_rfl)|refine zB rfl rfl rfl (by repeat constructor) rfl ?_|refine zH .here rfl rfl rfl rfl ?_|refine zH (.there .here) rfl rfl rfl rfl ?_|refine zH (.there (.there .here)) rfl rfl rfl rfl ?_|refine zH (.there (.there (.there .here))) rfl rfl rfl rfl ?_|refine zH (.there (.there (.there (.there .here)))) rfl rfl rfl rfl ?_)
        refine J_retv (vs := [.agg (stC { zSt with kind := k, at_ := n } nl nl nl).toArray, .bool true]) rfl (.agg rfl rfl (Rdb.ofB (n := 0) (.there (.there (.there .here))) rfl) rfl (.tmp rfl .nil)) [wd b v2 odd2] (fun w s => Sat.drop (Sat.drop (Sat.drop (s.perm (List.Perm.symm (List.perm_middle (l₁ := [_, _, _])))))))  (hF1.trans hF2) (.inr ⟨k, n, v2, odd2, hk, by rw [e]; rfl, hki, hn, rfl, hv2, hr2⟩)
  · obtain ⟨qk, qv⟩ := q
    obtain ⟨w, hq, hkw, hki⟩ := nm_of (hsub (qk, qv) (by simp))
    dsimp only at hq hkw hki
    subst hq
    have hsub2 : ∀ q ∈ L1 ++ L2, q ∈ nmM := fun q hq => hsub q (by rcases List.mem_append.1 hq with h | h <;> simp [h])
    unfold stC kSt
    repeat (first|refine zJ rfl rfl ?_|refine jr rfl ?_|refine jn ?_|refine zM rfl rfl ?_|(refine zC rfl rfl ?_ rfl ?_;omega)|(refine zD rfl rfl ?_ rfl ?_;omega)|(refine zP rfl ?_ rfl ?_;omega)|refine zG rfl rfl rfl rfl ?_|(refine jdq rfl rfl ?_ ?_ ?_;kernel_rfl;kernel_rfl)|refine zB rfl rfl rfl (by repeat constructor) rfl ?_|refine zH .here rfl rfl rfl rfl ?_|refine zH (.there .here) rfl rfl rfl rfl ?_|refine zH (.there (.there .here)) rfl rfl rfl rfl ?_|refine zH (.there (.there (.there .here))) rfl rfl rfl rfl ?_|refine zH (.there (.there (.there (.there .here)))) rfl rfl rfl rfl ?_)
    refine oS (ev_entry rfl hM hcm (.there .here) .here) rfl ?_
    repeat (first|refine zJ rfl rfl ?_|refine jr rfl ?_|refine jn ?_|refine zM rfl rfl ?_|(refine zC rfl rfl ?_ rfl ?_;omega)|(refine zD rfl rfl ?_ rfl ?_;omega)|(refine zP rfl ?_ rfl ?_;omega)|refine zG rfl rfl rfl rfl ?_|(refine jdq rfl rfl ?_ ?_ ?_;kernel_rfl;kernel_rfl)|refine zB rfl rfl rfl (by repeat constructor) rfl ?_|refine zH .here rfl rfl rfl rfl ?_|refine zH (.there .here) rfl rfl rfl rfl ?_|refine zH (.there (.there .here)) rfl rfl rfl rfl ?_|refine zH (.there (.there (.there .here))) rfl rfl rfl rfl ?_|refine zH (.there (.there (.there (.there .here)))) rfl rfl rfl rfl ?_)
    by_cases hnw : name = w
    · subst hnw
      refine oS (ev_seql (bs := name) (cs := name) (r := true) rfl rfl (by simp)) rfl ?_
      repeat (first|refine zJ rfl rfl ?_|refine jr rfl ?_|refine jn ?_|refine zM rfl rfl ?_|(refine zC rfl rfl ?_ rfl ?_;omega)|(refine zD rfl rfl ?_ rfl ?_;omega)|(refine zP rfl ?_ rfl ?_;omega)|refine zG rfl rfl rfl rfl ?_|(refine jdq rfl rfl ?_ ?_ ?_;kernel_rfl;kernel_rfl)|refine zB rfl rfl rfl (by repeat constructor) rfl ?_|refine zH .here rfl rfl rfl rfl ?_|refine zH (.there .here) rfl rfl rfl rfl ?_|refine zH (.there (.there .here)) rfl rfl rfl rfl ?_|refine zH (.there (.there (.there .here))) rfl rfl rfl rfl ?_|refine zH (.there (.there (.there (.there .here)))) rfl rfl rfl rfl ?_)
      refine oN (ev_store rfl rfl .int rfl rfl (.put .nil) (ones_cons rfl ones_nil) (.there (.there .here))) rfl ?_
      rintro _ _ _ _ ⟨rfl, _, rfl⟩
      repeat (first|refine zJ rfl rfl ?_|refine jr rfl ?_|refine jn ?_|refine zM rfl rfl ?_|(refine zC rfl rfl ?_ rfl ?_;omega)|(refine zD rfl rfl ?_ rfl ?_;omega)|(refine zP rfl ?_ rfl ?_;omega)|refine zG rfl rfl rfl rfl ?_|(refine jdq rfl rfl ?_ ?_ ?_;kernel_rfl;kernel_rfl)|refine zB rfl rfl rfl (by repeat constructor) rfl ?_|refine zH .here rfl rfl rfl rfl ?_|refine zH (.there .here) rfl rfl rfl rfl ?_|refine zH (.there (.there .here)) rfl rfl rfl rfl ?_|refine zH (.there (.there (.there .here))) rfl rfl rfl rfl ?_|refine zH (.there (.there (.there (.there .here)))) rfl rfl rfl rfl ?_)
      exact J_again (ι := Array Nat × List (Int × Value) × Bool × Int) (seen.push s, L1 ++ L2, true, qk) ⟨hL2, hsub2, fun _ => hkw, fun h => (by cases h)⟩ (by simp) ⟨⟨rfl, rfl, rfl, rfl, rfl, trivial⟩, fun w s => s⟩
    · refine oS (ev_seql (bs := name) (cs := w) (r := false) rfl rfl (by simpa using hnw)) rfl ?_
      repeat (first|refine zJ rfl rfl ?_|refine jr rfl ?_|refine jn ?_|refine zM rfl rfl ?_|(refine zC rfl rfl ?_ rfl ?_;omega)|(refine zD rfl rfl ?_ rfl ?_;omega)|(refine zP rfl ?_ rfl ?_;omega)|refine zG rfl rfl rfl rfl ?_|(refine jdq rfl rfl ?_ ?_ ?_;kernel_rfl;kernel_rfl)|refine zB rfl rfl rfl (by repeat constructor) rfl ?_|refine zH .here rfl rfl rfl rfl ?_|refine zH (.there .here) rfl rfl rfl rfl ?_|refine zH (.there (.there .here)) rfl rfl rfl rfl ?_|refine zH (.there (.there (.there .here))) rfl rfl rfl rfl ?_|refine zH (.there (.there (.there (.there .here)))) rfl rfl rfl rfl ?_)
      refine J_again (ι := Array Nat × List (Int × Value) × Bool × Int) (seen.push s, L1 ++ L2, ok, k) ⟨hL2, hsub2, hok, fun h => ⟨(hno h).1, fun q hq => ?_⟩⟩ (by simp) ⟨⟨rfl, rfl, rfl, rfl, rfl, trivial⟩, fun w s => s⟩
      rcases (hno h).2 q hq with h1 | h1
      · rcases List.mem_append.1 h1 with h2 | h2
        · exact .inl (List.mem_append.2 (.inl h2))
        · rcases List.mem_cons.1 h2 with rfl | h2
          · refine .inr fun e => hnw ?_
            have := Value.string.inj e
            have h3 := congrArg (fun b : ByteArray => b.toList) this
            rw [strOf_toList, strOf_toList] at h3
            exact h3.symm
          · exact .inl (List.mem_append.2 (.inr h2))
      · exact .inr h1
end Go.Proofs.YtekdmpbkcjjllaaDoor
