/-
  The census by kinds, walked. Conditions are typed with each.
  The census by kinds: the range over the counts. Conditions are typed with each.
  The census's names. Conditions are typed with each.
  The census's Most. Conditions are typed with each.
-/
import Derived.Test.YtmicjjhkoicdnaaDoorYa
import Derived.Test.YtmicjjhkoicdnaaDoorKt
namespace Go.Proofs.YtmicjjhkoicdnaaDoor
open Go.RowKit
set_option maxRecDepth 100000
section
variable {P : Program} {l : Env} {F : PH} {H : List Asrt} {d : Option Nat} {T U E : TypeId} {pos : String} {af : Array Edge} {gd : Option (Nat × Bool)} {x y : Operand} {n i size : Nat} {k : IntKind} {cs : List Value}
theorem ev_index_n (hx : opv l x = some (.agg cs.toArray)) (hy : opv l y = some (.int k (i : Int))) (ht : arrOf P T = some (n, E, size)) (hz : aggSize P E = some size) (hi : i < n) :
    Ev P ⟨d, .index T x y, U, pos, af, gd⟩ l F H (.agg ((cs.drop (i * size)).take size).toArray) := .of fun ρ hρ w _ => by
  have e1 := hρ _ _ hx; have e2 := hρ _ _ hy
  obtain ⟨hu, j, hj, hs⟩ := arrOf_info ht
  have h1 : (i : Int) < (n : Int) := by omega
  have hp := run_part_n (cs := cs) (off := i * size) hz w
  refine run_v (s := Instr.index T (ρ x) (ρ y)) ?_
  rw [e1, e2]
  simp [Instr.index, asIntOf, run_underlying hu, h1, run_sizeOf hj, hs, hp]
  intro hni; omega
theorem ev_index_1 {v : Value} {ds : TypeDesc} (hx : opv l x = some (.agg cs.toArray)) (hy : opv l y = some (.int k (i : Int))) (ht : arrOf P T = some (n, E, 1)) (hu : P.underlying E = some ds) (hds : (match ds with | .struct _ | .array _ _ => true | _ => false) = false) (hi : i < n) (hv : cs[i]? = some v) :
    Ev P ⟨d, .index T x y, U, pos, af, gd⟩ l F H v := .of fun ρ hρ w _ => by
  have e1 := hρ _ _ hx; have e2 := hρ _ _ hy
  obtain ⟨hu', j, hj, hs⟩ := arrOf_info ht
  have h1 : (i : Int) < (n : Int) := by omega
  have hp := run_part_1 (cs := cs) (off := i) (v := v) hu hds hv w
  refine run_v (s := Instr.index T (ρ x) (ρ y)) ?_
  rw [e1, e2]
  simp [Instr.index, asIntOf, run_underlying hu', h1, run_sizeOf hj, hs, hp]
  intro hni; omega
end
/-- A known kind, or 0. -/
def kindK (x : SentX) : Int := if x.kind < 1 ∨ 12 < x.kind then 0 else x.kind
theorem kindK_in (x : SentX) : 0 ≤ kindK x ∧ kindK x ≤ 12 := by unfold kindK; split <;> omega
theorem known_spec (k : Int) (F : PH) : Pure Tryd.prog 20 [.int .i64 k] F (.int .i64 (if k < 1 ∨ 12 < k then 0 else k)) := by
  refine Spec.of1 Tryd.func20 rfl rfl fun X w0 => ?_
  by_cases h1 : k < 1
  · rw [if_pos (.inl h1)]
    repeat (first|refine zJ rfl rfl ?_|refine jr rfl ?_|refine jn ?_|refine zM rfl rfl ?_|(refine zC rfl rfl ?_ rfl ?_;omega)|(refine zD rfl rfl ?_ rfl ?_;omega)|(refine zP rfl ?_ rfl ?_;omega)|refine zG rfl rfl rfl rfl ?_|(refine jdq rfl rfl ?_ ?_ ?_;kernel_rfl;kernel_rfl)|refine zB rfl rfl rfl (by repeat constructor) rfl ?_|refine zH .here rfl rfl rfl rfl ?_|refine zH (.there .here) rfl rfl rfl rfl ?_|refine zH (.there (.there .here)) rfl rfl rfl rfl ?_|refine zH (.there (.there (.there .here))) rfl rfl rfl rfl ?_|refine zH (.there (.there (.there (.there .here)))) rfl rfl rfl rfl ?_)
    exact J_ret1 rfl rfl [] rfl (PH.ler _) ⟨rfl, rfl⟩
  · by_cases h2 : 12 < k
    · rw [if_pos (.inr h2)]
      repeat (first|refine zJ rfl rfl ?_|refine jr rfl ?_|refine jn ?_|refine zM rfl rfl ?_|(refine zC rfl rfl ?_ rfl ?_;omega)|(refine zD rfl rfl ?_ rfl ?_;omega)|(refine zP rfl ?_ rfl ?_;omega)|refine zG rfl rfl rfl rfl ?_|(refine jdq rfl rfl ?_ ?_ ?_;kernel_rfl;kernel_rfl)|refine zB rfl rfl rfl (by repeat constructor) rfl ?_|refine zH .here rfl rfl rfl rfl ?_|refine zH (.there .here) rfl rfl rfl rfl ?_|refine zH (.there (.there .here)) rfl rfl rfl rfl ?_|refine zH (.there (.there (.there .here))) rfl rfl rfl rfl ?_|refine zH (.there (.there (.there (.there .here)))) rfl rfl rfl rfl ?_)
      exact J_ret1 rfl rfl [] rfl (PH.ler _) ⟨rfl, rfl⟩
    · rw [if_neg (by omega)]
      repeat (first|refine zJ rfl rfl ?_|refine jr rfl ?_|refine jn ?_|refine zM rfl rfl ?_|(refine zC rfl rfl ?_ rfl ?_;omega)|(refine zD rfl rfl ?_ rfl ?_;omega)|(refine zP rfl ?_ rfl ?_;omega)|refine zG rfl rfl rfl rfl ?_|(refine jdq rfl rfl ?_ ?_ ?_;kernel_rfl;kernel_rfl)|refine zB rfl rfl rfl (by repeat constructor) rfl ?_|refine zH .here rfl rfl rfl rfl ?_|refine zH (.there .here) rfl rfl rfl rfl ?_|refine zH (.there (.there .here)) rfl rfl rfl rfl ?_|refine zH (.there (.there (.there .here))) rfl rfl rfl rfl ?_|refine zH (.there (.there (.there (.there .here)))) rfl rfl rfl rfl ?_)
      exact J_ret1 rfl rfl [] rfl (PH.ler _) ⟨rfl, rfl⟩
theorem keyKind_spec (x : SentX) (row : List Value) (G : PH) (h : SentOk G x row) : Pure Tryd.prog 24 [.agg row.toArray] G (keyI.val (kindK x)) := by
  have hones := h.ones
  obtain ⟨vb, vt, rfl, hb, ht, _⟩ := h
  unfold sentC at hones ⊢
  refine Spec.of1 Tryd.func24 rfl rfl fun X w0 => ?_
  repeat (first|refine zJ rfl rfl ?_|refine jr rfl ?_|refine jn ?_|refine zM rfl rfl ?_|(refine zC rfl rfl ?_ rfl ?_;omega)|(refine zD rfl rfl ?_ rfl ?_;omega)|(refine zP rfl ?_ rfl ?_;omega)|refine zG rfl rfl rfl rfl ?_|(refine jdq rfl rfl ?_ ?_ ?_;kernel_rfl;kernel_rfl)|refine zB rfl rfl rfl (by repeat constructor) rfl ?_|refine zH .here rfl rfl rfl rfl ?_|refine zH (.there .here) rfl rfl rfl rfl ?_|refine zH (.there (.there .here)) rfl rfl rfl rfl ?_|refine zH (.there (.there (.there .here))) rfl rfl rfl rfl ?_|refine zH (.there (.there (.there (.there .here)))) rfl rfl rfl rfl ?_)
  refine oE (ev_box rfl .agg) rfl ?_; rintro _ _ _ _ ⟨rfl, b1, rfl, rfl⟩
  repeat (first|refine zJ rfl rfl ?_|refine jr rfl ?_|refine jn ?_|refine zM rfl rfl ?_|(refine zC rfl rfl ?_ rfl ?_;omega)|(refine zD rfl rfl ?_ rfl ?_;omega)|(refine zP rfl ?_ rfl ?_;omega)|refine zG rfl rfl rfl rfl ?_|(refine jdq rfl rfl ?_ ?_ ?_;kernel_rfl;kernel_rfl)|refine zB rfl rfl rfl (by repeat constructor) rfl ?_|refine zH .here rfl rfl rfl rfl ?_|refine zH (.there .here) rfl rfl rfl rfl ?_|refine zH (.there (.there .here)) rfl rfl rfl rfl ?_|refine zH (.there (.there (.there .here))) rfl rfl rfl rfl ?_|refine zH (.there (.there (.there (.there .here)))) rfl rfl rfl rfl ?_)
  refine oP (known_spec x.kind G) Tryd.call20 rfl rfl ?_
  repeat (first|refine zJ rfl rfl ?_|refine jr rfl ?_|refine jn ?_|refine zM rfl rfl ?_|(refine zC rfl rfl ?_ rfl ?_;omega)|(refine zD rfl rfl ?_ rfl ?_;omega)|(refine zP rfl ?_ rfl ?_;omega)|refine zG rfl rfl rfl rfl ?_|(refine jdq rfl rfl ?_ ?_ ?_;kernel_rfl;kernel_rfl)|refine zB rfl rfl rfl (by repeat constructor) rfl ?_|refine zH .here rfl rfl rfl rfl ?_|refine zH (.there .here) rfl rfl rfl rfl ?_|refine zH (.there (.there .here)) rfl rfl rfl rfl ?_|refine zH (.there (.there (.there .here))) rfl rfl rfl rfl ?_|refine zH (.there (.there (.there (.there .here)))) rfl rfl rfl rfl ?_)
  exact J_retv rfl (.tmp rfl .nil) [] (fun w s => s.drop) (PH.ler _) ⟨rfl, rfl⟩
/-! the thirteen counts -/
def cvC (p : Nat × Nat) : List Value := [.int .i64 p.1, .int .i64 p.2]
theorem cvC_len (p : Nat × Nat) : (cvC p).length = 2 := rfl
def kTot (xs : List SentX) (k : Nat) : Nat × Nat := tot (at_ kindK (k : Int)) xs
/-- What stands while L is still to come. -/
def soFar (xs : List SentX) (L : List (Int × Value)) : List (Nat × Nat) := (List.range 13).map fun k : Nat => if (k : Int) ∈ L.map (·.1) then (0, 0) else kTot xs k
def byK (xs : List SentX) : List (Nat × Nat) := (List.range 13).map (kTot xs)
theorem cntM_keys (key : SentX → Int) (xs : List SentX) : ∀ n, ∀ p ∈ cntM key xs n, ∃ x, p.1 = key x
  | 0, _, h => by cases h
  | n + 1, p, h => by
    have ih := cntM_keys key xs n
    change p ∈ (match xs[n]? with | none => cntM key xs n | some x => setK (cntM key xs n) (key x) (cv (tot (at_ key (key x)) (xs.take (n + 1))))) at h
    cases hx : xs[n]? with
    | none => rw [hx] at h; exact ih p h
    | some x =>
      rw [hx] at h
      dsimp only at h
      have hm : p.1 ∈ (setK (cntM key xs n) (key x) (cv (tot (at_ key (key x)) (xs.take (n + 1))))).map (·.1) := List.mem_map.2 ⟨p, h, rfl⟩
      rw [setK_keys] at hm
      split at hm
      · obtain ⟨q, hq, e⟩ := List.mem_map.1 hm
        obtain ⟨y, hy⟩ := ih q hq
        exact ⟨y, by rw [← e, hy]⟩
      · rw [List.mem_append] at hm
        rcases hm with hm | hm
        · obtain ⟨q, hq, e⟩ := List.mem_map.1 hm
          obtain ⟨y, hy⟩ := ih q hq
          exact ⟨y, by rw [← e, hy]⟩
        · exact ⟨x, by simpa using hm⟩
theorem soFar_start (xs : List SentX) : soFar xs (cntM kindK xs xs.length) = List.replicate 13 (0, 0) := by
  unfold soFar
  apply List.ext_getElem (by simp)
  intro k hk _
  simp only [List.getElem_map, List.getElem_range, List.getElem_replicate]
  split
  · rfl
  · rename_i h
    have h1 := getK_none h
    rw [cntM_get kindK xs k xs.length (Nat.le_refl _), List.take_length] at h1
    unfold kTot
    split at h1
    · rename_i h0; exact tot_zero h0
    · cases h1
theorem soFar_end (xs : List SentX) : soFar xs [] = byK xs := by
  unfold soFar byK
  exact List.map_congr_left fun k _ => by rw [if_neg (by simp)]
theorem soFar_step {xs : List SentX} {L1 L2 : List (Int × Value)} {q : Int × Value} (hn : ((L1 ++ q :: L2).map (·.1)).Nodup) {k : Nat} (hk : q.1 = (k : Int)) :
    (soFar xs (L1 ++ q :: L2)).set k (kTot xs k) = soFar xs (L1 ++ L2) := by
  unfold soFar
  apply List.ext_getElem (by simp)
  intro j hj _
  simp only [List.getElem_set, List.getElem_map, List.getElem_range]
  rw [List.map_append, List.map_cons, List.nodup_append] at hn
  obtain ⟨h1, h2, h3⟩ := hn
  have h2' := List.nodup_cons.1 h2
  by_cases hjk : k = j
  · subst hjk
    rw [if_pos rfl, if_neg]
    rw [List.map_append, List.mem_append, ← hk]
    rintro (h | h)
    · exact h3 _ h _ (by simp) rfl
    · exact h2'.1 h
  · rw [if_neg hjk]
    have hne : ¬ (j : Int) = q.1 := by omega
    simp only [List.map_append, List.map_cons, List.mem_append, List.mem_cons, hne, false_or]
end Go.Proofs.YtmicjjhkoicdnaaDoor
namespace Go.Proofs.YtmicjjhkoicdnaaDoor
open Go.RowKit
set_option maxRecDepth 100000
theorem byK_entry {xs : List SentX} {p : Int × Value} (hp : p ∈ cntM kindK xs xs.length) : ∃ k : Nat, k < 13 ∧ p.1 = (k : Int) ∧ p.2 = cv (kTot xs k) := by
  obtain ⟨x, hx⟩ := cntM_keys kindK xs xs.length p hp
  have hin := kindK_in x
  refine ⟨p.1.toNat, by omega, by omega, ?_⟩
  have h1 := getK_mem (cntM_nodup kindK xs xs.length) hp
  rw [cntM_get kindK xs p.1 xs.length (Nat.le_refl _), List.take_length] at h1
  split at h1
  · cases h1
  · have e : ((p.1.toNat : Nat) : Int) = p.1 := by omega
    unfold kTot
    rw [e]
    exact (Option.some.inj h1).symm
theorem ones_cvC (p : Nat × Nat) : Ones (cvC p) := by unfold cvC; (repeat (first | exact ones_nil | refine ones_cons rfl ?_))
theorem ones_rowC {α : Type} {cs : α → List Value} (h : ∀ x, Ones (cs x)) : ∀ L : List α, Ones (rowC cs L)
  | [] => ones_nil
  | x :: L => by
    have : rowC cs (x :: L) = cs x ++ rowC cs L := by simp [rowC]
    rw [this]
    exact ones_append (h x) (ones_rowC h L)
set_option maxHeartbeats 8000000 in
theorem byKind_spec (pc : Value) (HC : List Asrt) (xs : List SentX) (F : PH) (hC : Crw F pc HC xs) :
    Spec Tryd.prog 13 [pc] F HC fun u _ H' => u = .agg (rowC cvC (byK xs)).toArray ∧ H' = HC := by
  refine Spec.of1 Tryd.func13 rfl rfl fun X w0 => ?_
  repeat (first|refine zJ rfl rfl ?_|refine jr rfl ?_|refine jn ?_|refine zM rfl rfl ?_|(refine zC rfl rfl ?_ rfl ?_;omega)|(refine zD rfl rfl ?_ rfl ?_;omega)|(refine zP rfl ?_ rfl ?_;omega)|refine zG rfl rfl rfl rfl ?_|(refine jdq rfl rfl ?_ ?_ ?_;kernel_rfl;kernel_rfl)|refine zB rfl rfl rfl (by repeat constructor) rfl ?_|refine zH .here rfl rfl rfl rfl ?_|refine zH (.there .here) rfl rfl rfl rfl ?_|refine zH (.there (.there .here)) rfl rfl rfl rfl ?_|refine zH (.there (.there (.there .here))) rfl rfl rfl rfl ?_|refine zH (.there (.there (.there (.there .here)))) rfl rfl rfl rfl ?_)
  refine oE (ev_alloc rfl) rfl ?_
  rintro _ _ _ _ ⟨rfl, b2, rfl, rfl⟩
  repeat (first|refine zJ rfl rfl ?_|refine jr rfl ?_|refine jn ?_|refine zM rfl rfl ?_|(refine zC rfl rfl ?_ rfl ?_;omega)|(refine zD rfl rfl ?_ rfl ?_;omega)|(refine zP rfl ?_ rfl ?_;omega)|refine zG rfl rfl rfl rfl ?_|(refine jdq rfl rfl ?_ ?_ ?_;kernel_rfl;kernel_rfl)|refine zB rfl rfl rfl (by repeat constructor) rfl ?_|refine zH .here rfl rfl rfl rfl ?_|refine zH (.there .here) rfl rfl rfl rfl ?_|refine zH (.there (.there .here)) rfl rfl rfl rfl ?_|refine zH (.there (.there (.there .here))) rfl rfl rfl rfl ?_|refine zH (.there (.there (.there (.there .here)))) rfl rfl rfl rfl ?_)
  refine oE (ev_alloc rfl) rfl ?_
  rintro _ _ _ _ ⟨rfl, b3, rfl, rfl⟩
  repeat (first|refine zJ rfl rfl ?_|refine jr rfl ?_|refine jn ?_|refine zM rfl rfl ?_|(refine zC rfl rfl ?_ rfl ?_;omega)|(refine zD rfl rfl ?_ rfl ?_;omega)|(refine zP rfl ?_ rfl ?_;omega)|refine zG rfl rfl rfl rfl ?_|(refine jdq rfl rfl ?_ ?_ ?_;kernel_rfl;kernel_rfl)|refine zB rfl rfl rfl (by repeat constructor) rfl ?_|refine zH .here rfl rfl rfl rfl ?_|refine zH (.there .here) rfl rfl rfl rfl ?_|refine zH (.there (.there .here)) rfl rfl rfl rfl ?_|refine zH (.there (.there (.there .here))) rfl rfl rfl rfl ?_|refine zH (.there (.there (.there (.there .here)))) rfl rfl rfl rfl ?_)
  refine oC (Hc := HC) (Hr := blk b3 41 (List.replicate 26 (.int .i64 0)) :: blk b2 41 (List.replicate 26 (.int .i64 0)) :: X) (countI_spec pc HC xs 24 kindK F hC Tryd.call24 (fun x row G h => keyKind_spec x row G h)) Tryd.call23 rfl rfl (fun _ s => Sat.front (A := [_, _]) s) ?_
  rintro _ F1 _ hF1 ⟨bm, rfl, rfl⟩
  refine oE (ev_range (K := keyI) rfl rfl .here) rfl ?_
  rintro _ _ _ _ ⟨rfl, r, es, clock, rfl, hM, hL, rfl⟩
  repeat (first|refine zJ rfl rfl ?_|refine jr rfl ?_|refine jn ?_|refine zM rfl rfl ?_|(refine zC rfl rfl ?_ rfl ?_;omega)|(refine zD rfl rfl ?_ rfl ?_;omega)|(refine zP rfl ?_ rfl ?_;omega)|refine zG rfl rfl rfl rfl ?_|(refine jdq rfl rfl ?_ ?_ ?_;kernel_rfl;kernel_rfl)|refine zB rfl rfl rfl (by repeat constructor) rfl ?_|refine zH .here rfl rfl rfl rfl ?_|refine zH (.there .here) rfl rfl rfl rfl ?_|refine zH (.there (.there .here)) rfl rfl rfl rfl ?_|refine zH (.there (.there (.there .here))) rfl rfl rfl rfl ?_|refine zH (.there (.there (.there (.there .here)))) rfl rfl rfl rfl ?_)
  refine J_loop (ι := Array Nat × List (Int × Value)) (fun p => ToCome keyI es p.1 p.2 ∧ (∀ q ∈ p.2, q ∈ cntM kindK xs xs.length) ∧ (p.2.map fun q => q.1).Nodup) (fun p => p.2.length) (fun _ => [(0, pc), (2, .pointer (some ⟨b2, 0, none⟩)), (3, .pointer (some ⟨b3, 0, none⟩)), (8, .pointer (some ⟨r, 0, none⟩))]) (fun _ => F)
    (fun p => itr r bm clock p.1 :: ob bm (.map es clock) :: blk b3 41 (rowC cvC (soFar xs p.2)) :: blk b2 41 (List.replicate 26 (.int .i64 0)) :: (HC ++ X)) (#[], cntM kindK xs xs.length) ⟨hL, fun _ h => h, cntM_nodup _ _ _⟩ ⟨⟨rfl, rfl, rfl, rfl, trivial⟩, fun w s => ?_⟩ ?_
  · dsimp only
    rw [soFar_start]
    refine (s.mono hF1).perm (.cons _ (.cons _ ?_))
    exact List.perm_append_comm_assoc HC [_, _] X
  rintro ⟨seen, L⟩ ⟨hL, hsub, hnd⟩
  dsimp only at *
  repeat (first|refine zJ rfl rfl ?_|refine jr rfl ?_|refine jn ?_|refine zM rfl rfl ?_|(refine zC rfl rfl ?_ rfl ?_;omega)|(refine zD rfl rfl ?_ rfl ?_;omega)|(refine zP rfl ?_ rfl ?_;omega)|refine zG rfl rfl rfl rfl ?_|(refine jdq rfl rfl ?_ ?_ ?_;kernel_rfl;kernel_rfl)|refine zB rfl rfl rfl (by repeat constructor) rfl ?_|refine zH .here rfl rfl rfl rfl ?_|refine zH (.there .here) rfl rfl rfl rfl ?_|refine zH (.there (.there .here)) rfl rfl rfl rfl ?_|refine zH (.there (.there (.there .here))) rfl rfl rfl rfl ?_|refine zH (.there (.there (.there (.there .here)))) rfl rfl rfl rfl ?_)
  refine oE (ev_next rfl hM hL (.there .here) (fun _ => .here)) rfl ?_
  rintro _ _ _ _ ⟨rfl, ⟨rfl, rfl, rfl⟩ | ⟨q, L1, L2, s, rfl, rfl, hL2, hcm, rfl⟩⟩
  · rw [soFar_end]
    have hlen : (byK xs).length = 13 := by simp [byK]
    have hrl : (rowC cvC (byK xs)).length = 26 := by rw [rowC_len cvC_len, hlen]
    have hro : Ones (rowC cvC (byK xs)) := ones_rowC ones_cvC _
    repeat (first|refine zJ rfl rfl ?_|refine jr rfl ?_|refine jn ?_|refine zM rfl rfl ?_|(refine zC rfl rfl ?_ rfl ?_;omega)|(refine zD rfl rfl ?_ rfl ?_;omega)|(refine zP rfl ?_ rfl ?_;omega)|refine zG rfl rfl rfl rfl ?_|(refine jdq rfl rfl ?_ ?_ ?_;kernel_rfl;kernel_rfl)|refine zB rfl rfl rfl (by repeat constructor) rfl ?_|refine zH .here rfl rfl rfl rfl ?_|refine zH (.there .here) rfl rfl rfl rfl ?_|refine zH (.there (.there .here)) rfl rfl rfl rfl ?_|refine zH (.there (.there (.there .here))) rfl rfl rfl rfl ?_|refine zH (.there (.there (.there (.there .here)))) rfl rfl rfl rfl ?_)
    refine oS (ev_load_agg (cs := rowC cvC (byK xs)) rfl rfl (Rdb.ofB (n := 0) (.there (.there .here)) (by rw [List.drop_zero, List.take_length])) hrl) rfl ?_
    refine oN (ev_store rfl rfl .agg rfl hrl (lay_all (zs := List.replicate 26 (.int .i64 0)) (by rw [hrl]; rfl)) hro (.there (.there (.there .here)))) rfl ?_
    rintro _ _ _ _ ⟨rfl, _, rfl⟩
    repeat (first|refine zJ rfl rfl ?_|refine jr rfl ?_|refine jn ?_|refine zM rfl rfl ?_|(refine zC rfl rfl ?_ rfl ?_;omega)|(refine zD rfl rfl ?_ rfl ?_;omega)|(refine zP rfl ?_ rfl ?_;omega)|refine zG rfl rfl rfl rfl ?_|(refine jdq rfl rfl ?_ ?_ ?_;kernel_rfl;kernel_rfl)|refine zB rfl rfl rfl (by repeat constructor) rfl ?_|refine zH .here rfl rfl rfl rfl ?_|refine zH (.there .here) rfl rfl rfl rfl ?_|refine zH (.there (.there .here)) rfl rfl rfl rfl ?_|refine zH (.there (.there (.there .here))) rfl rfl rfl rfl ?_|refine zH (.there (.there (.there (.there .here)))) rfl rfl rfl rfl ?_)
    exact J_retv (vs := [.agg (rowC cvC (byK xs)).toArray]) rfl (.agg rfl rfl (Rdb.ofB (n := 0) (.there (.there (.there .here))) (by rw [List.drop_zero, List.take_length])) hrl .nil) HC (fun w s => s.drop.drop.drop.drop) (PH.ler _) ⟨rfl, rfl⟩
  · obtain ⟨k, hk, hq1, hq2⟩ := byK_entry (hsub q (by simp))
    obtain ⟨qk, qv⟩ := q
    dsimp only at hq1 hq2
    subst hq1 hq2
    have hstep := soFar_step (xs := xs) (k := k) hnd rfl
    have hlen : (soFar xs (L1 ++ ((k : Int), cv (kTot xs k)) :: L2)).length = 13 := by simp [soFar]
    have hlay := lay_row cvC_len (kTot xs k) (soFar xs (L1 ++ ((k : Int), cv (kTot xs k)) :: L2)) k (by rw [hlen]; exact hk)
    rw [hstep] at hlay
    generalize rowC cvC (soFar xs (L1 ++ ((k : Int), cv (kTot xs k)) :: L2)) = R at *
    repeat (first|refine zJ rfl rfl ?_|refine jr rfl ?_|refine jn ?_|refine zM rfl rfl ?_|(refine zC rfl rfl ?_ rfl ?_;omega)|(refine zD rfl rfl ?_ rfl ?_;omega)|(refine zP rfl ?_ rfl ?_;omega)|refine zG rfl rfl rfl rfl ?_|(refine jdq rfl rfl ?_ ?_ ?_;kernel_rfl;kernel_rfl)|refine zB rfl rfl rfl (by repeat constructor) rfl ?_|refine zH .here rfl rfl rfl rfl ?_|refine zH (.there .here) rfl rfl rfl rfl ?_|refine zH (.there (.there .here)) rfl rfl rfl rfl ?_|refine zH (.there (.there (.there .here))) rfl rfl rfl rfl ?_|refine zH (.there (.there (.there (.there .here)))) rfl rfl rfl rfl ?_)
    refine oS (ev_entry rfl hM hcm (.there .here) .here) rfl ?_
    repeat (first|refine zJ rfl rfl ?_|refine jr rfl ?_|refine jn ?_|refine zM rfl rfl ?_|(refine zC rfl rfl ?_ rfl ?_;omega)|(refine zD rfl rfl ?_ rfl ?_;omega)|(refine zP rfl ?_ rfl ?_;omega)|refine zG rfl rfl rfl rfl ?_|(refine jdq rfl rfl ?_ ?_ ?_;kernel_rfl;kernel_rfl)|refine zB rfl rfl rfl (by repeat constructor) rfl ?_|refine zH .here rfl rfl rfl rfl ?_|refine zH (.there .here) rfl rfl rfl rfl ?_|refine zH (.there (.there .here)) rfl rfl rfl rfl ?_|refine zH (.there (.there (.there .here))) rfl rfl rfl rfl ?_|refine zH (.there (.there (.there (.there .here)))) rfl rfl rfl rfl ?_)
    refine oE (ev_alloc rfl) rfl ?_
    rintro _ _ _ _ ⟨rfl, b5, rfl, rfl⟩
    repeat (first|refine zJ rfl rfl ?_|refine jr rfl ?_|refine jn ?_|refine zM rfl rfl ?_|(refine zC rfl rfl ?_ rfl ?_;omega)|(refine zD rfl rfl ?_ rfl ?_;omega)|(refine zP rfl ?_ rfl ?_;omega)|refine zG rfl rfl rfl rfl ?_|(refine jdq rfl rfl ?_ ?_ ?_;kernel_rfl;kernel_rfl)|refine zB rfl rfl rfl (by repeat constructor) rfl ?_|refine zH .here rfl rfl rfl rfl ?_|refine zH (.there .here) rfl rfl rfl rfl ?_|refine zH (.there (.there .here)) rfl rfl rfl rfl ?_|refine zH (.there (.there (.there .here))) rfl rfl rfl rfl ?_|refine zH (.there (.there (.there (.there .here)))) rfl rfl rfl rfl ?_)
    refine oN (ev_store (vs := cvC (kTot xs k)) rfl rfl .agg rfl rfl (lay_all (zs := [.int .i64 0, .int .i64 0]) rfl) (ones_cvC _) .here) rfl ?_
    rintro _ _ _ _ ⟨rfl, _, rfl⟩
    repeat (first|refine zJ rfl rfl ?_|refine jr rfl ?_|refine jn ?_|refine zM rfl rfl ?_|(refine zC rfl rfl ?_ rfl ?_;omega)|(refine zD rfl rfl ?_ rfl ?_;omega)|(refine zP rfl ?_ rfl ?_;omega)|refine zG rfl rfl rfl rfl ?_|(refine jdq rfl rfl ?_ ?_ ?_;kernel_rfl;kernel_rfl)|refine zB rfl rfl rfl (by repeat constructor) rfl ?_|refine zH .here rfl rfl rfl rfl ?_|refine zH (.there .here) rfl rfl rfl rfl ?_|refine zH (.there (.there .here)) rfl rfl rfl rfl ?_|refine zH (.there (.there (.there .here))) rfl rfl rfl rfl ?_|refine zH (.there (.there (.there (.there .here)))) rfl rfl rfl rfl ?_)
    refine oS (ev_load_agg (cs := cvC (kTot xs k)) rfl rfl (Rdb.ofB (n := 0) .here rfl) rfl) rfl ?_
    refine oS (ev_indexAddr_arr (i := k) rfl rfl rfl hk) rfl ?_
    refine oN (ev_store (vs := cvC (kTot xs k)) (s := rowC cvC (soFar xs (L1 ++ L2))) rfl rfl .agg rfl rfl (by rw [Nat.zero_add]; exact hlay) (ones_cvC _) (.there (.there (.there .here)))) rfl ?_
    rintro _ _ _ _ ⟨rfl, _, rfl⟩
    repeat (first|refine zJ rfl rfl ?_|refine jr rfl ?_|refine jn ?_|refine zM rfl rfl ?_|(refine zC rfl rfl ?_ rfl ?_;omega)|(refine zD rfl rfl ?_ rfl ?_;omega)|(refine zP rfl ?_ rfl ?_;omega)|refine zG rfl rfl rfl rfl ?_|(refine jdq rfl rfl ?_ ?_ ?_;kernel_rfl;kernel_rfl)|refine zB rfl rfl rfl (by repeat constructor) rfl ?_|refine zH .here rfl rfl rfl rfl ?_|refine zH (.there .here) rfl rfl rfl rfl ?_|refine zH (.there (.there .here)) rfl rfl rfl rfl ?_|refine zH (.there (.there (.there .here))) rfl rfl rfl rfl ?_|refine zH (.there (.there (.there (.there .here)))) rfl rfl rfl rfl ?_)
    refine J_again (seen.push s, L1 ++ L2) ⟨hL2, fun p hp => hsub p (by rcases List.mem_append.1 hp with h | h; exact List.mem_append.2 (.inl h); exact List.mem_append.2 (.inr (List.mem_cons_of_mem _ h))), hnd.sublist (((List.Sublist.refl L1).append (List.sublist_cons_self _ L2)).map _)⟩ (by simp) ⟨⟨rfl, rfl, rfl, rfl, trivial⟩, fun w s => s.drop⟩
end Go.Proofs.YtmicjjhkoicdnaaDoor
namespace Go.Proofs.YtmicjjhkoicdnaaDoor
open Go.RowKit
set_option maxRecDepth 100000
theorem ev_buildArr {P : Program} {l : Env} {F : PH} {H : List Asrt} {d : Option Nat} {T U E : TypeId} {pos : String} {af : Array Edge} {g : Option (Nat × Bool)} {n size : Nat} {ps : List (Nat × Operand)} {vs : List (Nat × Value)} {zs t : List Value} (hp : partvs l ps = some vs) (ht : arrOf P T = some (n, E, size)) (hz : zeroCs P T = some zs) (hf : FillS size vs zs t) :
    Ev P ⟨d, .build T ps.toArray, U, pos, af, g⟩ l F H (.agg t.toArray) := .of fun ρ hρ w _ => by
  obtain ⟨i', zv, hi', hz', hc⟩ := zeroCs_info hz
  obtain ⟨hu, i, hi, hs⟩ := arrOf_info ht
  have hpv := partvs_eq hρ hp
  have e2 : ps.toArray.map (fun (p : Nat × Operand) => (p.1, ρ p.2)) = vs.toArray := by rw [← hpv]; simp
  have hzv : (zeroValue T).run P w = .ok zv w := by simp [zeroValue, typeInfo, hi', hz', go_sem]
  have hfill := fillS_run hf
  refine run_v (s := Instr.build T _) ?_
  rw [e2]
  unfold Instr.build
  simp [hzv, run_underlying hu, run_sizeOf hi, hs, hc, hfill]
/-- The kinds' names; that of 0 is empty. -/
def nmL : List (List UInt8) := [[], [114, 101, 113, 117, 101, 115, 116], [118, 111, 117, 99, 104], [112, 114, 111, 112, 111, 115, 101], [112, 114, 101, 112, 97, 114, 101], [99, 111, 109, 109, 105, 116], [99, 104, 101, 99, 107, 112, 111, 105, 110, 116], [99, 104, 97, 110, 103, 101], [97, 99, 107], [110, 101, 119, 118, 105, 101, 119], [102, 101, 116, 99, 104], [115, 116, 97, 116, 101], [114, 101, 112, 108, 121]]
def strC (L : List (List UInt8)) : List Value := L.map fun s => .string (strOf s)
def nmOf (k : Int) : List UInt8 := if k < 1 ∨ 12 < k then [63] else (nmL[k.toNat]?).getD []
theorem ones_strC (L : List (List UInt8)) : Ones (strC L) := by
  induction L with
  | nil => exact ones_nil
  | cons x L ih => exact ones_cons rfl ih
theorem names_spec (F : PH) : Pure Tryd.prog 21 [] F (.agg (strC nmL).toArray) := by
  refine Spec.of0 Tryd.func21 rfl fun X w0 => ?_
  repeat (first|refine zJ rfl rfl ?_|refine jr rfl ?_|refine jn ?_|refine zM rfl rfl ?_|(refine zC rfl rfl ?_ rfl ?_;omega)|(refine zD rfl rfl ?_ rfl ?_;omega)|(refine zP rfl ?_ rfl ?_;omega)|refine zG rfl rfl rfl rfl ?_|(refine jdq rfl rfl ?_ ?_ ?_;kernel_rfl;kernel_rfl)|refine zB rfl rfl rfl (by repeat constructor) rfl ?_|refine zH .here rfl rfl rfl rfl ?_|refine zH (.there .here) rfl rfl rfl rfl ?_|refine zH (.there (.there .here)) rfl rfl rfl rfl ?_|refine zH (.there (.there (.there .here))) rfl rfl rfl rfl ?_|refine zH (.there (.there (.there (.there .here)))) rfl rfl rfl rfl ?_)
  refine oE (ev_alloc rfl) rfl ?_
  rintro _ _ _ _ ⟨rfl, b0, rfl, rfl⟩
  repeat (first|refine zJ rfl rfl ?_|refine jr rfl ?_|refine jn ?_|refine zM rfl rfl ?_|(refine zC rfl rfl ?_ rfl ?_;omega)|(refine zD rfl rfl ?_ rfl ?_;omega)|(refine zP rfl ?_ rfl ?_;omega)|refine zG rfl rfl rfl rfl ?_|(refine jdq rfl rfl ?_ ?_ ?_;kernel_rfl;kernel_rfl)|refine zB rfl rfl rfl (by repeat constructor) rfl ?_|refine zH .here rfl rfl rfl rfl ?_|refine zH (.there .here) rfl rfl rfl rfl ?_|refine zH (.there (.there .here)) rfl rfl rfl rfl ?_|refine zH (.there (.there (.there .here))) rfl rfl rfl rfl ?_|refine zH (.there (.there (.there (.there .here)))) rfl rfl rfl rfl ?_)
  refine oS (ev_buildArr (t := strC nmL) rfl rfl rfl ?_) rfl ?_
  · repeat (first | exact FillS.nil | refine FillS.cons (by constructor) rfl (by repeat constructor) ?_)
  refine oN (ev_store (vs := strC nmL) (s := strC nmL) rfl rfl .agg rfl rfl (lay_all (zs := List.replicate 13 (.string (strOf []))) rfl) (ones_strC _) .here) rfl ?_
  rintro _ _ _ _ ⟨rfl, _, rfl⟩
  repeat (first|refine zJ rfl rfl ?_|refine jr rfl ?_|refine jn ?_|refine zM rfl rfl ?_|(refine zC rfl rfl ?_ rfl ?_;omega)|(refine zD rfl rfl ?_ rfl ?_;omega)|(refine zP rfl ?_ rfl ?_;omega)|refine zG rfl rfl rfl rfl ?_|(refine jdq rfl rfl ?_ ?_ ?_;kernel_rfl;kernel_rfl)|refine zB rfl rfl rfl (by repeat constructor) rfl ?_|refine zH .here rfl rfl rfl rfl ?_|refine zH (.there .here) rfl rfl rfl rfl ?_|refine zH (.there (.there .here)) rfl rfl rfl rfl ?_|refine zH (.there (.there (.there .here))) rfl rfl rfl rfl ?_|refine zH (.there (.there (.there (.there .here)))) rfl rfl rfl rfl ?_)
  exact J_retv (vs := [.agg (strC nmL).toArray]) rfl (.agg (cs := strC nmL) rfl rfl (Rdb.ofB (n := 0) .here rfl) rfl .nil) [] (fun w s => s.drop) (PH.ler _) ⟨rfl, rfl⟩
theorem Name_spec (k : Int) (F : PH) : Pure Tryd.prog 7 [.int .i64 k] F (.string (strOf (nmOf k))) := by
  refine Spec.of1 Tryd.func7 rfl rfl fun X w0 => ?_
  repeat (first|refine zJ rfl rfl ?_|refine jr rfl ?_|refine jn ?_|refine zM rfl rfl ?_|(refine zC rfl rfl ?_ rfl ?_;omega)|(refine zD rfl rfl ?_ rfl ?_;omega)|(refine zP rfl ?_ rfl ?_;omega)|refine zG rfl rfl rfl rfl ?_|(refine jdq rfl rfl ?_ ?_ ?_;kernel_rfl;kernel_rfl)|refine zB rfl rfl rfl (by repeat constructor) rfl ?_|refine zH .here rfl rfl rfl rfl ?_|refine zH (.there .here) rfl rfl rfl rfl ?_|refine zH (.there (.there .here)) rfl rfl rfl rfl ?_|refine zH (.there (.there (.there .here))) rfl rfl rfl rfl ?_|refine zH (.there (.there (.there (.there .here)))) rfl rfl rfl rfl ?_)
  refine oP (known_spec k F) Tryd.call20 rfl rfl ?_
  by_cases h : k < 1 ∨ 12 < k
  · have e : nmOf k = [63] := by unfold nmOf; rw [if_pos h]
    rw [e, if_pos h]
    repeat (first|refine zJ rfl rfl ?_|refine jr rfl ?_|refine jn ?_|refine zM rfl rfl ?_|(refine zC rfl rfl ?_ rfl ?_;omega)|(refine zD rfl rfl ?_ rfl ?_;omega)|(refine zP rfl ?_ rfl ?_;omega)|refine zG rfl rfl rfl rfl ?_|(refine jdq rfl rfl ?_ ?_ ?_;kernel_rfl;kernel_rfl)|refine zB rfl rfl rfl (by repeat constructor) rfl ?_|refine zH .here rfl rfl rfl rfl ?_|refine zH (.there .here) rfl rfl rfl rfl ?_|refine zH (.there (.there .here)) rfl rfl rfl rfl ?_|refine zH (.there (.there (.there .here))) rfl rfl rfl rfl ?_|refine zH (.there (.there (.there (.there .here)))) rfl rfl rfl rfl ?_)
    exact J_ret1 rfl rfl [] rfl (PH.ler _) ⟨rfl, rfl⟩
  · have e : ∃ n : Nat, k = n ∧ n < 13 ∧ 1 ≤ n := ⟨k.toNat, by omega, by omega, by omega⟩
    obtain ⟨n, rfl, hn, hn1⟩ := e
    rw [if_neg h]
    have e : (strC nmL)[n]? = some (.string (strOf (nmOf n))) := by
      unfold nmOf strC
      rw [if_neg h, List.getElem?_map, show ((n : Int).toNat) = n from by omega, List.getElem?_eq_getElem (by exact hn)]
      rfl
    repeat (first|refine zJ rfl rfl ?_|refine jr rfl ?_|refine jn ?_|refine zM rfl rfl ?_|(refine zC rfl rfl ?_ rfl ?_;omega)|(refine zD rfl rfl ?_ rfl ?_;omega)|(refine zP rfl ?_ rfl ?_;omega)|refine zG rfl rfl rfl rfl ?_|(refine jdq rfl rfl ?_ ?_ ?_;kernel_rfl;kernel_rfl)|refine zB rfl rfl rfl (by repeat constructor) rfl ?_|refine zH .here rfl rfl rfl rfl ?_|refine zH (.there .here) rfl rfl rfl rfl ?_|refine zH (.there (.there .here)) rfl rfl rfl rfl ?_|refine zH (.there (.there (.there .here))) rfl rfl rfl rfl ?_|refine zH (.there (.there (.there (.there .here)))) rfl rfl rfl rfl ?_)
    refine oP (names_spec F) Tryd.call21 rfl rfl ?_
    repeat (first|refine zJ rfl rfl ?_|refine jr rfl ?_|refine jn ?_|refine zM rfl rfl ?_|(refine zC rfl rfl ?_ rfl ?_;omega)|(refine zD rfl rfl ?_ rfl ?_;omega)|(refine zP rfl ?_ rfl ?_;omega)|refine zG rfl rfl rfl rfl ?_|(refine jdq rfl rfl ?_ ?_ ?_;kernel_rfl;kernel_rfl)|refine zB rfl rfl rfl (by repeat constructor) rfl ?_|refine zH .here rfl rfl rfl rfl ?_|refine zH (.there .here) rfl rfl rfl rfl ?_|refine zH (.there (.there .here)) rfl rfl rfl rfl ?_|refine zH (.there (.there (.there .here))) rfl rfl rfl rfl ?_|refine zH (.there (.there (.there (.there .here)))) rfl rfl rfl rfl ?_)
    refine oS (ev_index_1 (i := n) rfl rfl rfl Tryd.underlying9 rfl hn e) rfl ?_
    repeat (first|refine zJ rfl rfl ?_|refine jr rfl ?_|refine jn ?_|refine zM rfl rfl ?_|(refine zC rfl rfl ?_ rfl ?_;omega)|(refine zD rfl rfl ?_ rfl ?_;omega)|(refine zP rfl ?_ rfl ?_;omega)|refine zG rfl rfl rfl rfl ?_|(refine jdq rfl rfl ?_ ?_ ?_;kernel_rfl;kernel_rfl)|refine zB rfl rfl rfl (by repeat constructor) rfl ?_|refine zH .here rfl rfl rfl rfl ?_|refine zH (.there .here) rfl rfl rfl rfl ?_|refine zH (.there (.there .here)) rfl rfl rfl rfl ?_|refine zH (.there (.there (.there .here))) rfl rfl rfl rfl ?_|refine zH (.there (.there (.there (.there .here)))) rfl rfl rfl rfl ?_)
    exact J_ret1 rfl rfl [] rfl (PH.ler _) ⟨rfl, rfl⟩
/-- Where a name stands. -/
theorem indexS_spec (b off c : Nat) (L : List (List UInt8)) (name : List UInt8) (F : PH) (h : Cells F b off (strC L)) (hL : L.length ≤ 1000000) :
    Pure Tryd.prog 22 [.slice (some ⟨b, off, none⟩) L.length c, .string (strOf name)] F (.int .i64 (idxP (fun s => decide (name = s)) L 0)) := by
  refine Spec.of2 Tryd.func22 rfl rfl fun X w0 => ?_
  repeat (first|refine zJ rfl rfl ?_|refine jr rfl ?_|refine jn ?_|refine zM rfl rfl ?_|(refine zC rfl rfl ?_ rfl ?_;omega)|(refine zD rfl rfl ?_ rfl ?_;omega)|(refine zP rfl ?_ rfl ?_;omega)|refine zG rfl rfl rfl rfl ?_|(refine jdq rfl rfl ?_ ?_ ?_;kernel_rfl;kernel_rfl)|refine zB rfl rfl rfl (by repeat constructor) rfl ?_|refine zH .here rfl rfl rfl rfl ?_|refine zH (.there .here) rfl rfl rfl rfl ?_|refine zH (.there (.there .here)) rfl rfl rfl rfl ?_|refine zH (.there (.there (.there .here))) rfl rfl rfl rfl ?_|refine zH (.there (.there (.there (.there .here)))) rfl rfl rfl rfl ?_)
  refine J_loop (ι := Nat) (fun i => i ≤ L.length ∧ idxP (fun s => decide (name = s)) L 0 = idxP (fun s => decide (name = s)) (L.drop i) i) (fun i => L.length - i) (fun i => [(0, .slice (some ⟨b, off, none⟩) L.length c), (1, .string (strOf name)), (7, .int .i64 L.length), (8, .int .i64 i)]) (fun _ => F) (fun _ => X) 0 ⟨Nat.zero_le _, rfl⟩ ⟨⟨rfl, rfl, rfl, rfl, trivial⟩, fun w s => s⟩ ?_
  rintro i ⟨hi, he⟩
  by_cases hlt : i < L.length
  · have hx : L[i]? = some L[i] := List.getElem?_eq_getElem hlt
    rw [drop_cons hx, idxP_cons] at he
    have hc : Cells F b (off + i * 1) [.string (strOf L[i])] := fun j u hj => by
      cases j with
      | zero =>
        rw [Nat.mul_one, Nat.add_zero]
        refine h i u ?_
        unfold strC
        rw [List.getElem?_map, hx]
        exact hj
      | succ j => simp at hj
    generalize L[i] = x at *
    repeat (first|refine zJ rfl rfl ?_|refine jr rfl ?_|refine jn ?_|refine zM rfl rfl ?_|(refine zC rfl rfl ?_ rfl ?_;omega)|(refine zD rfl rfl ?_ rfl ?_;omega)|(refine zP rfl ?_ rfl ?_;omega)|refine zG rfl rfl rfl rfl ?_|(refine jdq rfl rfl ?_ ?_ ?_;kernel_rfl;kernel_rfl)|refine zB rfl rfl rfl (by repeat constructor) rfl ?_|refine zH .here rfl rfl rfl rfl ?_|refine zH (.there .here) rfl rfl rfl rfl ?_|refine zH (.there (.there .here)) rfl rfl rfl rfl ?_|refine zH (.there (.there (.there .here))) rfl rfl rfl rfl ?_|refine zH (.there (.there (.there (.there .here)))) rfl rfl rfl rfl ?_)
    refine oS (ev_indexAddr rfl rfl rfl hlt) rfl ?_
    refine oS (ev_load rfl rfl (Rdb.ofF hc)) rfl ?_
    refine oS (ev_str_eql rfl rfl) rfl ?_
    rw [strOf_toList, strOf_toList]
    cases hd : decide (name = x) with
    | true =>
      rw [hd, if_pos rfl] at he
      rw [he]
      repeat (first|refine zJ rfl rfl ?_|refine jr rfl ?_|refine jn ?_|refine zM rfl rfl ?_|(refine zC rfl rfl ?_ rfl ?_;omega)|(refine zD rfl rfl ?_ rfl ?_;omega)|(refine zP rfl ?_ rfl ?_;omega)|refine zG rfl rfl rfl rfl ?_|(refine jdq rfl rfl ?_ ?_ ?_;kernel_rfl;kernel_rfl)|refine zB rfl rfl rfl (by repeat constructor) rfl ?_|refine zH .here rfl rfl rfl rfl ?_|refine zH (.there .here) rfl rfl rfl rfl ?_|refine zH (.there (.there .here)) rfl rfl rfl rfl ?_|refine zH (.there (.there (.there .here))) rfl rfl rfl rfl ?_|refine zH (.there (.there (.there (.there .here)))) rfl rfl rfl rfl ?_)
      exact J_ret1 rfl rfl [] rfl (PH.ler _) ⟨rfl, rfl⟩
    | false =>
      rw [hd, if_neg (by decide)] at he
      repeat (first|refine zJ rfl rfl ?_|refine jr rfl ?_|refine jn ?_|refine zM rfl rfl ?_|(refine zC rfl rfl ?_ rfl ?_;omega)|(refine zD rfl rfl ?_ rfl ?_;omega)|(refine zP rfl ?_ rfl ?_;omega)|refine zG rfl rfl rfl rfl ?_|(refine jdq rfl rfl ?_ ?_ ?_;kernel_rfl;kernel_rfl)|refine zB rfl rfl rfl (by repeat constructor) rfl ?_|refine zH .here rfl rfl rfl rfl ?_|refine zH (.there .here) rfl rfl rfl rfl ?_|refine zH (.there (.there .here)) rfl rfl rfl rfl ?_|refine zH (.there (.there (.there .here))) rfl rfl rfl rfl ?_|refine zH (.there (.there (.there (.there .here)))) rfl rfl rfl rfl ?_)
      exact J_again (i + 1) ⟨hlt, by rw [he]; rfl⟩ (by omega) ⟨⟨rfl, rfl, rfl, rfl, trivial⟩, fun w s => s⟩
  · obtain rfl : i = L.length := by omega
    rw [List.drop_length, idxP_nil] at he
    rw [he]
    repeat (first|refine zJ rfl rfl ?_|refine jr rfl ?_|refine jn ?_|refine zM rfl rfl ?_|(refine zC rfl rfl ?_ rfl ?_;omega)|(refine zD rfl rfl ?_ rfl ?_;omega)|(refine zP rfl ?_ rfl ?_;omega)|refine zG rfl rfl rfl rfl ?_|(refine jdq rfl rfl ?_ ?_ ?_;kernel_rfl;kernel_rfl)|refine zB rfl rfl rfl (by repeat constructor) rfl ?_|refine zH .here rfl rfl rfl rfl ?_|refine zH (.there .here) rfl rfl rfl rfl ?_|refine zH (.there (.there .here)) rfl rfl rfl rfl ?_|refine zH (.there (.there (.there .here))) rfl rfl rfl rfl ?_|refine zH (.there (.there (.there (.there .here)))) rfl rfl rfl rfl ?_)
    exact J_ret1 rfl rfl [] rfl (PH.ler _) ⟨rfl, rfl⟩
/-- A name's kind, and whether it is one. -/
def kindOf (name : List UInt8) : Int := idxP (fun s => decide (name = s)) nmL.tail 0
set_option maxHeartbeats 2000000 in
theorem Kind_spec (name : List UInt8) (F : PH) : Spec Tryd.prog 8 [.string (strOf name)] F [] fun u _ H' => u = .tuple #[.int .i64 (kindOf name + 1), .bool (decide (0 ≤ kindOf name))] ∧ H' = [] := by
  have hin : -1 ≤ kindOf name ∧ kindOf name ≤ 12 := by
    rcases idx_split (fun s => decide (name = s)) nmL.tail 0 with ⟨h, _⟩ | ⟨A, y, B, h1, h2, _⟩
    · unfold kindOf; omega
    · have := congrArg List.length h1
      rw [List.length_append, List.length_cons] at this
      have h12 : nmL.tail.length = 12 := rfl
      unfold kindOf; omega
  refine Spec.of1 Tryd.func8 rfl rfl fun X w0 => ?_
  repeat (first|refine zJ rfl rfl ?_|refine jr rfl ?_|refine jn ?_|refine zM rfl rfl ?_|(refine zC rfl rfl ?_ rfl ?_;omega)|(refine zD rfl rfl ?_ rfl ?_;omega)|(refine zP rfl ?_ rfl ?_;omega)|refine zG rfl rfl rfl rfl ?_|(refine jdq rfl rfl ?_ ?_ ?_;kernel_rfl;kernel_rfl)|refine zB rfl rfl rfl (by repeat constructor) rfl ?_|refine zH .here rfl rfl rfl rfl ?_|refine zH (.there .here) rfl rfl rfl rfl ?_|refine zH (.there (.there .here)) rfl rfl rfl rfl ?_|refine zH (.there (.there (.there .here))) rfl rfl rfl rfl ?_|refine zH (.there (.there (.there (.there .here)))) rfl rfl rfl rfl ?_)
  refine oP (names_spec F) Tryd.call21 rfl rfl ?_
  refine oE (ev_alloc rfl) rfl ?_
  rintro _ _ _ _ ⟨rfl, b4, rfl, rfl⟩
  refine oN (ev_store (vs := strC nmL) (s := strC nmL) rfl rfl .agg rfl rfl (lay_all (zs := List.replicate 13 (.string (strOf []))) rfl) (ones_strC _) .here) rfl ?_
  rintro _ _ _ _ ⟨rfl, _, rfl⟩
  repeat (first|refine zJ rfl rfl ?_|refine jr rfl ?_|refine jn ?_|refine zM rfl rfl ?_|(refine zC rfl rfl ?_ rfl ?_;omega)|(refine zD rfl rfl ?_ rfl ?_;omega)|(refine zP rfl ?_ rfl ?_;omega)|refine zG rfl rfl rfl rfl ?_|(refine jdq rfl rfl ?_ ?_ ?_;kernel_rfl;kernel_rfl)|refine zB rfl rfl rfl (by repeat constructor) rfl ?_|refine zH .here rfl rfl rfl rfl ?_|refine zH (.there .here) rfl rfl rfl rfl ?_|refine zH (.there (.there .here)) rfl rfl rfl rfl ?_|refine zH (.there (.there (.there .here))) rfl rfl rfl rfl ?_|refine zH (.there (.there (.there (.there .here)))) rfl rfl rfl rfl ?_)
  refine oPersist fun h1 hA1 hd1 => ?_
  have hm := blk_cells hA1 hd1
  have hle1 : F.le (F.un h1) := PH.le_l _ _
  generalize F.un h1 = F1 at *
  refine oS (ev_slice_arr_lo (lo := 1) rfl rfl rfl (by decide)) rfl ?_
  repeat (first|refine zJ rfl rfl ?_|refine jr rfl ?_|refine jn ?_|refine zM rfl rfl ?_|(refine zC rfl rfl ?_ rfl ?_;omega)|(refine zD rfl rfl ?_ rfl ?_;omega)|(refine zP rfl ?_ rfl ?_;omega)|refine zG rfl rfl rfl rfl ?_|(refine jdq rfl rfl ?_ ?_ ?_;kernel_rfl;kernel_rfl)|refine zB rfl rfl rfl (by repeat constructor) rfl ?_|refine zH .here rfl rfl rfl rfl ?_|refine zH (.there .here) rfl rfl rfl rfl ?_|refine zH (.there (.there .here)) rfl rfl rfl rfl ?_|refine zH (.there (.there (.there .here))) rfl rfl rfl rfl ?_|refine zH (.there (.there (.there (.there .here)))) rfl rfl rfl rfl ?_)
  refine oP (indexS_spec b4 (0 + 1 * 1) 12 nmL.tail name F1 (Cells.right (xs := [.string (strOf [])]) hm) (by decide)) Tryd.call22 rfl rfl ?_
  change JM _ _ _ _ _ ((_, .int .i64 (kindOf name)) :: _) _ _
  generalize kindOf name = i at *
  repeat (first|refine zJ rfl rfl ?_|refine jr rfl ?_|refine jn ?_|refine zM rfl rfl ?_|(refine zC rfl rfl ?_ rfl ?_;omega)|(refine zD rfl rfl ?_ rfl ?_;omega)|(refine zP rfl ?_ rfl ?_;omega)|refine zG rfl rfl rfl rfl ?_|(refine jdq rfl rfl ?_ ?_ ?_;kernel_rfl;kernel_rfl)|refine zB rfl rfl rfl (by repeat constructor) rfl ?_|refine zH .here rfl rfl rfl rfl ?_|refine zH (.there .here) rfl rfl rfl rfl ?_|refine zH (.there (.there .here)) rfl rfl rfl rfl ?_|refine zH (.there (.there (.there .here))) rfl rfl rfl rfl ?_|refine zH (.there (.there (.there (.there .here)))) rfl rfl rfl rfl ?_)
  exact J_ret2 rfl rfl rfl [] rfl hle1 ⟨rfl, rfl⟩
end Go.Proofs.YtmicjjhkoicdnaaDoor
namespace Go.Proofs.YtmicjjhkoicdnaaDoor
open Go.RowKit
set_option maxRecDepth 100000
/-- The best of the first j kinds, and its count. -/
def mostS (xs : List SentX) : Nat → Nat × (Nat × Nat)
  | 0 => (0, (0, 0))
  | j + 1 => if 0 < j ∧ (mostS xs j).2.1 < (kTot xs j).1 then (j, kTot xs j) else mostS xs j
set_option maxHeartbeats 8000000 in
theorem most_spec (pc : Value) (HC : List Asrt) (xs : List SentX) (F : PH) (hC : Crw F pc HC xs) :
    Spec Tryd.prog 12 [pc] F HC fun u _ H' => u = .tuple #[.int .i64 (mostS xs 13).1, .agg (cvC (mostS xs 13).2).toArray] ∧ H' = HC := by
  refine Spec.of1 Tryd.func12 rfl rfl fun X w0 => ?_
  repeat (first|refine zJ rfl rfl ?_|refine jr rfl ?_|refine jn ?_|refine zM rfl rfl ?_|(refine zC rfl rfl ?_ rfl ?_;omega)|(refine zD rfl rfl ?_ rfl ?_;omega)|(refine zP rfl ?_ rfl ?_;omega)|refine zG rfl rfl rfl rfl ?_|(refine jdq rfl rfl ?_ ?_ ?_;kernel_rfl;kernel_rfl)|refine zB rfl rfl rfl (by repeat constructor) rfl ?_|refine zH .here rfl rfl rfl rfl ?_|refine zH (.there .here) rfl rfl rfl rfl ?_|refine zH (.there (.there .here)) rfl rfl rfl rfl ?_|refine zH (.there (.there (.there .here))) rfl rfl rfl rfl ?_|refine zH (.there (.there (.there (.there .here)))) rfl rfl rfl rfl ?_)
  refine oE (ev_alloc rfl) rfl ?_
  rintro _ _ _ _ ⟨rfl, b3, rfl, rfl⟩
  repeat (first|refine zJ rfl rfl ?_|refine jr rfl ?_|refine jn ?_|refine zM rfl rfl ?_|(refine zC rfl rfl ?_ rfl ?_;omega)|(refine zD rfl rfl ?_ rfl ?_;omega)|(refine zP rfl ?_ rfl ?_;omega)|refine zG rfl rfl rfl rfl ?_|(refine jdq rfl rfl ?_ ?_ ?_;kernel_rfl;kernel_rfl)|refine zB rfl rfl rfl (by repeat constructor) rfl ?_|refine zH .here rfl rfl rfl rfl ?_|refine zH (.there .here) rfl rfl rfl rfl ?_|refine zH (.there (.there .here)) rfl rfl rfl rfl ?_|refine zH (.there (.there (.there .here))) rfl rfl rfl rfl ?_|refine zH (.there (.there (.there (.there .here)))) rfl rfl rfl rfl ?_)
  refine oE (ev_alloc rfl) rfl ?_
  rintro _ _ _ _ ⟨rfl, b5, rfl, rfl⟩
  repeat (first|refine zJ rfl rfl ?_|refine jr rfl ?_|refine jn ?_|refine zM rfl rfl ?_|(refine zC rfl rfl ?_ rfl ?_;omega)|(refine zD rfl rfl ?_ rfl ?_;omega)|(refine zP rfl ?_ rfl ?_;omega)|refine zG rfl rfl rfl rfl ?_|(refine jdq rfl rfl ?_ ?_ ?_;kernel_rfl;kernel_rfl)|refine zB rfl rfl rfl (by repeat constructor) rfl ?_|refine zH .here rfl rfl rfl rfl ?_|refine zH (.there .here) rfl rfl rfl rfl ?_|refine zH (.there (.there .here)) rfl rfl rfl rfl ?_|refine zH (.there (.there (.there .here))) rfl rfl rfl rfl ?_|refine zH (.there (.there (.there (.there .here)))) rfl rfl rfl rfl ?_)
  refine oN (ev_store (vs := cvC (0, 0)) rfl rfl .agg rfl rfl (lay_all (zs := cvC (0, 0)) rfl) (ones_cvC _) .here) rfl ?_
  rintro _ _ _ _ ⟨rfl, _, rfl⟩
  repeat (first|refine zJ rfl rfl ?_|refine jr rfl ?_|refine jn ?_|refine zM rfl rfl ?_|(refine zC rfl rfl ?_ rfl ?_;omega)|(refine zD rfl rfl ?_ rfl ?_;omega)|(refine zP rfl ?_ rfl ?_;omega)|refine zG rfl rfl rfl rfl ?_|(refine jdq rfl rfl ?_ ?_ ?_;kernel_rfl;kernel_rfl)|refine zB rfl rfl rfl (by repeat constructor) rfl ?_|refine zH .here rfl rfl rfl rfl ?_|refine zH (.there .here) rfl rfl rfl rfl ?_|refine zH (.there (.there .here)) rfl rfl rfl rfl ?_|refine zH (.there (.there (.there .here))) rfl rfl rfl rfl ?_|refine zH (.there (.there (.there (.there .here)))) rfl rfl rfl rfl ?_)
  refine oC (Hc := HC) (Hr := blk b5 38 (cvC (0, 0)) :: blk b3 38 (cvC (0, 0)) :: X) (byKind_spec pc HC xs F hC) Tryd.call13 rfl rfl (fun _ s => Sat.front (A := [_, _]) s) ?_
  rintro _ F1 H1 hF1 ⟨rfl, rfl⟩
  repeat (first|refine zJ rfl rfl ?_|refine jr rfl ?_|refine jn ?_|refine zM rfl rfl ?_|(refine zC rfl rfl ?_ rfl ?_;omega)|(refine zD rfl rfl ?_ rfl ?_;omega)|(refine zP rfl ?_ rfl ?_;omega)|refine zG rfl rfl rfl rfl ?_|(refine jdq rfl rfl ?_ ?_ ?_;kernel_rfl;kernel_rfl)|refine zB rfl rfl rfl (by repeat constructor) rfl ?_|refine zH .here rfl rfl rfl rfl ?_|refine zH (.there .here) rfl rfl rfl rfl ?_|refine zH (.there (.there .here)) rfl rfl rfl rfl ?_|refine zH (.there (.there (.there .here))) rfl rfl rfl rfl ?_|refine zH (.there (.there (.there (.there .here)))) rfl rfl rfl rfl ?_)
  have hlen : (byK xs).length = 13 := by simp [byK]
  refine J_loop (ι := Nat) (fun j => j ≤ 13) (fun j => 13 - j) (fun j => [(0, pc), (3, .pointer (some ⟨b3, 0, none⟩)), (4, .int .i64 (mostS xs j).1), (5, .pointer (some ⟨b5, 0, none⟩)), (10, .agg (rowC cvC (byK xs)).toArray), (11, .int .i64 j)]) (fun _ => F)
    (fun j => blk b5 38 (cvC (mostS xs j).2) :: blk b3 38 (cvC (0, 0)) :: (H1 ++ X)) 0 (Nat.zero_le _) ⟨⟨rfl, rfl, rfl, rfl, rfl, rfl, trivial⟩, fun w s => Sat.front (A := H1) (B := [_, _]) (s.mono hF1)⟩ ?_
  intro j hj
  by_cases hlt : j < 13
  · have hx : (byK xs)[j]? = some (kTot xs j) := by unfold byK; rw [List.getElem?_map, List.getElem?_range hlt]; rfl
    have hrow := rowC_at cvC_len hx
    have hnext : mostS xs (j + 1) = if 0 < j ∧ (mostS xs j).2.1 < (kTot xs j).1 then (j, kTot xs j) else mostS xs j := rfl
    generalize hr : mostS xs (j + 1) = r' at hnext
    generalize mostS xs j = r at *
    obtain ⟨best, bm, bb⟩ := r
    generalize kTot xs j = y at *
    obtain ⟨m, z⟩ := y
    dsimp only at *
    repeat (first|refine zJ rfl rfl ?_|refine jr rfl ?_|refine jn ?_|refine zM rfl rfl ?_|(refine zC rfl rfl ?_ rfl ?_;omega)|(refine zD rfl rfl ?_ rfl ?_;omega)|(refine zP rfl ?_ rfl ?_;omega)|refine zG rfl rfl rfl rfl ?_|(refine jdq rfl rfl ?_ ?_ ?_;kernel_rfl;kernel_rfl)|refine zB rfl rfl rfl (by repeat constructor) rfl ?_|refine zH .here rfl rfl rfl rfl ?_|refine zH (.there .here) rfl rfl rfl rfl ?_|refine zH (.there (.there .here)) rfl rfl rfl rfl ?_|refine zH (.there (.there (.there .here))) rfl rfl rfl rfl ?_|refine zH (.there (.there (.there (.there .here)))) rfl rfl rfl rfl ?_)
    refine oS (ev_index_n (i := j) rfl rfl rfl rfl hlt) rfl ?_
    rw [hrow]
    refine oE (ev_alloc rfl) rfl ?_
    rintro _ _ _ _ ⟨rfl, b7, rfl, rfl⟩
    repeat (first|refine zJ rfl rfl ?_|refine jr rfl ?_|refine jn ?_|refine zM rfl rfl ?_|(refine zC rfl rfl ?_ rfl ?_;omega)|(refine zD rfl rfl ?_ rfl ?_;omega)|(refine zP rfl ?_ rfl ?_;omega)|refine zG rfl rfl rfl rfl ?_|(refine jdq rfl rfl ?_ ?_ ?_;kernel_rfl;kernel_rfl)|refine zB rfl rfl rfl (by repeat constructor) rfl ?_|refine zH .here rfl rfl rfl rfl ?_|refine zH (.there .here) rfl rfl rfl rfl ?_|refine zH (.there (.there .here)) rfl rfl rfl rfl ?_|refine zH (.there (.there (.there .here))) rfl rfl rfl rfl ?_|refine zH (.there (.there (.there (.there .here)))) rfl rfl rfl rfl ?_)
    refine oN (ev_store (vs := cvC (m, z)) rfl rfl .agg rfl rfl (lay_all (zs := cvC (0, 0)) rfl) (ones_cvC _) .here) rfl ?_
    rintro _ _ _ _ ⟨rfl, _, rfl⟩
    unfold cvC
    dsimp only
    by_cases h1 : 0 < j
    · by_cases h2 : bm < m
      · rw [if_pos ⟨h1, h2⟩] at hnext
        subst hnext
        repeat (first|refine zJ rfl rfl ?_|refine jr rfl ?_|refine jn ?_|refine zM rfl rfl ?_|(refine zC rfl rfl ?_ rfl ?_;omega)|(refine zD rfl rfl ?_ rfl ?_;omega)|(refine zP rfl ?_ rfl ?_;omega)|refine zG rfl rfl rfl rfl ?_|(refine jdq rfl rfl ?_ ?_ ?_;kernel_rfl;kernel_rfl)|refine zB rfl rfl rfl (by repeat constructor) rfl ?_|refine zH .here rfl rfl rfl rfl ?_|refine zH (.there .here) rfl rfl rfl rfl ?_|refine zH (.there (.there .here)) rfl rfl rfl rfl ?_|refine zH (.there (.there (.there .here))) rfl rfl rfl rfl ?_|refine zH (.there (.there (.there (.there .here)))) rfl rfl rfl rfl ?_)
        refine jdl rfl ?_ ?_ ?_ ?_; kernel_rfl; kernel_rfl; kernel_rfl; dsimp only [List.dropLast]
        repeat (first|refine zJ rfl rfl ?_|refine jr rfl ?_|refine jn ?_|refine zM rfl rfl ?_|(refine zC rfl rfl ?_ rfl ?_;omega)|(refine zD rfl rfl ?_ rfl ?_;omega)|(refine zP rfl ?_ rfl ?_;omega)|refine zG rfl rfl rfl rfl ?_|(refine jdq rfl rfl ?_ ?_ ?_;kernel_rfl;kernel_rfl)|refine zB rfl rfl rfl (by repeat constructor) rfl ?_|refine zH .here rfl rfl rfl rfl ?_|refine zH (.there .here) rfl rfl rfl rfl ?_|refine zH (.there (.there .here)) rfl rfl rfl rfl ?_|refine zH (.there (.there (.there .here))) rfl rfl rfl rfl ?_|refine zH (.there (.there (.there (.there .here)))) rfl rfl rfl rfl ?_)
        refine oS (ev_load_agg (cs := cvC (m, z)) rfl rfl (Rdb.ofB (n := 0) .here rfl) rfl) rfl ?_
        repeat (first|refine zJ rfl rfl ?_|refine jr rfl ?_|refine jn ?_|refine zM rfl rfl ?_|(refine zC rfl rfl ?_ rfl ?_;omega)|(refine zD rfl rfl ?_ rfl ?_;omega)|(refine zP rfl ?_ rfl ?_;omega)|refine zG rfl rfl rfl rfl ?_|(refine jdq rfl rfl ?_ ?_ ?_;kernel_rfl;kernel_rfl)|refine zB rfl rfl rfl (by repeat constructor) rfl ?_|refine zH .here rfl rfl rfl rfl ?_|refine zH (.there .here) rfl rfl rfl rfl ?_|refine zH (.there (.there .here)) rfl rfl rfl rfl ?_|refine zH (.there (.there (.there .here))) rfl rfl rfl rfl ?_|refine zH (.there (.there (.there (.there .here)))) rfl rfl rfl rfl ?_)
        refine jL rfl ?_
        refine oN (ev_store (vs := cvC (m, z)) rfl rfl .agg rfl rfl (lay_all (zs := cvC (bm, bb)) rfl) (ones_cvC _) (.there .here)) rfl ?_
        rintro _ _ _ _ ⟨rfl, _, rfl⟩
        repeat (first|refine zJ rfl rfl ?_|refine jr rfl ?_|refine jn ?_|refine zM rfl rfl ?_|(refine zC rfl rfl ?_ rfl ?_;omega)|(refine zD rfl rfl ?_ rfl ?_;omega)|(refine zP rfl ?_ rfl ?_;omega)|refine zG rfl rfl rfl rfl ?_|(refine jdq rfl rfl ?_ ?_ ?_;kernel_rfl;kernel_rfl)|refine zB rfl rfl rfl (by repeat constructor) rfl ?_|refine zH .here rfl rfl rfl rfl ?_|refine zH (.there .here) rfl rfl rfl rfl ?_|refine zH (.there (.there .here)) rfl rfl rfl rfl ?_|refine zH (.there (.there (.there .here))) rfl rfl rfl rfl ?_|refine zH (.there (.there (.there (.there .here)))) rfl rfl rfl rfl ?_)
        exact J_again (j + 1) (by omega) (by omega) (by rw [hr]; exact ⟨⟨rfl, rfl, rfl, rfl, rfl, rfl, trivial⟩, fun w s => s.drop⟩)
      · rw [if_neg (by omega)] at hnext
        subst hnext
        repeat (first|refine zJ rfl rfl ?_|refine jr rfl ?_|refine jn ?_|refine zM rfl rfl ?_|(refine zC rfl rfl ?_ rfl ?_;omega)|(refine zD rfl rfl ?_ rfl ?_;omega)|(refine zP rfl ?_ rfl ?_;omega)|refine zG rfl rfl rfl rfl ?_|(refine jdq rfl rfl ?_ ?_ ?_;kernel_rfl;kernel_rfl)|refine zB rfl rfl rfl (by repeat constructor) rfl ?_|refine zH .here rfl rfl rfl rfl ?_|refine zH (.there .here) rfl rfl rfl rfl ?_|refine zH (.there (.there .here)) rfl rfl rfl rfl ?_|refine zH (.there (.there (.there .here))) rfl rfl rfl rfl ?_|refine zH (.there (.there (.there (.there .here)))) rfl rfl rfl rfl ?_)
        exact J_again (j + 1) (by omega) (by omega) (by rw [hr]; exact ⟨⟨rfl, rfl, rfl, rfl, rfl, rfl, trivial⟩, fun w s => s.drop⟩)
    · rw [if_neg (by omega)] at hnext
      subst hnext
      repeat (first|refine zJ rfl rfl ?_|refine jr rfl ?_|refine jn ?_|refine zM rfl rfl ?_|(refine zC rfl rfl ?_ rfl ?_;omega)|(refine zD rfl rfl ?_ rfl ?_;omega)|(refine zP rfl ?_ rfl ?_;omega)|refine zG rfl rfl rfl rfl ?_|(refine jdq rfl rfl ?_ ?_ ?_;kernel_rfl;kernel_rfl)|refine zB rfl rfl rfl (by repeat constructor) rfl ?_|refine zH .here rfl rfl rfl rfl ?_|refine zH (.there .here) rfl rfl rfl rfl ?_|refine zH (.there (.there .here)) rfl rfl rfl rfl ?_|refine zH (.there (.there (.there .here))) rfl rfl rfl rfl ?_|refine zH (.there (.there (.there (.there .here)))) rfl rfl rfl rfl ?_)
      exact J_again (j + 1) (by omega) (by omega) (by rw [hr]; exact ⟨⟨rfl, rfl, rfl, rfl, rfl, rfl, trivial⟩, fun w s => s.drop⟩)
  · obtain rfl : j = 13 := by omega
    repeat (first|refine zJ rfl rfl ?_|refine jr rfl ?_|refine jn ?_|refine zM rfl rfl ?_|(refine zC rfl rfl ?_ rfl ?_;omega)|(refine zD rfl rfl ?_ rfl ?_;omega)|(refine zP rfl ?_ rfl ?_;omega)|refine zG rfl rfl rfl rfl ?_|(refine jdq rfl rfl ?_ ?_ ?_;kernel_rfl;kernel_rfl)|refine zB rfl rfl rfl (by repeat constructor) rfl ?_|refine zH .here rfl rfl rfl rfl ?_|refine zH (.there .here) rfl rfl rfl rfl ?_|refine zH (.there (.there .here)) rfl rfl rfl rfl ?_|refine zH (.there (.there (.there .here))) rfl rfl rfl rfl ?_|refine zH (.there (.there (.there (.there .here)))) rfl rfl rfl rfl ?_)
    refine jdl rfl ?_ ?_ ?_ ?_; kernel_rfl; kernel_rfl; kernel_rfl; dsimp only [List.dropLast]
    repeat (first|refine zJ rfl rfl ?_|refine jr rfl ?_|refine jn ?_|refine zM rfl rfl ?_|(refine zC rfl rfl ?_ rfl ?_;omega)|(refine zD rfl rfl ?_ rfl ?_;omega)|(refine zP rfl ?_ rfl ?_;omega)|refine zG rfl rfl rfl rfl ?_|(refine jdq rfl rfl ?_ ?_ ?_;kernel_rfl;kernel_rfl)|refine zB rfl rfl rfl (by repeat constructor) rfl ?_|refine zH .here rfl rfl rfl rfl ?_|refine zH (.there .here) rfl rfl rfl rfl ?_|refine zH (.there (.there .here)) rfl rfl rfl rfl ?_|refine zH (.there (.there (.there .here))) rfl rfl rfl rfl ?_|refine zH (.there (.there (.there (.there .here)))) rfl rfl rfl rfl ?_)
    refine oS (ev_load_agg (cs := cvC (mostS xs 13).2) rfl rfl (Rdb.ofB (n := 0) .here rfl) rfl) rfl ?_
    repeat (first|refine zJ rfl rfl ?_|refine jr rfl ?_|refine jn ?_|refine zM rfl rfl ?_|(refine zC rfl rfl ?_ rfl ?_;omega)|(refine zD rfl rfl ?_ rfl ?_;omega)|(refine zP rfl ?_ rfl ?_;omega)|refine zG rfl rfl rfl rfl ?_|(refine jdq rfl rfl ?_ ?_ ?_;kernel_rfl;kernel_rfl)|refine zB rfl rfl rfl (by repeat constructor) rfl ?_|refine zH .here rfl rfl rfl rfl ?_|refine zH (.there .here) rfl rfl rfl rfl ?_|refine zH (.there (.there .here)) rfl rfl rfl rfl ?_|refine zH (.there (.there (.there .here))) rfl rfl rfl rfl ?_|refine zH (.there (.there (.there (.there .here)))) rfl rfl rfl rfl ?_)
    refine jL rfl ?_
    refine oN (ev_store (vs := cvC (mostS xs 13).2) rfl rfl .agg rfl rfl (lay_all (zs := cvC (0, 0)) rfl) (ones_cvC _) (.there .here)) rfl ?_
    rintro _ _ _ _ ⟨rfl, _, rfl⟩
    repeat (first|refine zJ rfl rfl ?_|refine jr rfl ?_|refine jn ?_|refine zM rfl rfl ?_|(refine zC rfl rfl ?_ rfl ?_;omega)|(refine zD rfl rfl ?_ rfl ?_;omega)|(refine zP rfl ?_ rfl ?_;omega)|refine zG rfl rfl rfl rfl ?_|(refine jdq rfl rfl ?_ ?_ ?_;kernel_rfl;kernel_rfl)|refine zB rfl rfl rfl (by repeat constructor) rfl ?_|refine zH .here rfl rfl rfl rfl ?_|refine zH (.there .here) rfl rfl rfl rfl ?_|refine zH (.there (.there .here)) rfl rfl rfl rfl ?_|refine zH (.there (.there (.there .here))) rfl rfl rfl rfl ?_|refine zH (.there (.there (.there (.there .here)))) rfl rfl rfl rfl ?_)
    exact J_retv (vs := [.int .i64 (mostS xs 13).1, .agg (cvC (mostS xs 13).2).toArray]) rfl (.tmp rfl (.agg (cs := cvC (mostS xs 13).2) rfl rfl (Rdb.ofB (n := 0) (.there .here) rfl) rfl .nil)) H1 (fun w s => s.drop.drop) (PH.ler _) ⟨rfl, rfl⟩
end Go.Proofs.YtmicjjhkoicdnaaDoor
