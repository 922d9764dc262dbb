/-
  Whoever is proved was seen by somebody honest. Plain.
-/
import Derived.Test.YtdoaloimndehbaaBi
namespace Go.Proofs.Ytdoaloimndehbaa
open Go.RowKit
set_option maxRecDepth 100000
abbrev Ax := Int × Vo
def runA (n : Int) (ok : Int → Bool) (l : List Ax) (M : VM) : VM := l.foldl (fun M a => if ok a.1 then (addM n M a.1 a.2).2 else M) M
theorem runA_snoc (n : Int) (ok : Int → Bool) (l : List Ax) (a : Ax) (M : VM) : runA n ok (l ++ [a]) M = if ok a.1 then (addM n (runA n ok l M) a.1 a.2).2 else runA n ok l M := by
  unfold runA
  rw [List.foldl_append, List.foldl_cons, List.foldl_nil]
theorem runA_ok {n : Int} (ok : Int → Bool) : ∀ (l : List Ax) {M : VM}, VOk n M → VOk n (runA n ok l M)
  | [], M, h => h
  | a :: l, M, h => by
    unfold runA
    rw [List.foldl_cons]
    refine runA_ok ok l ?_
    split
    · exact addM_ok a.1 a.2 h
    · exact h
def matchB (y x : Vo) : Bool := decide (y.c = x.c) && (decide (y.s = x.s) && (decide (y.d = x.d) && (decide (x.m = 0#32) || !decide (y.m &&& x.m = 0#32))))
def seenP (ly : Int → Bool) (l : List Ax) (x : Vo) : Bool := l.any fun a => !ly a.1 && matchB a.2 x
/-- Where a word comes from. -/
def Src (l : List Ax) (who : Int) (y : Vo) : Prop := (∃ a ∈ l, a.1 = who ∧ a.2.c = y.c ∧ a.2.s = y.s ∧ a.2.d = y.d) ∧ ∀ i, y.m.getLsbD i = true → ∃ a ∈ l, a.1 = who ∧ a.2.c = y.c ∧ a.2.s = y.s ∧ a.2.d = y.d ∧ a.2.m.getLsbD i = true
theorem Rise.uniq {l : List Vo} (h : Rise l) {y z : Vo} (hy : y ∈ l) (hz : z ∈ l) (e : y.s = z.s) : y = z := by
  obtain ⟨i, hi⟩ := List.getElem?_of_mem hy
  obtain ⟨j, hj⟩ := List.getElem?_of_mem hz
  rcases Nat.lt_trichotomy i j with hij | hij | hij
  · obtain ⟨h1, rfl⟩ := List.getElem?_eq_some_iff.1 hi
    obtain ⟨h2, rfl⟩ := List.getElem?_eq_some_iff.1 hj
    have := List.pairwise_iff_getElem.1 h i j h1 h2 hij
    omega
  · subst hij; rw [hi] at hj; exact Option.some.inj hj
  · obtain ⟨h1, rfl⟩ := List.getElem?_eq_some_iff.1 hi
    obtain ⟨h2, rfl⟩ := List.getElem?_eq_some_iff.1 hj
    have := List.pairwise_iff_getElem.1 h j i h2 h1 hij
    omega
theorem addR_src {l l' : List Vo} {x : Vo} (hr : Rise l) (h : addR l x = some l') (hc : ∀ z ∈ l, z.c = x.c) : ∀ z ∈ l', z = x ∨ z ∈ l ∨ ∃ y ∈ l, y.s = x.s ∧ y.d = x.d ∧ y.c = x.c ∧ z = ⟨y.c, y.s, y.d, y.m ||| x.m⟩ := by
  have hv := addR_view (x := x) hr
  rw [h] at hv
  intro z hz
  cases hv with
  | @more y hy hs hd hm =>
    obtain ⟨w, hw, rfl⟩ := List.mem_map.1 hz
    by_cases e : w.s = x.s
    · rw [if_pos e]
      have hwy := hr.uniq hw hy (e.trans hs.symm)
      subst hwy
      exact .inr (.inr ⟨w, hw, e, hd, hc w hw, rfl⟩)
    · rw [if_neg e]
      exact .inr (.inl hw)
  | full hn h4 h0 =>
    have := List.mem_of_mem_drop hz
    rcases insS_mem.1 this with e | e
    · exact .inl e
    · exact .inr (.inl e)
  | new hn h4' =>
    rcases insS_mem.1 hz with e | e
    · exact .inl e
    · exact .inr (.inl e)
structure Inv24 (hon : List Ax) (ly : Int → Bool) (n : Int) (M : VM) : Prop where
  ok : VOk n M
  cl : ∀ who c y, y ∈ M (who, c) → y.c = c
  src : ∀ who c y, ly who = false → y ∈ M (who, c) → Src hon who y
theorem inv_none (hon : List Ax) (ly : Int → Bool) (n : Int) : Inv24 hon ly n noneM :=
  ⟨noneM_ok n, (fun _ _ _ h => by cases h), (fun _ _ _ _ h => by cases h)⟩
theorem setM_at (M : VM) (p q : Pk) (l : List Vo) : setM M p l q = if q = p then l else M q := rfl
theorem inv_add {hon : List Ax} {ly : Int → Bool} {n : Int} {M : VM} (h : Inv24 hon ly n M) (a : Ax) (ha : ly a.1 = true ∨ a ∈ hon) : Inv24 hon ly n (addM n M a.1 a.2).2 := by
  refine ⟨addM_ok a.1 a.2 h.ok, ?_, ?_⟩
  all_goals
    intro who c y
    unfold addM
    split
    · cases hr : addR (M (a.1, a.2.c)) a.2 with
      | none => first | exact h.cl who c y | exact h.src who c y
      | some l' =>
        have key := addR_src (h.ok.rise _) hr (fun z hz => h.cl _ _ z hz)
        show _
        dsimp only
        rw [setM_at]
        split
        · rename_i e
          obtain ⟨rfl, rfl⟩ := Prod.mk.inj e
          first
          | intro hy
            rcases key y hy with rfl | hy | ⟨z, hz, _, _, hc, rfl⟩
            · rfl
            · exact h.cl _ _ y hy
            · exact hc
          | intro hl hy
            have ham : a ∈ hon := ha.resolve_left (by rw [hl]; decide)
            rcases key y hy with rfl | hy | ⟨z, hz, hs, hd, hc, rfl⟩
            · exact ⟨⟨a, ham, rfl, rfl, rfl, rfl⟩, fun i hi => ⟨a, ham, rfl, rfl, rfl, rfl, hi⟩⟩
            · exact h.src _ _ y hl hy
            · obtain ⟨s1, s2⟩ := h.src _ _ z hl hz
              refine ⟨s1, fun i hi => ?_⟩
              rw [BitVec.getLsbD_or, Bool.or_eq_true] at hi
              rcases hi with hi | hi
              · exact s2 i hi
              · exact ⟨a, ham, rfl, hc.symm, hs.symm, hd.symm, hi⟩
        · first | exact h.cl who c y | exact h.src who c y
    · first | exact h.cl who c y | exact h.src who c y
theorem inv_run {hon : List Ax} {ly : Int → Bool} {n : Int} (ok : Int → Bool) : ∀ (l : List Ax) {M : VM}, (∀ a ∈ l, ok a.1 = true → ly a.1 = true ∨ a ∈ hon) → Inv24 hon ly n M → Inv24 hon ly n (runA n ok l M)
  | [], M, _, h => h
  | a :: l, M, hl, h => by
    unfold runA
    rw [List.foldl_cons]
    refine inv_run ok l (fun b hb => hl b (List.mem_cons_of_mem _ hb)) ?_
    by_cases e : ok a.1 = true
    · rw [if_pos e]
      exact inv_add h a (hl a List.mem_cons_self e)
    · rw [if_neg e]
      exact h
theorem row_one {l : List Vo} (h : Rise l) (s : Int) (d : Dg) : (rowMs l s d).length ≤ 1 := by
  unfold rowMs
  rw [List.length_map]
  have h1 : (l.filter fun y => decide (y.s = s) && decide (y.d = d)).Pairwise fun a b => a.s < b.s := List.Pairwise.sublist List.filter_sublist h
  have h2 : ∀ y ∈ l.filter (fun y => decide (y.s = s) && decide (y.d = d)), y.s = s := fun y hy => by
    have := (List.mem_filter.1 hy).2
    rw [Bool.and_eq_true] at this
    exact of_decide_eq_true this.1
  generalize l.filter (fun y => decide (y.s = s) && decide (y.d = d)) = k at h1 h2
  match k with
  | [] => simp
  | [_] => simp
  | a :: b :: r =>
    have h3 := (List.pairwise_cons.1 h1).1 b List.mem_cons_self
    have h4 := h2 a List.mem_cons_self
    have h5 := h2 b (List.mem_cons_of_mem _ List.mem_cons_self)
    omega
theorem nodup_le : ∀ (l S : List Nat), l.Nodup → (∀ x ∈ l, x ∈ S) → l.length ≤ S.length
  | [], S, _, _ => Nat.zero_le _
  | x :: l, S, h, hs => by
    obtain ⟨h1, h2⟩ := List.nodup_cons.1 h
    have hx := hs x List.mem_cons_self
    have ih := nodup_le l (S.erase x) h2 fun y hy => (List.mem_erase_of_ne (fun e : y = x => h1 (by rw [← e]; exact hy))).2 (hs y (List.mem_cons_of_mem _ hy))
    rw [List.length_erase_of_mem hx] at ih
    have : 0 < S.length := List.length_pos_of_mem hx
    rw [List.length_cons]
    omega
theorem cnt_liars {M : VM} {ly : Int → Bool} {c s : Int} {d : Dg} (p : W → Bool) (hr : ∀ q, Rise (M q)) : ∀ (k : Nat), (∀ j : Nat, j < k → ly j = false → ∀ m ∈ rowMs (M ((j : Nat), c)) s d, p m = false) →
    (masksP M c s d k).countP p ≤ ((List.range k).filter fun j : Nat => ly j).length
  | 0, _ => by simp [masksP]
  | k + 1, h => by
    have ih := cnt_liars p hr k fun j hj => h j (by omega)
    unfold masksP
    rw [List.countP_append, List.range_succ, List.filter_append, List.length_append]
    have h1 := row_one (hr ((k : Nat), c)) s d
    have h2 := List.countP_le_length (p := p) (l := rowMs (M ((k : Nat), c)) s d)
    cases hk : ly k with
    | true =>
      rw [List.filter_cons, if_pos hk]
      simp only [List.filter_nil, List.length_singleton]
      omega
    | false =>
      have h0 : (rowMs (M ((k : Nat), c)) s d).countP p = 0 := by
        rw [List.countP_eq_zero]
        intro m hm
        rw [h k (by omega) hk m hm]
        decide
      omega
theorem honest_law {hon : List Ax} {ly : Int → Bool} {n : Nat} {M : VM} {S : List Nat} {k : Nat} {x : Vo} (h : Inv24 hon ly n M) (hS : ∀ j : Nat, j < n → ly j = true → j ∈ S) (hk : S.length ≤ k)
    (hp : provedP M x.c x.s x.d n x.m ((k : Int) + 1) = true) : seenP ly hon x = true := by
  unfold provedP at hp
  obtain ⟨_, h2, h3⟩ := of_decide_eq_true hp
  have hbound : ((List.range n).filter fun j : Nat => ly j).length ≤ k := Nat.le_trans (nodup_le _ S (List.nodup_range.sublist List.filter_sublist) fun j hj => hS j (List.mem_range.1 (List.mem_filter.1 hj).1) (List.mem_filter.1 hj).2) hk
  have hex : ∀ p : W → Bool, k < (masksP M x.c x.s x.d n).countP p → ∃ j : Nat, ly j = false ∧ ∃ m ∈ rowMs (M ((j : Nat), x.c)) x.s x.d, p m = true := fun p hc => by
    refine Classical.byContradiction fun hno => ?_
    have := cnt_liars p h.ok.rise n (ly := ly) (c := x.c) (s := x.s) (d := x.d) (M := M) fun j hj hl m hm => by
      cases hpm : p m with
      | false => rfl
      | true => exact absurd ⟨j, hl, m, hm, hpm⟩ hno
    omega
  have hrow : ∀ {j : Nat} {m : W}, ly j = false → m ∈ rowMs (M ((j : Nat), x.c)) x.s x.d → ∃ y, y.c = x.c ∧ y.s = x.s ∧ y.d = x.d ∧ y.m = m ∧ Src hon j y := fun {j m} hl hm => by
    unfold rowMs at hm
    obtain ⟨y, hy, rfl⟩ := List.mem_map.1 hm
    obtain ⟨hy, hq⟩ := List.mem_filter.1 hy
    rw [Bool.and_eq_true] at hq
    exact ⟨y, h.cl _ _ y hy, of_decide_eq_true hq.1, of_decide_eq_true hq.2, rfl, h.src _ _ y hl hy⟩
  have hfin : ∀ a ∈ hon, ly a.1 = false → matchB a.2 x = true → seenP ly hon x = true := fun a ha hl hm => by
    unfold seenP
    rw [List.any_eq_true]
    exact ⟨a, ha, by rw [hl, hm]; rfl⟩
  by_cases h0 : x.m = 0#32
  · obtain ⟨j, hl, m, hm, _⟩ := hex (fun _ => true) (by rw [List.countP_true]; omega)
    obtain ⟨y, y1, y2, y3, _, ⟨a, ha, a1, a2, a3, a4⟩, _⟩ := hrow hl hm
    refine hfin a ha (by rw [a1]; exact hl) ?_
    unfold matchB
    simp [a2, a3, a4, y1, y2, y3, h0]
  · obtain ⟨i, hi, hxi⟩ : ∃ i, i < 32 ∧ x.m.getLsbD i = true := by
      refine Classical.byContradiction fun hno => h0 (BitVec.eq_of_getLsbD_eq fun i hi => ?_)
      cases hb : x.m.getLsbD i with
      | false => simp
      | true => exact absurd ⟨i, hi, hb⟩ hno
    have hmi : (maskP (masksP M x.c x.s x.d n) ((k : Int) + 1)).getLsbD i = true := by
      have := congrArg (·.getLsbD i) h3
      simp only [BitVec.getLsbD_and, BitVec.getLsbD_not, hi, hxi] at this
      cases hb : (maskP (masksP M x.c x.s x.d n) ((k : Int) + 1)).getLsbD i with
      | true => rfl
      | false => rw [hb] at this; simp at this
    rw [maskP_bit _ _ hi] at hmi
    have h5 := (of_decide_eq_true hmi).2
    obtain ⟨j, hl, m, hm, hb⟩ := hex (·.getLsbD i) (by unfold cntW at h5; omega)
    obtain ⟨y, y1, y2, y3, y4, _, s2⟩ := hrow hl hm
    obtain ⟨a, ha, a1, a2, a3, a4, a5⟩ := s2 i (by rw [y4]; exact hb)
    refine hfin a ha (by rw [a1]; exact hl) ?_
    have hne : a.2.m &&& x.m ≠ 0#32 := fun e => by
      have := congrArg (·.getLsbD i) e
      simp [a5, hxi] at this
    unfold matchB
    simp [a2, a3, a4, y1, y2, y3, hne]
end Go.Proofs.Ytdoaloimndehbaa
