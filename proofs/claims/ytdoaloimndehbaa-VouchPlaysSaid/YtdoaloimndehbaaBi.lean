/-
  Rows that rise, kept so by what is added; the state lent. Plain, with one theorem on memory.
-/
import Derived.Test.YtdoaloimndehbaaBh
namespace Go.Proofs.Ytdoaloimndehbaa
open Go.RowKit
set_option maxRecDepth 100000
/-- Put in by stamps. -/
def insS : List Vo → Vo → List Vo
  | [], x => [x]
  | y :: r, x => if y.s < x.s then y :: insS r x else x :: y :: r
theorem lb_cons (y : Vo) (r : List Vo) (s : Int) : lbP (y :: r) s = if y.s < s then lbP r s + 1 else 0 := by
  unfold lbP
  rw [List.takeWhile_cons]
  by_cases h : y.s < s
  · rw [if_pos (by simpa using h), if_pos h, List.length_cons]
  · rw [if_neg (by simpa using h), if_neg h]; rfl
theorem ins_eq : ∀ (l : List Vo) (x : Vo), l.take (lbP l x.s) ++ x :: l.drop (lbP l x.s) = insS l x
  | [], x => rfl
  | y :: r, x => by
    rw [lb_cons]
    unfold insS
    by_cases h : y.s < x.s
    · rw [if_pos h, if_pos h, List.take_succ_cons, List.drop_succ_cons, List.cons_append, ins_eq r x]
    · rw [if_neg h, if_neg h]; rfl
theorem insS_perm : ∀ (l : List Vo) (x : Vo), (insS l x).Perm (x :: l)
  | [], x => .refl _
  | y :: r, x => by
    unfold insS
    by_cases h : y.s < x.s
    · rw [if_pos h]
      exact ((insS_perm r x).cons y).trans (.swap _ _ _)
    · rw [if_neg h]
theorem insS_mem {l : List Vo} {x z : Vo} : z ∈ insS l x ↔ z = x ∨ z ∈ l := by
  rw [(insS_perm l x).mem_iff, List.mem_cons]
theorem rise_ins : ∀ {l : List Vo} {x : Vo}, Rise l → (∀ y ∈ l, y.s ≠ x.s) → Rise (insS l x)
  | [], x, _, _ => List.pairwise_singleton _ _
  | y :: r, x, h, hn => by
    obtain ⟨h1, h2⟩ := List.pairwise_cons.1 h
    unfold insS
    by_cases hy : y.s < x.s
    · rw [if_pos hy]
      refine List.pairwise_cons.2 ⟨fun z hz => ?_, rise_ins h2 fun z hz => hn z (List.mem_cons_of_mem _ hz)⟩
      rcases insS_mem.1 hz with rfl | hz
      · exact hy
      · exact h1 z hz
    · rw [if_neg hy]
      have hyx := hn y List.mem_cons_self
      refine List.pairwise_cons.2 ⟨fun z hz => ?_, h⟩
      rcases List.mem_cons.1 hz with rfl | hz
      · omega
      · have := h1 z hz; omega
/-- Who stands there. -/
theorem there_iff : ∀ {l : List Vo} (s : Int), Rise l → ∀ y, (l[lbP l s]? = some y ∧ y.s = s) ↔ (y ∈ l ∧ y.s = s)
  | [], s, _, y => by simp
  | z :: r, s, h, y => by
    obtain ⟨h1, h2⟩ := List.pairwise_cons.1 h
    rw [lb_cons]
    by_cases hz : z.s < s
    · rw [if_pos hz, List.getElem?_cons_succ, there_iff s h2 y, List.mem_cons]
      constructor
      · exact fun ⟨a, b⟩ => ⟨.inr a, b⟩
      · rintro ⟨rfl | a, b⟩
        · omega
        · exact ⟨a, b⟩
    · rw [if_neg hz, List.getElem?_cons_zero, List.mem_cons]
      constructor
      · rintro ⟨e, b⟩
        cases e
        exact ⟨.inl rfl, b⟩
      · rintro ⟨rfl | a, b⟩
        · exact ⟨rfl, b⟩
        · have := h1 y a; omega
theorem rise_map {l l' : List Vo} (h : l.map (·.s) = l'.map (·.s)) (hr : Rise l) : Rise l' := by
  have h1 : (l.map (·.s)).Pairwise (· < ·) := List.pairwise_map.2 hr
  rw [h] at h1
  exact List.pairwise_map.1 h1
/-- What is added, in two ways. -/
inductive AddV (l : List Vo) (x : Vo) : Option (List Vo) → Prop where
  | old {y : Vo} (hy : y ∈ l) (hs : y.s = x.s) (h : y.d ≠ x.d ∨ y.m ||| x.m = y.m) : AddV l x none
  | more {y : Vo} (hy : y ∈ l) (hs : y.s = x.s) (hd : y.d = x.d) (hm : y.m ||| x.m ≠ y.m) : AddV l x (some (l.map fun z => if z.s = x.s then ⟨z.c, z.s, z.d, z.m ||| x.m⟩ else z))
  | late (hn : ∀ y ∈ l, y.s ≠ x.s) (h4 : l.length = 4) (h0 : lbP l x.s = 0) : AddV l x none
  | full (hn : ∀ y ∈ l, y.s ≠ x.s) (h4 : l.length = 4) (h0 : lbP l x.s ≠ 0) : AddV l x (some ((insS l x).drop 1))
  | new (hn : ∀ y ∈ l, y.s ≠ x.s) (h4 : l.length ≠ 4) : AddV l x (some (insS l x))
theorem set_map : ∀ {l : List Vo} {i : Nat} {y : Vo} (f : Vo → Vo) (s : Int), Rise l → l[i]? = some y → y.s = s → l.set i (f y) = l.map fun z => if z.s = s then f z else z
  | [], i, y, f, s, _, h, _ => by simp at h
  | z :: r, 0, y, f, s, hr, h, hs => by
    obtain ⟨h1, h2⟩ := List.pairwise_cons.1 hr
    cases h
    rw [List.set_cons_zero, List.map_cons, if_pos hs]
    congr 1
    conv => lhs; rw [← List.map_id r]
    refine List.map_congr_left fun w hw => ?_
    rw [if_neg (by have := h1 w hw; omega)]
    rfl
  | z :: r, i + 1, y, f, s, hr, h, hs => by
    obtain ⟨h1, h2⟩ := List.pairwise_cons.1 hr
    rw [List.getElem?_cons_succ] at h
    have := h1 y (List.mem_of_getElem? h)
    rw [List.set_cons_succ, List.map_cons, if_neg (by omega), set_map f s h2 h hs]
theorem addR_view {l : List Vo} {x : Vo} (hr : Rise l) : AddV l x (addR l x) := by
  rw [addR_eq]
  have hno : (∀ y, l[lbP l x.s]? = some y → y.s ≠ x.s) → ∀ y ∈ l, y.s ≠ x.s := fun h y hy e => h y ((there_iff x.s hr y).2 ⟨hy, e⟩).1 e
  have hrest : (∀ y ∈ l, y.s ≠ x.s) → AddV l x (if l.length = 4 ∧ lbP l x.s = 0 then none else some ((l.take (lbP l x.s) ++ x :: l.drop (lbP l x.s)).drop (if l.length = 4 then 1 else 0))) := fun hn => by
    rw [ins_eq]
    by_cases h4 : l.length = 4
    · by_cases h0 : lbP l x.s = 0
      · rw [if_pos ⟨h4, h0⟩]
        exact .late hn h4 h0
      · rw [if_neg (fun h => h0 h.2), if_pos h4]
        exact .full hn h4 h0
    · rw [if_neg (fun h => h4 h.1), if_neg h4]
      exact .new hn h4
  cases hy : l[lbP l x.s]? with
  | none => exact hrest (hno fun y e => by rw [hy] at e; cases e)
  | some y =>
    dsimp only
    by_cases hs : y.s = x.s
    · rw [if_pos hs]
      have hm := List.mem_of_getElem? hy
      by_cases h : y.d ≠ x.d ∨ y.m ||| x.m = y.m
      · rw [if_pos h]
        exact .old hm hs h
      · rw [if_neg h, set_map (fun z => ⟨z.c, z.s, z.d, z.m ||| x.m⟩) x.s hr hy hs]
        exact .more hm hs (Classical.not_not.1 fun e => h (.inl e)) (fun e => h (.inr e))
    · rw [if_neg hs]
      exact hrest (hno fun z e => by rw [hy] at e; cases e; exact hs)
theorem addR_ok {l l' : List Vo} {x : Vo} (hr : Rise l) (h4 : l.length ≤ 4) (h : addR l x = some l') : Rise l' ∧ l'.length ≤ 4 := by
  have hv := addR_view (x := x) hr
  rw [h] at hv
  cases hv with
  | more hy hs hd hm =>
    refine ⟨rise_map (l := l) ?_ hr, by rw [List.length_map]; exact h4⟩
    rw [List.map_map]
    refine List.map_congr_left fun z _ => ?_
    show z.s = _
    simp only [Function.comp]
    split <;> rfl
  | full hn h4 h0 =>
    refine ⟨List.Pairwise.sublist (List.drop_sublist 1 _) (rise_ins hr hn), ?_⟩
    rw [List.length_drop, (insS_perm l x).length_eq, List.length_cons]
    omega
  | new hn h4' =>
    refine ⟨rise_ins hr hn, ?_⟩
    rw [(insS_perm l x).length_eq, List.length_cons]
    omega
theorem addM_ok {n : Int} {M : VM} (who : Int) (x : Vo) (h : VOk n M) : VOk n (addM n M who x).2 := by
  unfold addM
  split
  · cases ha : addR (M (who, x.c)) x with
    | none => exact h
    | some l =>
      obtain ⟨h1, h2⟩ := addR_ok (h.rise _) (h.len _) ha
      refine ⟨fun q => ?_, fun q => ?_⟩
      · show Rise (setM M _ l q)
        unfold setM
        split
        · exact h1
        · exact h.rise q
      · show (setM M _ l q).length ≤ 4
        unfold setM
        split
        · exact h2
        · exact h.len q
  · exact h
def noneM : VM := fun _ => []
theorem noneM_ok (n : Int) : VOk n noneM := ⟨fun _ => .nil, fun _ => Nat.zero_le _⟩
/-! ### the state lent, and taken back -/
theorem star_mem {A : Asrt} : ∀ {K : List Asrt} {r : PH}, Star K r → A ∈ K → ∃ h, A h ∧ h.le r
  | [], _, _, h => by cases h
  | B :: K, r, ⟨h1, h2, hB, hK, hd, e⟩, hm => by
    subst e
    rcases List.mem_cons.1 hm with rfl | hm
    · exact ⟨h1, hB, PH.le_l _ _⟩
    · obtain ⟨h, ha, hl⟩ := star_mem hK hm
      exact ⟨h, ha, hl.trans (PH.le_r hd)⟩
theorem own_in {F h : PH} {v : Value} {E size n : Nat} {xs : List Value} (ho : own v E size n xs h) (hl : h.le F) : SliceV F size v n xs := by
  have := own_slice ho (PH.emp_dj h)
  rw [PH.emp_un] at this
  exact SliceV.mono this hl
theorem vf_of {F hh : PH} {b bm : Nat} {n : Int} {L : List VE} (h : Star (VS b n bm L) hh) (hl : hh.le F) : VF F b n bm L := by
  refine ⟨?_, ?_, fun p => ?_⟩
  · obtain ⟨k, hk, hkl⟩ := star_mem h (A := vblk b n bm) List.mem_cons_self
    have := blk_cells hk (PH.emp_dj k)
    rw [PH.emp_un] at this
    exact this.mono (hkl.trans hl)
  · obtain ⟨k, hk, hkl⟩ := star_mem h (A := vmp bm L) (List.mem_cons_of_mem _ List.mem_cons_self)
    exact ⟨k, hk, hkl.trans hl⟩
  · cases hp : hasE L p with
    | false =>
      obtain ⟨a, _, c⟩ := row_none hp
      rw [a, c]
      exact VR.nil F
    | true =>
      have hm : own (valOf L p) 72 35 (rowOf L p).length (vCs (rowOf L p)) ∈ L.map ownV := (perm_open hp).mem_iff.2 List.mem_cons_self
      obtain ⟨k, hk, hkl⟩ := star_mem h (List.mem_cons_of_mem _ (List.mem_cons_of_mem _ hm))
      exact own_in hk (hkl.trans hl)
theorem sat_lend {F : PH} {K H : List Asrt} {w : World} (s : Sat F (K ++ H) w) : ∃ hh, Star K hh ∧ F.dj hh ∧ Sat (F.un hh) H w := by
  obtain ⟨r, hr, hd, hl⟩ := s
  obtain ⟨a, c, ha, hc, hac, rfl⟩ := Star.append.1 hr
  obtain ⟨d1, d2⟩ := star_swap hac hd
  exact ⟨a, ha, d1, c, hc, PH.dj_un d2 hac, by rwa [PH.un_assoc]⟩
theorem J_lend {C : Ctx} {k : List KItem} {l : Env} {F : PH} {K H : List Asrt} (h : ∀ hh, Star K hh → F.dj hh → J C k l (F.un hh) H) : J C k l F (K ++ H) := by
  unfold J at h ⊢
  intro a w ha hm hs
  obtain ⟨hh, h1, h2, h3⟩ := sat_lend hs
  exact h hh h1 h2 a w ha hm h3
theorem o_lend {C : Ctx} {ops : Array Oper} {rest : List Oper} {k : List KItem} {l : Env} {F : PH} {K H : List Asrt} (h : ∀ hh, Star K hh → F.dj hh → JM C false ops rest k l (F.un hh) H) : JM C false ops rest k l F (K ++ H) := by
  unfold JM JO at h ⊢
  intro hdst a w ha hm hs
  obtain ⟨hh, h1, h2, h3⟩ := sat_lend hs
  exact h hh h1 h2 hdst a w ha hm h3
theorem Sat.backAll {F hh : PH} {K H : List Asrt} {w : World} (hK : Star K hh) (hl : hh.le F) (s : Sat F H w) : Sat (PH.sub F hh) (K ++ H) w := by
  obtain ⟨r, ⟨h1, h2, hA, hr, hd0, e⟩, hd, hw⟩ := Sat.takeBack (A := Star K) hK hl s
  subst e
  exact ⟨h1.un h2, Star.append.2 ⟨h1, h2, hA, hr, hd0, rfl⟩, hd, hw⟩
end Go.Proofs.Ytdoaloimndehbaa
