/-
  The program's vouchings and the document's are the same. Plain.
  What is counted and proved is the same. Plain.
  Vouchings that aren't there; rows compared; entries lent in an open order. Conditions are typed with each.
-/
import Derived.Test.YtdoaloimndehbaaBp
namespace Go.Proofs.Ytdoaloimndehbaa
open Go.RowKit
set_option maxRecDepth 100000
/-- Sorted by stamps. -/
def Srt (l : List Vo) : Prop := l.Pairwise fun a b => a.s ≤ b.s
theorem srt_ins : ∀ {l : List Vo} (x : Vo), Srt l → Srt (insS l x)
  | [], x, _ => List.pairwise_singleton _ _
  | y :: r, x, h => by
    obtain ⟨h1, h2⟩ := List.pairwise_cons.1 h
    unfold insS
    by_cases hy : y.s < x.s
    · rw [if_pos hy]
      refine List.pairwise_cons.2 ⟨fun z hz => ?_, srt_ins x h2⟩
      rcases insS_mem.1 hz with rfl | hz
      · omega
      · exact h1 z hz
    · rw [if_neg hy]
      refine List.pairwise_cons.2 ⟨fun z hz => ?_, h⟩
      rcases List.mem_cons.1 hz with rfl | hz
      · omega
      · have := h1 z hz; omega
theorem insS_cons (y : Vo) (r : List Vo) (x : Vo) : insS (y :: r) x = if y.s < x.s then y :: insS r x else x :: y :: r := rfl
theorem ins_filter (p : Vo → Bool) : ∀ {l : List Vo} (x : Vo), Srt l → (insS l x).filter p = if p x then insS (l.filter p) x else l.filter p
  | [], x, _ => by unfold insS; rw [List.filter_cons, List.filter_nil]
  | y :: r, x, h => by
    obtain ⟨h1, h2⟩ := List.pairwise_cons.1 h
    rw [insS_cons]
    by_cases hy : y.s < x.s
    · rw [if_pos hy, List.filter_cons, List.filter_cons, ins_filter p x h2]
      cases hp : p y with
      | true =>
        rw [if_pos rfl, if_pos rfl]
        cases hx : p x with
        | true =>
          rw [if_pos rfl, if_pos rfl]
          rw [insS_cons, if_pos hy]
        | false => simp only [Bool.false_eq_true, if_false]
      | false => simp only [Bool.false_eq_true, if_false]
    · rw [if_neg hy, List.filter_cons]
      cases hx : p x with
      | true =>
        rw [if_pos rfl, if_pos rfl]
        have hall : ∀ z ∈ (y :: r).filter p, ¬ z.s < x.s := fun z hz => by
          rcases List.mem_cons.1 (List.mem_filter.1 hz).1 with rfl | hz
          · exact hy
          · have := h1 z hz; omega
        generalize (y :: r).filter p = k at hall
        cases k with
        | nil => rfl
        | cons z k =>
          rw [insS_cons, if_neg (hall z List.mem_cons_self)]
      | false => simp only [Bool.false_eq_true, if_false]
theorem isort_srt (l : List Vo) : Srt (isortV l) := by
  have key : ∀ (l acc : List Vo), Srt acc → Srt (l.foldl insS acc) := by
    intro l
    induction l with
    | nil => intro acc h; exact h
    | cons x l ih => intro acc h; exact ih _ (srt_ins x h)
  exact key l [] .nil
theorem isort_filter (p : Vo → Bool) (l : List Vo) : (isortV l).filter p = isortV (l.filter p) := by
  have key : ∀ (l acc : List Vo), Srt acc → (l.foldl insS acc).filter p = (l.filter p).foldl insS (acc.filter p) := by
    intro l
    induction l with
    | nil => intro acc _; rfl
    | cons x l ih =>
      intro acc h
      rw [List.foldl_cons, ih _ (srt_ins x h), ins_filter p x h, List.filter_cons]
      cases p x with
      | true => rw [if_pos rfl, if_pos rfl, List.foldl_cons]
      | false => rw [if_neg (by decide), if_neg (by decide)]
  exact key l [] .nil
theorem ins_map (f : Vo → Vo) (hf : ∀ y, (f y).s = y.s) : ∀ (l : List Vo) (x : Vo), insS (l.map f) (f x) = (insS l x).map f
  | [], x => rfl
  | y :: r, x => by
    rw [List.map_cons]
    unfold insS
    rw [hf, hf]
    by_cases h : y.s < x.s
    · rw [if_pos h, if_pos h, List.map_cons, ins_map f hf r x]
    · rw [if_neg h, if_neg h, List.map_cons, List.map_cons]
theorem isort_map (f : Vo → Vo) (hf : ∀ y, (f y).s = y.s) (l : List Vo) : isortV (l.map f) = (isortV l).map f := by
  have key : ∀ (l acc : List Vo), (l.map f).foldl insS (acc.map f) = (l.foldl insS acc).map f := by
    intro l
    induction l with
    | nil => intro acc; rfl
    | cons x l ih =>
      intro acc
      rw [List.map_cons, List.foldl_cons, List.foldl_cons, ins_map f hf, ih]
  exact key l []
theorem mem_ofR {R : List Ax} {who c : Int} {y : Vo} : y ∈ ofR R who c ↔ (who, y) ∈ R ∧ y.c = c := by
  unfold ofR
  rw [(isortV_perm _).mem_iff, List.mem_map]
  constructor
  · rintro ⟨⟨w, z⟩, hz, rfl⟩
    obtain ⟨h1, h2⟩ := List.mem_filter.1 hz
    unfold selB at h2
    rw [Bool.and_eq_true] at h2
    obtain rfl : w = who := of_decide_eq_true h2.1
    exact ⟨h1, of_decide_eq_true h2.2⟩
  · rintro ⟨h1, h2⟩
    exact ⟨(who, y), List.mem_filter.2 ⟨h1, by unfold selB; simp [h2]⟩, rfl⟩
theorem key_spec {who c s : Int} {o : Ax} (h : keyB who c s o = true) : o.1 = who ∧ o.2.c = c ∧ o.2.s = s := by
  unfold keyB at h
  rw [Bool.and_eq_true, Bool.and_eq_true] at h
  exact ⟨of_decide_eq_true h.1, of_decide_eq_true h.2.1, of_decide_eq_true h.2.2⟩
theorem key_mk {who c s : Int} {o : Ax} (h1 : o.1 = who) (h2 : o.2.c = c) (h3 : o.2.s = s) : keyB who c s o = true := by
  unfold keyB
  rw [decide_eq_true h1, decide_eq_true h2, decide_eq_true h3]; rfl
structure Rel (n : Int) (M : VM) (R : List Ax) : Prop where
  ok : VOk n M
  eq : ∀ who c, M (who, c) = ofR R who c
  un : R.Pairwise fun a b => ¬ (a.1 = b.1 ∧ a.2.c = b.2.c ∧ a.2.s = b.2.s)
  rg : ∀ o ∈ R, 0 ≤ o.1 ∧ o.1 < n
theorem rel_none (n : Int) : Rel n noneM [] := ⟨noneM_ok n, fun _ _ => rfl, .nil, fun o h => by cases h⟩
theorem set_mapR {who c s : Int} (g : Ax → Ax) : ∀ {R : List Ax} {i : Nat} {o : Ax}, R.Pairwise (fun a b => ¬ (a.1 = b.1 ∧ a.2.c = b.2.c ∧ a.2.s = b.2.s)) → R[i]? = some o → keyB who c s o = true →
    R.set i (g o) = R.map fun a => if keyB who c s a then g a else a
  | [], _, _, _, h, _ => by simp at h
  | a :: R, 0, o, hp, h, hk => by
    obtain ⟨h1, h2⟩ := List.pairwise_cons.1 hp
    cases h
    rw [List.set_cons_zero, List.map_cons, if_pos hk]
    congr 1
    conv => lhs; rw [← List.map_id R]
    refine List.map_congr_left fun b hb => ?_
    rw [if_neg (fun hkb => by
      obtain ⟨e1, e2, e3⟩ := key_spec hk
      obtain ⟨f1, f2, f3⟩ := key_spec hkb
      exact h1 b hb ⟨e1.trans f1.symm, e2.trans f2.symm, e3.trans f3.symm⟩)]
    rfl
  | a :: R, i + 1, o, hp, h, hk => by
    obtain ⟨h1, h2⟩ := List.pairwise_cons.1 hp
    rw [List.getElem?_cons_succ] at h
    have hno : ¬ keyB who c s a = true := fun hka => by
      obtain ⟨e1, e2, e3⟩ := key_spec hka
      obtain ⟨f1, f2, f3⟩ := key_spec hk
      exact h1 o (List.mem_of_getElem? h) ⟨e1.trans f1.symm, e2.trans f2.symm, e3.trans f3.symm⟩
    rw [List.set_cons_succ, List.map_cons, if_neg hno, set_mapR g h2 h hk]
theorem inB_who {n who c : Int} (h : inB n who c = true) : 0 ≤ who ∧ who < n := by
  have := of_decide_eq_true h
  exact ⟨this.1, this.2.1⟩
theorem rel_add {n : Int} {M : VM} {R R' : List Ax} {who : Int} {x : Vo} {r : Bool} (h : Rel n M R) (ha : AddRef n R who x r R') : r = (addM n M who x).1 ∧ Rel n (addM n M who x).2 R' := by
  have hok := addM_ok who x h.ok
  have hv := addR_view (x := x) (h.ok.rise (who, x.c))
  have hl := h.eq who x.c
  have hRise := h.ok.rise (who, x.c)
  unfold addM at hok ⊢
  generalize hM : M (who, x.c) = l at *
  cases ha with
  | out hi =>
    rw [if_neg (by rw [hi]; decide)]
    exact ⟨rfl, h⟩
  | @old i o hi ho hk hd =>
    rw [if_pos hi]
    obtain ⟨e1, e2, e3⟩ := key_spec hk
    have hol : o.2 ∈ l := by
      rw [hl, mem_ofR]
      refine ⟨?_, e2⟩
      rw [← e1]
      exact List.mem_of_getElem? ho
    generalize addR l x = res at hv
    cases hv with
    | old => exact ⟨rfl, h⟩
    | @more y hy hs hd' hm' =>
      obtain rfl := hRise.uniq hy hol (hs.trans e3.symm)
      exact (hd.elim (fun a => a hd') hm').elim
    | late hn => exact (hn _ hol e3).elim
    | full hn => exact (hn _ hol e3).elim
    | new hn => exact (hn _ hol e3).elim
  | @more i o hi ho hk hd hm =>
    rw [if_pos hi] at hok ⊢
    obtain ⟨e1, e2, e3⟩ := key_spec hk
    have hol : o.2 ∈ l := by
      rw [hl, mem_ofR]
      refine ⟨?_, e2⟩
      rw [← e1]
      exact List.mem_of_getElem? ho
    generalize addR l x = res at hv hok
    cases hv with
    | @old y hy hs h' =>
      obtain rfl := hRise.uniq hy hol (hs.trans e3.symm)
      exact (h'.elim (fun a => a hd) hm).elim
    | @more y hy hs hd' hm' =>
      refine ⟨rfl, hok, ?_, ?_, ?_⟩
      · intro who' c'
        have hset := set_mapR (fun a => (who, (⟨x.c, x.s, x.d, a.2.m ||| x.m⟩ : Vo))) h.un ho hk
        rw [hset]
        have hofm : ofR (R.map fun a => if keyB who x.c x.s a then (who, (⟨x.c, x.s, x.d, a.2.m ||| x.m⟩ : Vo)) else a) who' c' = (ofR R who' c').map fun y => if who' = who ∧ c' = x.c ∧ y.s = x.s then ⟨x.c, x.s, x.d, y.m ||| x.m⟩ else y := by
          unfold ofR
          rw [← isort_map _ (fun y => by
            by_cases e : who' = who ∧ c' = x.c ∧ y.s = x.s
            · rw [if_pos e]; exact e.2.2.symm
            · rw [if_neg e])]
          congr 1
          rw [List.filter_map, List.map_map, List.map_map]
          have hsel : (selB who' c' ∘ fun a => if keyB who x.c x.s a then (who, (⟨x.c, x.s, x.d, a.2.m ||| x.m⟩ : Vo)) else a) = selB who' c' := funext fun a => by
            simp only [Function.comp]
            by_cases hka : keyB who x.c x.s a = true
            · obtain ⟨a1, a2, a3⟩ := key_spec hka
              rw [if_pos hka]
              unfold selB
              rw [a1, a2]
            · rw [if_neg hka]
          rw [hsel]
          refine List.map_congr_left fun a ha => ?_
          have hs2 := (List.mem_filter.1 ha).2
          unfold selB at hs2
          rw [Bool.and_eq_true] at hs2
          have b1 := of_decide_eq_true hs2.1
          have b2 := of_decide_eq_true hs2.2
          simp only [Function.comp]
          by_cases hka : keyB who x.c x.s a = true
          · obtain ⟨a1, a2, a3⟩ := key_spec hka
            rw [if_pos hka, if_pos ⟨b1.symm.trans a1, b2.symm.trans a2, a3⟩]
          · rw [if_neg hka, if_neg (fun e => hka (key_mk (b1.trans e.1) (b2.trans e.2.1) e.2.2))]
        rw [hofm]
        show setM M (who, x.c) _ (who', c') = _
        rw [setM]
        by_cases e : ((who', c') : Pk) = (who, x.c)
        · obtain ⟨rfl, rfl⟩ := Prod.mk.inj e
          rw [if_pos rfl, ← hl]
          refine List.map_congr_left fun z hz => ?_
          by_cases ez : z.s = x.s
          · rw [if_pos ez, if_pos ⟨rfl, rfl, ez⟩]
            obtain rfl := hRise.uniq hz hol (ez.trans e3.symm)
            rw [e2, ez, hd]
          · rw [if_neg ez, if_neg (fun h => ez h.2.2)]
        · rw [if_neg e, h.eq who' c']
          conv => lhs; rw [← List.map_id (ofR R who' c')]
          refine List.map_congr_left fun z hz => ?_
          rw [if_neg (fun h => e (by rw [h.1, h.2.1]))]
          rfl
      · have hset := set_mapR (fun a => (who, (⟨x.c, x.s, x.d, a.2.m ||| x.m⟩ : Vo))) h.un ho hk
        rw [hset]
        refine List.pairwise_map.2 (h.un.imp fun {a b} hab => ?_)
        have same : ∀ a : Ax, (if keyB who x.c x.s a then (who, (⟨x.c, x.s, x.d, a.2.m ||| x.m⟩ : Vo)) else a).1 = a.1 ∧ (if keyB who x.c x.s a then (who, (⟨x.c, x.s, x.d, a.2.m ||| x.m⟩ : Vo)) else a).2.c = a.2.c ∧ (if keyB who x.c x.s a then (who, (⟨x.c, x.s, x.d, a.2.m ||| x.m⟩ : Vo)) else a).2.s = a.2.s := fun a => by
          by_cases hka : keyB who x.c x.s a = true
          · obtain ⟨a1, a2, a3⟩ := key_spec hka
            rw [if_pos hka]
            exact ⟨a1.symm, a2.symm, a3.symm⟩
          · rw [if_neg hka]
            exact ⟨rfl, rfl, rfl⟩
        obtain ⟨s1, s2, s3⟩ := same a
        obtain ⟨t1, t2, t3⟩ := same b
        rw [s1, s2, s3, t1, t2, t3]
        exact hab
      · intro a ha
        rcases List.mem_or_eq_of_mem_set ha with h1 | rfl
        · exact h.rg a h1
        · exact inB_who hi
    | late hn => exact (hn _ hol e3).elim
    | full hn => exact (hn _ hol e3).elim
    | new hn => exact (hn _ hol e3).elim
  | @late y hi hno h4 hy hlt =>
    rw [if_pos hi]
    rw [← hl] at h4 hy
    have hne : ∀ z ∈ l, z.s ≠ x.s := fun z hz e => by
      rw [hl, mem_ofR] at hz
      have := hno _ hz.1
      rw [key_mk (o := (who, z)) rfl hz.2 e] at this
      cases this
    generalize addR l x = res at hv
    cases hv with
    | old hz hs _ => exact (hne _ hz hs).elim
    | more hz hs _ _ => exact (hne _ hz hs).elim
    | late => exact ⟨rfl, h⟩
    | full _ _ h0 =>
      exfalso
      cases l with
      | nil => simp at hy
      | cons z k =>
        cases hy
        rw [lb_cons, if_neg (by omega)] at h0
        exact h0 rfl
    | new _ h4' => exact (h4' h4).elim
  | @full y hi hno h4 hy hge =>
    rw [if_pos hi] at hok ⊢
    rw [← hl] at h4 hy
    have hne : ∀ z ∈ l, z.s ≠ x.s := fun z hz e => by
      rw [hl, mem_ofR] at hz
      have := hno _ hz.1
      rw [key_mk (o := (who, z)) rfl hz.2 e] at this
      cases this
    have hyl := List.mem_of_getElem? hy
    have hys := hne y hyl
    generalize addR l x = res at hv hok
    cases hv with
    | old hz hs _ => exact (hne _ hz hs).elim
    | more hz hs _ _ => exact (hne _ hz hs).elim
    | late _ _ h0 =>
      exfalso
      cases l with
      | nil => simp at hy
      | cons z k =>
        cases hy
        rw [lb_cons, if_pos (by omega)] at h0
        exact absurd h0 (Nat.succ_ne_zero _)
    | new _ h4' => exact (h4' h4).elim
    | full _ _ _ =>
      refine ⟨rfl, hok, ?_, ?_, ?_⟩
      · intro who' c'
        have hyc : y.c = x.c := by rw [hl, mem_ofR] at hyl; exact hyl.2
        have hoff : ofR (R.filter fun o => !(decide (o.1 = who) && decide (o.2 = y))) who' c' = if who' = who then (ofR R who' c').filter (fun z => !decide (z = y)) else ofR R who' c' := by
          unfold ofR
          by_cases e : who' = who
          · rw [if_pos e, isort_filter]
            congr 1
            rw [List.filter_map, List.filter_filter, List.filter_filter]
            congr 1
            refine List.filter_congr fun a _ => ?_
            simp only [Function.comp]
            unfold selB
            by_cases e1 : a.1 = who'
            · rw [decide_eq_true e1, decide_eq_true (e1.trans e), Bool.true_and, Bool.true_and, Bool.and_comm]
            · rw [decide_eq_false e1, Bool.false_and, Bool.false_and, Bool.and_false]
          · rw [if_neg e]
            congr 2
            rw [List.filter_filter]
            refine List.filter_congr fun a _ => ?_
            unfold selB
            by_cases e1 : a.1 = who'
            · rw [decide_eq_false (fun h => e (e1.symm.trans h)), Bool.false_and, Bool.not_false, Bool.and_true]
            · rw [decide_eq_false e1, Bool.false_and, Bool.false_and]
        rw [ofR_snoc, hoff]
        show setM M (who, x.c) _ (who', c') = _
        rw [setM]
        by_cases e : ((who', c') : Pk) = (who, x.c)
        · obtain ⟨rfl, rfl⟩ := Prod.mk.inj e
          rw [if_pos rfl, if_pos rfl, if_pos (by unfold selB; simp), ← hl]
          cases l with
          | nil => simp at hy
          | cons z k =>
            cases hy
            have hnk : ∀ w ∈ k, w ≠ y := fun w hw e => by
              have := (List.pairwise_cons.1 hRise).1 w hw
              rw [e] at this
              omega
            rw [List.filter_cons, if_neg (by simp), List.filter_eq_self.2 (fun w hw => by simp [hnk w hw])]
            rw [insS_cons, if_pos (by omega)]
            rfl
        · rw [if_neg e, if_neg (by
            unfold selB
            intro h9
            rw [Bool.and_eq_true] at h9
            exact e (by rw [← of_decide_eq_true h9.1, ← of_decide_eq_true h9.2])), h.eq who' c']
          by_cases ew : who' = who
          · rw [if_pos ew, List.filter_eq_self.2]
            intro z hz
            rw [mem_ofR] at hz
            have : z ≠ y := fun e9 => e (by rw [ew, ← hz.2, e9, hyc])
            simp [this]
          · rw [if_neg ew]
      · refine List.pairwise_append.2 ⟨h.un.sublist List.filter_sublist, List.pairwise_singleton _ _, fun a ha b hb => ?_⟩
        obtain rfl := List.mem_singleton.1 hb
        rintro ⟨a1, a2, a3⟩
        have := hno a (List.mem_filter.1 ha).1
        rw [key_mk a1 a2 a3] at this
        cases this
      · intro a ha
        rcases List.mem_append.1 ha with h1 | h1
        · exact h.rg a (List.mem_filter.1 h1).1
        · obtain rfl := List.mem_singleton.1 h1
          exact inB_who hi
  | new hi hno h4 =>
    rw [if_pos hi] at hok ⊢
    rw [← hl] at h4
    have hne : ∀ z ∈ l, z.s ≠ x.s := fun z hz e => by
      rw [hl, mem_ofR] at hz
      have := hno _ hz.1
      rw [key_mk (o := (who, z)) rfl hz.2 e] at this
      cases this
    generalize addR l x = res at hv hok
    cases hv with
    | old hz hs _ => exact (hne _ hz hs).elim
    | more hz hs _ _ => exact (hne _ hz hs).elim
    | late _ h4' _ => omega
    | full _ h4' _ => omega
    | new _ _ =>
      refine ⟨rfl, hok, ?_, ?_, ?_⟩
      · intro who' c'
        rw [ofR_snoc]
        show setM M (who, x.c) _ (who', c') = _
        rw [setM]
        by_cases e : ((who', c') : Pk) = (who, x.c)
        · obtain ⟨rfl, rfl⟩ := Prod.mk.inj e
          rw [if_pos rfl, if_pos (by unfold selB; simp), ← hl]
        · rw [if_neg e, if_neg (by
            unfold selB
            intro h9
            rw [Bool.and_eq_true] at h9
            exact e (by rw [← of_decide_eq_true h9.1, ← of_decide_eq_true h9.2])), h.eq who' c']
      · refine List.pairwise_append.2 ⟨h.un, List.pairwise_singleton _ _, fun a ha b hb => ?_⟩
        obtain rfl := List.mem_singleton.1 hb
        rintro ⟨a1, a2, a3⟩
        have := hno a ha
        rw [key_mk a1 a2 a3] at this
        cases this
      · intro a ha
        rcases List.mem_append.1 ha with h1 | h1
        · exact h.rg a h1
        · obtain rfl := List.mem_singleton.1 h1
          exact inB_who hi
end Go.Proofs.Ytdoaloimndehbaa
namespace Go.Proofs.Ytdoaloimndehbaa
open Go.RowKit
set_option maxRecDepth 100000
theorem filter_two {α : Type} (p q r : α → Bool) (hpq : ∀ a, p a = (q a || r a)) (hd : ∀ a, (q a && r a) = false) : ∀ l : List α, (l.filter p).Perm (l.filter q ++ l.filter r)
  | [] => .refl _
  | a :: l => by
    have ih := filter_two p q r hpq hd l
    have h1 := hpq a
    have h2 := hd a
    rw [List.filter_cons, List.filter_cons, List.filter_cons]
    cases hq : q a with
    | true =>
      rw [hq, Bool.true_and] at h2
      rw [hq, Bool.true_or] at h1
      rw [h1, h2, if_pos rfl, if_pos rfl, if_neg (by decide), List.cons_append]
      exact ih.cons a
    | false =>
      rw [hq, Bool.false_or] at h1
      rw [h1, if_neg (by decide : ¬ (false = true))]
      cases hr : r a with
      | true =>
        rw [if_pos rfl, if_pos rfl]
        exact (ih.cons a).trans List.perm_middle.symm
      | false =>
        rw [if_neg (by decide), if_neg (by decide)]
        exact ih
def underB (k : Nat) (c s : Int) (d : Dg) (o : Ax) : Bool := decide (0 ≤ o.1 ∧ o.1 < (k : Int)) && votB c s d o
theorem masks_perm {R : List Ax} {M : VM} (h : ∀ who c, M (who, c) = ofR R who c) (c s : Int) (d : Dg) : ∀ k : Nat, (masksP M c s d k).Perm ((R.filter (underB k c s d)).map (·.2.m))
  | 0 => by
    have : R.filter (underB 0 c s d) = [] := by
      rw [List.filter_eq_nil_iff]
      intro o _
      unfold underB
      rw [decide_eq_false (by omega), Bool.false_and]
      decide
    rw [this]
    exact .refl _
  | k + 1 => by
    have ih := masks_perm h c s d k
    have hsplit := filter_two (underB (k + 1) c s d) (underB k c s d) (fun o => decide (o.1 = (k : Int)) && votB c s d o) (fun o => by
      unfold underB
      cases votB c s d o with
      | false => simp
      | true =>
        simp only [Bool.and_true]
        rw [Bool.eq_iff_iff, Bool.or_eq_true]
        simp only [decide_eq_true_eq]
        omega) (fun o => by
      unfold underB
      by_cases e : o.1 = (k : Int)
      · rw [decide_eq_false (p := 0 ≤ o.1 ∧ o.1 < (k : Int)) (by omega), Bool.false_and, Bool.false_and]
      · rw [decide_eq_false e, Bool.false_and, Bool.and_false]) R
    have hrow : (rowMs (M ((k : Nat), c)) s d).Perm ((R.filter fun o => decide (o.1 = (k : Int)) && votB c s d o).map (·.2.m)) := by
      rw [h]
      unfold rowMs ofR
      refine (((isortV_perm _).filter _).map _).trans ?_
      rw [List.filter_map, List.map_map, List.filter_filter]
      refine List.Perm.of_eq ?_
      congr 1
      refine List.filter_congr fun o _ => ?_
      unfold selB votB
      simp only [Function.comp]
      cases decide (o.1 = (k : Int)) <;> cases decide (o.2.c = c) <;> cases decide (o.2.s = s) <;> cases decide (o.2.d = d) <;> rfl
    unfold masksP
    refine (ih.append hrow).trans ?_
    rw [← List.map_append]
    exact (hsplit.map _).symm
theorem masks_all {n : Int} {R : List Ax} {M : VM} (h : Rel n M R) (hn : 0 ≤ n) (c s : Int) (d : Dg) : (masksP M c s d n.toNat).Perm (msR R c s d) := by
  refine (masks_perm h.eq c s d n.toNat).trans (List.Perm.of_eq ?_)
  unfold msR votR
  rw [List.map_map]
  congr 1
  refine List.filter_congr fun o ho => ?_
  have := h.rg o ho
  unfold underB
  rw [decide_eq_true (by omega), Bool.true_and]
theorem maskP_perm {ms ms' : List W} (h : ms.Perm ms') (at_ : Int) : maskP ms at_ = maskP ms' at_ := maskP_eq fun q hq => by
  rw [maskP_bit _ _ hq]
  unfold bitAt cntW
  rw [h.countP_eq]
theorem andnot_or (a b : W) : b &&& ~~~a = 0#32 ↔ a ||| b = a := by
  constructor
  · intro h
    refine BitVec.eq_of_getLsbD_eq fun i hi => ?_
    have := congrArg (·.getLsbD i) h
    simp only [BitVec.getLsbD_and, BitVec.getLsbD_not, hi] at this
    rw [BitVec.getLsbD_or]
    cases ha : a.getLsbD i <;> cases hb : b.getLsbD i <;> simp_all
  · intro h
    refine BitVec.eq_of_getLsbD_eq fun i hi => ?_
    have := congrArg (·.getLsbD i) h
    simp only [BitVec.getLsbD_or] at this
    simp only [BitVec.getLsbD_and, BitVec.getLsbD_not, hi]
    cases ha : a.getLsbD i <;> cases hb : b.getLsbD i <;> simp_all
theorem cnt_same {n : Int} {R : List Ax} {M : VM} (h : Rel n M R) (hn : 0 ≤ n) (c s : Int) (d : Dg) : (masksP M c s d n.toNat).length = (votR R c s d).length := by
  rw [(masks_all h hn c s d).length_eq]
  unfold msR
  rw [List.length_map]
theorem mask_same {n : Int} {R : List Ax} {M : VM} (h : Rel n M R) (hn : 0 ≤ n) (c s : Int) (d : Dg) (at_ : Int) : maskP (masksP M c s d n.toNat) at_ = maskP (msR R c s d) at_ := maskP_perm (masks_all h hn c s d) at_
theorem proved_same {n : Int} {R : List Ax} {M : VM} (h : Rel n M R) (hn : 0 ≤ n) (c s : Int) (d : Dg) (mask : W) (at_ : Int) : provedP M c s d n.toNat mask at_ = rprovedP R c s d mask at_ := by
  unfold provedP rprovedP
  rw [mask_same h hn, cnt_same h hn, decide_eq_decide, andnot_or]
end Go.Proofs.Ytdoaloimndehbaa
namespace Go.Proofs.Ytdoaloimndehbaa
open Go.RowKit
set_option maxRecDepth 100000
theorem vadd_nil (who : Int) (x : Vo) (F : PH) : Pure Try.prog 30 [.pointer none, .int .i64 who, .agg x.cs.toArray] F (.bool false) := by
  refine Spec.of3 Try.func30 rfl rfl fun X w0 => ?_
  refine jc rfl rfl ?_
  refine jr rfl ?_
  refine oE (ev_box rfl .agg) rfl ?_; rintro _ _ _ _ ⟨rfl, b5, rfl, rfl⟩
  repeat (first|refine zJ rfl rfl ?_|refine jr rfl ?_|refine jn ?_|refine zM rfl rfl ?_|(refine zC rfl rfl ?_ rfl ?_;omega)|(refine zD rfl rfl ?_ rfl ?_;omega)|(refine zP rfl ?_ rfl ?_;omega)|refine zG rfl rfl rfl rfl ?_|(refine jdq rfl rfl ?_ ?_ ?_;kernel_rfl;kernel_rfl)|refine zB rfl rfl rfl (by repeat constructor) rfl ?_|refine zH .here rfl rfl rfl rfl ?_|refine zH (.there .here) rfl rfl rfl rfl ?_|refine zH (.there (.there .here)) rfl rfl rfl rfl ?_)
  exact J_retv rfl (.tmp rfl .nil) [] (fun w s => s.drop) (PH.ler _) ⟨rfl, rfl⟩
theorem masks_nil (c s : Int) (d : Dg) (F : PH) : Pure Try.prog 61 [.pointer none, .int .i64 c, .int .i64 s, d.v] F (.slice none 0 0) := by
  refine Spec.of4 Try.func61 rfl rfl fun X w0 => ?_
  refine jc rfl rfl ?_
  refine jr rfl ?_
  refine oE (ev_box rfl .agg) rfl ?_; rintro _ _ _ _ ⟨rfl, b7, rfl, rfl⟩
  repeat (first|refine zJ rfl rfl ?_|refine jr rfl ?_|refine jn ?_|refine zM rfl rfl ?_|(refine zC rfl rfl ?_ rfl ?_;omega)|(refine zD rfl rfl ?_ rfl ?_;omega)|(refine zP rfl ?_ rfl ?_;omega)|refine zG rfl rfl rfl rfl ?_|(refine jdq rfl rfl ?_ ?_ ?_;kernel_rfl;kernel_rfl)|refine zB rfl rfl rfl (by repeat constructor) rfl ?_|refine zH .here rfl rfl rfl rfl ?_|refine zH (.there .here) rfl rfl rfl rfl ?_|refine zH (.there (.there .here)) rfl rfl rfl rfl ?_)
  exact J_retv rfl (.tmp rfl .nil) [] (fun w s => s.drop) (PH.ler _) ⟨rfl, rfl⟩
theorem count_nil (c s : Int) (d : Dg) (F : PH) : Pure Try.prog 32 [.pointer none, .int .i64 c, .int .i64 s, d.v] F (.int .i64 0) := by
  refine Spec.of4 Try.func32 rfl rfl fun X w0 => ?_
  refine jc rfl rfl ?_
  refine jr rfl ?_
  refine oE (ev_box rfl .agg) rfl ?_; rintro _ _ _ _ ⟨rfl, b7, rfl, rfl⟩
  repeat (first|refine zJ rfl rfl ?_|refine jr rfl ?_|refine jn ?_|refine zM rfl rfl ?_|(refine zC rfl rfl ?_ rfl ?_;omega)|(refine zD rfl rfl ?_ rfl ?_;omega)|(refine zP rfl ?_ rfl ?_;omega)|refine zG rfl rfl rfl rfl ?_|(refine jdq rfl rfl ?_ ?_ ?_;kernel_rfl;kernel_rfl)|refine zB rfl rfl rfl (by repeat constructor) rfl ?_|refine zH .here rfl rfl rfl rfl ?_|refine zH (.there .here) rfl rfl rfl rfl ?_|refine zH (.there (.there .here)) rfl rfl rfl rfl ?_)
  refine oS (ev_ldD (d := d) .here rfl (by rw [List.drop_zero, List.take_length])) rfl ?_
  refine oP (masks_nil c s d F) Try.call61 rfl rfl ?_
  repeat (first|refine zJ rfl rfl ?_|refine jr rfl ?_|refine jn ?_|refine zM rfl rfl ?_|(refine zC rfl rfl ?_ rfl ?_;omega)|(refine zD rfl rfl ?_ rfl ?_;omega)|(refine zP rfl ?_ rfl ?_;omega)|refine zG rfl rfl rfl rfl ?_|(refine jdq rfl rfl ?_ ?_ ?_;kernel_rfl;kernel_rfl)|refine zB rfl rfl rfl (by repeat constructor) rfl ?_|refine zH .here rfl rfl rfl rfl ?_|refine zH (.there .here) rfl rfl rfl rfl ?_|refine zH (.there (.there .here)) rfl rfl rfl rfl ?_)
  exact J_retv rfl (.tmp rfl .nil) [] (fun w s => s.drop) (PH.ler _) ⟨rfl, rfl⟩
theorem mask_nil (c s at_ : Int) (d : Dg) (F : PH) : Pure Try.prog 33 [.pointer none, .int .i64 c, .int .i64 s, d.v, .int .i64 at_] F (w32 0#32) := by
  refine Spec.of5 Try.func33 rfl rfl fun X w0 => ?_
  refine jc rfl rfl ?_
  refine jr rfl ?_
  refine oE (ev_box rfl .agg) rfl ?_; rintro _ _ _ _ ⟨rfl, b8, rfl, rfl⟩
  repeat (first|refine zJ rfl rfl ?_|refine jr rfl ?_|refine jn ?_|refine zM rfl rfl ?_|(refine zC rfl rfl ?_ rfl ?_;omega)|(refine zD rfl rfl ?_ rfl ?_;omega)|(refine zP rfl ?_ rfl ?_;omega)|refine zG rfl rfl rfl rfl ?_|(refine jdq rfl rfl ?_ ?_ ?_;kernel_rfl;kernel_rfl)|refine zB rfl rfl rfl (by repeat constructor) rfl ?_|refine zH .here rfl rfl rfl rfl ?_|refine zH (.there .here) rfl rfl rfl rfl ?_|refine zH (.there (.there .here)) rfl rfl rfl rfl ?_)
  refine oE (ev_alloc (cs := iCs (List.replicate 32 0)) rfl) rfl ?_
  rintro _ _ _ _ ⟨rfl, b11, rfl, rfl⟩
  repeat (first|refine zJ rfl rfl ?_|refine jr rfl ?_|refine jn ?_|refine zM rfl rfl ?_|(refine zC rfl rfl ?_ rfl ?_;omega)|(refine zD rfl rfl ?_ rfl ?_;omega)|(refine zP rfl ?_ rfl ?_;omega)|refine zG rfl rfl rfl rfl ?_|(refine jdq rfl rfl ?_ ?_ ?_;kernel_rfl;kernel_rfl)|refine zB rfl rfl rfl (by repeat constructor) rfl ?_|refine zH .here rfl rfl rfl rfl ?_|refine zH (.there .here) rfl rfl rfl rfl ?_|refine zH (.there (.there .here)) rfl rfl rfl rfl ?_)
  refine oS (ev_ldD (d := d) (.there .here) rfl (by rw [List.drop_zero, List.take_length])) rfl ?_
  refine oP (masks_nil c s d F) Try.call61 rfl rfl ?_
  repeat (first|refine zJ rfl rfl ?_|refine jr rfl ?_|refine jn ?_|refine zM rfl rfl ?_|(refine zC rfl rfl ?_ rfl ?_;omega)|(refine zD rfl rfl ?_ rfl ?_;omega)|(refine zP rfl ?_ rfl ?_;omega)|refine zG rfl rfl rfl rfl ?_|(refine jdq rfl rfl ?_ ?_ ?_;kernel_rfl;kernel_rfl)|refine zB rfl rfl rfl (by repeat constructor) rfl ?_|refine zH .here rfl rfl rfl rfl ?_|refine zH (.there .here) rfl rfl rfl rfl ?_|refine zH (.there (.there .here)) rfl rfl rfl rfl ?_)
  refine J_loop (ι := Nat) (fun j => j = 0) (fun j => j) (fun j => [(12, w32 0#32), (20, .slice none 0 0), (21, .int .i64 0), (22, .int .i64 0)]) (fun _ => F) (fun _ => X) 0 rfl ⟨⟨rfl, rfl, rfl, rfl, trivial⟩, fun _ s => s.drop.drop⟩ ?_
  rintro j rfl
  repeat (first|refine zJ rfl rfl ?_|refine jr rfl ?_|refine jn ?_|refine zM rfl rfl ?_|(refine zC rfl rfl ?_ rfl ?_;omega)|(refine zD rfl rfl ?_ rfl ?_;omega)|(refine zP rfl ?_ rfl ?_;omega)|refine zG rfl rfl rfl rfl ?_|(refine jdq rfl rfl ?_ ?_ ?_;kernel_rfl;kernel_rfl)|refine zB rfl rfl rfl (by repeat constructor) rfl ?_|refine zH .here rfl rfl rfl rfl ?_|refine zH (.there .here) rfl rfl rfl rfl ?_|refine zH (.there (.there .here)) rfl rfl rfl rfl ?_)
  exact J_retv rfl (.tmp rfl .nil) [] (fun w s => s) (PH.ler _) ⟨rfl, rfl⟩
theorem of_nil (who c : Int) (F : PH) : Pure Try.prog 34 [.pointer none, .int .i64 who, .int .i64 c] F (.slice none 0 0) := by
  refine Spec.of3 Try.func34 rfl rfl fun X w0 => ?_
  repeat (first|refine zJ rfl rfl ?_|refine jr rfl ?_|refine jn ?_|refine zM rfl rfl ?_|(refine zC rfl rfl ?_ rfl ?_;omega)|(refine zD rfl rfl ?_ rfl ?_;omega)|(refine zP rfl ?_ rfl ?_;omega)|refine zG rfl rfl rfl rfl ?_|(refine jdq rfl rfl ?_ ?_ ?_;kernel_rfl;kernel_rfl)|refine zB rfl rfl rfl (by repeat constructor) rfl ?_|refine zH .here rfl rfl rfl rfl ?_|refine zH (.there .here) rfl rfl rfl rfl ?_|refine zH (.there (.there .here)) rfl rfl rfl rfl ?_)
  exact J_retv rfl (.tmp rfl .nil) [] (fun w s => s) (PH.ler _) ⟨rfl, rfl⟩
theorem proved_nil (c s : Int) (d : Dg) (mask : W) (F : PH) : Pure Try.prog 31 [.pointer none, .int .i64 c, .int .i64 s, d.v, w32 mask, .int .i64 1] F (.bool false) := by
  refine Spec.of6 Try.func31 rfl rfl fun X w0 => ?_
  refine jc rfl rfl ?_
  refine jr rfl ?_
  refine oE (ev_box rfl .agg) rfl ?_; rintro _ _ _ _ ⟨rfl, b9, rfl, rfl⟩
  repeat (first|refine zJ rfl rfl ?_|refine jr rfl ?_|refine jn ?_|refine zM rfl rfl ?_|(refine zC rfl rfl ?_ rfl ?_;omega)|(refine zD rfl rfl ?_ rfl ?_;omega)|(refine zP rfl ?_ rfl ?_;omega)|refine zG rfl rfl rfl rfl ?_|(refine jdq rfl rfl ?_ ?_ ?_;kernel_rfl;kernel_rfl)|refine zB rfl rfl rfl (by repeat constructor) rfl ?_|refine zH .here rfl rfl rfl rfl ?_|refine zH (.there .here) rfl rfl rfl rfl ?_|refine zH (.there (.there .here)) rfl rfl rfl rfl ?_)
  refine oS (ev_ldD (d := d) .here rfl (by rw [List.drop_zero, List.take_length])) rfl ?_
  refine oP (count_nil c s d F) Try.call32 rfl rfl ?_
  repeat (first|refine zJ rfl rfl ?_|refine jr rfl ?_|refine jn ?_|refine zM rfl rfl ?_|(refine zC rfl rfl ?_ rfl ?_;omega)|(refine zD rfl rfl ?_ rfl ?_;omega)|(refine zP rfl ?_ rfl ?_;omega)|refine zG rfl rfl rfl rfl ?_|(refine jdq rfl rfl ?_ ?_ ?_;kernel_rfl;kernel_rfl)|refine zB rfl rfl rfl (by repeat constructor) rfl ?_|refine zH .here rfl rfl rfl rfl ?_|refine zH (.there .here) rfl rfl rfl rfl ?_|refine zH (.there (.there .here)) rfl rfl rfl rfl ?_)
  exact J_retv rfl (.tmp rfl .nil) [] (fun w s => s.drop) (PH.ler _) ⟨rfl, rfl⟩
theorem vsame_spec (v v' : Value) (l l' : List Vo) (F : PH) (h : VR F v l) (h' : VR F v' l') (hl : l = l') (hn : l.length ≤ 1000) : Pure Try.prog 36 [v, v'] F (.bool true) := by
  subst hl
  obtain ⟨a, c, rfl, hc⟩ := h.form
  obtain ⟨a', c', rfl, hc'⟩ := h'.form
  refine Spec.of2 Try.func36 rfl rfl fun X w0 => ?_
  repeat (first|refine zJ rfl rfl ?_|refine jr rfl ?_|refine jn ?_|refine zM rfl rfl ?_|(refine zC rfl rfl ?_ rfl ?_;omega)|(refine zD rfl rfl ?_ rfl ?_;omega)|(refine zP rfl ?_ rfl ?_;omega)|refine zG rfl rfl rfl rfl ?_|(refine jdq rfl rfl ?_ ?_ ?_;kernel_rfl;kernel_rfl)|refine zB rfl rfl rfl (by repeat constructor) rfl ?_|refine zH .here rfl rfl rfl rfl ?_|refine zH (.there .here) rfl rfl rfl rfl ?_|refine zH (.there (.there .here)) rfl rfl rfl rfl ?_)
  refine J_loop (ι := Nat) (fun j => j ≤ l.length) (fun j => l.length - j) (fun j => [(0, .slice a l.length c), (1, .slice a' l.length c'), (12, .int .i64 l.length), (13, .int .i64 j)]) (fun _ => F) (fun _ => X) 0 (Nat.zero_le _) ⟨⟨rfl, rfl, rfl, rfl, trivial⟩, fun _ s => s⟩ ?_
  intro j hj
  by_cases hlt : j < l.length
  · have hg : l[j]? = some l[j] := List.getElem?_eq_getElem hlt
    obtain ⟨b1, o1, rfl, hc1, _⟩ := h.at hg
    obtain ⟨b2, o2, rfl, hc2, _⟩ := h'.at hg
    generalize l[j] = y at *
    repeat (first|refine zJ rfl rfl ?_|refine jr rfl ?_|refine jn ?_|refine zM rfl rfl ?_|(refine zC rfl rfl ?_ rfl ?_;omega)|(refine zD rfl rfl ?_ rfl ?_;omega)|(refine zP rfl ?_ rfl ?_;omega)|refine zG rfl rfl rfl rfl ?_|(refine jdq rfl rfl ?_ ?_ ?_;kernel_rfl;kernel_rfl)|refine zB rfl rfl rfl (by repeat constructor) rfl ?_|refine zH .here rfl rfl rfl rfl ?_|refine zH (.there .here) rfl rfl rfl rfl ?_|refine zH (.there (.there .here)) rfl rfl rfl rfl ?_)
    refine oS (ev_indexAddr rfl rfl rfl hlt) rfl ?_
    refine oS (ev_load_agg (n := 35) rfl rfl (Rdb.ofF hc1) y.len) rfl ?_
    repeat (first|refine zJ rfl rfl ?_|refine jr rfl ?_|refine jn ?_|refine zM rfl rfl ?_|(refine zC rfl rfl ?_ rfl ?_;omega)|(refine zD rfl rfl ?_ rfl ?_;omega)|(refine zP rfl ?_ rfl ?_;omega)|refine zG rfl rfl rfl rfl ?_|(refine jdq rfl rfl ?_ ?_ ?_;kernel_rfl;kernel_rfl)|refine zB rfl rfl rfl (by repeat constructor) rfl ?_|refine zH .here rfl rfl rfl rfl ?_|refine zH (.there .here) rfl rfl rfl rfl ?_|refine zH (.there (.there .here)) rfl rfl rfl rfl ?_)
    refine oS (ev_indexAddr rfl rfl rfl hlt) rfl ?_
    refine oS (ev_load_agg (n := 35) rfl rfl (Rdb.ofF hc2) y.len) rfl ?_
    refine oS (ev_vo_neq rfl rfl) rfl ?_
    rw [decide_eq_true (rfl : y = y)]
    repeat (first|refine zJ rfl rfl ?_|refine jr rfl ?_|refine jn ?_|refine zM rfl rfl ?_|(refine zC rfl rfl ?_ rfl ?_;omega)|(refine zD rfl rfl ?_ rfl ?_;omega)|(refine zP rfl ?_ rfl ?_;omega)|refine zG rfl rfl rfl rfl ?_|(refine jdq rfl rfl ?_ ?_ ?_;kernel_rfl;kernel_rfl)|refine zB rfl rfl rfl (by repeat constructor) rfl ?_|refine zH .here rfl rfl rfl rfl ?_|refine zH (.there .here) rfl rfl rfl rfl ?_|refine zH (.there (.there .here)) rfl rfl rfl rfl ?_)
    exact J_again (j + 1) hlt (by omega) ⟨⟨rfl, rfl, rfl, rfl, trivial⟩, fun w s => s⟩
  · repeat (first|refine zJ rfl rfl ?_|refine jr rfl ?_|refine jn ?_|refine zM rfl rfl ?_|(refine zC rfl rfl ?_ rfl ?_;omega)|(refine zD rfl rfl ?_ rfl ?_;omega)|(refine zP rfl ?_ rfl ?_;omega)|refine zG rfl rfl rfl rfl ?_|(refine jdq rfl rfl ?_ ?_ ?_;kernel_rfl;kernel_rfl)|refine zB rfl rfl rfl (by repeat constructor) rfl ?_|refine zH .here rfl rfl rfl rfl ?_|refine zH (.there .here) rfl rfl rfl rfl ?_|refine zH (.there (.there .here)) rfl rfl rfl rfl ?_)
    exact J_retv rfl (.tmp rfl .nil) [] (fun w s => s) (PH.ler _) ⟨rfl, rfl⟩
theorem ev_bneq_same {P : Program} {l : Env} {F : PH} {H : List Asrt} {d : Option Nat} {T T' U : TypeId} {pos : String} {af : Array Edge} {g : Option (Nat × Bool)} {x y : Operand} {a b : Bool} (hx : opv l x = some (.bool a)) (hy : opv l y = some (.bool b)) (hu : P.underlying T = some .bool) (hr : a = b) : Ev P ⟨d, .binOp .neq T x y T', U, pos, af, g⟩ l F H (.bool false) := by
  subst hr
  have := ev_bool_neq (P := P) (F := F) (H := H) (d := d) (T := T) (T' := T') (U := U) (pos := pos) (af := af) (g := g) hx hy hu
  rwa [show (!(a == a)) = false from by simp] at this
theorem addref_len {n : Int} {R R' : List Ax} {who : Int} {x : Vo} {r : Bool} (h : AddRef n R who x r R') : R'.length ≤ R.length + 1 := by
  cases h with
  | out => omega
  | old => omega
  | more => rw [List.length_set]; omega
  | late => omega
  | @full y _ _ _ _ _ =>
    rw [List.length_append]
    have := List.length_filter_le (fun o' : Ax => !(decide (o'.1 = who) && decide (o'.2 = y))) R
    simp only [List.length_singleton]
    omega
  | new => rw [List.length_append]; simp only [List.length_singleton]; omega
theorem sat_dropAll {F : PH} : ∀ {K H : List Asrt} {w : World}, Sat F (K ++ H) w → Sat F H w
  | [], _, _, s => s
  | _ :: _, _, _, s => sat_dropAll s.drop
theorem sat_unlend {F hh : PH} {K H : List Asrt} {w : World} (hK : Star K hh) (hd : F.dj hh) (s : Sat (F.un hh) H w) : Sat F (K ++ H) w := by
  obtain ⟨r, hr, hdr, hw⟩ := s
  have h1 : F.dj r := hdr.mono (PH.le_l _ _)
  have h2 : hh.dj r := hdr.mono (PH.le_r hd)
  exact ⟨hh.un r, Star.append.2 ⟨hh, r, hK, hr, h2, rfl⟩, PH.dj_un_r hd h1, by rwa [← PH.un_assoc]⟩
theorem a_lend {C : Ctx} {S : World → Prop} {ops : Array Oper} {fuel : Nat} {listed : Array Bool} {k : List KItem} {l : Env} {F : PH} {K H : List Asrt} (h : ∀ hh, Star K hh → F.dj hh → JA C S ops fuel listed k l (F.un hh) H) : JA C S ops fuel listed k l F (K ++ H) := by
  unfold JA at *
  intro hS a w ha hm hs
  obtain ⟨hh, h1, h2, h3⟩ := sat_lend hs
  exact h hh h1 h2 (fun w s => hS w (sat_unlend h1 h2 s)) a w ha hm h3
end Go.Proofs.Ytdoaloimndehbaa
