/-
  A policy's minimal sets, plain: told rising. No condition.
-/
import Derived.Test.YtknhcjdcenoniaaNa
namespace Go.Proofs.Ytknhcjdcenoniaa
open Go.RowKit
def minB (f : Fm) (s : Nat) : Bool := f.holds s && (List.range s).all fun t => !(decide (t &&& s = t) && f.holds t)
def msetsTo (f : Fm) (j : Nat) : List Nat := (List.range j).filter (minB f)
def Fm.msets (f : Fm) : List Nat := msetsTo f 128
theorem msetsTo_succ (f : Fm) (j : Nat) : msetsTo f (j + 1) = if minB f j then msetsTo f j ++ [j] else msetsTo f j := by
  unfold msetsTo
  rw [List.range_succ, List.filter_append]
  cases h : minB f j <;> simp [h]
theorem msetsTo_len (f : Fm) (j : Nat) : (msetsTo f j).length ≤ j := filt_le _ _
theorem msetsTo_lt {f : Fm} {j s : Nat} (h : s ∈ msetsTo f j) : s < j ∧ minB f s = true := by
  unfold msetsTo at h
  rw [List.mem_filter, List.mem_range] at h
  exact h
theorem msetsTo_mem {f : Fm} {j s : Nat} (h : s < j) (hm : minB f s = true) : s ∈ msetsTo f j := by
  unfold msetsTo
  rw [List.mem_filter, List.mem_range]
  exact ⟨h, hm⟩
theorem minB_holds {f : Fm} {s : Nat} (h : minB f s = true) : f.holds s = true := by
  unfold minB at h
  rw [Bool.and_eq_true] at h; exact h.1
theorem minB_no {f : Fm} {s t : Nat} (h : minB f s = true) (hlt : t < s) (hs : t &&& s = t) : f.holds t = false := by
  unfold minB at h
  rw [Bool.and_eq_true, List.all_eq_true] at h
  have := h.2 t (List.mem_range.2 hlt)
  rw [decide_eq_true hs, Bool.true_and] at this
  simpa using this
theorem minB_sub {f : Fm} {s : Nat} (h : minB f s = true) : s &&& f.nms = s := by
  have hle : s &&& f.nms ≤ s := Nat.and_le_left
  rcases Nat.lt_or_eq_of_le hle with hlt | e
  · have := minB_no h hlt (by rw [Nat.and_comm s, Nat.and_assoc, Nat.and_self])
    rw [holds_named, minB_holds h] at this; cases this
  · exact e
theorem and_tr {a b c : Nat} (h1 : a &&& b = a) (h2 : b &&& c = b) : a &&& c = a := by
  rw [← h1, Nat.and_assoc, h2]
theorem has_min {f : Fm} : ∀ (t : Nat), f.holds t = true → ∃ m, m ≤ t ∧ m &&& t = m ∧ minB f m = true := by
  intro t
  induction t using Nat.strongRecOn with
  | ind t ih =>
    intro h
    cases hm : minB f t with
    | true => exact ⟨t, Nat.le_refl _, Nat.and_self t, hm⟩
    | false =>
      unfold minB at hm
      rw [h, Bool.true_and, List.all_eq_false] at hm
      obtain ⟨x, hx, hb⟩ := hm
      have hx' := List.mem_range.1 hx
      simp only [Bool.not_eq_true, Bool.not_eq_false', Bool.and_eq_true, decide_eq_true_eq] at hb
      obtain ⟨m, h1, h2, h3⟩ := ih x hx' hb.2
      exact ⟨m, by omega, and_tr h2 hb.1, h3⟩
theorem sub_cpl {a b : Nat} (ha : a < 4294967296) : a &&& cpl b = 0 ↔ a &&& b = a := by
  constructor
  · intro h
    apply Nat.eq_of_testBit_eq
    intro i
    rw [Nat.testBit_and]
    by_cases hi : i < 32
    · have := congrArg (·.testBit i) h
      simp only [Nat.testBit_and, Nat.zero_testBit, cpl_bit hi] at this
      cases h1 : a.testBit i <;> cases h2 : b.testBit i <;> simp_all
    · rw [Nat.testBit_lt_two_pow (x := a) (Nat.lt_of_lt_of_le (show a < 2 ^ 32 from ha) (Nat.pow_le_pow_right (by decide) (by omega))), Bool.false_and]
  · intro h
    apply Nat.eq_of_testBit_eq
    intro i
    rw [Nat.testBit_and, Nat.zero_testBit]
    by_cases hi : i < 32
    · have := congrArg (·.testBit i) h
      simp only [Nat.testBit_and] at this
      rw [cpl_bit hi]
      cases h1 : a.testBit i <;> cases h2 : b.testBit i <;> simp_all
    · rw [Nat.testBit_lt_two_pow (x := a) (Nat.lt_of_lt_of_le (show a < 2 ^ 32 from ha) (Nat.pow_le_pow_right (by decide) (by omega))), Bool.false_and]
/-- Does what was told hold a part of s? -/
theorem told_part {f : Fm} {s : Nat} (hs : s < 4294967296) (h : f.holds s = true) : (msetsTo f s).any (fun t => decide (t &&& cpl s = 0)) = !minB f s := by
  cases hm : minB f s with
  | true =>
    rw [Bool.not_true, List.any_eq_false]
    intro t ht hd
    obtain ⟨hlt, hmt⟩ := msetsTo_lt ht
    have := minB_no hm hlt ((sub_cpl (by omega)).1 (of_decide_eq_true hd))
    rw [minB_holds hmt] at this; cases this
  | false =>
    rw [Bool.not_false, List.any_eq_true]
    obtain ⟨m, h1, h2, h3⟩ := has_min s h
    have hne : m ≠ s := fun e => by subst e; rw [h3] at hm; cases hm
    exact ⟨m, msetsTo_mem (by omega) h3, decide_eq_true ((sub_cpl (by omega)).2 h2)⟩
theorem msetsTo_gap {f : Fm} {j : Nat} : ∀ {k : Nat}, j ≤ k → (∀ t, j ≤ t → t < k → minB f t = false) → msetsTo f k = msetsTo f j := by
  intro k
  induction k with
  | zero => intro hj _; obtain rfl : j = 0 := by omega
            rfl
  | succ k ih =>
    intro hj h
    rcases Nat.lt_or_eq_of_le hj with hlt | e
    · rw [msetsTo_succ, h k (by omega) (by omega)]
      exact ih (by omega) fun t h1 h2 => h t h1 (by omega)
    · rw [e]
theorem msetsTo_end {f : Fm} (h : f.nms < 128) : msetsTo f (f.nms + 1) = f.msets := by
  refine (msetsTo_gap (by omega) fun t h1 _ => ?_).symm
  cases hm : minB f t with
  | false => rfl
  | true =>
    have := minB_sub hm
    have h2 : t &&& f.nms ≤ f.nms := Nat.and_le_right
    omega
/-- The next set that is asked about. -/
def nextP (a s : Nat) : Nat := (128 + s - a) &&& a
theorem msetsTo_next {f : Fm} {s : Nat} (h : f.nms < 128) (hs : s &&& f.nms = s) (hlt : s < f.nms) : s < nextP f.nms s ∧ nextP f.nms s ≤ f.nms ∧ nextP f.nms s &&& f.nms = nextP f.nms s ∧ msetsTo f (nextP f.nms s) = msetsTo f (s + 1) := by
  have h1 := next_part 7 f.nms s f.nms h hs (Nat.and_self _) hlt
  have h1' : s < nextP f.nms s ∧ nextP f.nms s ≤ f.nms := h1
  refine ⟨h1'.1, h1'.2, ?_, msetsTo_gap (by omega) fun t h2 h3 => ?_⟩
  · unfold nextP; rw [Nat.and_assoc, Nat.and_self]
  · cases hm : minB f t with
    | false => rfl
    | true =>
      have := (next_part 7 f.nms s t h hs (minB_sub hm) (by omega)).2
      have h4 : nextP f.nms s ≤ t := this
      omega
theorem msets_lt {f : Fm} {s : Nat} (h : s ∈ f.msets) : s < 128 ∧ minB f s = true := msetsTo_lt h
/-- What holds for a set below 128 has a minimal set in it. -/
theorem msets_in {f : Fm} {t : Nat} (ht : t < 128) (h : f.holds t = true) : ∃ m ∈ f.msets, m &&& t = m := by
  obtain ⟨m, h1, h2, h3⟩ := has_min t h
  exact ⟨m, msetsTo_mem (by omega) h3, h2⟩
theorem holds_sub {f : Fm} {s t : Nat} (hst : s &&& t = s) (h : f.holds s = true) : f.holds t = true := holds_mono f (fun i _ hi => by
  have := congrArg (·.testBit i) hst
  simp only [Nat.testBit_and] at this
  rw [hi] at this; simpa using this) h
theorem holds_iff {f : Fm} (hr : f.rng 7 = true) (s : Nat) : f.holds s = f.msets.any fun m => decide (m &&& s = m) := by
  cases hh : f.holds s with
  | true =>
    have hn := nms_lt f hr
    have h2 : f.holds (s &&& f.nms) = true := by rw [holds_named]; exact hh
    obtain ⟨m, hm, h3⟩ := msets_in (t := s &&& f.nms) (Nat.lt_of_le_of_lt Nat.and_le_right hn) h2
    symm
    rw [List.any_eq_true]
    exact ⟨m, hm, decide_eq_true (and_tr h3 (by rw [Nat.and_comm s, Nat.and_assoc, Nat.and_self]))⟩
  | false =>
    symm
    rw [List.any_eq_false]
    intro m hm hd
    have := holds_sub (of_decide_eq_true hd) (minB_holds (msets_lt hm).2)
    rw [this] at hh; cases hh
theorem impl_iff {f g : Fm} : f.msets.all (fun m => g.holds m) = (List.range 128).all (fun s => !f.holds s || g.holds s) := by
  rw [Bool.eq_iff_iff, List.all_eq_true, List.all_eq_true]
  constructor
  · intro h s hs
    have hs' := List.mem_range.1 hs
    cases hh : f.holds s with
    | false => rfl
    | true =>
      obtain ⟨m, hm, h2⟩ := msets_in hs' hh
      rw [Bool.not_true, Bool.false_or]
      exact holds_sub h2 (h m hm)
  · intro h m hm
    have h1 := msets_lt hm
    have := h m (List.mem_range.2 h1.1)
    rw [minB_holds h1.2, Bool.not_true, Bool.false_or] at this
    exact this
theorem minB_congr {f g : Fm} {s : Nat} (h : ∀ t, t ≤ s → f.holds t = g.holds t) : minB f s = minB g s := by
  unfold minB
  rw [h s (Nat.le_refl _)]
  congr 1
  rw [Bool.eq_iff_iff, List.all_eq_true, List.all_eq_true]
  constructor
  · intro hh t ht
    have := hh t ht
    rwa [h t (by have := List.mem_range.1 ht; omega)] at this
  · intro hh t ht
    have := hh t ht
    rwa [h t (by have := List.mem_range.1 ht; omega)]
theorem msets_congr {f g : Fm} (h : ∀ t, t < 128 → f.holds t = g.holds t) : f.msets = g.msets := by
  unfold Fm.msets msetsTo
  apply List.filter_congr
  intro s hs
  exact minB_congr fun t ht => h t (by have := List.mem_range.1 hs; omega)
theorem equal_iff {f g : Fm} (hf : f.rng 7 = true) (hg : g.rng 7 = true) : decide (f.msets = g.msets) = ((List.range 128).all (fun s => !f.holds s || g.holds s) && (List.range 128).all (fun s => !g.holds s || f.holds s)) := by
  rw [Bool.eq_iff_iff, decide_eq_true_eq, Bool.and_eq_true, List.all_eq_true, List.all_eq_true]
  constructor
  · intro h
    have : ∀ s, f.holds s = g.holds s := fun s => by rw [holds_iff hf, holds_iff hg, h]
    exact ⟨fun s _ => by rw [this]; cases g.holds s <;> rfl, fun s _ => by rw [this]; cases g.holds s <;> rfl⟩
  · rintro ⟨h1, h2⟩
    refine msets_congr fun t ht => ?_
    have a := h1 t (List.mem_range.2 ht)
    have b := h2 t (List.mem_range.2 ht)
    cases h3 : f.holds t <;> cases h4 : g.holds t <;> simp_all
theorem msets_ne {f : Fm} (hr : f.rng 7 = true) : f.msets ≠ [] := by
  obtain ⟨m, hm, _⟩ := msets_in (nms_lt f hr) (holds_all f hr)
  intro e; rw [e] at hm; cases hm
/-! who is needed, who is idle -/
def needN (f : Fm) : Nat := f.msets.foldl (· &&& ·) f.nms
def orN (f : Fm) : Nat := f.msets.foldl (· ||| ·) 0
def cntN (f : Fm) (o : Nat) : Nat := f.msets.countP (·.testBit o)
theorem fold_and_bit (o : Nat) : ∀ (l : List Nat) (a : Nat), (l.foldl (· &&& ·) a).testBit o = (a.testBit o && l.all (·.testBit o))
  | [], a => by simp
  | x :: l, a => by rw [List.foldl_cons, fold_and_bit o l, Nat.testBit_and, List.all_cons, Bool.and_assoc]
theorem fold_or_bit (o : Nat) : ∀ (l : List Nat) (a : Nat), (l.foldl (· ||| ·) a).testBit o = (a.testBit o || l.any (·.testBit o))
  | [], a => by simp
  | x :: l, a => by rw [List.foldl_cons, fold_or_bit o l, Nat.testBit_or, List.any_cons, Bool.or_assoc]
theorem fold_and_le : ∀ (l : List Nat) (a : Nat), l.foldl (· &&& ·) a ≤ a
  | [], _ => Nat.le_refl _
  | x :: l, a => Nat.le_trans (fold_and_le l (a &&& x)) Nat.and_le_left
theorem fold_or_lt : ∀ (l : List Nat) (a : Nat), a < 128 → (∀ x ∈ l, x < 128) → l.foldl (· ||| ·) a < 128
  | [], _, h, _ => h
  | x :: l, a, h, hl => fold_or_lt l (a ||| x) (Nat.or_lt_two_pow (n := 7) h (hl x (List.mem_cons_self))) fun y hy => hl y (List.mem_cons_of_mem _ hy)
theorem need_bit {f : Fm} (hr : f.rng 7 = true) (o : Nat) : (needN f).testBit o = decide (cntN f o = f.msets.length) := by
  unfold needN cntN
  rw [fold_and_bit, Bool.eq_iff_iff, Bool.and_eq_true, List.all_eq_true, decide_eq_true_eq, List.countP_eq_length]
  constructor
  · exact fun h => h.2
  · intro h
    refine ⟨?_, h⟩
    cases hm : f.msets with
    | nil => exact absurd hm (msets_ne hr)
    | cons m l =>
      have hmem : m ∈ f.msets := by rw [hm]; exact List.mem_cons_self
      have hb := h m hmem
      have := congrArg (·.testBit o) (minB_sub (msets_lt hmem).2)
      simp only [Nat.testBit_and, hb, Bool.true_and] at this
      exact this
theorem idle_bit {f : Fm} (hr : f.rng 7 = true) {o : Nat} (ho : o < 7) : (f.nms &&& cpl (orN f)).testBit o = (decide (cntN f o = 0) && f.stands o) := by
  rw [Nat.testBit_and, cpl_bit (by omega), nms_stands o f hr]
  unfold orN cntN
  rw [fold_or_bit, Nat.zero_testBit, Bool.false_or, Bool.and_comm]
  congr 1
  rw [Bool.eq_iff_iff, Bool.not_eq_true', List.any_eq_false, decide_eq_true_eq, List.countP_eq_zero]
end Go.Proofs.Ytknhcjdcenoniaa
