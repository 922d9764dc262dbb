/-
  What was committed is chosen again: the rows that the statement makes, on plain data. Conditions are typed with each.
-/
import Derived.Test.YtdoaloimndehbaaHl
namespace Go.Proofs.Ytdoaloimndehbaa
open Go.RowKit
def keepP (v : Int) (k : Nat) (p : PrX) : Bool := decide (p.1 ≠ 1) || (decide (p.2.1 < v) && decide (k = 2))
def keepR (v : Int) (p : PrX) : Bool := decide (p.1 ≠ 1) || decide (p.2.1 < v)
def addX (v : Int) (b : List EntX) (k : Nat) : List PrX := if k < 2 then [(1, v, b, ())] else []
def mkC (v : Int) (b : List EntX) (k : Nat) (c : ChX) : ChX := (c.1, c.2.1, c.2.2.1, c.2.2.2.1.filter (keepP v k) ++ addX v b k, c.2.2.2.2.1.filter (keepR v) ++ addX v b k, ())
def mkH (v : Int) (b : List EntX) (k : Nat) (c : ChX) : SgX := ((k : Int), mkC v b k c, ())
def lie3 (s : SgX) : SgX := (3, s.2.1, ())
def isAB (s : SgX) : Bool := decide (s.1 = 0) || decide (s.1 = 1)
def isHB (s : SgX) : Bool := !decide (s.1 = 3)
def rowK (v : Int) (b : List EntX) (c0 c1 c2 : ChX) (ls : List SgX) : List SgX := [mkH v b 0 c0, mkH v b 1 c1, mkH v b 2 c2] ++ ls.map lie3
theorem rowK_a {v : Int} {b : List EntX} {c0 c1 c2 : ChX} {ls : List SgX} {s : SgX} (hs : s ∈ rowK v b c0 c1 c2 ls) (ha : isAB s = true) : ((1, v, b, ()) : PrX) ∈ s.2.1.2.2.2.1 := by
  unfold rowK at hs
  rcases List.mem_append.1 hs with hs | hs
  · simp only [List.mem_cons, List.not_mem_nil, or_false] at hs
    rcases hs with rfl | rfl | rfl
    · simp [mkH, mkC, addX]
    · simp [mkH, mkC, addX]
    · simp [isAB, mkH] at ha
  · obtain ⟨t, _, rfl⟩ := List.mem_map.1 hs
    simp [isAB, lie3] at ha
theorem rowK_h {v : Int} {b : List EntX} {c0 c1 c2 : ChX} {ls : List SgX} {s : SgX} (hs : s ∈ rowK v b c0 c1 c2 ls) (ha : isHB s = true) : ∀ y ∈ s.2.1.2.2.2.2.1, y.1 = 1 → y.2.1 < v ∨ y = (1, v, b, ()) := by
  have key : ∀ (k : Nat) (c : ChX), ∀ y ∈ (mkH v b k c).2.1.2.2.2.2.1, y.1 = 1 → y.2.1 < v ∨ y = (1, v, b, ()) := by
    intro k c y hy h1
    unfold mkH mkC at hy
    rcases List.mem_append.1 hy with hy | hy
    · have := (List.mem_filter.1 hy).2
      unfold keepR at this
      rw [h1] at this
      left
      simpa using this
    · unfold addX at hy
      split at hy
      · rw [List.mem_singleton] at hy
        exact .inr hy
      · cases hy
  unfold rowK at hs
  rcases List.mem_append.1 hs with hs | hs
  · simp only [List.mem_cons, List.not_mem_nil, or_false] at hs
    rcases hs with rfl | rfl | rfl
    · exact key 0 c0
    · exact key 1 c1
    · exact key 2 c2
  · obtain ⟨t, _, rfl⟩ := List.mem_map.1 hs
    simp [isHB, lie3] at ha
theorem rowK_counts {v : Int} {b : List EntX} {c0 c1 c2 : ChX} {ls : List SgX} (hl : ls.length ≤ 1) (skip : Nat) :
    ((rowK v b c0 c1 c2 ls).eraseIdx skip).length < ((rowK v b c0 c1 c2 ls).eraseIdx skip).countP isAB + 3 ∧ 1 ≤ ((rowK v b c0 c1 c2 ls).eraseIdx skip).countP isAB ∧ ((rowK v b c0 c1 c2 ls).eraseIdx skip).countP (fun s => !isHB s) ≤ 1 := by
  have e0 : isAB (mkH v b 0 c0) = true := by simp [isAB, mkH]
  have e1 : isAB (mkH v b 1 c1) = true := by simp [isAB, mkH]
  have e2 : isAB (mkH v b 2 c2) = false := by simp [isAB, mkH]
  have f0 : isHB (mkH v b 0 c0) = true := by simp [isHB, mkH]
  have f1 : isHB (mkH v b 1 c1) = true := by simp [isHB, mkH]
  have f2 : isHB (mkH v b 2 c2) = true := by simp [isHB, mkH]
  match ls, hl with
  | [], _ =>
    unfold rowK
    match skip with
    | 0 => simp [List.eraseIdx, List.countP_cons, e1, e2, f1, f2]
    | 1 => simp [List.eraseIdx, List.countP_cons, e0, e2, f0, f2]
    | 2 => simp [List.eraseIdx, List.countP_cons, e0, e1, f0, f1]
    | n + 3 => simp [List.eraseIdx, List.countP_cons, e0, e1, e2, f0, f1, f2]
  | [z], _ =>
    have e3 : isAB (lie3 z) = false := by simp [isAB, lie3]
    have f3 : isHB (lie3 z) = false := by simp [isHB, lie3]
    unfold rowK
    match skip with
    | 0 => simp [List.eraseIdx, List.countP_cons, e1, e2, e3, f1, f2, f3]
    | 1 => simp [List.eraseIdx, List.countP_cons, e0, e2, e3, f0, f2, f3]
    | 2 => simp [List.eraseIdx, List.countP_cons, e0, e1, e3, f0, f1, f3]
    | 3 => simp [List.eraseIdx, List.countP_cons, e0, e1, e2, f0, f1, f2]
    | n + 4 => simp [List.eraseIdx, List.countP_cons, e0, e1, e2, e3, f0, f1, f2, f3]
theorem keeps_law {v : Int} {b : List EntX} {c0 c1 c2 : ChX} {ls : List SgX} (hl : ls.length ≤ 1) (skip : Nat) {p : PtX} {bs : List (List EntX)} (h : chooseP ((rowK v b c0 c1 c2 ls).eraseIdx skip) = some (p, bs)) (hp : p.1 = 0) : ∃ es, bs[0]? = some es ∧ sameE es b = true := by
  obtain ⟨h1, h2, h3⟩ := rowK_counts (v := v) (b := b) (c0 := c0) (c1 := c1) (c2 := c2) hl skip
  exact keeps _ v b isAB (fun s hs ha => rowK_a (List.mem_of_mem_eraseIdx hs) ha) h1 h2 isHB (fun s hs ha => rowK_h (List.mem_of_mem_eraseIdx hs) ha) h3 h hp
theorem erase_step {α : Type} {l : List α} {j : Nat} {x : α} (skip : Nat) (hj : l[j]? = some x) : (l.take (j + 1)).eraseIdx skip = if j = skip then (l.take j).eraseIdx skip else (l.take j).eraseIdx skip ++ [x] := by
  obtain ⟨hlt, _⟩ := List.getElem?_eq_some_iff.1 hj
  have hl : (l.take j).length = j := by rw [List.length_take]; omega
  rw [List.take_add_one, hj]
  simp only [Option.toList]
  by_cases h1 : skip < j
  · rw [if_neg (by omega), List.eraseIdx_append_of_lt_length (by omega)]
  · by_cases h2 : j = skip
    · subst h2
      rw [if_pos rfl, List.eraseIdx_append_of_length_le (by omega), hl, Nat.sub_self, List.eraseIdx_of_length_le (l := l.take j) (by omega)]
      simp
    · rw [if_neg h2, List.eraseIdx_of_length_le (by rw [List.length_append, hl]; simp; omega), List.eraseIdx_of_length_le (by omega)]
end Go.Proofs.Ytdoaloimndehbaa
