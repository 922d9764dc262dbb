/-
  What all honest replicas tell is enough: on plain data. Conditions are typed with each.
-/
import Derived.Test.YtdoaloimndehbaaHm
namespace Go.Proofs.Ytdoaloimndehbaa
open Go.RowKit
theorem laterB_none (x : PrX) : laterB none x = true := rfl
theorem bestP_some {a b : Int} {l : List SgX} {seq : Int} {s : SgX} {x : PrX} (hs : s ∈ l) (hx : x ∈ s.2.1.2.2.2.1) (h1 : x.1 = seq) (hst : standsB a b l x = true) : ∃ q, bestP a b l seq = some q := by
  have stay : ∀ (xs : List PrX) (q : PrX), ∃ q', xs.foldl (bestS a b l seq) (some q) = some q' := by
    intro xs
    induction xs with
    | nil => exact fun q => ⟨q, rfl⟩
    | cons y r ih =>
      intro q
      rcases bestS_or (a := a) (b := b) (l := l) (seq := seq) (some q) y with ⟨e, _, _⟩ | e
      · rw [List.foldl_cons, e]; exact ih y
      · rw [List.foldl_cons, e]; exact ih q
  have got : ∀ (xs : List PrX) (o : Option PrX), x ∈ xs → ∃ q', xs.foldl (bestS a b l seq) o = some q' := by
    intro xs
    induction xs with
    | nil => exact fun o h => by cases h
    | cons y r ih =>
      intro o h
      cases o with
      | some q => exact stay _ q
      | none =>
        rcases List.mem_cons.1 h with rfl | h
        · rw [List.foldl_cons, show bestS a b l seq none x = some x from by unfold bestS; rw [laterB_none, hst, decide_eq_true h1]; rfl]
          exact stay r x
        · rw [List.foldl_cons]; exact ih _ h
  have stay2 : ∀ (ss : List SgX) (q : PrX), ∃ q', ss.foldl (bestR a b l seq) (some q) = some q' := by
    intro ss
    induction ss with
    | nil => exact fun q => ⟨q, rfl⟩
    | cons t r ih =>
      intro q
      obtain ⟨q', e⟩ := stay t.2.1.2.2.2.1 q
      rw [List.foldl_cons, show bestR a b l seq (some q) t = some q' from e]
      exact ih q'
  have got2 : ∀ (ss : List SgX) (o : Option PrX), s ∈ ss → ∃ q', ss.foldl (bestR a b l seq) o = some q' := by
    intro ss
    induction ss with
    | nil => exact fun o h => by cases h
    | cons t r ih =>
      intro o h
      rcases List.mem_cons.1 h with rfl | h
      · obtain ⟨q', e⟩ := got s.2.1.2.2.2.1 o hx
        rw [List.foldl_cons, show bestR a b l seq o s = some q' from e]
        exact stay2 r q'
      · rw [List.foldl_cons]; exact ih _ h
  exact got2 l none hs
/-- A base that is enough, and not below another one that is. -/
def BaseGe (a b : Int) (l : List SgX) (n : Int) (o : Option PtX) : Prop := ∃ p, o = some p ∧ n ≤ p.1 ∧ enoughB a b l p = true
theorem baseS_or {a b : Int} {l : List SgX} (o : Option PtX) (x : PtX) : (baseS a b l o x = some x ∧ enoughB a b l x = true ∧ ∀ p, o = some p → p.1 < x.1) ∨ (baseS a b l o x = o ∧ (enoughB a b l x = true → ∃ p, o = some p ∧ x.1 ≤ p.1)) := by
  unfold baseS
  cases o with
  | none =>
    cases he : enoughB a b l x with
    | true => exact .inl ⟨rfl, rfl, fun p h => by cases h⟩
    | false => exact .inr ⟨rfl, fun h => by cases h⟩
  | some p =>
    cases he : enoughB a b l x with
    | true =>
      by_cases hl : p.1 < x.1
      · exact .inl ⟨by simp [hl], rfl, fun p' h => by cases h; exact hl⟩
      · exact .inr ⟨by simp [hl], fun _ => ⟨p, rfl, by omega⟩⟩
    | false => exact .inr ⟨by simp, fun h => by cases h⟩
theorem baseP_ge {a b : Int} {l : List SgX} {s : SgX} {x : PtX} (hs : s ∈ l) (hx : x ∈ s.2.1.2.2.1) (he : enoughB a b l x = true) : BaseGe a b l x.1 (baseP a b l) := by
  have keep1 : ∀ (o : Option PtX) (y : PtX), BaseGe a b l x.1 o → BaseGe a b l x.1 (baseS a b l o y) := by
    rintro o y ⟨p, rfl, h1, h2⟩
    rcases baseS_or (a := a) (b := b) (l := l) (some p) y with ⟨e, h3, h4⟩ | ⟨e, _⟩
    · rw [e]
      exact ⟨y, rfl, by have := h4 p rfl; omega, h3⟩
    · rw [e]
      exact ⟨p, rfl, h1, h2⟩
  have keep2 : ∀ (ys : List PtX) (o : Option PtX), BaseGe a b l x.1 o → BaseGe a b l x.1 (ys.foldl (baseS a b l) o) := by
    intro ys
    induction ys with
    | nil => exact fun o h => h
    | cons y r ih => exact fun o h => ih _ (keep1 o y h)
  have keep3 : ∀ (ss : List SgX) (o : Option PtX), BaseGe a b l x.1 o → BaseGe a b l x.1 (ss.foldl (baseR a b l) o) := by
    intro ss
    induction ss with
    | nil => exact fun o h => h
    | cons y r ih => exact fun o h => ih _ (keep2 _ o h)
  -- whatever stands so far is enough
  have EO : ∀ (ys : List PtX) (o : Option PtX), (∀ p, o = some p → enoughB a b l p = true) → ∀ p, ys.foldl (baseS a b l) o = some p → enoughB a b l p = true := by
    intro ys
    induction ys with
    | nil => exact fun o h => h
    | cons y r ih =>
      intro o h
      refine ih _ fun p hp => ?_
      rcases baseS_or (a := a) (b := b) (l := l) o y with ⟨e, h3, _⟩ | ⟨e, _⟩
      · rw [e] at hp; cases hp; exact h3
      · rw [e] at hp; exact h p hp
  have got1 : ∀ (ys : List PtX) (o : Option PtX), (∀ p, o = some p → enoughB a b l p = true) → x ∈ ys → BaseGe a b l x.1 (ys.foldl (baseS a b l) o) := by
    intro ys
    induction ys with
    | nil => exact fun o _ h => by cases h
    | cons y r ih =>
      intro o ho h
      rcases List.mem_cons.1 h with rfl | h
      · rw [List.foldl_cons]
        refine keep2 r _ ?_
        rcases baseS_or (a := a) (b := b) (l := l) o x with ⟨e, h3, _⟩ | ⟨e, h4⟩
        · rw [e]; exact ⟨x, rfl, Int.le_refl _, h3⟩
        · rw [e]
          obtain ⟨p, hp, hle⟩ := h4 he
          exact ⟨p, hp, hle, ho p hp⟩
      · rw [List.foldl_cons]
        refine ih _ (fun p hp => EO [y] o ho p hp) h
  have got2 : ∀ (ss : List SgX) (o : Option PtX), (∀ p, o = some p → enoughB a b l p = true) → s ∈ ss → BaseGe a b l x.1 (ss.foldl (baseR a b l) o) := by
    intro ss
    induction ss with
    | nil => exact fun o _ h => by cases h
    | cons t r ih =>
      intro o ho h
      rcases List.mem_cons.1 h with rfl | h
      · exact keep3 r _ (got1 _ o ho hx)
      · exact ih _ (fun p hp => EO _ o ho p hp) h
  exact got2 l none (fun p h => by cases h) hs
def viewK (vs : List Int) (k : Nat) : Int := match vs[k]? with | some w => w % 9 | none => 0
def numX (low : Int) (vs : List Int) (nums : List (List EntX)) (k : Nat) : PrX := (low + 1 + (k : Int), viewK vs k, nums.getD k [], ())
def preN (low : Int) (vs : List Int) (nums : List (List EntX)) (i n : Nat) : List PrX := ((List.range n).filter fun k => decide ((i + k) % 2 = 0)).map (numX low vs nums)
def proN (low : Int) (vs : List Int) (nums : List (List EntX)) (i n : Nat) : List PrX := ((List.range n).filter fun k => decide (i < 2) || decide (k % 2 = 0)).map (numX low vs nums)
def lagL (low : Int) (lag : Bool) (i : Nat) : Int := if i = 0 ∧ lag = true ∧ 0 < low then low - 4 else low
def hCn (low : Int) (lag : Bool) (vs : List Int) (nums : List (List EntX)) (i n : Nat) : ChX := (9, lagL low lag i, [(lagL low lag i, z32, ())], preN low vs nums i n, proN low vs nums i n, ())
def hSg (low : Int) (lag : Bool) (vs : List Int) (nums : List (List EntX)) (i : Nat) : SgX := ((i : Int), hCn low lag vs nums i nums.length, ())
def rowE (low : Int) (lag : Bool) (vs : List Int) (nums : List (List EntX)) (ls : List SgX) : List SgX := (List.range 3).map (hSg low lag vs nums) ++ ls.map lie3
theorem rowE_count {low : Int} {lag : Bool} {vs : List Int} {nums : List (List EntX)} {ls : List SgX} (f : SgX → Bool) (is : List Nat) (his : is.Sublist (List.range 3)) (h : ∀ i ∈ is, f (hSg low lag vs nums i) = true) : is.length ≤ (rowE low lag vs nums ls).countP f := by
  unfold rowE
  rw [List.countP_append]
  have h1 : (is.map (hSg low lag vs nums)).countP f ≤ ((List.range 3).map (hSg low lag vs nums)).countP f := (his.map _).countP_le
  have h2 : (is.map (hSg low lag vs nums)).countP f = is.length := by
    rw [List.countP_eq_length.2, List.length_map]
    intro s hs
    obtain ⟨i, hi, rfl⟩ := List.mem_map.1 hs
    exact h i hi
  omega
theorem lag_le (low : Int) (lag : Bool) (i : Nat) : lagL low lag i ≤ low := by
  unfold lagL
  split <;> omega
theorem pre_mem {low : Int} {vs : List Int} {nums : List (List EntX)} {i n : Nat} {y : PrX} (h : y ∈ preN low vs nums i n) : ∃ k, k < n ∧ y = numX low vs nums k := by
  obtain ⟨k, hk, rfl⟩ := List.mem_map.1 h
  exact ⟨k, List.mem_range.1 (List.mem_filter.1 hk).1, rfl⟩
theorem enough_law {low : Int} {lag : Bool} {vs : List Int} {nums : List (List EntX)} {ls : List SgX} (hl : ls.length ≤ 1) : ∃ p bs, chooseP (rowE low lag vs nums ls) = some (p, bs) ∧ low ≤ p.1 := by
  generalize hL : rowE low lag vs nums ls = L
  have mem : ∀ i, i < 3 → hSg low lag vs nums i ∈ L := fun i hi => by
    rw [← hL]
    exact List.mem_append_left _ (List.mem_map.2 ⟨i, List.mem_range.2 hi, rfl⟩)
  have cnt : ∀ (f : SgX → Bool) (is : List Nat), is.Sublist (List.range 3) → (∀ i ∈ is, f (hSg low lag vs nums i) = true) → is.length ≤ L.countP f := fun f is h1 h2 => by
    rw [← hL]; exact rowE_count f is h1 h2
  -- the base
  have hen : enoughB 2 3 L (low, z32, ()) = true := by
    unfold enoughB
    have c1 := cnt (fun s => hasC (low, z32, ()) s.2.1) [1, 2] (by decide) (fun i hi => by
      have : i = 1 ∨ i = 2 := by simpa using hi
      rcases this with rfl | rfl <;> simp [hSg, hCn, hasC, lagL])
    have c2 := cnt (fun s => lowC (low, z32, ()) s.2.1) [0, 1, 2] (by decide) (fun i _ => by
      show decide (lagL low lag i ≤ low) = true
      exact decide_eq_true (lag_le low lag i))
    simp only [List.length_cons, List.length_nil] at c1 c2
    rw [Bool.and_eq_true, decide_eq_true_eq, decide_eq_true_eq]
    exact ⟨by omega, by omega⟩
  obtain ⟨p, hp, hple, hpe⟩ := baseP_ge (x := (low, z32, ())) (mem 1 (by omega)) (by simp [hSg, hCn, lagL]) hen
  have hpl : p.1 = low := by
    by_cases hgt : low < p.1
    · exfalso
      unfold enoughB at hpe
      rw [Bool.and_eq_true, decide_eq_true_eq] at hpe
      have : L.countP (fun s => hasC p s.2.1) ≤ 1 := by
        rw [← hL]
        unfold rowE
        rw [List.countP_append]
        have h0 : ((List.range 3).map (hSg low lag vs nums)).countP (fun s => hasC p s.2.1) = 0 := by
          rw [List.countP_eq_zero]
          intro s hs
          obtain ⟨i, _, rfl⟩ := List.mem_map.1 hs
          unfold hSg hCn hasC
          simp only [List.any_cons, List.any_nil, Bool.or_false, decide_eq_true_eq]
          intro e
          have := lag_le low lag i
          rw [e] at hgt
          simp only at hgt
          omega
        have h1 : (ls.map lie3).countP (fun s => hasC p s.2.1) ≤ 1 := Nat.le_trans List.countP_le_length (by rw [List.length_map]; exact hl)
        omega
      omega
    · omega
  -- each number
  have hnum : ∀ k : Nat, (numberP 2 3 L (low + (k : Int) + 1)).2 = true := by
    intro k
    unfold numberP
    by_cases hk : k < nums.length
    · have hst : standsB 2 3 L (numX low vs nums k) = true := by
        unfold standsB
        have c1 := cnt (fun s => quietC (numX low vs nums k) s.2.1) [0, 1, 2] (by decide) (fun i _ => by
          show (decide (lagL low lag i < low + 1 + (k : Int)) && !((preN low vs nums i nums.length).any (againstP (numX low vs nums k)))) = true
          rw [decide_eq_true (by have := lag_le low lag i; omega), Bool.true_and, Bool.not_eq_true', List.any_eq_false]
          intro y hy
          obtain ⟨k', _, rfl⟩ := pre_mem hy
          unfold againstP numX sameE
          by_cases hkk : k' = k
          · subst hkk; simp
          · simp only [show ¬ (low + 1 + (k' : Int) = low + 1 + (k : Int)) from by omega, decide_false, Bool.false_and]
            decide)
        have c2 := cnt (fun s => knownC (numX low vs nums k) s.2.1) [0, 1] (by decide) (fun i hi => by
          have hi2 : i < 2 := by
            have : i = 0 ∨ i = 1 := by simpa using hi
            omega
          refine List.any_eq_true.2 ⟨numX low vs nums k, ?_, ?_⟩
          · exact List.mem_map.2 ⟨k, List.mem_filter.2 ⟨List.mem_range.2 hk, by simp [hi2]⟩, rfl⟩
          · unfold knownP sameE; simp)
        simp only [List.length_cons, List.length_nil] at c1 c2
        rw [Bool.and_eq_true, decide_eq_true_eq, decide_eq_true_eq]
        exact ⟨by omega, by omega⟩
      have hin : ∃ i, i < 3 ∧ numX low vs nums k ∈ preN low vs nums i nums.length := by
        refine ⟨k % 2, by omega, List.mem_map.2 ⟨k, List.mem_filter.2 ⟨List.mem_range.2 hk, ?_⟩, rfl⟩⟩
        rw [decide_eq_true_eq]
        omega
      obtain ⟨i, hi, hin⟩ := hin
      obtain ⟨q, hq⟩ := bestP_some (seq := low + (k : Int) + 1) (mem i hi) hin (by unfold numX; dsimp only; omega) hst
      rw [hq]
    · cases hb : bestP 2 3 L (low + (k : Int) + 1) with
      | some q => rfl
      | none =>
        have c1 := cnt (fun s => emptyC (low + (k : Int) + 1) s.2.1) [0, 1, 2] (by decide) (fun i _ => by
          show (decide (lagL low lag i < low + (k : Int) + 1) && !((preN low vs nums i nums.length).any fun y => decide (y.1 = low + (k : Int) + 1))) = true
          rw [decide_eq_true (by have := lag_le low lag i; omega), Bool.true_and, Bool.not_eq_true', List.any_eq_false]
          intro y hy
          obtain ⟨k', hk', rfl⟩ := pre_mem hy
          unfold numX
          rw [decide_eq_true_eq]
          dsimp only
          omega)
        simp only [List.length_cons, List.length_nil] at c1
        simp only [decide_eq_true_eq]
        omega
  refine ⟨p, (numsP L p.1 (farP p.1 L).toNat).map (·.1), ?_, by omega⟩
  unfold chooseP
  rw [hp]
  dsimp only
  rw [if_pos]
  rw [List.all_eq_true]
  intro z hz
  obtain ⟨k, _, rfl⟩ := List.mem_map.1 hz
  rw [hpl]
  exact hnum k
end Go.Proofs.Ytdoaloimndehbaa
