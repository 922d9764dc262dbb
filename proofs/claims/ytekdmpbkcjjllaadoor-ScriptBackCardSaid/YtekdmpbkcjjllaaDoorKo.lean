/-
  What arguments that come in give: rows of bytes, rows of structs. Plain theorems over any program; no condition.
-/
import Derived.Test.YtekdmpbkcjjllaaDoorKn
import Derived.Deep.Slices
import Derived.SliceStrings
namespace Go.Proofs.YtekdmpbkcjjllaaDoor
open Go.RowKit Go.ChangeShapes Go.WideShapes Go.ChangeAt
section
variable {H : Type} {enc : TypeId × Value → H} {P : Program} {W : World} {base : Nat} {sp : Nat → Bool} {held : Bool}
/-- A row that came in: its elements' cells, each read as data. -/
theorem open_sl {t e : TypeId} {fuel : Nat} {cs : List Value} {x : DataW H × List MemPlace} (ht : P.underlying t = some (.slice e)) (hpos : 0 < P.cellsOf e) (h : DataW.trod enc P W base sp held fuel t cs = some x) :
    ∃ (a : Option Addr) (n c : Nat) (css : List (List Value)) (m : Nat), cs = [.slice a n c] ∧ n ≤ c ∧ c ≤ maxLen ∧ css.length = n ∧ SliceV (ph W) (P.cellsOf e) (.slice a n c) n css.flatten ∧
      ∀ c ∈ css, c.length = P.cellsOf e ∧ ∃ y, DataW.trod enc P W base sp held m e c = some y := by
  rcases Go.Deep.open_slice ht h with ⟨rfl, _⟩ | ⟨a, len, cap, m, n, D, Pl, rfl, hb, hl, hm, hmm, rfl, hx⟩
  · exact ⟨none, 0, 0, [], 0, rfl, Nat.le_refl _, by unfold maxLen; omega, rfl, SliceV.nil _ _, fun _ h => by cases h⟩
  · have hlm : len ≤ m := by rw [hmm]; split <;> omega
    let f : Nat → List Value := fun i => if h : i < m then Classical.choose (hx i h) else []
    have hf : ∀ i, i < m → W.cells? base (a.add (i * P.cellsOf e)) (P.cellsOf e) = some (f i) ∧ ∃ y, DataW.trod enc P W base sp held n e (f i) = some y := fun i hi => by
      have := Classical.choose_spec (hx i hi)
      simp only [f, dif_pos hi]
      exact ⟨this.1, _, this.2⟩
    have hfl : ∀ i, i < m → (f i).length = P.cellsOf e := fun i hi => (World.cells?_some (hf i hi).1).2.1
    have hmem : ∀ c ∈ (List.range len).map f, c.length = P.cellsOf e ∧ ∃ y, DataW.trod enc P W base sp held n e c = some y := by
      intro c hc
      obtain ⟨i, hi, rfl⟩ := List.mem_map.1 hc
      have : i < len := List.mem_range.1 hi
      exact ⟨hfl i (by omega), (hf i (by omega)).2⟩
    refine ⟨some a, len, cap, (List.range len).map f, n, rfl, hl, hm, by simp, ⟨?_, some a, cap, rfl, hl, fun h0 => ?_⟩, hmem⟩
    · rw [flat_len (fun c hc => (hmem c hc).1)]; simp
    · obtain ⟨ab, ao, spot⟩ := a
      have hspot : spot = none := by
        have h1 := (World.cells?_some (hf 0 (by omega)).1).2.2 0 (by omega)
        rw [List.getElem?_eq_getElem (by rw [hfl 0 (by omega)]; omega)] at h1
        simpa [Addr.add] using World.cell?_spot h1
      subst hspot
      refine ⟨ab, ao, rfl, fun j u hj => ?_⟩
      have hlen : ((List.range len).map f).flatten.length = len * P.cellsOf e := by rw [flat_len (fun c hc => (hmem c hc).1)]; simp
      have hjl : j < len * P.cellsOf e := by
        have := (List.getElem?_eq_some_iff.1 hj).1
        rwa [hlen] at this
      have hq : j / P.cellsOf e < len := by rw [Nat.div_lt_iff_lt_mul (by omega)]; exact hjl
      have hr : j % P.cellsOf e < P.cellsOf e := Nat.mod_lt _ (by omega)
      have hdm : j / P.cellsOf e * P.cellsOf e + j % P.cellsOf e = j := by rw [Nat.mul_comm]; exact Nat.div_add_mod _ _
      have h1 := (World.cells?_some (hf (j / P.cellsOf e) (by omega)).1).2.2 (j % P.cellsOf e) hr
      have hat := flat_at (n := P.cellsOf e) (i := j / P.cellsOf e) (css := (List.range len).map f) (c := f (j / P.cellsOf e)) (fun c hc => (hmem c hc).1) (by simp [hq])
      have h2 : (f (j / P.cellsOf e))[j % P.cellsOf e]? = some u := by
        rw [← hat, List.getElem?_take, if_pos hr, List.getElem?_drop, hdm]; exact hj
      rw [h2, adr_add, adr_add, Nat.add_assoc, hdm] at h1
      exact cellF_ph.2 h1
/-- A row of bytes that came in. -/
theorem open_byt {r : Reach} {b0 : Nat} {t e : TypeId} {v : Value} {d : DataW H} {ps : List MemPlace} (ht : P.underlying t = some (.slice e)) (he : P.underlying e = some (.int .u8)) (hc : P.cellsOf e = 1)
    (hval : Value.okWide P W r b0 t v) (h : DataW.Trod enc P W base sp held t v d ps) :
    ∃ (a : Option Addr) (c : Nat) (bs : List UInt8), v = .slice a bs.length c ∧ bs.length ≤ c ∧ c ≤ maxLen ∧ SliceV (ph W) 1 v bs.length (u8s bs) := by
  obtain ⟨a1, len, cap, rfl⟩ := okWide_slice ht hval
  obtain ⟨fuel, hf⟩ := h
  obtain ⟨a, n, c, css, m, hcs, hn, hm, hl, hs, hel⟩ := open_sl ht (by rw [hc]; omega) hf
  simp [Value.cells] at hcs
  obtain ⟨rfl, rfl, rfl⟩ := hcs
  rw [hc] at hs hel
  have key : ∀ (css : List (List Value)), (∀ c ∈ css, c.length = 1 ∧ ∃ y, DataW.trod enc P W base sp held m e c = some y) → ∃ bs : List UInt8, css.flatten = u8s bs ∧ bs.length = css.length := by
    intro css
    induction css with
    | nil => intro _; exact ⟨[], rfl, rfl⟩
    | cons c css ih =>
      intro h
      obtain ⟨bs, h1, h2⟩ := ih fun c hc => h c (List.mem_cons_of_mem _ hc)
      obtain ⟨_, y, hy⟩ := h c List.mem_cons_self
      obtain ⟨z, rfl, _, hw⟩ := DataW.trod_int he hy
      have hb := bounds_u8 hw
      refine ⟨UInt8.ofNat z.toNat :: bs, ?_, by simp [h2]⟩
      rw [List.flatten_cons, h1]
      have e1 : ((UInt8.ofNat z.toNat).toNat : Int) = z := by simp; omega
      simp [u8s, e1]
      omega
  obtain ⟨bs, h1, h2⟩ := key css hel
  rw [hl] at h2
  rw [h1] at hs
  subst h2
  exact ⟨_, _, bs, rfl, hn, hm, hs⟩
end
end Go.Proofs.YtekdmpbkcjjllaaDoor
