/-
  Policies that come in, read. Conditions are typed with each.
-/
import Derived.Test.YtknhcjdcenoniaaFh
namespace Go.Proofs.Ytknhcjdcenoniaa
open Go.RowKit Go.ChangeShapes Go.WideShapes Go.ChangeAt
section
variable {H : Type} {enc : TypeId × Value → H} {P : Program} {W : World} {base : Nat} {sp : Nat → Bool} {held : Bool}
/-- A row that came in, each element read by less. -/
theorem open_slF {t e : TypeId} {fuel : Nat} {cs : List Value} {x : DataW H × List MemPlace} (ht : P.underlying t = some (.slice e)) (hpos : 0 < P.cellsOf e) (h : DataW.trod enc P W base sp held fuel t cs = some x) :
    ∃ (a : Option Addr) (n c : Nat) (css : List (List Value)), cs = [.slice a n c] ∧ n ≤ c ∧ c ≤ maxLen ∧ css.length = n ∧ SliceV (ph W) (P.cellsOf e) (.slice a n c) n css.flatten ∧
      ∀ c ∈ css, c.length = P.cellsOf e ∧ ∃ m y, m < fuel ∧ DataW.trod enc P W base sp held m e c = some y := by
  rcases DataW.trod_slice ht h with ⟨rfl, _⟩ | ⟨a, len, cap, elems, rest, n, hfu, rfl, rfl, hb, hl, hm, hlen, hel, _, _⟩
  · exact ⟨none, 0, 0, [], rfl, Nat.le_refl _, by unfold maxLen; omega, rfl, SliceV.nil _ _, fun _ h => by cases h⟩
  · have hx : ∀ i, i < len → ∃ cs, W.cells? base (a.add (i * P.cellsOf e)) (P.cellsOf e) = some cs ∧ ∃ y, DataW.trod enc P W base sp held n e cs = some y := fun i hi => by
      have key := hel i hi
      rw [List.getElem?_eq_getElem (by omega)] at key
      obtain ⟨cs', h1, h2⟩ := Option.bind_eq_some_iff.1 key
      exact ⟨cs', h1, _, h2⟩
    let f : Nat → List Value := fun i => if h : i < len then Classical.choose (hx i h) else []
    have hf : ∀ i, i < len → W.cells? base (a.add (i * P.cellsOf e)) (P.cellsOf e) = some (f i) ∧ ∃ y, DataW.trod enc P W base sp held n e (f i) = some y := fun i hi => by
      have := Classical.choose_spec (hx i hi)
      simp only [f, dif_pos hi]
      exact this
    have hfl : ∀ i, i < len → (f i).length = P.cellsOf e := fun i hi => (World.cells?_some (hf i hi).1).2.1
    have hmem : ∀ c ∈ (List.range len).map f, c.length = P.cellsOf e ∧ ∃ y, DataW.trod enc P W base sp held n e c = some y := by
      intro c hc
      obtain ⟨i, hi, rfl⟩ := List.mem_map.1 hc
      have : i < len := List.mem_range.1 hi
      exact ⟨hfl i this, (hf i this).2⟩
    refine ⟨some a, len, cap, (List.range len).map f, rfl, hl, hm, by simp, ⟨?_, some a, cap, rfl, hl, fun h0 => ?_⟩, fun c hc => ⟨(hmem c hc).1, let ⟨y, hy⟩ := (hmem c hc).2; ⟨n, y, by omega, hy⟩⟩⟩
    · rw [flat_len (fun c hc => (hmem c hc).1)]; simp
    · obtain ⟨ab, ao, spot⟩ := a
      have hspot : spot = none := by
        have h1 := (World.cells?_some (hf 0 (by omega)).1).2.2 0 (by omega)
        rw [List.getElem?_eq_getElem (by rw [hfl 0 (by omega)]; omega)] at h1
        simpa [Addr.add] using World.cell?_spot h1
      subst hspot
      refine ⟨ab, ao, rfl, fun j u hj => ?_⟩
      have hlen : ((List.range len).map f).flatten.length = len * P.cellsOf e := by rw [flat_len (fun c hc => (hmem c hc).1)]; simp
      have hjl : j < len * P.cellsOf e := by
        have := (List.getElem?_eq_some_iff.1 hj).1
        rwa [hlen] at this
      have hq : j / P.cellsOf e < len := by rw [Nat.div_lt_iff_lt_mul (by omega)]; exact hjl
      have hr : j % P.cellsOf e < P.cellsOf e := Nat.mod_lt _ (by omega)
      have hdm : j / P.cellsOf e * P.cellsOf e + j % P.cellsOf e = j := by rw [Nat.mul_comm]; exact Nat.div_add_mod _ _
      have h1 := (World.cells?_some (hf (j / P.cellsOf e) hq).1).2.2 (j % P.cellsOf e) hr
      have hat := flat_at (n := P.cellsOf e) (i := j / P.cellsOf e) (css := (List.range len).map f) (c := f (j / P.cellsOf e)) (fun c hc => (hmem c hc).1) (by simp [hq])
      have h2 : (f (j / P.cellsOf e))[j % P.cellsOf e]? = some u := by
        rw [← hat, List.getElem?_take, if_pos hr, List.getElem?_drop, hdm]; exact hj
      rw [h2, adr_add, adr_add, Nat.add_assoc, hdm] at h1
      exact cellF_ph.2 h1
end
theorem cells_fm : Try.prog.cellsOf 24 = 3 := by kernel_rfl
theorem cells_int : Try.prog.cellsOf 3 = 1 := by kernel_rfl
theorem cells_fms : Try.prog.cellsOf 22 = 1 := by kernel_rfl
theorem fRep_of {F : PH} {o a : Int} {v : Value} {ks : List Fm} {css : List (List Value)} (ho : InK .i64 o) (ha : InK .i64 a) (hs : SliceV F 3 v ks.length css.flatten) (hk : All2 (FRep F) ks css) : FRep F (.node o a ks) [.int .i64 o, .int .i64 a, v] := by
  have hl := All2.len1 hk
  have e : (List.range ks.length).map (fun i => css.getD i []) = css := by
    apply List.ext_getElem?
    intro i
    rw [List.getElem?_map]
    by_cases h : i < ks.length
    · rw [List.getElem?_range h]
      show some (css.getD i []) = css[i]?
      rw [List.getD_eq_getElem?_getD, List.getElem?_eq_getElem (by omega)]; rfl
    · rw [List.getElem?_eq_none (by simp; omega), List.getElem?_eq_none (by omega)]; rfl
  refine FRep.mk (f := .node o a ks) (css := fun i => css.getD i []) ho ha (by show SliceV F 3 v ks.length ((List.range ks.length).map _).flatten; rw [e]; exact hs) fun i k hi => ?_
  obtain ⟨y, hy, hr⟩ := All2.at hk hi
  rw [List.getD_eq_getElem?_getD, hy]
  exact hr
theorem open_fm {H : Type} {enc : TypeId × Value → H} {W : World} {base : Nat} {sp : Nat → Bool} {held : Bool} : ∀ (fuel : Nat) (cs : List Value) (y : DataW H × List MemPlace), DataW.trod enc Try.prog W base sp held fuel 24 cs = some y → ∃ f, FRep (ph W) f cs := by
  intro fuel
  induction fuel using Nat.strongRecOn with
  | ind fuel ih =>
  intro cs y h
  obtain ⟨xs, m, hm, _, hl, hxl, hf⟩ := DataW.trod_struct Try.underlying24 h
  rw [cells_fm] at hl
  have hx3 : xs.length = 3 := hxl
  match cs, hl with
  | [c0, c1, c2], _ =>
    have h0 : DataW.trod enc Try.prog W base sp held m 3 (([c0, c1, c2].drop 0).take (Try.prog.cellsOf 3)) = xs[0]? := hf 0 _ rfl
    have h1 : DataW.trod enc Try.prog W base sp held m 3 (([c0, c1, c2].drop 1).take (Try.prog.cellsOf 3)) = xs[1]? := hf 1 _ rfl
    have h2 : DataW.trod enc Try.prog W base sp held m 22 (([c0, c1, c2].drop 2).take (Try.prog.cellsOf 22)) = xs[2]? := hf 2 _ rfl
    rw [cells_int, List.getElem?_eq_getElem (by omega)] at h0 h1
    rw [cells_fms, List.getElem?_eq_getElem (by omega)] at h2
    obtain ⟨o, e0, _, w0⟩ := DataW.trod_int Try.underlying3 h0
    obtain ⟨a, e1, _, w1⟩ := DataW.trod_int Try.underlying3 h1
    obtain ⟨ad, n, c, css, e2, _, _, hcl, hs, hel⟩ := open_slF Try.underlying22 (by rw [cells_fm]; decide) h2
    rw [cells_fm] at hs hel
    have e0' : c0 = .int .i64 o := by simpa using e0
    have e1' : c1 = .int .i64 a := by simpa using e1
    have e2' : c2 = .slice ad n c := by simpa using e2
    subst e0' e1' e2'
    obtain ⟨ks, hks⟩ := All2.of (R := FRep (ph W)) (ys := css) fun c hc => by
      obtain ⟨_, m', y', hlt, hy⟩ := hel c hc
      exact ih m' (by omega) c y' hy
    have hkl := All2.len1 hks
    have hn : n = ks.length := by omega
    subst hn
    exact ⟨.node o a ks, fRep_of (wf_inK w0) (wf_inK w1) hs hks⟩
/-- A whole argument. -/
theorem open_formula {H : Type} {enc : TypeId × Value → H} {W : World} {base b0 : Nat} {sp : Nat → Bool} {held : Bool} {r : Reach} {v : Value} {d : DataW H} {ps : List MemPlace}
    (hval : Value.okWide Try.prog W r b0 24 v) (h : DataW.Trod enc Try.prog W base sp held 24 v d ps) : ∃ f cs, v = .agg cs.toArray ∧ FRep (ph W) f cs := by
  obtain ⟨cs, rfl, _⟩ := okWide_struct Try.underlying24 hval
  obtain ⟨fuel, hf⟩ := h
  obtain ⟨f, hx⟩ := open_fm _ _ _ hf
  exact ⟨f, cs.toList, by simp, by simpa [Value.cells] using hx⟩
end Go.Proofs.Ytknhcjdcenoniaa
