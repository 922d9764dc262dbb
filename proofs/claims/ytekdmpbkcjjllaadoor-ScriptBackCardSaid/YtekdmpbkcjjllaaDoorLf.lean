/-
  Slices that come in, with the bound on their length. Plain theorems over any program; no condition.
-/
import Derived.Test.YtekdmpbkcjjllaaDoorKs
namespace Go.Proofs.YtekdmpbkcjjllaaDoor
open Go.RowKit Go.ChangeShapes Go.WideShapes Go.ChangeAt
def tySliceB {P : Program} {t e : TypeId} {α : Type} (te : Ty P e α) (ht : P.underlying t = some (.slice e)) (hc : P.cellsOf e = te.sz) (hpos : 0 < te.sz) : Ty P t (List α) where
  sz := 1
  rep := fun F xs cs => ∃ v, cs = [v] ∧ RowV te F v xs ∧ xs.length ≤ maxLen
  mono := fun hl ⟨v, h1, h2, h3⟩ => ⟨v, h1, h2.mono hl, h3⟩
  len := fun ⟨v, h1, _⟩ => by rw [h1]; rfl
  ones := fun ⟨v, h1, h2, _⟩ => by
    obtain ⟨a, c, rfl, _⟩ := h2.form
    rw [h1]; exact ones_cons rfl ones_nil
  opn := fun h => by
    obtain ⟨a, n, c, css, m, rfl, hnc, hcm, hl, hs, hel⟩ := open_sl ht (by rw [hc]; exact hpos) h
    rw [hc] at hs
    obtain ⟨xs, hxs⟩ := All2.of (R := te.rep _) fun c h => let ⟨_, _, hy⟩ := hel c h; te.opn hy
    have hxl : xs.length = n := (All2.len1 hxs).trans hl
    subst hxl
    exact ⟨xs, _, rfl, ⟨css, hs, hxs⟩, Nat.le_trans hnc hcm⟩
/-! ### what was kept for good is taken back -/
def PH.sub (F h : PH) : PH := fun b => match h b with | none => F b | some _ => none
theorem PH.sub_le (F h : PH) : (PH.sub F h).le F := fun b o e => by
  unfold PH.sub at e
  cases hb : h b with
  | none => rw [hb] at e; exact e
  | some y => rw [hb] at e; cases e
theorem PH.le_sub {F0 F h : PH} (hl : F0.le F) (hd : F0.dj h) : F0.le (PH.sub F h) := fun b o e => by
  unfold PH.sub
  rcases hd b with h0 | h0
  · rw [h0] at e; cases e
  · rw [h0]; exact hl b o e
theorem Sat.takeBack {F h : PH} {A : Asrt} {H : List Asrt} {w : World} (hA : A h) (hl : h.le F) (s : Sat F H w) : Sat (PH.sub F h) (A :: H) w := by
  obtain ⟨r, hr, hd, hw⟩ := s
  have hdh : h.dj r := fun b => by
    rcases hd b with e | e
    · left
      cases hb : h b with
      | none => rfl
      | some y => rw [hl b y hb] at e; cases e
    · exact .inr e
  refine ⟨h.un r, ⟨h, r, hA, hr, hdh, rfl⟩, PH.dj_un_r (fun b => ?_) (hd.mono (PH.sub_le _ _)), ?_⟩
  · unfold PH.sub
    cases hb : h b with
    | none => exact .inr rfl
    | some y => exact .inl rfl
  · refine PH.un_le ((PH.sub_le _ _).trans ((PH.le_l _ _).trans hw)) (PH.un_le (hl.trans ((PH.le_l _ _).trans hw)) ((PH.le_r hd).trans hw))
/-- A whole argument that is a text. -/
theorem open_text {H : Type} {enc : TypeId × Value → H} {P : Program} {W : World} {base b0 : Nat} {sp : Nat → Bool} {held : Bool} {r : Reach} {t : TypeId} {v : Value} {d : DataW H} {ps : List MemPlace} (ht : P.underlying t = some .string)
    (hval : Value.okWide P W r b0 t v) (h : DataW.Trod enc P W base sp held t v d ps) : ∃ s, v = .string (strOf s) ∧ s.length ≤ maxLen := by
  obtain ⟨s, rfl⟩ := Go.WideShapes.okWide_string ht hval
  obtain ⟨fuel, hf⟩ := h
  obtain ⟨x, hx⟩ := (tyStr ht).opn hf
  obtain ⟨e, hl⟩ := hx
  have e' : [Value.string s] = [.string (strOf x)] := by simpa [Value.cells] using e
  cases e'
  exact ⟨x, rfl, hl⟩
end Go.Proofs.YtekdmpbkcjjllaaDoor
