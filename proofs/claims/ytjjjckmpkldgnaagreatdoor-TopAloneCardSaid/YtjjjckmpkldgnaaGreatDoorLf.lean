/-
  Slices that come in, with the bound on their length. Plain theorems over any program; no condition.
-/
import Derived.Test.YtjjjckmpkldgnaaGreatDoorUf
namespace Go.Proofs.YtjjjckmpkldgnaaGreatDoor
open Go.RowKit Go.ChangeShapes Go.WideShapes Go.ChangeAt
def tySliceB {P : Program} {t e : TypeId} {α : Type} (te : Ty P e α) (ht : P.underlying t = some (.slice e)) (hc : P.cellsOf e = te.sz) (hpos : 0 < te.sz) : Ty P t (List α) where
  sz := 1
  rep := fun F xs cs => ∃ v, cs = [v] ∧ RowV te F v xs ∧ xs.length ≤ maxLen
  mono := fun hl ⟨v, h1, h2, h3⟩ => ⟨v, h1, h2.mono hl, h3⟩
  len := fun ⟨v, h1, _⟩ => by rw [h1]; rfl
  ones := fun ⟨v, h1, h2, _⟩ => by
    obtain ⟨a, c, rfl, _⟩ := h2.form
    rw [h1]; exact ones_cons rfl ones_nil
  opn := fun h => by
    obtain ⟨a, n, c, css, m, rfl, hnc, hcm, hl, hs, hel⟩ := open_sl ht (by rw [hc]; exact hpos) h
    rw [hc] at hs
    obtain ⟨xs, hxs⟩ := All2.of (R := te.rep _) fun c h => let ⟨_, _, hy⟩ := hel c h; te.opn hy
    have hxl : xs.length = n := (All2.len1 hxs).trans hl
    subst hxl
    exact ⟨xs, _, rfl, ⟨css, hs, hxs⟩, Nat.le_trans hnc hcm⟩
/-! ### what was kept for good is taken back -/
def PH.sub (F h : PH) : PH := fun b => match h b with | none => F b | some _ => none
end Go.Proofs.YtjjjckmpkldgnaaGreatDoor
