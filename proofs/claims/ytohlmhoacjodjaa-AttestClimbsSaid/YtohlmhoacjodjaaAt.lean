/-
  What comes in: rows with a bound, digests. Conditions are typed with each.
-/
import Derived.Test.YtohlmhoacjodjaaAq
import Derived.Test.YtohlmhoacjodjaaAk
import Derived.Lib.Hide
namespace Go.Proofs.Ytohlmhoacjodjaa
open Go.RowKit Go.ChangeShapes Go.WideShapes Go.ChangeAt
set_option maxRecDepth 100000
def tyI64 : Ty Try.prog 3 Int := tyInt Try.underlying3
theorem open_rowB {H : Type} {enc : TypeId × Value → H} {P : Program} {W : World} {base b0 : Nat} {sp : Nat → Bool} {held : Bool} {r : Reach} {t e : TypeId} {α : Type} (te : Ty P e α) {v : Value} {d : DataW H} {ps : List MemPlace} (ht : P.underlying t = some (.slice e)) (hc : P.cellsOf e = te.sz) (hpos : 0 < te.sz)
    (hval : Value.okWide P W r b0 t v) (h : DataW.Trod enc P W base sp held t v d ps) : ∃ xs, RowV te (ph W) v xs ∧ xs.length ≤ maxLen := by
  obtain ⟨a, n, c, rfl⟩ := okWide_slice ht hval
  obtain ⟨fuel, hf⟩ := h
  obtain ⟨xs, v, hv, hx, hm⟩ := (tySliceB te ht hc hpos).opn hf
  have hv' : [Value.slice a n c] = [v] := by simpa [Value.cells] using hv
  cases hv'
  exact ⟨xs, hx, hm⟩
theorem dg_row {F : PH} {v : Value} {xs : List (List UInt8)} (h : RowV tyDg F v xs) : DgV F v xs ∧ D32 xs := by
  obtain ⟨css, h1, h2⟩ := h
  have h3 : css = xs.map u8s ∧ D32 xs := by
    clear h1
    induction h2 with
    | nil => exact ⟨rfl, fun _ h => by cases h⟩
    | cons h _ ih =>
      obtain ⟨rfl, hl⟩ := h
      refine ⟨by rw [ih.1]; rfl, fun d hd => ?_⟩
      rcases List.mem_cons.1 hd with rfl | hd
      · exact hl
      · exact ih.2 d hd
  obtain ⟨rfl, h4⟩ := h3
  exact ⟨h1, h4⟩
end Go.Proofs.Ytohlmhoacjodjaa
