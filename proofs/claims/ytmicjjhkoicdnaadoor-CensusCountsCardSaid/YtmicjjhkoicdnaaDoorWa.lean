/-
  Messages as bytes: whether one may be. Conditions are typed with each.
-/
import Derived.Test.YtmicjjhkoicdnaaDoorOh
import Derived.Test.YtmicjjhkoicdnaaDoorKq
namespace Go.Proofs.YtmicjjhkoicdnaaDoor
open Go.RowKit
/-- A row of tags. -/
def Tags (F : PH) (v : Value) (ts : List (List UInt8)) : Prop := SliceV F 32 v ts.length (ts.map u8s).flatten ∧ ∀ t ∈ ts, t.length = 32
theorem Tags.mono {F G : PH} {v : Value} {ts : List (List UInt8)} (h : Tags F v ts) (hl : F.le G) : Tags G v ts := ⟨SliceV.mono h.1 hl, h.2⟩
theorem Tags.form {F : PH} {v : Value} {ts : List (List UInt8)} (h : Tags F v ts) : ∃ a c, v = .slice a ts.length c ∧ ts.length ≤ c := by
  obtain ⟨⟨_, a, c, e, hn, _⟩, _⟩ := h
  exact ⟨a, c, e, hn⟩
theorem Tags.nil (F : PH) : Tags F (.slice none 0 0) [] := ⟨SliceV.nil F 32, fun _ h => by cases h⟩
theorem elT : Elem Tryd.prog 31 84 32 32 (.agg (List.replicate 32 (.int .u8 0)).toArray) := ⟨rfl, ⟨_, rfl, rfl, rfl, rfl, rfl, by decide⟩, rfl, rfl⟩
def msgC (k f : Int) (vb vt : Value) : List Value := [.int .i64 k, .int .i64 f, vb, vt]
def oddB (k f : Int) : Bool := decide (k < 1) || decide (12 < k) || decide (f < 0) || decide (63 < f)
/-- What Check says. -/
def chkE (k f : Int) (lb lt : Nat) : Int := if oddB k f then 2 else if 7 < lt then 4 else if 1048576 < lb + 32 * lt + 8 then 3 else 0
end Go.Proofs.YtmicjjhkoicdnaaDoor
