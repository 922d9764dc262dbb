/-
  Cores and requests that come in. Conditions are typed with each.
-/
import Derived.Test.YtaggonhgafggkaaRg
namespace Go.Proofs.Ytaggonhgafggkaa
open Go.RowKit
set_option maxRecDepth 100000
def tyS64 : Ty Try.prog 2 Int := tyInt Try.underlying2
def tyStrg : Ty Try.prog 9 (List UInt8) := tyStr Try.underlying9
def tyCore : Ty Try.prog 52 (Int × Int × Int × List UInt8 × Int × Int × List UInt8 × Unit) :=
  tyStruct Try.underlying52 (fsCons tyI64 (fsCons tyS64 (fsCons tyI64 (fsCons tyStrg (fsCons tyS64 (fsCons tyS64 (fsCons tyStrg (fsNil _) rfl (by kernel_rfl)) rfl (by kernel_rfl)) rfl (by kernel_rfl)) rfl (by kernel_rfl)) rfl (by kernel_rfl)) rfl (by kernel_rfl)) rfl (by kernel_rfl)) (by kernel_rfl)
def crOf (x : Int × Int × Int × List UInt8 × Int × Int × List UInt8 × Unit) : Cr := ⟨x.1, x.2.1, x.2.2.1, x.2.2.2.1, x.2.2.2.2.1, x.2.2.2.2.2.1, x.2.2.2.2.2.2.1⟩
theorem core_of' {F : PH} {x : Int × Int × Int × List UInt8 × Int × Int × List UInt8 × Unit} {cs : List Value} (h : tyCore.rep F x cs) : cs = (crOf x).cells ∧ InK .i64 (crOf x).client ∧ InK .i64 (crOf x).stamp ∧ InK .i64 (crOf x).op ∧ InK .i64 (crOf x).a ∧ InK .i64 (crOf x).b ∧ (crOf x).letter.length ≤ maxLen ∧ (crOf x).text.length ≤ maxLen := by
  obtain ⟨_, _, rfl, ⟨rfl, k0⟩, _, _, rfl, ⟨rfl, k1⟩, _, _, rfl, ⟨rfl, k2⟩, _, _, rfl, ⟨rfl, k3⟩, _, _, rfl, ⟨rfl, k4⟩, _, _, rfl, ⟨rfl, k5⟩, _, _, rfl, ⟨rfl, k6⟩, rfl⟩ := h
  exact ⟨rfl, k0, k1, k2, k4, k5, k3, k6⟩
theorem core_of {F : PH} {x : Int × Int × Int × List UInt8 × Int × Int × List UInt8 × Unit} {cs : List Value} (h : tyCore.rep F x cs) : ∃ c : Cr, cs = c.cells ∧ InK .i64 c.a ∧ InK .i64 c.b ∧ c.letter.length ≤ maxLen ∧ c.text.length ≤ maxLen := by
  obtain ⟨h0, _, _, _, h4, h5, h6, h7⟩ := core_of' h
  exact ⟨crOf x, h0, h4, h5, h6, h7⟩
end Go.Proofs.Ytaggonhgafggkaa
