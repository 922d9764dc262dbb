/-
  What comes in: acts with parcels; whether one parcel is the same as itself. Conditions are typed with each.
-/
import Derived.Test.YtpcgolpbjbaekaaCc
import Derived.Test.YtpcgolpbjbaekaaKq
import Derived.Test.YtpcgolpbjbaekaaKs
import Derived.Test.YtpcgolpbjbaekaaLc
import Derived.Test.YtpcgolpbjbaekaaLf
namespace Go.Proofs.Ytpcgolpbjbaekaa
open Go.RowKit
set_option maxRecDepth 100000
def tyTag : Ty Try.prog 71 (List UInt8) := tyArr Try.underlying71 Try.underlying5 (by kernel_rfl) (by kernel_rfl)
def tyTags : Ty Try.prog 28 (List (List UInt8)) := tySliceB tyTag Try.underlying28 (by kernel_rfl) (by decide)
def tyByt : Ty Try.prog 27 (List UInt8) := tyBytes Try.underlying27 Try.underlying5 (by kernel_rfl)
def tyI64 : Ty Try.prog 3 Int := tyInt Try.underlying3
def tyU8 : Ty Try.prog 5 Int := tyInt Try.underlying5
abbrev MsgX := Int × Int × List UInt8 × List (List UInt8) × Unit
def tyMsg : Ty Try.prog 30 MsgX :=
  tyStruct Try.underlying30 (fsCons tyI64 (fsCons tyI64 (fsCons tyByt (fsCons tyTags (fsNil _) rfl (by kernel_rfl)) rfl (by kernel_rfl)) rfl (by kernel_rfl)) rfl (by kernel_rfl)) (by kernel_rfl)
abbrev ParX := Int × MsgX × Unit
def tyPar : Ty Try.prog 32 ParX := tyStruct Try.underlying32 (fsCons tyI64 (fsCons tyMsg (fsNil _) rfl (by kernel_rfl)) rfl (by kernel_rfl)) (by kernel_rfl)
def tyPars : Ty Try.prog 26 (List ParX) := tySlice tyPar Try.underlying26 (by kernel_rfl) (by decide)
abbrev ActX := Int × Int × List ParX × Int × Unit
def tyAct : Ty Try.prog 53 ActX :=
  tyStruct Try.underlying53 (fsCons tyU8 (fsCons tyI64 (fsCons tyPars (fsCons tyI64 (fsNil _) rfl (by kernel_rfl)) rfl (by kernel_rfl)) rfl (by kernel_rfl)) rfl (by kernel_rfl)) (by kernel_rfl)
/-- A parcel's cells, that may be read. -/
def ParOk (F : PH) (c : List Value) : Prop := ∃ (x : ParX) (vb vt : Value), c = [.int .i64 x.1, .int .i64 x.2.1.1, .int .i64 x.2.1.2.1, vb, vt] ∧ tyByt.rep F x.2.1.2.2.1 [vb] ∧ RowV tyTag F vt x.2.1.2.2.2.1 ∧ x.2.1.2.2.2.1.length ≤ maxLen
theorem ParOk.mono {F G : PH} {c : List Value} (h : ParOk F c) (hl : F.le G) : ParOk G c := by
  obtain ⟨x, vb, vt, e, h1, h2, h3⟩ := h
  exact ⟨x, vb, vt, e, tyByt.mono hl h1, h2.mono hl, h3⟩
theorem par_of {F : PH} {x : ParX} {cs : List Value} (h : tyPar.rep F x cs) : ParOk F cs := by
  obtain ⟨_, _, rfl, ⟨rfl, _⟩, _, _, rfl, ⟨_, _, rfl, ⟨rfl, _⟩, _, _, rfl, ⟨rfl, _⟩, _, _, rfl, hb, _, _, rfl, ⟨vt, rfl, ht, hm⟩, rfl⟩, rfl⟩ := h
  obtain ⟨vb, rfl, hb'⟩ := id hb
  exact ⟨x, vb, vt, rfl, hb, ht, hm⟩
theorem ParOk.len {F : PH} {c : List Value} (h : ParOk F c) : c.length = 5 := by
  obtain ⟨x, vb, vt, rfl, _⟩ := h
  rfl
theorem ParOk.ones {F : PH} {c : List Value} (h : ParOk F c) : Ones c := by
  obtain ⟨x, vb, vt, rfl, h1, h2, _⟩ := h
  obtain ⟨a, k, rfl, _⟩ := h2.form
  exact ones_cons rfl (ones_cons rfl (ones_cons rfl (ones_append (tyByt.ones h1) (ones_cons rfl ones_nil))))
theorem zPar_ok (F : PH) : ParOk F zParcel := ⟨(0, (0, 0, [], [], ()), ()), .slice none 0 0, .slice none 0 0, rfl, ⟨_, rfl, SliceV.nil F 1⟩, .nil, Nat.zero_le _⟩
end Go.Proofs.Ytpcgolpbjbaekaa
