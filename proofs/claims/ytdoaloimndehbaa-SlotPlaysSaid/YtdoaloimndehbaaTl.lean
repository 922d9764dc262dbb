/-
  What comes in: acts. Conditions are typed with each.
-/
import Derived.Test.YtdoaloimndehbaaTk
import Derived.Test.YtdoaloimndehbaaKs
namespace Go.Proofs.Ytdoaloimndehbaa
open Go.RowKit
set_option maxRecDepth 100000
abbrev CoreX := Int × Int × Int × List UInt8 × Int × Int × List UInt8 × Unit
abbrev EntX := CoreX × Int × Unit
def tyN : Ty Try.prog 3 Int := tyInt Try.underlying3
def tyL : Ty Try.prog 2 Int := tyInt Try.underlying2
def tyU8 : Ty Try.prog 5 Int := tyInt Try.underlying5
def tyU4 : Ty Try.prog 70 Int := tyInt Try.underlying70
def tyS : Ty Try.prog 9 (List UInt8) := tyStr Try.underlying9
def tyCo : Ty Try.prog 99 CoreX :=
  tyStruct Try.underlying99 (fsCons tyN (fsCons tyL (fsCons tyN (fsCons tyS (fsCons tyL (fsCons tyL (fsCons tyS (fsNil _) rfl (by kernel_rfl)) rfl (by kernel_rfl)) rfl (by kernel_rfl)) rfl (by kernel_rfl)) rfl (by kernel_rfl)) rfl (by kernel_rfl)) rfl (by kernel_rfl)) (by kernel_rfl)
def tyEn : Ty Try.prog 101 EntX := tyStruct Try.underlying101 (fsCons tyCo (fsCons tyU4 (fsNil _) rfl (by kernel_rfl)) rfl (by kernel_rfl)) (by kernel_rfl)
def tyEns : Ty Try.prog 33 (List EntX) := tySlice tyEn Try.underlying33 (by kernel_rfl) (by decide)
def tyDg : Ty Try.prog 29 (List UInt8) := tyArr Try.underlying29 Try.underlying5 (by kernel_rfl) (by kernel_rfl)
abbrev ActX := Int × Int × List UInt8 × List EntX × Unit
def tyAct : Ty Try.prog 44 ActX := tyStruct Try.underlying44 (fsCons tyU8 (fsCons tyN (fsCons tyDg (fsCons tyEns (fsNil _) rfl (by kernel_rfl)) rfl (by kernel_rfl)) rfl (by kernel_rfl)) rfl (by kernel_rfl)) (by kernel_rfl)
def e8Of (x : EntX) : E8 := ⟨x.1.1, x.1.2.1, x.1.2.2.1, strOf x.1.2.2.2.1, x.1.2.2.2.2.1, x.1.2.2.2.2.2.1, strOf x.1.2.2.2.2.2.2.1, x.2.1⟩
theorem e8_of {F : PH} {x : EntX} {cs : List Value} (h : tyEn.rep F x cs) : cs = (e8Of x).cells := by
  obtain ⟨_, _, rfl, hc, _, _, rfl, ⟨rfl, k⟩, rfl⟩ := h
  obtain ⟨_, _, rfl, ⟨rfl, _⟩, _, _, rfl, ⟨rfl, _⟩, _, _, rfl, ⟨rfl, _⟩, _, _, rfl, ⟨rfl, _⟩, _, _, rfl, ⟨rfl, _⟩, _, _, rfl, ⟨rfl, _⟩, _, _, rfl, ⟨rfl, _⟩, rfl⟩ := hc
  rfl
theorem ents_of {F : PH} {v : Value} {xs : List EntX} (h : RowV tyEn F v xs) : SliceV F 8 v (xs.map e8Of).length (eCs (xs.map e8Of)) := by
  obtain ⟨css, h1, h2⟩ := h
  have h3 : css = (xs.map e8Of).map E8.cells := by
    clear h1
    induction h2 with
    | nil => rfl
    | cons h _ ih => rw [e8_of h, ih]; rfl
  subst h3
  rw [List.length_map]
  exact h1
/-- An act: kind, who, digest, batch. -/
structure Ac where
  k : Int
  who : Int
  d : Dg
  es : List E8
def acC (x : Ac) (v : Value) : List Value := .int .u8 x.k :: .int .i64 x.who :: (u8s x.d.1 ++ [v])
theorem ac_of {F : PH} {x : ActX} {cs : List Value} (h : tyAct.rep F x cs) : ∃ (y : Ac) (v : Value), cs = acC y v ∧ InK .u8 y.k ∧ SliceV F 8 v y.es.length (eCs y.es) := by
  obtain ⟨_, _, rfl, ⟨rfl, hk⟩, _, _, rfl, ⟨rfl, _⟩, _, _, rfl, ⟨rfl, hd⟩, _, _, rfl, ⟨v, rfl, hr⟩, rfl⟩ := h
  exact ⟨⟨x.1, x.2.1, ⟨x.2.2.1, hd⟩, x.2.2.2.1.map e8Of⟩, v, rfl, hk, ents_of hr⟩
end Go.Proofs.Ytdoaloimndehbaa
