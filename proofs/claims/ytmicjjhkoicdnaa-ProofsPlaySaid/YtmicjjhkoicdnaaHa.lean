/-
  Changes that come in, as plain data: entries, points, proofs, changes, signed ones. Conditions are typed with each.
-/
import Derived.Test.YtmicjjhkoicdnaaLf
import Derived.Test.YtmicjjhkoicdnaaKz
import Derived.Test.YtmicjjhkoicdnaaKy
import Derived.Test.YtmicjjhkoicdnaaLc
import Derived.Test.YtmicjjhkoicdnaaLd
import Derived.Test.YtmicjjhkoicdnaaRows
namespace Go.Proofs.Ytmicjjhkoicdnaa
open Go.RowKit
set_option maxRecDepth 100000
abbrev CoreX := Int × Int × Int × List UInt8 × Int × Int × List UInt8 × Unit
abbrev EntX := CoreX × Int × Unit
instance coreXDec : DecidableEq CoreX := @instDecidableEqProd _ _ inferInstance (@instDecidableEqProd _ _ inferInstance (@instDecidableEqProd _ _ inferInstance (@instDecidableEqProd _ _ inferInstance (@instDecidableEqProd _ _ inferInstance inferInstance))))
instance entXDec : DecidableEq EntX := @instDecidableEqProd _ _ coreXDec inferInstance
abbrev PtX := Int × List UInt8 × Unit
abbrev PrX := Int × Int × List EntX × Unit
abbrev ChX := Int × Int × List PtX × List PrX × List PrX × Unit
abbrev SgX := Int × ChX × Unit
def tyN : Ty Try.prog 3 Int := tyInt Try.underlying3
def tyL : Ty Try.prog 2 Int := tyInt Try.underlying2
def tyU8 : Ty Try.prog 5 Int := tyInt Try.underlying5
def tyU4 : Ty Try.prog 38 Int := tyInt Try.underlying38
def tyS : Ty Try.prog 9 (List UInt8) := tyStr Try.underlying9
def tyCo : Ty Try.prog 37 CoreX :=
  tyStruct Try.underlying37 (fsCons tyN (fsCons tyL (fsCons tyN (fsCons tyS (fsCons tyL (fsCons tyL (fsCons tyS (fsNil _) rfl (by kernel_rfl)) rfl (by kernel_rfl)) rfl (by kernel_rfl)) rfl (by kernel_rfl)) rfl (by kernel_rfl)) rfl (by kernel_rfl)) rfl (by kernel_rfl)) (by kernel_rfl)
def tyEn : Ty Try.prog 40 EntX := tyStruct Try.underlying40 (fsCons tyCo (fsCons tyU4 (fsNil _) rfl (by kernel_rfl)) rfl (by kernel_rfl)) (by kernel_rfl)
def tyEns : Ty Try.prog 41 (List EntX) := tySliceB tyEn Try.underlying41 (by kernel_rfl) (by decide)
def tyPr : Ty Try.prog 43 PrX := tyStruct Try.underlying43 (fsCons tyL (fsCons tyL (fsCons tyEns (fsNil _) rfl (by kernel_rfl)) rfl (by kernel_rfl)) rfl (by kernel_rfl)) (by kernel_rfl)
def tyPrs : Ty Try.prog 44 (List PrX) := tySliceB tyPr Try.underlying44 (by kernel_rfl) (by decide)
def enC (x : EntX) : List Value := [.int .i64 x.1.1, .int .i64 x.1.2.1, .int .i64 x.1.2.2.1, .string (strOf x.1.2.2.2.1), .int .i64 x.1.2.2.2.2.1, .int .i64 x.1.2.2.2.2.2.1, .string (strOf x.1.2.2.2.2.2.2.1), .int .u32 x.2.1]
theorem en_of {F : PH} {x : EntX} {cs : List Value} (h : tyEn.rep F x cs) : cs = enC x := by
  obtain ⟨_, _, rfl, hc, _, _, rfl, ⟨rfl, k⟩, rfl⟩ := h
  obtain ⟨_, _, rfl, ⟨rfl, _⟩, _, _, rfl, ⟨rfl, _⟩, _, _, rfl, ⟨rfl, _⟩, _, _, rfl, ⟨rfl, _⟩, _, _, rfl, ⟨rfl, _⟩, _, _, rfl, ⟨rfl, _⟩, _, _, rfl, ⟨rfl, _⟩, rfl⟩ := hc
  rfl
def ptC (s : Int) (d : List UInt8) : List Value := .int .i64 s :: u8s d
/-- A row, and that it isn't too long. -/
def RowB {P : Program} {e : TypeId} {α : Type} (te : Ty P e α) (F : PH) (v : Value) (xs : List α) : Prop := RowV te F v xs ∧ xs.length ≤ maxLen
theorem RowB.mono {P : Program} {e : TypeId} {α : Type} {te : Ty P e α} {F G : PH} {v : Value} {xs : List α} (h : RowB te F v xs) (hl : F.le G) : RowB te G v xs := ⟨h.1.mono hl, h.2⟩
theorem RowB.form {P : Program} {e : TypeId} {α : Type} {te : Ty P e α} {F : PH} {v : Value} {xs : List α} (h : RowB te F v xs) : ∃ a c, v = .slice a xs.length c ∧ xs.length ≤ c ∧ (xs.length : Int) ≤ 9223372036854775807 := by
  obtain ⟨a, c, e, hc⟩ := h.1.form
  have := h.2
  unfold maxLen at this
  exact ⟨a, c, e, hc, by omega⟩
theorem RowB.nil {P : Program} {e : TypeId} {α : Type} {te : Ty P e α} {F : PH} : RowB te F (.slice none 0 0) [] := ⟨.nil, Nat.zero_le _⟩
def prC (s w : Int) (v : Value) : List Value := [.int .i64 s, .int .i64 w, v]
theorem pr_of {F : PH} {x : PrX} {cs : List Value} (h : tyPr.rep F x cs) : ∃ v, cs = prC x.1 x.2.1 v ∧ InK .i64 x.1 ∧ InK .i64 x.2.1 ∧ RowB tyEn F v x.2.2.1 := by
  obtain ⟨_, _, rfl, ⟨rfl, k⟩, _, _, rfl, ⟨rfl, k2⟩, _, _, rfl, ⟨v, rfl, hr, hm⟩, rfl⟩ := h
  exact ⟨v, rfl, k, k2, hr, hm⟩
theorem pr_mk {F : PH} {s w : Int} {v : Value} {es : List EntX} (hs : InK .i64 s) (hw : InK .i64 w) (h : RowB tyEn F v es) : tyPr.rep F (s, w, es, ()) (prC s w v) :=
  ⟨[.int .i64 s], [.int .i64 w, v], rfl, ⟨rfl, hs⟩, [.int .i64 w], [v], rfl, ⟨rfl, hw⟩, [v], [], rfl, ⟨v, rfl, h.1, h.2⟩, rfl⟩
def chC (w low : Int) (vp vq vr : Value) : List Value := [.int .i64 w, .int .i64 low, vp, vq, vr]
/-- A row that the call has put together. -/
theorem row_own {P : Program} {e : TypeId} {α : Type} {te : Ty P e α} {F hh : PH} {v : Value} {n : Nat} {xs : List α} {css : List (List Value)} (ho : own v e te.sz n css.flatten hh) (hd : F.dj hh) (h : All2 (te.rep F) xs css) (hn : xs.length = n) : RowV te (F.un hh) v xs := by
  subst hn
  exact ⟨css, own_slice ho hd, h.mono fun _ _ hr => te.mono (PH.le_l _ _) hr⟩
theorem All2.snoc {α β : Type} {R : α → β → Prop} {xs : List α} {ys : List β} {x : α} {y : β} (h : All2 R xs ys) (hx : R x y) : All2 R (xs ++ [x]) (ys ++ [y]) := by
  induction h with
  | nil => exact .cons hx .nil
  | cons h _ ih => exact .cons h ih
/-- Entries compared. -/
theorem en_eq (x y : EntX) : EqC Try.prog 9999 0 (enC x) (enC y) (Try.prog.fieldsOf 40).toList (decide (x = y)) := by
  obtain ⟨⟨x1, x2, x3, x4, x5, x6, x7, _⟩, x8, _⟩ := x
  obtain ⟨⟨y1, y2, y3, y4, y5, y6, y7, _⟩, y8, _⟩ := y
  have hc : EqC Try.prog 9998 0 [.int .i64 x1, .int .i64 x2, .int .i64 x3, .string (strOf x4), .int .i64 x5, .int .i64 x6, .string (strOf x7)] [.int .i64 y1, .int .i64 y2, .int .i64 y3, .string (strOf y4), .int .i64 y5, .int .i64 y6, .string (strOf y7)] (Try.prog.fieldsOf 37).toList _ :=
    .int (by decide) rfl rfl (.int (by decide) rfl rfl (.int (by decide) rfl rfl (.str (by decide) rfl rfl (.int (by decide) rfl rfl (.int (by decide) rfl rfl (.str (by decide) rfl rfl .nil))))))
  have h : EqC Try.prog 9999 0 ([.int .i64 x1, .int .i64 x2, .int .i64 x3, .string (strOf x4), .int .i64 x5, .int .i64 x6, .string (strOf x7)] ++ [Value.int .u32 x8]) ([.int .i64 y1, .int .i64 y2, .int .i64 y3, .string (strOf y4), .int .i64 y5, .int .i64 y6, .string (strOf y7)] ++ [Value.int .u32 y8]) (Try.prog.fieldsOf 40).toList _ :=
    .sub (n := 7) (by decide) rfl rfl rfl rfl (fun w => eqC_struct (d := 9996) (by kernel_rfl) (by kernel_rfl) hc w) (.int (by decide) rfl rfl .nil)
  have e : ∀ (p q : Bool), (p = true ↔ q = true) → p = q := fun p q h => by cases p <;> cases q <;> simp_all
  rw [show decide (((x1, x2, x3, x4, x5, x6, x7, ()), x8, ()) = ((y1, y2, y3, y4, y5, y6, y7, ()), y8, ())) = _ from e _ _ ?_]
  · exact h
  · simp only [strOf_toList, decide_eq_true_eq, Bool.and_eq_true, Prod.mk.injEq, and_true, Bool.and_true]
theorem ev_en_neq {l : Env} {F : PH} {H : List Asrt} {d : Option Nat} {T' U : TypeId} {pos : String} {af : Array Edge} {g : Option (Nat × Bool)} {x y : Operand} {e e' : EntX} (hx : opv l x = some (.agg (enC e).toArray)) (hy : opv l y = some (.agg (enC e').toArray)) : Ev Try.prog ⟨d, .binOp .neq 40 x y T', U, pos, af, g⟩ l F H (.bool (!decide (e = e'))) :=
  ev_st_neq hx hy (by kernel_rfl) (by kernel_rfl) (by kernel_rfl) (en_eq e e')
end Go.Proofs.Ytmicjjhkoicdnaa
