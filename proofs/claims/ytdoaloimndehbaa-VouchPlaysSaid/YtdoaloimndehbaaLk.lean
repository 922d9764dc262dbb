/-
  Texts, and structs of two plain fields, as keys of maps. Plain theorems over any program; no condition.
-/
import Derived.Test.YtdoaloimndehbaaLd
import Derived.Test.YtdoaloimndehbaaKl
namespace Go.Proofs.Ytdoaloimndehbaa
open Go.RowKit
set_option maxRecDepth 100000
theorem strOf_inj {a b : List UInt8} (h : strOf a = strOf b) : a = b := by
  have := congrArg ByteArray.toList h
  rwa [strOf_toList, strOf_toList] at this
theorem strOf_beq (a b : List UInt8) : (strOf a == strOf b) = decide (a = b) := by
  show (a.toArray == b.toArray) = decide (a = b)
  by_cases h : a = b
  · subst h; simp
  · rw [decide_eq_false h]
    rw [beq_eq_false_iff_ne]
    exact fun e => h (by simpa using congrArg Array.toList e)
theorem checkKey_str {P : Program} {kt : TypeId} (hk : P.underlying kt = some .string) (n : Nat) (b : Bool) (v : Value) (w : World) : (Instr.checkKey b (n + 1) kt v).run P w = .ok () w := by
  cases v <;> simp [Instr.checkKey, run_underlying hk]
def keyStr {P : Program} {kt : TypeId} (hk : P.underlying kt = some .string) : KeyT P kt (List UInt8) where
  val := fun s => .string (strOf s)
  chk := fun b a w => checkKey_str hk 9999 b _ w
  same := fun a => by simp [Instr.sameBits, strOf_beq]
  find := by
    intro a M es h w
    have key : ∀ (M : List (List UInt8 × Value)) (es : List MapEntry) (i : Nat), es.map (fun e => (e.key, e.val)) = M.map (fun p => (Value.string (strOf p.1), p.2)) → Instr.findNow .string (.string (strOf a)) es i = some (scanK a M i) := by
      intro M
      induction M with
      | nil => intro es i h; cases es with
        | nil => rfl
        | cons e es => simp at h
      | cons p M ih =>
        intro es i h
        cases es with
        | nil => simp at h
        | cons e es =>
          simp only [List.map_cons, List.cons.injEq, Prod.mk.injEq] at h
          obtain ⟨⟨h1, h2⟩, h3⟩ := h
          obtain ⟨k', v'⟩ := p
          dsimp only at h1 h2
          simp only [Instr.findNow, scanK, h1, Instr.sameNow, strOf_beq]
          by_cases hak : a = k'
          · subst hak; simp [h2]
          · simp [hak, ih es (i + 1) h3]
    unfold Instr.findKey
    simp only [Sem.run_bind, run_underlying hk, Result.andThen_ok, key M es 0 h]
    rfl
/-- A plain field's type. -/
def plainKey (P : Program) (t : TypeId) : Bool := match P.underlying t with
  | some (.int _) => true
  | some .string => true
  | _ => false
theorem checkKey_plain {P : Program} {t : TypeId} (h : plainKey P t = true) (n : Nat) (b : Bool) (v : Value) (w : World) : (Instr.checkKey b (n + 1) t v).run P w = .ok () w := by
  unfold plainKey at h
  cases hu : P.underlying t with
  | none => rw [hu] at h; cases h
  | some d =>
    rw [hu] at h
    cases d <;> first | (cases h; done) | exact checkKey_int hu n b v w | exact checkKey_str hu n b v w
theorem part_plain {P : Program} {t off : Nat} {cs : List Value} {v : Value} (h : plainKey P t = true) (hc : cs[off]? = some v) (w : World) : (part t cs.toArray off).run P w = .ok v w := by
  unfold plainKey at h
  cases hu : P.underlying t with
  | none => rw [hu] at h; cases h
  | some d =>
    rw [hu] at h
    cases d <;> first | (cases h; done) | exact run_part_1 hu rfl hc w
theorem checkKey_two {P : Program} {kt : TypeId} {f1 f2 : Field} (hu : P.underlying kt = some (.struct #[f1, f2])) (h1 : plainKey P f1.type = true) (h2 : plainKey P f2.type = true) (ho1 : f1.offset = 0) (ho2 : f2.offset = 1) (b : Bool) (x y : Value) (n : Nat) (w : World) :
    (Instr.checkKey b (n + 2) kt (.agg #[x, y])).run P w = .ok () w := by
  have q1 : (part f1.type #[x, y] f1.offset).run P w = .ok x w := part_plain (cs := [x, y]) h1 (by rw [ho1]; rfl) w
  have q2 : (part f2.type #[x, y] f2.offset).run P w = .ok y w := part_plain (cs := [x, y]) h2 (by rw [ho2]; rfl) w
  have c1 := checkKey_plain h1 n b x w
  have c2 := checkKey_plain h2 n b y w
  rw [Instr.checkKey]
  simp only [Sem.run_bind, run_underlying hu, Result.andThen_ok]
  rw [show (#[f1, f2] : Array Field) = [f1, f2].toArray from rfl, List.forIn_toArray]
  by_cases n1 : f1.name = "_" <;> by_cases n2 : f2.name = "_" <;> simp only [List.forIn_cons, List.forIn_nil, Sem.run_bind, Sem.run_pure, n1, n2, ne_eq, not_true_eq_false, not_false_eq_true, if_true, if_false, q1, q2, c1, c2, Result.andThen_ok]
end Go.Proofs.Ytdoaloimndehbaa
