/-
  Whatever is proposed and voted, one behind the other, each answer is the document's (SlotPlays). No condition.
-/
import Derived.Test.YtdoaloimndehbaaTl
namespace Go.Proofs.Ytdoaloimndehbaa
open Go.RowKit
set_option maxRecDepth 100000
theorem ac_at (y : Ac) (v : Value) : ((acC y v).drop 34).take 1 = [v] ∧ ((acC y v).drop 2).take (u8s y.d.1).length = u8s y.d.1 := by
  unfold acC
  refine ⟨?_, ?_⟩
  · have h := List.drop_left (l₁ := u8s y.d.1) (l₂ := [v])
    rw [dig_len] at h
    show ((u8s y.d.1 ++ [v]).drop 32).take 1 = [v]
    rw [h]
    rfl
  · show (u8s y.d.1 ++ [v]).take (u8s y.d.1).length = _
    rw [List.take_left]
theorem ac_len (y : Ac) (v : Value) : (acC y v).length = 35 := by unfold acC; rw [List.length_cons, List.length_cons, List.length_append, dig_len]; rfl
theorem ac_ones (y : Ac) {a : Option Addr} {n c : Nat} : Ones (acC y (.slice a n c)) := ones_cons rfl (ones_cons rfl (ones_append (dig_ones _) (ones_cons rfl ones_nil)))
/-- A proposal's batch is a row of entries. -/
def EntO (o : Option Pr) : Prop := ∀ q, o = some q → ∃ xs : List E8, q.cs = eCs xs ∧ xs.length = q.n ∧ q.n ≤ 1000
theorem ent_next {o : Option Pr} (d : Dg) (u : Value) (es : List E8) (h : EntO o) (hn : es.length ≤ 1000) : EntO (propO o d u es.length (eCs es)) := by
  cases o with
  | some q => exact h
  | none =>
    intro q hq
    cases hq
    exact ⟨es, rfl, rfl, hn⟩
theorem two {A B : Asrt} {H : List Asrt} {F : PH} {w : World} (s : Sat F (A :: B :: H) w) : Sat F [A, B] w := by
  obtain ⟨r, _, _, s', _⟩ := Sat.split (H := [A, B]) (K := H) s
  exact s'.mono (PH.le_l _ _)
section
variable {P : Program} {l : Env} {F : PH} {H : List Asrt} {d : Option Nat} {T T' U : TypeId} {pos : String} {af : Array Edge} {g : Option (Nat × Bool)} {x y : Operand}
theorem ev_bool_ne_same {a : Bool} (hx : opv l x = some (.bool a)) (hy : opv l y = some (.bool a)) (hu : P.underlying T = some .bool) : Ev P ⟨d, .binOp .neq T x y T', U, pos, af, g⟩ l F H (.bool false) := by
  have h := ev_bool_neq (F := F) (H := H) (d := d) (T' := T') (U := U) (pos := pos) (af := af) (g := g) hx hy hu
  rw [show (!(a == a)) = false from by cases a <;> rfl] at h
  exact h
theorem ev_neD_same {e : Dg} (hx : opv l x = some e.v) (hy : opv l y = some e.v) : Ev Try.prog ⟨d, .binOp .neq 29 x y T', U, pos, af, g⟩ l F H (.bool false) := by
  have h := ev_neD (F := F) (H := H) (dd := d) (T' := T') (U := U) (pos := pos) (af := af) (g := g) hx hy
  rw [show (!decide (e = e)) = false from by simp] at h
  exact h
end
end Go.Proofs.Ytdoaloimndehbaa
