/-
  The document's Put, and both Rows. Conditions are typed with each.
-/
import Derived.Test.YtekdmpbkcjjllaaDoorOb
namespace Go.Proofs.YtekdmpbkcjjllaaDoor
open Go.RowKit
set_option maxRecDepth 100000
theorem ob_push {C : Ctx} {ops : Array Oper} {rest : List Oper} {k : List KItem} {l : Env} {F : PH} {H : List Asrt} {d1 d2 : Nat} {U1 U2 : TypeId} {pos1 pos2 : String} {af1 af2 : Array Edge} {g1 g2 : Option (Nat × Bool)} {x y : Operand} {v : Value} {bs : List UInt8} {b : UInt8} {K : Value → List Asrt}
    (hP : C.P = Tryd.prog) (hx : ∀ w, opv ((d1, w) :: l) x = some v) (hy : opv l y = some (.int .u8 (b.toNat : Int))) (hb : bs.length < 140737488355328)
    (hu : ∀ v', Upd (bytes v bs) (bytes v' (bs ++ [b])) H (K v'))
    (hr1 : runs ops l ⟨some d1, .buildSlice 26 1 #[(0, y)], U1, pos1, af1, g1⟩ = some true)
    (hr2 : ∀ w, runs ops ((d1, w) :: l) ⟨some d2, .call { callee := .builtin .append, args := #[x, .tmp d1], argTypes := #[26, 26] }, U2, pos2, af2, g2⟩ = some true)
    (h : ∀ u w, JM C false ops rest k ((d2, u) :: (d1, w) :: l) F (K u)) :
    JM C false ops (⟨some d1, .buildSlice 26 1 #[(0, y)], U1, pos1, af1, g1⟩ :: ⟨some d2, .call { callee := .builtin .append, args := #[x, .tmp d1], argTypes := #[26, 26] }, U2, pos2, af2, g2⟩ :: rest) k l F H :=
  oA (E := 5) (size := 1) (bytes := 1) (n := bs.length) (xs := u8s bs) (vs := [.int .u8 (b.toNat : Int)]) hx hy .int rfl (hP ▸ elB) (ones_cons rfl ones_nil) (by omega)
    (fun v' => by have := hu v'; unfold bytes at this; rwa [u8s_append, List.length_append] at this) hr1 hr2 h
theorem putB_len {v : Nat} {m : Nat} (hb : sizeB m = true) : (putB v m).length = m := by
  have := sizeB_cases hb
  rw [putB, if_pos hb, List.length_drop, be8_len]
  omega
theorem putB_at {v m j : Nat} (hb : sizeB m = true) (hj : j < m) : (putB v m)[j]? = some (UInt8.ofNat (v >>> (8 * (m - 1 - j)))) := by
  have := sizeB_cases hb
  have e : 56 - 8 * (8 - m + j) = 8 * (m - 1 - j) := by omega
  have hlt : 8 - m + j < 8 := by omega
  rw [putB, if_pos hb, List.getElem?_drop, be8]
  simp [hlt, e]
theorem take_snoc {α : Type} {l : List α} {j : Nat} {x : α} (h : l[j]? = some x) : l.take (j + 1) = l.take j ++ [x] := by
  obtain ⟨hlt, rfl⟩ := List.getElem?_eq_some_iff.1 h
  exact List.take_succ_eq_append_getElem hlt
end Go.Proofs.YtekdmpbkcjjllaaDoor
