/-
  The law's fixed cases of the octets. No condition.
-/
import Derived.Test.YtmicjjhkoicdnaaDoorOg
namespace Go.Proofs.YtmicjjhkoicdnaaDoor
open Go.RowKit
set_option maxRecDepth 100000
section
variable {P : Program} {l : Env} {F : PH} {H Hr : List Asrt} {d : Option Nat} {T T' U E : TypeId} {pos : String} {af : Array Edge} {g : Option (Nat × Bool)} {x y : Operand}
theorem ev_str_t {s t : ByteArray} (hx : opv l x = some (.string s)) (hy : opv l y = some (.string t)) (h : s = t) : Ev P ⟨d, .binOp .eql T x y T', U, pos, af, g⟩ l F H (.bool true) := by
  have := ev_str_eql (P := P) (F := F) (H := H) (d := d) (T := T) (T' := T') (U := U) (pos := pos) (af := af) (g := g) hx hy
  rwa [decide_eq_true (by rw [h])] at this
theorem ev_str_nt {s t : ByteArray} (hx : opv l x = some (.string s)) (hy : opv l y = some (.string t)) (h : s = t) : Ev P ⟨d, .binOp .neq T x y T', U, pos, af, g⟩ l F H (.bool false) := by
  have := ev_str_neq (P := P) (F := F) (H := H) (d := d) (T := T) (T' := T') (U := U) (pos := pos) (af := af) (g := g) hx hy
  rwa [decide_eq_true (by rw [h])] at this
end
theorem blk_byt {F h : PH} {b E n : Nat} {bs : List UInt8} (hA : blk b E (u8s bs) h) (hd : F.dj h) (hn : n = bs.length) : Byt (F.un h) (.slice (some ⟨b, 0, none⟩) n n) bs := by
  subst hn
  exact ⟨by rw [u8s_len, Nat.mul_one], _, _, rfl, Nat.le_refl _, fun _ => ⟨b, 0, rfl, blk_cells hA hd⟩⟩
theorem cells_byt {F : PH} {b n : Nat} {bs : List UInt8} (hc : Cells F b 0 (u8s bs)) (hn : n = bs.length) : Byt F (.slice (some ⟨b, 0, none⟩) n n) bs := by
  subst hn
  exact ⟨by rw [u8s_len, Nat.mul_one], _, _, rfl, Nat.le_refl _, fun _ => ⟨b, 0, rfl, hc⟩⟩
end Go.Proofs.YtmicjjhkoicdnaaDoor
