/-
  Messages that come in. Conditions are typed with each.
-/
import Derived.Test.YtgbljldpamjcpaaWm
import Derived.Test.YtgbljldpamjcpaaKs
namespace Go.Proofs.Ytgbljldpamjcpaa
open Go.RowKit
def tyTag : Ty Try.prog 65 (List UInt8) := tyArr Try.underlying65 Try.underlying5 (by kernel_rfl) (by kernel_rfl)
def tyTags : Ty Try.prog 45 (List (List UInt8)) := tySlice tyTag Try.underlying45 (by kernel_rfl) (by decide)
def tyByt : Ty Try.prog 22 (List UInt8) := tyBytes Try.underlying22 Try.underlying5 (by kernel_rfl)
def tyI64 : Ty Try.prog 3 Int := tyInt Try.underlying3
def tyMsg : Ty Try.prog 47 (Int × Int × List UInt8 × List (List UInt8) × Unit) :=
  tyStruct Try.underlying47 (fsCons tyI64 (fsCons tyI64 (fsCons tyByt (fsCons tyTags (fsNil _) rfl (by kernel_rfl)) rfl (by kernel_rfl)) rfl (by kernel_rfl)) rfl (by kernel_rfl)) (by kernel_rfl)
theorem row_tags {F : PH} {v : Value} {ts : List (List UInt8)} (h : RowV tyTag F v ts) : Tags F v ts := by
  obtain ⟨css, h1, h2⟩ := h
  have h3 : css = ts.map u8s ∧ ∀ t ∈ ts, t.length = 32 := by
    clear h1
    induction h2 with
    | nil => exact ⟨rfl, fun _ h => by cases h⟩
    | cons h _ ih =>
      obtain ⟨rfl, h32⟩ := h
      refine ⟨by rw [ih.1]; rfl, fun t ht => ?_⟩
      rcases List.mem_cons.1 ht with rfl | ht
      · exact h32
      · exact ih.2 t ht
  obtain ⟨rfl, h32⟩ := h3
  exact ⟨h1, h32⟩
theorem msg_of {F : PH} {x : Int × Int × List UInt8 × List (List UInt8) × Unit} {cs : List Value} (h : tyMsg.rep F x cs) : ∃ vb vt, cs = msgC x.1 x.2.1 vb vt ∧ Byt F vb x.2.2.1 ∧ Tags F vt x.2.2.2.1 ∧ InK .i64 x.1 ∧ InK .i64 x.2.1 := by
  obtain ⟨_, _, rfl, ⟨rfl, k0⟩, _, _, rfl, ⟨rfl, k1⟩, _, _, rfl, ⟨vb, rfl, hb⟩, _, _, rfl, ⟨vt, rfl, ht⟩, rfl⟩ := h
  exact ⟨vb, vt, rfl, hb, row_tags ht, k0, k1⟩
/-- A message's fields, one by one. -/
theorem msg_cells {F : PH} {b : Nat} {k f : Int} {vb vt : Value} (h : Cells F b 0 (msgC k f vb vt)) : Cells F b (0 + 0) [.int .i64 k] ∧ Cells F b (0 + 1) [.int .i64 f] ∧ Cells F b (0 + 2) [vb] ∧ Cells F b (0 + 3) [vt] := by
  refine ⟨h.left (ys := [.int .i64 f, vb, vt]), ?_, ?_, ?_⟩
  · exact (Cells.right (xs := [.int .i64 k]) (ys := [.int .i64 f, vb, vt]) h).left (xs := [.int .i64 f]) (ys := [vb, vt])
  · exact (Cells.right (xs := [.int .i64 k, .int .i64 f]) (ys := [vb, vt]) h).left (xs := [vb]) (ys := [vt])
  · exact Cells.right (xs := [.int .i64 k, .int .i64 f, vb]) (ys := [vt]) h
section
variable {P : Program} {l : Env} {F : PH} {H : List Asrt} {d : Option Nat} {T T' U : TypeId} {pos : String} {af : Array Edge} {g : Option (Nat × Bool)} {x y : Operand} {a b : Bool}
theorem evb_ne_f (hx : opv l x = some (.bool a)) (hy : opv l y = some (.bool b)) (hu : P.underlying T = some .bool) (e : a = b) : Ev P ⟨d, .binOp .neq T x y T', U, pos, af, g⟩ l F H (.bool false) := by
  have := ev_bool_neq' (P := P) (F := F) (H := H) (d := d) (T := T) (T' := T') (U := U) (pos := pos) (af := af) (g := g) hx hy hu
  rwa [e, show (!(b == b)) = false from by cases b <;> rfl] at this
theorem evb_eq_t (hx : opv l x = some (.bool a)) (hy : opv l y = some (.bool b)) (hu : P.underlying T = some .bool) (e : a = b) : Ev P ⟨d, .binOp .eql T x y T', U, pos, af, g⟩ l F H (.bool true) := by
  have := ev_bool_eql (P := P) (F := F) (H := H) (d := d) (T := T) (T' := T') (U := U) (pos := pos) (af := af) (g := g) hx hy hu
  rwa [e, show (b == b) = true from by cases b <;> rfl] at this
end
theorem chkE_ok {k f : Int} {lb lt : Nat} (h : chkE k f lb lt = 0) : oddB k f = false ∧ lt ≤ 7 ∧ lb + 32 * lt + 8 ≤ 1048576 := by
  unfold chkE at h
  cases ho : oddB k f with
  | true => rw [ho, if_pos rfl] at h; cases h
  | false =>
    rw [ho, if_neg (by decide)] at h
    split at h
    · cases h
    · split at h
      · cases h
      · exact ⟨rfl, by omega, by omega⟩
theorem nat_of {k : Int} {ku : Nat} (hk : IntKind.u64.wrap k = (ku : Int)) (h0 : 0 ≤ k) (h1 : k ≤ 255) : k = (ku : Int) := by
  rw [wrap_in (by dsimp only [InK]; omega)] at hk; exact hk
end Go.Proofs.Ytgbljldpamjcpaa
