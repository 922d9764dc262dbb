/-
  Names, and whether a core may be, the program's and the document's. Conditions are typed with each.
-/
import Derived.Test.YtohlmhoacjodjaaOg
import Derived.Test.YtohlmhoacjodjaaLa
import Derived.Test.YtohlmhoacjodjaaLb
import Derived.Test.YtohlmhoacjodjaaKz
namespace Go.Proofs.Ytohlmhoacjodjaa
open Go.RowKit
set_option maxRecDepth 100000
/-! ### calls that hand back what lasts -/
theorem Spec.pers {P : Program} {f : FuncId} {args : List Value} {F : PH} {A : Value → Asrt} {Q : Value → PH → Prop} (h : Spec P f args F [] fun u F' H' => F = F' ∧ H' = [A u]) (hq : ∀ u h', A u h' → F.dj h' → Q u (F.un h')) : Spec P f args F [] fun u F' H' => H' = [] ∧ Q u F' := by
  have h' := h.out
  unfold Spec
  intro X w s
  refine (h' X w s).mono ?_
  rintro e w' ⟨v, F', H', he, hF, ⟨rfl, rfl⟩, hm, hs⟩
  obtain ⟨hh, hA, hd, hs'⟩ := hs.persist
  exact ⟨v, _, [], he, PH.le_l _ _, ⟨rfl, hq v hh hA hd⟩, hm, hs'⟩
def uN (k : Int) : Nat := (k % 18446744073709551616).toNat
theorem uN_lt (k : Int) : uN k < 2 ^ 64 := by unfold uN; omega
theorem uN_wrap (k : Int) : IntKind.u64.wrap k = (uN k : Int) := by
  simp only [IntKind.wrap, IntKind.bits, IntKind.signed]
  unfold uN
  have : (2 : Int) ^ 64 = 18446744073709551616 := by decide
  simp [this]
  omega
theorem uN_of {k : Int} (h0 : 0 ≤ k) (h1 : k < 18446744073709551616) : (uN k : Int) = k := by unfold uN; omega
theorem uN_nat {n : Nat} (h1 : n < 18446744073709551616) : uN n = n := by unfold uN; omega
theorem put_p (v : Value) (x : Nat) (n : Int) (bs : List UInt8) (F : PH) (h : Byt F v bs) (hx : x < 2 ^ 64) (hn : bs.length ≤ 1099511627776) : Spec Try.prog 32 [v, .int .u64 x, .int .i64 n] F [] fun u F' H' => H' = [] ∧ Byt F' u (bs ++ putB x n) := by
  obtain ⟨a, c, rfl, hc⟩ := h.form
  exact (put_spec a c x n bs F h hc hx hn).pers fun u h' hA hd => bytes_byt hA hd
theorem Put_p (v : Value) (x : Nat) (n : Int) (bs : List UInt8) (F : PH) (h : Byt F v bs) (hx : x < 2 ^ 64) (hn : bs.length ≤ 1099511627776) : Spec Try.prog 35 [v, .int .u64 x, .int .i64 n] F [] fun u F' H' => H' = [] ∧ Byt F' u (bs ++ putB x n) := by
  obtain ⟨a, c, rfl, hc⟩ := h.form
  exact (Put_spec a c x n bs F h hx hn).pers fun u h' hA hd => bytes_byt hA hd
/-- A row: its length, then itself. -/
def rowB (r : List UInt8) : List UInt8 := putB r.length 4 ++ r
theorem row_p (v v2 : Value) (bs r : List UInt8) (F : PH) (h : Byt F v bs) (h2 : Byt F v2 r) (hn : bs.length ≤ 1099511627776) (hn2 : r.length ≤ 1099511627776) : Spec Try.prog 33 [v, v2] F [] fun u F' H' => H' = [] ∧ Byt F' u (bs ++ rowB r) := by
  obtain ⟨a, c, rfl, hc⟩ := h.form
  obtain ⟨a2, c2, rfl, hc2⟩ := h2.form
  exact (row_spec a a2 c c2 bs r F h hc h2 hn hn2).pers fun u h' hA hd => by unfold rowB; rw [← List.append_assoc]; exact bytes_byt hA hd
theorem Row_p (v v2 : Value) (bs r : List UInt8) (F : PH) (h : Byt F v bs) (h2 : Byt F v2 r) (hn : bs.length ≤ 1099511627776) (hn2 : r.length ≤ 1099511627776) : Spec Try.prog 36 [v, v2] F [] fun u F' H' => H' = [] ∧ Byt F' u (bs ++ rowB r) := by
  obtain ⟨a, c, rfl, hc⟩ := h.form
  obtain ⟨a2, c2, rfl, hc2⟩ := h2.form
  exact (Row_spec a a2 c c2 bs r F h h2 hn hn2).pers fun u h' hA hd => by unfold rowB; rw [← List.append_assoc]; exact bytes_byt hA hd
section
variable {P : Program} {l : Env} {F : PH} {H : List Asrt} {d : Option Nat} {T T' U : TypeId} {pos : String} {af : Array Edge} {g : Option (Nat × Bool)} {x y : Operand}
theorem eb_bytes {bs : List UInt8} (hx : opv l x = some (.string (strOf bs))) : Ev' Try.prog ⟨d, .convert 9 36 x, U, pos, af, g⟩ l F H fun u F' H' => Byt F' u bs ∧ H' = H :=
  (ev_string_bytes hx rfl rfl rfl).mono fun v F' H' ⟨_, h2, h3⟩ => ⟨_, ⟨by rw [strOf_size] at h2; exact h2, rfl⟩, fun w s => h3 ▸ s⟩
theorem ev_sneq {bs cs : List UInt8} {r : Bool} (hx : opv l x = some (.string (strOf bs))) (hy : opv l y = some (.string (strOf cs))) (hr : decide (bs = cs) = !r) : Ev P ⟨d, .binOp .neq T x y T', U, pos, af, g⟩ l F H (.bool r) := by
  have := ev_str_neq (P := P) (F := F) (H := H) (d := d) (T := T) (T' := T') (U := U) (pos := pos) (af := af) (g := g) hx hy
  rwa [strOf_toList, strOf_toList, hr, Bool.not_not] at this
theorem ev_seql {bs cs : List UInt8} {r : Bool} (hx : opv l x = some (.string (strOf bs))) (hy : opv l y = some (.string (strOf cs))) (hr : decide (bs = cs) = r) : Ev P ⟨d, .binOp .eql T x y T', U, pos, af, g⟩ l F H (.bool r) := by
  have := ev_str_eql (P := P) (F := F) (H := H) (d := d) (T := T) (T' := T') (U := U) (pos := pos) (af := af) (g := g) hx hy
  rwa [strOf_toList, strOf_toList, hr] at this
end
/-! ### names -/
def nameR (n : Int) : Bool := decide (97 ≤ n ∧ n ≤ 122) || decide (48 ≤ n ∧ n ≤ 57) || decide (n = 45)
theorem nameR_iff (n : Int) : nameR n = true ↔ (97 ≤ n ∧ n ≤ 122) ∨ (48 ≤ n ∧ n ≤ 57) ∨ n = 45 := by
  unfold nameR
  rw [Bool.or_eq_true, Bool.or_eq_true, decide_eq_true_eq, decide_eq_true_eq, decide_eq_true_eq, or_assoc]
theorem nameR_f {n : Int} (h : ¬ ((97 ≤ n ∧ n ≤ 122) ∨ (48 ≤ n ∧ n ≤ 57) ∨ n = 45)) : nameR n = false := by
  cases hn : nameR n with
  | false => rfl
  | true => exact absurd ((nameR_iff n).1 hn) h
def nameC (c : UInt8) : Bool := nameR c.toNat
def nameB (s : List UInt8) : Bool := decide (1 ≤ s.length ∧ s.length ≤ 16) && s.all nameC
theorem strOf_get (bs : List UInt8) (p : Nat) (h : p < (strOf bs).size) : (strOf bs)[p]'h = bs[p]'(by rw [strOf_size] at h; exact h) := rfl
theorem all_snoc' {α : Type} {l : List α} {i : Nat} {x : α} {p : α → Bool} (h : l[i]? = some x) : (l.take (i + 1)).all p = ((l.take i).all p && p x) := by rw [take_snoc h, List.all_append]; simp
theorem all_no' {α : Type} {l : List α} {i : Nat} {x : α} {p : α → Bool} (h : l[i]? = some x) (hp : p x = false) : l.all p = false := by
  rw [List.all_eq_false]; exact ⟨x, List.mem_of_getElem? h, by rw [hp]; decide⟩
end Go.Proofs.Ytohlmhoacjodjaa
