/-
  Names, and whether a core may be, the program's and the document's. Conditions are typed with each.
-/
import Derived.Test.YtifdlhafcfbeaaaOg
import Derived.Test.YtifdlhafcfbeaaaLa
import Derived.Test.YtifdlhafcfbeaaaLb
import Derived.Test.YtifdlhafcfbeaaaKz
namespace Go.Proofs.Ytifdlhafcfbeaaa
open Go.RowKit
set_option maxRecDepth 100000
/-! ### calls that hand back what lasts -/
theorem Spec.pers {P : Program} {f : FuncId} {args : List Value} {F : PH} {A : Value → Asrt} {Q : Value → PH → Prop} (h : Spec P f args F [] fun u F' H' => F = F' ∧ H' = [A u]) (hq : ∀ u h', A u h' → F.dj h' → Q u (F.un h')) : Spec P f args F [] fun u F' H' => H' = [] ∧ Q u F' := by
  have h' := h.out
  unfold Spec
  intro X w s
  refine (h' X w s).mono ?_
  rintro e w' ⟨v, F', H', he, hF, ⟨rfl, rfl⟩, hm, hs⟩
  obtain ⟨hh, hA, hd, hs'⟩ := hs.persist
  exact ⟨v, _, [], he, PH.le_l _ _, ⟨rfl, hq v hh hA hd⟩, hm, hs'⟩
def uN (k : Int) : Nat := (k % 18446744073709551616).toNat
theorem uN_lt (k : Int) : uN k < 2 ^ 64 := by unfold uN; omega
theorem uN_wrap (k : Int) : IntKind.u64.wrap k = (uN k : Int) := by
  simp only [IntKind.wrap, IntKind.bits, IntKind.signed]
  unfold uN
  have : (2 : Int) ^ 64 = 18446744073709551616 := by decide
  simp [this]
  omega
theorem uN_of {k : Int} (h0 : 0 ≤ k) (h1 : k < 18446744073709551616) : (uN k : Int) = k := by unfold uN; omega
theorem uN_nat {n : Nat} (h1 : n < 18446744073709551616) : uN n = n := by unfold uN; omega
theorem put_p (v : Value) (x : Nat) (n : Int) (bs : List UInt8) (F : PH) (h : Byt F v bs) (hx : x < 2 ^ 64) (hn : bs.length ≤ 1099511627776) : Spec Try.prog 37 [v, .int .u64 x, .int .i64 n] F [] fun u F' H' => H' = [] ∧ Byt F' u (bs ++ putB x n) := by
  obtain ⟨a, c, rfl, hc⟩ := h.form
  exact (put_spec a c x n bs F h hc hx hn).pers fun u h' hA hd => bytes_byt hA hd
theorem Put_p (v : Value) (x : Nat) (n : Int) (bs : List UInt8) (F : PH) (h : Byt F v bs) (hx : x < 2 ^ 64) (hn : bs.length ≤ 1099511627776) : Spec Try.prog 60 [v, .int .u64 x, .int .i64 n] F [] fun u F' H' => H' = [] ∧ Byt F' u (bs ++ putB x n) := by
  obtain ⟨a, c, rfl, hc⟩ := h.form
  exact (Put_spec a c x n bs F h hx hn).pers fun u h' hA hd => bytes_byt hA hd
/-- A row: its length, then itself. -/
def rowB (r : List UInt8) : List UInt8 := putB r.length 4 ++ r
theorem row_p (v v2 : Value) (bs r : List UInt8) (F : PH) (h : Byt F v bs) (h2 : Byt F v2 r) (hn : bs.length ≤ 1099511627776) (hn2 : r.length ≤ 1099511627776) : Spec Try.prog 38 [v, v2] F [] fun u F' H' => H' = [] ∧ Byt F' u (bs ++ rowB r) := by
  obtain ⟨a, c, rfl, hc⟩ := h.form
  obtain ⟨a2, c2, rfl, hc2⟩ := h2.form
  exact (row_spec a a2 c c2 bs r F h hc h2 hn hn2).pers fun u h' hA hd => by unfold rowB; rw [← List.append_assoc]; exact bytes_byt hA hd
theorem Row_p (v v2 : Value) (bs r : List UInt8) (F : PH) (h : Byt F v bs) (h2 : Byt F v2 r) (hn : bs.length ≤ 1099511627776) (hn2 : r.length ≤ 1099511627776) : Spec Try.prog 61 [v, v2] F [] fun u F' H' => H' = [] ∧ Byt F' u (bs ++ rowB r) := by
  obtain ⟨a, c, rfl, hc⟩ := h.form
  obtain ⟨a2, c2, rfl, hc2⟩ := h2.form
  exact (Row_spec a a2 c c2 bs r F h h2 hn hn2).pers fun u h' hA hd => by unfold rowB; rw [← List.append_assoc]; exact bytes_byt hA hd
section
variable {P : Program} {l : Env} {F : PH} {H : List Asrt} {d : Option Nat} {T T' U : TypeId} {pos : String} {af : Array Edge} {g : Option (Nat × Bool)} {x y : Operand}
theorem eb_bytes {bs : List UInt8} (hx : opv l x = some (.string (strOf bs))) : Ev' Try.prog ⟨d, .convert 9 22 x, U, pos, af, g⟩ l F H fun u F' H' => Byt F' u bs ∧ H' = H :=
  (ev_string_bytes hx rfl rfl rfl).mono fun v F' H' ⟨_, h2, h3⟩ => ⟨_, ⟨by rw [strOf_size] at h2; exact h2, rfl⟩, fun w s => h3 ▸ s⟩
theorem ev_sneq {bs cs : List UInt8} {r : Bool} (hx : opv l x = some (.string (strOf bs))) (hy : opv l y = some (.string (strOf cs))) (hr : decide (bs = cs) = !r) : Ev P ⟨d, .binOp .neq T x y T', U, pos, af, g⟩ l F H (.bool r) := by
  have := ev_str_neq (P := P) (F := F) (H := H) (d := d) (T := T) (T' := T') (U := U) (pos := pos) (af := af) (g := g) hx hy
  rwa [strOf_toList, strOf_toList, hr, Bool.not_not] at this
theorem ev_seql {bs cs : List UInt8} {r : Bool} (hx : opv l x = some (.string (strOf bs))) (hy : opv l y = some (.string (strOf cs))) (hr : decide (bs = cs) = r) : Ev P ⟨d, .binOp .eql T x y T', U, pos, af, g⟩ l F H (.bool r) := by
  have := ev_str_eql (P := P) (F := F) (H := H) (d := d) (T := T) (T' := T') (U := U) (pos := pos) (af := af) (g := g) hx hy
  rwa [strOf_toList, strOf_toList, hr] at this
end
/-! ### names -/
def nameR (n : Int) : Bool := decide (97 ≤ n ∧ n ≤ 122) || decide (48 ≤ n ∧ n ≤ 57) || decide (n = 45)
theorem nameR_iff (n : Int) : nameR n = true ↔ (97 ≤ n ∧ n ≤ 122) ∨ (48 ≤ n ∧ n ≤ 57) ∨ n = 45 := by
  unfold nameR
  rw [Bool.or_eq_true, Bool.or_eq_true, decide_eq_true_eq, decide_eq_true_eq, decide_eq_true_eq, or_assoc]
theorem nameR_f {n : Int} (h : ¬ ((97 ≤ n ∧ n ≤ 122) ∨ (48 ≤ n ∧ n ≤ 57) ∨ n = 45)) : nameR n = false := by
  cases hn : nameR n with
  | false => rfl
  | true => exact absurd ((nameR_iff n).1 hn) h
def nameC (c : UInt8) : Bool := nameR c.toNat
def nameB (s : List UInt8) : Bool := decide (1 ≤ s.length ∧ s.length ≤ 16) && s.all nameC
set_option maxHeartbeats 4000000 in
theorem name1_spec (n : Int) (F : PH) : Pure Try.prog 46 [.int .i32 n] F (.bool (!nameR n)) := by
  refine Spec.of1 Try.func46 rfl rfl fun X w0 => ?_
  by_cases h1 : n < 97
  · by_cases h2 : n < 48
    · by_cases h3 : n = 45
      · rw [(nameR_iff n).2 (by omega)]
        repeat (first|refine zJ rfl rfl ?_|refine jr rfl ?_|refine jn ?_|refine zM rfl rfl ?_|(refine zC rfl rfl ?_ rfl ?_;omega)|(refine zD rfl rfl ?_ rfl ?_;omega)|(refine zP rfl ?_ rfl ?_;omega)|refine zG rfl rfl rfl rfl ?_|(refine jdq rfl rfl ?_ ?_ ?_;kernel_rfl;kernel_rfl)|refine zB rfl rfl rfl (by repeat constructor) rfl ?_)
        exact J_ret1 rfl rfl [] rfl (PH.ler _) ⟨rfl, rfl⟩
      · rw [nameR_f (by omega)]
        repeat (first|refine zJ rfl rfl ?_|refine jr rfl ?_|refine jn ?_|refine zM rfl rfl ?_|(refine zC rfl rfl ?_ rfl ?_;omega)|(refine zD rfl rfl ?_ rfl ?_;omega)|(refine zP rfl ?_ rfl ?_;omega)|refine zG rfl rfl rfl rfl ?_|(refine jdq rfl rfl ?_ ?_ ?_;kernel_rfl;kernel_rfl)|refine zB rfl rfl rfl (by repeat constructor) rfl ?_)
        exact J_ret1 rfl rfl [] rfl (PH.ler _) ⟨rfl, rfl⟩
    · by_cases h3 : 57 < n
      · rw [nameR_f (by omega)]
        repeat (first|refine zJ rfl rfl ?_|refine jr rfl ?_|refine jn ?_|refine zM rfl rfl ?_|(refine zC rfl rfl ?_ rfl ?_;omega)|(refine zD rfl rfl ?_ rfl ?_;omega)|(refine zP rfl ?_ rfl ?_;omega)|refine zG rfl rfl rfl rfl ?_|(refine jdq rfl rfl ?_ ?_ ?_;kernel_rfl;kernel_rfl)|refine zB rfl rfl rfl (by repeat constructor) rfl ?_)
        exact J_ret1 rfl rfl [] rfl (PH.ler _) ⟨rfl, rfl⟩
      · rw [(nameR_iff n).2 (by omega)]
        repeat (first|refine zJ rfl rfl ?_|refine jr rfl ?_|refine jn ?_|refine zM rfl rfl ?_|(refine zC rfl rfl ?_ rfl ?_;omega)|(refine zD rfl rfl ?_ rfl ?_;omega)|(refine zP rfl ?_ rfl ?_;omega)|refine zG rfl rfl rfl rfl ?_|(refine jdq rfl rfl ?_ ?_ ?_;kernel_rfl;kernel_rfl)|refine zB rfl rfl rfl (by repeat constructor) rfl ?_)
        exact J_ret1 rfl rfl [] rfl (PH.ler _) ⟨rfl, rfl⟩
  · by_cases h2 : 122 < n
    · rw [nameR_f (by omega)]
      repeat (first|refine zJ rfl rfl ?_|refine jr rfl ?_|refine jn ?_|refine zM rfl rfl ?_|(refine zC rfl rfl ?_ rfl ?_;omega)|(refine zD rfl rfl ?_ rfl ?_;omega)|(refine zP rfl ?_ rfl ?_;omega)|refine zG rfl rfl rfl rfl ?_|(refine jdq rfl rfl ?_ ?_ ?_;kernel_rfl;kernel_rfl)|refine zB rfl rfl rfl (by repeat constructor) rfl ?_)
      exact J_ret1 rfl rfl [] rfl (PH.ler _) ⟨rfl, rfl⟩
    · rw [(nameR_iff n).2 (by omega)]
      repeat (first|refine zJ rfl rfl ?_|refine jr rfl ?_|refine jn ?_|refine zM rfl rfl ?_|(refine zC rfl rfl ?_ rfl ?_;omega)|(refine zD rfl rfl ?_ rfl ?_;omega)|(refine zP rfl ?_ rfl ?_;omega)|refine zG rfl rfl rfl rfl ?_|(refine jdq rfl rfl ?_ ?_ ?_;kernel_rfl;kernel_rfl)|refine zB rfl rfl rfl (by repeat constructor) rfl ?_)
      exact J_ret1 rfl rfl [] rfl (PH.ler _) ⟨rfl, rfl⟩
theorem strOf_get (bs : List UInt8) (p : Nat) (h : p < (strOf bs).size) : (strOf bs)[p]'h = bs[p]'(by rw [strOf_size] at h; exact h) := rfl
theorem all_snoc' {α : Type} {l : List α} {i : Nat} {x : α} {p : α → Bool} (h : l[i]? = some x) : (l.take (i + 1)).all p = ((l.take i).all p && p x) := by rw [take_snoc h, List.all_append]; simp
theorem all_no' {α : Type} {l : List α} {i : Nat} {x : α} {p : α → Bool} (h : l[i]? = some x) (hp : p x = false) : l.all p = false := by
  rw [List.all_eq_false]; exact ⟨x, List.mem_of_getElem? h, by rw [hp]; decide⟩
set_option maxHeartbeats 4000000 in
theorem indexFunc_spec (bs : List UInt8) (hl : bs.length ≤ 1099511627776) (F : PH) : Spec Try.prog 87 [.string (strOf bs), fnV 46 [], .bool true] F [] fun u F' H' => F = F' ∧ H' = [] ∧ ∃ r : Int, u = .int .i64 r ∧ (0 ≤ r ↔ bs.all nameC = false) := by
  have hsz := strOf_size bs
  refine Spec.of3 Try.func87 rfl rfl fun X w0 => ?_
  repeat (first|refine zJ rfl rfl ?_|refine jr rfl ?_|refine jn ?_|refine zM rfl rfl ?_|(refine zC rfl rfl ?_ rfl ?_;omega)|(refine zD rfl rfl ?_ rfl ?_;omega)|(refine zP rfl ?_ rfl ?_;omega)|refine zG rfl rfl rfl rfl ?_|(refine jdq rfl rfl ?_ ?_ ?_;kernel_rfl;kernel_rfl)|refine zB rfl rfl rfl (by repeat constructor) rfl ?_)
  refine oE (ev_range_str rfl rfl) rfl ?_
  rintro _ _ _ _ ⟨rfl, b, rfl, rfl⟩
  repeat (first|refine zJ rfl rfl ?_|refine jr rfl ?_|refine jn ?_|refine zM rfl rfl ?_|(refine zC rfl rfl ?_ rfl ?_;omega)|(refine zD rfl rfl ?_ rfl ?_;omega)|(refine zP rfl ?_ rfl ?_;omega)|refine zG rfl rfl rfl rfl ?_|(refine jdq rfl rfl ?_ ?_ ?_;kernel_rfl;kernel_rfl)|refine zB rfl rfl rfl (by repeat constructor) rfl ?_)
  refine J_loop (ι := Nat) (fun p => p ≤ bs.length ∧ (bs.take p).all nameC = true) (fun p => bs.length - p) (fun p => [(1, fnV 46 []), (2, .bool true), (10, .pointer (some ⟨b, 0, none⟩))]) (fun _ => F) (fun p => siter b (strOf bs) p :: X) 0 ⟨Nat.zero_le _, by simp⟩ ⟨⟨rfl, rfl, rfl, trivial⟩, fun _ s => s⟩ ?_
  rintro p ⟨hp, hall⟩
  by_cases hlt : p < bs.length
  · have hlt' : p < (strOf bs).size := by omega
    have hg : bs[p]? = some bs[p] := List.getElem?_eq_getElem hlt
    have hgs := strOf_get bs p hlt'
    have hdec : (nameR (Utf8.decode (strOf bs) p).1 = nameC bs[p]) ∧ (nameC bs[p] = true → (Utf8.decode (strOf bs) p).2 = 1) := by
      by_cases h128 : (bs[p]).toNat < 128
      · rw [decode_ascii (strOf bs) p hlt' (by rw [hgs]; exact h128), hgs]
        exact ⟨rfl, fun _ => rfl⟩
      · have h1 := decode_high (strOf bs) p hlt' (by rw [hgs]; omega)
        have e1 : nameR (Utf8.decode (strOf bs) p).1 = false := nameR_f (by omega)
        have e2 : nameC bs[p] = false := by unfold nameC; exact nameR_f (by omega)
        rw [e1, e2]
        exact ⟨rfl, fun h => by cases h⟩
    have hsn := all_snoc' (p := nameC) hg
    have hno := fun hp => all_no' (p := nameC) hg hp
    generalize bs[p] = c at *
    repeat (first|refine zJ rfl rfl ?_|refine jr rfl ?_|refine jn ?_|refine zM rfl rfl ?_|(refine zC rfl rfl ?_ rfl ?_;omega)|(refine zD rfl rfl ?_ rfl ?_;omega)|(refine zP rfl ?_ rfl ?_;omega)|refine zG rfl rfl rfl rfl ?_|(refine jdq rfl rfl ?_ ?_ ?_;kernel_rfl;kernel_rfl)|refine zB rfl rfl rfl (by repeat constructor) rfl ?_)
    refine oE (ev_next_str (p := p) rfl hlt' .here) rfl ?_
    rintro _ _ _ _ ⟨rfl, rfl, rfl⟩
    repeat (first|refine zJ rfl rfl ?_|refine jr rfl ?_|refine jn ?_|refine zM rfl rfl ?_|(refine zC rfl rfl ?_ rfl ?_;omega)|(refine zD rfl rfl ?_ rfl ?_;omega)|(refine zP rfl ?_ rfl ?_;omega)|refine zG rfl rfl rfl rfl ?_|(refine jdq rfl rfl ?_ ?_ ?_;kernel_rfl;kernel_rfl)|refine zB rfl rfl rfl (by repeat constructor) rfl ?_)
    have hn1 := name1_spec (Utf8.decode (strOf bs) p).1 F
    rw [hdec.1] at hn1
    cases hc : nameC c with
    | true =>
      rw [hc] at hn1
      rw [hdec.2 hc]
      refine oPF (args := [_]) (caps := []) rfl hn1 Try.call46 rfl rfl ?_
      repeat (first|refine zJ rfl rfl ?_|refine jr rfl ?_|refine jn ?_|refine zM rfl rfl ?_|(refine zC rfl rfl ?_ rfl ?_;omega)|(refine zD rfl rfl ?_ rfl ?_;omega)|(refine zP rfl ?_ rfl ?_;omega)|refine zG rfl rfl rfl rfl ?_|(refine jdq rfl rfl ?_ ?_ ?_;kernel_rfl;kernel_rfl)|refine zB rfl rfl rfl (by repeat constructor) rfl ?_)
      refine J_again (p + 1) ⟨hlt, by rw [hsn, hall, hc]; rfl⟩ (by omega) ⟨⟨rfl, rfl, rfl, trivial⟩, fun w s => s⟩
    | false =>
      rw [hc] at hn1
      refine oPF (args := [_]) (caps := []) rfl hn1 Try.call46 rfl rfl ?_
      repeat (first|refine zJ rfl rfl ?_|refine jr rfl ?_|refine jn ?_|refine zM rfl rfl ?_|(refine zC rfl rfl ?_ rfl ?_;omega)|(refine zD rfl rfl ?_ rfl ?_;omega)|(refine zP rfl ?_ rfl ?_;omega)|refine zG rfl rfl rfl rfl ?_|(refine jdq rfl rfl ?_ ?_ ?_;kernel_rfl;kernel_rfl)|refine zB rfl rfl rfl (by repeat constructor) rfl ?_)
      exact J_retv rfl (.tmp rfl .nil) [] (fun w s => s.drop) (PH.ler _) ⟨rfl, rfl, p, rfl, by rw [hno hc]; simp⟩
  · obtain rfl : p = bs.length := by omega
    rw [List.take_length] at hall
    rw [hall]
    repeat (first|refine zJ rfl rfl ?_|refine jr rfl ?_|refine jn ?_|refine zM rfl rfl ?_|(refine zC rfl rfl ?_ rfl ?_;omega)|(refine zD rfl rfl ?_ rfl ?_;omega)|(refine zP rfl ?_ rfl ?_;omega)|refine zG rfl rfl rfl rfl ?_|(refine jdq rfl rfl ?_ ?_ ?_;kernel_rfl;kernel_rfl)|refine zB rfl rfl rfl (by repeat constructor) rfl ?_)
    refine oS (ev_next_end (p := bs.length) rfl (by omega) .here) rfl ?_
    repeat (first|refine zJ rfl rfl ?_|refine jr rfl ?_|refine jn ?_|refine zM rfl rfl ?_|(refine zC rfl rfl ?_ rfl ?_;omega)|(refine zD rfl rfl ?_ rfl ?_;omega)|(refine zP rfl ?_ rfl ?_;omega)|refine zG rfl rfl rfl rfl ?_|(refine jdq rfl rfl ?_ ?_ ?_;kernel_rfl;kernel_rfl)|refine zB rfl rfl rfl (by repeat constructor) rfl ?_)
    exact J_retv rfl (.tmp rfl .nil) [] (fun w s => s.drop) (PH.ler _) ⟨rfl, rfl, -1, rfl, by simp⟩
set_option maxHeartbeats 4000000 in
theorem contFunc_spec (bs : List UInt8) (hl : bs.length ≤ 1099511627776) (F : PH) : Pure Try.prog 47 [.string (strOf bs), fnV 46 []] F (.bool (!bs.all nameC)) := by
  have s1 : Spec Try.prog 81 [.string (strOf bs), fnV 46 []] F [] fun u F' H' => F = F' ∧ H' = [] ∧ ∃ r : Int, u = .int .i64 r ∧ (0 ≤ r ↔ bs.all nameC = false) := by
    refine Spec.of2 Try.func81 rfl rfl fun X w0 => ?_
    repeat (first|refine zJ rfl rfl ?_|refine jr rfl ?_|refine jn ?_|refine zM rfl rfl ?_|(refine zC rfl rfl ?_ rfl ?_;omega)|(refine zD rfl rfl ?_ rfl ?_;omega)|(refine zP rfl ?_ rfl ?_;omega)|refine zG rfl rfl rfl rfl ?_|(refine jdq rfl rfl ?_ ?_ ?_;kernel_rfl;kernel_rfl)|refine zB rfl rfl rfl (by repeat constructor) rfl ?_)
    refine oC (Hc := []) (Hr := X) (indexFunc_spec bs hl F) Try.call87 rfl rfl (fun _ s => s) ?_
    rintro _ _ _ _ ⟨rfl, rfl, r, rfl, hr⟩
    repeat (first|refine zJ rfl rfl ?_|refine jr rfl ?_|refine jn ?_|refine zM rfl rfl ?_|(refine zC rfl rfl ?_ rfl ?_;omega)|(refine zD rfl rfl ?_ rfl ?_;omega)|(refine zP rfl ?_ rfl ?_;omega)|refine zG rfl rfl rfl rfl ?_|(refine jdq rfl rfl ?_ ?_ ?_;kernel_rfl;kernel_rfl)|refine zB rfl rfl rfl (by repeat constructor) rfl ?_)
    exact J_retv rfl (.tmp rfl .nil) [] (fun w s => s) (PH.ler _) ⟨rfl, rfl, r, rfl, hr⟩
  refine Spec.of2 Try.func47 rfl rfl fun X w0 => ?_
  repeat (first|refine zJ rfl rfl ?_|refine jr rfl ?_|refine jn ?_|refine zM rfl rfl ?_|(refine zC rfl rfl ?_ rfl ?_;omega)|(refine zD rfl rfl ?_ rfl ?_;omega)|(refine zP rfl ?_ rfl ?_;omega)|refine zG rfl rfl rfl rfl ?_|(refine jdq rfl rfl ?_ ?_ ?_;kernel_rfl;kernel_rfl)|refine zB rfl rfl rfl (by repeat constructor) rfl ?_)
  refine oC (Hc := []) (Hr := X) s1 Try.call81 rfl rfl (fun _ s => s) ?_
  rintro _ _ _ _ ⟨rfl, rfl, r, rfl, hr⟩
  cases hb : bs.all nameC with
  | false =>
    have h0 : 0 ≤ r := hr.2 hb
    repeat (first|refine zJ rfl rfl ?_|refine jr rfl ?_|refine jn ?_|refine zM rfl rfl ?_|(refine zC rfl rfl ?_ rfl ?_;omega)|(refine zD rfl rfl ?_ rfl ?_;omega)|(refine zP rfl ?_ rfl ?_;omega)|refine zG rfl rfl rfl rfl ?_|(refine jdq rfl rfl ?_ ?_ ?_;kernel_rfl;kernel_rfl)|refine zB rfl rfl rfl (by repeat constructor) rfl ?_)
    exact J_ret1 rfl rfl [] rfl (PH.ler _) ⟨rfl, rfl⟩
  | true =>
    have h0 : ¬ 0 ≤ r := fun h => by rw [hr.1 h] at hb; cases hb
    repeat (first|refine zJ rfl rfl ?_|refine jr rfl ?_|refine jn ?_|refine zM rfl rfl ?_|(refine zC rfl rfl ?_ rfl ?_;omega)|(refine zD rfl rfl ?_ rfl ?_;omega)|(refine zP rfl ?_ rfl ?_;omega)|refine zG rfl rfl rfl rfl ?_|(refine jdq rfl rfl ?_ ?_ ?_;kernel_rfl;kernel_rfl)|refine zB rfl rfl rfl (by repeat constructor) rfl ?_)
    exact J_ret1 rfl rfl [] rfl (PH.ler _) ⟨rfl, rfl⟩
set_option maxHeartbeats 4000000 in
theorem isName_spec (bs : List UInt8) (hl : bs.length ≤ 1099511627776) (F : PH) : Pure Try.prog 21 [.string (strOf bs)] F (.bool (nameB bs)) := by
  have hsz := strOf_size bs
  unfold nameB
  refine Spec.of1 Try.func21 rfl rfl fun X w0 => ?_
  repeat (first|refine zJ rfl rfl ?_|refine jr rfl ?_|refine jn ?_|refine zM rfl rfl ?_|(refine zC rfl rfl ?_ rfl ?_;omega)|(refine zD rfl rfl ?_ rfl ?_;omega)|(refine zP rfl ?_ rfl ?_;omega)|refine zG rfl rfl rfl rfl ?_|(refine jdq rfl rfl ?_ ?_ ?_;kernel_rfl;kernel_rfl)|refine zB rfl rfl rfl (by repeat constructor) rfl ?_)
  by_cases h0 : bs.length = 0
  · have e : bs = [] := List.eq_nil_of_length_eq_zero h0
    rw [decide_eq_false (by omega), Bool.false_and]
    refine oS (ev_sneq (bs := bs) (cs := []) (r := false) rfl rfl (by rw [e]; rfl)) rfl ?_
    repeat (first|refine zJ rfl rfl ?_|refine jr rfl ?_|refine jn ?_|refine zM rfl rfl ?_|(refine zC rfl rfl ?_ rfl ?_;omega)|(refine zD rfl rfl ?_ rfl ?_;omega)|(refine zP rfl ?_ rfl ?_;omega)|refine zG rfl rfl rfl rfl ?_|(refine jdq rfl rfl ?_ ?_ ?_;kernel_rfl;kernel_rfl)|refine zB rfl rfl rfl (by repeat constructor) rfl ?_)
    exact J_ret1 rfl rfl [] rfl (PH.ler _) ⟨rfl, rfl⟩
  · have e : ¬ bs = [] := fun e => h0 (by rw [e]; rfl)
    refine oS (ev_sneq (bs := bs) (cs := []) (r := true) rfl rfl (by rw [decide_eq_false e]; rfl)) rfl ?_
    by_cases h1 : bs.length ≤ 16
    · rw [decide_eq_true (by omega), Bool.true_and]
      repeat (first|refine zJ rfl rfl ?_|refine jr rfl ?_|refine jn ?_|refine zM rfl rfl ?_|(refine zC rfl rfl ?_ rfl ?_;omega)|(refine zD rfl rfl ?_ rfl ?_;omega)|(refine zP rfl ?_ rfl ?_;omega)|refine zG rfl rfl rfl rfl ?_|(refine jdq rfl rfl ?_ ?_ ?_;kernel_rfl;kernel_rfl)|refine zB rfl rfl rfl (by repeat constructor) rfl ?_)
      refine oP (contFunc_spec bs hl F) Try.call47 rfl rfl ?_
      cases bs.all nameC <;> (repeat (first|refine zJ rfl rfl ?_|refine jr rfl ?_|refine jn ?_|refine zM rfl rfl ?_|(refine zC rfl rfl ?_ rfl ?_;omega)|(refine zD rfl rfl ?_ rfl ?_;omega)|(refine zP rfl ?_ rfl ?_;omega)|refine zG rfl rfl rfl rfl ?_|(refine jdq rfl rfl ?_ ?_ ?_;kernel_rfl;kernel_rfl)|refine zB rfl rfl rfl (by repeat constructor) rfl ?_)) <;> exact J_ret1 rfl rfl [] rfl (PH.ler _) ⟨rfl, rfl⟩
    · rw [decide_eq_false (by omega), Bool.false_and]
      repeat (first|refine zJ rfl rfl ?_|refine jr rfl ?_|refine jn ?_|refine zM rfl rfl ?_|(refine zC rfl rfl ?_ rfl ?_;omega)|(refine zD rfl rfl ?_ rfl ?_;omega)|(refine zP rfl ?_ rfl ?_;omega)|refine zG rfl rfl rfl rfl ?_|(refine jdq rfl rfl ?_ ?_ ?_;kernel_rfl;kernel_rfl)|refine zB rfl rfl rfl (by repeat constructor) rfl ?_)
      exact J_ret1 rfl rfl [] rfl (PH.ler _) ⟨rfl, rfl⟩
set_option maxHeartbeats 8000000 in
theorem IsName_spec (bs : List UInt8) (hl : bs.length ≤ 1099511627776) (F : PH) : Pure Try.prog 22 [.string (strOf bs)] F (.bool (nameB bs)) := by
  have hsz := strOf_size bs
  unfold nameB
  refine Spec.of1 Try.func22 rfl rfl fun X w0 => ?_
  repeat (first|refine zJ rfl rfl ?_|refine jr rfl ?_|refine jn ?_|refine zM rfl rfl ?_|(refine zC rfl rfl ?_ rfl ?_;omega)|(refine zD rfl rfl ?_ rfl ?_;omega)|(refine zP rfl ?_ rfl ?_;omega)|refine zG rfl rfl rfl rfl ?_|(refine jdq rfl rfl ?_ ?_ ?_;kernel_rfl;kernel_rfl)|refine zB rfl rfl rfl (by repeat constructor) rfl ?_)
  refine J_loop (ι := Nat) (fun p => p ≤ bs.length ∧ (bs.take p).all nameC = true) (fun p => bs.length - p) (fun p => [(0, .string (strOf bs)), (3, .int .i64 p)]) (fun _ => F) (fun _ => X) 0 ⟨Nat.zero_le _, by simp⟩ ⟨⟨rfl, rfl, trivial⟩, fun _ s => s⟩ ?_
  rintro p ⟨hp, hall⟩
  by_cases hlt : p < bs.length
  · have hlt' : p < (strOf bs).size := by omega
    have hg : bs[p]? = some bs[p] := List.getElem?_eq_getElem hlt
    have hsn := all_snoc' (p := nameC) hg
    have hno := fun hp => all_no' (p := nameC) hg hp
    have hgd : (strOf bs).data[p]? = some bs[p] := by unfold strOf; simpa using hg
    generalize bs[p] = c at *
    have hcn : nameC c = nameR c.toNat := rfl
    by_cases h97 : 97 ≤ c.toNat
    · by_cases h122 : c.toNat ≤ 122
      · have hc : nameC c = true := by rw [hcn]; exact (nameR_iff _).2 (by omega)
        repeat (first|refine zJ rfl rfl ?_|refine jr rfl ?_|refine jn ?_|refine zM rfl rfl ?_|(refine zC rfl rfl ?_ rfl ?_;omega)|(refine zD rfl rfl ?_ rfl ?_;omega)|(refine zP rfl ?_ rfl ?_;omega)|refine zG rfl rfl rfl rfl ?_|(refine jdq rfl rfl ?_ ?_ ?_;kernel_rfl;kernel_rfl)|refine zB rfl rfl rfl (by repeat constructor) rfl ?_)
        refine oS (ev_index_str rfl rfl rfl hgd rfl) rfl ?_
        repeat (first|refine zJ rfl rfl ?_|refine jr rfl ?_|refine jn ?_|refine zM rfl rfl ?_|(refine zC rfl rfl ?_ rfl ?_;omega)|(refine zD rfl rfl ?_ rfl ?_;omega)|(refine zP rfl ?_ rfl ?_;omega)|refine zG rfl rfl rfl rfl ?_|(refine jdq rfl rfl ?_ ?_ ?_;kernel_rfl;kernel_rfl)|refine zB rfl rfl rfl (by repeat constructor) rfl ?_)
        refine oS (ev_index_str rfl rfl rfl hgd rfl) rfl ?_
        repeat (first|refine zJ rfl rfl ?_|refine jr rfl ?_|refine jn ?_|refine zM rfl rfl ?_|(refine zC rfl rfl ?_ rfl ?_;omega)|(refine zD rfl rfl ?_ rfl ?_;omega)|(refine zP rfl ?_ rfl ?_;omega)|refine zG rfl rfl rfl rfl ?_|(refine jdq rfl rfl ?_ ?_ ?_;kernel_rfl;kernel_rfl)|refine zB rfl rfl rfl (by repeat constructor) rfl ?_)
        refine J_again (p + 1) ⟨hlt, by rw [hsn, hall, hc]; rfl⟩ (by omega) ⟨⟨rfl, rfl, trivial⟩, fun w s => s⟩
      · have hc : nameC c = false := by rw [hcn]; exact nameR_f (by omega)
        rw [hno hc, Bool.and_false]
        repeat (first|refine zJ rfl rfl ?_|refine jr rfl ?_|refine jn ?_|refine zM rfl rfl ?_|(refine zC rfl rfl ?_ rfl ?_;omega)|(refine zD rfl rfl ?_ rfl ?_;omega)|(refine zP rfl ?_ rfl ?_;omega)|refine zG rfl rfl rfl rfl ?_|(refine jdq rfl rfl ?_ ?_ ?_;kernel_rfl;kernel_rfl)|refine zB rfl rfl rfl (by repeat constructor) rfl ?_)
        refine oS (ev_index_str rfl rfl rfl hgd rfl) rfl ?_
        repeat (first|refine zJ rfl rfl ?_|refine jr rfl ?_|refine jn ?_|refine zM rfl rfl ?_|(refine zC rfl rfl ?_ rfl ?_;omega)|(refine zD rfl rfl ?_ rfl ?_;omega)|(refine zP rfl ?_ rfl ?_;omega)|refine zG rfl rfl rfl rfl ?_|(refine jdq rfl rfl ?_ ?_ ?_;kernel_rfl;kernel_rfl)|refine zB rfl rfl rfl (by repeat constructor) rfl ?_)
        refine oS (ev_index_str rfl rfl rfl hgd rfl) rfl ?_
        repeat (first|refine zJ rfl rfl ?_|refine jr rfl ?_|refine jn ?_|refine zM rfl rfl ?_|(refine zC rfl rfl ?_ rfl ?_;omega)|(refine zD rfl rfl ?_ rfl ?_;omega)|(refine zP rfl ?_ rfl ?_;omega)|refine zG rfl rfl rfl rfl ?_|(refine jdq rfl rfl ?_ ?_ ?_;kernel_rfl;kernel_rfl)|refine zB rfl rfl rfl (by repeat constructor) rfl ?_)
        refine oS (ev_index_str rfl rfl rfl hgd rfl) rfl ?_
        repeat (first|refine zJ rfl rfl ?_|refine jr rfl ?_|refine jn ?_|refine zM rfl rfl ?_|(refine zC rfl rfl ?_ rfl ?_;omega)|(refine zD rfl rfl ?_ rfl ?_;omega)|(refine zP rfl ?_ rfl ?_;omega)|refine zG rfl rfl rfl rfl ?_|(refine jdq rfl rfl ?_ ?_ ?_;kernel_rfl;kernel_rfl)|refine zB rfl rfl rfl (by repeat constructor) rfl ?_)
        refine oS (ev_index_str rfl rfl rfl hgd rfl) rfl ?_
        repeat (first|refine zJ rfl rfl ?_|refine jr rfl ?_|refine jn ?_|refine zM rfl rfl ?_|(refine zC rfl rfl ?_ rfl ?_;omega)|(refine zD rfl rfl ?_ rfl ?_;omega)|(refine zP rfl ?_ rfl ?_;omega)|refine zG rfl rfl rfl rfl ?_|(refine jdq rfl rfl ?_ ?_ ?_;kernel_rfl;kernel_rfl)|refine zB rfl rfl rfl (by repeat constructor) rfl ?_)
        refine oS (ev_index_str rfl rfl rfl hgd rfl) rfl ?_
        repeat (first|refine zJ rfl rfl ?_|refine jr rfl ?_|refine jn ?_|refine zM rfl rfl ?_|(refine zC rfl rfl ?_ rfl ?_;omega)|(refine zD rfl rfl ?_ rfl ?_;omega)|(refine zP rfl ?_ rfl ?_;omega)|refine zG rfl rfl rfl rfl ?_|(refine jdq rfl rfl ?_ ?_ ?_;kernel_rfl;kernel_rfl)|refine zB rfl rfl rfl (by repeat constructor) rfl ?_)
        exact J_ret1 rfl rfl [] rfl (PH.ler _) ⟨rfl, rfl⟩
    · by_cases h48 : 48 ≤ c.toNat
      · by_cases h57 : c.toNat ≤ 57
        · have hc : nameC c = true := by rw [hcn]; exact (nameR_iff _).2 (by omega)
          repeat (first|refine zJ rfl rfl ?_|refine jr rfl ?_|refine jn ?_|refine zM rfl rfl ?_|(refine zC rfl rfl ?_ rfl ?_;omega)|(refine zD rfl rfl ?_ rfl ?_;omega)|(refine zP rfl ?_ rfl ?_;omega)|refine zG rfl rfl rfl rfl ?_|(refine jdq rfl rfl ?_ ?_ ?_;kernel_rfl;kernel_rfl)|refine zB rfl rfl rfl (by repeat constructor) rfl ?_)
          refine oS (ev_index_str rfl rfl rfl hgd rfl) rfl ?_
          repeat (first|refine zJ rfl rfl ?_|refine jr rfl ?_|refine jn ?_|refine zM rfl rfl ?_|(refine zC rfl rfl ?_ rfl ?_;omega)|(refine zD rfl rfl ?_ rfl ?_;omega)|(refine zP rfl ?_ rfl ?_;omega)|refine zG rfl rfl rfl rfl ?_|(refine jdq rfl rfl ?_ ?_ ?_;kernel_rfl;kernel_rfl)|refine zB rfl rfl rfl (by repeat constructor) rfl ?_)
          refine oS (ev_index_str rfl rfl rfl hgd rfl) rfl ?_
          repeat (first|refine zJ rfl rfl ?_|refine jr rfl ?_|refine jn ?_|refine zM rfl rfl ?_|(refine zC rfl rfl ?_ rfl ?_;omega)|(refine zD rfl rfl ?_ rfl ?_;omega)|(refine zP rfl ?_ rfl ?_;omega)|refine zG rfl rfl rfl rfl ?_|(refine jdq rfl rfl ?_ ?_ ?_;kernel_rfl;kernel_rfl)|refine zB rfl rfl rfl (by repeat constructor) rfl ?_)
          refine oS (ev_index_str rfl rfl rfl hgd rfl) rfl ?_
          repeat (first|refine zJ rfl rfl ?_|refine jr rfl ?_|refine jn ?_|refine zM rfl rfl ?_|(refine zC rfl rfl ?_ rfl ?_;omega)|(refine zD rfl rfl ?_ rfl ?_;omega)|(refine zP rfl ?_ rfl ?_;omega)|refine zG rfl rfl rfl rfl ?_|(refine jdq rfl rfl ?_ ?_ ?_;kernel_rfl;kernel_rfl)|refine zB rfl rfl rfl (by repeat constructor) rfl ?_)
          refine J_again (p + 1) ⟨hlt, by rw [hsn, hall, hc]; rfl⟩ (by omega) ⟨⟨rfl, rfl, trivial⟩, fun w s => s⟩
        · have hc : nameC c = false := by rw [hcn]; exact nameR_f (by omega)
          rw [hno hc, Bool.and_false]
          repeat (first|refine zJ rfl rfl ?_|refine jr rfl ?_|refine jn ?_|refine zM rfl rfl ?_|(refine zC rfl rfl ?_ rfl ?_;omega)|(refine zD rfl rfl ?_ rfl ?_;omega)|(refine zP rfl ?_ rfl ?_;omega)|refine zG rfl rfl rfl rfl ?_|(refine jdq rfl rfl ?_ ?_ ?_;kernel_rfl;kernel_rfl)|refine zB rfl rfl rfl (by repeat constructor) rfl ?_)
          refine oS (ev_index_str rfl rfl rfl hgd rfl) rfl ?_
          repeat (first|refine zJ rfl rfl ?_|refine jr rfl ?_|refine jn ?_|refine zM rfl rfl ?_|(refine zC rfl rfl ?_ rfl ?_;omega)|(refine zD rfl rfl ?_ rfl ?_;omega)|(refine zP rfl ?_ rfl ?_;omega)|refine zG rfl rfl rfl rfl ?_|(refine jdq rfl rfl ?_ ?_ ?_;kernel_rfl;kernel_rfl)|refine zB rfl rfl rfl (by repeat constructor) rfl ?_)
          refine oS (ev_index_str rfl rfl rfl hgd rfl) rfl ?_
          repeat (first|refine zJ rfl rfl ?_|refine jr rfl ?_|refine jn ?_|refine zM rfl rfl ?_|(refine zC rfl rfl ?_ rfl ?_;omega)|(refine zD rfl rfl ?_ rfl ?_;omega)|(refine zP rfl ?_ rfl ?_;omega)|refine zG rfl rfl rfl rfl ?_|(refine jdq rfl rfl ?_ ?_ ?_;kernel_rfl;kernel_rfl)|refine zB rfl rfl rfl (by repeat constructor) rfl ?_)
          refine oS (ev_index_str rfl rfl rfl hgd rfl) rfl ?_
          repeat (first|refine zJ rfl rfl ?_|refine jr rfl ?_|refine jn ?_|refine zM rfl rfl ?_|(refine zC rfl rfl ?_ rfl ?_;omega)|(refine zD rfl rfl ?_ rfl ?_;omega)|(refine zP rfl ?_ rfl ?_;omega)|refine zG rfl rfl rfl rfl ?_|(refine jdq rfl rfl ?_ ?_ ?_;kernel_rfl;kernel_rfl)|refine zB rfl rfl rfl (by repeat constructor) rfl ?_)
          refine oS (ev_index_str rfl rfl rfl hgd rfl) rfl ?_
          repeat (first|refine zJ rfl rfl ?_|refine jr rfl ?_|refine jn ?_|refine zM rfl rfl ?_|(refine zC rfl rfl ?_ rfl ?_;omega)|(refine zD rfl rfl ?_ rfl ?_;omega)|(refine zP rfl ?_ rfl ?_;omega)|refine zG rfl rfl rfl rfl ?_|(refine jdq rfl rfl ?_ ?_ ?_;kernel_rfl;kernel_rfl)|refine zB rfl rfl rfl (by repeat constructor) rfl ?_)
          exact J_ret1 rfl rfl [] rfl (PH.ler _) ⟨rfl, rfl⟩
      · by_cases h45 : c.toNat = 45
        · have hc : nameC c = true := by rw [hcn]; exact (nameR_iff _).2 (by omega)
          repeat (first|refine zJ rfl rfl ?_|refine jr rfl ?_|refine jn ?_|refine zM rfl rfl ?_|(refine zC rfl rfl ?_ rfl ?_;omega)|(refine zD rfl rfl ?_ rfl ?_;omega)|(refine zP rfl ?_ rfl ?_;omega)|refine zG rfl rfl rfl rfl ?_|(refine jdq rfl rfl ?_ ?_ ?_;kernel_rfl;kernel_rfl)|refine zB rfl rfl rfl (by repeat constructor) rfl ?_)
          refine oS (ev_index_str rfl rfl rfl hgd rfl) rfl ?_
          repeat (first|refine zJ rfl rfl ?_|refine jr rfl ?_|refine jn ?_|refine zM rfl rfl ?_|(refine zC rfl rfl ?_ rfl ?_;omega)|(refine zD rfl rfl ?_ rfl ?_;omega)|(refine zP rfl ?_ rfl ?_;omega)|refine zG rfl rfl rfl rfl ?_|(refine jdq rfl rfl ?_ ?_ ?_;kernel_rfl;kernel_rfl)|refine zB rfl rfl rfl (by repeat constructor) rfl ?_)
          refine oS (ev_index_str rfl rfl rfl hgd rfl) rfl ?_
          repeat (first|refine zJ rfl rfl ?_|refine jr rfl ?_|refine jn ?_|refine zM rfl rfl ?_|(refine zC rfl rfl ?_ rfl ?_;omega)|(refine zD rfl rfl ?_ rfl ?_;omega)|(refine zP rfl ?_ rfl ?_;omega)|refine zG rfl rfl rfl rfl ?_|(refine jdq rfl rfl ?_ ?_ ?_;kernel_rfl;kernel_rfl)|refine zB rfl rfl rfl (by repeat constructor) rfl ?_)
          refine oS (ev_index_str rfl rfl rfl hgd rfl) rfl ?_
          repeat (first|refine zJ rfl rfl ?_|refine jr rfl ?_|refine jn ?_|refine zM rfl rfl ?_|(refine zC rfl rfl ?_ rfl ?_;omega)|(refine zD rfl rfl ?_ rfl ?_;omega)|(refine zP rfl ?_ rfl ?_;omega)|refine zG rfl rfl rfl rfl ?_|(refine jdq rfl rfl ?_ ?_ ?_;kernel_rfl;kernel_rfl)|refine zB rfl rfl rfl (by repeat constructor) rfl ?_)
          refine J_again (p + 1) ⟨hlt, by rw [hsn, hall, hc]; rfl⟩ (by omega) ⟨⟨rfl, rfl, trivial⟩, fun w s => s⟩
        · have hc : nameC c = false := by rw [hcn]; exact nameR_f (by omega)
          rw [hno hc, Bool.and_false]
          repeat (first|refine zJ rfl rfl ?_|refine jr rfl ?_|refine jn ?_|refine zM rfl rfl ?_|(refine zC rfl rfl ?_ rfl ?_;omega)|(refine zD rfl rfl ?_ rfl ?_;omega)|(refine zP rfl ?_ rfl ?_;omega)|refine zG rfl rfl rfl rfl ?_|(refine jdq rfl rfl ?_ ?_ ?_;kernel_rfl;kernel_rfl)|refine zB rfl rfl rfl (by repeat constructor) rfl ?_)
          refine oS (ev_index_str rfl rfl rfl hgd rfl) rfl ?_
          repeat (first|refine zJ rfl rfl ?_|refine jr rfl ?_|refine jn ?_|refine zM rfl rfl ?_|(refine zC rfl rfl ?_ rfl ?_;omega)|(refine zD rfl rfl ?_ rfl ?_;omega)|(refine zP rfl ?_ rfl ?_;omega)|refine zG rfl rfl rfl rfl ?_|(refine jdq rfl rfl ?_ ?_ ?_;kernel_rfl;kernel_rfl)|refine zB rfl rfl rfl (by repeat constructor) rfl ?_)
          refine oS (ev_index_str rfl rfl rfl hgd rfl) rfl ?_
          repeat (first|refine zJ rfl rfl ?_|refine jr rfl ?_|refine jn ?_|refine zM rfl rfl ?_|(refine zC rfl rfl ?_ rfl ?_;omega)|(refine zD rfl rfl ?_ rfl ?_;omega)|(refine zP rfl ?_ rfl ?_;omega)|refine zG rfl rfl rfl rfl ?_|(refine jdq rfl rfl ?_ ?_ ?_;kernel_rfl;kernel_rfl)|refine zB rfl rfl rfl (by repeat constructor) rfl ?_)
          refine oS (ev_index_str rfl rfl rfl hgd rfl) rfl ?_
          repeat (first|refine zJ rfl rfl ?_|refine jr rfl ?_|refine jn ?_|refine zM rfl rfl ?_|(refine zC rfl rfl ?_ rfl ?_;omega)|(refine zD rfl rfl ?_ rfl ?_;omega)|(refine zP rfl ?_ rfl ?_;omega)|refine zG rfl rfl rfl rfl ?_|(refine jdq rfl rfl ?_ ?_ ?_;kernel_rfl;kernel_rfl)|refine zB rfl rfl rfl (by repeat constructor) rfl ?_)
          exact J_ret1 rfl rfl [] rfl (PH.ler _) ⟨rfl, rfl⟩
  · obtain rfl : p = bs.length := by omega
    rw [List.take_length] at hall
    rw [hall, Bool.and_true]
    by_cases h1 : 1 ≤ bs.length
    · by_cases h2 : bs.length ≤ 16
      · rw [decide_eq_true (by omega)]
        repeat (first|refine zJ rfl rfl ?_|refine jr rfl ?_|refine jn ?_|refine zM rfl rfl ?_|(refine zC rfl rfl ?_ rfl ?_;omega)|(refine zD rfl rfl ?_ rfl ?_;omega)|(refine zP rfl ?_ rfl ?_;omega)|refine zG rfl rfl rfl rfl ?_|(refine jdq rfl rfl ?_ ?_ ?_;kernel_rfl;kernel_rfl)|refine zB rfl rfl rfl (by repeat constructor) rfl ?_)
        exact J_ret1 rfl rfl [] rfl (PH.ler _) ⟨rfl, rfl⟩
      · rw [decide_eq_false (by omega)]
        repeat (first|refine zJ rfl rfl ?_|refine jr rfl ?_|refine jn ?_|refine zM rfl rfl ?_|(refine zC rfl rfl ?_ rfl ?_;omega)|(refine zD rfl rfl ?_ rfl ?_;omega)|(refine zP rfl ?_ rfl ?_;omega)|refine zG rfl rfl rfl rfl ?_|(refine jdq rfl rfl ?_ ?_ ?_;kernel_rfl;kernel_rfl)|refine zB rfl rfl rfl (by repeat constructor) rfl ?_)
        exact J_ret1 rfl rfl [] rfl (PH.ler _) ⟨rfl, rfl⟩
    · rw [decide_eq_false (by omega)]
      repeat (first|refine zJ rfl rfl ?_|refine jr rfl ?_|refine jn ?_|refine zM rfl rfl ?_|(refine zC rfl rfl ?_ rfl ?_;omega)|(refine zD rfl rfl ?_ rfl ?_;omega)|(refine zP rfl ?_ rfl ?_;omega)|refine zG rfl rfl rfl rfl ?_|(refine jdq rfl rfl ?_ ?_ ?_;kernel_rfl;kernel_rfl)|refine zB rfl rfl rfl (by repeat constructor) rfl ?_)
      exact J_ret1 rfl rfl [] rfl (PH.ler _) ⟨rfl, rfl⟩
end Go.Proofs.Ytifdlhafcfbeaaa
