/-
  The document's Put, and both Rows. Conditions are typed with each.
-/
import Derived.Test.YtmicjjhkoicdnaaDoorOb
namespace Go.Proofs.YtmicjjhkoicdnaaDoor
open Go.RowKit
set_option maxRecDepth 100000
theorem ob_push {C : Ctx} {ops : Array Oper} {rest : List Oper} {k : List KItem} {l : Env} {F : PH} {H : List Asrt} {d1 d2 : Nat} {U1 U2 : TypeId} {pos1 pos2 : String} {af1 af2 : Array Edge} {g1 g2 : Option (Nat × Bool)} {x y : Operand} {v : Value} {bs : List UInt8} {b : UInt8} {K : Value → List Asrt}
    (hP : C.P = Tryd.prog) (hx : ∀ w, opv ((d1, w) :: l) x = some v) (hy : opv l y = some (.int .u8 (b.toNat : Int))) (hb : bs.length < 140737488355328)
    (hu : ∀ v', Upd (bytes v bs) (bytes v' (bs ++ [b])) H (K v'))
    (hr1 : runs ops l ⟨some d1, .buildSlice 27 1 #[(0, y)], U1, pos1, af1, g1⟩ = some true)
    (hr2 : ∀ w, runs ops ((d1, w) :: l) ⟨some d2, .call { callee := .builtin .append, args := #[x, .tmp d1], argTypes := #[27, 27] }, U2, pos2, af2, g2⟩ = some true)
    (h : ∀ u w, JM C false ops rest k ((d2, u) :: (d1, w) :: l) F (K u)) :
    JM C false ops (⟨some d1, .buildSlice 27 1 #[(0, y)], U1, pos1, af1, g1⟩ :: ⟨some d2, .call { callee := .builtin .append, args := #[x, .tmp d1], argTypes := #[27, 27] }, U2, pos2, af2, g2⟩ :: rest) k l F H :=
  oA (E := 5) (size := 1) (bytes := 1) (n := bs.length) (xs := u8s bs) (vs := [.int .u8 (b.toNat : Int)]) hx hy .int rfl (hP ▸ elB) (ones_cons rfl ones_nil) (by omega)
    (fun v' => by have := hu v'; unfold bytes at this; rwa [u8s_append, List.length_append] at this) hr1 hr2 h
theorem putB_len {v : Nat} {m : Nat} (hb : sizeB m = true) : (putB v m).length = m := by
  have := sizeB_cases hb
  rw [putB, if_pos hb, List.length_drop, be8_len]
  omega
theorem putB_at {v m j : Nat} (hb : sizeB m = true) (hj : j < m) : (putB v m)[j]? = some (UInt8.ofNat (v >>> (8 * (m - 1 - j)))) := by
  have := sizeB_cases hb
  have e : 56 - 8 * (8 - m + j) = 8 * (m - 1 - j) := by omega
  have hlt : 8 - m + j < 8 := by omega
  rw [putB, if_pos hb, List.getElem?_drop, be8]
  simp [hlt, e]
theorem take_snoc {α : Type} {l : List α} {j : Nat} {x : α} (h : l[j]? = some x) : l.take (j + 1) = l.take j ++ [x] := by
  obtain ⟨hlt, rfl⟩ := List.getElem?_eq_some_iff.1 h
  exact List.take_succ_eq_append_getElem hlt
set_option maxHeartbeats 4000000 in
theorem Put_spec (a : Option Addr) (c v : Nat) (n : Int) (bs : List UInt8) (F : PH) (h : Byt F (.slice a bs.length c) bs) (hv : v < 2 ^ 64) (hn : bs.length ≤ 1099511627776) :
    Spec Tryd.prog 36 [.slice a bs.length c, .int .u64 v, .int .i64 n] F [] fun u F' H' => F = F' ∧ H' = [bytes u (bs ++ putB v n)] := by
  refine Spec.of3 Tryd.func36 rfl rfl fun X w0 => ?_
  repeat (first|refine zJ rfl rfl ?_|refine jr rfl ?_|refine jn ?_|refine zM rfl rfl ?_|(refine zC rfl rfl ?_ rfl ?_;omega)|(refine zD rfl rfl ?_ rfl ?_;omega)|(refine zP rfl ?_ rfl ?_;omega)|refine zG rfl rfl rfl rfl ?_|(refine jdq rfl rfl ?_ ?_ ?_;kernel_rfl;kernel_rfl)|refine zB rfl rfl rfl (by repeat constructor) rfl ?_)
  refine oE eb_empty rfl ?_
  rintro u _ _ _ ⟨rfl, ⟨b, rfl⟩, rfl⟩
  repeat (first|refine zJ rfl rfl ?_|refine jr rfl ?_|refine jn ?_|refine zM rfl rfl ?_|(refine zC rfl rfl ?_ rfl ?_;omega)|(refine zD rfl rfl ?_ rfl ?_;omega)|(refine zP rfl ?_ rfl ?_;omega)|refine zG rfl rfl rfl rfl ?_|(refine jdq rfl rfl ?_ ?_ ?_;kernel_rfl;kernel_rfl)|refine zB rfl rfl rfl (by repeat constructor) rfl ?_)
  refine oE (eb_append (bs := []) (cs := bs) (K := fun v' => bytes v' bs :: X) rfl rfl h.rds (by simp; omega) (fun v' => .here)) rfl ?_
  rintro u _ _ _ ⟨rfl, _, rfl⟩
  repeat (first|refine zJ rfl rfl ?_|refine jr rfl ?_|refine jn ?_|refine zM rfl rfl ?_|(refine zC rfl rfl ?_ rfl ?_;omega)|(refine zD rfl rfl ?_ rfl ?_;omega)|(refine zP rfl ?_ rfl ?_;omega)|refine zG rfl rfl rfl rfl ?_|(refine jdq rfl rfl ?_ ?_ ?_;kernel_rfl;kernel_rfl)|refine zB rfl rfl rfl (by repeat constructor) rfl ?_)
  have hsz := Size_spec n F
  cases hb : sizeB n with
  | false =>
    rw [hb] at hsz
    refine oP (hsz) Tryd.call41 rfl rfl ?_
    repeat (first|refine zJ rfl rfl ?_|refine jr rfl ?_|refine jn ?_|refine zM rfl rfl ?_|(refine zC rfl rfl ?_ rfl ?_;omega)|(refine zD rfl rfl ?_ rfl ?_;omega)|(refine zP rfl ?_ rfl ?_;omega)|refine zG rfl rfl rfl rfl ?_|(refine jdq rfl rfl ?_ ?_ ?_;kernel_rfl;kernel_rfl)|refine zB rfl rfl rfl (by repeat constructor) rfl ?_)
    exact J_ret1 rfl rfl [bytes u (bs ++ putB v n)] (by simp [putB, hb]) (PH.ler _) ⟨rfl, rfl⟩
  | true =>
    rw [hb] at hsz
    have hcases := sizeB_cases hb
    obtain ⟨m, rfl⟩ : ∃ m : Nat, n = (m : Int) := ⟨n.toNat, by omega⟩
    refine oP (hsz) Tryd.call41 rfl rfl ?_
    repeat (first|refine zJ rfl rfl ?_|refine jr rfl ?_|refine jn ?_|refine zM rfl rfl ?_|(refine zC rfl rfl ?_ rfl ?_;omega)|(refine zD rfl rfl ?_ rfl ?_;omega)|(refine zP rfl ?_ rfl ?_;omega)|refine zG rfl rfl rfl rfl ?_|(refine jdq rfl rfl ?_ ?_ ?_;kernel_rfl;kernel_rfl)|refine zB rfl rfl rfl (by repeat constructor) rfl ?_)
    refine J_loop2 (fun (j : Nat) (_ : Value) => j ≤ m) (fun j _ => m - j) (fun j u => [(0, .slice a bs.length c), (1, .int .u64 v), (2, .int .i64 m), (7, u), (8, .int .i64 ((m : Int) - 1 - j))]) (fun _ _ => F)
      (fun j u => bytes u (bs ++ (putB v m).take j) :: X) 0 u (Nat.zero_le _) ⟨⟨rfl, rfl, rfl, rfl, by simp [Env.get_cons], trivial⟩, fun _ h => by simpa using h⟩ ?_
    intro j u hj
    by_cases hlt : j < m
    · repeat (first|refine zJ rfl rfl ?_|refine jr rfl ?_|refine jn ?_|refine zM rfl rfl ?_|(refine zC rfl rfl ?_ rfl ?_;omega)|(refine zD rfl rfl ?_ rfl ?_;omega)|(refine zP rfl ?_ rfl ?_;omega)|refine zG rfl rfl rfl rfl ?_|(refine jdq rfl rfl ?_ ?_ ?_;kernel_rfl;kernel_rfl)|refine zB rfl rfl rfl (by repeat constructor) rfl ?_)
      refine oS (ev_shr (n := 8 * (m - 1 - j)) rfl (by rw [show ((8 * (m - 1 - j) : Nat) : Int) = 8 * ((m : Int) - 1 - j) from by omega]; rfl) hv) rfl ?_
      repeat (first|refine zJ rfl rfl ?_|refine jr rfl ?_|refine jn ?_|refine zM rfl rfl ?_|(refine zC rfl rfl ?_ rfl ?_;omega)|(refine zD rfl rfl ?_ rfl ?_;omega)|(refine zP rfl ?_ rfl ?_;omega)|refine zG rfl rfl rfl rfl ?_|(refine jdq rfl rfl ?_ ?_ ?_;kernel_rfl;kernel_rfl)|refine zB rfl rfl rfl (by repeat constructor) rfl ?_)
      refine oS (ev_conv rfl rfl rfl (wrap_u8 _)) rfl ?_
      refine ob_push (bs := bs ++ (putB v m).take j) (K := fun v' => bytes v' (bs ++ (putB v m).take j ++ [UInt8.ofNat (v >>> (8 * (m - 1 - j)))]) :: X) rfl (fun _ => rfl) rfl (by simp; omega) (fun v' => .here) rfl (fun _ => rfl) ?_
      intro u' w'
      repeat (first|refine zJ rfl rfl ?_|refine jr rfl ?_|refine jn ?_|refine zM rfl rfl ?_|(refine zC rfl rfl ?_ rfl ?_;omega)|(refine zD rfl rfl ?_ rfl ?_;omega)|(refine zP rfl ?_ rfl ?_;omega)|refine zG rfl rfl rfl rfl ?_|(refine jdq rfl rfl ?_ ?_ ?_;kernel_rfl;kernel_rfl)|refine zB rfl rfl rfl (by repeat constructor) rfl ?_)
      refine J_again2 (j + 1) u' hlt (by omega) ⟨⟨rfl, rfl, rfl, rfl, ?_, trivial⟩, fun w s => ?_⟩
      · rw [show (m : Int) - 1 - ((j + 1 : Nat) : Int) = (m : Int) - 1 - j - 1 from by omega]; rfl
      · rw [take_snoc (putB_at hb hlt), ← List.append_assoc]; exact s
    · obtain rfl : j = m := by omega
      repeat (first|refine zJ rfl rfl ?_|refine jr rfl ?_|refine jn ?_|refine zM rfl rfl ?_|(refine zC rfl rfl ?_ rfl ?_;omega)|(refine zD rfl rfl ?_ rfl ?_;omega)|(refine zP rfl ?_ rfl ?_;omega)|refine zG rfl rfl rfl rfl ?_|(refine jdq rfl rfl ?_ ?_ ?_;kernel_rfl;kernel_rfl)|refine zB rfl rfl rfl (by repeat constructor) rfl ?_)
      refine J_ret1 rfl rfl [bytes u (bs ++ putB v j)] ?_ (PH.ler _) ⟨rfl, rfl⟩
      rw [List.take_of_length_le (by rw [putB_len hb]; exact Nat.le_refl _)]
      rfl
set_option maxHeartbeats 2000000 in
theorem row_spec (a a2 : Option Addr) (c c2 : Nat) (bs row : List UInt8) (F : PH) (h : Byt F (.slice a bs.length c) bs) (hc : bs.length ≤ c) (h2 : Byt F (.slice a2 row.length c2) row) (hn : bs.length ≤ 1099511627776) (hn2 : row.length ≤ 1099511627776) :
    Spec Tryd.prog 40 [.slice a bs.length c, .slice a2 row.length c2] F [] fun u F' H' => F = F' ∧ H' = [bytes u (bs ++ putB row.length 4 ++ row)] := by
  refine Spec.of2 Tryd.func40 rfl rfl fun X w0 => ?_
  repeat (first|refine zJ rfl rfl ?_|refine jr rfl ?_|refine jn ?_|refine zM rfl rfl ?_|(refine zC rfl rfl ?_ rfl ?_;omega)|(refine zD rfl rfl ?_ rfl ?_;omega)|(refine zP rfl ?_ rfl ?_;omega)|refine zG rfl rfl rfl rfl ?_|(refine jdq rfl rfl ?_ ?_ ?_;kernel_rfl;kernel_rfl)|refine zB rfl rfl rfl (by repeat constructor) rfl ?_)
  refine oC (Hc := []) (Hr := X) (put_spec a c row.length 4 bs F h hc (by omega) hn) Tryd.call39 rfl rfl (fun _ s => s) ?_
  rintro u _ _ _ ⟨rfl, rfl⟩
  repeat (first|refine zJ rfl rfl ?_|refine jr rfl ?_|refine jn ?_|refine zM rfl rfl ?_|(refine zC rfl rfl ?_ rfl ?_;omega)|(refine zD rfl rfl ?_ rfl ?_;omega)|(refine zP rfl ?_ rfl ?_;omega)|refine zG rfl rfl rfl rfl ?_|(refine jdq rfl rfl ?_ ?_ ?_;kernel_rfl;kernel_rfl)|refine zB rfl rfl rfl (by repeat constructor) rfl ?_)
  refine oE (eb_append (K := fun v' => bytes v' (bs ++ putB row.length 4 ++ row) :: X) rfl rfl h2.rds ?_ (fun v' => .here)) rfl ?_
  · rw [List.length_append, show (4 : Int) = ((4 : Nat) : Int) from rfl, putB_len rfl]; omega
  rintro u _ _ _ ⟨rfl, _, rfl⟩
  repeat (first|refine zJ rfl rfl ?_|refine jr rfl ?_|refine jn ?_|refine zM rfl rfl ?_|(refine zC rfl rfl ?_ rfl ?_;omega)|(refine zD rfl rfl ?_ rfl ?_;omega)|(refine zP rfl ?_ rfl ?_;omega)|refine zG rfl rfl rfl rfl ?_|(refine jdq rfl rfl ?_ ?_ ?_;kernel_rfl;kernel_rfl)|refine zB rfl rfl rfl (by repeat constructor) rfl ?_)
  exact J_ret1 rfl rfl [bytes u (bs ++ putB row.length 4 ++ row)] rfl (PH.ler _) ⟨rfl, rfl⟩
set_option maxHeartbeats 2000000 in
theorem Row_spec (a a2 : Option Addr) (c c2 : Nat) (bs row : List UInt8) (F : PH) (h : Byt F (.slice a bs.length c) bs) (h2 : Byt F (.slice a2 row.length c2) row) (hn : bs.length ≤ 1099511627776) (hn2 : row.length ≤ 1099511627776) :
    Spec Tryd.prog 35 [.slice a bs.length c, .slice a2 row.length c2] F [] fun u F' H' => F = F' ∧ H' = [bytes u (bs ++ putB row.length 4 ++ row)] := by
  refine Spec.of2 Tryd.func35 rfl rfl fun X w0 => ?_
  repeat (first|refine zJ rfl rfl ?_|refine jr rfl ?_|refine jn ?_|refine zM rfl rfl ?_|(refine zC rfl rfl ?_ rfl ?_;omega)|(refine zD rfl rfl ?_ rfl ?_;omega)|(refine zP rfl ?_ rfl ?_;omega)|refine zG rfl rfl rfl rfl ?_|(refine jdq rfl rfl ?_ ?_ ?_;kernel_rfl;kernel_rfl)|refine zB rfl rfl rfl (by repeat constructor) rfl ?_)
  refine oC (Hc := []) (Hr := X) (Put_spec a c row.length 4 bs F h (by omega) hn) Tryd.call36 rfl rfl (fun _ s => s) ?_
  rintro u _ _ _ ⟨rfl, rfl⟩
  repeat (first|refine zJ rfl rfl ?_|refine jr rfl ?_|refine jn ?_|refine zM rfl rfl ?_|(refine zC rfl rfl ?_ rfl ?_;omega)|(refine zD rfl rfl ?_ rfl ?_;omega)|(refine zP rfl ?_ rfl ?_;omega)|refine zG rfl rfl rfl rfl ?_|(refine jdq rfl rfl ?_ ?_ ?_;kernel_rfl;kernel_rfl)|refine zB rfl rfl rfl (by repeat constructor) rfl ?_)
  refine oE (eb_append (K := fun v' => bytes v' (bs ++ putB row.length 4 ++ row) :: X) rfl rfl h2.rds ?_ (fun v' => .here)) rfl ?_
  · rw [List.length_append, show (4 : Int) = ((4 : Nat) : Int) from rfl, putB_len rfl]; omega
  rintro u _ _ _ ⟨rfl, _, rfl⟩
  repeat (first|refine zJ rfl rfl ?_|refine jr rfl ?_|refine jn ?_|refine zM rfl rfl ?_|(refine zC rfl rfl ?_ rfl ?_;omega)|(refine zD rfl rfl ?_ rfl ?_;omega)|(refine zP rfl ?_ rfl ?_;omega)|refine zG rfl rfl rfl rfl ?_|(refine jdq rfl rfl ?_ ?_ ?_;kernel_rfl;kernel_rfl)|refine zB rfl rfl rfl (by repeat constructor) rfl ?_)
  exact J_ret1 rfl rfl [bytes u (bs ++ putB row.length 4 ++ row)] rfl (PH.ler _) ⟨rfl, rfl⟩
end Go.Proofs.YtmicjjhkoicdnaaDoor
