/-
  Ledgers compared, by the program and by the document; ledgers that come in. Conditions are typed with each. (Printed by wip/gen/dl.py.)
-/
import Derived.Test.YtifdlhafcfbeaaaDj
import Derived.Test.YtifdlhafcfbeaaaKz
import Derived.Test.YtifdlhafcfbeaaaLf
namespace Go.Proofs.Ytifdlhafcfbeaaa
open Go.RowKit
set_option maxRecDepth 100000
def sameL (l m : LgX) : Bool := decide (l.1 = m.1 ∧ l.2.1 = m.2.1 ∧ l.2.2.1 = m.2.2.1 ∧ l.2.2.2.1 = m.2.2.2.1)
theorem lt_eqC (x y : LtX) : EqC Try.prog 9999 0 (ltC x) (ltC y) (Try.prog.fieldsOf 37).toList (decide (x = y)) := by
  obtain ⟨x1, x2, x3, x4, x5, x6, _⟩ := x
  obtain ⟨y1, y2, y3, y4, y5, y6, _⟩ := y
  have h : EqC Try.prog 9999 0 [.string (strOf x1), .int .i64 x2, .int .i64 x3, .int .i64 x4, .string (strOf x5), .string (strOf x6)] [.string (strOf y1), .int .i64 y2, .int .i64 y3, .int .i64 y4, .string (strOf y5), .string (strOf y6)] (Try.prog.fieldsOf 37).toList _ :=
    .str (by decide) rfl rfl (.int (by decide) rfl rfl (.int (by decide) rfl rfl (.int (by decide) rfl rfl (.str (by decide) rfl rfl (.str (by decide) rfl rfl .nil)))))
  have e : ∀ (p q : Bool), (p = true ↔ q = true) → p = q := fun p q h => by cases p <;> cases q <;> simp_all
  rw [show decide ((x1, x2, x3, x4, x5, x6, ()) = (y1, y2, y3, y4, y5, y6, ())) = _ from e _ _ ?_]
  · exact h
  · simp only [strOf_toList, decide_eq_true_eq, Bool.and_eq_true, Prod.mk.injEq, and_true, Bool.and_true]
theorem ou_eqC (x y : OuX) : EqC Try.prog 9999 0 (ouC x) (ouC y) (Try.prog.fieldsOf 39).toList (decide (x = y)) := by
  obtain ⟨x1, x2, x3, _⟩ := x
  obtain ⟨y1, y2, y3, _⟩ := y
  have h : EqC Try.prog 9999 0 [.int .i64 x1, .int .i64 x2, .int .i64 x3] [.int .i64 y1, .int .i64 y2, .int .i64 y3] (Try.prog.fieldsOf 39).toList _ :=
    .int (by decide) rfl rfl (.int (by decide) rfl rfl (.int (by decide) rfl rfl .nil))
  have e : ∀ (p q : Bool), (p = true ↔ q = true) → p = q := fun p q h => by cases p <;> cases q <;> simp_all
  rw [show decide ((x1, x2, x3, ()) = (y1, y2, y3, ())) = _ from e _ _ ?_]
  · exact h
  · simp only [decide_eq_true_eq, Bool.and_eq_true, Prod.mk.injEq, and_true, Bool.and_true]
theorem ev_lt_neq {l : Env} {F : PH} {H : List Asrt} {d : Option Nat} {T' U : TypeId} {pos : String} {af : Array Edge} {g : Option (Nat × Bool)} {x y : Operand} {e e' : LtX} (hx : opv l x = some (.agg (ltC e).toArray)) (hy : opv l y = some (.agg (ltC e').toArray)) : Ev Try.prog ⟨d, .binOp .neq 37 x y T', U, pos, af, g⟩ l F H (.bool (!decide (e = e'))) :=
  ev_st_neq hx hy (by kernel_rfl) (by kernel_rfl) (by kernel_rfl) (lt_eqC e e')
theorem ev_lt_eql {l : Env} {F : PH} {H : List Asrt} {d : Option Nat} {T' U : TypeId} {pos : String} {af : Array Edge} {g : Option (Nat × Bool)} {x y : Operand} {e e' : LtX} (hx : opv l x = some (.agg (ltC e).toArray)) (hy : opv l y = some (.agg (ltC e').toArray)) : Ev Try.prog ⟨d, .binOp .eql 37 x y T', U, pos, af, g⟩ l F H (.bool (decide (e = e'))) :=
  ev_st_eql hx hy (by kernel_rfl) (by kernel_rfl) (by kernel_rfl) (lt_eqC e e')
theorem ev_ou_neq {l : Env} {F : PH} {H : List Asrt} {d : Option Nat} {T' U : TypeId} {pos : String} {af : Array Edge} {g : Option (Nat × Bool)} {x y : Operand} {e e' : OuX} (hx : opv l x = some (.agg (ouC e).toArray)) (hy : opv l y = some (.agg (ouC e').toArray)) : Ev Try.prog ⟨d, .binOp .neq 39 x y T', U, pos, af, g⟩ l F H (.bool (!decide (e = e'))) :=
  ev_st_neq hx hy (by kernel_rfl) (by kernel_rfl) (by kernel_rfl) (ou_eqC e e')
theorem ev_ou_eql {l : Env} {F : PH} {H : List Asrt} {d : Option Nat} {T' U : TypeId} {pos : String} {af : Array Edge} {g : Option (Nat × Bool)} {x y : Operand} {e e' : OuX} (hx : opv l x = some (.agg (ouC e).toArray)) (hy : opv l y = some (.agg (ouC e').toArray)) : Ev Try.prog ⟨d, .binOp .eql 39 x y T', U, pos, af, g⟩ l F H (.bool (decide (e = e'))) :=
  ev_st_eql hx hy (by kernel_rfl) (by kernel_rfl) (by kernel_rfl) (ou_eqC e e')

set_option maxHeartbeats 4000000 in
theorem lt_equal_spec (a a' : Option Addr) (c c' : Nat) (L M : List LtX) (F : PH) (h : ltRow F (.slice a L.length c) L) (h' : ltRow F (.slice a' M.length c') M) (hb : L.length ≤ maxLen) (hb' : M.length ≤ maxLen) : Pure Try.prog 58 [.slice a L.length c, .slice a' M.length c'] F (.bool (decide (L = M))) := by
  unfold maxLen at hb hb'
  refine Spec.of2 Try.func58 rfl rfl fun X w0 => ?_
  by_cases hn : L.length = M.length
  · repeat (first|refine zJ rfl rfl ?_|refine jr rfl ?_|refine jn ?_|refine zM rfl rfl ?_|(refine zC rfl rfl ?_ rfl ?_;omega)|(refine zD rfl rfl ?_ rfl ?_;omega)|(refine zP rfl ?_ rfl ?_;omega)|refine zG rfl rfl rfl rfl ?_|(refine jdq rfl rfl ?_ ?_ ?_;kernel_rfl;kernel_rfl)|refine zB rfl rfl rfl (by repeat constructor) rfl ?_|refine zH .here rfl rfl rfl rfl ?_|refine zH (.there .here) rfl rfl rfl rfl ?_|refine zH (.there (.there .here)) rfl rfl rfl rfl ?_)
    refine J_loop (ι := Nat) (fun j => j ≤ L.length ∧ L.take j = M.take j) (fun j => L.length - j) (fun j => [(0, .slice a L.length c), (1, .slice a' M.length c'), (12, .int .i64 L.length), (13, .int .i64 j)]) (fun _ => F) (fun _ => X) 0 ⟨Nat.zero_le _, rfl⟩
      ⟨⟨rfl, rfl, rfl, rfl, trivial⟩, fun _ h => h⟩ ?_
    rintro j ⟨hj, heq⟩
    by_cases hlt : j < L.length
    · have hlt2 : j < M.length := by omega
      have g1 : L[j]? = some L[j] := List.getElem?_eq_getElem hlt
      have g2 : M[j]? = some M[j] := List.getElem?_eq_getElem hlt2
      obtain ⟨b1, o1, rfl, hc1⟩ := h.at g1
      obtain ⟨b2, o2, rfl, hc2⟩ := h'.at g2
      repeat (first|refine zJ rfl rfl ?_|refine jr rfl ?_|refine jn ?_|refine zM rfl rfl ?_|(refine zC rfl rfl ?_ rfl ?_;omega)|(refine zD rfl rfl ?_ rfl ?_;omega)|(refine zP rfl ?_ rfl ?_;omega)|refine zG rfl rfl rfl rfl ?_|(refine jdq rfl rfl ?_ ?_ ?_;kernel_rfl;kernel_rfl)|refine zB rfl rfl rfl (by repeat constructor) rfl ?_|refine zH .here rfl rfl rfl rfl ?_|refine zH (.there .here) rfl rfl rfl rfl ?_|refine zH (.there (.there .here)) rfl rfl rfl rfl ?_)
      refine oS (ev_indexAddr rfl rfl rfl hlt) rfl ?_
      refine oS (ev_load_agg rfl rfl (Rdb.ofF hc1) (lt_len _)) rfl ?_
      repeat (first|refine zJ rfl rfl ?_|refine jr rfl ?_|refine jn ?_|refine zM rfl rfl ?_|(refine zC rfl rfl ?_ rfl ?_;omega)|(refine zD rfl rfl ?_ rfl ?_;omega)|(refine zP rfl ?_ rfl ?_;omega)|refine zG rfl rfl rfl rfl ?_|(refine jdq rfl rfl ?_ ?_ ?_;kernel_rfl;kernel_rfl)|refine zB rfl rfl rfl (by repeat constructor) rfl ?_|refine zH .here rfl rfl rfl rfl ?_|refine zH (.there .here) rfl rfl rfl rfl ?_|refine zH (.there (.there .here)) rfl rfl rfl rfl ?_)
      refine oS (ev_indexAddr rfl rfl rfl hlt2) rfl ?_
      refine oS (ev_load_agg rfl rfl (Rdb.ofF hc2) (lt_len _)) rfl ?_
      refine oS (ev_lt_neq rfl rfl) rfl ?_
      by_cases he : L[j] = M[j]
      · rw [decide_eq_true he]
        repeat (first|refine zJ rfl rfl ?_|refine jr rfl ?_|refine jn ?_|refine zM rfl rfl ?_|(refine zC rfl rfl ?_ rfl ?_;omega)|(refine zD rfl rfl ?_ rfl ?_;omega)|(refine zP rfl ?_ rfl ?_;omega)|refine zG rfl rfl rfl rfl ?_|(refine jdq rfl rfl ?_ ?_ ?_;kernel_rfl;kernel_rfl)|refine zB rfl rfl rfl (by repeat constructor) rfl ?_|refine zH .here rfl rfl rfl rfl ?_|refine zH (.there .here) rfl rfl rfl rfl ?_|refine zH (.there (.there .here)) rfl rfl rfl rfl ?_)
        refine J_again (j + 1) ⟨hlt, by rw [List.take_add_one, List.take_add_one, g1, g2, heq, he]⟩ (by omega) ⟨⟨rfl, rfl, rfl, rfl, trivial⟩, fun w s => s⟩
      · rw [decide_eq_false he]
        have hne : ¬ L = M := fun e => he (by subst e; rfl)
        rw [decide_eq_false hne]
        repeat (first|refine zJ rfl rfl ?_|refine jr rfl ?_|refine jn ?_|refine zM rfl rfl ?_|(refine zC rfl rfl ?_ rfl ?_;omega)|(refine zD rfl rfl ?_ rfl ?_;omega)|(refine zP rfl ?_ rfl ?_;omega)|refine zG rfl rfl rfl rfl ?_|(refine jdq rfl rfl ?_ ?_ ?_;kernel_rfl;kernel_rfl)|refine zB rfl rfl rfl (by repeat constructor) rfl ?_|refine zH .here rfl rfl rfl rfl ?_|refine zH (.there .here) rfl rfl rfl rfl ?_|refine zH (.there (.there .here)) rfl rfl rfl rfl ?_)
        exact J_ret1 rfl rfl [] rfl (PH.ler _) ⟨rfl, rfl⟩
    · have e : L = M := by
        rwa [List.take_of_length_le (by omega), List.take_of_length_le (by omega)] at heq
      rw [decide_eq_true e]
      repeat (first|refine zJ rfl rfl ?_|refine jr rfl ?_|refine jn ?_|refine zM rfl rfl ?_|(refine zC rfl rfl ?_ rfl ?_;omega)|(refine zD rfl rfl ?_ rfl ?_;omega)|(refine zP rfl ?_ rfl ?_;omega)|refine zG rfl rfl rfl rfl ?_|(refine jdq rfl rfl ?_ ?_ ?_;kernel_rfl;kernel_rfl)|refine zB rfl rfl rfl (by repeat constructor) rfl ?_|refine zH .here rfl rfl rfl rfl ?_|refine zH (.there .here) rfl rfl rfl rfl ?_|refine zH (.there (.there .here)) rfl rfl rfl rfl ?_)
      exact J_ret1 rfl rfl [] rfl (PH.ler _) ⟨rfl, rfl⟩
  · have hne : ¬ L = M := fun e => hn (by rw [e])
    rw [decide_eq_false hne]
    repeat (first|refine zJ rfl rfl ?_|refine jr rfl ?_|refine jn ?_|refine zM rfl rfl ?_|(refine zC rfl rfl ?_ rfl ?_;omega)|(refine zD rfl rfl ?_ rfl ?_;omega)|(refine zP rfl ?_ rfl ?_;omega)|refine zG rfl rfl rfl rfl ?_|(refine jdq rfl rfl ?_ ?_ ?_;kernel_rfl;kernel_rfl)|refine zB rfl rfl rfl (by repeat constructor) rfl ?_|refine zH .here rfl rfl rfl rfl ?_|refine zH (.there .here) rfl rfl rfl rfl ?_|refine zH (.there (.there .here)) rfl rfl rfl rfl ?_)
    exact J_ret1 rfl rfl [] rfl (PH.ler _) ⟨rfl, rfl⟩

set_option maxHeartbeats 4000000 in
theorem ou_equal_spec (a a' : Option Addr) (c c' : Nat) (L M : List OuX) (F : PH) (h : ouRow F (.slice a L.length c) L) (h' : ouRow F (.slice a' M.length c') M) (hb : L.length ≤ maxLen) (hb' : M.length ≤ maxLen) : Pure Try.prog 59 [.slice a L.length c, .slice a' M.length c'] F (.bool (decide (L = M))) := by
  unfold maxLen at hb hb'
  refine Spec.of2 Try.func59 rfl rfl fun X w0 => ?_
  by_cases hn : L.length = M.length
  · repeat (first|refine zJ rfl rfl ?_|refine jr rfl ?_|refine jn ?_|refine zM rfl rfl ?_|(refine zC rfl rfl ?_ rfl ?_;omega)|(refine zD rfl rfl ?_ rfl ?_;omega)|(refine zP rfl ?_ rfl ?_;omega)|refine zG rfl rfl rfl rfl ?_|(refine jdq rfl rfl ?_ ?_ ?_;kernel_rfl;kernel_rfl)|refine zB rfl rfl rfl (by repeat constructor) rfl ?_|refine zH .here rfl rfl rfl rfl ?_|refine zH (.there .here) rfl rfl rfl rfl ?_|refine zH (.there (.there .here)) rfl rfl rfl rfl ?_)
    refine J_loop (ι := Nat) (fun j => j ≤ L.length ∧ L.take j = M.take j) (fun j => L.length - j) (fun j => [(0, .slice a L.length c), (1, .slice a' M.length c'), (12, .int .i64 L.length), (13, .int .i64 j)]) (fun _ => F) (fun _ => X) 0 ⟨Nat.zero_le _, rfl⟩
      ⟨⟨rfl, rfl, rfl, rfl, trivial⟩, fun _ h => h⟩ ?_
    rintro j ⟨hj, heq⟩
    by_cases hlt : j < L.length
    · have hlt2 : j < M.length := by omega
      have g1 : L[j]? = some L[j] := List.getElem?_eq_getElem hlt
      have g2 : M[j]? = some M[j] := List.getElem?_eq_getElem hlt2
      obtain ⟨b1, o1, rfl, hc1⟩ := h.at g1
      obtain ⟨b2, o2, rfl, hc2⟩ := h'.at g2
      repeat (first|refine zJ rfl rfl ?_|refine jr rfl ?_|refine jn ?_|refine zM rfl rfl ?_|(refine zC rfl rfl ?_ rfl ?_;omega)|(refine zD rfl rfl ?_ rfl ?_;omega)|(refine zP rfl ?_ rfl ?_;omega)|refine zG rfl rfl rfl rfl ?_|(refine jdq rfl rfl ?_ ?_ ?_;kernel_rfl;kernel_rfl)|refine zB rfl rfl rfl (by repeat constructor) rfl ?_|refine zH .here rfl rfl rfl rfl ?_|refine zH (.there .here) rfl rfl rfl rfl ?_|refine zH (.there (.there .here)) rfl rfl rfl rfl ?_)
      refine oS (ev_indexAddr rfl rfl rfl hlt) rfl ?_
      refine oS (ev_load_agg rfl rfl (Rdb.ofF hc1) (ou_len _)) rfl ?_
      repeat (first|refine zJ rfl rfl ?_|refine jr rfl ?_|refine jn ?_|refine zM rfl rfl ?_|(refine zC rfl rfl ?_ rfl ?_;omega)|(refine zD rfl rfl ?_ rfl ?_;omega)|(refine zP rfl ?_ rfl ?_;omega)|refine zG rfl rfl rfl rfl ?_|(refine jdq rfl rfl ?_ ?_ ?_;kernel_rfl;kernel_rfl)|refine zB rfl rfl rfl (by repeat constructor) rfl ?_|refine zH .here rfl rfl rfl rfl ?_|refine zH (.there .here) rfl rfl rfl rfl ?_|refine zH (.there (.there .here)) rfl rfl rfl rfl ?_)
      refine oS (ev_indexAddr rfl rfl rfl hlt2) rfl ?_
      refine oS (ev_load_agg rfl rfl (Rdb.ofF hc2) (ou_len _)) rfl ?_
      refine oS (ev_ou_neq rfl rfl) rfl ?_
      by_cases he : L[j] = M[j]
      · rw [decide_eq_true he]
        repeat (first|refine zJ rfl rfl ?_|refine jr rfl ?_|refine jn ?_|refine zM rfl rfl ?_|(refine zC rfl rfl ?_ rfl ?_;omega)|(refine zD rfl rfl ?_ rfl ?_;omega)|(refine zP rfl ?_ rfl ?_;omega)|refine zG rfl rfl rfl rfl ?_|(refine jdq rfl rfl ?_ ?_ ?_;kernel_rfl;kernel_rfl)|refine zB rfl rfl rfl (by repeat constructor) rfl ?_|refine zH .here rfl rfl rfl rfl ?_|refine zH (.there .here) rfl rfl rfl rfl ?_|refine zH (.there (.there .here)) rfl rfl rfl rfl ?_)
        refine J_again (j + 1) ⟨hlt, by rw [List.take_add_one, List.take_add_one, g1, g2, heq, he]⟩ (by omega) ⟨⟨rfl, rfl, rfl, rfl, trivial⟩, fun w s => s⟩
      · rw [decide_eq_false he]
        have hne : ¬ L = M := fun e => he (by subst e; rfl)
        rw [decide_eq_false hne]
        repeat (first|refine zJ rfl rfl ?_|refine jr rfl ?_|refine jn ?_|refine zM rfl rfl ?_|(refine zC rfl rfl ?_ rfl ?_;omega)|(refine zD rfl rfl ?_ rfl ?_;omega)|(refine zP rfl ?_ rfl ?_;omega)|refine zG rfl rfl rfl rfl ?_|(refine jdq rfl rfl ?_ ?_ ?_;kernel_rfl;kernel_rfl)|refine zB rfl rfl rfl (by repeat constructor) rfl ?_|refine zH .here rfl rfl rfl rfl ?_|refine zH (.there .here) rfl rfl rfl rfl ?_|refine zH (.there (.there .here)) rfl rfl rfl rfl ?_)
        exact J_ret1 rfl rfl [] rfl (PH.ler _) ⟨rfl, rfl⟩
    · have e : L = M := by
        rwa [List.take_of_length_le (by omega), List.take_of_length_le (by omega)] at heq
      rw [decide_eq_true e]
      repeat (first|refine zJ rfl rfl ?_|refine jr rfl ?_|refine jn ?_|refine zM rfl rfl ?_|(refine zC rfl rfl ?_ rfl ?_;omega)|(refine zD rfl rfl ?_ rfl ?_;omega)|(refine zP rfl ?_ rfl ?_;omega)|refine zG rfl rfl rfl rfl ?_|(refine jdq rfl rfl ?_ ?_ ?_;kernel_rfl;kernel_rfl)|refine zB rfl rfl rfl (by repeat constructor) rfl ?_|refine zH .here rfl rfl rfl rfl ?_|refine zH (.there .here) rfl rfl rfl rfl ?_|refine zH (.there (.there .here)) rfl rfl rfl rfl ?_)
      exact J_ret1 rfl rfl [] rfl (PH.ler _) ⟨rfl, rfl⟩
  · have hne : ¬ L = M := fun e => hn (by rw [e])
    rw [decide_eq_false hne]
    repeat (first|refine zJ rfl rfl ?_|refine jr rfl ?_|refine jn ?_|refine zM rfl rfl ?_|(refine zC rfl rfl ?_ rfl ?_;omega)|(refine zD rfl rfl ?_ rfl ?_;omega)|(refine zP rfl ?_ rfl ?_;omega)|refine zG rfl rfl rfl rfl ?_|(refine jdq rfl rfl ?_ ?_ ?_;kernel_rfl;kernel_rfl)|refine zB rfl rfl rfl (by repeat constructor) rfl ?_|refine zH .here rfl rfl rfl rfl ?_|refine zH (.there .here) rfl rfl rfl rfl ?_|refine zH (.there (.there .here)) rfl rfl rfl rfl ?_)
    exact J_ret1 rfl rfl [] rfl (PH.ler _) ⟨rfl, rfl⟩

set_option maxHeartbeats 8000000 in
theorem lsame_spec (l m : LgX) (cs cs' : List Value) (F : PH) (h : LgV F cs l) (h' : LgV F cs' m) (hn : l.2.2.1.length ≤ maxLen) (hm : l.2.2.2.1.length ≤ maxLen) (hn' : m.2.2.1.length ≤ maxLen) (hm' : m.2.2.2.1.length ≤ maxLen) : Pure Try.prog 25 [.agg cs.toArray, .agg cs'.toArray] F (.bool (sameL l m)) := by
  obtain ⟨s, tt, L, O, _⟩ := l
  obtain ⟨s', tt', L', O', _⟩ := m
  obtain ⟨vl, vo, rfl, hL, hO⟩ := h
  obtain ⟨vl', vo', rfl, hL', hO'⟩ := h'
  dsimp only at hL hO hL' hO' hn hm hn' hm'
  obtain ⟨t, ht⟩ : ∃ t, t = sameL (s, tt, L, O, ()) (s', tt', L', O', ()) := ⟨_, rfl⟩
  rw [← ht]
  unfold sameL at ht
  dsimp only at ht
  refine Spec.of2 Try.func25 rfl rfl fun X w0 => ?_
  obtain ⟨al, cl, rfl, _⟩ := hL.form
  obtain ⟨ao, co, rfl, _⟩ := hO.form
  obtain ⟨al', cl', rfl, _⟩ := hL'.form
  obtain ⟨ao', co', rfl, _⟩ := hO'.form
  unfold maxLen at hn hm hn' hm'
  unfold lgC
  refine jc rfl rfl ?_
  refine jr rfl ?_
  refine oE (ev_box rfl .agg) rfl ?_; rintro _ _ _ _ ⟨rfl, b2, rfl, rfl⟩
  refine oE (ev_box rfl .agg) rfl ?_; rintro _ _ _ _ ⟨rfl, b3, rfl, rfl⟩
  by_cases h1 : s = s'
  rotate_left
  · obtain rfl : t = false := by rw [ht]; exact decide_eq_false fun h => h1 h.1
    repeat (first|refine zJ rfl rfl ?_|refine jr rfl ?_|refine jn ?_|refine zM rfl rfl ?_|(refine zC rfl rfl ?_ rfl ?_;omega)|(refine zD rfl rfl ?_ rfl ?_;omega)|(refine zP rfl ?_ rfl ?_;omega)|refine zG rfl rfl rfl rfl ?_|(refine jdq rfl rfl ?_ ?_ ?_;kernel_rfl;kernel_rfl)|refine zB rfl rfl rfl (by repeat constructor) rfl ?_|refine zH .here rfl rfl rfl rfl ?_|refine zH (.there .here) rfl rfl rfl rfl ?_|refine zH (.there (.there .here)) rfl rfl rfl rfl ?_)
    exact J_retv rfl (.tmp rfl .nil) [] (fun w s => s.drop.drop) (PH.ler _) ⟨rfl, rfl⟩
  by_cases h2 : tt = tt'
  rotate_left
  · obtain rfl : t = false := by rw [ht]; exact decide_eq_false fun h => h2 h.2.1
    repeat (first|refine zJ rfl rfl ?_|refine jr rfl ?_|refine jn ?_|refine zM rfl rfl ?_|(refine zC rfl rfl ?_ rfl ?_;omega)|(refine zD rfl rfl ?_ rfl ?_;omega)|(refine zP rfl ?_ rfl ?_;omega)|refine zG rfl rfl rfl rfl ?_|(refine jdq rfl rfl ?_ ?_ ?_;kernel_rfl;kernel_rfl)|refine zB rfl rfl rfl (by repeat constructor) rfl ?_|refine zH .here rfl rfl rfl rfl ?_|refine zH (.there .here) rfl rfl rfl rfl ?_|refine zH (.there (.there .here)) rfl rfl rfl rfl ?_)
    exact J_retv rfl (.tmp rfl .nil) [] (fun w s => s.drop.drop) (PH.ler _) ⟨rfl, rfl⟩
  repeat (first|refine zJ rfl rfl ?_|refine jr rfl ?_|refine jn ?_|refine zM rfl rfl ?_|(refine zC rfl rfl ?_ rfl ?_;omega)|(refine zD rfl rfl ?_ rfl ?_;omega)|(refine zP rfl ?_ rfl ?_;omega)|refine zG rfl rfl rfl rfl ?_|(refine jdq rfl rfl ?_ ?_ ?_;kernel_rfl;kernel_rfl)|refine zB rfl rfl rfl (by repeat constructor) rfl ?_|refine zH .here rfl rfl rfl rfl ?_|refine zH (.there .here) rfl rfl rfl rfl ?_|refine zH (.there (.there .here)) rfl rfl rfl rfl ?_)
  have s1 := lt_equal_spec al al' cl cl' L L' F hL hL' hn hn'
  have s2 := ou_equal_spec ao ao' co co' O O' F hO hO' hm hm'
  by_cases h3 : L = L'
  rotate_left
  · obtain rfl : t = false := by rw [ht]; exact decide_eq_false fun h => h3 h.2.2.1
    rw [decide_eq_false h3] at s1
    refine oP (s1) Try.call58 rfl rfl ?_
    repeat (first|refine zJ rfl rfl ?_|refine jr rfl ?_|refine jn ?_|refine zM rfl rfl ?_|(refine zC rfl rfl ?_ rfl ?_;omega)|(refine zD rfl rfl ?_ rfl ?_;omega)|(refine zP rfl ?_ rfl ?_;omega)|refine zG rfl rfl rfl rfl ?_|(refine jdq rfl rfl ?_ ?_ ?_;kernel_rfl;kernel_rfl)|refine zB rfl rfl rfl (by repeat constructor) rfl ?_|refine zH .here rfl rfl rfl rfl ?_|refine zH (.there .here) rfl rfl rfl rfl ?_|refine zH (.there (.there .here)) rfl rfl rfl rfl ?_)
    exact J_retv rfl (.tmp rfl .nil) [] (fun w s => s.drop.drop) (PH.ler _) ⟨rfl, rfl⟩
  rw [decide_eq_true h3] at s1
  refine oP (s1) Try.call58 rfl rfl ?_
  repeat (first|refine zJ rfl rfl ?_|refine jr rfl ?_|refine jn ?_|refine zM rfl rfl ?_|(refine zC rfl rfl ?_ rfl ?_;omega)|(refine zD rfl rfl ?_ rfl ?_;omega)|(refine zP rfl ?_ rfl ?_;omega)|refine zG rfl rfl rfl rfl ?_|(refine jdq rfl rfl ?_ ?_ ?_;kernel_rfl;kernel_rfl)|refine zB rfl rfl rfl (by repeat constructor) rfl ?_|refine zH .here rfl rfl rfl rfl ?_|refine zH (.there .here) rfl rfl rfl rfl ?_|refine zH (.there (.there .here)) rfl rfl rfl rfl ?_)
  by_cases h4 : O = O'
  rotate_left
  · obtain rfl : t = false := by rw [ht]; exact decide_eq_false fun h => h4 h.2.2.2
    rw [decide_eq_false h4] at s2
    refine oP (s2) Try.call59 rfl rfl ?_
    repeat (first|refine zJ rfl rfl ?_|refine jr rfl ?_|refine jn ?_|refine zM rfl rfl ?_|(refine zC rfl rfl ?_ rfl ?_;omega)|(refine zD rfl rfl ?_ rfl ?_;omega)|(refine zP rfl ?_ rfl ?_;omega)|refine zG rfl rfl rfl rfl ?_|(refine jdq rfl rfl ?_ ?_ ?_;kernel_rfl;kernel_rfl)|refine zB rfl rfl rfl (by repeat constructor) rfl ?_|refine zH .here rfl rfl rfl rfl ?_|refine zH (.there .here) rfl rfl rfl rfl ?_|refine zH (.there (.there .here)) rfl rfl rfl rfl ?_)
    exact J_retv rfl (.tmp rfl .nil) [] (fun w s => s.drop.drop) (PH.ler _) ⟨rfl, rfl⟩
  rw [decide_eq_true h4] at s2
  refine oP (s2) Try.call59 rfl rfl ?_
  repeat (first|refine zJ rfl rfl ?_|refine jr rfl ?_|refine jn ?_|refine zM rfl rfl ?_|(refine zC rfl rfl ?_ rfl ?_;omega)|(refine zD rfl rfl ?_ rfl ?_;omega)|(refine zP rfl ?_ rfl ?_;omega)|refine zG rfl rfl rfl rfl ?_|(refine jdq rfl rfl ?_ ?_ ?_;kernel_rfl;kernel_rfl)|refine zB rfl rfl rfl (by repeat constructor) rfl ?_|refine zH .here rfl rfl rfl rfl ?_|refine zH (.there .here) rfl rfl rfl rfl ?_|refine zH (.there (.there .here)) rfl rfl rfl rfl ?_)
  obtain rfl : t = true := by rw [ht]; exact decide_eq_true ⟨h1, h2, h3, h4⟩
  exact J_retv rfl (.tmp rfl .nil) [] (fun w s => s.drop.drop) (PH.ler _) ⟨rfl, rfl⟩
set_option maxHeartbeats 16000000 in
theorem Lsame_spec (l m : LgX) (cs cs' : List Value) (F : PH) (h : LgV F cs l) (h' : LgV F cs' m) (hn : l.2.2.1.length ≤ maxLen) (hm : l.2.2.2.1.length ≤ maxLen) (hn' : m.2.2.1.length ≤ maxLen) (hm' : m.2.2.2.1.length ≤ maxLen) : Pure Try.prog 10 [.agg cs.toArray, .agg cs'.toArray] F (.bool (sameL l m)) := by
  obtain ⟨s, tt, L, O, _⟩ := l
  obtain ⟨s', tt', L', O', _⟩ := m
  obtain ⟨vl, vo, rfl, hL, hO⟩ := h
  obtain ⟨vl', vo', rfl, hL', hO'⟩ := h'
  dsimp only at hL hO hL' hO' hn hm hn' hm'
  obtain ⟨t, ht⟩ : ∃ t, t = sameL (s, tt, L, O, ()) (s', tt', L', O', ()) := ⟨_, rfl⟩
  rw [← ht]
  unfold sameL at ht
  dsimp only at ht
  refine Spec.of2 Try.func10 rfl rfl fun X w0 => ?_
  obtain ⟨al, cl, rfl, _⟩ := hL.form
  obtain ⟨ao, co, rfl, _⟩ := hO.form
  obtain ⟨al', cl', rfl, _⟩ := hL'.form
  obtain ⟨ao', co', rfl, _⟩ := hO'.form
  unfold maxLen at hn hm hn' hm'
  unfold lgC
  refine jc rfl rfl ?_
  refine jr rfl ?_
  refine oE (ev_box rfl .agg) rfl ?_; rintro _ _ _ _ ⟨rfl, b2, rfl, rfl⟩
  refine oE (ev_box rfl .agg) rfl ?_; rintro _ _ _ _ ⟨rfl, b3, rfl, rfl⟩
  by_cases h1 : s = s'
  rotate_left
  · obtain rfl : t = false := by rw [ht]; exact decide_eq_false fun h => h1 h.1
    repeat (first|refine zJ rfl rfl ?_|refine jr rfl ?_|refine jn ?_|refine zM rfl rfl ?_|(refine zC rfl rfl ?_ rfl ?_;omega)|(refine zD rfl rfl ?_ rfl ?_;omega)|(refine zP rfl ?_ rfl ?_;omega)|refine zG rfl rfl rfl rfl ?_|(refine jdq rfl rfl ?_ ?_ ?_;kernel_rfl;kernel_rfl)|refine zB rfl rfl rfl (by repeat constructor) rfl ?_|refine zH .here rfl rfl rfl rfl ?_|refine zH (.there .here) rfl rfl rfl rfl ?_|refine zH (.there (.there .here)) rfl rfl rfl rfl ?_)
    exact J_retv rfl (.tmp rfl .nil) [] (fun w s => s.drop.drop) (PH.ler _) ⟨rfl, rfl⟩
  by_cases h2 : tt = tt'
  rotate_left
  · obtain rfl : t = false := by rw [ht]; exact decide_eq_false fun h => h2 h.2.1
    repeat (first|refine zJ rfl rfl ?_|refine jr rfl ?_|refine jn ?_|refine zM rfl rfl ?_|(refine zC rfl rfl ?_ rfl ?_;omega)|(refine zD rfl rfl ?_ rfl ?_;omega)|(refine zP rfl ?_ rfl ?_;omega)|refine zG rfl rfl rfl rfl ?_|(refine jdq rfl rfl ?_ ?_ ?_;kernel_rfl;kernel_rfl)|refine zB rfl rfl rfl (by repeat constructor) rfl ?_|refine zH .here rfl rfl rfl rfl ?_|refine zH (.there .here) rfl rfl rfl rfl ?_|refine zH (.there (.there .here)) rfl rfl rfl rfl ?_)
    exact J_retv rfl (.tmp rfl .nil) [] (fun w s => s.drop.drop) (PH.ler _) ⟨rfl, rfl⟩
  by_cases h3 : L.length = L'.length
  rotate_left
  · obtain rfl : t = false := by rw [ht]; exact decide_eq_false fun h => h3 (by rw [h.2.2.1])
    repeat (first|refine zJ rfl rfl ?_|refine jr rfl ?_|refine jn ?_|refine zM rfl rfl ?_|(refine zC rfl rfl ?_ rfl ?_;omega)|(refine zD rfl rfl ?_ rfl ?_;omega)|(refine zP rfl ?_ rfl ?_;omega)|refine zG rfl rfl rfl rfl ?_|(refine jdq rfl rfl ?_ ?_ ?_;kernel_rfl;kernel_rfl)|refine zB rfl rfl rfl (by repeat constructor) rfl ?_|refine zH .here rfl rfl rfl rfl ?_|refine zH (.there .here) rfl rfl rfl rfl ?_|refine zH (.there (.there .here)) rfl rfl rfl rfl ?_)
    exact J_retv rfl (.tmp rfl .nil) [] (fun w s => s.drop.drop) (PH.ler _) ⟨rfl, rfl⟩
  by_cases h4 : O.length = O'.length
  rotate_left
  · obtain rfl : t = false := by rw [ht]; exact decide_eq_false fun h => h4 (by rw [h.2.2.2])
    repeat (first|refine zJ rfl rfl ?_|refine jr rfl ?_|refine jn ?_|refine zM rfl rfl ?_|(refine zC rfl rfl ?_ rfl ?_;omega)|(refine zD rfl rfl ?_ rfl ?_;omega)|(refine zP rfl ?_ rfl ?_;omega)|refine zG rfl rfl rfl rfl ?_|(refine jdq rfl rfl ?_ ?_ ?_;kernel_rfl;kernel_rfl)|refine zB rfl rfl rfl (by repeat constructor) rfl ?_|refine zH .here rfl rfl rfl rfl ?_|refine zH (.there .here) rfl rfl rfl rfl ?_|refine zH (.there (.there .here)) rfl rfl rfl rfl ?_)
    exact J_retv rfl (.tmp rfl .nil) [] (fun w s => s.drop.drop) (PH.ler _) ⟨rfl, rfl⟩
  repeat (first|refine zJ rfl rfl ?_|refine jr rfl ?_|refine jn ?_|refine zM rfl rfl ?_|(refine zC rfl rfl ?_ rfl ?_;omega)|(refine zD rfl rfl ?_ rfl ?_;omega)|(refine zP rfl ?_ rfl ?_;omega)|refine zG rfl rfl rfl rfl ?_|(refine jdq rfl rfl ?_ ?_ ?_;kernel_rfl;kernel_rfl)|refine zB rfl rfl rfl (by repeat constructor) rfl ?_|refine zH .here rfl rfl rfl rfl ?_|refine zH (.there .here) rfl rfl rfl rfl ?_|refine zH (.there (.there .here)) rfl rfl rfl rfl ?_)
  refine J_loop (ι := Nat) (fun j => j ≤ L.length ∧ L.take j = L'.take j) (fun j => L.length - j) (fun j => [(2, .pointer (some ⟨b2, 0, none⟩)), (3, .pointer (some ⟨b3, 0, none⟩)), (39, .int .i64 L.length), (40, .int .i64 j)]) (fun _ => F) (fun _ => blk b3 27 [.int .i64 s', .int .i64 tt', .slice al' L'.length cl', .slice ao' O'.length co'] :: blk b2 27 [.int .i64 s, .int .i64 tt, .slice al L.length cl, .slice ao O.length co] :: X) 0 ⟨Nat.zero_le _, rfl⟩ ⟨⟨rfl, rfl, rfl, rfl, trivial⟩, fun _ h => h⟩ ?_
  rintro j ⟨hj, heq⟩
  by_cases hlt : j < L.length
  · have hlt2 : j < L'.length := by omega
    have g1 : L[j]? = some L[j] := List.getElem?_eq_getElem hlt
    have g2 : L'[j]? = some L'[j] := List.getElem?_eq_getElem hlt2
    obtain ⟨x1, o1, e1, hc1⟩ := hL.at g1
    obtain ⟨x2, o2, e2, hc2⟩ := hL'.at g2
    subst e1 e2
    repeat (first|refine zJ rfl rfl ?_|refine jr rfl ?_|refine jn ?_|refine zM rfl rfl ?_|(refine zC rfl rfl ?_ rfl ?_;omega)|(refine zD rfl rfl ?_ rfl ?_;omega)|(refine zP rfl ?_ rfl ?_;omega)|refine zG rfl rfl rfl rfl ?_|(refine jdq rfl rfl ?_ ?_ ?_;kernel_rfl;kernel_rfl)|refine zB rfl rfl rfl (by repeat constructor) rfl ?_|refine zH .here rfl rfl rfl rfl ?_|refine zH (.there .here) rfl rfl rfl rfl ?_|refine zH (.there (.there .here)) rfl rfl rfl rfl ?_)
    refine oS (ev_indexAddr rfl rfl rfl hlt) rfl ?_
    refine oS (ev_load_agg rfl rfl (Rdb.ofF hc1) (lt_len _)) rfl ?_
    repeat (first|refine zJ rfl rfl ?_|refine jr rfl ?_|refine jn ?_|refine zM rfl rfl ?_|(refine zC rfl rfl ?_ rfl ?_;omega)|(refine zD rfl rfl ?_ rfl ?_;omega)|(refine zP rfl ?_ rfl ?_;omega)|refine zG rfl rfl rfl rfl ?_|(refine jdq rfl rfl ?_ ?_ ?_;kernel_rfl;kernel_rfl)|refine zB rfl rfl rfl (by repeat constructor) rfl ?_|refine zH .here rfl rfl rfl rfl ?_|refine zH (.there .here) rfl rfl rfl rfl ?_|refine zH (.there (.there .here)) rfl rfl rfl rfl ?_)
    refine oS (ev_indexAddr rfl rfl rfl hlt2) rfl ?_
    refine oS (ev_load_agg rfl rfl (Rdb.ofF hc2) (lt_len _)) rfl ?_
    refine oS (ev_lt_neq rfl rfl) rfl ?_
    by_cases he : L[j] = L'[j]
    · rw [decide_eq_true he]
      repeat (first|refine zJ rfl rfl ?_|refine jr rfl ?_|refine jn ?_|refine zM rfl rfl ?_|(refine zC rfl rfl ?_ rfl ?_;omega)|(refine zD rfl rfl ?_ rfl ?_;omega)|(refine zP rfl ?_ rfl ?_;omega)|refine zG rfl rfl rfl rfl ?_|(refine jdq rfl rfl ?_ ?_ ?_;kernel_rfl;kernel_rfl)|refine zB rfl rfl rfl (by repeat constructor) rfl ?_|refine zH .here rfl rfl rfl rfl ?_|refine zH (.there .here) rfl rfl rfl rfl ?_|refine zH (.there (.there .here)) rfl rfl rfl rfl ?_)
      refine J_again (j + 1) ⟨hlt, by rw [List.take_add_one, List.take_add_one, g1, g2, heq, he]⟩ (by omega) ⟨⟨rfl, rfl, rfl, rfl, trivial⟩, fun w s => s⟩
    · rw [decide_eq_false he]
      obtain rfl : t = false := by rw [ht]; exact decide_eq_false fun h => he (by have := h.2.2.1; subst this; rfl)
      repeat (first|refine zJ rfl rfl ?_|refine jr rfl ?_|refine jn ?_|refine zM rfl rfl ?_|(refine zC rfl rfl ?_ rfl ?_;omega)|(refine zD rfl rfl ?_ rfl ?_;omega)|(refine zP rfl ?_ rfl ?_;omega)|refine zG rfl rfl rfl rfl ?_|(refine jdq rfl rfl ?_ ?_ ?_;kernel_rfl;kernel_rfl)|refine zB rfl rfl rfl (by repeat constructor) rfl ?_|refine zH .here rfl rfl rfl rfl ?_|refine zH (.there .here) rfl rfl rfl rfl ?_|refine zH (.there (.there .here)) rfl rfl rfl rfl ?_)
      exact J_retv rfl (.tmp rfl .nil) [] (fun w s => s.drop.drop) (PH.ler _) ⟨rfl, rfl⟩
  · have hLL : L = L' := by
      rwa [List.take_of_length_le (by omega), List.take_of_length_le (by omega)] at heq
    clear heq
    repeat (first|refine zJ rfl rfl ?_|refine jr rfl ?_|refine jn ?_|refine zM rfl rfl ?_|(refine zC rfl rfl ?_ rfl ?_;omega)|(refine zD rfl rfl ?_ rfl ?_;omega)|(refine zP rfl ?_ rfl ?_;omega)|refine zG rfl rfl rfl rfl ?_|(refine jdq rfl rfl ?_ ?_ ?_;kernel_rfl;kernel_rfl)|refine zB rfl rfl rfl (by repeat constructor) rfl ?_|refine zH .here rfl rfl rfl rfl ?_|refine zH (.there .here) rfl rfl rfl rfl ?_|refine zH (.there (.there .here)) rfl rfl rfl rfl ?_)
    refine J_loop (ι := Nat) (fun j => j ≤ O.length ∧ O.take j = O'.take j) (fun j => O.length - j) (fun j => [(2, .pointer (some ⟨b2, 0, none⟩)), (3, .pointer (some ⟨b3, 0, none⟩)), (57, .int .i64 O.length), (58, .int .i64 j)]) (fun _ => F) (fun _ => blk b3 27 [.int .i64 s', .int .i64 tt', .slice al' L'.length cl', .slice ao' O'.length co'] :: blk b2 27 [.int .i64 s, .int .i64 tt, .slice al L.length cl, .slice ao O.length co] :: X) 0 ⟨Nat.zero_le _, rfl⟩ ⟨⟨rfl, rfl, rfl, rfl, trivial⟩, fun _ h => h⟩ ?_
    rintro i ⟨hi, heq⟩
    by_cases hlt3 : i < O.length
    · have hlt2 : i < O'.length := by omega
      have g1 : O[i]? = some O[i] := List.getElem?_eq_getElem hlt3
      have g2 : O'[i]? = some O'[i] := List.getElem?_eq_getElem hlt2
      obtain ⟨x1, o1, e1, hc1⟩ := hO.at g1
      obtain ⟨x2, o2, e2, hc2⟩ := hO'.at g2
      subst e1 e2
      repeat (first|refine zJ rfl rfl ?_|refine jr rfl ?_|refine jn ?_|refine zM rfl rfl ?_|(refine zC rfl rfl ?_ rfl ?_;omega)|(refine zD rfl rfl ?_ rfl ?_;omega)|(refine zP rfl ?_ rfl ?_;omega)|refine zG rfl rfl rfl rfl ?_|(refine jdq rfl rfl ?_ ?_ ?_;kernel_rfl;kernel_rfl)|refine zB rfl rfl rfl (by repeat constructor) rfl ?_|refine zH .here rfl rfl rfl rfl ?_|refine zH (.there .here) rfl rfl rfl rfl ?_|refine zH (.there (.there .here)) rfl rfl rfl rfl ?_)
      refine oS (ev_indexAddr rfl rfl rfl hlt3) rfl ?_
      refine oS (ev_load_agg rfl rfl (Rdb.ofF hc1) (ou_len _)) rfl ?_
      repeat (first|refine zJ rfl rfl ?_|refine jr rfl ?_|refine jn ?_|refine zM rfl rfl ?_|(refine zC rfl rfl ?_ rfl ?_;omega)|(refine zD rfl rfl ?_ rfl ?_;omega)|(refine zP rfl ?_ rfl ?_;omega)|refine zG rfl rfl rfl rfl ?_|(refine jdq rfl rfl ?_ ?_ ?_;kernel_rfl;kernel_rfl)|refine zB rfl rfl rfl (by repeat constructor) rfl ?_|refine zH .here rfl rfl rfl rfl ?_|refine zH (.there .here) rfl rfl rfl rfl ?_|refine zH (.there (.there .here)) rfl rfl rfl rfl ?_)
      refine oS (ev_indexAddr rfl rfl rfl hlt2) rfl ?_
      refine oS (ev_load_agg rfl rfl (Rdb.ofF hc2) (ou_len _)) rfl ?_
      refine oS (ev_ou_neq rfl rfl) rfl ?_
      by_cases he : O[i] = O'[i]
      · rw [decide_eq_true he]
        repeat (first|refine zJ rfl rfl ?_|refine jr rfl ?_|refine jn ?_|refine zM rfl rfl ?_|(refine zC rfl rfl ?_ rfl ?_;omega)|(refine zD rfl rfl ?_ rfl ?_;omega)|(refine zP rfl ?_ rfl ?_;omega)|refine zG rfl rfl rfl rfl ?_|(refine jdq rfl rfl ?_ ?_ ?_;kernel_rfl;kernel_rfl)|refine zB rfl rfl rfl (by repeat constructor) rfl ?_|refine zH .here rfl rfl rfl rfl ?_|refine zH (.there .here) rfl rfl rfl rfl ?_|refine zH (.there (.there .here)) rfl rfl rfl rfl ?_)
        refine J_again (i + 1) ⟨hlt3, by rw [List.take_add_one, List.take_add_one, g1, g2, heq, he]⟩ (by omega) ⟨⟨rfl, rfl, rfl, rfl, trivial⟩, fun w s => s⟩
      · rw [decide_eq_false he]
        obtain rfl : t = false := by rw [ht]; exact decide_eq_false fun h => he (by have := h.2.2.2; subst this; rfl)
        repeat (first|refine zJ rfl rfl ?_|refine jr rfl ?_|refine jn ?_|refine zM rfl rfl ?_|(refine zC rfl rfl ?_ rfl ?_;omega)|(refine zD rfl rfl ?_ rfl ?_;omega)|(refine zP rfl ?_ rfl ?_;omega)|refine zG rfl rfl rfl rfl ?_|(refine jdq rfl rfl ?_ ?_ ?_;kernel_rfl;kernel_rfl)|refine zB rfl rfl rfl (by repeat constructor) rfl ?_|refine zH .here rfl rfl rfl rfl ?_|refine zH (.there .here) rfl rfl rfl rfl ?_|refine zH (.there (.there .here)) rfl rfl rfl rfl ?_)
        exact J_retv rfl (.tmp rfl .nil) [] (fun w s => s.drop.drop) (PH.ler _) ⟨rfl, rfl⟩
    · have hOO : O = O' := by
        rwa [List.take_of_length_le (by omega), List.take_of_length_le (by omega)] at heq
      obtain rfl : t = true := by rw [ht]; exact decide_eq_true ⟨h1, h2, hLL, hOO⟩
      repeat (first|refine zJ rfl rfl ?_|refine jr rfl ?_|refine jn ?_|refine zM rfl rfl ?_|(refine zC rfl rfl ?_ rfl ?_;omega)|(refine zD rfl rfl ?_ rfl ?_;omega)|(refine zP rfl ?_ rfl ?_;omega)|refine zG rfl rfl rfl rfl ?_|(refine jdq rfl rfl ?_ ?_ ?_;kernel_rfl;kernel_rfl)|refine zB rfl rfl rfl (by repeat constructor) rfl ?_|refine zH .here rfl rfl rfl rfl ?_|refine zH (.there .here) rfl rfl rfl rfl ?_|refine zH (.there (.there .here)) rfl rfl rfl rfl ?_)
      exact J_retv rfl (.tmp rfl .nil) [] (fun w s => s.drop.drop) (PH.ler _) ⟨rfl, rfl⟩
/-- Isn't a ledger too great? -/
def fewX (x : LtX) : Bool := decide (x.1.length ≤ 100 ∧ x.2.2.2.2.1.length ≤ 300 ∧ x.2.2.2.2.2.1.length ≤ 300)
def fewB (l : LgX) : Bool := l.2.2.1.all fewX && decide (l.2.2.1.length ≤ 64 ∧ l.2.2.2.1.length ≤ 64)
theorem fewB_ok {l : LgX} (h : fewB l = true) : l.2.2.1.length ≤ 64 ∧ l.2.2.2.1.length ≤ 64 ∧ ∀ x ∈ l.2.2.1, LtOk x := by
  unfold fewB at h
  rw [Bool.and_eq_true, decide_eq_true_eq, List.all_eq_true] at h
  refine ⟨h.2.1, h.2.2, fun x hx => ?_⟩
  have := h.1 x hx
  unfold fewX at this
  rw [decide_eq_true_eq] at this
  exact ⟨by omega, by omega, by omega⟩
set_option maxHeartbeats 8000000 in
theorem few_spec (l : LgX) (cs : List Value) (F : PH) (h : LgV F cs l) (hn : l.2.2.1.length ≤ maxLen) (hm : l.2.2.2.1.length ≤ maxLen) (hs : ∀ x ∈ l.2.2.1, x.1.length ≤ maxLen ∧ x.2.2.2.2.1.length ≤ maxLen ∧ x.2.2.2.2.2.1.length ≤ maxLen) : Pure Try.prog 12 [.agg cs.toArray] F (.bool (fewB l)) := by
  obtain ⟨s, tt, L, O, _⟩ := l
  obtain ⟨vl, vo, rfl, hL, hO⟩ := h
  dsimp only at hL hO hn hm hs
  unfold maxLen at hn hm hs
  obtain ⟨t, ht⟩ : ∃ t, t = fewB (s, tt, L, O, ()) := ⟨_, rfl⟩
  rw [← ht]
  unfold fewB at ht
  dsimp only at ht
  refine Spec.of1 Try.func12 rfl rfl fun X w0 => ?_
  obtain ⟨al, cl, rfl, _⟩ := hL.form
  obtain ⟨ao, co, rfl, _⟩ := hO.form
  unfold lgC
  refine jc rfl rfl ?_
  refine jr rfl ?_
  refine oE (ev_box rfl .agg) rfl ?_; rintro _ _ _ _ ⟨rfl, b1, rfl, rfl⟩
  repeat (first|refine zJ rfl rfl ?_|refine jr rfl ?_|refine jn ?_|refine zM rfl rfl ?_|(refine zC rfl rfl ?_ rfl ?_;omega)|(refine zD rfl rfl ?_ rfl ?_;omega)|(refine zP rfl ?_ rfl ?_;omega)|refine zG rfl rfl rfl rfl ?_|(refine jdq rfl rfl ?_ ?_ ?_;kernel_rfl;kernel_rfl)|refine zB rfl rfl rfl (by repeat constructor) rfl ?_|refine zH .here rfl rfl rfl rfl ?_|refine zH (.there .here) rfl rfl rfl rfl ?_|refine zH (.there (.there .here)) rfl rfl rfl rfl ?_)
  refine J_loop (ι := Nat) (fun i => i ≤ L.length ∧ (L.take i).all fewX = true) (fun i => L.length - i) (fun i => [(1, .pointer (some ⟨b1, 0, none⟩)), (6, .slice al L.length cl), (7, .int .i64 L.length), (8, .int .i64 i)]) (fun _ => F) (fun _ => blk b1 27 [.int .i64 s, .int .i64 tt, .slice al L.length cl, .slice ao O.length co] :: X) 0 ⟨Nat.zero_le _, rfl⟩ ⟨⟨rfl, rfl, rfl, rfl, trivial⟩, fun w s => s⟩ ?_
  rintro i ⟨hi, hall⟩
  by_cases hlt : i < L.length
  · have g1 : L[i]? = some L[i] := List.getElem?_eq_getElem hlt
    have htk : L.take (i + 1) = L.take i ++ [L[i]] := List.take_succ_eq_append_getElem hlt
    have hmem := List.getElem_mem hlt
    generalize L[i] = y at *
    obtain ⟨q1, q2, q3⟩ := hs y hmem
    obtain ⟨b, off, e, hc⟩ := hL.at g1
    subst e
    have hz1 := strOf_size y.1
    have hz2 := strOf_size y.2.2.2.2.1
    have hz3 := strOf_size y.2.2.2.2.2.1
    have hbad : fewX y = false → t = false := fun h => by
      rw [ht, show L.all fewX = false from List.all_eq_false.2 ⟨y, hmem, by rw [h]; decide⟩]
      rfl
    repeat (first|refine zJ rfl rfl ?_|refine jr rfl ?_|refine jn ?_|refine zM rfl rfl ?_|(refine zC rfl rfl ?_ rfl ?_;omega)|(refine zD rfl rfl ?_ rfl ?_;omega)|(refine zP rfl ?_ rfl ?_;omega)|refine zG rfl rfl rfl rfl ?_|(refine jdq rfl rfl ?_ ?_ ?_;kernel_rfl;kernel_rfl)|refine zB rfl rfl rfl (by repeat constructor) rfl ?_|refine zH .here rfl rfl rfl rfl ?_|refine zH (.there .here) rfl rfl rfl rfl ?_|refine zH (.there (.there .here)) rfl rfl rfl rfl ?_)
    refine oS (ev_indexAddr (i := i) rfl rfl rfl hlt) rfl ?_
    refine oS (ev_load_agg (cs := ltC y) rfl rfl (Rdb.ofF hc) (lt_len y)) rfl ?_
    refine oE (ev_alloc (cs := zLt) rfl) rfl ?_
    rintro _ _ _ _ ⟨rfl, b4, rfl, rfl⟩
    refine oN (ev_store (b := b4) (off := 0) rfl rfl .agg rfl rfl (lay_all (zs := zLt) rfl) (lt_ones y) .here) rfl ?_
    rintro _ _ _ _ ⟨rfl, _, rfl⟩
    by_cases h1 : y.1.length ≤ 100
    rotate_left
    · obtain rfl := hbad (by unfold fewX; exact decide_eq_false (by omega))
      repeat (first|refine zJ rfl rfl ?_|refine jr rfl ?_|refine jn ?_|refine zM rfl rfl ?_|(refine zC rfl rfl ?_ rfl ?_;omega)|(refine zD rfl rfl ?_ rfl ?_;omega)|(refine zP rfl ?_ rfl ?_;omega)|refine zG rfl rfl rfl rfl ?_|(refine jdq rfl rfl ?_ ?_ ?_;kernel_rfl;kernel_rfl)|refine zB rfl rfl rfl (by repeat constructor) rfl ?_|refine zH .here rfl rfl rfl rfl ?_|refine zH (.there .here) rfl rfl rfl rfl ?_|refine zH (.there (.there .here)) rfl rfl rfl rfl ?_)
      exact J_retv rfl (.tmp rfl .nil) [] (fun w s => s.drop.drop) (PH.ler _) ⟨rfl, rfl⟩
    by_cases h2 : y.2.2.2.2.1.length ≤ 300
    rotate_left
    · obtain rfl := hbad (by unfold fewX; exact decide_eq_false (by omega))
      repeat (first|refine zJ rfl rfl ?_|refine jr rfl ?_|refine jn ?_|refine zM rfl rfl ?_|(refine zC rfl rfl ?_ rfl ?_;omega)|(refine zD rfl rfl ?_ rfl ?_;omega)|(refine zP rfl ?_ rfl ?_;omega)|refine zG rfl rfl rfl rfl ?_|(refine jdq rfl rfl ?_ ?_ ?_;kernel_rfl;kernel_rfl)|refine zB rfl rfl rfl (by repeat constructor) rfl ?_|refine zH .here rfl rfl rfl rfl ?_|refine zH (.there .here) rfl rfl rfl rfl ?_|refine zH (.there (.there .here)) rfl rfl rfl rfl ?_)
      exact J_retv rfl (.tmp rfl .nil) [] (fun w s => s.drop.drop) (PH.ler _) ⟨rfl, rfl⟩
    by_cases h3 : y.2.2.2.2.2.1.length ≤ 300
    rotate_left
    · obtain rfl := hbad (by unfold fewX; exact decide_eq_false (by omega))
      repeat (first|refine zJ rfl rfl ?_|refine jr rfl ?_|refine jn ?_|refine zM rfl rfl ?_|(refine zC rfl rfl ?_ rfl ?_;omega)|(refine zD rfl rfl ?_ rfl ?_;omega)|(refine zP rfl ?_ rfl ?_;omega)|refine zG rfl rfl rfl rfl ?_|(refine jdq rfl rfl ?_ ?_ ?_;kernel_rfl;kernel_rfl)|refine zB rfl rfl rfl (by repeat constructor) rfl ?_|refine zH .here rfl rfl rfl rfl ?_|refine zH (.there .here) rfl rfl rfl rfl ?_|refine zH (.there (.there .here)) rfl rfl rfl rfl ?_)
      exact J_retv rfl (.tmp rfl .nil) [] (fun w s => s.drop.drop) (PH.ler _) ⟨rfl, rfl⟩
    have hgo : fewX y = true := by unfold fewX; exact decide_eq_true ⟨h1, h2, h3⟩
    repeat (first|refine zJ rfl rfl ?_|refine jr rfl ?_|refine jn ?_|refine zM rfl rfl ?_|(refine zC rfl rfl ?_ rfl ?_;omega)|(refine zD rfl rfl ?_ rfl ?_;omega)|(refine zP rfl ?_ rfl ?_;omega)|refine zG rfl rfl rfl rfl ?_|(refine jdq rfl rfl ?_ ?_ ?_;kernel_rfl;kernel_rfl)|refine zB rfl rfl rfl (by repeat constructor) rfl ?_|refine zH .here rfl rfl rfl rfl ?_|refine zH (.there .here) rfl rfl rfl rfl ?_|refine zH (.there (.there .here)) rfl rfl rfl rfl ?_)
    exact J_again (i + 1) ⟨hlt, by rw [htk, List.all_append, hall, Bool.true_and]; simp [hgo]⟩ (by omega) ⟨⟨rfl, rfl, rfl, rfl, trivial⟩, fun w s => s.drop⟩
  · obtain rfl : i = L.length := by omega
    rw [List.take_length] at hall
    rw [hall, Bool.true_and] at ht
    by_cases h1 : L.length ≤ 64
    rotate_left
    · obtain rfl : t = false := by rw [ht]; exact decide_eq_false (by omega)
      repeat (first|refine zJ rfl rfl ?_|refine jr rfl ?_|refine jn ?_|refine zM rfl rfl ?_|(refine zC rfl rfl ?_ rfl ?_;omega)|(refine zD rfl rfl ?_ rfl ?_;omega)|(refine zP rfl ?_ rfl ?_;omega)|refine zG rfl rfl rfl rfl ?_|(refine jdq rfl rfl ?_ ?_ ?_;kernel_rfl;kernel_rfl)|refine zB rfl rfl rfl (by repeat constructor) rfl ?_|refine zH .here rfl rfl rfl rfl ?_|refine zH (.there .here) rfl rfl rfl rfl ?_|refine zH (.there (.there .here)) rfl rfl rfl rfl ?_)
      exact J_retv rfl (.tmp rfl .nil) [] (fun w s => s.drop) (PH.ler _) ⟨rfl, rfl⟩
    by_cases h2 : O.length ≤ 64
    rotate_left
    · obtain rfl : t = false := by rw [ht]; exact decide_eq_false (by omega)
      repeat (first|refine zJ rfl rfl ?_|refine jr rfl ?_|refine jn ?_|refine zM rfl rfl ?_|(refine zC rfl rfl ?_ rfl ?_;omega)|(refine zD rfl rfl ?_ rfl ?_;omega)|(refine zP rfl ?_ rfl ?_;omega)|refine zG rfl rfl rfl rfl ?_|(refine jdq rfl rfl ?_ ?_ ?_;kernel_rfl;kernel_rfl)|refine zB rfl rfl rfl (by repeat constructor) rfl ?_|refine zH .here rfl rfl rfl rfl ?_|refine zH (.there .here) rfl rfl rfl rfl ?_|refine zH (.there (.there .here)) rfl rfl rfl rfl ?_)
      exact J_retv rfl (.tmp rfl .nil) [] (fun w s => s.drop) (PH.ler _) ⟨rfl, rfl⟩
    obtain rfl : t = true := by rw [ht]; exact decide_eq_true ⟨h1, h2⟩
    repeat (first|refine zJ rfl rfl ?_|refine jr rfl ?_|refine jn ?_|refine zM rfl rfl ?_|(refine zC rfl rfl ?_ rfl ?_;omega)|(refine zD rfl rfl ?_ rfl ?_;omega)|(refine zP rfl ?_ rfl ?_;omega)|refine zG rfl rfl rfl rfl ?_|(refine jdq rfl rfl ?_ ?_ ?_;kernel_rfl;kernel_rfl)|refine zB rfl rfl rfl (by repeat constructor) rfl ?_|refine zH .here rfl rfl rfl rfl ?_|refine zH (.there .here) rfl rfl rfl rfl ?_|refine zH (.there (.there .here)) rfl rfl rfl rfl ?_)
    exact J_retv rfl (.tmp rfl .nil) [] (fun w s => s.drop) (PH.ler _) ⟨rfl, rfl⟩
/-! what comes in -/
def lyN : Ty Try.prog 3 Int := tyInt Try.underlying3
def lyL : Ty Try.prog 2 Int := tyInt Try.underlying2
def lyE : Ty Try.prog 28 Int := tyInt Try.underlying28
def lyS : Ty Try.prog 9 (List UInt8) := tyStr Try.underlying9
def lyLt : Ty Try.prog 37 LtX := tyStruct Try.underlying37 (fsCons lyS (fsCons lyN (fsCons lyL (fsCons lyL (fsCons lyS (fsCons lyS (fsNil _) rfl (by kernel_rfl)) rfl (by kernel_rfl)) rfl (by kernel_rfl)) rfl (by kernel_rfl)) rfl (by kernel_rfl)) rfl (by kernel_rfl)) (by kernel_rfl)
def lyOu : Ty Try.prog 39 OuX := tyStruct Try.underlying39 (fsCons lyN (fsCons lyL (fsCons lyE (fsNil _) rfl (by kernel_rfl)) rfl (by kernel_rfl)) rfl (by kernel_rfl)) (by kernel_rfl)
def lyLg : Ty Try.prog 27 LgX := tyStruct Try.underlying27 (fsCons lyL (fsCons lyL (fsCons (tySliceB lyLt Try.underlying24 (by kernel_rfl) (by decide)) (fsCons (tySliceB lyOu Try.underlying25 (by kernel_rfl) (by decide)) (fsNil _) rfl (by kernel_rfl)) rfl (by kernel_rfl)) rfl (by kernel_rfl)) rfl (by kernel_rfl)) (by kernel_rfl)
def LtIn (x : LtX) : Prop := x.1.length ≤ maxLen ∧ x.2.2.2.2.1.length ≤ maxLen ∧ x.2.2.2.2.2.1.length ≤ maxLen
theorem lt_of {F : PH} {x : LtX} {cs : List Value} (h : lyLt.rep F x cs) : cs = ltC x ∧ LtIn x := by
  obtain ⟨_, _, rfl, ⟨rfl, k1⟩, _, _, rfl, ⟨rfl, _⟩, _, _, rfl, ⟨rfl, _⟩, _, _, rfl, ⟨rfl, _⟩, _, _, rfl, ⟨rfl, k2⟩, _, _, rfl, ⟨rfl, k3⟩, rfl⟩ := h
  exact ⟨rfl, k1, k2, k3⟩
theorem ou_of {F : PH} {x : OuX} {cs : List Value} (h : lyOu.rep F x cs) : cs = ouC x := by
  obtain ⟨_, _, rfl, ⟨rfl, _⟩, _, _, rfl, ⟨rfl, _⟩, _, _, rfl, ⟨rfl, _⟩, rfl⟩ := h
  rfl
theorem ltRow_of {F : PH} {v : Value} {L : List LtX} (h : RowV lyLt F v L) : ltRow F v L ∧ ∀ x ∈ L, LtIn x := by
  obtain ⟨css, h1, h2⟩ := h
  have h3 : css = L.map ltC ∧ ∀ x ∈ L, LtIn x := by
    clear h1
    induction h2 with
    | nil => exact ⟨rfl, fun _ h => by cases h⟩
    | cons h _ ih =>
      obtain ⟨rfl, hi⟩ := lt_of h
      exact ⟨by rw [ih.1]; rfl, fun x hx => by rcases List.mem_cons.1 hx with rfl | hx; exact hi; exact ih.2 x hx⟩
  obtain ⟨rfl, hi⟩ := h3
  exact ⟨h1, hi⟩
theorem ouRow_of {F : PH} {v : Value} {L : List OuX} (h : RowV lyOu F v L) : ouRow F v L := by
  obtain ⟨css, h1, h2⟩ := h
  have h3 : css = L.map ouC := by
    clear h1
    induction h2 with
    | nil => rfl
    | cons h _ ih =>
      obtain rfl := ou_of h
      rw [ih]; rfl
  subst h3
  exact h1
/-- A ledger that comes in. -/
structure LgIn (F : PH) (cs : List Value) (l : LgX) : Prop where
  v : LgV F cs l
  k1 : InK .i64 l.1
  k2 : InK .i64 l.2.1
  n : l.2.2.1.length ≤ maxLen
  m : l.2.2.2.1.length ≤ maxLen
  s : ∀ x ∈ l.2.2.1, LtIn x
theorem lg_of {F : PH} {l : LgX} {cs : List Value} (h : lyLg.rep F l cs) : LgIn F cs l := by
  obtain ⟨_, _, rfl, ⟨rfl, k1⟩, _, _, rfl, ⟨rfl, k2⟩, _, _, rfl, ⟨vl, rfl, hl, kl⟩, _, _, rfl, ⟨vo, rfl, ho, ko⟩, rfl⟩ := h
  have h1 := ltRow_of hl
  exact ⟨⟨vl, vo, rfl, h1.1, ouRow_of ho⟩, k1, k2, kl, ko, h1.2⟩
end Go.Proofs.Ytifdlhafcfbeaaa
