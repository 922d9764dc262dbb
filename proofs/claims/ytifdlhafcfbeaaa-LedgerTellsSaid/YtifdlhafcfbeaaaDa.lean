/-
  A ledger's rows, of letters and of outcomes: cloned, searched, put. Conditions are typed with each. (Printed by wip/gen/da.py.)
  Ledgers: found in, copied, with a letter or an outcome more, by the program and by the document. Conditions are typed with each. (Printed by wip/gen/db.py.)
-/
import Derived.Test.YtifdlhafcfbeaaaRa
import Derived.Test.YtifdlhafcfbeaaaKt
import Derived.Test.YtifdlhafcfbeaaaKy
import Derived.Test.YtifdlhafcfbeaaaLg
import Derived.Test.YtifdlhafcfbeaaaLd
import Derived.Test.YtifdlhafcfbeaaaLh
namespace Go.Proofs.Ytifdlhafcfbeaaa
open Go.RowKit
set_option maxRecDepth 100000
/-! texts in their order -/
def ltY (a b : List UInt8) : Bool := Op.bytesLess a b
theorem ltY_irr : ∀ a, ltY a a = false
  | [] => rfl
  | x :: a => by
    have := ltY_irr a
    unfold ltY at *
    rw [Op.bytesLess]
    simp [this]
theorem ltY_asym : ∀ a b, ltY a b = true → ltY b a = false
  | [], [], h => by simp [ltY, Op.bytesLess] at h
  | [], _ :: _, _ => rfl
  | _ :: _, [], h => by simp [ltY, Op.bytesLess] at h
  | x :: a, y :: b, h => by
    have ih := ltY_asym a b
    unfold ltY at *
    rw [Op.bytesLess] at h ⊢
    simp only [Bool.or_eq_true, Bool.and_eq_true, decide_eq_true_eq, beq_iff_eq] at h
    rcases h with h | ⟨rfl, h⟩
    · have h1 : ¬ y < x := fun h2 => by rw [UInt8.lt_iff_toNat_lt] at h h2; omega
      have h2 : ¬ y = x := fun e => by subst e; rw [UInt8.lt_iff_toNat_lt] at h; omega
      simp [h1, h2]
    · have h1 : ¬ x < x := fun h2 => by rw [UInt8.lt_iff_toNat_lt] at h2; omega
      simp [h1, ih h]
theorem ltY_tot : ∀ a b, ltY a b = false → ltY b a = false → a = b
  | [], [], _, _ => rfl
  | [], _ :: _, h, _ => by simp [ltY, Op.bytesLess] at h
  | _ :: _, [], _, h => by simp [ltY, Op.bytesLess] at h
  | x :: a, y :: b, h, k => by
    have ih := ltY_tot a b
    unfold ltY at *
    rw [Op.bytesLess] at h k
    simp only [Bool.or_eq_false_iff, Bool.and_eq_false_imp, decide_eq_false_iff_not, beq_iff_eq] at h k
    have e : x = y := by
      have h1 := h.1; have k1 := k.1
      rw [UInt8.lt_iff_toNat_lt] at h1 k1
      exact UInt8.toNat_inj.1 (by omega)
    subst e
    rw [ih (h.2 rfl) (k.2 rfl)]
/-- Greater. -/
def gtY (a b : List UInt8) : Bool := ltY b a
theorem gtY_eq (a b : List UInt8) : (!(Op.bytesLess a b || a == b)) = gtY a b := by
  unfold gtY
  cases h1 : ltY a b with
  | true =>
    rw [ltY_asym a b h1]
    unfold ltY at h1
    simp [h1]
  | false =>
    cases h2 : ltY b a with
    | true =>
      have : ¬ a = b := fun e => by subst e; rw [h1] at h2; cases h2
      unfold ltY at h1
      simp [h1, this]
    | false =>
      rw [ltY_tot a b h1 h2]
      simp
section
variable {P : Program} {l : Env} {F : PH} {H : List Asrt} {d : Option Nat} {T T' U : TypeId} {pos : String} {af : Array Edge} {g : Option (Nat × Bool)} {x y : Operand}
theorem ev_slss {bs cs : List UInt8} (hx : opv l x = some (.string (strOf bs))) (hy : opv l y = some (.string (strOf cs))) : Ev P ⟨d, .binOp .lss T x y T', U, pos, af, g⟩ l F H (.bool (ltY bs cs)) := .of fun ρ hρ w _ => by
  have e1 := hρ _ _ hx; have e2 := hρ _ _ hy
  simp [execOp, e1, e2, eqGuard, binOp, Op.stringOp, go_sem, strOf_toList, ltY]
theorem ev_sgtr {bs cs : List UInt8} (hx : opv l x = some (.string (strOf bs))) (hy : opv l y = some (.string (strOf cs))) : Ev P ⟨d, .binOp .gtr T x y T', U, pos, af, g⟩ l F H (.bool (gtY bs cs)) := .of fun ρ hρ w _ => by
  have e1 := hρ _ _ hx; have e2 := hρ _ _ hy
  rw [← gtY_eq]
  simp [execOp, e1, e2, eqGuard, binOp, Op.stringOp, go_sem, strOf_toList]
theorem ev_sgeq {bs cs : List UInt8} (hx : opv l x = some (.string (strOf bs))) (hy : opv l y = some (.string (strOf cs))) : Ev P ⟨d, .binOp .geq T x y T', U, pos, af, g⟩ l F H (.bool (!ltY bs cs)) := .of fun ρ hρ w _ => by
  have e1 := hρ _ _ hx; have e2 := hρ _ _ hy
  simp [execOp, e1, e2, eqGuard, binOp, Op.stringOp, go_sem, strOf_toList, ltY]
end
/-! where something stands, or belongs -/
section
variable {α : Type}
def placeP (eqk gtk : α → Bool) (L : List α) : Int × Bool := if 0 ≤ idxP eqk L 0 then (idxP eqk L 0, true) else if 0 ≤ idxP gtk L 0 then (idxP gtk L 0, false) else (L.length, false)
def replP (eqk : α → Bool) (x : α) : List α → List α
  | [] => []
  | y :: r => if eqk y then x :: r else y :: replP eqk x r
def inssP (gtk : α → Bool) (x : α) : List α → List α
  | [] => [x]
  | y :: r => if gtk y then x :: y :: r else y :: inssP gtk x r
def putP (eqk gtk : α → Bool) (x : α) (L : List α) : List α := if L.any eqk then replP eqk x L else inssP gtk x L
theorem replP_at {eqk : α → Bool} {x y : α} {B : List α} (hy : eqk y = true) : ∀ {A : List α}, (∀ z ∈ A, eqk z = false) → replP eqk x (A ++ y :: B) = A ++ x :: B
  | [], _ => by show replP eqk x (y :: B) = _; rw [replP, if_pos hy]; rfl
  | z :: A, h => by
    show replP eqk x (z :: (A ++ y :: B)) = _
    rw [replP, h z List.mem_cons_self, if_neg (by decide), replP_at hy fun w hw => h w (List.mem_cons_of_mem _ hw)]
    rfl
theorem inssP_at {gtk : α → Bool} {x y : α} {B : List α} (hy : gtk y = true) : ∀ {A : List α}, (∀ z ∈ A, gtk z = false) → inssP gtk x (A ++ y :: B) = A ++ x :: y :: B
  | [], _ => by show inssP gtk x (y :: B) = _; rw [inssP, if_pos hy]; rfl
  | z :: A, h => by
    show inssP gtk x (z :: (A ++ y :: B)) = _
    rw [inssP, h z List.mem_cons_self, if_neg (by decide), inssP_at hy fun w hw => h w (List.mem_cons_of_mem _ hw)]
    rfl
theorem inssP_end {gtk : α → Bool} {x : α} : ∀ {A : List α}, (∀ z ∈ A, gtk z = false) → inssP gtk x A = A ++ [x]
  | [], _ => rfl
  | z :: A, h => by
    rw [inssP, h z List.mem_cons_self, if_neg (by decide), inssP_end fun w hw => h w (List.mem_cons_of_mem _ hw)]
    rfl
theorem any_no {eqk : α → Bool} {L : List α} (h : ∀ z ∈ L, eqk z = false) : L.any eqk = false := by
  rw [List.any_eq_false]
  exact fun z hz => by rw [h z hz]; decide
theorem any_yes {eqk : α → Bool} {A B : List α} {y : α} (h : eqk y = true) : (A ++ y :: B).any eqk = true := List.any_eq_true.2 ⟨y, by simp, h⟩
/-- The three ways. -/
theorem place_cases (eqk gtk : α → Bool) (x : α) (L : List α) : (∃ A y B, L = A ++ y :: B ∧ eqk y = true ∧ (∀ z ∈ A, eqk z = false) ∧ placeP eqk gtk L = ((A.length : Int), true) ∧ putP eqk gtk x L = A ++ x :: B) ∨
    ((∀ z ∈ L, eqk z = false) ∧ ∃ A B, L = A ++ B ∧ placeP eqk gtk L = ((A.length : Int), false) ∧ putP eqk gtk x L = A ++ x :: B) := by
  unfold placeP putP
  rcases idx_split eqk L 0 with ⟨e, hno⟩ | ⟨A, y, B, rfl, e, hy, hA⟩
  · refine .inr ⟨hno, ?_⟩
    rw [e, if_neg (show ¬ (0:Int) ≤ -1 by decide), any_no hno, if_neg (show ¬ (false = true) by decide)]
    rcases idx_split gtk L 0 with ⟨e, hno⟩ | ⟨A, y, B, rfl, e, hy, hA⟩
    · refine ⟨L, [], by simp, ?_, ?_⟩
      · rw [e, if_neg (show ¬ (0:Int) ≤ -1 by decide)]
      · exact inssP_end hno
    · refine ⟨A, y :: B, rfl, ?_, ?_⟩
      · rw [e, if_pos (by omega), Int.zero_add]
      · exact inssP_at hy hA
  · refine .inl ⟨A, y, B, rfl, hy, hA, ?_, ?_⟩
    · rw [e, if_pos (by omega), Int.zero_add]
    · rw [any_yes hy, if_pos rfl]
      exact replP_at hy hA
end
abbrev LtX := List UInt8 × Int × Int × Int × List UInt8 × List UInt8 × Unit
abbrev OuX := Int × Int × Int × Unit
instance ltXDec : DecidableEq LtX := @instDecidableEqProd _ _ inferInstance (@instDecidableEqProd _ _ inferInstance (@instDecidableEqProd _ _ inferInstance (@instDecidableEqProd _ _ inferInstance (@instDecidableEqProd _ _ inferInstance inferInstance))))
instance ouXDec : DecidableEq OuX := @instDecidableEqProd _ _ inferInstance inferInstance
def ltC (x : LtX) : List Value := [.string (strOf x.1), .int .i64 x.2.1, .int .i64 x.2.2.1, .int .i64 x.2.2.2.1, .string (strOf x.2.2.2.2.1), .string (strOf x.2.2.2.2.2.1)]
def ouC (o : OuX) : List Value := [.int .i64 o.1, .int .i64 o.2.1, .int .i64 o.2.2.1]
abbrev zLt : List Value := [.string .empty, .int .i64 0, .int .i64 0, .int .i64 0, .string .empty, .string .empty]
abbrev zOu : List Value := [.int .i64 0, .int .i64 0, .int .i64 0]
def nLt : LtX := ([], 0, 0, 0, [], [], ())
def nOu : OuX := (0, 0, 0, ())
/-- A key as a value. -/
def ltK (k : List UInt8) : Value := .string (strOf k)
def ouK (k : Int) : Value := .int .i64 k
def ltEq (k : List UInt8) (x : LtX) : Bool := decide (x.1 = k)
def ltGt (k : List UInt8) (x : LtX) : Bool := gtY x.1 k
def ouEq (k : Int) (x : OuX) : Bool := decide (x.1 = k)
def ouGt (k : Int) (x : OuX) : Bool := decide (k < x.1)
section
variable {P : Program} {l : Env} {F : PH} {H : List Asrt} {d : Option Nat} {T T' U : TypeId} {pos : String} {af : Array Edge} {g : Option (Nat × Bool)} {x y : Operand}
theorem ev_ieq {m n : Int} (hx : opv l x = some (.int .i64 m)) (hy : opv l y = some (.int .i64 n)) : Ev P ⟨d, .binOp .eql T x y T', U, pos, af, g⟩ l F H (.bool (decide (m = n))) := eg hx hy rfl
theorem ev_igt {m n : Int} (hx : opv l x = some (.int .i64 m)) (hy : opv l y = some (.int .i64 n)) : Ev P ⟨d, .binOp .gtr T x y T', U, pos, af, g⟩ l F H (.bool (decide (n < m))) := eg hx hy rfl
end

/-! ### Letter -/
theorem lt_len (x : LtX) : (ltC x).length = 6 := rfl
theorem lt_ones (x : LtX) : Ones (ltC x) := by unfold ltC; (repeat (first | exact ones_nil | refine ones_cons rfl ?_))
theorem lt_rones (L : List LtX) : Ones (rowC ltC L) := fun u hu => by
  obtain ⟨c, hc, hu⟩ := List.mem_flatten.1 hu
  obtain ⟨x, _, rfl⟩ := List.mem_map.1 hc
  exact lt_ones x u hu
theorem lt_el : Elem Try.prog 24 37 6 72 (.agg zLt.toArray) := ⟨rfl, ⟨_, rfl, rfl, rfl, rfl, rfl, by decide⟩, rfl, rfl⟩
def ltO (v : Value) (L : List LtX) : Asrt := own v 37 6 L.length (rowC ltC L)
def ltRow (F : PH) (v : Value) (L : List LtX) : Prop := SliceV F 6 v L.length (rowC ltC L)
theorem ltRow.mono {F G : PH} {v : Value} {L : List LtX} (h : ltRow F v L) (hl : F.le G) : ltRow G v L := SliceV.mono h hl
theorem ltRow.nil (F : PH) : ltRow F (.slice none 0 0) [] := SliceV.nil F 6
theorem ltRow.of {F hh : PH} {v : Value} {L : List LtX} (ho : ltO v L hh) (hd : F.dj hh) : ltRow (F.un hh) v L := own_slice ho hd
theorem ltRow.form {F : PH} {v : Value} {L : List LtX} (h : ltRow F v L) : ∃ a c, v = .slice a L.length c ∧ L.length ≤ c := by
  obtain ⟨_, a, c, e, hc, _⟩ := h
  exact ⟨a, c, e, hc⟩
theorem ltRow.at {F : PH} {a : Option Addr} {n c i : Nat} {L : List LtX} {x : LtX} (h : ltRow F (.slice a n c) L) (hi : L[i]? = some x) : ∃ b off, a = some ⟨b, off, none⟩ ∧ Cells F b (off + i * 6) (ltC x) := by
  obtain ⟨hl, a', c', e, hc, h2⟩ := id h
  injection e with e1 e2 e3
  subst e2
  have hlt := (List.getElem?_eq_some_iff.1 hi).1
  exact SliceV.row (css := L.map ltC) (i := i) (r := ltC x) h (fun c hc => by obtain ⟨q, _, rfl⟩ := List.mem_map.1 hc; exact lt_len q) (by rw [List.getElem?_map, hi]; rfl) hlt
set_option maxHeartbeats 1000000 in
theorem lt_clone_spec (v : Value) (L : List LtX) (F : PH) (h : ltRow F v L) (hn : L.length ≤ 1000) : Spec Try.prog 71 [v] F [] fun u F' H' => F = F' ∧ H' = [ltO u L] := by
  refine Spec.of1 Try.func71 rfl rfl fun X w0 => ?_
  obtain ⟨hl, a, c, rfl, hc, h2⟩ := id h
  refine J_own_nil 37 6 ?_
  repeat (first|refine zJ rfl rfl ?_|refine jr rfl ?_|refine jn ?_|refine zM rfl rfl ?_|(refine zC rfl rfl ?_ rfl ?_;omega)|(refine zD rfl rfl ?_ rfl ?_;omega)|(refine zP rfl ?_ rfl ?_;omega)|refine zG rfl rfl rfl rfl ?_|(refine jdq rfl rfl ?_ ?_ ?_;kernel_rfl;kernel_rfl)|refine zB rfl rfl rfl (by repeat constructor) rfl ?_|refine zH .here rfl rfl rfl rfl ?_|refine zH (.there .here) rfl rfl rfl rfl ?_|refine zH (.there (.there .here)) rfl rfl rfl rfl ?_)
  refine oS (ev_slice_eql_nil rfl rfl rfl) rfl ?_
  cases a with
  | none =>
    have h0 : L.length = 0 := by
      by_cases hz : 0 < L.length
      · obtain ⟨_, _, h3, _⟩ := h2 hz; cases h3
      · omega
    obtain rfl : L = [] := List.eq_nil_of_length_eq_zero h0
    repeat (first|refine zJ rfl rfl ?_|refine jr rfl ?_|refine jn ?_|refine zM rfl rfl ?_|(refine zC rfl rfl ?_ rfl ?_;omega)|(refine zD rfl rfl ?_ rfl ?_;omega)|(refine zP rfl ?_ rfl ?_;omega)|refine zG rfl rfl rfl rfl ?_|(refine jdq rfl rfl ?_ ?_ ?_;kernel_rfl;kernel_rfl)|refine zB rfl rfl rfl (by repeat constructor) rfl ?_|refine zH .here rfl rfl rfl rfl ?_|refine zH (.there .here) rfl rfl rfl rfl ?_|refine zH (.there (.there .here)) rfl rfl rfl rfl ?_)
    exact J_retv rfl (.tmp rfl .nil) [_] (fun w s => s) (PH.ler _) ⟨rfl, rfl⟩
  | some ad =>
    repeat (first|refine zJ rfl rfl ?_|refine jr rfl ?_|refine jn ?_|refine zM rfl rfl ?_|(refine zC rfl rfl ?_ rfl ?_;omega)|(refine zD rfl rfl ?_ rfl ?_;omega)|(refine zP rfl ?_ rfl ?_;omega)|refine zG rfl rfl rfl rfl ?_|(refine jdq rfl rfl ?_ ?_ ?_;kernel_rfl;kernel_rfl)|refine zB rfl rfl rfl (by repeat constructor) rfl ?_|refine zH .here rfl rfl rfl rfl ?_|refine zH (.there .here) rfl rfl rfl rfl ?_|refine zH (.there (.there .here)) rfl rfl rfl rfl ?_)
    refine oE (ev_mt lt_el) rfl ?_
    rintro u _ _ _ ⟨rfl, ⟨b, rfl⟩, rfl⟩
    repeat (first|refine zJ rfl rfl ?_|refine jr rfl ?_|refine jn ?_|refine zM rfl rfl ?_|(refine zC rfl rfl ?_ rfl ?_;omega)|(refine zD rfl rfl ?_ rfl ?_;omega)|(refine zP rfl ?_ rfl ?_;omega)|refine zG rfl rfl rfl rfl ?_|(refine jdq rfl rfl ?_ ?_ ?_;kernel_rfl;kernel_rfl)|refine zB rfl rfl rfl (by repeat constructor) rfl ?_|refine zH .here rfl rfl rfl rfl ?_|refine zH (.there .here) rfl rfl rfl rfl ?_|refine zH (.there (.there .here)) rfl rfl rfl rfl ?_)
    refine oE (ev_append_s (n := 0) (m := L.length) (xs := []) (news := rowC ltC L) (K := fun v' => own v' 37 6 L.length (rowC ltC L) :: own (.slice none 0 0) 37 6 0 [] :: X) rfl rfl lt_el h.rds (lt_rones L) (by omega) (fun v' => by rw [Nat.zero_add, List.nil_append]; exact .here)) rfl ?_
    rintro u _ _ _ ⟨rfl, hu, rfl⟩
    repeat (first|refine zJ rfl rfl ?_|refine jr rfl ?_|refine jn ?_|refine zM rfl rfl ?_|(refine zC rfl rfl ?_ rfl ?_;omega)|(refine zD rfl rfl ?_ rfl ?_;omega)|(refine zP rfl ?_ rfl ?_;omega)|refine zG rfl rfl rfl rfl ?_|(refine jdq rfl rfl ?_ ?_ ?_;kernel_rfl;kernel_rfl)|refine zB rfl rfl rfl (by repeat constructor) rfl ?_|refine zH .here rfl rfl rfl rfl ?_|refine zH (.there .here) rfl rfl rfl rfl ?_|refine zH (.there (.there .here)) rfl rfl rfl rfl ?_)
    exact J_retv rfl (.tmp rfl .nil) [_] (fun w s => (s.pm 2 [1, 0] rfl rfl).drop) (PH.ler _) ⟨rfl, rfl⟩
set_option maxHeartbeats 4000000 in
theorem lt_idx_spec (f : FuncId) (caps : List Value) (h : LtX → Bool) (a : Option Addr) (c : Nat) (L : List LtX) (F : PH) (Hc : List Asrt) (hn : L.length ≤ 1000) (hrd : ∀ X j y, L[j]? = some y → ∃ b off, a = some ⟨b, off, none⟩ ∧ Rdb F (Hc ++ X) b (off + j * 6) (ltC y)) (hcall : ∀ args w, (callFunc f args).run Try.prog w = .ok (.enter f args) w)
    (hs : ∀ y ∈ L, Pure Try.prog f (.agg (ltC y).toArray :: caps) F (.bool (h y))) : Spec Try.prog 75 [.slice a L.length c, fnV f caps] F Hc fun u F' H' => F = F' ∧ u = .int .i64 (idxP h L 0) ∧ H' = Hc := by
  refine Spec.of2 Try.func75 rfl rfl fun X w0 => ?_
  have hrd := hrd X
  generalize hY : Hc ++ X = Y at *
  repeat (first|refine zJ rfl rfl ?_|refine jr rfl ?_|refine jn ?_|refine zM rfl rfl ?_|(refine zC rfl rfl ?_ rfl ?_;omega)|(refine zD rfl rfl ?_ rfl ?_;omega)|(refine zP rfl ?_ rfl ?_;omega)|refine zG rfl rfl rfl rfl ?_|(refine jdq rfl rfl ?_ ?_ ?_;kernel_rfl;kernel_rfl)|refine zB rfl rfl rfl (by repeat constructor) rfl ?_|refine zH .here rfl rfl rfl rfl ?_|refine zH (.there .here) rfl rfl rfl rfl ?_|refine zH (.there (.there .here)) rfl rfl rfl rfl ?_)
  refine J_loop (ι := Nat) (fun j => j ≤ L.length ∧ idxP h L 0 = idxP h (L.drop j) j) (fun j => L.length - j) (fun j => [(0, .slice a L.length c), (1, fnV f caps), (7, .int .i64 L.length), (8, .int .i64 j)]) (fun _ => F) (fun _ => Y) 0 ⟨Nat.zero_le _, rfl⟩
    ⟨⟨rfl, rfl, rfl, rfl, trivial⟩, fun _ h => h⟩ ?_
  rintro j ⟨hj, heq⟩
  by_cases hlt : j < L.length
  · have g1 : L[j]? = some L[j] := List.getElem?_eq_getElem hlt
    obtain ⟨b, off, rfl, hr⟩ := hrd j _ g1
    have hcl := hs _ (List.getElem_mem hlt)
    rw [drop_cons g1, idxP_cons] at heq
    generalize L[j] = y at *
    repeat (first|refine zJ rfl rfl ?_|refine jr rfl ?_|refine jn ?_|refine zM rfl rfl ?_|(refine zC rfl rfl ?_ rfl ?_;omega)|(refine zD rfl rfl ?_ rfl ?_;omega)|(refine zP rfl ?_ rfl ?_;omega)|refine zG rfl rfl rfl rfl ?_|(refine jdq rfl rfl ?_ ?_ ?_;kernel_rfl;kernel_rfl)|refine zB rfl rfl rfl (by repeat constructor) rfl ?_|refine zH .here rfl rfl rfl rfl ?_|refine zH (.there .here) rfl rfl rfl rfl ?_|refine zH (.there (.there .here)) rfl rfl rfl rfl ?_)
    refine oS (ev_indexAddr rfl rfl rfl hlt) rfl ?_
    refine oS (ev_load_agg (cs := ltC y) rfl rfl hr (lt_len y)) rfl ?_
    refine oPF rfl hcl hcall rfl rfl ?_
    cases hy : h y with
    | true =>
      rw [if_pos hy] at heq
      repeat (first|refine zJ rfl rfl ?_|refine jr rfl ?_|refine jn ?_|refine zM rfl rfl ?_|(refine zC rfl rfl ?_ rfl ?_;omega)|(refine zD rfl rfl ?_ rfl ?_;omega)|(refine zP rfl ?_ rfl ?_;omega)|refine zG rfl rfl rfl rfl ?_|(refine jdq rfl rfl ?_ ?_ ?_;kernel_rfl;kernel_rfl)|refine zB rfl rfl rfl (by repeat constructor) rfl ?_|refine zH .here rfl rfl rfl rfl ?_|refine zH (.there .here) rfl rfl rfl rfl ?_|refine zH (.there (.there .here)) rfl rfl rfl rfl ?_)
      rw [heq]
      exact J_retv rfl (.tmp rfl .nil) Hc (fun w s => by rw [hY]; exact s) (PH.ler _) ⟨rfl, rfl, rfl⟩
    | false =>
      rw [if_neg (by rw [hy]; decide)] at heq
      repeat (first|refine zJ rfl rfl ?_|refine jr rfl ?_|refine jn ?_|refine zM rfl rfl ?_|(refine zC rfl rfl ?_ rfl ?_;omega)|(refine zD rfl rfl ?_ rfl ?_;omega)|(refine zP rfl ?_ rfl ?_;omega)|refine zG rfl rfl rfl rfl ?_|(refine jdq rfl rfl ?_ ?_ ?_;kernel_rfl;kernel_rfl)|refine zB rfl rfl rfl (by repeat constructor) rfl ?_|refine zH .here rfl rfl rfl rfl ?_|refine zH (.there .here) rfl rfl rfl rfl ?_|refine zH (.there (.there .here)) rfl rfl rfl rfl ?_)
      exact J_again (j + 1) ⟨hlt, by rw [heq]; rfl⟩ (by omega) ⟨⟨rfl, rfl, rfl, rfl, trivial⟩, fun w s => s⟩
  · obtain rfl : j = L.length := by omega
    rw [List.drop_length, idxP_nil] at heq
    rw [heq]
    repeat (first|refine zJ rfl rfl ?_|refine jr rfl ?_|refine jn ?_|refine zM rfl rfl ?_|(refine zC rfl rfl ?_ rfl ?_;omega)|(refine zD rfl rfl ?_ rfl ?_;omega)|(refine zP rfl ?_ rfl ?_;omega)|refine zG rfl rfl rfl rfl ?_|(refine jdq rfl rfl ?_ ?_ ?_;kernel_rfl;kernel_rfl)|refine zB rfl rfl rfl (by repeat constructor) rfl ?_|refine zH .here rfl rfl rfl rfl ?_|refine zH (.there .here) rfl rfl rfl rfl ?_|refine zH (.there (.there .here)) rfl rfl rfl rfl ?_)
    exact J_retv rfl (.tmp rfl .nil) Hc (fun w s => by rw [hY]; exact s) (PH.ler _) ⟨rfl, rfl, rfl⟩
theorem lt_key_spec (y : LtX) (F : PH) : Pure Try.prog 41 [.agg (ltC y).toArray] F (ltK y.1) := by
  refine Spec.of1 Try.func41 rfl rfl fun X w0 => ?_
  refine jc rfl rfl ?_
  refine jr rfl ?_
  refine oE (ev_box rfl .agg) rfl ?_; rintro _ _ _ _ ⟨rfl, b1, rfl, rfl⟩
  repeat (first|refine zJ rfl rfl ?_|refine jr rfl ?_|refine jn ?_|refine zM rfl rfl ?_|(refine zC rfl rfl ?_ rfl ?_;omega)|(refine zD rfl rfl ?_ rfl ?_;omega)|(refine zP rfl ?_ rfl ?_;omega)|refine zG rfl rfl rfl rfl ?_|(refine jdq rfl rfl ?_ ?_ ?_;kernel_rfl;kernel_rfl)|refine zB rfl rfl rfl (by repeat constructor) rfl ?_|refine zH .here rfl rfl rfl rfl ?_|refine zH (.there .here) rfl rfl rfl rfl ?_|refine zH (.there (.there .here)) rfl rfl rfl rfl ?_)
  exact J_retv (vs := [ltK y.1]) rfl (.tmp rfl .nil) [] (fun w s => s.drop) (PH.ler _) ⟨rfl, rfl⟩
theorem lt_at1_spec (y : LtX) (k : (List UInt8)) (b5 b4 : Nat) (F : PH) (h5 : Cells F b5 0 [fnV 41 []]) (h4 : Cells F b4 0 [ltK k]) : Pure Try.prog 76 [.agg (ltC y).toArray, .pointer (some ⟨b5, 0, none⟩), .pointer (some ⟨b4, 0, none⟩)] F (.bool (ltEq k y)) := by
  refine Spec.of3 Try.func76 rfl rfl fun X w0 => ?_
  refine jc rfl rfl ?_
  refine jr rfl ?_
  refine oE (ev_box rfl .agg) rfl ?_; rintro _ _ _ _ ⟨rfl, b3, rfl, rfl⟩
  repeat (first|refine zJ rfl rfl ?_|refine jr rfl ?_|refine jn ?_|refine zM rfl rfl ?_|(refine zC rfl rfl ?_ rfl ?_;omega)|(refine zD rfl rfl ?_ rfl ?_;omega)|(refine zP rfl ?_ rfl ?_;omega)|refine zG rfl rfl rfl rfl ?_|(refine jdq rfl rfl ?_ ?_ ?_;kernel_rfl;kernel_rfl)|refine zB rfl rfl rfl (by repeat constructor) rfl ?_|refine zH .here rfl rfl rfl rfl ?_|refine zH (.there .here) rfl rfl rfl rfl ?_|refine zH (.there (.there .here)) rfl rfl rfl rfl ?_)
  refine jd rfl ?_ ?_ ?_; kernel_rfl; kernel_rfl
  repeat (first|refine zJ rfl rfl ?_|refine jr rfl ?_|refine jn ?_|refine zM rfl rfl ?_|(refine zC rfl rfl ?_ rfl ?_;omega)|(refine zD rfl rfl ?_ rfl ?_;omega)|(refine zP rfl ?_ rfl ?_;omega)|refine zG rfl rfl rfl rfl ?_|(refine jdq rfl rfl ?_ ?_ ?_;kernel_rfl;kernel_rfl)|refine zB rfl rfl rfl (by repeat constructor) rfl ?_|refine zH .here rfl rfl rfl rfl ?_|refine zH (.there .here) rfl rfl rfl rfl ?_|refine zH (.there (.there .here)) rfl rfl rfl rfl ?_)
  refine oS (ev_load (v := fnV 41 []) rfl rfl (Rdb.ofF h5)) rfl ?_
  refine oS (ev_load_agg (cs := ltC y) rfl rfl (Rdb.ofB (n := 0) .here rfl) (lt_len y)) rfl ?_
  refine oPF (caps := []) (vs := [.agg (ltC y).toArray]) rfl (lt_key_spec y F) Try.call41 rfl rfl ?_
  refine oS (ev_load (v := ltK k) rfl rfl (Rdb.ofF h4)) rfl ?_
  refine oS (ev_seql rfl rfl rfl) rfl ?_
  repeat (first|refine zJ rfl rfl ?_|refine jr rfl ?_|refine jn ?_|refine zM rfl rfl ?_|(refine zC rfl rfl ?_ rfl ?_;omega)|(refine zD rfl rfl ?_ rfl ?_;omega)|(refine zP rfl ?_ rfl ?_;omega)|refine zG rfl rfl rfl rfl ?_|(refine jdq rfl rfl ?_ ?_ ?_;kernel_rfl;kernel_rfl)|refine zB rfl rfl rfl (by repeat constructor) rfl ?_|refine zH .here rfl rfl rfl rfl ?_|refine zH (.there .here) rfl rfl rfl rfl ?_|refine zH (.there (.there .here)) rfl rfl rfl rfl ?_)
  exact J_retv (vs := [.bool (ltEq k y)]) rfl (.tmp rfl .nil) [] (fun w s => s.drop) (PH.ler _) ⟨rfl, rfl⟩
theorem lt_at2_spec (y : LtX) (k : (List UInt8)) (b5 b4 : Nat) (F : PH) (h5 : Cells F b5 0 [fnV 41 []]) (h4 : Cells F b4 0 [ltK k]) : Pure Try.prog 77 [.agg (ltC y).toArray, .pointer (some ⟨b5, 0, none⟩), .pointer (some ⟨b4, 0, none⟩)] F (.bool (ltGt k y)) := by
  refine Spec.of3 Try.func77 rfl rfl fun X w0 => ?_
  refine jc rfl rfl ?_
  refine jr rfl ?_
  refine oE (ev_box rfl .agg) rfl ?_; rintro _ _ _ _ ⟨rfl, b3, rfl, rfl⟩
  repeat (first|refine zJ rfl rfl ?_|refine jr rfl ?_|refine jn ?_|refine zM rfl rfl ?_|(refine zC rfl rfl ?_ rfl ?_;omega)|(refine zD rfl rfl ?_ rfl ?_;omega)|(refine zP rfl ?_ rfl ?_;omega)|refine zG rfl rfl rfl rfl ?_|(refine jdq rfl rfl ?_ ?_ ?_;kernel_rfl;kernel_rfl)|refine zB rfl rfl rfl (by repeat constructor) rfl ?_|refine zH .here rfl rfl rfl rfl ?_|refine zH (.there .here) rfl rfl rfl rfl ?_|refine zH (.there (.there .here)) rfl rfl rfl rfl ?_)
  refine jd rfl ?_ ?_ ?_; kernel_rfl; kernel_rfl
  repeat (first|refine zJ rfl rfl ?_|refine jr rfl ?_|refine jn ?_|refine zM rfl rfl ?_|(refine zC rfl rfl ?_ rfl ?_;omega)|(refine zD rfl rfl ?_ rfl ?_;omega)|(refine zP rfl ?_ rfl ?_;omega)|refine zG rfl rfl rfl rfl ?_|(refine jdq rfl rfl ?_ ?_ ?_;kernel_rfl;kernel_rfl)|refine zB rfl rfl rfl (by repeat constructor) rfl ?_|refine zH .here rfl rfl rfl rfl ?_|refine zH (.there .here) rfl rfl rfl rfl ?_|refine zH (.there (.there .here)) rfl rfl rfl rfl ?_)
  refine oS (ev_load (v := fnV 41 []) rfl rfl (Rdb.ofF h5)) rfl ?_
  refine oS (ev_load_agg (cs := ltC y) rfl rfl (Rdb.ofB (n := 0) .here rfl) (lt_len y)) rfl ?_
  refine oPF (caps := []) (vs := [.agg (ltC y).toArray]) rfl (lt_key_spec y F) Try.call41 rfl rfl ?_
  refine oS (ev_load (v := ltK k) rfl rfl (Rdb.ofF h4)) rfl ?_
  refine oS (ev_sgtr rfl rfl) rfl ?_
  repeat (first|refine zJ rfl rfl ?_|refine jr rfl ?_|refine jn ?_|refine zM rfl rfl ?_|(refine zC rfl rfl ?_ rfl ?_;omega)|(refine zD rfl rfl ?_ rfl ?_;omega)|(refine zP rfl ?_ rfl ?_;omega)|refine zG rfl rfl rfl rfl ?_|(refine jdq rfl rfl ?_ ?_ ?_;kernel_rfl;kernel_rfl)|refine zB rfl rfl rfl (by repeat constructor) rfl ?_|refine zH .here rfl rfl rfl rfl ?_|refine zH (.there .here) rfl rfl rfl rfl ?_|refine zH (.there (.there .here)) rfl rfl rfl rfl ?_)
  exact J_retv (vs := [.bool (ltGt k y)]) rfl (.tmp rfl .nil) [] (fun w s => s.drop) (PH.ler _) ⟨rfl, rfl⟩
set_option maxHeartbeats 4000000 in
theorem lt_place_spec (k : (List UInt8)) (a : Option Addr) (c : Nat) (L : List LtX) (F : PH) (Hc : List Asrt) (hn : L.length ≤ 1000) (hrd : ∀ G, F.le G → ∀ X j y, L[j]? = some y → ∃ b off, a = some ⟨b, off, none⟩ ∧ Rdb G (Hc ++ X) b (off + j * 6) (ltC y)) :
    Spec Try.prog 44 [.slice a L.length c, ltK k, fnV 41 []] F Hc fun u _ H' => u = .tuple #[.int .i64 (placeP (ltEq k) (ltGt k) L).1, .bool (placeP (ltEq k) (ltGt k) L).2] ∧ H' = Hc := by
  refine Spec.of3 Try.func44 rfl rfl fun X w0 => ?_
  refine jc rfl rfl ?_
  refine jr rfl ?_
  refine oE (ev_box (cs := [ltK k]) rfl (by constructor)) rfl ?_
  rintro _ _ _ _ ⟨rfl, b4, rfl, rfl⟩
  refine oPersist fun hh hA hd => ?_
  have h4 := blk_cells hA hd
  have hF1 := PH.le_l F hh
  generalize F.un hh = F1 at *
  refine oE (ev_box (cs := [fnV 41 []]) rfl .func) rfl ?_
  rintro _ _ _ _ ⟨rfl, b5, rfl, rfl⟩
  refine oPersist fun hh hA hd => ?_
  have h5 := blk_cells hA hd
  have hF2 := PH.le_l F1 hh
  replace h4 := h4.mono hF2
  generalize F1.un hh = F2 at *
  unfold placeP
  repeat (first|refine zJ rfl rfl ?_|refine jr rfl ?_|refine jn ?_|refine zM rfl rfl ?_|(refine zC rfl rfl ?_ rfl ?_;omega)|(refine zD rfl rfl ?_ rfl ?_;omega)|(refine zP rfl ?_ rfl ?_;omega)|refine zG rfl rfl rfl rfl ?_|(refine jdq rfl rfl ?_ ?_ ?_;kernel_rfl;kernel_rfl)|refine zB rfl rfl rfl (by repeat constructor) rfl ?_|refine zH .here rfl rfl rfl rfl ?_|refine zH (.there .here) rfl rfl rfl rfl ?_|refine zH (.there (.there .here)) rfl rfl rfl rfl ?_)
  refine oS (ev_makeFunc (vs := [.pointer (some ⟨b5, 0, none⟩), .pointer (some ⟨b4, 0, none⟩)]) rfl) rfl ?_
  refine oC (Hc := Hc) (Hr := X) (lt_idx_spec 76 [.pointer (some ⟨b5, 0, none⟩), .pointer (some ⟨b4, 0, none⟩)] (ltEq k) a c L F2 Hc hn (hrd F2 (hF1.trans hF2)) Try.call76 (fun y _ => lt_at1_spec y k b5 b4 F2 h5 h4)) Try.call75 rfl rfl (fun _ s => s) ?_
  rintro _ _ H1 _ ⟨rfl, rfl, eH⟩
  rw [eH]
  generalize idxP (ltEq k) L 0 = i1 at *
  by_cases h1 : 0 ≤ i1
  · rw [if_pos h1]
    repeat (first|refine zJ rfl rfl ?_|refine jr rfl ?_|refine jn ?_|refine zM rfl rfl ?_|(refine zC rfl rfl ?_ rfl ?_;omega)|(refine zD rfl rfl ?_ rfl ?_;omega)|(refine zP rfl ?_ rfl ?_;omega)|refine zG rfl rfl rfl rfl ?_|(refine jdq rfl rfl ?_ ?_ ?_;kernel_rfl;kernel_rfl)|refine zB rfl rfl rfl (by repeat constructor) rfl ?_|refine zH .here rfl rfl rfl rfl ?_|refine zH (.there .here) rfl rfl rfl rfl ?_|refine zH (.there (.there .here)) rfl rfl rfl rfl ?_)
    exact J_retv (vs := [.int .i64 i1, .bool true]) rfl (.tmp rfl (.tmp rfl .nil)) Hc (fun w s => s) (hF1.trans hF2) ⟨rfl, rfl⟩
  rw [if_neg h1]
  repeat (first|refine zJ rfl rfl ?_|refine jr rfl ?_|refine jn ?_|refine zM rfl rfl ?_|(refine zC rfl rfl ?_ rfl ?_;omega)|(refine zD rfl rfl ?_ rfl ?_;omega)|(refine zP rfl ?_ rfl ?_;omega)|refine zG rfl rfl rfl rfl ?_|(refine jdq rfl rfl ?_ ?_ ?_;kernel_rfl;kernel_rfl)|refine zB rfl rfl rfl (by repeat constructor) rfl ?_|refine zH .here rfl rfl rfl rfl ?_|refine zH (.there .here) rfl rfl rfl rfl ?_|refine zH (.there (.there .here)) rfl rfl rfl rfl ?_)
  refine oS (ev_makeFunc (vs := [.pointer (some ⟨b5, 0, none⟩), .pointer (some ⟨b4, 0, none⟩)]) rfl) rfl ?_
  refine oC (Hc := Hc) (Hr := X) (lt_idx_spec 77 [.pointer (some ⟨b5, 0, none⟩), .pointer (some ⟨b4, 0, none⟩)] (ltGt k) a c L F2 Hc hn (hrd F2 (hF1.trans hF2)) Try.call77 (fun y _ => lt_at2_spec y k b5 b4 F2 h5 h4)) Try.call75 rfl rfl (fun _ s => s) ?_
  rintro _ _ H1 _ ⟨rfl, rfl, eH⟩
  rw [eH]
  generalize idxP (ltGt k) L 0 = i2 at *
  by_cases h2 : 0 ≤ i2
  · rw [if_pos h2]
    repeat (first|refine zJ rfl rfl ?_|refine jr rfl ?_|refine jn ?_|refine zM rfl rfl ?_|(refine zC rfl rfl ?_ rfl ?_;omega)|(refine zD rfl rfl ?_ rfl ?_;omega)|(refine zP rfl ?_ rfl ?_;omega)|refine zG rfl rfl rfl rfl ?_|(refine jdq rfl rfl ?_ ?_ ?_;kernel_rfl;kernel_rfl)|refine zB rfl rfl rfl (by repeat constructor) rfl ?_|refine zH .here rfl rfl rfl rfl ?_|refine zH (.there .here) rfl rfl rfl rfl ?_|refine zH (.there (.there .here)) rfl rfl rfl rfl ?_)
    exact J_retv (vs := [.int .i64 i2, .bool false]) rfl (.tmp rfl (.tmp rfl .nil)) Hc (fun w s => s) (hF1.trans hF2) ⟨rfl, rfl⟩
  · rw [if_neg h2]
    repeat (first|refine zJ rfl rfl ?_|refine jr rfl ?_|refine jn ?_|refine zM rfl rfl ?_|(refine zC rfl rfl ?_ rfl ?_;omega)|(refine zD rfl rfl ?_ rfl ?_;omega)|(refine zP rfl ?_ rfl ?_;omega)|refine zG rfl rfl rfl rfl ?_|(refine jdq rfl rfl ?_ ?_ ?_;kernel_rfl;kernel_rfl)|refine zB rfl rfl rfl (by repeat constructor) rfl ?_|refine zH .here rfl rfl rfl rfl ?_|refine zH (.there .here) rfl rfl rfl rfl ?_|refine zH (.there (.there .here)) rfl rfl rfl rfl ?_)
    exact J_retv (vs := [.int .i64 L.length, .bool false]) rfl (.tmp rfl (.tmp rfl .nil)) Hc (fun w s => s) (hF1.trans hF2) ⟨rfl, rfl⟩
set_option maxHeartbeats 8000000 in 
  theorem ltIns_raw (v : Value) (n i bv : Nat) (xs vc : List Value) (F : PH) (hi : i ≤ n) (hn : n ≤ 1000) (h1 : Ones xs) (h1v : Ones vc) (hvl : vc.length = 6) : 
      Spec Try.prog 73 [v, .int .i64 i, .slice (some ⟨bv, 0, none⟩) 1 1] F [own v 37 6 n xs, blk bv 37 vc] fun u _ H' => H' = [own u 37 6 (n + 1) (xs.take (i * 6) ++ vc ++ xs.drop (i * 6))] := by 
    refine Spec.of3 Try.func73 rfl rfl fun X w0 => ?_ 
    dsimp only [List.cons_append, List.nil_append] 
    refine jOwnA .here fun a c hv hnc hcm hxl ha => ?_ 
    subst hv 
    have hrv : ∀ (F : PH) (A : Asrt) (H : List Asrt), RdS F (A :: blk bv 37 vc :: H) 6 (.slice (some ⟨bv, 0, none⟩) 1 1) 1 vc := fun F A H => RdS.blk (.there .here) (by rw [hvl]) (by rw [List.drop_zero, List.take_length]) (Nat.le_refl _) 
    have hvt : vc.take (1 * 6) = vc := by rw [Nat.one_mul, ← hvl, List.take_length] 
    (repeat (first|refine zJ rfl rfl ?_|refine jr rfl ?_|refine jn ?_|refine zM rfl rfl ?_|(refine zC rfl rfl ?_ rfl ?_;omega)|(refine zD rfl rfl ?_ rfl ?_;omega)|(refine zP rfl ?_ rfl ?_;omega)|refine zG rfl rfl rfl rfl ?_|(refine jdq rfl rfl ?_ ?_ ?_;kernel_rfl;kernel_rfl)|refine zB rfl rfl rfl (by repeat constructor) rfl ?_|refine zH .here rfl rfl rfl rfl ?_|refine zH (.there .here) rfl rfl rfl rfl ?_|refine zH (.there (.there .here)) rfl rfl rfl rfl ?_)) 
    refine oS (ev_slice_lo rfl rfl rfl hi) rfl ?_ 
    (repeat (first|refine zJ rfl rfl ?_|refine jr rfl ?_|refine jn ?_|refine zM rfl rfl ?_|(refine zC rfl rfl ?_ rfl ?_;omega)|(refine zD rfl rfl ?_ rfl ?_;omega)|(refine zP rfl ?_ rfl ?_;omega)|refine zG rfl rfl rfl rfl ?_|(refine jdq rfl rfl ?_ ?_ ?_;kernel_rfl;kernel_rfl)|refine zB rfl rfl rfl (by repeat constructor) rfl ?_|refine zH .here rfl rfl rfl rfl ?_|refine zH (.there .here) rfl rfl rfl rfl ?_|refine zH (.there (.there .here)) rfl rfl rfl rfl ?_)) 
    by_cases hin : i = n 
    · subst hin 
      (repeat (first|refine zJ rfl rfl ?_|refine jr rfl ?_|refine jn ?_|refine zM rfl rfl ?_|(refine zC rfl rfl ?_ rfl ?_;omega)|(refine zD rfl rfl ?_ rfl ?_;omega)|(refine zP rfl ?_ rfl ?_;omega)|refine zG rfl rfl rfl rfl ?_|(refine jdq rfl rfl ?_ ?_ ?_;kernel_rfl;kernel_rfl)|refine zB rfl rfl rfl (by repeat constructor) rfl ?_|refine zH .here rfl rfl rfl rfl ?_|refine zH (.there .here) rfl rfl rfl rfl ?_|refine zH (.there (.there .here)) rfl rfl rfl rfl ?_)) 
      rw [decide_eq_true (show (i : Int) = (i : Int) from rfl)] 
      (repeat (first|refine zJ rfl rfl ?_|refine jr rfl ?_|refine jn ?_|refine zM rfl rfl ?_|(refine zC rfl rfl ?_ rfl ?_;omega)|(refine zD rfl rfl ?_ rfl ?_;omega)|(refine zP rfl ?_ rfl ?_;omega)|refine zG rfl rfl rfl rfl ?_|(refine jdq rfl rfl ?_ ?_ ?_;kernel_rfl;kernel_rfl)|refine zB rfl rfl rfl (by repeat constructor) rfl ?_|refine zH .here rfl rfl rfl rfl ?_|refine zH (.there .here) rfl rfl rfl rfl ?_|refine zH (.there (.there .here)) rfl rfl rfl rfl ?_)) 
      refine oE (ev_append_s (n := i) (m := 1) (bytes := 72) (xs := xs) (news := vc) (K := fun v' => own v' 37 6 (i + 1) (xs ++ vc) :: blk bv 37 vc :: X) rfl rfl lt_el (hrv _ _ _) h1v (by omega) (fun v' => .here)) rfl ?_ 
      rintro u _ _ _ ⟨rfl, _, rfl⟩ 
      (repeat (first|refine zJ rfl rfl ?_|refine jr rfl ?_|refine jn ?_|refine zM rfl rfl ?_|(refine zC rfl rfl ?_ rfl ?_;omega)|(refine zD rfl rfl ?_ rfl ?_;omega)|(refine zP rfl ?_ rfl ?_;omega)|refine zG rfl rfl rfl rfl ?_|(refine jdq rfl rfl ?_ ?_ ?_;kernel_rfl;kernel_rfl)|refine zB rfl rfl rfl (by repeat constructor) rfl ?_|refine zH .here rfl rfl rfl rfl ?_|refine zH (.there .here) rfl rfl rfl rfl ?_|refine zH (.there (.there .here)) rfl rfl rfl rfl ?_)) 
      exact J_retv rfl (.tmp rfl .nil) [_] (fun w s => Sat.drop2 s) (PH.ler _) (by rw [List.take_of_length_le (by omega), List.drop_eq_nil_of_le (by omega), List.append_nil]; rfl) 
    have hne : ¬ ((i : Int) = (n : Int)) := by omega 
    obtain ⟨g, rfl⟩ := ha (by omega) 
    by_cases hroom : n + 1 ≤ c 
    · (repeat (first|refine zJ rfl rfl ?_|refine jr rfl ?_|refine jn ?_|refine zM rfl rfl ?_|(refine zC rfl rfl ?_ rfl ?_;omega)|(refine zD rfl rfl ?_ rfl ?_;omega)|(refine zP rfl ?_ rfl ?_;omega)|refine zG rfl rfl rfl rfl ?_|(refine jdq rfl rfl ?_ ?_ ?_;kernel_rfl;kernel_rfl)|refine zB rfl rfl rfl (by repeat constructor) rfl ?_|refine zH .here rfl rfl rfl rfl ?_|refine zH (.there .here) rfl rfl rfl rfl ?_|refine zH (.there (.there .here)) rfl rfl rfl rfl ?_)) 
      rw [decide_eq_false hne] 
      (repeat (first|refine zJ rfl rfl ?_|refine jr rfl ?_|refine jn ?_|refine zM rfl rfl ?_|(refine zC rfl rfl ?_ rfl ?_;omega)|(refine zD rfl rfl ?_ rfl ?_;omega)|(refine zP rfl ?_ rfl ?_;omega)|refine zG rfl rfl rfl rfl ?_|(refine jdq rfl rfl ?_ ?_ ?_;kernel_rfl;kernel_rfl)|refine zB rfl rfl rfl (by repeat constructor) rfl ?_|refine zH .here rfl rfl rfl rfl ?_|refine zH (.there .here) rfl rfl rfl rfl ?_|refine zH (.there (.there .here)) rfl rfl rfl rfl ?_)) 
      refine oS (ev_slice_hi (h := n + 1) rfl rfl rfl hroom) rfl ?_ 
      refine o_own_more (n' := n + 1) (by omega) hroom fun ys hyl => ?_ 
      rw [Nat.add_sub_cancel_left, Nat.one_mul] at hyl 
      have hcut : cutV (some ⟨g, 0, none⟩) 6 c (i + 1) (n + 1) c = .slice (some ⟨g, (i + 1) * 6, none⟩) (n + 1 - (i + 1)) (c - (i + 1)) := by 
        unfold cutV 
        rw [if_neg (by omega)] 
        simp [adr_add] 
      (repeat (first|refine zJ rfl rfl ?_|refine jr rfl ?_|refine jn ?_|refine zM rfl rfl ?_|(refine zC rfl rfl ?_ rfl ?_;omega)|(refine zD rfl rfl ?_ rfl ?_;omega)|(refine zP rfl ?_ rfl ?_;omega)|refine zG rfl rfl rfl rfl ?_|(refine jdq rfl rfl ?_ ?_ ?_;kernel_rfl;kernel_rfl)|refine zB rfl rfl rfl (by repeat constructor) rfl ?_|refine zH .here rfl rfl rfl rfl ?_|refine zH (.there .here) rfl rfl rfl rfl ?_|refine zH (.there (.there .here)) rfl rfl rfl rfl ?_)) 
      refine oS (ev_slice_lo (lo := i + 1) rfl rfl rfl (by omega)) rfl ?_ 
      refine oS (ev_overlaps rfl rfl (congrArg some hcut) Try.func83 (by kernel_rfl) rfl (by kernel_rfl) (by kernel_rfl) (tS := 24) (tR := 4) rfl (.there .here) .here (by omega)) rfl ?_ 
      (repeat (first|refine zJ rfl rfl ?_|refine jr rfl ?_|refine jn ?_|refine zM rfl rfl ?_|(refine zC rfl rfl ?_ rfl ?_;omega)|(refine zD rfl rfl ?_ rfl ?_;omega)|(refine zP rfl ?_ rfl ?_;omega)|refine zG rfl rfl rfl rfl ?_|(refine jdq rfl rfl ?_ ?_ ?_;kernel_rfl;kernel_rfl)|refine zB rfl rfl rfl (by repeat constructor) rfl ?_|refine zH .here rfl rfl rfl rfl ?_|refine zH (.there .here) rfl rfl rfl rfl ?_|refine zH (.there (.there .here)) rfl rfl rfl rfl ?_)) 
      refine ja PH.emp [] ?_ (fun w s => s.any) ?_; kernel_rfl 
      refine aL (fun o => o.dropLast) [8] [0, 1, 2, 3, 4, 5, 6, 7] 1 rfl ?_ ?_ ?_ ?_ ?_ ?_; kernel_rfl; kernel_rfl; kernel_rfl; kernel_rfl; kernel_rfl; dsimp only [List.dropLast] 
      (repeat (first|refine zJ rfl rfl ?_|refine jr rfl ?_|refine jn ?_|refine zM rfl rfl ?_|(refine zC rfl rfl ?_ rfl ?_;omega)|(refine zD rfl rfl ?_ rfl ?_;omega)|(refine zP rfl ?_ rfl ?_;omega)|refine zG rfl rfl rfl rfl ?_|(refine jdq rfl rfl ?_ ?_ ?_;kernel_rfl;kernel_rfl)|refine zB rfl rfl rfl (by repeat constructor) rfl ?_|refine zH .here rfl rfl rfl rfl ?_|refine zH (.there .here) rfl rfl rfl rfl ?_|refine zH (.there (.there .here)) rfl rfl rfl rfl ?_)) 
      refine oS (ev_slice_lo (lo := i + 1) rfl rfl rfl (by omega)) rfl ?_ 
      (repeat (first|refine zJ rfl rfl ?_|refine jr rfl ?_|refine jn ?_|refine zM rfl rfl ?_|(refine zC rfl rfl ?_ rfl ?_;omega)|(refine zD rfl rfl ?_ rfl ?_;omega)|(refine zP rfl ?_ rfl ?_;omega)|refine zG rfl rfl rfl rfl ?_|(refine jdq rfl rfl ?_ ?_ ?_;kernel_rfl;kernel_rfl)|refine zB rfl rfl rfl (by repeat constructor) rfl ?_|refine zH .here rfl rfl rfl rfl ?_|refine zH (.there .here) rfl rfl rfl rfl ?_|refine zH (.there (.there .here)) rfl rfl rfl rfl ?_)) 
      refine oS (ev_slice_lo (lo := i) rfl rfl rfl (by omega)) rfl ?_ 
      refine jn ?_ 
      refine aR ?_ 
      have hxy : (xs ++ ys).length = (n + 1) * 6 := by rw [List.length_append, hxl, hyl, Nat.add_mul] 
      have hD : (((xs ++ ys).drop (i * 6)).take ((n - i) * 6)) = xs.drop (i * 6) := by 
        rw [List.drop_append_of_le_length (by omega)] 
        have : (n - i) * 6 = (xs.drop (i * 6)).length := by rw [List.length_drop, hxl]; omega 
        rw [this, List.take_left] 
      have hsplit : xs ++ ys = xs.take (i * 6) ++ (((xs ++ ys).drop (i * 6)).take 6 ++ (xs ++ ys).drop ((i + 1) * 6)) := by 
        have e1 : xs.take (i * 6) = (xs ++ ys).take (i * 6) := by rw [List.take_append_of_le_length (by omega)] 
        have e2 : (xs ++ ys).drop ((i + 1) * 6) = ((xs ++ ys).drop (i * 6)).drop 6 := by rw [List.drop_drop]; congr 1; omega 
        rw [e1, e2, List.take_append_drop, List.take_append_drop] 
      have hB1 : (((xs ++ ys).drop (i * 6)).take 6).length = 6 := by rw [List.length_take, List.length_drop, hxy]; omega 
      have hA1 : (xs.take (i * 6)).length = i * 6 := by rw [List.length_take, hxl]; omega 
      have hD1 : (xs.drop (i * 6)).length = (n - i) * 6 := by rw [List.length_drop, hxl]; omega 
      have hB2 : ((xs ++ ys).drop ((i + 1) * 6)).length = (n - i) * 6 := by rw [List.length_drop, hxy]; omega 
      have hDo : Ones (xs.drop (i * 6)) := fun v hv => h1 v (List.mem_of_mem_drop hv) 
      generalize ((xs ++ ys).drop (i * 6)).take 6 = B1 at hsplit hB1 
      generalize (xs ++ ys).drop ((i + 1) * 6) = B2 at hsplit hB2 
      have hlay1 : Lay ((i + 1) * 6) (xs.drop (i * 6)) (xs ++ ys) (xs.take (i * 6) ++ (B1 ++ xs.drop (i * 6))) := by 
        rw [hsplit, ← List.append_assoc, ← List.append_assoc] 
        have := layP (xs.take (i * 6) ++ B1) (lay_all (vs := xs.drop (i * 6)) (zs := B2) (by omega)) 
        rw [List.length_append, hA1, hB1] at this 
        rwa [show (i + 1) * 6 = i * 6 + 6 + 0 from by omega] 
      have hlay2 : Lay (i * 6) vc (xs.take (i * 6) ++ (B1 ++ xs.drop (i * 6))) (xs.take (i * 6) ++ (vc ++ xs.drop (i * 6))) := by 
        have := layP (xs.take (i * 6)) (layM (vs := vc) (zs := B1) (xs.drop (i * 6)) (by omega)) 
        rwa [hA1, Nat.add_zero] at this 
      refine aB (i := 8) (by kernel_rfl) (aE rfl (ev_copy_own (lo := i + 1) (n := n + 1) (k := n - i) rfl rfl rfl (rds_lo (n := n + 1) .here hroom hxy (by omega)) (by rw [hD]; exact hDo) (by omega) ((Nat.min_eq_right (by omega)).trans (by omega)) (by rw [hD]; exact hlay1) .here) rfl rfl (fun _ _ _ _ _ w s => s.any) ?_) 
      rintro _ _ _ _ ⟨rfl, rfl, rfl⟩ 
      refine aD (by kernel_rfl) ?_ 
      (repeat (first|refine zJ rfl rfl ?_|refine jr rfl ?_|refine jn ?_|refine zM rfl rfl ?_|(refine zC rfl rfl ?_ rfl ?_;omega)|(refine zD rfl rfl ?_ rfl ?_;omega)|(refine zP rfl ?_ rfl ?_;omega)|refine zG rfl rfl rfl rfl ?_|(refine jdq rfl rfl ?_ ?_ ?_;kernel_rfl;kernel_rfl)|refine zB rfl rfl rfl (by repeat constructor) rfl ?_|refine zH .here rfl rfl rfl rfl ?_|refine zH (.there .here) rfl rfl rfl rfl ?_|refine zH (.there (.there .here)) rfl rfl rfl rfl ?_)) 
      refine oS (ev_slice_lo (lo := i) rfl rfl rfl (by omega)) rfl ?_ 
      (repeat (first|refine zJ rfl rfl ?_|refine jr rfl ?_|refine jn ?_|refine zM rfl rfl ?_|(refine zC rfl rfl ?_ rfl ?_;omega)|(refine zD rfl rfl ?_ rfl ?_;omega)|(refine zP rfl ?_ rfl ?_;omega)|refine zG rfl rfl rfl rfl ?_|(refine jdq rfl rfl ?_ ?_ ?_;kernel_rfl;kernel_rfl)|refine zB rfl rfl rfl (by repeat constructor) rfl ?_|refine zH .here rfl rfl rfl rfl ?_|refine zH (.there .here) rfl rfl rfl rfl ?_|refine zH (.there (.there .here)) rfl rfl rfl rfl ?_)) 
      refine oE (ev_copy_own (lo := i) (n := n + 1) (m := 1) (k := 1) rfl rfl rfl (hrv _ _ _) (by rw [hvt]; exact h1v) (by omega) (Nat.min_eq_left (by omega)) (by rw [hvt]; exact hlay2) .here) rfl ?_ 
      rintro _ _ _ _ ⟨rfl, rfl, rfl⟩ 
      (repeat (first|refine zJ rfl rfl ?_|refine jr rfl ?_|refine jn ?_|refine zM rfl rfl ?_|(refine zC rfl rfl ?_ rfl ?_;omega)|(refine zD rfl rfl ?_ rfl ?_;omega)|(refine zP rfl ?_ rfl ?_;omega)|refine zG rfl rfl rfl rfl ?_|(refine jdq rfl rfl ?_ ?_ ?_;kernel_rfl;kernel_rfl)|refine zB rfl rfl rfl (by repeat constructor) rfl ?_|refine zH .here rfl rfl rfl rfl ?_|refine zH (.there .here) rfl rfl rfl rfl ?_|refine zH (.there (.there .here)) rfl rfl rfl rfl ?_)) 
      exact J_retv rfl (.tmp rfl .nil) [_] (fun w s => Sat.drop2 s) (PH.ler _) (by rw [List.append_assoc]; rfl) 
    · (repeat (first|refine zJ rfl rfl ?_|refine jr rfl ?_|refine jn ?_|refine zM rfl rfl ?_|(refine zC rfl rfl ?_ rfl ?_;omega)|(refine zD rfl rfl ?_ rfl ?_;omega)|(refine zP rfl ?_ rfl ?_;omega)|refine zG rfl rfl rfl rfl ?_|(refine jdq rfl rfl ?_ ?_ ?_;kernel_rfl;kernel_rfl)|refine zB rfl rfl rfl (by repeat constructor) rfl ?_|refine zH .here rfl rfl rfl rfl ?_|refine zH (.there .here) rfl rfl rfl rfl ?_|refine zH (.there (.there .here)) rfl rfl rfl rfl ?_)) 
      rw [decide_eq_false hne] 
      (repeat (first|refine zJ rfl rfl ?_|refine jr rfl ?_|refine jn ?_|refine zM rfl rfl ?_|(refine zC rfl rfl ?_ rfl ?_;omega)|(refine zD rfl rfl ?_ rfl ?_;omega)|(refine zP rfl ?_ rfl ?_;omega)|refine zG rfl rfl rfl rfl ?_|(refine jdq rfl rfl ?_ ?_ ?_;kernel_rfl;kernel_rfl)|refine zB rfl rfl rfl (by repeat constructor) rfl ?_|refine zH .here rfl rfl rfl rfl ?_|refine zH (.there .here) rfl rfl rfl rfl ?_|refine zH (.there (.there .here)) rfl rfl rfl rfl ?_)) 
      refine oS (ev_slice_hi (h := i) rfl rfl rfl (by omega)) rfl ?_ 
      (repeat (first|refine zJ rfl rfl ?_|refine jr rfl ?_|refine jn ?_|refine zM rfl rfl ?_|(refine zC rfl rfl ?_ rfl ?_;omega)|(refine zD rfl rfl ?_ rfl ?_;omega)|(refine zP rfl ?_ rfl ?_;omega)|refine zG rfl rfl rfl rfl ?_|(refine jdq rfl rfl ?_ ?_ ?_;kernel_rfl;kernel_rfl)|refine zB rfl rfl rfl (by repeat constructor) rfl ?_|refine zH .here rfl rfl rfl rfl ?_|refine zH (.there .here) rfl rfl rfl rfl ?_|refine zH (.there (.there .here)) rfl rfl rfl rfl ?_)) 
      refine oE (ev_append_zeros_fresh (n := i) (m := n + 1 - i) (bytes := 72) rfl (show opv _ _ = _ from congrArg (fun z : Int => some (Value.int .i64 z)) (by omega)) lt_el Try.underlying3 (rds_hi .here hnc hxl hi) (by omega) (by omega) (by omega)) rfl ?_ 
      rintro u _ _ _ ⟨rfl, rfl⟩ 
      rw [show i + (n + 1 - i) = n + 1 from by omega] 
      have hZl : ((List.replicate (n + 1 - i) (Value.cells _).toList).flatten).length = (n + 1 - i) * 6 := zeros_len lt_el (n + 1 - i) 
      generalize (List.replicate (n + 1 - i) (Value.cells _).toList).flatten = Z at * 
      refine oOwnA .here fun a2 c' hu hnc' hcm' hl' ha2 => ?_ 
      subst hu 
      obtain ⟨g', rfl⟩ := ha2 (by omega) 
      (repeat (first|refine zJ rfl rfl ?_|refine jr rfl ?_|refine jn ?_|refine zM rfl rfl ?_|(refine zC rfl rfl ?_ rfl ?_;omega)|(refine zD rfl rfl ?_ rfl ?_;omega)|(refine zP rfl ?_ rfl ?_;omega)|refine zG rfl rfl rfl rfl ?_|(refine jdq rfl rfl ?_ ?_ ?_;kernel_rfl;kernel_rfl)|refine zB rfl rfl rfl (by repeat constructor) rfl ?_|refine zH .here rfl rfl rfl rfl ?_|refine zH (.there .here) rfl rfl rfl rfl ?_|refine zH (.there (.there .here)) rfl rfl rfl rfl ?_)) 
      refine oS (ev_slice_lo (lo := i) rfl rfl rfl (by omega)) rfl ?_ 
      (repeat (first|refine zJ rfl rfl ?_|refine jr rfl ?_|refine jn ?_|refine zM rfl rfl ?_|(refine zC rfl rfl ?_ rfl ?_;omega)|(refine zD rfl rfl ?_ rfl ?_;omega)|(refine zP rfl ?_ rfl ?_;omega)|refine zG rfl rfl rfl rfl ?_|(refine jdq rfl rfl ?_ ?_ ?_;kernel_rfl;kernel_rfl)|refine zB rfl rfl rfl (by repeat constructor) rfl ?_|refine zH .here rfl rfl rfl rfl ?_|refine zH (.there .here) rfl rfl rfl rfl ?_|refine zH (.there (.there .here)) rfl rfl rfl rfl ?_)) 
      have hA1 : (xs.take (i * 6)).length = i * 6 := by rw [List.length_take, hxl]; omega 
      have hD1 : (xs.drop (i * 6)).length = (n - i) * 6 := by rw [List.length_drop, hxl]; omega 
      have hDo : Ones (xs.drop (i * 6)) := fun v hv => h1 v (List.mem_of_mem_drop hv) 
      have hZ1 : (Z.take 6).length = 6 := by rw [List.length_take, hZl]; omega 
      have hZ2 : (Z.drop 6).length = (n - i) * 6 := by rw [List.length_drop, hZl]; omega 
      have hZs : Z = Z.take 6 ++ Z.drop 6 := (List.take_append_drop _ _).symm 
      have hDt : (xs.drop (i * 6)).take ((n - i) * 6) = xs.drop (i * 6) := by rw [← hD1, List.take_length] 
      generalize Z.take 6 = B1 at hZ1 hZs 
      generalize Z.drop 6 = B2 at hZ2 hZs 
      have hlay1 : Lay (i * 6) vc (xs.take (i * 6) ++ Z) (xs.take (i * 6) ++ (vc ++ B2)) := by 
        rw [hZs] 
        have := layP (xs.take (i * 6)) (layM (vs := vc) (zs := B1) B2 (by omega)) 
        rwa [hA1, Nat.add_zero] at this 
      have hlay2 : Lay ((i + 1) * 6) (xs.drop (i * 6)) (xs.take (i * 6) ++ (vc ++ B2)) (xs.take (i * 6) ++ (vc ++ xs.drop (i * 6))) := by 
        rw [← List.append_assoc, ← List.append_assoc] 
        have := layP (xs.take (i * 6) ++ vc) (lay_all (vs := xs.drop (i * 6)) (zs := B2) (by omega)) 
        rw [List.length_append, hA1, hvl] at this 
        rwa [show (i + 1) * 6 = i * 6 + 6 + 0 from by omega] 
      refine oE (ev_copy_own (lo := i) (n := n + 1) (m := 1) (k := 1) rfl rfl rfl (RdS.blk (.there (.there .here)) (by rw [hvl]) (by rw [List.drop_zero, List.take_length]) (Nat.le_refl _)) (by rw [hvt]; exact h1v) (by omega) (Nat.min_eq_left (by omega)) (by rw [hvt]; exact hlay1) .here) rfl ?_ 
      rintro _ _ _ _ ⟨rfl, rfl, rfl⟩ 
      (repeat (first|refine zJ rfl rfl ?_|refine jr rfl ?_|refine jn ?_|refine zM rfl rfl ?_|(refine zC rfl rfl ?_ rfl ?_;omega)|(refine zD rfl rfl ?_ rfl ?_;omega)|(refine zP rfl ?_ rfl ?_;omega)|refine zG rfl rfl rfl rfl ?_|(refine jdq rfl rfl ?_ ?_ ?_;kernel_rfl;kernel_rfl)|refine zB rfl rfl rfl (by repeat constructor) rfl ?_|refine zH .here rfl rfl rfl rfl ?_|refine zH (.there .here) rfl rfl rfl rfl ?_|refine zH (.there (.there .here)) rfl rfl rfl rfl ?_)) 
      refine ja PH.emp [] ?_ (fun w s => s.any) ?_; kernel_rfl 
      refine aL (fun o => o.dropLast) [8] [0, 1, 2, 3, 4, 5, 6, 7] 1 rfl ?_ ?_ ?_ ?_ ?_ ?_; kernel_rfl; kernel_rfl; kernel_rfl; kernel_rfl; kernel_rfl; dsimp only [List.dropLast] 
      (repeat (first|refine zJ rfl rfl ?_|refine jr rfl ?_|refine jn ?_|refine zM rfl rfl ?_|(refine zC rfl rfl ?_ rfl ?_;omega)|(refine zD rfl rfl ?_ rfl ?_;omega)|(refine zP rfl ?_ rfl ?_;omega)|refine zG rfl rfl rfl rfl ?_|(refine jdq rfl rfl ?_ ?_ ?_;kernel_rfl;kernel_rfl)|refine zB rfl rfl rfl (by repeat constructor) rfl ?_|refine zH .here rfl rfl rfl rfl ?_|refine zH (.there .here) rfl rfl rfl rfl ?_|refine zH (.there (.there .here)) rfl rfl rfl rfl ?_)) 
      refine oS (ev_slice_lo (lo := i + 1) rfl rfl rfl (by omega)) rfl ?_ 
      (repeat (first|refine zJ rfl rfl ?_|refine jr rfl ?_|refine jn ?_|refine zM rfl rfl ?_|(refine zC rfl rfl ?_ rfl ?_;omega)|(refine zD rfl rfl ?_ rfl ?_;omega)|(refine zP rfl ?_ rfl ?_;omega)|refine zG rfl rfl rfl rfl ?_|(refine jdq rfl rfl ?_ ?_ ?_;kernel_rfl;kernel_rfl)|refine zB rfl rfl rfl (by repeat constructor) rfl ?_|refine zH .here rfl rfl rfl rfl ?_|refine zH (.there .here) rfl rfl rfl rfl ?_|refine zH (.there (.there .here)) rfl rfl rfl rfl ?_)) 
      refine oS (ev_slice_lo (lo := i) rfl rfl rfl (by omega)) rfl ?_ 
      refine jn ?_ 
      refine aR ?_ 
      refine aB (i := 8) (by kernel_rfl) (aE rfl (ev_copy_own (lo := i + 1) (n := n + 1) (m := n - i) (k := n - i) rfl rfl rfl (rds_lo (.there .here) hnc hxl hi) (by rw [hDt]; exact hDo) (by omega) ((Nat.min_eq_right (by omega)).trans (by omega)) (by rw [hDt]; exact hlay2) .here) rfl rfl (fun _ _ _ _ _ w s => s.any) ?_) 
      rintro _ _ _ _ ⟨rfl, rfl, rfl⟩ 
      refine aD (by kernel_rfl) ?_ 
      (repeat (first|refine zJ rfl rfl ?_|refine jr rfl ?_|refine jn ?_|refine zM rfl rfl ?_|(refine zC rfl rfl ?_ rfl ?_;omega)|(refine zD rfl rfl ?_ rfl ?_;omega)|(refine zP rfl ?_ rfl ?_;omega)|refine zG rfl rfl rfl rfl ?_|(refine jdq rfl rfl ?_ ?_ ?_;kernel_rfl;kernel_rfl)|refine zB rfl rfl rfl (by repeat constructor) rfl ?_|refine zH .here rfl rfl rfl rfl ?_|refine zH (.there .here) rfl rfl rfl rfl ?_|refine zH (.there (.there .here)) rfl rfl rfl rfl ?_)) 
      exact J_retv rfl (.tmp rfl .nil) [_] (fun w s => Sat.drop2 (Sat.drop2 s)) (PH.ler _) (by rw [List.append_assoc]; rfl)
set_option maxHeartbeats 4000000 in
theorem lt_put_spec (v : Value) (L : List LtX) (x : LtX) (F : PH) (h : ltRow F v L) (hn : L.length ≤ 900) : Spec Try.prog 40 [v, .agg (ltC x).toArray, fnV 41 []] F [] fun u _ H' => H' = [ltO u (putP (ltEq x.1) (ltGt x.1) x L)] := by
  refine Spec.of3 Try.func40 rfl rfl fun X w0 => ?_
  refine jc rfl rfl ?_
  refine jr rfl ?_
  refine oE (ev_box rfl .agg) rfl ?_; rintro _ _ _ _ ⟨rfl, b4, rfl, rfl⟩
  repeat (first|refine zJ rfl rfl ?_|refine jr rfl ?_|refine jn ?_|refine zM rfl rfl ?_|(refine zC rfl rfl ?_ rfl ?_;omega)|(refine zD rfl rfl ?_ rfl ?_;omega)|(refine zP rfl ?_ rfl ?_;omega)|refine zG rfl rfl rfl rfl ?_|(refine jdq rfl rfl ?_ ?_ ?_;kernel_rfl;kernel_rfl)|refine zB rfl rfl rfl (by repeat constructor) rfl ?_|refine zH .here rfl rfl rfl rfl ?_|refine zH (.there .here) rfl rfl rfl rfl ?_|refine zH (.there (.there .here)) rfl rfl rfl rfl ?_)
  refine oC (Hc := []) (Hr := blk b4 37 (ltC x) :: X) (lt_clone_spec v L F h (by omega)) Try.call71 rfl rfl (fun _ s => s) ?_
  rintro u _ _ _ ⟨rfl, rfl⟩
  refine oOwnA .here fun a c hv hnc hcm hlen ha => ?_
  subst hv
  repeat (first|refine zJ rfl rfl ?_|refine jr rfl ?_|refine jn ?_|refine zM rfl rfl ?_|(refine zC rfl rfl ?_ rfl ?_;omega)|(refine zD rfl rfl ?_ rfl ?_;omega)|(refine zP rfl ?_ rfl ?_;omega)|refine zG rfl rfl rfl rfl ?_|(refine jdq rfl rfl ?_ ?_ ?_;kernel_rfl;kernel_rfl)|refine zB rfl rfl rfl (by repeat constructor) rfl ?_|refine zH .here rfl rfl rfl rfl ?_|refine zH (.there .here) rfl rfl rfl rfl ?_|refine zH (.there (.there .here)) rfl rfl rfl rfl ?_)
  refine oS (ev_load_agg (cs := ltC x) rfl rfl (Rdb.ofB (n := 0) (.there .here) rfl) (lt_len x)) rfl ?_
  refine oPF (caps := []) (vs := [.agg (ltC x).toArray]) rfl (lt_key_spec x F) Try.call41 rfl rfl ?_
  repeat (first|refine zJ rfl rfl ?_|refine jr rfl ?_|refine jn ?_|refine zM rfl rfl ?_|(refine zC rfl rfl ?_ rfl ?_;omega)|(refine zD rfl rfl ?_ rfl ?_;omega)|(refine zP rfl ?_ rfl ?_;omega)|refine zG rfl rfl rfl rfl ?_|(refine jdq rfl rfl ?_ ?_ ?_;kernel_rfl;kernel_rfl)|refine zB rfl rfl rfl (by repeat constructor) rfl ?_|refine zH .here rfl rfl rfl rfl ?_|refine zH (.there .here) rfl rfl rfl rfl ?_|refine zH (.there (.there .here)) rfl rfl rfl rfl ?_)
  refine oC (Hc := [own (.slice a L.length c) 37 6 L.length (rowC ltC L)]) (Hr := blk b4 37 (ltC x) :: X) (lt_place_spec x.1 a c L F [own (.slice a L.length c) 37 6 L.length (rowC ltC L)] (by omega) (fun G _ Y j y e => ?_)) Try.call44 rfl rfl (fun _ s => s) ?_
  · obtain ⟨b, rfl⟩ := ha (by have := (List.getElem?_eq_some_iff.1 e).1; omega)
    exact ⟨b, 0, rfl, rdb_row .here lt_len e⟩
  rintro _ F1 _ hF1 ⟨rfl, rfl⟩
  rcases place_cases (ltEq x.1) (ltGt x.1) x L with ⟨A, y, B, rfl, hy, hA, e1, e2⟩ | ⟨hno, A, B, rfl, e1, e2⟩
  · rw [e1, e2]
    have hAl : A.length < (A ++ y :: B).length := by rw [List.length_append, List.length_cons]; omega
    obtain ⟨b, rfl⟩ := ha (by omega)
    have hset : (A ++ y :: B).set A.length x = A ++ x :: B := by rw [List.set_append_right _ _ (Nat.le_refl _), Nat.sub_self]; rfl
    repeat (first|refine zJ rfl rfl ?_|refine jr rfl ?_|refine jn ?_|refine zM rfl rfl ?_|(refine zC rfl rfl ?_ rfl ?_;omega)|(refine zD rfl rfl ?_ rfl ?_;omega)|(refine zP rfl ?_ rfl ?_;omega)|refine zG rfl rfl rfl rfl ?_|(refine jdq rfl rfl ?_ ?_ ?_;kernel_rfl;kernel_rfl)|refine zB rfl rfl rfl (by repeat constructor) rfl ?_|refine zH .here rfl rfl rfl rfl ?_|refine zH (.there .here) rfl rfl rfl rfl ?_|refine zH (.there (.there .here)) rfl rfl rfl rfl ?_)
    refine oS (ev_load_agg (cs := ltC x) rfl rfl (Rdb.ofB (n := 0) (.there .here) rfl) (lt_len x)) rfl ?_
    refine oS (ev_indexAddr (i := A.length) rfl rfl rfl hAl) rfl ?_
    refine oN (ev_store_own rfl rfl .agg rfl (lt_len x) (by rw [Nat.zero_add]; exact lay_row lt_len x _ A.length hAl) (lt_ones x) .here) rfl ?_
    rintro _ _ _ _ ⟨rfl, _, rfl⟩
    rw [hset]
    repeat (first|refine zJ rfl rfl ?_|refine jr rfl ?_|refine jn ?_|refine zM rfl rfl ?_|(refine zC rfl rfl ?_ rfl ?_;omega)|(refine zD rfl rfl ?_ rfl ?_;omega)|(refine zP rfl ?_ rfl ?_;omega)|refine zG rfl rfl rfl rfl ?_|(refine jdq rfl rfl ?_ ?_ ?_;kernel_rfl;kernel_rfl)|refine zB rfl rfl rfl (by repeat constructor) rfl ?_|refine zH .here rfl rfl rfl rfl ?_|refine zH (.there .here) rfl rfl rfl rfl ?_|refine zH (.there (.there .here)) rfl rfl rfl rfl ?_)
    rw [show (A ++ y :: B).length = (A ++ x :: B).length from by simp]
    exact J_retv (vs := [.slice (some ⟨b, 0, none⟩) (A ++ x :: B).length c]) rfl (.tmp rfl .nil) [ltO (.slice (some ⟨b, 0, none⟩) (A ++ x :: B).length c) (A ++ x :: B)] (fun w s => (s.pm 2 [1, 0] rfl rfl).drop) hF1 rfl
  · rw [e1, e2]
    repeat (first|refine zJ rfl rfl ?_|refine jr rfl ?_|refine jn ?_|refine zM rfl rfl ?_|(refine zC rfl rfl ?_ rfl ?_;omega)|(refine zD rfl rfl ?_ rfl ?_;omega)|(refine zP rfl ?_ rfl ?_;omega)|refine zG rfl rfl rfl rfl ?_|(refine jdq rfl rfl ?_ ?_ ?_;kernel_rfl;kernel_rfl)|refine zB rfl rfl rfl (by repeat constructor) rfl ?_|refine zH .here rfl rfl rfl rfl ?_|refine zH (.there .here) rfl rfl rfl rfl ?_|refine zH (.there (.there .here)) rfl rfl rfl rfl ?_)
    refine oS (ev_load_agg (cs := ltC x) rfl rfl (Rdb.ofB (n := 0) (.there .here) rfl) (lt_len x)) rfl ?_
    refine oE (ev_one rfl .agg (lt_len x) lt_el) rfl ?_
    rintro _ _ _ _ ⟨rfl, bt, rfl, rfl⟩
    refine oC (Hc := [own (.slice a (A ++ B).length c) 37 6 (A ++ B).length (rowC ltC (A ++ B)), blk bt 37 (ltC x)]) (Hr := blk b4 37 (ltC x) :: X) (ltIns_raw (.slice a (A ++ B).length c) (A ++ B).length A.length bt (rowC ltC (A ++ B)) (ltC x) F1 (by rw [List.length_append]; omega) (by omega) (lt_rones _) (lt_ones x) (lt_len x)) Try.call73 rfl rfl (fun _ s => s.pm 3 [1, 0, 2] rfl rfl) ?_
    rintro u F2 _ hF2 rfl
    repeat (first|refine zJ rfl rfl ?_|refine jr rfl ?_|refine jn ?_|refine zM rfl rfl ?_|(refine zC rfl rfl ?_ rfl ?_;omega)|(refine zD rfl rfl ?_ rfl ?_;omega)|(refine zP rfl ?_ rfl ?_;omega)|refine zG rfl rfl rfl rfl ?_|(refine jdq rfl rfl ?_ ?_ ?_;kernel_rfl;kernel_rfl)|refine zB rfl rfl rfl (by repeat constructor) rfl ?_|refine zH .here rfl rfl rfl rfl ?_|refine zH (.there .here) rfl rfl rfl rfl ?_|refine zH (.there (.there .here)) rfl rfl rfl rfl ?_)
    refine J_retv (vs := [u]) rfl (.tmp rfl .nil) [own u 37 6 ((A ++ B).length + 1) ((rowC ltC (A ++ B)).take (A.length * 6) ++ ltC x ++ (rowC ltC (A ++ B)).drop (A.length * 6))] (fun w s => (s.pm 2 [1, 0] rfl rfl).drop) (hF1.trans hF2) ?_
    unfold ltO
    have h1 : (rowC ltC (A ++ B)).take (A.length * 6) = rowC ltC A := by rw [rowC_append, List.take_left' (rowC_len lt_len A)]
    have h2 : (rowC ltC (A ++ B)).drop (A.length * 6) = rowC ltC B := by rw [rowC_append, List.drop_left' (rowC_len lt_len A)]
    rw [h1, h2, show (A ++ B).length + 1 = (A ++ x :: B).length from by simp; omega, rowC_append A (x :: B), List.append_assoc]
    rfl

/-! ### Outcome -/
theorem ou_len (x : OuX) : (ouC x).length = 3 := rfl
theorem ou_ones (x : OuX) : Ones (ouC x) := by unfold ouC; (repeat (first | exact ones_nil | refine ones_cons rfl ?_))
theorem ou_rones (L : List OuX) : Ones (rowC ouC L) := fun u hu => by
  obtain ⟨c, hc, hu⟩ := List.mem_flatten.1 hu
  obtain ⟨x, _, rfl⟩ := List.mem_map.1 hc
  exact ou_ones x u hu
theorem ou_el : Elem Try.prog 25 39 3 24 (.agg zOu.toArray) := ⟨rfl, ⟨_, rfl, rfl, rfl, rfl, rfl, by decide⟩, rfl, rfl⟩
def ouO (v : Value) (L : List OuX) : Asrt := own v 39 3 L.length (rowC ouC L)
def ouRow (F : PH) (v : Value) (L : List OuX) : Prop := SliceV F 3 v L.length (rowC ouC L)
theorem ouRow.mono {F G : PH} {v : Value} {L : List OuX} (h : ouRow F v L) (hl : F.le G) : ouRow G v L := SliceV.mono h hl
theorem ouRow.nil (F : PH) : ouRow F (.slice none 0 0) [] := SliceV.nil F 3
theorem ouRow.of {F hh : PH} {v : Value} {L : List OuX} (ho : ouO v L hh) (hd : F.dj hh) : ouRow (F.un hh) v L := own_slice ho hd
theorem ouRow.form {F : PH} {v : Value} {L : List OuX} (h : ouRow F v L) : ∃ a c, v = .slice a L.length c ∧ L.length ≤ c := by
  obtain ⟨_, a, c, e, hc, _⟩ := h
  exact ⟨a, c, e, hc⟩
theorem ouRow.at {F : PH} {a : Option Addr} {n c i : Nat} {L : List OuX} {x : OuX} (h : ouRow F (.slice a n c) L) (hi : L[i]? = some x) : ∃ b off, a = some ⟨b, off, none⟩ ∧ Cells F b (off + i * 3) (ouC x) := by
  obtain ⟨hl, a', c', e, hc, h2⟩ := id h
  injection e with e1 e2 e3
  subst e2
  have hlt := (List.getElem?_eq_some_iff.1 hi).1
  exact SliceV.row (css := L.map ouC) (i := i) (r := ouC x) h (fun c hc => by obtain ⟨q, _, rfl⟩ := List.mem_map.1 hc; exact ou_len q) (by rw [List.getElem?_map, hi]; rfl) hlt
set_option maxHeartbeats 1000000 in
theorem ou_clone_spec (v : Value) (L : List OuX) (F : PH) (h : ouRow F v L) (hn : L.length ≤ 1000) : Spec Try.prog 72 [v] F [] fun u F' H' => F = F' ∧ H' = [ouO u L] := by
  refine Spec.of1 Try.func72 rfl rfl fun X w0 => ?_
  obtain ⟨hl, a, c, rfl, hc, h2⟩ := id h
  refine J_own_nil 39 3 ?_
  repeat (first|refine zJ rfl rfl ?_|refine jr rfl ?_|refine jn ?_|refine zM rfl rfl ?_|(refine zC rfl rfl ?_ rfl ?_;omega)|(refine zD rfl rfl ?_ rfl ?_;omega)|(refine zP rfl ?_ rfl ?_;omega)|refine zG rfl rfl rfl rfl ?_|(refine jdq rfl rfl ?_ ?_ ?_;kernel_rfl;kernel_rfl)|refine zB rfl rfl rfl (by repeat constructor) rfl ?_|refine zH .here rfl rfl rfl rfl ?_|refine zH (.there .here) rfl rfl rfl rfl ?_|refine zH (.there (.there .here)) rfl rfl rfl rfl ?_)
  refine oS (ev_slice_eql_nil rfl rfl rfl) rfl ?_
  cases a with
  | none =>
    have h0 : L.length = 0 := by
      by_cases hz : 0 < L.length
      · obtain ⟨_, _, h3, _⟩ := h2 hz; cases h3
      · omega
    obtain rfl : L = [] := List.eq_nil_of_length_eq_zero h0
    repeat (first|refine zJ rfl rfl ?_|refine jr rfl ?_|refine jn ?_|refine zM rfl rfl ?_|(refine zC rfl rfl ?_ rfl ?_;omega)|(refine zD rfl rfl ?_ rfl ?_;omega)|(refine zP rfl ?_ rfl ?_;omega)|refine zG rfl rfl rfl rfl ?_|(refine jdq rfl rfl ?_ ?_ ?_;kernel_rfl;kernel_rfl)|refine zB rfl rfl rfl (by repeat constructor) rfl ?_|refine zH .here rfl rfl rfl rfl ?_|refine zH (.there .here) rfl rfl rfl rfl ?_|refine zH (.there (.there .here)) rfl rfl rfl rfl ?_)
    exact J_retv rfl (.tmp rfl .nil) [_] (fun w s => s) (PH.ler _) ⟨rfl, rfl⟩
  | some ad =>
    repeat (first|refine zJ rfl rfl ?_|refine jr rfl ?_|refine jn ?_|refine zM rfl rfl ?_|(refine zC rfl rfl ?_ rfl ?_;omega)|(refine zD rfl rfl ?_ rfl ?_;omega)|(refine zP rfl ?_ rfl ?_;omega)|refine zG rfl rfl rfl rfl ?_|(refine jdq rfl rfl ?_ ?_ ?_;kernel_rfl;kernel_rfl)|refine zB rfl rfl rfl (by repeat constructor) rfl ?_|refine zH .here rfl rfl rfl rfl ?_|refine zH (.there .here) rfl rfl rfl rfl ?_|refine zH (.there (.there .here)) rfl rfl rfl rfl ?_)
    refine oE (ev_mt ou_el) rfl ?_
    rintro u _ _ _ ⟨rfl, ⟨b, rfl⟩, rfl⟩
    repeat (first|refine zJ rfl rfl ?_|refine jr rfl ?_|refine jn ?_|refine zM rfl rfl ?_|(refine zC rfl rfl ?_ rfl ?_;omega)|(refine zD rfl rfl ?_ rfl ?_;omega)|(refine zP rfl ?_ rfl ?_;omega)|refine zG rfl rfl rfl rfl ?_|(refine jdq rfl rfl ?_ ?_ ?_;kernel_rfl;kernel_rfl)|refine zB rfl rfl rfl (by repeat constructor) rfl ?_|refine zH .here rfl rfl rfl rfl ?_|refine zH (.there .here) rfl rfl rfl rfl ?_|refine zH (.there (.there .here)) rfl rfl rfl rfl ?_)
    refine oE (ev_append_s (n := 0) (m := L.length) (xs := []) (news := rowC ouC L) (K := fun v' => own v' 39 3 L.length (rowC ouC L) :: own (.slice none 0 0) 39 3 0 [] :: X) rfl rfl ou_el h.rds (ou_rones L) (by omega) (fun v' => by rw [Nat.zero_add, List.nil_append]; exact .here)) rfl ?_
    rintro u _ _ _ ⟨rfl, hu, rfl⟩
    repeat (first|refine zJ rfl rfl ?_|refine jr rfl ?_|refine jn ?_|refine zM rfl rfl ?_|(refine zC rfl rfl ?_ rfl ?_;omega)|(refine zD rfl rfl ?_ rfl ?_;omega)|(refine zP rfl ?_ rfl ?_;omega)|refine zG rfl rfl rfl rfl ?_|(refine jdq rfl rfl ?_ ?_ ?_;kernel_rfl;kernel_rfl)|refine zB rfl rfl rfl (by repeat constructor) rfl ?_|refine zH .here rfl rfl rfl rfl ?_|refine zH (.there .here) rfl rfl rfl rfl ?_|refine zH (.there (.there .here)) rfl rfl rfl rfl ?_)
    exact J_retv rfl (.tmp rfl .nil) [_] (fun w s => (s.pm 2 [1, 0] rfl rfl).drop) (PH.ler _) ⟨rfl, rfl⟩
set_option maxHeartbeats 4000000 in
theorem ou_idx_spec (f : FuncId) (caps : List Value) (h : OuX → Bool) (a : Option Addr) (c : Nat) (L : List OuX) (F : PH) (Hc : List Asrt) (hn : L.length ≤ 1000) (hrd : ∀ X j y, L[j]? = some y → ∃ b off, a = some ⟨b, off, none⟩ ∧ Rdb F (Hc ++ X) b (off + j * 3) (ouC y)) (hcall : ∀ args w, (callFunc f args).run Try.prog w = .ok (.enter f args) w)
    (hs : ∀ y ∈ L, Pure Try.prog f (.agg (ouC y).toArray :: caps) F (.bool (h y))) : Spec Try.prog 78 [.slice a L.length c, fnV f caps] F Hc fun u F' H' => F = F' ∧ u = .int .i64 (idxP h L 0) ∧ H' = Hc := by
  refine Spec.of2 Try.func78 rfl rfl fun X w0 => ?_
  have hrd := hrd X
  generalize hY : Hc ++ X = Y at *
  repeat (first|refine zJ rfl rfl ?_|refine jr rfl ?_|refine jn ?_|refine zM rfl rfl ?_|(refine zC rfl rfl ?_ rfl ?_;omega)|(refine zD rfl rfl ?_ rfl ?_;omega)|(refine zP rfl ?_ rfl ?_;omega)|refine zG rfl rfl rfl rfl ?_|(refine jdq rfl rfl ?_ ?_ ?_;kernel_rfl;kernel_rfl)|refine zB rfl rfl rfl (by repeat constructor) rfl ?_|refine zH .here rfl rfl rfl rfl ?_|refine zH (.there .here) rfl rfl rfl rfl ?_|refine zH (.there (.there .here)) rfl rfl rfl rfl ?_)
  refine J_loop (ι := Nat) (fun j => j ≤ L.length ∧ idxP h L 0 = idxP h (L.drop j) j) (fun j => L.length - j) (fun j => [(0, .slice a L.length c), (1, fnV f caps), (7, .int .i64 L.length), (8, .int .i64 j)]) (fun _ => F) (fun _ => Y) 0 ⟨Nat.zero_le _, rfl⟩
    ⟨⟨rfl, rfl, rfl, rfl, trivial⟩, fun _ h => h⟩ ?_
  rintro j ⟨hj, heq⟩
  by_cases hlt : j < L.length
  · have g1 : L[j]? = some L[j] := List.getElem?_eq_getElem hlt
    obtain ⟨b, off, rfl, hr⟩ := hrd j _ g1
    have hcl := hs _ (List.getElem_mem hlt)
    rw [drop_cons g1, idxP_cons] at heq
    generalize L[j] = y at *
    repeat (first|refine zJ rfl rfl ?_|refine jr rfl ?_|refine jn ?_|refine zM rfl rfl ?_|(refine zC rfl rfl ?_ rfl ?_;omega)|(refine zD rfl rfl ?_ rfl ?_;omega)|(refine zP rfl ?_ rfl ?_;omega)|refine zG rfl rfl rfl rfl ?_|(refine jdq rfl rfl ?_ ?_ ?_;kernel_rfl;kernel_rfl)|refine zB rfl rfl rfl (by repeat constructor) rfl ?_|refine zH .here rfl rfl rfl rfl ?_|refine zH (.there .here) rfl rfl rfl rfl ?_|refine zH (.there (.there .here)) rfl rfl rfl rfl ?_)
    refine oS (ev_indexAddr rfl rfl rfl hlt) rfl ?_
    refine oS (ev_load_agg (cs := ouC y) rfl rfl hr (ou_len y)) rfl ?_
    refine oPF rfl hcl hcall rfl rfl ?_
    cases hy : h y with
    | true =>
      rw [if_pos hy] at heq
      repeat (first|refine zJ rfl rfl ?_|refine jr rfl ?_|refine jn ?_|refine zM rfl rfl ?_|(refine zC rfl rfl ?_ rfl ?_;omega)|(refine zD rfl rfl ?_ rfl ?_;omega)|(refine zP rfl ?_ rfl ?_;omega)|refine zG rfl rfl rfl rfl ?_|(refine jdq rfl rfl ?_ ?_ ?_;kernel_rfl;kernel_rfl)|refine zB rfl rfl rfl (by repeat constructor) rfl ?_|refine zH .here rfl rfl rfl rfl ?_|refine zH (.there .here) rfl rfl rfl rfl ?_|refine zH (.there (.there .here)) rfl rfl rfl rfl ?_)
      rw [heq]
      exact J_retv rfl (.tmp rfl .nil) Hc (fun w s => by rw [hY]; exact s) (PH.ler _) ⟨rfl, rfl, rfl⟩
    | false =>
      rw [if_neg (by rw [hy]; decide)] at heq
      repeat (first|refine zJ rfl rfl ?_|refine jr rfl ?_|refine jn ?_|refine zM rfl rfl ?_|(refine zC rfl rfl ?_ rfl ?_;omega)|(refine zD rfl rfl ?_ rfl ?_;omega)|(refine zP rfl ?_ rfl ?_;omega)|refine zG rfl rfl rfl rfl ?_|(refine jdq rfl rfl ?_ ?_ ?_;kernel_rfl;kernel_rfl)|refine zB rfl rfl rfl (by repeat constructor) rfl ?_|refine zH .here rfl rfl rfl rfl ?_|refine zH (.there .here) rfl rfl rfl rfl ?_|refine zH (.there (.there .here)) rfl rfl rfl rfl ?_)
      exact J_again (j + 1) ⟨hlt, by rw [heq]; rfl⟩ (by omega) ⟨⟨rfl, rfl, rfl, rfl, trivial⟩, fun w s => s⟩
  · obtain rfl : j = L.length := by omega
    rw [List.drop_length, idxP_nil] at heq
    rw [heq]
    repeat (first|refine zJ rfl rfl ?_|refine jr rfl ?_|refine jn ?_|refine zM rfl rfl ?_|(refine zC rfl rfl ?_ rfl ?_;omega)|(refine zD rfl rfl ?_ rfl ?_;omega)|(refine zP rfl ?_ rfl ?_;omega)|refine zG rfl rfl rfl rfl ?_|(refine jdq rfl rfl ?_ ?_ ?_;kernel_rfl;kernel_rfl)|refine zB rfl rfl rfl (by repeat constructor) rfl ?_|refine zH .here rfl rfl rfl rfl ?_|refine zH (.there .here) rfl rfl rfl rfl ?_|refine zH (.there (.there .here)) rfl rfl rfl rfl ?_)
    exact J_retv rfl (.tmp rfl .nil) Hc (fun w s => by rw [hY]; exact s) (PH.ler _) ⟨rfl, rfl, rfl⟩
theorem ou_key_spec (y : OuX) (F : PH) : Pure Try.prog 43 [.agg (ouC y).toArray] F (ouK y.1) := by
  refine Spec.of1 Try.func43 rfl rfl fun X w0 => ?_
  refine jc rfl rfl ?_
  refine jr rfl ?_
  refine oE (ev_box rfl .agg) rfl ?_; rintro _ _ _ _ ⟨rfl, b1, rfl, rfl⟩
  repeat (first|refine zJ rfl rfl ?_|refine jr rfl ?_|refine jn ?_|refine zM rfl rfl ?_|(refine zC rfl rfl ?_ rfl ?_;omega)|(refine zD rfl rfl ?_ rfl ?_;omega)|(refine zP rfl ?_ rfl ?_;omega)|refine zG rfl rfl rfl rfl ?_|(refine jdq rfl rfl ?_ ?_ ?_;kernel_rfl;kernel_rfl)|refine zB rfl rfl rfl (by repeat constructor) rfl ?_|refine zH .here rfl rfl rfl rfl ?_|refine zH (.there .here) rfl rfl rfl rfl ?_|refine zH (.there (.there .here)) rfl rfl rfl rfl ?_)
  exact J_retv (vs := [ouK y.1]) rfl (.tmp rfl .nil) [] (fun w s => s.drop) (PH.ler _) ⟨rfl, rfl⟩
theorem ou_at1_spec (y : OuX) (k : Int) (b5 b4 : Nat) (F : PH) (h5 : Cells F b5 0 [fnV 43 []]) (h4 : Cells F b4 0 [ouK k]) : Pure Try.prog 79 [.agg (ouC y).toArray, .pointer (some ⟨b5, 0, none⟩), .pointer (some ⟨b4, 0, none⟩)] F (.bool (ouEq k y)) := by
  refine Spec.of3 Try.func79 rfl rfl fun X w0 => ?_
  refine jc rfl rfl ?_
  refine jr rfl ?_
  refine oE (ev_box rfl .agg) rfl ?_; rintro _ _ _ _ ⟨rfl, b3, rfl, rfl⟩
  repeat (first|refine zJ rfl rfl ?_|refine jr rfl ?_|refine jn ?_|refine zM rfl rfl ?_|(refine zC rfl rfl ?_ rfl ?_;omega)|(refine zD rfl rfl ?_ rfl ?_;omega)|(refine zP rfl ?_ rfl ?_;omega)|refine zG rfl rfl rfl rfl ?_|(refine jdq rfl rfl ?_ ?_ ?_;kernel_rfl;kernel_rfl)|refine zB rfl rfl rfl (by repeat constructor) rfl ?_|refine zH .here rfl rfl rfl rfl ?_|refine zH (.there .here) rfl rfl rfl rfl ?_|refine zH (.there (.there .here)) rfl rfl rfl rfl ?_)
  refine jd rfl ?_ ?_ ?_; kernel_rfl; kernel_rfl
  repeat (first|refine zJ rfl rfl ?_|refine jr rfl ?_|refine jn ?_|refine zM rfl rfl ?_|(refine zC rfl rfl ?_ rfl ?_;omega)|(refine zD rfl rfl ?_ rfl ?_;omega)|(refine zP rfl ?_ rfl ?_;omega)|refine zG rfl rfl rfl rfl ?_|(refine jdq rfl rfl ?_ ?_ ?_;kernel_rfl;kernel_rfl)|refine zB rfl rfl rfl (by repeat constructor) rfl ?_|refine zH .here rfl rfl rfl rfl ?_|refine zH (.there .here) rfl rfl rfl rfl ?_|refine zH (.there (.there .here)) rfl rfl rfl rfl ?_)
  refine oS (ev_load (v := fnV 43 []) rfl rfl (Rdb.ofF h5)) rfl ?_
  refine oS (ev_load_agg (cs := ouC y) rfl rfl (Rdb.ofB (n := 0) .here rfl) (ou_len y)) rfl ?_
  refine oPF (caps := []) (vs := [.agg (ouC y).toArray]) rfl (ou_key_spec y F) Try.call43 rfl rfl ?_
  refine oS (ev_load (v := ouK k) rfl rfl (Rdb.ofF h4)) rfl ?_
  refine oS (ev_ieq rfl rfl) rfl ?_
  repeat (first|refine zJ rfl rfl ?_|refine jr rfl ?_|refine jn ?_|refine zM rfl rfl ?_|(refine zC rfl rfl ?_ rfl ?_;omega)|(refine zD rfl rfl ?_ rfl ?_;omega)|(refine zP rfl ?_ rfl ?_;omega)|refine zG rfl rfl rfl rfl ?_|(refine jdq rfl rfl ?_ ?_ ?_;kernel_rfl;kernel_rfl)|refine zB rfl rfl rfl (by repeat constructor) rfl ?_|refine zH .here rfl rfl rfl rfl ?_|refine zH (.there .here) rfl rfl rfl rfl ?_|refine zH (.there (.there .here)) rfl rfl rfl rfl ?_)
  exact J_retv (vs := [.bool (ouEq k y)]) rfl (.tmp rfl .nil) [] (fun w s => s.drop) (PH.ler _) ⟨rfl, rfl⟩
theorem ou_at2_spec (y : OuX) (k : Int) (b5 b4 : Nat) (F : PH) (h5 : Cells F b5 0 [fnV 43 []]) (h4 : Cells F b4 0 [ouK k]) : Pure Try.prog 80 [.agg (ouC y).toArray, .pointer (some ⟨b5, 0, none⟩), .pointer (some ⟨b4, 0, none⟩)] F (.bool (ouGt k y)) := by
  refine Spec.of3 Try.func80 rfl rfl fun X w0 => ?_
  refine jc rfl rfl ?_
  refine jr rfl ?_
  refine oE (ev_box rfl .agg) rfl ?_; rintro _ _ _ _ ⟨rfl, b3, rfl, rfl⟩
  repeat (first|refine zJ rfl rfl ?_|refine jr rfl ?_|refine jn ?_|refine zM rfl rfl ?_|(refine zC rfl rfl ?_ rfl ?_;omega)|(refine zD rfl rfl ?_ rfl ?_;omega)|(refine zP rfl ?_ rfl ?_;omega)|refine zG rfl rfl rfl rfl ?_|(refine jdq rfl rfl ?_ ?_ ?_;kernel_rfl;kernel_rfl)|refine zB rfl rfl rfl (by repeat constructor) rfl ?_|refine zH .here rfl rfl rfl rfl ?_|refine zH (.there .here) rfl rfl rfl rfl ?_|refine zH (.there (.there .here)) rfl rfl rfl rfl ?_)
  refine jd rfl ?_ ?_ ?_; kernel_rfl; kernel_rfl
  repeat (first|refine zJ rfl rfl ?_|refine jr rfl ?_|refine jn ?_|refine zM rfl rfl ?_|(refine zC rfl rfl ?_ rfl ?_;omega)|(refine zD rfl rfl ?_ rfl ?_;omega)|(refine zP rfl ?_ rfl ?_;omega)|refine zG rfl rfl rfl rfl ?_|(refine jdq rfl rfl ?_ ?_ ?_;kernel_rfl;kernel_rfl)|refine zB rfl rfl rfl (by repeat constructor) rfl ?_|refine zH .here rfl rfl rfl rfl ?_|refine zH (.there .here) rfl rfl rfl rfl ?_|refine zH (.there (.there .here)) rfl rfl rfl rfl ?_)
  refine oS (ev_load (v := fnV 43 []) rfl rfl (Rdb.ofF h5)) rfl ?_
  refine oS (ev_load_agg (cs := ouC y) rfl rfl (Rdb.ofB (n := 0) .here rfl) (ou_len y)) rfl ?_
  refine oPF (caps := []) (vs := [.agg (ouC y).toArray]) rfl (ou_key_spec y F) Try.call43 rfl rfl ?_
  refine oS (ev_load (v := ouK k) rfl rfl (Rdb.ofF h4)) rfl ?_
  refine oS (ev_igt rfl rfl) rfl ?_
  repeat (first|refine zJ rfl rfl ?_|refine jr rfl ?_|refine jn ?_|refine zM rfl rfl ?_|(refine zC rfl rfl ?_ rfl ?_;omega)|(refine zD rfl rfl ?_ rfl ?_;omega)|(refine zP rfl ?_ rfl ?_;omega)|refine zG rfl rfl rfl rfl ?_|(refine jdq rfl rfl ?_ ?_ ?_;kernel_rfl;kernel_rfl)|refine zB rfl rfl rfl (by repeat constructor) rfl ?_|refine zH .here rfl rfl rfl rfl ?_|refine zH (.there .here) rfl rfl rfl rfl ?_|refine zH (.there (.there .here)) rfl rfl rfl rfl ?_)
  exact J_retv (vs := [.bool (ouGt k y)]) rfl (.tmp rfl .nil) [] (fun w s => s.drop) (PH.ler _) ⟨rfl, rfl⟩
set_option maxHeartbeats 4000000 in
theorem ou_place_spec (k : Int) (a : Option Addr) (c : Nat) (L : List OuX) (F : PH) (Hc : List Asrt) (hn : L.length ≤ 1000) (hrd : ∀ G, F.le G → ∀ X j y, L[j]? = some y → ∃ b off, a = some ⟨b, off, none⟩ ∧ Rdb G (Hc ++ X) b (off + j * 3) (ouC y)) :
    Spec Try.prog 45 [.slice a L.length c, ouK k, fnV 43 []] F Hc fun u _ H' => u = .tuple #[.int .i64 (placeP (ouEq k) (ouGt k) L).1, .bool (placeP (ouEq k) (ouGt k) L).2] ∧ H' = Hc := by
  refine Spec.of3 Try.func45 rfl rfl fun X w0 => ?_
  refine jc rfl rfl ?_
  refine jr rfl ?_
  refine oE (ev_box (cs := [ouK k]) rfl (by constructor)) rfl ?_
  rintro _ _ _ _ ⟨rfl, b4, rfl, rfl⟩
  refine oPersist fun hh hA hd => ?_
  have h4 := blk_cells hA hd
  have hF1 := PH.le_l F hh
  generalize F.un hh = F1 at *
  refine oE (ev_box (cs := [fnV 43 []]) rfl .func) rfl ?_
  rintro _ _ _ _ ⟨rfl, b5, rfl, rfl⟩
  refine oPersist fun hh hA hd => ?_
  have h5 := blk_cells hA hd
  have hF2 := PH.le_l F1 hh
  replace h4 := h4.mono hF2
  generalize F1.un hh = F2 at *
  unfold placeP
  repeat (first|refine zJ rfl rfl ?_|refine jr rfl ?_|refine jn ?_|refine zM rfl rfl ?_|(refine zC rfl rfl ?_ rfl ?_;omega)|(refine zD rfl rfl ?_ rfl ?_;omega)|(refine zP rfl ?_ rfl ?_;omega)|refine zG rfl rfl rfl rfl ?_|(refine jdq rfl rfl ?_ ?_ ?_;kernel_rfl;kernel_rfl)|refine zB rfl rfl rfl (by repeat constructor) rfl ?_|refine zH .here rfl rfl rfl rfl ?_|refine zH (.there .here) rfl rfl rfl rfl ?_|refine zH (.there (.there .here)) rfl rfl rfl rfl ?_)
  refine oS (ev_makeFunc (vs := [.pointer (some ⟨b5, 0, none⟩), .pointer (some ⟨b4, 0, none⟩)]) rfl) rfl ?_
  refine oC (Hc := Hc) (Hr := X) (ou_idx_spec 79 [.pointer (some ⟨b5, 0, none⟩), .pointer (some ⟨b4, 0, none⟩)] (ouEq k) a c L F2 Hc hn (hrd F2 (hF1.trans hF2)) Try.call79 (fun y _ => ou_at1_spec y k b5 b4 F2 h5 h4)) Try.call78 rfl rfl (fun _ s => s) ?_
  rintro _ _ H1 _ ⟨rfl, rfl, eH⟩
  rw [eH]
  generalize idxP (ouEq k) L 0 = i1 at *
  by_cases h1 : 0 ≤ i1
  · rw [if_pos h1]
    repeat (first|refine zJ rfl rfl ?_|refine jr rfl ?_|refine jn ?_|refine zM rfl rfl ?_|(refine zC rfl rfl ?_ rfl ?_;omega)|(refine zD rfl rfl ?_ rfl ?_;omega)|(refine zP rfl ?_ rfl ?_;omega)|refine zG rfl rfl rfl rfl ?_|(refine jdq rfl rfl ?_ ?_ ?_;kernel_rfl;kernel_rfl)|refine zB rfl rfl rfl (by repeat constructor) rfl ?_|refine zH .here rfl rfl rfl rfl ?_|refine zH (.there .here) rfl rfl rfl rfl ?_|refine zH (.there (.there .here)) rfl rfl rfl rfl ?_)
    exact J_retv (vs := [.int .i64 i1, .bool true]) rfl (.tmp rfl (.tmp rfl .nil)) Hc (fun w s => s) (hF1.trans hF2) ⟨rfl, rfl⟩
  rw [if_neg h1]
  repeat (first|refine zJ rfl rfl ?_|refine jr rfl ?_|refine jn ?_|refine zM rfl rfl ?_|(refine zC rfl rfl ?_ rfl ?_;omega)|(refine zD rfl rfl ?_ rfl ?_;omega)|(refine zP rfl ?_ rfl ?_;omega)|refine zG rfl rfl rfl rfl ?_|(refine jdq rfl rfl ?_ ?_ ?_;kernel_rfl;kernel_rfl)|refine zB rfl rfl rfl (by repeat constructor) rfl ?_|refine zH .here rfl rfl rfl rfl ?_|refine zH (.there .here) rfl rfl rfl rfl ?_|refine zH (.there (.there .here)) rfl rfl rfl rfl ?_)
  refine oS (ev_makeFunc (vs := [.pointer (some ⟨b5, 0, none⟩), .pointer (some ⟨b4, 0, none⟩)]) rfl) rfl ?_
  refine oC (Hc := Hc) (Hr := X) (ou_idx_spec 80 [.pointer (some ⟨b5, 0, none⟩), .pointer (some ⟨b4, 0, none⟩)] (ouGt k) a c L F2 Hc hn (hrd F2 (hF1.trans hF2)) Try.call80 (fun y _ => ou_at2_spec y k b5 b4 F2 h5 h4)) Try.call78 rfl rfl (fun _ s => s) ?_
  rintro _ _ H1 _ ⟨rfl, rfl, eH⟩
  rw [eH]
  generalize idxP (ouGt k) L 0 = i2 at *
  by_cases h2 : 0 ≤ i2
  · rw [if_pos h2]
    repeat (first|refine zJ rfl rfl ?_|refine jr rfl ?_|refine jn ?_|refine zM rfl rfl ?_|(refine zC rfl rfl ?_ rfl ?_;omega)|(refine zD rfl rfl ?_ rfl ?_;omega)|(refine zP rfl ?_ rfl ?_;omega)|refine zG rfl rfl rfl rfl ?_|(refine jdq rfl rfl ?_ ?_ ?_;kernel_rfl;kernel_rfl)|refine zB rfl rfl rfl (by repeat constructor) rfl ?_|refine zH .here rfl rfl rfl rfl ?_|refine zH (.there .here) rfl rfl rfl rfl ?_|refine zH (.there (.there .here)) rfl rfl rfl rfl ?_)
    exact J_retv (vs := [.int .i64 i2, .bool false]) rfl (.tmp rfl (.tmp rfl .nil)) Hc (fun w s => s) (hF1.trans hF2) ⟨rfl, rfl⟩
  · rw [if_neg h2]
    repeat (first|refine zJ rfl rfl ?_|refine jr rfl ?_|refine jn ?_|refine zM rfl rfl ?_|(refine zC rfl rfl ?_ rfl ?_;omega)|(refine zD rfl rfl ?_ rfl ?_;omega)|(refine zP rfl ?_ rfl ?_;omega)|refine zG rfl rfl rfl rfl ?_|(refine jdq rfl rfl ?_ ?_ ?_;kernel_rfl;kernel_rfl)|refine zB rfl rfl rfl (by repeat constructor) rfl ?_|refine zH .here rfl rfl rfl rfl ?_|refine zH (.there .here) rfl rfl rfl rfl ?_|refine zH (.there (.there .here)) rfl rfl rfl rfl ?_)
    exact J_retv (vs := [.int .i64 L.length, .bool false]) rfl (.tmp rfl (.tmp rfl .nil)) Hc (fun w s => s) (hF1.trans hF2) ⟨rfl, rfl⟩
set_option maxHeartbeats 8000000 in 
  theorem ouIns_raw (v : Value) (n i bv : Nat) (xs vc : List Value) (F : PH) (hi : i ≤ n) (hn : n ≤ 1000) (h1 : Ones xs) (h1v : Ones vc) (hvl : vc.length = 3) : 
      Spec Try.prog 74 [v, .int .i64 i, .slice (some ⟨bv, 0, none⟩) 1 1] F [own v 39 3 n xs, blk bv 39 vc] fun u _ H' => H' = [own u 39 3 (n + 1) (xs.take (i * 3) ++ vc ++ xs.drop (i * 3))] := by 
    refine Spec.of3 Try.func74 rfl rfl fun X w0 => ?_ 
    dsimp only [List.cons_append, List.nil_append] 
    refine jOwnA .here fun a c hv hnc hcm hxl ha => ?_ 
    subst hv 
    have hrv : ∀ (F : PH) (A : Asrt) (H : List Asrt), RdS F (A :: blk bv 39 vc :: H) 3 (.slice (some ⟨bv, 0, none⟩) 1 1) 1 vc := fun F A H => RdS.blk (.there .here) (by rw [hvl]) (by rw [List.drop_zero, List.take_length]) (Nat.le_refl _) 
    have hvt : vc.take (1 * 3) = vc := by rw [Nat.one_mul, ← hvl, List.take_length] 
    (repeat (first|refine zJ rfl rfl ?_|refine jr rfl ?_|refine jn ?_|refine zM rfl rfl ?_|(refine zC rfl rfl ?_ rfl ?_;omega)|(refine zD rfl rfl ?_ rfl ?_;omega)|(refine zP rfl ?_ rfl ?_;omega)|refine zG rfl rfl rfl rfl ?_|(refine jdq rfl rfl ?_ ?_ ?_;kernel_rfl;kernel_rfl)|refine zB rfl rfl rfl (by repeat constructor) rfl ?_|refine zH .here rfl rfl rfl rfl ?_|refine zH (.there .here) rfl rfl rfl rfl ?_|refine zH (.there (.there .here)) rfl rfl rfl rfl ?_)) 
    refine oS (ev_slice_lo rfl rfl rfl hi) rfl ?_ 
    (repeat (first|refine zJ rfl rfl ?_|refine jr rfl ?_|refine jn ?_|refine zM rfl rfl ?_|(refine zC rfl rfl ?_ rfl ?_;omega)|(refine zD rfl rfl ?_ rfl ?_;omega)|(refine zP rfl ?_ rfl ?_;omega)|refine zG rfl rfl rfl rfl ?_|(refine jdq rfl rfl ?_ ?_ ?_;kernel_rfl;kernel_rfl)|refine zB rfl rfl rfl (by repeat constructor) rfl ?_|refine zH .here rfl rfl rfl rfl ?_|refine zH (.there .here) rfl rfl rfl rfl ?_|refine zH (.there (.there .here)) rfl rfl rfl rfl ?_)) 
    by_cases hin : i = n 
    · subst hin 
      (repeat (first|refine zJ rfl rfl ?_|refine jr rfl ?_|refine jn ?_|refine zM rfl rfl ?_|(refine zC rfl rfl ?_ rfl ?_;omega)|(refine zD rfl rfl ?_ rfl ?_;omega)|(refine zP rfl ?_ rfl ?_;omega)|refine zG rfl rfl rfl rfl ?_|(refine jdq rfl rfl ?_ ?_ ?_;kernel_rfl;kernel_rfl)|refine zB rfl rfl rfl (by repeat constructor) rfl ?_|refine zH .here rfl rfl rfl rfl ?_|refine zH (.there .here) rfl rfl rfl rfl ?_|refine zH (.there (.there .here)) rfl rfl rfl rfl ?_)) 
      rw [decide_eq_true (show (i : Int) = (i : Int) from rfl)] 
      (repeat (first|refine zJ rfl rfl ?_|refine jr rfl ?_|refine jn ?_|refine zM rfl rfl ?_|(refine zC rfl rfl ?_ rfl ?_;omega)|(refine zD rfl rfl ?_ rfl ?_;omega)|(refine zP rfl ?_ rfl ?_;omega)|refine zG rfl rfl rfl rfl ?_|(refine jdq rfl rfl ?_ ?_ ?_;kernel_rfl;kernel_rfl)|refine zB rfl rfl rfl (by repeat constructor) rfl ?_|refine zH .here rfl rfl rfl rfl ?_|refine zH (.there .here) rfl rfl rfl rfl ?_|refine zH (.there (.there .here)) rfl rfl rfl rfl ?_)) 
      refine oE (ev_append_s (n := i) (m := 1) (bytes := 24) (xs := xs) (news := vc) (K := fun v' => own v' 39 3 (i + 1) (xs ++ vc) :: blk bv 39 vc :: X) rfl rfl ou_el (hrv _ _ _) h1v (by omega) (fun v' => .here)) rfl ?_ 
      rintro u _ _ _ ⟨rfl, _, rfl⟩ 
      (repeat (first|refine zJ rfl rfl ?_|refine jr rfl ?_|refine jn ?_|refine zM rfl rfl ?_|(refine zC rfl rfl ?_ rfl ?_;omega)|(refine zD rfl rfl ?_ rfl ?_;omega)|(refine zP rfl ?_ rfl ?_;omega)|refine zG rfl rfl rfl rfl ?_|(refine jdq rfl rfl ?_ ?_ ?_;kernel_rfl;kernel_rfl)|refine zB rfl rfl rfl (by repeat constructor) rfl ?_|refine zH .here rfl rfl rfl rfl ?_|refine zH (.there .here) rfl rfl rfl rfl ?_|refine zH (.there (.there .here)) rfl rfl rfl rfl ?_)) 
      exact J_retv rfl (.tmp rfl .nil) [_] (fun w s => Sat.drop2 s) (PH.ler _) (by rw [List.take_of_length_le (by omega), List.drop_eq_nil_of_le (by omega), List.append_nil]; rfl) 
    have hne : ¬ ((i : Int) = (n : Int)) := by omega 
    obtain ⟨g, rfl⟩ := ha (by omega) 
    by_cases hroom : n + 1 ≤ c 
    · (repeat (first|refine zJ rfl rfl ?_|refine jr rfl ?_|refine jn ?_|refine zM rfl rfl ?_|(refine zC rfl rfl ?_ rfl ?_;omega)|(refine zD rfl rfl ?_ rfl ?_;omega)|(refine zP rfl ?_ rfl ?_;omega)|refine zG rfl rfl rfl rfl ?_|(refine jdq rfl rfl ?_ ?_ ?_;kernel_rfl;kernel_rfl)|refine zB rfl rfl rfl (by repeat constructor) rfl ?_|refine zH .here rfl rfl rfl rfl ?_|refine zH (.there .here) rfl rfl rfl rfl ?_|refine zH (.there (.there .here)) rfl rfl rfl rfl ?_)) 
      rw [decide_eq_false hne] 
      (repeat (first|refine zJ rfl rfl ?_|refine jr rfl ?_|refine jn ?_|refine zM rfl rfl ?_|(refine zC rfl rfl ?_ rfl ?_;omega)|(refine zD rfl rfl ?_ rfl ?_;omega)|(refine zP rfl ?_ rfl ?_;omega)|refine zG rfl rfl rfl rfl ?_|(refine jdq rfl rfl ?_ ?_ ?_;kernel_rfl;kernel_rfl)|refine zB rfl rfl rfl (by repeat constructor) rfl ?_|refine zH .here rfl rfl rfl rfl ?_|refine zH (.there .here) rfl rfl rfl rfl ?_|refine zH (.there (.there .here)) rfl rfl rfl rfl ?_)) 
      refine oS (ev_slice_hi (h := n + 1) rfl rfl rfl hroom) rfl ?_ 
      refine o_own_more (n' := n + 1) (by omega) hroom fun ys hyl => ?_ 
      rw [Nat.add_sub_cancel_left, Nat.one_mul] at hyl 
      have hcut : cutV (some ⟨g, 0, none⟩) 3 c (i + 1) (n + 1) c = .slice (some ⟨g, (i + 1) * 3, none⟩) (n + 1 - (i + 1)) (c - (i + 1)) := by 
        unfold cutV 
        rw [if_neg (by omega)] 
        simp [adr_add] 
      (repeat (first|refine zJ rfl rfl ?_|refine jr rfl ?_|refine jn ?_|refine zM rfl rfl ?_|(refine zC rfl rfl ?_ rfl ?_;omega)|(refine zD rfl rfl ?_ rfl ?_;omega)|(refine zP rfl ?_ rfl ?_;omega)|refine zG rfl rfl rfl rfl ?_|(refine jdq rfl rfl ?_ ?_ ?_;kernel_rfl;kernel_rfl)|refine zB rfl rfl rfl (by repeat constructor) rfl ?_|refine zH .here rfl rfl rfl rfl ?_|refine zH (.there .here) rfl rfl rfl rfl ?_|refine zH (.there (.there .here)) rfl rfl rfl rfl ?_)) 
      refine oS (ev_slice_lo (lo := i + 1) rfl rfl rfl (by omega)) rfl ?_ 
      refine oS (ev_overlaps rfl rfl (congrArg some hcut) Try.func85 (by kernel_rfl) rfl (by kernel_rfl) (by kernel_rfl) (tS := 25) (tR := 4) rfl (.there .here) .here (by omega)) rfl ?_ 
      (repeat (first|refine zJ rfl rfl ?_|refine jr rfl ?_|refine jn ?_|refine zM rfl rfl ?_|(refine zC rfl rfl ?_ rfl ?_;omega)|(refine zD rfl rfl ?_ rfl ?_;omega)|(refine zP rfl ?_ rfl ?_;omega)|refine zG rfl rfl rfl rfl ?_|(refine jdq rfl rfl ?_ ?_ ?_;kernel_rfl;kernel_rfl)|refine zB rfl rfl rfl (by repeat constructor) rfl ?_|refine zH .here rfl rfl rfl rfl ?_|refine zH (.there .here) rfl rfl rfl rfl ?_|refine zH (.there (.there .here)) rfl rfl rfl rfl ?_)) 
      refine ja PH.emp [] ?_ (fun w s => s.any) ?_; kernel_rfl 
      refine aL (fun o => o.dropLast) [8] [0, 1, 2, 3, 4, 5, 6, 7] 1 rfl ?_ ?_ ?_ ?_ ?_ ?_; kernel_rfl; kernel_rfl; kernel_rfl; kernel_rfl; kernel_rfl; dsimp only [List.dropLast] 
      (repeat (first|refine zJ rfl rfl ?_|refine jr rfl ?_|refine jn ?_|refine zM rfl rfl ?_|(refine zC rfl rfl ?_ rfl ?_;omega)|(refine zD rfl rfl ?_ rfl ?_;omega)|(refine zP rfl ?_ rfl ?_;omega)|refine zG rfl rfl rfl rfl ?_|(refine jdq rfl rfl ?_ ?_ ?_;kernel_rfl;kernel_rfl)|refine zB rfl rfl rfl (by repeat constructor) rfl ?_|refine zH .here rfl rfl rfl rfl ?_|refine zH (.there .here) rfl rfl rfl rfl ?_|refine zH (.there (.there .here)) rfl rfl rfl rfl ?_)) 
      refine oS (ev_slice_lo (lo := i + 1) rfl rfl rfl (by omega)) rfl ?_ 
      (repeat (first|refine zJ rfl rfl ?_|refine jr rfl ?_|refine jn ?_|refine zM rfl rfl ?_|(refine zC rfl rfl ?_ rfl ?_;omega)|(refine zD rfl rfl ?_ rfl ?_;omega)|(refine zP rfl ?_ rfl ?_;omega)|refine zG rfl rfl rfl rfl ?_|(refine jdq rfl rfl ?_ ?_ ?_;kernel_rfl;kernel_rfl)|refine zB rfl rfl rfl (by repeat constructor) rfl ?_|refine zH .here rfl rfl rfl rfl ?_|refine zH (.there .here) rfl rfl rfl rfl ?_|refine zH (.there (.there .here)) rfl rfl rfl rfl ?_)) 
      refine oS (ev_slice_lo (lo := i) rfl rfl rfl (by omega)) rfl ?_ 
      refine jn ?_ 
      refine aR ?_ 
      have hxy : (xs ++ ys).length = (n + 1) * 3 := by rw [List.length_append, hxl, hyl, Nat.add_mul] 
      have hD : (((xs ++ ys).drop (i * 3)).take ((n - i) * 3)) = xs.drop (i * 3) := by 
        rw [List.drop_append_of_le_length (by omega)] 
        have : (n - i) * 3 = (xs.drop (i * 3)).length := by rw [List.length_drop, hxl]; omega 
        rw [this, List.take_left] 
      have hsplit : xs ++ ys = xs.take (i * 3) ++ (((xs ++ ys).drop (i * 3)).take 3 ++ (xs ++ ys).drop ((i + 1) * 3)) := by 
        have e1 : xs.take (i * 3) = (xs ++ ys).take (i * 3) := by rw [List.take_append_of_le_length (by omega)] 
        have e2 : (xs ++ ys).drop ((i + 1) * 3) = ((xs ++ ys).drop (i * 3)).drop 3 := by rw [List.drop_drop]; congr 1; omega 
        rw [e1, e2, List.take_append_drop, List.take_append_drop] 
      have hB1 : (((xs ++ ys).drop (i * 3)).take 3).length = 3 := by rw [List.length_take, List.length_drop, hxy]; omega 
      have hA1 : (xs.take (i * 3)).length = i * 3 := by rw [List.length_take, hxl]; omega 
      have hD1 : (xs.drop (i * 3)).length = (n - i) * 3 := by rw [List.length_drop, hxl]; omega 
      have hB2 : ((xs ++ ys).drop ((i + 1) * 3)).length = (n - i) * 3 := by rw [List.length_drop, hxy]; omega 
      have hDo : Ones (xs.drop (i * 3)) := fun v hv => h1 v (List.mem_of_mem_drop hv) 
      generalize ((xs ++ ys).drop (i * 3)).take 3 = B1 at hsplit hB1 
      generalize (xs ++ ys).drop ((i + 1) * 3) = B2 at hsplit hB2 
      have hlay1 : Lay ((i + 1) * 3) (xs.drop (i * 3)) (xs ++ ys) (xs.take (i * 3) ++ (B1 ++ xs.drop (i * 3))) := by 
        rw [hsplit, ← List.append_assoc, ← List.append_assoc] 
        have := layP (xs.take (i * 3) ++ B1) (lay_all (vs := xs.drop (i * 3)) (zs := B2) (by omega)) 
        rw [List.length_append, hA1, hB1] at this 
        rwa [show (i + 1) * 3 = i * 3 + 3 + 0 from by omega] 
      have hlay2 : Lay (i * 3) vc (xs.take (i * 3) ++ (B1 ++ xs.drop (i * 3))) (xs.take (i * 3) ++ (vc ++ xs.drop (i * 3))) := by 
        have := layP (xs.take (i * 3)) (layM (vs := vc) (zs := B1) (xs.drop (i * 3)) (by omega)) 
        rwa [hA1, Nat.add_zero] at this 
      refine aB (i := 8) (by kernel_rfl) (aE rfl (ev_copy_own (lo := i + 1) (n := n + 1) (k := n - i) rfl rfl rfl (rds_lo (n := n + 1) .here hroom hxy (by omega)) (by rw [hD]; exact hDo) (by omega) ((Nat.min_eq_right (by omega)).trans (by omega)) (by rw [hD]; exact hlay1) .here) rfl rfl (fun _ _ _ _ _ w s => s.any) ?_) 
      rintro _ _ _ _ ⟨rfl, rfl, rfl⟩ 
      refine aD (by kernel_rfl) ?_ 
      (repeat (first|refine zJ rfl rfl ?_|refine jr rfl ?_|refine jn ?_|refine zM rfl rfl ?_|(refine zC rfl rfl ?_ rfl ?_;omega)|(refine zD rfl rfl ?_ rfl ?_;omega)|(refine zP rfl ?_ rfl ?_;omega)|refine zG rfl rfl rfl rfl ?_|(refine jdq rfl rfl ?_ ?_ ?_;kernel_rfl;kernel_rfl)|refine zB rfl rfl rfl (by repeat constructor) rfl ?_|refine zH .here rfl rfl rfl rfl ?_|refine zH (.there .here) rfl rfl rfl rfl ?_|refine zH (.there (.there .here)) rfl rfl rfl rfl ?_)) 
      refine oS (ev_slice_lo (lo := i) rfl rfl rfl (by omega)) rfl ?_ 
      (repeat (first|refine zJ rfl rfl ?_|refine jr rfl ?_|refine jn ?_|refine zM rfl rfl ?_|(refine zC rfl rfl ?_ rfl ?_;omega)|(refine zD rfl rfl ?_ rfl ?_;omega)|(refine zP rfl ?_ rfl ?_;omega)|refine zG rfl rfl rfl rfl ?_|(refine jdq rfl rfl ?_ ?_ ?_;kernel_rfl;kernel_rfl)|refine zB rfl rfl rfl (by repeat constructor) rfl ?_|refine zH .here rfl rfl rfl rfl ?_|refine zH (.there .here) rfl rfl rfl rfl ?_|refine zH (.there (.there .here)) rfl rfl rfl rfl ?_)) 
      refine oE (ev_copy_own (lo := i) (n := n + 1) (m := 1) (k := 1) rfl rfl rfl (hrv _ _ _) (by rw [hvt]; exact h1v) (by omega) (Nat.min_eq_left (by omega)) (by rw [hvt]; exact hlay2) .here) rfl ?_ 
      rintro _ _ _ _ ⟨rfl, rfl, rfl⟩ 
      (repeat (first|refine zJ rfl rfl ?_|refine jr rfl ?_|refine jn ?_|refine zM rfl rfl ?_|(refine zC rfl rfl ?_ rfl ?_;omega)|(refine zD rfl rfl ?_ rfl ?_;omega)|(refine zP rfl ?_ rfl ?_;omega)|refine zG rfl rfl rfl rfl ?_|(refine jdq rfl rfl ?_ ?_ ?_;kernel_rfl;kernel_rfl)|refine zB rfl rfl rfl (by repeat constructor) rfl ?_|refine zH .here rfl rfl rfl rfl ?_|refine zH (.there .here) rfl rfl rfl rfl ?_|refine zH (.there (.there .here)) rfl rfl rfl rfl ?_)) 
      exact J_retv rfl (.tmp rfl .nil) [_] (fun w s => Sat.drop2 s) (PH.ler _) (by rw [List.append_assoc]; rfl) 
    · (repeat (first|refine zJ rfl rfl ?_|refine jr rfl ?_|refine jn ?_|refine zM rfl rfl ?_|(refine zC rfl rfl ?_ rfl ?_;omega)|(refine zD rfl rfl ?_ rfl ?_;omega)|(refine zP rfl ?_ rfl ?_;omega)|refine zG rfl rfl rfl rfl ?_|(refine jdq rfl rfl ?_ ?_ ?_;kernel_rfl;kernel_rfl)|refine zB rfl rfl rfl (by repeat constructor) rfl ?_|refine zH .here rfl rfl rfl rfl ?_|refine zH (.there .here) rfl rfl rfl rfl ?_|refine zH (.there (.there .here)) rfl rfl rfl rfl ?_)) 
      rw [decide_eq_false hne] 
      (repeat (first|refine zJ rfl rfl ?_|refine jr rfl ?_|refine jn ?_|refine zM rfl rfl ?_|(refine zC rfl rfl ?_ rfl ?_;omega)|(refine zD rfl rfl ?_ rfl ?_;omega)|(refine zP rfl ?_ rfl ?_;omega)|refine zG rfl rfl rfl rfl ?_|(refine jdq rfl rfl ?_ ?_ ?_;kernel_rfl;kernel_rfl)|refine zB rfl rfl rfl (by repeat constructor) rfl ?_|refine zH .here rfl rfl rfl rfl ?_|refine zH (.there .here) rfl rfl rfl rfl ?_|refine zH (.there (.there .here)) rfl rfl rfl rfl ?_)) 
      refine oS (ev_slice_hi (h := i) rfl rfl rfl (by omega)) rfl ?_ 
      (repeat (first|refine zJ rfl rfl ?_|refine jr rfl ?_|refine jn ?_|refine zM rfl rfl ?_|(refine zC rfl rfl ?_ rfl ?_;omega)|(refine zD rfl rfl ?_ rfl ?_;omega)|(refine zP rfl ?_ rfl ?_;omega)|refine zG rfl rfl rfl rfl ?_|(refine jdq rfl rfl ?_ ?_ ?_;kernel_rfl;kernel_rfl)|refine zB rfl rfl rfl (by repeat constructor) rfl ?_|refine zH .here rfl rfl rfl rfl ?_|refine zH (.there .here) rfl rfl rfl rfl ?_|refine zH (.there (.there .here)) rfl rfl rfl rfl ?_)) 
      refine oE (ev_append_zeros_fresh (n := i) (m := n + 1 - i) (bytes := 24) rfl (show opv _ _ = _ from congrArg (fun z : Int => some (Value.int .i64 z)) (by omega)) ou_el Try.underlying3 (rds_hi .here hnc hxl hi) (by omega) (by omega) (by omega)) rfl ?_ 
      rintro u _ _ _ ⟨rfl, rfl⟩ 
      rw [show i + (n + 1 - i) = n + 1 from by omega] 
      have hZl : ((List.replicate (n + 1 - i) (Value.cells _).toList).flatten).length = (n + 1 - i) * 3 := zeros_len ou_el (n + 1 - i) 
      generalize (List.replicate (n + 1 - i) (Value.cells _).toList).flatten = Z at * 
      refine oOwnA .here fun a2 c' hu hnc' hcm' hl' ha2 => ?_ 
      subst hu 
      obtain ⟨g', rfl⟩ := ha2 (by omega) 
      (repeat (first|refine zJ rfl rfl ?_|refine jr rfl ?_|refine jn ?_|refine zM rfl rfl ?_|(refine zC rfl rfl ?_ rfl ?_;omega)|(refine zD rfl rfl ?_ rfl ?_;omega)|(refine zP rfl ?_ rfl ?_;omega)|refine zG rfl rfl rfl rfl ?_|(refine jdq rfl rfl ?_ ?_ ?_;kernel_rfl;kernel_rfl)|refine zB rfl rfl rfl (by repeat constructor) rfl ?_|refine zH .here rfl rfl rfl rfl ?_|refine zH (.there .here) rfl rfl rfl rfl ?_|refine zH (.there (.there .here)) rfl rfl rfl rfl ?_)) 
      refine oS (ev_slice_lo (lo := i) rfl rfl rfl (by omega)) rfl ?_ 
      (repeat (first|refine zJ rfl rfl ?_|refine jr rfl ?_|refine jn ?_|refine zM rfl rfl ?_|(refine zC rfl rfl ?_ rfl ?_;omega)|(refine zD rfl rfl ?_ rfl ?_;omega)|(refine zP rfl ?_ rfl ?_;omega)|refine zG rfl rfl rfl rfl ?_|(refine jdq rfl rfl ?_ ?_ ?_;kernel_rfl;kernel_rfl)|refine zB rfl rfl rfl (by repeat constructor) rfl ?_|refine zH .here rfl rfl rfl rfl ?_|refine zH (.there .here) rfl rfl rfl rfl ?_|refine zH (.there (.there .here)) rfl rfl rfl rfl ?_)) 
      have hA1 : (xs.take (i * 3)).length = i * 3 := by rw [List.length_take, hxl]; omega 
      have hD1 : (xs.drop (i * 3)).length = (n - i) * 3 := by rw [List.length_drop, hxl]; omega 
      have hDo : Ones (xs.drop (i * 3)) := fun v hv => h1 v (List.mem_of_mem_drop hv) 
      have hZ1 : (Z.take 3).length = 3 := by rw [List.length_take, hZl]; omega 
      have hZ2 : (Z.drop 3).length = (n - i) * 3 := by rw [List.length_drop, hZl]; omega 
      have hZs : Z = Z.take 3 ++ Z.drop 3 := (List.take_append_drop _ _).symm 
      have hDt : (xs.drop (i * 3)).take ((n - i) * 3) = xs.drop (i * 3) := by rw [← hD1, List.take_length] 
      generalize Z.take 3 = B1 at hZ1 hZs 
      generalize Z.drop 3 = B2 at hZ2 hZs 
      have hlay1 : Lay (i * 3) vc (xs.take (i * 3) ++ Z) (xs.take (i * 3) ++ (vc ++ B2)) := by 
        rw [hZs] 
        have := layP (xs.take (i * 3)) (layM (vs := vc) (zs := B1) B2 (by omega)) 
        rwa [hA1, Nat.add_zero] at this 
      have hlay2 : Lay ((i + 1) * 3) (xs.drop (i * 3)) (xs.take (i * 3) ++ (vc ++ B2)) (xs.take (i * 3) ++ (vc ++ xs.drop (i * 3))) := by 
        rw [← List.append_assoc, ← List.append_assoc] 
        have := layP (xs.take (i * 3) ++ vc) (lay_all (vs := xs.drop (i * 3)) (zs := B2) (by omega)) 
        rw [List.length_append, hA1, hvl] at this 
        rwa [show (i + 1) * 3 = i * 3 + 3 + 0 from by omega] 
      refine oE (ev_copy_own (lo := i) (n := n + 1) (m := 1) (k := 1) rfl rfl rfl (RdS.blk (.there (.there .here)) (by rw [hvl]) (by rw [List.drop_zero, List.take_length]) (Nat.le_refl _)) (by rw [hvt]; exact h1v) (by omega) (Nat.min_eq_left (by omega)) (by rw [hvt]; exact hlay1) .here) rfl ?_ 
      rintro _ _ _ _ ⟨rfl, rfl, rfl⟩ 
      (repeat (first|refine zJ rfl rfl ?_|refine jr rfl ?_|refine jn ?_|refine zM rfl rfl ?_|(refine zC rfl rfl ?_ rfl ?_;omega)|(refine zD rfl rfl ?_ rfl ?_;omega)|(refine zP rfl ?_ rfl ?_;omega)|refine zG rfl rfl rfl rfl ?_|(refine jdq rfl rfl ?_ ?_ ?_;kernel_rfl;kernel_rfl)|refine zB rfl rfl rfl (by repeat constructor) rfl ?_|refine zH .here rfl rfl rfl rfl ?_|refine zH (.there .here) rfl rfl rfl rfl ?_|refine zH (.there (.there .here)) rfl rfl rfl rfl ?_)) 
      refine ja PH.emp [] ?_ (fun w s => s.any) ?_; kernel_rfl 
      refine aL (fun o => o.dropLast) [8] [0, 1, 2, 3, 4, 5, 6, 7] 1 rfl ?_ ?_ ?_ ?_ ?_ ?_; kernel_rfl; kernel_rfl; kernel_rfl; kernel_rfl; kernel_rfl; dsimp only [List.dropLast] 
      (repeat (first|refine zJ rfl rfl ?_|refine jr rfl ?_|refine jn ?_|refine zM rfl rfl ?_|(refine zC rfl rfl ?_ rfl ?_;omega)|(refine zD rfl rfl ?_ rfl ?_;omega)|(refine zP rfl ?_ rfl ?_;omega)|refine zG rfl rfl rfl rfl ?_|(refine jdq rfl rfl ?_ ?_ ?_;kernel_rfl;kernel_rfl)|refine zB rfl rfl rfl (by repeat constructor) rfl ?_|refine zH .here rfl rfl rfl rfl ?_|refine zH (.there .here) rfl rfl rfl rfl ?_|refine zH (.there (.there .here)) rfl rfl rfl rfl ?_)) 
      refine oS (ev_slice_lo (lo := i + 1) rfl rfl rfl (by omega)) rfl ?_ 
      (repeat (first|refine zJ rfl rfl ?_|refine jr rfl ?_|refine jn ?_|refine zM rfl rfl ?_|(refine zC rfl rfl ?_ rfl ?_;omega)|(refine zD rfl rfl ?_ rfl ?_;omega)|(refine zP rfl ?_ rfl ?_;omega)|refine zG rfl rfl rfl rfl ?_|(refine jdq rfl rfl ?_ ?_ ?_;kernel_rfl;kernel_rfl)|refine zB rfl rfl rfl (by repeat constructor) rfl ?_|refine zH .here rfl rfl rfl rfl ?_|refine zH (.there .here) rfl rfl rfl rfl ?_|refine zH (.there (.there .here)) rfl rfl rfl rfl ?_)) 
      refine oS (ev_slice_lo (lo := i) rfl rfl rfl (by omega)) rfl ?_ 
      refine jn ?_ 
      refine aR ?_ 
      refine aB (i := 8) (by kernel_rfl) (aE rfl (ev_copy_own (lo := i + 1) (n := n + 1) (m := n - i) (k := n - i) rfl rfl rfl (rds_lo (.there .here) hnc hxl hi) (by rw [hDt]; exact hDo) (by omega) ((Nat.min_eq_right (by omega)).trans (by omega)) (by rw [hDt]; exact hlay2) .here) rfl rfl (fun _ _ _ _ _ w s => s.any) ?_) 
      rintro _ _ _ _ ⟨rfl, rfl, rfl⟩ 
      refine aD (by kernel_rfl) ?_ 
      (repeat (first|refine zJ rfl rfl ?_|refine jr rfl ?_|refine jn ?_|refine zM rfl rfl ?_|(refine zC rfl rfl ?_ rfl ?_;omega)|(refine zD rfl rfl ?_ rfl ?_;omega)|(refine zP rfl ?_ rfl ?_;omega)|refine zG rfl rfl rfl rfl ?_|(refine jdq rfl rfl ?_ ?_ ?_;kernel_rfl;kernel_rfl)|refine zB rfl rfl rfl (by repeat constructor) rfl ?_|refine zH .here rfl rfl rfl rfl ?_|refine zH (.there .here) rfl rfl rfl rfl ?_|refine zH (.there (.there .here)) rfl rfl rfl rfl ?_)) 
      exact J_retv rfl (.tmp rfl .nil) [_] (fun w s => Sat.drop2 (Sat.drop2 s)) (PH.ler _) (by rw [List.append_assoc]; rfl)
set_option maxHeartbeats 4000000 in
theorem ou_put_spec (v : Value) (L : List OuX) (x : OuX) (F : PH) (h : ouRow F v L) (hn : L.length ≤ 900) : Spec Try.prog 42 [v, .agg (ouC x).toArray, fnV 43 []] F [] fun u _ H' => H' = [ouO u (putP (ouEq x.1) (ouGt x.1) x L)] := by
  refine Spec.of3 Try.func42 rfl rfl fun X w0 => ?_
  refine jc rfl rfl ?_
  refine jr rfl ?_
  refine oE (ev_box rfl .agg) rfl ?_; rintro _ _ _ _ ⟨rfl, b4, rfl, rfl⟩
  repeat (first|refine zJ rfl rfl ?_|refine jr rfl ?_|refine jn ?_|refine zM rfl rfl ?_|(refine zC rfl rfl ?_ rfl ?_;omega)|(refine zD rfl rfl ?_ rfl ?_;omega)|(refine zP rfl ?_ rfl ?_;omega)|refine zG rfl rfl rfl rfl ?_|(refine jdq rfl rfl ?_ ?_ ?_;kernel_rfl;kernel_rfl)|refine zB rfl rfl rfl (by repeat constructor) rfl ?_|refine zH .here rfl rfl rfl rfl ?_|refine zH (.there .here) rfl rfl rfl rfl ?_|refine zH (.there (.there .here)) rfl rfl rfl rfl ?_)
  refine oC (Hc := []) (Hr := blk b4 39 (ouC x) :: X) (ou_clone_spec v L F h (by omega)) Try.call72 rfl rfl (fun _ s => s) ?_
  rintro u _ _ _ ⟨rfl, rfl⟩
  refine oOwnA .here fun a c hv hnc hcm hlen ha => ?_
  subst hv
  repeat (first|refine zJ rfl rfl ?_|refine jr rfl ?_|refine jn ?_|refine zM rfl rfl ?_|(refine zC rfl rfl ?_ rfl ?_;omega)|(refine zD rfl rfl ?_ rfl ?_;omega)|(refine zP rfl ?_ rfl ?_;omega)|refine zG rfl rfl rfl rfl ?_|(refine jdq rfl rfl ?_ ?_ ?_;kernel_rfl;kernel_rfl)|refine zB rfl rfl rfl (by repeat constructor) rfl ?_|refine zH .here rfl rfl rfl rfl ?_|refine zH (.there .here) rfl rfl rfl rfl ?_|refine zH (.there (.there .here)) rfl rfl rfl rfl ?_)
  refine oS (ev_load_agg (cs := ouC x) rfl rfl (Rdb.ofB (n := 0) (.there .here) rfl) (ou_len x)) rfl ?_
  refine oPF (caps := []) (vs := [.agg (ouC x).toArray]) rfl (ou_key_spec x F) Try.call43 rfl rfl ?_
  repeat (first|refine zJ rfl rfl ?_|refine jr rfl ?_|refine jn ?_|refine zM rfl rfl ?_|(refine zC rfl rfl ?_ rfl ?_;omega)|(refine zD rfl rfl ?_ rfl ?_;omega)|(refine zP rfl ?_ rfl ?_;omega)|refine zG rfl rfl rfl rfl ?_|(refine jdq rfl rfl ?_ ?_ ?_;kernel_rfl;kernel_rfl)|refine zB rfl rfl rfl (by repeat constructor) rfl ?_|refine zH .here rfl rfl rfl rfl ?_|refine zH (.there .here) rfl rfl rfl rfl ?_|refine zH (.there (.there .here)) rfl rfl rfl rfl ?_)
  refine oC (Hc := [own (.slice a L.length c) 39 3 L.length (rowC ouC L)]) (Hr := blk b4 39 (ouC x) :: X) (ou_place_spec x.1 a c L F [own (.slice a L.length c) 39 3 L.length (rowC ouC L)] (by omega) (fun G _ Y j y e => ?_)) Try.call45 rfl rfl (fun _ s => s) ?_
  · obtain ⟨b, rfl⟩ := ha (by have := (List.getElem?_eq_some_iff.1 e).1; omega)
    exact ⟨b, 0, rfl, rdb_row .here ou_len e⟩
  rintro _ F1 _ hF1 ⟨rfl, rfl⟩
  rcases place_cases (ouEq x.1) (ouGt x.1) x L with ⟨A, y, B, rfl, hy, hA, e1, e2⟩ | ⟨hno, A, B, rfl, e1, e2⟩
  · rw [e1, e2]
    have hAl : A.length < (A ++ y :: B).length := by rw [List.length_append, List.length_cons]; omega
    obtain ⟨b, rfl⟩ := ha (by omega)
    have hset : (A ++ y :: B).set A.length x = A ++ x :: B := by rw [List.set_append_right _ _ (Nat.le_refl _), Nat.sub_self]; rfl
    repeat (first|refine zJ rfl rfl ?_|refine jr rfl ?_|refine jn ?_|refine zM rfl rfl ?_|(refine zC rfl rfl ?_ rfl ?_;omega)|(refine zD rfl rfl ?_ rfl ?_;omega)|(refine zP rfl ?_ rfl ?_;omega)|refine zG rfl rfl rfl rfl ?_|(refine jdq rfl rfl ?_ ?_ ?_;kernel_rfl;kernel_rfl)|refine zB rfl rfl rfl (by repeat constructor) rfl ?_|refine zH .here rfl rfl rfl rfl ?_|refine zH (.there .here) rfl rfl rfl rfl ?_|refine zH (.there (.there .here)) rfl rfl rfl rfl ?_)
    refine oS (ev_load_agg (cs := ouC x) rfl rfl (Rdb.ofB (n := 0) (.there .here) rfl) (ou_len x)) rfl ?_
    refine oS (ev_indexAddr (i := A.length) rfl rfl rfl hAl) rfl ?_
    refine oN (ev_store_own rfl rfl .agg rfl (ou_len x) (by rw [Nat.zero_add]; exact lay_row ou_len x _ A.length hAl) (ou_ones x) .here) rfl ?_
    rintro _ _ _ _ ⟨rfl, _, rfl⟩
    rw [hset]
    repeat (first|refine zJ rfl rfl ?_|refine jr rfl ?_|refine jn ?_|refine zM rfl rfl ?_|(refine zC rfl rfl ?_ rfl ?_;omega)|(refine zD rfl rfl ?_ rfl ?_;omega)|(refine zP rfl ?_ rfl ?_;omega)|refine zG rfl rfl rfl rfl ?_|(refine jdq rfl rfl ?_ ?_ ?_;kernel_rfl;kernel_rfl)|refine zB rfl rfl rfl (by repeat constructor) rfl ?_|refine zH .here rfl rfl rfl rfl ?_|refine zH (.there .here) rfl rfl rfl rfl ?_|refine zH (.there (.there .here)) rfl rfl rfl rfl ?_)
    rw [show (A ++ y :: B).length = (A ++ x :: B).length from by simp]
    exact J_retv (vs := [.slice (some ⟨b, 0, none⟩) (A ++ x :: B).length c]) rfl (.tmp rfl .nil) [ouO (.slice (some ⟨b, 0, none⟩) (A ++ x :: B).length c) (A ++ x :: B)] (fun w s => (s.pm 2 [1, 0] rfl rfl).drop) hF1 rfl
  · rw [e1, e2]
    repeat (first|refine zJ rfl rfl ?_|refine jr rfl ?_|refine jn ?_|refine zM rfl rfl ?_|(refine zC rfl rfl ?_ rfl ?_;omega)|(refine zD rfl rfl ?_ rfl ?_;omega)|(refine zP rfl ?_ rfl ?_;omega)|refine zG rfl rfl rfl rfl ?_|(refine jdq rfl rfl ?_ ?_ ?_;kernel_rfl;kernel_rfl)|refine zB rfl rfl rfl (by repeat constructor) rfl ?_|refine zH .here rfl rfl rfl rfl ?_|refine zH (.there .here) rfl rfl rfl rfl ?_|refine zH (.there (.there .here)) rfl rfl rfl rfl ?_)
    refine oS (ev_load_agg (cs := ouC x) rfl rfl (Rdb.ofB (n := 0) (.there .here) rfl) (ou_len x)) rfl ?_
    refine oE (ev_one rfl .agg (ou_len x) ou_el) rfl ?_
    rintro _ _ _ _ ⟨rfl, bt, rfl, rfl⟩
    refine oC (Hc := [own (.slice a (A ++ B).length c) 39 3 (A ++ B).length (rowC ouC (A ++ B)), blk bt 39 (ouC x)]) (Hr := blk b4 39 (ouC x) :: X) (ouIns_raw (.slice a (A ++ B).length c) (A ++ B).length A.length bt (rowC ouC (A ++ B)) (ouC x) F1 (by rw [List.length_append]; omega) (by omega) (ou_rones _) (ou_ones x) (ou_len x)) Try.call74 rfl rfl (fun _ s => s.pm 3 [1, 0, 2] rfl rfl) ?_
    rintro u F2 _ hF2 rfl
    repeat (first|refine zJ rfl rfl ?_|refine jr rfl ?_|refine jn ?_|refine zM rfl rfl ?_|(refine zC rfl rfl ?_ rfl ?_;omega)|(refine zD rfl rfl ?_ rfl ?_;omega)|(refine zP rfl ?_ rfl ?_;omega)|refine zG rfl rfl rfl rfl ?_|(refine jdq rfl rfl ?_ ?_ ?_;kernel_rfl;kernel_rfl)|refine zB rfl rfl rfl (by repeat constructor) rfl ?_|refine zH .here rfl rfl rfl rfl ?_|refine zH (.there .here) rfl rfl rfl rfl ?_|refine zH (.there (.there .here)) rfl rfl rfl rfl ?_)
    refine J_retv (vs := [u]) rfl (.tmp rfl .nil) [own u 39 3 ((A ++ B).length + 1) ((rowC ouC (A ++ B)).take (A.length * 3) ++ ouC x ++ (rowC ouC (A ++ B)).drop (A.length * 3))] (fun w s => (s.pm 2 [1, 0] rfl rfl).drop) (hF1.trans hF2) ?_
    unfold ouO
    have h1 : (rowC ouC (A ++ B)).take (A.length * 3) = rowC ouC A := by rw [rowC_append, List.take_left' (rowC_len ou_len A)]
    have h2 : (rowC ouC (A ++ B)).drop (A.length * 3) = rowC ouC B := by rw [rowC_append, List.drop_left' (rowC_len ou_len A)]
    rw [h1, h2, show (A ++ B).length + 1 = (A ++ x :: B).length from by simp; omega, rowC_append A (x :: B), List.append_assoc]
    rfl
end Go.Proofs.Ytifdlhafcfbeaaa
namespace Go.Proofs.Ytifdlhafcfbeaaa
open Go.RowKit
set_option maxRecDepth 100000
abbrev LgX := Int × Int × List LtX × List OuX × Unit
def lgC (s t : Int) (vl vo : Value) : List Value := [.int .i64 s, .int .i64 t, vl, vo]
abbrev zLg : List Value := [.int .i64 0, .int .i64 0, .slice none 0 0, .slice none 0 0]
def nLg : LgX := (0, 0, [], [], ())
/-- A ledger, as it stands in memory. -/
def LgV (F : PH) (cs : List Value) (l : LgX) : Prop := ∃ vl vo, cs = lgC l.1 l.2.1 vl vo ∧ ltRow F vl l.2.2.1 ∧ ouRow F vo l.2.2.2.1
theorem LgV.mono {F G : PH} {cs : List Value} {l : LgX} (h : LgV F cs l) (hl : F.le G) : LgV G cs l := by
  obtain ⟨vl, vo, e, h1, h2⟩ := h
  exact ⟨vl, vo, e, h1.mono hl, h2.mono hl⟩
theorem LgV.nil (F : PH) : LgV F zLg nLg := ⟨_, _, rfl, ltRow.nil F, ouRow.nil F⟩
theorem lgC_ones {s t : Int} {a a' : Option Addr} {n c n' c' : Nat} : Ones (lgC s t (.slice a n c) (.slice a' n' c')) := by unfold lgC; (repeat (first | exact ones_nil | refine ones_cons rfl ?_))
theorem zLg_ones : Ones zLg := by unfold zLg; (repeat (first | exact ones_nil | refine ones_cons rfl ?_))
def blkW (b : Nat) (E : TypeId) (p : List Value → Prop) : Asrt := fun h => ∃ r, p r ∧ blk b E r h
theorem Sat.blkW {F : PH} {H : List Asrt} {b E : Nat} {r : List Value} {p : List Value → Prop} {w : World} (s : Sat F (blk b E r :: H) w) (h : p r) : Sat F [Go.Proofs.Ytifdlhafcfbeaaa.blkW b E p] w := (s.turn fun _ hA => ⟨r, h, hA⟩).head
theorem Rdb.ofW {F : PH} {b E off : Nat} {p : List Value → Prop} {cs : List Value} (h : ∀ r, p r → (r.drop off).take cs.length = cs) : Rdb F [blkW b E p] b off cs := fun w s => by
  obtain ⟨r, hr, hd, hl⟩ := s
  obtain ⟨h1, h2, ⟨r', hp, hb⟩, rfl, hdj, rfl⟩ := hr
  exact Rdb.ofB (F := F) (H := [blk b E r']) (Hr := []) (n := 0) .here (h r' hp) w ⟨_, ⟨h1, PH.emp, hb, rfl, hdj, rfl⟩, hd, hl⟩
/-- The last of four. -/
def lastV (v : Value) (r : List Value) : Prop := (r.drop 3).take 1 = [v]
def findP {α : Type} (z : α) (eqk : α → Bool) (L : List α) : α × Bool := match L.find? eqk with
  | some x => (x, true)
  | none => (z, false)
theorem findP_some {α : Type} {z y : α} {eqk : α → Bool} {A B : List α} (hy : eqk y = true) (hA : ∀ z ∈ A, eqk z = false) : findP z eqk (A ++ y :: B) = (y, true) := by
  unfold findP
  rw [List.find?_append, List.find?_eq_none.2 (fun z hz => by rw [hA z hz]; decide), List.find?_cons_of_pos hy]
  rfl
theorem findP_none {α : Type} {z : α} {eqk : α → Bool} {L : List α} (h : ∀ z ∈ L, eqk z = false) : findP z eqk L = (z, false) := by
  unfold findP
  rw [List.find?_eq_none.2 (fun z hz => by rw [h z hz]; decide)]
theorem findP_any {α : Type} {z : α} {eqk : α → Bool} {L : List α} : (findP z eqk L).2 = L.any eqk := by
  rcases idx_split eqk L 0 with ⟨_, hno⟩ | ⟨A, y, B, rfl, _, hy, hA⟩
  · rw [findP_none hno, any_no hno]
  · rw [findP_some hy hA, any_yes hy]
/-! copied -/
set_option maxHeartbeats 4000000 in
theorem copied_spec (l : LgX) (cs : List Value) (F : PH) (h : LgV F cs l) (hn : l.2.2.1.length ≤ 900) (hm : l.2.2.2.1.length ≤ 900) : Spec Try.prog 39 [.agg cs.toArray] F [] fun u F' H' => H' = [] ∧ ∃ cs', u = .agg cs'.toArray ∧ LgV F' cs' l := by
  obtain ⟨s, t, L, O, _⟩ := l
  obtain ⟨vl, vo, rfl, hL, hO⟩ := h
  dsimp only at hL hO hn hm ⊢
  refine Spec.of1 Try.func39 rfl rfl fun X w0 => ?_
  obtain ⟨al, cl, rfl, _⟩ := hL.form
  obtain ⟨ao, co, rfl, _⟩ := hO.form
  unfold lgC
  refine jc rfl rfl ?_
  refine jr rfl ?_
  refine oE (ev_box rfl .agg) rfl ?_; rintro _ _ _ _ ⟨rfl, b1, rfl, rfl⟩
  refine oE (ev_alloc (cs := zLg) rfl) rfl ?_
  rintro _ _ _ _ ⟨rfl, b2, rfl, rfl⟩
  repeat (first|refine zJ rfl rfl ?_|refine jr rfl ?_|refine jn ?_|refine zM rfl rfl ?_|(refine zC rfl rfl ?_ rfl ?_;omega)|(refine zD rfl rfl ?_ rfl ?_;omega)|(refine zP rfl ?_ rfl ?_;omega)|refine zG rfl rfl rfl rfl ?_|(refine jdq rfl rfl ?_ ?_ ?_;kernel_rfl;kernel_rfl)|refine zB rfl rfl rfl (by repeat constructor) rfl ?_|refine zH .here rfl rfl rfl rfl ?_|refine zH (.there .here) rfl rfl rfl rfl ?_|refine zH (.there (.there .here)) rfl rfl rfl rfl ?_)
  refine jaL F [blkW b1 27 (lastV (.slice ao O.length co))] rfl ?_ ?_ (fun w s => Sat.blkW (p := lastV (.slice ao O.length co)) s.drop rfl) ?_; kernel_rfl; kernel_rfl; dsimp only [List.dropLast]
  refine aT 0 rfl (ev_qe rfl) rfl rfl ?_ ?_ ?_ ?_; kernel_rfl; kernel_rfl; kernel_rfl
  refine aT 3 rfl (ev_qe rfl) rfl rfl ?_ ?_ ?_ ?_; kernel_rfl; kernel_rfl; kernel_rfl
  refine aT 4 rfl (ev_load (v := .slice ao O.length co) rfl rfl (Rdb.ofW fun r h => h)) rfl rfl ?_ ?_ ?_ ?_; kernel_rfl; kernel_rfl; kernel_rfl
  refine aB (i := 1) (by kernel_rfl) (aV rfl (ev_load (v := .slice al L.length cl) rfl rfl (Rdb.ofB (n := 2) (.there .here) rfl)) rfl rfl ?_)
  refine aB (i := 2) (by kernel_rfl) (aC (Hc := []) (Hr := blk b2 27 zLg :: blk b1 27 [.int .i64 s, .int .i64 t, .slice al L.length cl, .slice ao O.length co] :: X) rfl (lt_clone_spec _ L F hL (by omega)) Try.call71 rfl rfl rfl (fun _ s => s) (fun _ _ _ _ hq w s => by obtain ⟨rfl, rfl⟩ := hq; exact s.drop.drop.blkW rfl) ?_)
  rintro u1 _ _ _ ⟨rfl, rfl⟩
  refine aPersist fun hh hA hd => ?_
  have row1 := ltRow.of hA hd
  have hF1 := PH.le_l F hh
  generalize F.un hh = F1 at *
  refine aT 6 rfl (ev_qe rfl) rfl rfl ?_ ?_ ?_ ?_; kernel_rfl; kernel_rfl; kernel_rfl
  refine aB (i := 5) (by kernel_rfl) (aC (Hc := []) (Hr := blk b2 27 zLg :: blk b1 27 [.int .i64 s, .int .i64 t, .slice al L.length cl, .slice ao O.length co] :: X) rfl (ou_clone_spec _ O F1 (hO.mono hF1) (by omega)) Try.call72 rfl rfl rfl (fun _ s => s) (fun _ _ _ _ hq w s => by obtain ⟨rfl, rfl⟩ := hq; exact (Sat.blkW (p := lastV (.slice ao O.length co)) s.drop.drop rfl).mono hF1) ?_)
  rintro u2 _ _ _ ⟨rfl, rfl⟩
  refine aPersist fun hh hA hd => ?_
  have row2 := ouRow.of hA hd
  have hF2 := PH.le_l F1 hh
  generalize F1.un hh = F2 at *
  obtain ⟨a1, c1, rfl, _⟩ := row1.form
  obtain ⟨a2, c2, rfl, _⟩ := row2.form
  refine aB (i := 7) (by kernel_rfl) (aN rfl (ev_store (b := b1) (off := 0 + 2) (vs := [.slice a1 L.length c1]) rfl rfl .slice rfl rfl (s := [.int .i64 s, .int .i64 t, .slice a1 L.length c1, .slice ao O.length co]) (.skip (.skip (.put .nil))) (ones_cons rfl ones_nil) (.there .here)) rfl (fun _ _ _ _ hq w s => by obtain ⟨rfl, _, rfl⟩ := hq; exact (Sat.blkW (p := lastV (.slice ao O.length co)) s.drop rfl).mono (hF1.trans hF2)) ?_)
  rintro _ _ _ _ ⟨rfl, _, rfl⟩
  refine aT 8 rfl (ev_qe rfl) rfl rfl ?_ ?_ ?_ ?_; kernel_rfl; kernel_rfl; kernel_rfl
  refine aD (by kernel_rfl) ?_
  refine jL rfl ?_
  refine oN (ev_store (b := b1) (off := 0 + 3) (vs := [.slice a2 O.length c2]) rfl rfl .slice rfl rfl (s := lgC s t (.slice a1 L.length c1) (.slice a2 O.length c2)) (.skip (.skip (.skip (.put .nil)))) (ones_cons rfl ones_nil) (.there .here)) rfl ?_
  rintro _ _ _ _ ⟨rfl, _, rfl⟩
  repeat (first|refine zJ rfl rfl ?_|refine jr rfl ?_|refine jn ?_|refine zM rfl rfl ?_|(refine zC rfl rfl ?_ rfl ?_;omega)|(refine zD rfl rfl ?_ rfl ?_;omega)|(refine zP rfl ?_ rfl ?_;omega)|refine zG rfl rfl rfl rfl ?_|(refine jdq rfl rfl ?_ ?_ ?_;kernel_rfl;kernel_rfl)|refine zB rfl rfl rfl (by repeat constructor) rfl ?_|refine zH .here rfl rfl rfl rfl ?_|refine zH (.there .here) rfl rfl rfl rfl ?_|refine zH (.there (.there .here)) rfl rfl rfl rfl ?_)
  refine oS (ev_load_agg (cs := lgC s t (.slice a1 L.length c1) (.slice a2 O.length c2)) rfl rfl (Rdb.ofB (n := 0) (.there .here) rfl) rfl) rfl ?_
  refine oN (ev_store (b := b2) (off := 0) rfl rfl .agg rfl rfl (lay_all (zs := zLg) rfl) lgC_ones .here) rfl ?_
  rintro _ _ _ _ ⟨rfl, _, rfl⟩
  repeat (first|refine zJ rfl rfl ?_|refine jr rfl ?_|refine jn ?_|refine zM rfl rfl ?_|(refine zC rfl rfl ?_ rfl ?_;omega)|(refine zD rfl rfl ?_ rfl ?_;omega)|(refine zP rfl ?_ rfl ?_;omega)|refine zG rfl rfl rfl rfl ?_|(refine jdq rfl rfl ?_ ?_ ?_;kernel_rfl;kernel_rfl)|refine zB rfl rfl rfl (by repeat constructor) rfl ?_|refine zH .here rfl rfl rfl rfl ?_|refine zH (.there .here) rfl rfl rfl rfl ?_|refine zH (.there (.there .here)) rfl rfl rfl rfl ?_)
  exact J_retv (vs := [.agg (lgC s t (.slice a1 L.length c1) (.slice a2 O.length c2)).toArray]) rfl (.agg rfl rfl (Rdb.ofB (n := 0) .here rfl) rfl .nil) [] (fun w s => s.drop.drop) (hF1.trans hF2) ⟨rfl, _, rfl, _, _, rfl, row1.mono hF2, row2⟩

/-! ### found: Letter -/
set_option maxHeartbeats 4000000 in
theorem lt_find_spec (l : LgX) (cs : List Value) (k : (List UInt8)) (F : PH) (h : LgV F cs l) (hn : l.2.2.1.length ≤ 900) : Spec Try.prog 17 [.agg cs.toArray, ltK k] F [] fun u _ H' => u = .tuple #[.agg (ltC (findP nLt (ltEq k) l.2.2.1).1).toArray, .bool (findP nLt (ltEq k) l.2.2.1).2] ∧ H' = [] := by
  obtain ⟨s, t, L, O, _⟩ := l
  obtain ⟨vl, vo, rfl, hL, hO⟩ := h
  dsimp only at hL hO hn ⊢
  refine Spec.of2 Try.func17 rfl rfl fun X w0 => ?_
  obtain ⟨al, cl, rfl, _⟩ := hL.form
  obtain ⟨ao, co, rfl, _⟩ := hO.form
  unfold lgC
  refine jc rfl rfl ?_
  refine jr rfl ?_
  refine oE (ev_box rfl .agg) rfl ?_; rintro _ _ _ _ ⟨rfl, b2, rfl, rfl⟩
  refine oE (ev_alloc (cs := zLt) rfl) rfl ?_
  rintro _ _ _ _ ⟨rfl, b4, rfl, rfl⟩
  repeat (first|refine zJ rfl rfl ?_|refine jr rfl ?_|refine jn ?_|refine zM rfl rfl ?_|(refine zC rfl rfl ?_ rfl ?_;omega)|(refine zD rfl rfl ?_ rfl ?_;omega)|(refine zP rfl ?_ rfl ?_;omega)|refine zG rfl rfl rfl rfl ?_|(refine jdq rfl rfl ?_ ?_ ?_;kernel_rfl;kernel_rfl)|refine zB rfl rfl rfl (by repeat constructor) rfl ?_|refine zH .here rfl rfl rfl rfl ?_|refine zH (.there .here) rfl rfl rfl rfl ?_|refine zH (.there (.there .here)) rfl rfl rfl rfl ?_)
  refine oC (Hc := []) (Hr := blk b4 37 zLt :: blk b2 27 [.int .i64 s, .int .i64 t, .slice al L.length cl, .slice ao O.length co] :: X) (lt_place_spec k al cl L F [] (by omega) (fun G hG Y j y e => ?_)) Try.call44 rfl rfl (fun _ s => s) ?_
  · obtain ⟨b, off, e1, e2⟩ := hL.at e
    exact ⟨b, off, e1, Rdb.ofF (e2.mono hG)⟩
  rintro _ F1 _ hF1 ⟨rfl, rfl⟩
  rcases place_cases (ltEq k) (ltGt k) nLt L with ⟨A, y, B, rfl, hy, hA, e1, e2⟩ | ⟨hno, A, B, rfl, e1, e2⟩
  · rw [e1, findP_some hy hA]
    obtain ⟨b, off, rfl, hc⟩ := hL.at (i := A.length) (x := y) (by rw [List.getElem?_append_right (Nat.le_refl _), Nat.sub_self]; rfl)
    repeat (first|refine zJ rfl rfl ?_|refine jr rfl ?_|refine jn ?_|refine zM rfl rfl ?_|(refine zC rfl rfl ?_ rfl ?_;omega)|(refine zD rfl rfl ?_ rfl ?_;omega)|(refine zP rfl ?_ rfl ?_;omega)|refine zG rfl rfl rfl rfl ?_|(refine jdq rfl rfl ?_ ?_ ?_;kernel_rfl;kernel_rfl)|refine zB rfl rfl rfl (by repeat constructor) rfl ?_|refine zH .here rfl rfl rfl rfl ?_|refine zH (.there .here) rfl rfl rfl rfl ?_|refine zH (.there (.there .here)) rfl rfl rfl rfl ?_)
    refine oS (ev_indexAddr (i := A.length) rfl rfl rfl (by rw [List.length_append, List.length_cons]; omega)) rfl ?_
    refine oS (ev_load_agg (cs := ltC y) rfl rfl (Rdb.ofF (hc.mono hF1)) (lt_len y)) rfl ?_
    refine oN (ev_store (b := b4) (off := 0) rfl rfl .agg rfl rfl (lay_all (zs := zLt) rfl) (lt_ones y) .here) rfl ?_
    rintro _ _ _ _ ⟨rfl, _, rfl⟩
    repeat (first|refine zJ rfl rfl ?_|refine jr rfl ?_|refine jn ?_|refine zM rfl rfl ?_|(refine zC rfl rfl ?_ rfl ?_;omega)|(refine zD rfl rfl ?_ rfl ?_;omega)|(refine zP rfl ?_ rfl ?_;omega)|refine zG rfl rfl rfl rfl ?_|(refine jdq rfl rfl ?_ ?_ ?_;kernel_rfl;kernel_rfl)|refine zB rfl rfl rfl (by repeat constructor) rfl ?_|refine zH .here rfl rfl rfl rfl ?_|refine zH (.there .here) rfl rfl rfl rfl ?_|refine zH (.there (.there .here)) rfl rfl rfl rfl ?_)
    exact J_retv (vs := [.agg (ltC y).toArray, .bool true]) rfl (.agg rfl rfl (Rdb.ofB (n := 0) .here rfl) rfl (.tmp rfl .nil)) [] (fun w s => s.drop.drop) hF1 ⟨rfl, rfl⟩
  · rw [e1, findP_none hno]
    repeat (first|refine zJ rfl rfl ?_|refine jr rfl ?_|refine jn ?_|refine zM rfl rfl ?_|(refine zC rfl rfl ?_ rfl ?_;omega)|(refine zD rfl rfl ?_ rfl ?_;omega)|(refine zP rfl ?_ rfl ?_;omega)|refine zG rfl rfl rfl rfl ?_|(refine jdq rfl rfl ?_ ?_ ?_;kernel_rfl;kernel_rfl)|refine zB rfl rfl rfl (by repeat constructor) rfl ?_|refine zH .here rfl rfl rfl rfl ?_|refine zH (.there .here) rfl rfl rfl rfl ?_|refine zH (.there (.there .here)) rfl rfl rfl rfl ?_)
    refine oN (ev_store (b := b4) (off := 0) rfl rfl .agg rfl rfl (lay_all (vs := zLt) (zs := zLt) rfl) (lt_ones nLt) .here) rfl ?_
    rintro _ _ _ _ ⟨rfl, _, rfl⟩
    repeat (first|refine zJ rfl rfl ?_|refine jr rfl ?_|refine jn ?_|refine zM rfl rfl ?_|(refine zC rfl rfl ?_ rfl ?_;omega)|(refine zD rfl rfl ?_ rfl ?_;omega)|(refine zP rfl ?_ rfl ?_;omega)|refine zG rfl rfl rfl rfl ?_|(refine jdq rfl rfl ?_ ?_ ?_;kernel_rfl;kernel_rfl)|refine zB rfl rfl rfl (by repeat constructor) rfl ?_|refine zH .here rfl rfl rfl rfl ?_|refine zH (.there .here) rfl rfl rfl rfl ?_|refine zH (.there (.there .here)) rfl rfl rfl rfl ?_)
    exact J_retv (vs := [.agg (zLt).toArray, .bool false]) rfl (.agg rfl rfl (Rdb.ofB (n := 0) .here rfl) rfl (.tmp rfl .nil)) [] (fun w s => s.drop.drop) hF1 ⟨rfl, rfl⟩
set_option maxHeartbeats 4000000 in
theorem lt_rfind_spec (l : LgX) (cs : List Value) (k : (List UInt8)) (F : PH) (h : LgV F cs l) (hn : l.2.2.1.length ≤ 900) : Pure Try.prog 18 [.agg cs.toArray, ltK k] F (.tuple #[.agg (ltC (findP nLt (ltEq k) l.2.2.1).1).toArray, .bool (findP nLt (ltEq k) l.2.2.1).2]) := by
  obtain ⟨s, t, L, O, _⟩ := l
  obtain ⟨vl, vo, rfl, hL, hO⟩ := h
  dsimp only at hL hO hn ⊢
  refine Spec.of2 Try.func18 rfl rfl fun X w0 => ?_
  obtain ⟨al, cl, rfl, _⟩ := hL.form
  obtain ⟨ao, co, rfl, _⟩ := hO.form
  unfold lgC
  refine jc rfl rfl ?_
  refine jr rfl ?_
  refine oE (ev_box rfl .agg) rfl ?_; rintro _ _ _ _ ⟨rfl, b2, rfl, rfl⟩
  refine oE (ev_alloc (cs := zLt) rfl) rfl ?_
  rintro _ _ _ _ ⟨rfl, b4, rfl, rfl⟩
  repeat (first|refine zJ rfl rfl ?_|refine jr rfl ?_|refine jn ?_|refine zM rfl rfl ?_|(refine zC rfl rfl ?_ rfl ?_;omega)|(refine zD rfl rfl ?_ rfl ?_;omega)|(refine zP rfl ?_ rfl ?_;omega)|refine zG rfl rfl rfl rfl ?_|(refine jdq rfl rfl ?_ ?_ ?_;kernel_rfl;kernel_rfl)|refine zB rfl rfl rfl (by repeat constructor) rfl ?_|refine zH .here rfl rfl rfl rfl ?_|refine zH (.there .here) rfl rfl rfl rfl ?_|refine zH (.there (.there .here)) rfl rfl rfl rfl ?_)
  refine J_loop (ι := Nat) (fun i => i ≤ L.length ∧ ∀ z ∈ L.take i, ltEq k z = false) (fun i => L.length - i) (fun i => [(1, ltK k), (4, .pointer (some ⟨b4, 0, none⟩)), (9, .slice al L.length cl), (10, .int .i64 L.length), (11, .int .i64 i)]) (fun _ => F) (fun _ => blk b4 37 zLt :: blk b2 27 [.int .i64 s, .int .i64 t, .slice al L.length cl, .slice ao O.length co] :: X) 0 ⟨Nat.zero_le _, fun z h => absurd h (by simp)⟩ ⟨⟨rfl, rfl, rfl, rfl, rfl, trivial⟩, fun w s => s⟩ ?_
  rintro i ⟨hi, hno⟩
  by_cases hlt : i < L.length
  · have g1 : L[i]? = some L[i] := List.getElem?_eq_getElem hlt
    have htk : L.take (i + 1) = L.take i ++ [L[i]] := List.take_succ_eq_append_getElem hlt
    have hcut : L = L.take i ++ L[i] :: L.drop (i + 1) := by rw [← List.drop_eq_getElem_cons, List.take_append_drop]
    generalize L[i] = y at *
    obtain ⟨b, off, rfl, hc⟩ := hL.at g1
    repeat (first|refine zJ rfl rfl ?_|refine jr rfl ?_|refine jn ?_|refine zM rfl rfl ?_|(refine zC rfl rfl ?_ rfl ?_;omega)|(refine zD rfl rfl ?_ rfl ?_;omega)|(refine zP rfl ?_ rfl ?_;omega)|refine zG rfl rfl rfl rfl ?_|(refine jdq rfl rfl ?_ ?_ ?_;kernel_rfl;kernel_rfl)|refine zB rfl rfl rfl (by repeat constructor) rfl ?_|refine zH .here rfl rfl rfl rfl ?_|refine zH (.there .here) rfl rfl rfl rfl ?_|refine zH (.there (.there .here)) rfl rfl rfl rfl ?_)
    refine oS (ev_indexAddr (i := i) rfl rfl rfl hlt) rfl ?_
    refine oS (ev_load_agg (cs := ltC y) rfl rfl (Rdb.ofF hc) (lt_len y)) rfl ?_
    refine oE (ev_alloc (cs := zLt) rfl) rfl ?_
    rintro _ _ _ _ ⟨rfl, b7, rfl, rfl⟩
    refine oN (ev_store (b := b7) (off := 0) rfl rfl .agg rfl rfl (lay_all (zs := zLt) rfl) (lt_ones y) .here) rfl ?_
    rintro _ _ _ _ ⟨rfl, _, rfl⟩
    repeat (first|refine zJ rfl rfl ?_|refine jr rfl ?_|refine jn ?_|refine zM rfl rfl ?_|(refine zC rfl rfl ?_ rfl ?_;omega)|(refine zD rfl rfl ?_ rfl ?_;omega)|(refine zP rfl ?_ rfl ?_;omega)|refine zG rfl rfl rfl rfl ?_|(refine jdq rfl rfl ?_ ?_ ?_;kernel_rfl;kernel_rfl)|refine zB rfl rfl rfl (by repeat constructor) rfl ?_|refine zH .here rfl rfl rfl rfl ?_|refine zH (.there .here) rfl rfl rfl rfl ?_|refine zH (.there (.there .here)) rfl rfl rfl rfl ?_)
    refine oS (v := .bool (ltEq k y)) (ev_seql rfl rfl rfl) rfl ?_
    cases hy : ltEq k y with
    | true =>
      rw [(congrArg (findP nLt (ltEq k)) hcut).trans (findP_some hy hno)]
      repeat (first|refine zJ rfl rfl ?_|refine jr rfl ?_|refine jn ?_|refine zM rfl rfl ?_|(refine zC rfl rfl ?_ rfl ?_;omega)|(refine zD rfl rfl ?_ rfl ?_;omega)|(refine zP rfl ?_ rfl ?_;omega)|refine zG rfl rfl rfl rfl ?_|(refine jdq rfl rfl ?_ ?_ ?_;kernel_rfl;kernel_rfl)|refine zB rfl rfl rfl (by repeat constructor) rfl ?_|refine zH .here rfl rfl rfl rfl ?_|refine zH (.there .here) rfl rfl rfl rfl ?_|refine zH (.there (.there .here)) rfl rfl rfl rfl ?_)
      refine oS (ev_load_agg (cs := ltC y) rfl rfl (Rdb.ofB (n := 0) .here rfl) rfl) rfl ?_
      refine oN (ev_store (b := b4) (off := 0) rfl rfl .agg rfl rfl (lay_all (zs := zLt) rfl) (lt_ones y) (.there .here)) rfl ?_
      rintro _ _ _ _ ⟨rfl, _, rfl⟩
      repeat (first|refine zJ rfl rfl ?_|refine jr rfl ?_|refine jn ?_|refine zM rfl rfl ?_|(refine zC rfl rfl ?_ rfl ?_;omega)|(refine zD rfl rfl ?_ rfl ?_;omega)|(refine zP rfl ?_ rfl ?_;omega)|refine zG rfl rfl rfl rfl ?_|(refine jdq rfl rfl ?_ ?_ ?_;kernel_rfl;kernel_rfl)|refine zB rfl rfl rfl (by repeat constructor) rfl ?_|refine zH .here rfl rfl rfl rfl ?_|refine zH (.there .here) rfl rfl rfl rfl ?_|refine zH (.there (.there .here)) rfl rfl rfl rfl ?_)
      exact J_retv (vs := [.agg (ltC y).toArray, .bool true]) rfl (.agg rfl rfl (Rdb.ofB (n := 0) (.there .here) rfl) rfl (.tmp rfl .nil)) [] (fun w s => s.drop.drop.drop) (PH.ler _) ⟨rfl, rfl⟩
    | false =>
      repeat (first|refine zJ rfl rfl ?_|refine jr rfl ?_|refine jn ?_|refine zM rfl rfl ?_|(refine zC rfl rfl ?_ rfl ?_;omega)|(refine zD rfl rfl ?_ rfl ?_;omega)|(refine zP rfl ?_ rfl ?_;omega)|refine zG rfl rfl rfl rfl ?_|(refine jdq rfl rfl ?_ ?_ ?_;kernel_rfl;kernel_rfl)|refine zB rfl rfl rfl (by repeat constructor) rfl ?_|refine zH .here rfl rfl rfl rfl ?_|refine zH (.there .here) rfl rfl rfl rfl ?_|refine zH (.there (.there .here)) rfl rfl rfl rfl ?_)
      refine J_again (i + 1) ⟨hlt, fun z hz => ?_⟩ (by omega) ⟨⟨rfl, rfl, rfl, rfl, rfl, trivial⟩, fun w s => s.drop⟩
      rw [htk] at hz
      rcases List.mem_append.1 hz with hz | hz
      · exact hno z hz
      · obtain rfl := List.mem_singleton.1 hz
        exact hy
  · obtain rfl : i = L.length := by omega
    rw [List.take_length] at hno
    rw [findP_none hno]
    repeat (first|refine zJ rfl rfl ?_|refine jr rfl ?_|refine jn ?_|refine zM rfl rfl ?_|(refine zC rfl rfl ?_ rfl ?_;omega)|(refine zD rfl rfl ?_ rfl ?_;omega)|(refine zP rfl ?_ rfl ?_;omega)|refine zG rfl rfl rfl rfl ?_|(refine jdq rfl rfl ?_ ?_ ?_;kernel_rfl;kernel_rfl)|refine zB rfl rfl rfl (by repeat constructor) rfl ?_|refine zH .here rfl rfl rfl rfl ?_|refine zH (.there .here) rfl rfl rfl rfl ?_|refine zH (.there (.there .here)) rfl rfl rfl rfl ?_)
    refine oN (ev_store (b := b4) (off := 0) rfl rfl .agg rfl rfl (lay_all (vs := zLt) (zs := zLt) rfl) (lt_ones nLt) .here) rfl ?_
    rintro _ _ _ _ ⟨rfl, _, rfl⟩
    repeat (first|refine zJ rfl rfl ?_|refine jr rfl ?_|refine jn ?_|refine zM rfl rfl ?_|(refine zC rfl rfl ?_ rfl ?_;omega)|(refine zD rfl rfl ?_ rfl ?_;omega)|(refine zP rfl ?_ rfl ?_;omega)|refine zG rfl rfl rfl rfl ?_|(refine jdq rfl rfl ?_ ?_ ?_;kernel_rfl;kernel_rfl)|refine zB rfl rfl rfl (by repeat constructor) rfl ?_|refine zH .here rfl rfl rfl rfl ?_|refine zH (.there .here) rfl rfl rfl rfl ?_|refine zH (.there (.there .here)) rfl rfl rfl rfl ?_)
    exact J_retv (vs := [.agg (zLt).toArray, .bool false]) rfl (.agg rfl rfl (Rdb.ofB (n := 0) .here rfl) rfl (.tmp rfl .nil)) [] (fun w s => s.drop.drop) (PH.ler _) ⟨rfl, rfl⟩

/-! ### found: Outcome -/
set_option maxHeartbeats 4000000 in
theorem ou_find_spec (l : LgX) (cs : List Value) (k : Int) (F : PH) (h : LgV F cs l) (hn : l.2.2.2.1.length ≤ 900) : Spec Try.prog 19 [.agg cs.toArray, ouK k] F [] fun u _ H' => u = .tuple #[.agg (ouC (findP nOu (ouEq k) l.2.2.2.1).1).toArray, .bool (findP nOu (ouEq k) l.2.2.2.1).2] ∧ H' = [] := by
  obtain ⟨s, t, L, O, _⟩ := l
  obtain ⟨vl, vo, rfl, hL, hO⟩ := h
  dsimp only at hL hO hn ⊢
  refine Spec.of2 Try.func19 rfl rfl fun X w0 => ?_
  obtain ⟨al, cl, rfl, _⟩ := hL.form
  obtain ⟨ao, co, rfl, _⟩ := hO.form
  unfold lgC
  refine jc rfl rfl ?_
  refine jr rfl ?_
  refine oE (ev_box rfl .agg) rfl ?_; rintro _ _ _ _ ⟨rfl, b2, rfl, rfl⟩
  refine oE (ev_alloc (cs := zOu) rfl) rfl ?_
  rintro _ _ _ _ ⟨rfl, b4, rfl, rfl⟩
  repeat (first|refine zJ rfl rfl ?_|refine jr rfl ?_|refine jn ?_|refine zM rfl rfl ?_|(refine zC rfl rfl ?_ rfl ?_;omega)|(refine zD rfl rfl ?_ rfl ?_;omega)|(refine zP rfl ?_ rfl ?_;omega)|refine zG rfl rfl rfl rfl ?_|(refine jdq rfl rfl ?_ ?_ ?_;kernel_rfl;kernel_rfl)|refine zB rfl rfl rfl (by repeat constructor) rfl ?_|refine zH .here rfl rfl rfl rfl ?_|refine zH (.there .here) rfl rfl rfl rfl ?_|refine zH (.there (.there .here)) rfl rfl rfl rfl ?_)
  refine oC (Hc := []) (Hr := blk b4 39 zOu :: blk b2 27 [.int .i64 s, .int .i64 t, .slice al L.length cl, .slice ao O.length co] :: X) (ou_place_spec k ao co O F [] (by omega) (fun G hG Y j y e => ?_)) Try.call45 rfl rfl (fun _ s => s) ?_
  · obtain ⟨b, off, e1, e2⟩ := hO.at e
    exact ⟨b, off, e1, Rdb.ofF (e2.mono hG)⟩
  rintro _ F1 _ hF1 ⟨rfl, rfl⟩
  rcases place_cases (ouEq k) (ouGt k) nOu O with ⟨A, y, B, rfl, hy, hA, e1, e2⟩ | ⟨hno, A, B, rfl, e1, e2⟩
  · rw [e1, findP_some hy hA]
    obtain ⟨b, off, rfl, hc⟩ := hO.at (i := A.length) (x := y) (by rw [List.getElem?_append_right (Nat.le_refl _), Nat.sub_self]; rfl)
    repeat (first|refine zJ rfl rfl ?_|refine jr rfl ?_|refine jn ?_|refine zM rfl rfl ?_|(refine zC rfl rfl ?_ rfl ?_;omega)|(refine zD rfl rfl ?_ rfl ?_;omega)|(refine zP rfl ?_ rfl ?_;omega)|refine zG rfl rfl rfl rfl ?_|(refine jdq rfl rfl ?_ ?_ ?_;kernel_rfl;kernel_rfl)|refine zB rfl rfl rfl (by repeat constructor) rfl ?_|refine zH .here rfl rfl rfl rfl ?_|refine zH (.there .here) rfl rfl rfl rfl ?_|refine zH (.there (.there .here)) rfl rfl rfl rfl ?_)
    refine oS (ev_indexAddr (i := A.length) rfl rfl rfl (by rw [List.length_append, List.length_cons]; omega)) rfl ?_
    refine oS (ev_load_agg (cs := ouC y) rfl rfl (Rdb.ofF (hc.mono hF1)) (ou_len y)) rfl ?_
    refine oN (ev_store (b := b4) (off := 0) rfl rfl .agg rfl rfl (lay_all (zs := zOu) rfl) (ou_ones y) .here) rfl ?_
    rintro _ _ _ _ ⟨rfl, _, rfl⟩
    repeat (first|refine zJ rfl rfl ?_|refine jr rfl ?_|refine jn ?_|refine zM rfl rfl ?_|(refine zC rfl rfl ?_ rfl ?_;omega)|(refine zD rfl rfl ?_ rfl ?_;omega)|(refine zP rfl ?_ rfl ?_;omega)|refine zG rfl rfl rfl rfl ?_|(refine jdq rfl rfl ?_ ?_ ?_;kernel_rfl;kernel_rfl)|refine zB rfl rfl rfl (by repeat constructor) rfl ?_|refine zH .here rfl rfl rfl rfl ?_|refine zH (.there .here) rfl rfl rfl rfl ?_|refine zH (.there (.there .here)) rfl rfl rfl rfl ?_)
    exact J_retv (vs := [.agg (ouC y).toArray, .bool true]) rfl (.agg rfl rfl (Rdb.ofB (n := 0) .here rfl) rfl (.tmp rfl .nil)) [] (fun w s => s.drop.drop) hF1 ⟨rfl, rfl⟩
  · rw [e1, findP_none hno]
    repeat (first|refine zJ rfl rfl ?_|refine jr rfl ?_|refine jn ?_|refine zM rfl rfl ?_|(refine zC rfl rfl ?_ rfl ?_;omega)|(refine zD rfl rfl ?_ rfl ?_;omega)|(refine zP rfl ?_ rfl ?_;omega)|refine zG rfl rfl rfl rfl ?_|(refine jdq rfl rfl ?_ ?_ ?_;kernel_rfl;kernel_rfl)|refine zB rfl rfl rfl (by repeat constructor) rfl ?_|refine zH .here rfl rfl rfl rfl ?_|refine zH (.there .here) rfl rfl rfl rfl ?_|refine zH (.there (.there .here)) rfl rfl rfl rfl ?_)
    refine oN (ev_store (b := b4) (off := 0) rfl rfl .agg rfl rfl (lay_all (vs := zOu) (zs := zOu) rfl) (ou_ones nOu) .here) rfl ?_
    rintro _ _ _ _ ⟨rfl, _, rfl⟩
    repeat (first|refine zJ rfl rfl ?_|refine jr rfl ?_|refine jn ?_|refine zM rfl rfl ?_|(refine zC rfl rfl ?_ rfl ?_;omega)|(refine zD rfl rfl ?_ rfl ?_;omega)|(refine zP rfl ?_ rfl ?_;omega)|refine zG rfl rfl rfl rfl ?_|(refine jdq rfl rfl ?_ ?_ ?_;kernel_rfl;kernel_rfl)|refine zB rfl rfl rfl (by repeat constructor) rfl ?_|refine zH .here rfl rfl rfl rfl ?_|refine zH (.there .here) rfl rfl rfl rfl ?_|refine zH (.there (.there .here)) rfl rfl rfl rfl ?_)
    exact J_retv (vs := [.agg (zOu).toArray, .bool false]) rfl (.agg rfl rfl (Rdb.ofB (n := 0) .here rfl) rfl (.tmp rfl .nil)) [] (fun w s => s.drop.drop) hF1 ⟨rfl, rfl⟩
set_option maxHeartbeats 4000000 in
theorem ou_rfind_spec (l : LgX) (cs : List Value) (k : Int) (F : PH) (h : LgV F cs l) (hn : l.2.2.2.1.length ≤ 900) : Pure Try.prog 20 [.agg cs.toArray, ouK k] F (.tuple #[.agg (ouC (findP nOu (ouEq k) l.2.2.2.1).1).toArray, .bool (findP nOu (ouEq k) l.2.2.2.1).2]) := by
  obtain ⟨s, t, L, O, _⟩ := l
  obtain ⟨vl, vo, rfl, hL, hO⟩ := h
  dsimp only at hL hO hn ⊢
  refine Spec.of2 Try.func20 rfl rfl fun X w0 => ?_
  obtain ⟨al, cl, rfl, _⟩ := hL.form
  obtain ⟨ao, co, rfl, _⟩ := hO.form
  unfold lgC
  refine jc rfl rfl ?_
  refine jr rfl ?_
  refine oE (ev_box rfl .agg) rfl ?_; rintro _ _ _ _ ⟨rfl, b2, rfl, rfl⟩
  refine oE (ev_alloc (cs := zOu) rfl) rfl ?_
  rintro _ _ _ _ ⟨rfl, b4, rfl, rfl⟩
  repeat (first|refine zJ rfl rfl ?_|refine jr rfl ?_|refine jn ?_|refine zM rfl rfl ?_|(refine zC rfl rfl ?_ rfl ?_;omega)|(refine zD rfl rfl ?_ rfl ?_;omega)|(refine zP rfl ?_ rfl ?_;omega)|refine zG rfl rfl rfl rfl ?_|(refine jdq rfl rfl ?_ ?_ ?_;kernel_rfl;kernel_rfl)|refine zB rfl rfl rfl (by repeat constructor) rfl ?_|refine zH .here rfl rfl rfl rfl ?_|refine zH (.there .here) rfl rfl rfl rfl ?_|refine zH (.there (.there .here)) rfl rfl rfl rfl ?_)
  refine J_loop (ι := Nat) (fun i => i ≤ O.length ∧ ∀ z ∈ O.take i, ouEq k z = false) (fun i => O.length - i) (fun i => [(1, ouK k), (4, .pointer (some ⟨b4, 0, none⟩)), (9, .slice ao O.length co), (10, .int .i64 O.length), (11, .int .i64 i)]) (fun _ => F) (fun _ => blk b4 39 zOu :: blk b2 27 [.int .i64 s, .int .i64 t, .slice al L.length cl, .slice ao O.length co] :: X) 0 ⟨Nat.zero_le _, fun z h => absurd h (by simp)⟩ ⟨⟨rfl, rfl, rfl, rfl, rfl, trivial⟩, fun w s => s⟩ ?_
  rintro i ⟨hi, hno⟩
  by_cases hlt : i < O.length
  · have g1 : O[i]? = some O[i] := List.getElem?_eq_getElem hlt
    have htk : O.take (i + 1) = O.take i ++ [O[i]] := List.take_succ_eq_append_getElem hlt
    have hcut : O = O.take i ++ O[i] :: O.drop (i + 1) := by rw [← List.drop_eq_getElem_cons, List.take_append_drop]
    generalize O[i] = y at *
    obtain ⟨b, off, rfl, hc⟩ := hO.at g1
    repeat (first|refine zJ rfl rfl ?_|refine jr rfl ?_|refine jn ?_|refine zM rfl rfl ?_|(refine zC rfl rfl ?_ rfl ?_;omega)|(refine zD rfl rfl ?_ rfl ?_;omega)|(refine zP rfl ?_ rfl ?_;omega)|refine zG rfl rfl rfl rfl ?_|(refine jdq rfl rfl ?_ ?_ ?_;kernel_rfl;kernel_rfl)|refine zB rfl rfl rfl (by repeat constructor) rfl ?_|refine zH .here rfl rfl rfl rfl ?_|refine zH (.there .here) rfl rfl rfl rfl ?_|refine zH (.there (.there .here)) rfl rfl rfl rfl ?_)
    refine oS (ev_indexAddr (i := i) rfl rfl rfl hlt) rfl ?_
    refine oS (ev_load_agg (cs := ouC y) rfl rfl (Rdb.ofF hc) (ou_len y)) rfl ?_
    refine oE (ev_alloc (cs := zOu) rfl) rfl ?_
    rintro _ _ _ _ ⟨rfl, b7, rfl, rfl⟩
    refine oN (ev_store (b := b7) (off := 0) rfl rfl .agg rfl rfl (lay_all (zs := zOu) rfl) (ou_ones y) .here) rfl ?_
    rintro _ _ _ _ ⟨rfl, _, rfl⟩
    repeat (first|refine zJ rfl rfl ?_|refine jr rfl ?_|refine jn ?_|refine zM rfl rfl ?_|(refine zC rfl rfl ?_ rfl ?_;omega)|(refine zD rfl rfl ?_ rfl ?_;omega)|(refine zP rfl ?_ rfl ?_;omega)|refine zG rfl rfl rfl rfl ?_|(refine jdq rfl rfl ?_ ?_ ?_;kernel_rfl;kernel_rfl)|refine zB rfl rfl rfl (by repeat constructor) rfl ?_|refine zH .here rfl rfl rfl rfl ?_|refine zH (.there .here) rfl rfl rfl rfl ?_|refine zH (.there (.there .here)) rfl rfl rfl rfl ?_)
    rw [show decide (y.1 = k) = ouEq k y from rfl]
    cases hy : ouEq k y with
    | true =>
      rw [(congrArg (findP nOu (ouEq k)) hcut).trans (findP_some hy hno)]
      repeat (first|refine zJ rfl rfl ?_|refine jr rfl ?_|refine jn ?_|refine zM rfl rfl ?_|(refine zC rfl rfl ?_ rfl ?_;omega)|(refine zD rfl rfl ?_ rfl ?_;omega)|(refine zP rfl ?_ rfl ?_;omega)|refine zG rfl rfl rfl rfl ?_|(refine jdq rfl rfl ?_ ?_ ?_;kernel_rfl;kernel_rfl)|refine zB rfl rfl rfl (by repeat constructor) rfl ?_|refine zH .here rfl rfl rfl rfl ?_|refine zH (.there .here) rfl rfl rfl rfl ?_|refine zH (.there (.there .here)) rfl rfl rfl rfl ?_)
      refine oS (ev_load_agg (cs := ouC y) rfl rfl (Rdb.ofB (n := 0) .here rfl) rfl) rfl ?_
      refine oN (ev_store (b := b4) (off := 0) rfl rfl .agg rfl rfl (lay_all (zs := zOu) rfl) (ou_ones y) (.there .here)) rfl ?_
      rintro _ _ _ _ ⟨rfl, _, rfl⟩
      repeat (first|refine zJ rfl rfl ?_|refine jr rfl ?_|refine jn ?_|refine zM rfl rfl ?_|(refine zC rfl rfl ?_ rfl ?_;omega)|(refine zD rfl rfl ?_ rfl ?_;omega)|(refine zP rfl ?_ rfl ?_;omega)|refine zG rfl rfl rfl rfl ?_|(refine jdq rfl rfl ?_ ?_ ?_;kernel_rfl;kernel_rfl)|refine zB rfl rfl rfl (by repeat constructor) rfl ?_|refine zH .here rfl rfl rfl rfl ?_|refine zH (.there .here) rfl rfl rfl rfl ?_|refine zH (.there (.there .here)) rfl rfl rfl rfl ?_)
      exact J_retv (vs := [.agg (ouC y).toArray, .bool true]) rfl (.agg rfl rfl (Rdb.ofB (n := 0) (.there .here) rfl) rfl (.tmp rfl .nil)) [] (fun w s => s.drop.drop.drop) (PH.ler _) ⟨rfl, rfl⟩
    | false =>
      repeat (first|refine zJ rfl rfl ?_|refine jr rfl ?_|refine jn ?_|refine zM rfl rfl ?_|(refine zC rfl rfl ?_ rfl ?_;omega)|(refine zD rfl rfl ?_ rfl ?_;omega)|(refine zP rfl ?_ rfl ?_;omega)|refine zG rfl rfl rfl rfl ?_|(refine jdq rfl rfl ?_ ?_ ?_;kernel_rfl;kernel_rfl)|refine zB rfl rfl rfl (by repeat constructor) rfl ?_|refine zH .here rfl rfl rfl rfl ?_|refine zH (.there .here) rfl rfl rfl rfl ?_|refine zH (.there (.there .here)) rfl rfl rfl rfl ?_)
      refine J_again (i + 1) ⟨hlt, fun z hz => ?_⟩ (by omega) ⟨⟨rfl, rfl, rfl, rfl, rfl, trivial⟩, fun w s => s.drop⟩
      rw [htk] at hz
      rcases List.mem_append.1 hz with hz | hz
      · exact hno z hz
      · obtain rfl := List.mem_singleton.1 hz
        exact hy
  · obtain rfl : i = O.length := by omega
    rw [List.take_length] at hno
    rw [findP_none hno]
    repeat (first|refine zJ rfl rfl ?_|refine jr rfl ?_|refine jn ?_|refine zM rfl rfl ?_|(refine zC rfl rfl ?_ rfl ?_;omega)|(refine zD rfl rfl ?_ rfl ?_;omega)|(refine zP rfl ?_ rfl ?_;omega)|refine zG rfl rfl rfl rfl ?_|(refine jdq rfl rfl ?_ ?_ ?_;kernel_rfl;kernel_rfl)|refine zB rfl rfl rfl (by repeat constructor) rfl ?_|refine zH .here rfl rfl rfl rfl ?_|refine zH (.there .here) rfl rfl rfl rfl ?_|refine zH (.there (.there .here)) rfl rfl rfl rfl ?_)
    refine oN (ev_store (b := b4) (off := 0) rfl rfl .agg rfl rfl (lay_all (vs := zOu) (zs := zOu) rfl) (ou_ones nOu) .here) rfl ?_
    rintro _ _ _ _ ⟨rfl, _, rfl⟩
    repeat (first|refine zJ rfl rfl ?_|refine jr rfl ?_|refine jn ?_|refine zM rfl rfl ?_|(refine zC rfl rfl ?_ rfl ?_;omega)|(refine zD rfl rfl ?_ rfl ?_;omega)|(refine zP rfl ?_ rfl ?_;omega)|refine zG rfl rfl rfl rfl ?_|(refine jdq rfl rfl ?_ ?_ ?_;kernel_rfl;kernel_rfl)|refine zB rfl rfl rfl (by repeat constructor) rfl ?_|refine zH .here rfl rfl rfl rfl ?_|refine zH (.there .here) rfl rfl rfl rfl ?_|refine zH (.there (.there .here)) rfl rfl rfl rfl ?_)
    exact J_retv (vs := [.agg (zOu).toArray, .bool false]) rfl (.agg rfl rfl (Rdb.ofB (n := 0) .here rfl) rfl (.tmp rfl .nil)) [] (fun w s => s.drop.drop) (PH.ler _) ⟨rfl, rfl⟩
end Go.Proofs.Ytifdlhafcfbeaaa
