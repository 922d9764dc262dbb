/-
  The reckoner's operations are the model's: those that only look. Plain theorems; no condition.
  Texts, and structs of two plain fields, as keys of maps. Plain theorems over any program; no condition.
-/
import Derived.Test.YtjjjckmpkldgnaaGreatDoorUb
import Derived.Test.YtjjjckmpkldgnaaGreatDoorKp
import Derived.Test.YtjjjckmpkldgnaaGreatDoorKja
namespace Go.Proofs.YtjjjckmpkldgnaaGreatDoor.Rk
open Go.RowKit
set_option maxRecDepth 100000
def OpOk (F : PH) (φ : Vl) (l : Env) (ρ : Operand → Value) (x : Operand) : Prop := ∀ a, ev x l = some a → AvD F φ a (ρ x)
/-- The operation runs, and leaves this. -/
def OpM (o : Oper) (ρ : Operand → Value) (F : PH) (φ : Vl) (nx : Nat) (w : World) (x : AV) (h' : Hp) (nx' : Nat) : Prop :=
  ∃ nt u w' F' φ', (execOp ρ o).run P w = .ok nt w' ∧ (nt = .value u ∨ (nt = .skip ∧ u = undef)) ∧ AvD F' φ' x u ∧ HR F' φ' h' w' ∧ F.le F' ∧ φ.le φ' ∧ (∀ n, n < nx ∨ nx' ≤ n → φ' n = φ n) ∧ Mild w w'
def SROk (o : Oper) (ρ : Operand → Value) (F : PH) (φ : Vl) (h : Hp) (nx : Nat) (w : World) : SR → Prop
  | .v x => OpM o ρ F φ nx w x h nx
  | .m x h' nx' => nx ≤ nx' ∧ ((∀ n, nx ≤ n → n < nx' → φ n = none) → OpM o ρ F φ nx w x h' nx')
  | .call f args => ∃ us, (execOp ρ o).run P w = .ok (.enter f us) w ∧ All2 (AvD F φ) args us.toList ∧ ∃ fn c, funT f = some fn ∧ fn.body = some c
  | .yld x args => ∃ b κ us, φ x = some (b, κ) ∧ (execOp ρ o).run P w = (Instr.yield b us).run P w ∧ All2 (AvD F φ) args us.toList
  | .fork vs => ∃ p ∈ vs, OpM o ρ F φ nx w p.1 p.2 nx
  | .bad _ => True
section
variable {o : Oper} {ρ : Operand → Value} {F : PH} {φ : Vl} {l : Env} {h : Hp} {nx : Nat} {w : World} {d : Option Nat} {T T' U E : TypeId} {pos : String} {af : Array Edge} {g : Option (Nat × Bool)} {x y z : Operand}
theorem OpM.val {v : AV} {u : Value} (e : (execOp ρ o).run P w = .ok (.value u) w) (hu : AvD F φ v u) (r : HR F φ h w) : OpM o ρ F φ nx w v h nx :=
  ⟨.value u, u, w, F, φ, e, .inl rfl, hu, r, PH.ler _, Vl.ler _, fun _ _ => rfl, Mild.refl w⟩
theorem on1_ok {k : AV → SR} (hx : OpOk F φ l ρ x) (hk : ∀ a, AvD F φ a (ρ x) → SROk o ρ F φ h nx w (k a)) : SROk o ρ F φ h nx w (on1 l x k) := by
  unfold on1
  split
  · rename_i a e; exact hk a (hx a e)
  · trivial
theorem on2_ok {k : AV → AV → SR} (hx : OpOk F φ l ρ x) (hy : OpOk F φ l ρ y) (hk : ∀ a b, AvD F φ a (ρ x) → AvD F φ b (ρ y) → SROk o ρ F φ h nx w (k a b)) : SROk o ρ F φ h nx w (on2 l x y k) := by
  unfold on2
  split
  · rename_i a e
    split
    · rename_i b e'; exact hk a b (hx a e) (hy b e')
    · trivial
  · trivial
theorem on3_ok {k : AV → AV → AV → SR} (hx : OpOk F φ l ρ x) (hy : OpOk F φ l ρ y) (hz : OpOk F φ l ρ z) (hk : ∀ a b c, AvD F φ a (ρ x) → AvD F φ b (ρ y) → AvD F φ c (ρ z) → SROk o ρ F φ h nx w (k a b c)) : SROk o ρ F φ h nx w (on3 l x y z k) := by
  unfold on3
  split
  · rename_i a e
    split
    · rename_i b e'
      split
      · rename_i c e''; exact hk a b c (hx a e) (hy b e') (hz c e'')
      · trivial
    · trivial
  · trivial
theorem srv_ok {n : Nat} {v : Option AV} (hv : ∀ a, v = some a → OpM o ρ F φ nx w a h nx) : SROk o ρ F φ h nx w (srv n v) := by
  unfold srv
  split
  · rename_i a; exact hv a rfl
  · trivial
theorem move_ok (hx : OpOk F φ l ρ x) (r : HR F φ h w) : SROk ⟨d, .move x, U, pos, af, g⟩ ρ F φ h nx w (sMove x l h nx) :=
  on1_ok hx fun _ ha => OpM.val (u := ρ x) rfl ha r
theorem assign_ok (hx : OpOk F φ l ρ x) (r : HR F φ h w) : SROk ⟨d, .assign x, U, pos, af, g⟩ ρ F φ h nx w (sMove x l h nx) :=
  on1_ok hx fun _ ha => OpM.val (u := ρ x) rfl ha r
theorem pick_ok (hx : OpOk F φ l ρ x) (hy : OpOk F φ l ρ y) (hz : OpOk F φ l ρ z) (r : HR F φ h w) : SROk ⟨d, .pick x y z, U, pos, af, g⟩ ρ F φ h nx w (sPick x y z l h nx) := by
  refine on1_ok hx fun a ha => ?_
  split
  · have e : ρ x = .bool true := ha
    refine on1_ok hy fun b hb => OpM.val (u := ρ y) ?_ hb r
    simp [execOp, e, asBool, go_sem]
  · have e : ρ x = .bool false := ha
    refine on1_ok hz fun b hb => OpM.val (u := ρ z) ?_ hb r
    simp [execOp, e, asBool, go_sem]
  · trivial
theorem load_ok (hx : OpOk F φ l ρ x) (r : HR F φ h w) : SROk ⟨d, .load T x, U, pos, af, g⟩ ρ F φ h nx w (sLoad T x l h nx) := by
  refine on1_ok hx fun a ha => ?_
  unfold oLoad
  split
  · rename_i id off
    obtain ⟨b, κ, hb, e⟩ := ha
    split
    · rename_i n ht
      refine srv_ok fun v hv => ?_
      cases hr : rd h id off n with
      | none => rw [hr] at hv; cases hv
      | some cs =>
        rw [hr] at hv
        cases hv
        obtain ⟨us, h1, h2, h3⟩ := rd_ok r hr hb
        refine OpM.val (u := .agg us.toArray) (run_v (s := Instr.loadAt T (ρ x)) ?_) ⟨us, h1, rfl⟩ r
        rw [e]
        exact run_load_agg (tagg_ok ht) h2 (by rw [← h1.len, h3])
    · split
      · rename_i hp
        refine srv_ok fun v hv => ?_
        obtain ⟨cs, hr, hv⟩ := oget_some hv
        obtain ⟨us, h1, h2, h3⟩ := rd_ok r hr hb
        cases h1 with
        | nil => cases hv
        | @cons s u cs' us' h1 ht =>
          cases hv
          have : cs' = [] := by simpa using h3
          subst this
          cases ht
          refine OpM.val (u := u) (run_v (s := Instr.loadAt T (ρ x)) ?_) h1 r
          rw [e]
          exact run_load_one (tplain_ok hp) h2
      · trivial
  · trivial
end
/-! the engine's rules at a frame -/
def envFor (a : Act) : List Operand → Go.Proofs.YtjjjckmpkldgnaaGreatDoor.Env
  | [] => []
  | x :: r => match x with
    | .tmp t => (t, a.tmps.getD t undef) :: envFor a r
    | _ => envFor a r
theorem envFor_get (a : Act) : ∀ (xs : List Operand) (t : Nat) (v : Value), (envFor a xs).get t = some v → a.tmps.getD t undef = v
  | [], t, v, h => by cases h
  | x :: r, t, v, h => by
    unfold envFor at h
    split at h
    · rw [Env.get_cons] at h
      split at h
      · rename_i e; subst e; cases h; rfl
      · exact envFor_get a r t v h
    · exact envFor_get a r t v h
theorem envFor_mem (a : Act) : ∀ (xs : List Operand) (t : Nat), .tmp t ∈ xs → (envFor a xs).get t = some (a.tmps.getD t undef)
  | [], t, h => by cases h
  | x :: r, t, h => by
    unfold envFor
    rcases List.mem_cons.1 h with e | e
    · subst e
      dsimp only
      rw [Env.get_cons, if_pos rfl]
    · split
      · rename_i t'
        rw [Env.get_cons]
        split
        · rename_i e'; subst e'; rfl
        · exact envFor_mem a r t e
      · exact envFor_mem a r t e
theorem opv_for (a : Act) {xs : List Operand} {x : Operand} (h : x ∈ xs) : opv (envFor a xs) x = some (a.eval x) := by
  cases x with
  | tmp t => exact envFor_mem a xs t h
  | const v => rfl
  | func f => rfl
  | global g => rfl
theorem holds_for (a : Act) (xs : List Operand) : Holds a.tmps.size (envFor a xs) { a with defers := [] } := ⟨rfl, rfl, fun t v h => envFor_get a xs t v h⟩
theorem evA {a : Act} {o : Oper} {xs : List Operand} {v : Value} {w : World} (he : Ev P o (envFor a xs) (ph w) [] v) : (execOp a.eval o).run P w = .ok (.value v) w :=
  he.out _ { a with defers := [] } w (holds_for a xs) (Sat.nil w)
theorem inK_ok {k : IntKind} {n : Int} (h : inK k n = true) : InK k n := by
  unfold inK at h
  cases k <;> cases n <;> simp [IntKind.signed, IntKind.bits, Nat.blt, Nat.ble_eq] at h <;> simp only [InK, Int.ofNat_eq_natCast] <;> omega
section
variable {a : Act} {F : PH} {φ : Vl} {l : Env} {h : Hp} {nx : Nat} {w : World} {d : Option Nat} {T T' U E : TypeId} {pos : String} {af : Array Edge} {g : Option (Nat × Bool)} {x y z : Operand}
theorem tfo_ok {i n : Nat} (h : tfo T i = some n) : fieldOff P T i = some n := by
  unfold tfo at h
  split at h
  · rename_i fs hu
    split at h
    · rename_i f hf
      split at h
      · rename_i m hs
        cases h
        obtain ⟨j, hj, hsz⟩ := tsz_ok hs
        unfold fieldOff
        rw [undT_ok hu]
        obtain ⟨nm, t, off, e1, e2, e3, e4⟩ := f
        dsimp only
        rw [hf]
        dsimp only at hj ⊢
        rw [hj]
        obtain ⟨⟩ := j
        cases hsz; rfl
      · cases h
    · cases h
  · cases h
theorem fieldAddr_ok {i : Nat} (hx : OpOk F φ l a.eval x) (r : HR F φ h w) : SROk ⟨d, .fieldAddr T x i, U, pos, af, g⟩ a.eval F φ h nx w (sFieldAddr T x i l h nx) := by
  refine on1_ok hx fun v hv => ?_
  split
  · rename_i id off
    obtain ⟨b, κ, hb, e⟩ := hv
    split
    · rename_i n hf
      have e1 : opv (envFor a [x]) x = some (.pointer (some ⟨b, off, none⟩)) := by rw [opv_for a (List.mem_singleton.2 rfl), e]
      exact OpM.val (evA (ev_fieldAddr e1 (tfo_ok hf))) ⟨b, κ, hb, rfl⟩ r
    · trivial
  · trivial
theorem natOf_ok {v : AV} {u : Value} {j : Nat} (h : natOf v = some j) (hu : AvD F φ v u) : ∃ k, u = .int k (j : Int) := by
  unfold natOf at h
  split at h
  · rename_i k n; cases h; exact ⟨k, hu⟩
  · cases h
theorem tarr_ok {n sz : Nat} {E : TypeId} (h : tarr T = some (n, E, sz)) : arrOf P T = some (n, E, sz) := by
  unfold tarr at h
  split at h
  · rename_i m E' hu
    cases hs : tsz E' with
    | none => rw [hs] at h; cases h
    | some q =>
      rw [hs] at h
      cases h
      obtain ⟨i, hi, hs⟩ := tsz_ok hs
      unfold arrOf
      rw [undT_ok hu]
      dsimp only
      rw [hi]
      obtain ⟨⟩ := i
      cases hs; rfl
  · cases h
theorem indexAddr_ok (hx : OpOk F φ l a.eval x) (hy : OpOk F φ l a.eval y) (r : HR F φ h w) : SROk ⟨d, .indexAddr T x y, U, pos, af, g⟩ a.eval F φ h nx w (sIndexAddr T x y l h nx) := by
  refine on2_ok hx hy fun v v' hv hv' => ?_
  unfold oIndexAddr
  split
  · rename_i j hj
    obtain ⟨k, ey⟩ := natOf_ok hj hv'
    have e2 : opv (envFor a [x, y]) y = some (.int k (j : Int)) := by rw [opv_for a (by simp), ey]
    split
    · rename_i id off n c
      obtain ⟨b, κ, hb, hc, e⟩ := hv
      have e1 : opv (envFor a [x, y]) x = some (.slice (some ⟨b, off, none⟩) n (c.cap κ)) := by rw [opv_for a (by simp), e]
      split
      · rename_i E sz ht
        split
        · rename_i hlt
          have hlt : j < n := Nat.le_of_ble_eq_true hlt
          exact OpM.val (evA (ev_indexAddr e1 e2 (tel_ok ht) hlt)) ⟨b, κ, hb, rfl⟩ r
        · trivial
      · trivial
    · rename_i id off
      obtain ⟨b, κ, hb, e⟩ := hv
      have e1 : opv (envFor a [x, y]) x = some (.pointer (some ⟨b, off, none⟩)) := by rw [opv_for a (by simp), e]
      split
      · rename_i n E sz ht
        split
        · rename_i hlt
          have hlt : j < n := Nat.le_of_ble_eq_true hlt
          refine OpM.val (evA (ev_indexAddr_arr e1 e2 (tarr_ok ht) hlt)) ⟨b, κ, hb, rfl⟩ r
        · trivial
      · trivial
    · trivial
  · trivial
theorem okI_ok {k : IntKind} {n : Int} {v : AV} (h : okI k n = some v) : v = .s (.int k n) ∧ InK k n := by
  unfold okI at h
  split at h
  · rename_i hk; cases h; exact ⟨rfl, inK_ok hk⟩
  · cases h
theorem ilt_eq (m n : Int) : ilt m n = decide (m < n) := by
  cases m <;> cases n <;> unfold ilt <;> rw [Bool.eq_iff_iff] <;> simp [Nat.blt, Nat.ble_eq, Int.negSucc_eq] <;> omega
theorem ieq_eq (m n : Int) : ieq m n = decide (m = n) := by
  cases m <;> cases n <;> unfold ieq <;> rw [Bool.eq_iff_iff] <;> simp [Nat.beq_eq, Int.negSucc_eq] <;> omega
theorem intOp_ok {op : BinOp} {k : IntKind} {m n : Int} {v : AV} (hs : op ≠ .shl) (hs' : op ≠ .shr) (h : intOp k m n op = some v) (w : World) : ∃ u, (do eqGuard op T x y (.int k m) (.int k n); binOp op T (.int k m) (.int k n) : Sem Value).run P w = .ok u w ∧ AvD F φ v u := by
  cases op with
  | add => obtain ⟨rfl, hk⟩ := okI_ok h; exact ⟨.int k (k.wrap (m + n)), by simp [eqGuard, binOp, Op.intArith, go_sem], by show Value.int k _ = _; rw [wrap_in hk]⟩
  | sub => obtain ⟨rfl, hk⟩ := okI_ok h; exact ⟨.int k (k.wrap (m - n)), by simp [eqGuard, binOp, Op.intArith, go_sem], by show Value.int k _ = _; rw [wrap_in hk]⟩
  | mul => obtain ⟨rfl, hk⟩ := okI_ok h; exact ⟨.int k (k.wrap (m * n)), by simp [eqGuard, binOp, Op.intArith, go_sem], by show Value.int k _ = _; rw [wrap_in hk]⟩
  | quo =>
    dsimp only [intOp] at h
    split at h
    · rename_i m n
      obtain ⟨rfl, hk⟩ := okI_ok h
      refine ⟨.int k (k.wrap ((Int.ofNat m).tdiv (Int.ofNat (n + 1)))), ?_, ?_⟩
      · simp [eqGuard, binOp, Op.intDiv, go_sem]
        omega
      · show Value.int k _ = Value.int k _
        rw [show (Int.ofNat m).tdiv (Int.ofNat (n + 1)) = Int.ofNat (m / (n + 1)) from rfl, wrap_in hk]
    · cases h
  | rem =>
    dsimp only [intOp] at h
    split at h
    · rename_i m n
      obtain ⟨rfl, hk⟩ := okI_ok h
      refine ⟨.int k ((Int.ofNat m).tmod (Int.ofNat (n + 1))), ?_, rfl⟩
      simp [eqGuard, binOp, Op.intDiv, go_sem]
      omega
    · cases h
  | and => cases h; exact ⟨.int k (k.wrap (BitVec.ofInt k.bits m &&& BitVec.ofInt k.bits n).toNat), by simp [eqGuard, binOp, Op.intBits, go_sem], rfl⟩
  | or => cases h; exact ⟨.int k (k.wrap (BitVec.ofInt k.bits m ||| BitVec.ofInt k.bits n).toNat), by simp [eqGuard, binOp, Op.intBits, go_sem], rfl⟩
  | xor => cases h; exact ⟨.int k (k.wrap (BitVec.ofInt k.bits m ^^^ BitVec.ofInt k.bits n).toNat), by simp [eqGuard, binOp, Op.intBits, go_sem], rfl⟩
  | andNot => cases h; exact ⟨.int k (k.wrap (BitVec.ofInt k.bits m &&& ~~~BitVec.ofInt k.bits n).toNat), by simp [eqGuard, binOp, Op.intBits, go_sem], rfl⟩
  | shl => exact absurd rfl hs
  | shr => exact absurd rfl hs'
  | eql => cases h; exact ⟨.bool (m == n), by simp [eqGuard, binOp, Op.intCmp, go_sem], by show Value.bool _ = Value.bool _; rw [ieq_eq]; rfl⟩
  | neq => cases h; exact ⟨.bool (m != n), by simp [eqGuard, binOp, Op.intCmp, go_sem], by show Value.bool _ = Value.bool _; rw [ieq_eq]; rfl⟩
  | lss => cases h; exact ⟨.bool (decide (m < n)), by simp [eqGuard, binOp, Op.intCmp, go_sem], by show Value.bool _ = Value.bool _; rw [ilt_eq]⟩
  | leq => cases h; exact ⟨.bool (decide (m ≤ n)), by simp [eqGuard, binOp, Op.intCmp, go_sem], by show Value.bool _ = Value.bool _; rw [ilt_eq, ← decide_not]; congr 1; rw [decide_eq_decide]; omega⟩
  | gtr => cases h; exact ⟨.bool (decide (m > n)), by simp [eqGuard, binOp, Op.intCmp, go_sem], by show Value.bool _ = Value.bool _; rw [ilt_eq]⟩
  | geq => cases h; exact ⟨.bool (decide (m ≥ n)), by simp [eqGuard, binOp, Op.intCmp, go_sem], by show Value.bool _ = Value.bool _; rw [ilt_eq, ← decide_not]; congr 1; rw [decide_eq_decide]; omega⟩
theorem shOp_ok {op : BinOp} {k k' : IntKind} {m n : Int} {v : AV} (h : shOp k m n op = some v) (w : World) : ∃ u, (do eqGuard op T x y (.int k m) (.int k' n); binOp op T (.int k m) (.int k' n) : Sem Value).run P w = .ok u w ∧ AvD F φ v u := by
  cases op with
  | shl =>
    dsimp only [shOp] at h
    split at h
    · rename_i n
      cases h
      refine ⟨.int k (k.wrap (m * 2 ^ (min n k.bits))), ?_, rfl⟩
      simp [eqGuard, binOp, Op.shift, go_sem]
    · cases h
  | shr =>
    dsimp only [shOp] at h
    split at h
    · rename_i m n
      cases h
      refine ⟨.int k ((Int.ofNat m).fdiv (2 ^ (min n k.bits))), ?_, ?_⟩
      · simp [eqGuard, binOp, Op.shift, go_sem]
      · show Value.int k _ = Value.int k _
        have e3 : ((2 : Int) ^ (min n k.bits)) = ((2 ^ (min n k.bits) : Nat) : Int) := by simp
        rw [e3, Int.fdiv_eq_ediv_of_nonneg _ (Int.natCast_nonneg _)]
        rfl
    · cases h
  | _ => cases h
end
end Go.Proofs.YtjjjckmpkldgnaaGreatDoor.Rk
namespace Go.Proofs.YtjjjckmpkldgnaaGreatDoor
open Go.RowKit
set_option maxRecDepth 100000
theorem strOf_beq (a b : List UInt8) : (strOf a == strOf b) = decide (a = b) := by
  show (a.toArray == b.toArray) = decide (a = b)
  by_cases h : a = b
  · subst h; simp
  · rw [decide_eq_false h]
    rw [beq_eq_false_iff_ne]
    exact fun e => h (by simpa using congrArg Array.toList e)
theorem checkKey_str {P : Program} {kt : TypeId} (hk : P.underlying kt = some .string) (n : Nat) (b : Bool) (v : Value) (w : World) : (Instr.checkKey b (n + 1) kt v).run P w = .ok () w := by
  cases v <;> simp [Instr.checkKey, run_underlying hk]
/-- A plain field's type. -/
def plainKey (P : Program) (t : TypeId) : Bool := match P.underlying t with
  | some (.int _) => true
  | some .string => true
  | _ => false
theorem checkKey_plain {P : Program} {t : TypeId} (h : plainKey P t = true) (n : Nat) (b : Bool) (v : Value) (w : World) : (Instr.checkKey b (n + 1) t v).run P w = .ok () w := by
  unfold plainKey at h
  cases hu : P.underlying t with
  | none => rw [hu] at h; cases h
  | some d =>
    rw [hu] at h
    cases d <;> first | (cases h; done) | exact checkKey_int hu n b v w | exact checkKey_str hu n b v w
theorem part_plain {P : Program} {t off : Nat} {cs : List Value} {v : Value} (h : plainKey P t = true) (hc : cs[off]? = some v) (w : World) : (part t cs.toArray off).run P w = .ok v w := by
  unfold plainKey at h
  cases hu : P.underlying t with
  | none => rw [hu] at h; cases h
  | some d =>
    rw [hu] at h
    cases d <;> first | (cases h; done) | exact run_part_1 hu rfl hc w
theorem checkKey_two {P : Program} {kt : TypeId} {f1 f2 : Field} (hu : P.underlying kt = some (.struct #[f1, f2])) (h1 : plainKey P f1.type = true) (h2 : plainKey P f2.type = true) (ho1 : f1.offset = 0) (ho2 : f2.offset = 1) (b : Bool) (x y : Value) (n : Nat) (w : World) :
    (Instr.checkKey b (n + 2) kt (.agg #[x, y])).run P w = .ok () w := by
  have q1 : (part f1.type #[x, y] f1.offset).run P w = .ok x w := part_plain (cs := [x, y]) h1 (by rw [ho1]; rfl) w
  have q2 : (part f2.type #[x, y] f2.offset).run P w = .ok y w := part_plain (cs := [x, y]) h2 (by rw [ho2]; rfl) w
  have c1 := checkKey_plain h1 n b x w
  have c2 := checkKey_plain h2 n b y w
  rw [Instr.checkKey]
  simp only [Sem.run_bind, run_underlying hu, Result.andThen_ok]
  rw [show (#[f1, f2] : Array Field) = [f1, f2].toArray from rfl, List.forIn_toArray]
  by_cases n1 : f1.name = "_" <;> by_cases n2 : f2.name = "_" <;> simp only [List.forIn_cons, List.forIn_nil, Sem.run_bind, Sem.run_pure, n1, n2, ne_eq, not_true_eq_false, not_false_eq_true, if_true, if_false, q1, q2, c1, c2, Result.andThen_ok]
end Go.Proofs.YtjjjckmpkldgnaaGreatDoor
