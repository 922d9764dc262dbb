/-
  The reckoner's operations are the model's: constants, parts, cuts, literals, lengths. Plain theorems; no condition.
  What comes in, read by its type: one reading for each type, put together. Plain theorems over any program; no condition.
  Open orders: calls that only hand back a value; values that are told apart. Plain theorems over any program; no condition.
  Open orders whose last operation waits for all others: the others are walked in the text's order (calls that only hand back a value among them), then comes the last one. Plain theorems over any program; no condition.
  Open orders in which the last operations wait for all others, be it through others: the others are walked in the text's order (calls that only hand back a value among them). Plain theorems over any program; no condition.
  'append(s, make([]T, n)...)'. Plain theorems over any program; no condition.
  Functions as values: made, called. Plain theorems over any program; no condition.
  Values of interface types: made, and their methods called. Plain theorems over any program; no condition.
-/
import Derived.Test.YtjjjckmpkldgnaaGreatDoorUe
import Derived.Test.YtjjjckmpkldgnaaGreatDoorKp
import Derived.Lib.AppendZeros
import Derived.Test.YtjjjckmpkldgnaaGreatDoorKja
import Derived.Test.YtjjjckmpkldgnaaGreatDoorUd
namespace Go.Proofs.YtjjjckmpkldgnaaGreatDoor.Rk
open Go.RowKit
set_option maxRecDepth 100000
/-! constants -/
theorem packU_lt : ∀ (l : List UInt8) (x : Nat), ∃ z, z < 256 ^ l.length ∧ packU l x = x * 256 ^ l.length + z ∧ unp l.length z = l
  | [], x => ⟨0, by simp, by simp [packU], rfl⟩
  | a :: r, x => by
    obtain ⟨z, hz, e1, e2⟩ := packU_lt r (x * 256 + a.toNat)
    have ha : a.toNat < 256 := a.toNat_lt
    refine ⟨a.toNat * 256 ^ r.length + z, ?_, ?_, ?_⟩
    · rw [List.length_cons, Nat.pow_succ, Nat.mul_comm _ 256]
      calc a.toNat * 256 ^ r.length + z < a.toNat * 256 ^ r.length + 256 ^ r.length := by omega
        _ = (a.toNat + 1) * 256 ^ r.length := by rw [Nat.add_mul, Nat.one_mul]
        _ ≤ 256 * 256 ^ r.length := Nat.mul_le_mul_right _ ha
    · show packU r (x * 256 + a.toNat) = _
      rw [e1, List.length_cons, Nat.pow_succ, Nat.add_mul, Nat.mul_assoc, Nat.mul_comm 256, Nat.add_assoc]
    · rw [List.length_cons, Nat.add_comm r.length 1, unp_cat 1 r.length a.toNat z hz, e2]
      show UInt8.ofNat (a.toNat / 256 ^ 0) :: r = _
      rw [Nat.pow_zero, Nat.div_one, UInt8.ofNat_toNat]
theorem packU_0 (l : List UInt8) : packU l 0 < 256 ^ l.length ∧ unp l.length (packU l 0) = l := by
  obtain ⟨z, hz, e1, e2⟩ := packU_lt l 0
  rw [Nat.zero_mul, Nat.zero_add] at e1
  rw [e1]; exact ⟨hz, e2⟩
section
variable {F : PH} {φ : Vl}
theorem ofS_ok {v : Value} {x : SV} (h : ofS v = some x) : SvD F φ x v := by
  unfold ofS at h
  split at h
  · cases h; rfl
  · cases h; rfl
  · rename_i s
    cases h
    obtain ⟨h1, h2⟩ := packU_0 s.data.toList
    have hl : s.data.toList.length = s.size := Array.length_toList
    rw [hl] at h1 h2
    refine ⟨h1, ?_⟩
    rw [h2]
    show Value.string s = Value.string (strOf s.data.toList)
    congr 1
  · cases h; rfl
  · cases h; rfl
  · cases h; rfl
  · cases h; exact ⟨_, [], [], rfl, .nil, .nil, rfl⟩
  · cases h; rfl
  · cases h; rfl
  · cases h
theorem ofSs_ok : ∀ {vs : List Value} {xs : List SV}, ofSs vs = some xs → All2 (SvD F φ) xs vs
  | [], xs, h => by cases h; exact .nil
  | a :: r, xs, h => by
    unfold ofSs at h
    obtain ⟨x, hx, h⟩ := oget_some h
    obtain ⟨l, hl, h⟩ := oget_some h
    cases h
    exact .cons (ofS_ok hx) (ofSs_ok hl)
theorem ofC_ok {v : Value} {x : AV} (h : ofC v = some x) : AvD F φ x v := by
  unfold ofC at h
  split at h
  · rename_i cs
    cases hs : ofSs cs.toList with
    | none => rw [hs] at h; cases h
    | some xs =>
      rw [hs] at h; cases h
      exact ⟨cs.toList, ofSs_ok hs, by simp⟩
  · cases hs : ofS v with
    | none => rw [hs] at h; cases h
    | some y => rw [hs] at h; cases h; exact ofS_ok hs
theorem tzero_ok {T : TypeId} {z : List SV} (h : tzero T = some z) : ∃ us, zeroCs P T = some us ∧ All2 (SvD F φ) z us := by
  unfold tzero at h
  obtain ⟨i, hi, h1⟩ := oget_some h
  obtain ⟨v, hv, h2⟩ := oget_some h1
  have h := h2
  have e := infoT_ok hi
  obtain ⟨a1, a2, a3, a4, a5, a6, a7, a8, a9, a10⟩ := i
  dsimp only at hv
  subst hv
  split at h
  · rename_i cs
    refine ⟨cs.toList, ?_, ofSs_ok h⟩
    unfold zeroCs
    rw [e]
  · rename_i hn
    cases hs : ofS v with
    | none => rw [hs] at h; cases h
    | some y =>
      rw [hs] at h; cases h
      refine ⟨[v], ?_, .cons (ofS_ok hs) .nil⟩
      unfold zeroCs
      rw [e]
      cases v <;> first | rfl | exact absurd rfl (hn _)
/-- The frame's slots. -/
def EnvOk (F : PH) (φ : Vl) (l : Env) (a : Act) : Prop := ∀ t v, l.get t = some v → AvD F φ v (a.tmps.getD t undef)
theorem EnvOk.op {l : Env} {a : Act} (e : EnvOk F φ l a) (x : Operand) : OpOk F φ l a.eval x := fun v h => by
  cases x with
  | tmp t => exact e t v h
  | const c => exact ofC_ok h
  | func f => cases h; exact ⟨_, [], [], rfl, .nil, .nil, rfl⟩
  | global g => cases h
end
section
variable {a : Act} {F : PH} {φ : Vl} {l : Env} {h : Hp} {nx : Nat} {w : World} {d : Option Nat} {T T' U E : TypeId} {pos : String} {af : Array Edge} {g : Option (Nat × Bool)} {x y z : Operand}
theorem tfld_ok {i off : Nat} {ft : TypeId} (h : tfld T i = some (off, ft)) : ∃ fs f, P.underlying T = some (.struct fs) ∧ fs[i]? = some f ∧ f.offset = off ∧ f.type = ft := by
  unfold tfld at h
  split at h
  · rename_i fs hu
    cases hf : fs[i]? with
    | none => rw [hf] at h; cases h
    | some f => rw [hf] at h; cases h; exact ⟨fs, f, undT_ok hu, hf, rfl, rfl⟩
  · cases h
theorem tplain_und (h : tplain T = true) : ∃ ds, P.underlying T = some ds ∧ (match ds with | .struct _ | .array _ _ => true | _ => false) = false := by
  unfold tplain at h
  split at h
  · cases h
  · cases h
  · rename_i d h1 h2 hu
    refine ⟨d, undT_ok hu, ?_⟩
    split
    · exact absurd rfl (h1 _)
    · exact absurd rfl (h2 _ _)
    · rfl
  · cases h
theorem part_s {off : Nat} {cs : List SV} {us : List Value} {q : AV} (hp : tplain T = true) (hu : All2 (SvD F φ) cs us) (hq : (lget cs off).map AV.s = some q) (w : World) : ∃ u, (part T us.toArray off).run P w = .ok u w ∧ AvD F φ q u := by
  rw [lget_eq] at hq
  cases hg : cs[off]? with
  | none => rw [hg] at hq; cases hq
  | some s =>
    rw [hg] at hq; cases hq
    obtain ⟨u, h1, h2⟩ := hu.get hg
    obtain ⟨ds, e1, e2⟩ := tplain_und hp
    refine ⟨u, ?_, h2⟩
    cases ds <;> first | exact run_part_1 e1 rfl h1 w | cases e2
theorem part_n {off n : Nat} {cs : List SV} {us : List Value} {q : AV} (hp : tagg T = some n) (hu : All2 (SvD F φ) cs us) (hq : (ltake n (ldrop cs off)).map AV.agg = some q) (w : World) : ∃ u, (part T us.toArray off).run P w = .ok u w ∧ AvD F φ q u := by
  rw [ldrop_eq] at hq
  cases hg : ltake n (cs.drop off) with
  | none => rw [hg] at hq; cases hq
  | some s =>
    rw [hg] at hq; cases hq
    obtain ⟨rfl, _⟩ := ltake_eq _ _ _ hg
    exact ⟨_, run_part_n (tagg_ok hp) w, _, (hu.drop off).take n, rfl⟩
theorem field_ok {i : Nat} (hx : OpOk F φ l a.eval x) (r : HR F φ h w) : SROk ⟨d, .field T x i, U, pos, af, g⟩ a.eval F φ h nx w (sField T x i l h nx) := by
  refine on1_ok hx fun v hv => ?_
  unfold oField
  split
  · rename_i cs off ft ht
    obtain ⟨fs, f, hu, hf, rfl, rfl⟩ := tfld_ok ht
    obtain ⟨us, hus, e⟩ := hv
    have fin : ∀ {q : AV} {u : Value}, (part f.type us.toArray f.offset).run P w = .ok u w → AvD F φ q u → OpM ⟨d, .field T x i, U, pos, af, g⟩ a.eval F φ nx w q h nx := fun {q u} h1 h2 => by
      refine OpM.val (u := u) (run_v (s := Instr.field T (a.eval x) i) ?_) h2 r
      rw [e]
      simp [Instr.field, run_underlying hu, hf, asAgg, h1]
    split
    · rename_i n hn
      refine srv_ok fun q hq => ?_
      obtain ⟨u, h1, h2⟩ := part_n hn hus hq w
      exact fin h1 h2
    · split
      · rename_i hp
        refine srv_ok fun q hq => ?_
        obtain ⟨u, h1, h2⟩ := part_s hp hus hq w
        exact fin h1 h2
      · trivial
  · trivial
theorem unp_get {n x j : Nat} (h : j < n) : (unp n x)[j]? = some (UInt8.ofNat (x / 256 ^ (n - 1 - j))) := by
  obtain ⟨k, rfl⟩ : ∃ k, n = j + (k + 1) := ⟨n - 1 - j, by omega⟩
  have h1 := unp_drop j (k + 1) x
  have : (unp (j + (k + 1)) x)[j]? = ((unp (j + (k + 1)) x).drop j)[0]? := by simp
  rw [this, h1]
  show some _ = _
  congr 3
  congr 1
  omega
theorem index_ok (hx : OpOk F φ l a.eval x) (hy : OpOk F φ l a.eval y) (r : HR F φ h w) : SROk ⟨d, .index T x y, U, pos, af, g⟩ a.eval F φ h nx w (sIndex T x y l h nx) := by
  refine on2_ok hx hy fun v v' hv hv' => ?_
  unfold oIndex
  split
  · rename_i j hj
    obtain ⟨k, ey⟩ := natOf_ok hj hv'
    have e2 : opv (envFor a [x, y]) y = some (.int k (j : Int)) := by rw [opv_for a (by simp), ey]
    split
    · rename_i n s
      obtain ⟨hs, e⟩ := hv
      have e1 : opv (envFor a [x, y]) x = some (.string (strOf (unp n s))) := by rw [opv_for a (by simp), e]
      split
      · rename_i hu
        split
        · rename_i hlt
          have hlt : j < n := Nat.le_of_ble_eq_true hlt
          refine OpM.val (evA (ev_index_str e1 e2 (undT_ok hu) (c := UInt8.ofNat (s / 256 ^ (n - 1 - j))) (n := s / 256 ^ (n - 1 - j) % 256) ?_ ?_)) rfl r
          · show (unp n s).toArray[j]? = _
            rw [List.getElem?_toArray, unp_get hlt]
          · rw [UInt8.toNat_ofNat']
        · trivial
      · trivial
    · rename_i cs
      obtain ⟨us, hus, e⟩ := hv
      split
      · rename_i n E sz ht
        split
        · rename_i hlt
          have hlt : j < n := Nat.le_of_ble_eq_true hlt
          obtain ⟨hu, i, hi, hsz⟩ := arrOf_info (tarr_ok ht)
          have fin : ∀ {q : AV} {u : Value}, (part E us.toArray (j * sz)).run P w = .ok u w → AvD F φ q u → OpM ⟨d, .index T x y, U, pos, af, g⟩ a.eval F φ nx w q h nx := fun {q u} h1 h2 => by
            refine OpM.val (u := u) (run_v (s := Instr.index T (a.eval x) (a.eval y)) ?_) h2 r
            rw [e, ey]
            have h3 : (j : Int) < (n : Int) := by omega
            simp [Instr.index, asIntOf, run_underlying hu, h3, run_sizeOf hi, hsz, h1]
            intro hni
            omega
          split
          · rename_i m hm
            split
            · rename_i hms
              have hms := Nat.eq_of_beq_eq_true hms
              subst hms
              refine srv_ok fun q hq => ?_
              obtain ⟨u, h1, h2⟩ := part_n hm hus hq w
              exact fin h1 h2
            · trivial
          · split
            · rename_i hp
              rw [Bool.and_eq_true] at hp
              have hs1 := Nat.eq_of_beq_eq_true hp.2
              refine srv_ok fun q hq => ?_
              obtain ⟨u, h1, h2⟩ := part_s hp.1 hus hq w
              refine fin (u := u) ?_ h2
              rw [hs1, Nat.mul_one]; exact h1
            · trivial
        · trivial
      · trivial
    · trivial
  · trivial
end
end Go.Proofs.YtjjjckmpkldgnaaGreatDoor.Rk
namespace Go.Proofs.YtjjjckmpkldgnaaGreatDoor
open Go.RowKit Go.ChangeShapes Go.WideShapes Go.ChangeAt
/-- A type's values as plain data: its cells' number, which cells say which datum, and that what comes in says one. -/
structure Ty (P : Program) (t : TypeId) (α : Type) where
  sz : Nat
  rep : PH → α → List Value → Prop
  mono : ∀ {F G : PH} {x : α} {cs : List Value}, F.le G → rep F x cs → rep G x cs
  len : ∀ {F : PH} {x : α} {cs : List Value}, rep F x cs → cs.length = sz
  ones : ∀ {F : PH} {x : α} {cs : List Value}, rep F x cs → Ones cs
  opn : ∀ {H : Type} {enc : TypeId × Value → H} {W : World} {base : Nat} {sp : Nat → Bool} {held : Bool} {fuel : Nat} {cs : List Value} {y : DataW H × List MemPlace}, DataW.trod enc P W base sp held fuel t cs = some y → ∃ x, rep (ph W) x cs
theorem wf_inK {k : IntKind} {n : Int} (h : (Lit.int k n).wf = true) : InK k n := by
  cases k
  · exact bounds_i8 h
  · exact bounds_i16 h
  · exact bounds_i32 h
  · exact bounds_i64 h
  · exact bounds_u8 h
  · exact bounds_u16 h
  · exact bounds_u32 h
  · exact bounds_u64 h
def tyInt {P : Program} {t : TypeId} {k : IntKind} (ht : P.underlying t = some (.int k)) : Ty P t Int where
  sz := 1
  rep := fun _ n cs => cs = [.int k n] ∧ InK k n
  mono := fun _ h => h
  len := fun h => by rw [h.1]; rfl
  ones := fun h => by rw [h.1]; exact ones_cons rfl ones_nil
  opn := fun h => by
    obtain ⟨n, rfl, _, hw⟩ := DataW.trod_int ht h
    exact ⟨n, rfl, wf_inK hw⟩
inductive All2 {α β : Type} (R : α → β → Prop) : List α → List β → Prop where
  | nil : All2 R [] []
  | cons {x : α} {y : β} {xs : List α} {ys : List β} (h : R x y) (t : All2 R xs ys) : All2 R (x :: xs) (y :: ys)
theorem All2.len1 {α β : Type} {R : α → β → Prop} {xs : List α} {ys : List β} (h : All2 R xs ys) : xs.length = ys.length := by
  induction h with
  | nil => rfl
  | cons _ _ ih => simp [ih]
theorem All2.mono {α β : Type} {R S : α → β → Prop} (hRS : ∀ x y, R x y → S x y) {xs : List α} {ys : List β} (h : All2 R xs ys) : All2 S xs ys := by
  induction h with
  | nil => exact .nil
  | cons h _ ih => exact .cons (hRS _ _ h) ih
theorem All2.at {α β : Type} {R : α → β → Prop} {xs : List α} {ys : List β} (h : All2 R xs ys) : ∀ {i : Nat} {x : α}, xs[i]? = some x → ∃ y, ys[i]? = some y ∧ R x y := by
  induction h with
  | nil => intro i x e; simp at e
  | cons h _ ih =>
    intro i x e
    cases i with
    | zero => simp at e; subst e; exact ⟨_, rfl, h⟩
    | succ i => exact ih (by simpa using e)
theorem All2.of {α β : Type} {R : α → β → Prop} : ∀ {ys : List β}, (∀ y ∈ ys, ∃ x, R x y) → ∃ xs, All2 R xs ys
  | [], _ => ⟨[], .nil⟩
  | y :: ys, h => by
    obtain ⟨x, hx⟩ := h y List.mem_cons_self
    obtain ⟨xs, hxs⟩ := All2.of fun y hy => h y (List.mem_cons_of_mem _ hy)
    exact ⟨x :: xs, .cons hx hxs⟩
theorem All2.right {α β : Type} {R : α → β → Prop} {xs : List α} {ys : List β} (h : All2 R xs ys) : ∀ y ∈ ys, ∃ x ∈ xs, R x y := by
  induction h with
  | nil => intro y h; cases h
  | cons h _ ih =>
    intro y hy
    rcases List.mem_cons.1 hy with rfl | hy
    · exact ⟨_, List.mem_cons_self, h⟩
    · obtain ⟨x, hx, hr⟩ := ih y hy
      exact ⟨x, List.mem_cons_of_mem _ hx, hr⟩
/-- A row of so many. -/
def RowV {P : Program} {e : TypeId} {α : Type} (te : Ty P e α) (F : PH) (v : Value) (xs : List α) : Prop :=
  ∃ css, SliceV F te.sz v xs.length css.flatten ∧ All2 (te.rep F) xs css
section
variable {P : Program} {e : TypeId} {α : Type} {te : Ty P e α} {F G : PH} {v : Value} {xs : List α}
theorem RowV.mono (h : RowV te F v xs) (hl : F.le G) : RowV te G v xs := by
  obtain ⟨css, h1, h2⟩ := h
  exact ⟨css, SliceV.mono h1 hl, All2.mono (fun _ _ => te.mono hl) h2⟩
theorem RowV.form (h : RowV te F v xs) : ∃ a c, v = .slice a xs.length c ∧ xs.length ≤ c := by
  obtain ⟨css, ⟨_, a, c, e, hn, _⟩, _⟩ := h
  exact ⟨a, c, e, hn⟩
theorem RowV.nil : RowV te F (.slice none 0 0) [] := ⟨[], SliceV.nil F _, .nil⟩
/-- What stands at a place of a row. -/
theorem RowV.at {a : Option Addr} {n c i : Nat} {x : α} (h : RowV te F (.slice a n c) xs) (hi : xs[i]? = some x) : ∃ b off cs, a = some ⟨b, off, none⟩ ∧ Cells F b (off + i * te.sz) cs ∧ te.rep F x cs ∧ i < n := by
  obtain ⟨css, h1, h2⟩ := h
  have hn : n = xs.length := by
    obtain ⟨_, a', c', e, _⟩ := h1
    injection e
  subst hn
  have hlt := (List.getElem?_eq_some_iff.1 hi).1
  obtain ⟨cs, hc, hr⟩ := All2.at h2 hi
  obtain ⟨b, off, ha, hcc⟩ := h1.row (fun c hc => by obtain ⟨x, _, hx⟩ := All2.right h2 c hc; exact te.len hx) hc hlt
  exact ⟨b, off, cs, ha, hcc, hr, hlt⟩
end
def tySlice {P : Program} {t e : TypeId} {α : Type} (te : Ty P e α) (ht : P.underlying t = some (.slice e)) (hc : P.cellsOf e = te.sz) (hpos : 0 < te.sz) : Ty P t (List α) where
  sz := 1
  rep := fun F xs cs => ∃ v, cs = [v] ∧ RowV te F v xs
  mono := fun hl ⟨v, h1, h2⟩ => ⟨v, h1, h2.mono hl⟩
  len := fun ⟨v, h1, _⟩ => by rw [h1]; rfl
  ones := fun ⟨v, h1, h2⟩ => by
    obtain ⟨a, c, rfl, _⟩ := h2.form
    rw [h1]; exact ones_cons rfl ones_nil
  opn := fun h => by
    obtain ⟨a, n, c, css, m, rfl, _, _, hl, hs, hel⟩ := open_sl ht (by rw [hc]; exact hpos) h
    rw [hc] at hs
    obtain ⟨xs, hxs⟩ := All2.of (R := te.rep _) fun c h => let ⟨_, _, hy⟩ := hel c h; te.opn hy
    have hxl : xs.length = n := (All2.len1 hxs).trans hl
    subst hxl
    exact ⟨xs, _, rfl, css, hs, hxs⟩
/-- A row of bytes. -/
def tyBytes {P : Program} {t e : TypeId} (ht : P.underlying t = some (.slice e)) (he : P.underlying e = some (.int .u8)) (hc : P.cellsOf e = 1) : Ty P t (List UInt8) where
  sz := 1
  rep := fun F bs cs => ∃ v, cs = [v] ∧ SliceV F 1 v bs.length (u8s bs)
  mono := fun hl ⟨v, h1, h2⟩ => ⟨v, h1, SliceV.mono h2 hl⟩
  len := fun ⟨v, h1, _⟩ => by rw [h1]; rfl
  ones := fun ⟨v, h1, ⟨_, a, c, e, _⟩⟩ => by rw [h1, e]; exact ones_cons rfl ones_nil
  opn := fun {_ enc W base sp held fuel cs y} h => by
    obtain ⟨a, n, c, css, m, hcs, hn, hm, hl, hs, hel⟩ := open_sl ht (by rw [hc]; omega) h
    subst hcs
    rw [hc] at hs hel
    have key : ∀ (css : List (List Value)), (∀ c ∈ css, c.length = 1 ∧ ∃ y, DataW.trod enc P W base sp held m e c = some y) → ∃ bs : List UInt8, css.flatten = u8s bs ∧ bs.length = css.length := by
      intro css
      induction css with
      | nil => intro _; exact ⟨[], rfl, rfl⟩
      | cons c css ih =>
        intro h
        obtain ⟨bs, h1, h2⟩ := ih fun c hc => h c (List.mem_cons_of_mem _ hc)
        obtain ⟨_, y, hy⟩ := h c List.mem_cons_self
        obtain ⟨z, rfl, _, hw⟩ := DataW.trod_int he hy
        have hb := bounds_u8 hw
        refine ⟨UInt8.ofNat z.toNat :: bs, ?_, by simp [h2]⟩
        rw [List.flatten_cons, h1]
        have e1 : ((UInt8.ofNat z.toNat).toNat : Int) = z := by simp; omega
        simp [u8s, e1]
        omega
    obtain ⟨bs, h1, h2⟩ := key css hel
    rw [hl] at h2
    rw [h1] at hs
    subst h2
    exact ⟨bs, _, rfl, hs⟩
/-- An array of bytes. -/
def tyArr {P : Program} {t e n : Nat} (ht : P.underlying t = some (.array n e)) (he : P.underlying e = some (.int .u8)) (hce : P.cellsOf e = 1) (hct : P.cellsOf t = n) : Ty P t (List UInt8) where
  sz := n
  rep := fun _ bs cs => cs = u8s bs ∧ bs.length = n
  mono := fun _ h => h
  len := fun h => by rw [h.1]; simp [u8s, h.2]
  ones := fun h => by
    rw [h.1]
    intro v hv
    obtain ⟨x, _, rfl⟩ := List.mem_map.1 hv
    rfl
  opn := fun {_ enc W base sp held fuel cs y} h => by
    obtain ⟨xs, m, _, _, hl, hxl, hf⟩ := DataW.trod_array ht h
    rw [hce] at hf
    rw [hct] at hl
    have key : ∀ (k : Nat), k ≤ n → ∃ bs : List UInt8, cs.take k = u8s bs ∧ bs.length = k := by
      intro k
      induction k with
      | zero => intro _; exact ⟨[], by simp [u8s], rfl⟩
      | succ k ih =>
        intro hk
        obtain ⟨bs, h1, h2⟩ := ih (by omega)
        have hk' := hf k (by omega)
        rw [List.getElem?_eq_getElem (by omega)] at hk'
        obtain ⟨z, hz, _, hw⟩ := DataW.trod_int he hk'
        have hb := bounds_u8 hw
        have e1 : ((UInt8.ofNat z.toNat).toNat : Int) = z := by simp; omega
        refine ⟨bs ++ [UInt8.ofNat z.toNat], ?_, by simp [h2]⟩
        have hc : cs[k]? = some (.int .u8 z) := by
          have : ((cs.drop (k * 1)).take 1)[0]? = some (.int .u8 z) := by rw [hz]; rfl
          simpa using this
        rw [List.take_add_one, h1, hc]
        simp [u8s, e1]
        omega
    obtain ⟨bs, h1, h2⟩ := key n (Nat.le_refl _)
    rw [List.take_of_length_le (by omega)] at h1
    exact ⟨bs, h1, h2⟩
/-- Fields, one behind the other. -/
structure Fs (P : Program) (fs : List Field) (o : Nat) (α : Type) where
  sz : Nat
  rep : PH → α → List Value → Prop
  mono : ∀ {F G : PH} {x : α} {cs : List Value}, F.le G → rep F x cs → rep G x cs
  len : ∀ {F : PH} {x : α} {cs : List Value}, rep F x cs → cs.length = sz
  ones : ∀ {F : PH} {x : α} {cs : List Value}, rep F x cs → Ones cs
  opn : ∀ {H : Type} {enc : TypeId × Value → H} {W : World} {base : Nat} {sp : Nat → Bool} {held : Bool} {m : Nat} {cs : List Value}, cs.length = o + sz →
    (∀ (i : Nat) (f : Field), fs[i]? = some f → ∃ y, DataW.trod enc P W base sp held m f.type ((cs.drop f.offset).take (P.cellsOf f.type)) = some y) → ∃ x, rep (ph W) x (cs.drop o)
def fsNil {P : Program} (o : Nat) : Fs P [] o Unit where
  sz := 0
  rep := fun _ _ cs => cs = []
  mono := fun _ h => h
  len := fun h => by rw [h]; rfl
  ones := fun h => by rw [h]; exact ones_nil
  opn := fun hl _ => ⟨(), List.drop_eq_nil_of_le (by omega)⟩
def fsCons {P : Program} {f : Field} {fs : List Field} {o : Nat} {α β : Type} (ty : Ty P f.type α) (rest : Fs P fs (o + ty.sz) β) (ho : f.offset = o) (hc : P.cellsOf f.type = ty.sz) : Fs P (f :: fs) o (α × β) where
  sz := ty.sz + rest.sz
  rep := fun F x cs => ∃ c1 c2, cs = c1 ++ c2 ∧ ty.rep F x.1 c1 ∧ rest.rep F x.2 c2
  mono := fun hl ⟨c1, c2, h, h1, h2⟩ => ⟨c1, c2, h, ty.mono hl h1, rest.mono hl h2⟩
  len := fun ⟨c1, c2, h, h1, h2⟩ => by rw [h, List.length_append, ty.len h1, rest.len h2]
  ones := fun ⟨c1, c2, h, h1, h2⟩ => by rw [h]; exact ones_append (ty.ones h1) (rest.ones h2)
  opn := fun {_ enc W base sp held m cs} hl hf => by
    obtain ⟨y, hy⟩ := hf 0 f rfl
    rw [ho, hc] at hy
    obtain ⟨x, hx⟩ := ty.opn hy
    obtain ⟨x2, hx2⟩ := rest.opn (enc := enc) (W := W) (base := base) (sp := sp) (held := held) (m := m) (cs := cs) (by omega) fun i g hg => hf (i + 1) g hg
    refine ⟨(x, x2), _, _, ?_, hx, hx2⟩
    rw [← List.drop_drop, List.take_append_drop]
def tyStruct {P : Program} {t : TypeId} {fs : Array Field} {α : Type} (ht : P.underlying t = some (.struct fs)) (ff : Fs P fs.toList 0 α) (hc : P.cellsOf t = ff.sz) : Ty P t α where
  sz := ff.sz
  rep := ff.rep
  mono := ff.mono
  len := ff.len
  ones := ff.ones
  opn := fun {_ enc W base sp held fuel cs y} h => by
    obtain ⟨xs, m, _, _, hl, hxl, hf⟩ := DataW.trod_struct ht h
    have := ff.opn (enc := enc) (W := W) (base := base) (sp := sp) (held := held) (m := m) (cs := cs) (by omega) fun i f hi => by
      have hi' : fs[i]? = some f := by simpa using hi
      have hlt : i < xs.length := by
        rw [hxl]; exact (Array.getElem?_eq_some_iff.1 hi').1
      exact ⟨xs[i], by rw [hf i f hi']; exact List.getElem?_eq_getElem hlt⟩
    simpa using this
/-- A whole argument of a slice's type. -/
theorem open_row {H : Type} {enc : TypeId × Value → H} {P : Program} {W : World} {base b0 : Nat} {sp : Nat → Bool} {held : Bool} {r : Reach} {t e : TypeId} {α : Type} (te : Ty P e α) {v : Value} {d : DataW H} {ps : List MemPlace} (ht : P.underlying t = some (.slice e)) (hc : P.cellsOf e = te.sz) (hpos : 0 < te.sz)
    (hval : Value.okWide P W r b0 t v) (h : DataW.Trod enc P W base sp held t v d ps) : ∃ xs, RowV te (ph W) v xs := by
  obtain ⟨a, n, c, rfl⟩ := okWide_slice ht hval
  obtain ⟨fuel, hf⟩ := h
  obtain ⟨xs, v, hv, hx⟩ := (tySlice te ht hc hpos).opn hf
  have hv' : [Value.slice a n c] = [v] := by simpa [Value.cells] using hv
  cases hv'
  exact ⟨xs, hx⟩
end Go.Proofs.YtjjjckmpkldgnaaGreatDoor
namespace Go.Proofs.YtjjjckmpkldgnaaGreatDoor
open Go.RowKit
section
variable {C : Ctx} {Fs : PH} {Hs : List Asrt} {ops : Array Oper} {fuel : Nat} {listed : Array Bool} {k : List KItem} {l : Env} {F : PH} {H : List Asrt} {d : Nat} {T : TypeId} {pos : String} {af : Array Edge} {g : Option (Nat × Bool)}
end
end Go.Proofs.YtjjjckmpkldgnaaGreatDoor
namespace Go.Proofs.YtjjjckmpkldgnaaGreatDoor
open Go.RowKit
section
variable {P : Program} {ops : Array Oper} {md : Region.Mode} {Cl : World → Prop} {n : Nat} {R : Act → Prop}
end
section
variable {C : Ctx} {k : List KItem} {l : Env} {F : PH} {H : List Asrt}
/-- What is left: the last operation. -/
abbrev lastK (C : Ctx) (ops : Array Oper) (o : Oper) (k : List KItem) : List KItem := .again (fun a w => wpList C.P ops (kpost C k) [o] a w) :: k
/-- The last operation's turn. -/
theorem jL {ops : Array Oper} {o : Oper} (hd : o.dst.all (· < C.N) = true) (h : JM C false ops [o] k l F H) : J C (lastK C ops o k) l F H := by
  unfold JM at h
  unfold J
  unfold JO at h
  intro a w ha hmw hs
  exact h (by simpa using hd) a w ha hmw hs
end
end Go.Proofs.YtjjjckmpkldgnaaGreatDoor
namespace Go.Proofs.YtjjjckmpkldgnaaGreatDoor
open Go.RowKit
section
variable {P : Program} {ops : Array Oper} {md : Region.Mode} {Cl : World → Prop} {E : List Nat} {R : Array Bool → Act → Prop}
def Shut (md : Region.Mode) (ops : Array Oper) (listed : Array Bool) : Prop := ∀ (j : Nat) (o : Oper), ops[j]? = some o → listed.getD j false = true → ∀ e ∈ o.after, Region.binds md e = true → listed.getD e.on false = true
theorem Shut.set {listed : Array Bool} {i : Nat} (h : Shut md ops listed) (hr : i ∈ Region.ready md ops listed) : Shut md ops (listed.setIfInBounds i true) := fun j o ho hj e he hb => by
  by_cases hji : i = j
  · subst hji
    obtain ⟨_, o', ho', hall⟩ := mem_ready.1 hr
    rw [ho] at ho'
    cases ho'
    exact getD_set_true (hall e he hb)
  · rw [getD_set_ne false hji] at hj
    exact getD_set_true (h j o ho hj e he hb)
/-- Does number e wait for number i, be it through others? -/
def waits (md : Region.Mode) (ops : Array Oper) : Nat → Nat → Nat → Bool
  | 0, _, _ => false
  | f + 1, e, i => match ops[e]? with
    | none => false
    | some o => o.after.any fun ed => Region.binds md ed && (ed.on == i || waits md ops f ed.on i)
end
theorem Sat.any {F : PH} {H : List Asrt} {w : World} (s : Sat F H w) : Sat PH.emp [] w := s.bare.mono (PH.emp_le F)
section
variable {C : Ctx} {k : List KItem} {l : Env} {F : PH} {H : List Asrt}
end
end Go.Proofs.YtjjjckmpkldgnaaGreatDoor
namespace Go.Proofs.YtjjjckmpkldgnaaGreatDoor
open Go.RowKit
section
variable {P : Program} {l : Env} {F : PH} {H Hr H' : List Asrt} {d : Option Nat} {T T' U E : TypeId} {pos : String} {af : Array Edge} {gd : Option (Nat × Bool)} {x y : Operand} {size bytes : Nat} {zv : Value}
end
end Go.Proofs.YtjjjckmpkldgnaaGreatDoor
namespace Go.Proofs.YtjjjckmpkldgnaaGreatDoor
open Go.RowKit
section
variable {P : Program} {l : Env} {F : PH} {H : List Asrt} {d : Option Nat} {T : TypeId} {pos : String} {af : Array Edge} {g : Option (Nat × Bool)}
end
section
variable {C : Ctx} {m : Bool} {ops : Array Oper} {rest : List Oper} {k : List KItem} {l : Env} {F : PH} {H : List Asrt} {d : Nat} {T : TypeId} {pos : String} {af : Array Edge} {g : Option (Nat × Bool)} {f : FuncId} {x : Operand} {args : List Operand} {tys : Array TypeId} {vs caps : List Value}
end
end Go.Proofs.YtjjjckmpkldgnaaGreatDoor
namespace Go.Proofs.YtjjjckmpkldgnaaGreatDoor
open Go.RowKit
def ifcB (P : Program) (T : TypeId) : Bool := match P.underlying T with
  | some (.interface _) => false
  | some _ => true
  | none => false
/-- A method's call comes to a function. -/
def MethR (P : Program) (t : TypeId) (rv : Value) (name : String) (f : FuncId) : Prop := ∀ args w, (callMethod (.iface t rv) name args).run P w = .ok (.enter f (#[rv] ++ args)) w
/-- A method's receiver isn't nil. -/
def MethN (P : Program) (t : TypeId) (rv : Value) (name : String) : Prop := ∀ w, (nilAhead (P.types.size + Made.depth) t rv name).run P w = .ok (some false) w
section
variable {P : Program} {l : Env} {F : PH} {H : List Asrt} {d : Option Nat} {T U : TypeId} {pos : String} {af : Array Edge} {g : Option (Nat × Bool)} {x : Operand}
theorem ev_makeInterface {v : Value} (hx : opv l x = some v) (hu : ifcB P T = true) : Ev P ⟨d, .makeInterface T x, U, pos, af, g⟩ l F H (.iface T v) := .of fun ρ hρ w _ => by
  have e1 := hρ _ _ hx
  unfold ifcB at hu
  cases hd : P.underlying T with
  | none => rw [hd] at hu; cases hu
  | some ds =>
    rw [hd] at hu
    unfold execOp Instr.makeInterface
    simp only [e1]
    cases ds <;> first | (cases hu; done) | simp [run_underlying hd, go_sem]
theorem ev_makeMethod {name : String} {v : Value} (hx : opv l x = some v) : Ev P ⟨d, .makeFunc (.method name) #[x] #[], U, pos, af, g⟩ l F H (.func (.method name) #[v] #[]) := .of fun ρ hρ w _ => by
  have e1 := hρ _ _ hx
  unfold execOp
  simp [Instr.makeFunc, e1]
theorem ev_nilCheckM {name : String} {t : TypeId} {rv : Value} (hx : opv l x = some (.func (.method name) #[.iface t rv] #[])) (hn : MethN P t rv name) : Ev P ⟨d, .nilCheck x, U, pos, af, g⟩ l F H (.func (.method name) #[.iface t rv] #[]) := .of fun ρ hρ w _ => by
  have e1 := hρ _ _ hx
  have e2 := hn w
  unfold execOp
  simp only [e1]
  simp [go_sem]
  rw [show (nilAhead (P.types.size + 100) t rv name).run P w = .ok (some false) w from e2]
  simp [Result.andThen]
end
section
variable {C : Ctx} {m : Bool} {ops : Array Oper} {rest : List Oper} {k : List KItem} {l : Env} {F : PH} {H : List Asrt} {d : Nat} {T : TypeId} {pos : String} {af : Array Edge} {g : Option (Nat × Bool)} {f : FuncId} {x : Operand} {args : List Operand} {tys : Array TypeId} {vs : List Value} {t : TypeId} {rv : Value} {name : String}
theorem run_inv {P : Program} {o : Oper} {l : Env} {N : Nat} {a : Act} (ho : o.op = .call { callee := .invoke x name, args := args.toArray, argTypes := tys }) (hx : opv l x = some (.iface t rv)) (hm : MethR P t rv name f) (hv : opvs l args = some vs) (ha : Holds N l a) (w : World) :
    (execOp a.eval o).run P w = .ok (.enter f (rv :: vs).toArray) w := by
  have he : args.toArray.map a.eval = vs.toArray := by rw [← ha.opvs hv]; simp
  have e1 := ha.opv hx
  have e2 := hm vs.toArray w
  unfold execOp
  rw [ho]
  simp only [resolve, e1, invoke, he]
  have e3 : (#[Value.iface t rv] ++ vs.toArray)[0]? = some (.iface t rv) := by simp
  have e4 : (#[Value.iface t rv] ++ vs.toArray).extract 1 (#[Value.iface t rv] ++ vs.toArray).size = vs.toArray := by simp
  simp only [pure_bind, Array.append_empty, e3, e4]
  rw [e2]
  simp
end
section
variable {C : Ctx} {Fs : PH} {Hs : List Asrt} {ops : Array Oper} {fuel : Nat} {listed : Array Bool} {k : List KItem} {l : Env} {F : PH} {H : List Asrt} {d : Nat} {T : TypeId} {pos : String} {af : Array Edge} {g : Option (Nat × Bool)}
theorem aI {f : FuncId} {x : Operand} {args : List Operand} {tys : Array TypeId} {vs : List Value} {t : TypeId} {rv : Value} {name : String} {Hc Hr : List Asrt} {Q : Value → PH → List Asrt → Prop} {i : Nat}
    (ho : ops[i]? = some ⟨some d, .call { callee := .invoke x name, args := args.toArray, argTypes := tys }, T, pos, af, g⟩) (hx : opv l x = some (.iface t rv)) (hmt : MethR C.P t rv name f) (sp : Spec C.P f (rv :: vs) F Hc Q) (hv : opvs l args = some vs)
    (hr : runs ops l ⟨some d, .call { callee := .invoke x name, args := args.toArray, argTypes := tys }, T, pos, af, g⟩ = some true) (hN : Nat.blt d C.N = true)
    (hp : ∀ w, Sat F H w → Sat F (Hc ++ Hr) w) (hQ : ∀ v F' H', F.le F' → Q v F' H' → ∀ w, Sat F' (H' ++ Hr) w → Sat Fs Hs w)
    (h : ∀ v F' H', F.le F' → Q v F' H' → JA C (Sat Fs Hs) ops fuel (listed.setIfInBounds i true) k ((d, v) :: l) F' (H' ++ Hr)) : JA1 C (Sat Fs Hs) ops fuel listed i k l F H := by
  unfold JA at h
  unfold JA1
  intro hS a w ha hm hs
  have hd : d < C.N := Nat.le_of_ble_eq_true hN
  unfold wpOp
  rw [ho]
  dsimp only
  rw [if_pos (runs_wanted hr ha)]
  left
  unfold Oper.wp
  rw [run_inv rfl hx hmt hv ha w]
  simp only [Oper.upon_enter]
  refine (sp.out Hr w (hp w hs)).mono ?_
  rintro e w' ⟨v, F', H', rfl, hF, hq, hmw, hs'⟩
  have hS' := hQ v F' H' hF hq
  exact ⟨hS' w' hs', h v F' H' hF hq hS' _ w' (ha.put hd v) (hm.trans hmw) hs'⟩
end
end Go.Proofs.YtjjjckmpkldgnaaGreatDoor
