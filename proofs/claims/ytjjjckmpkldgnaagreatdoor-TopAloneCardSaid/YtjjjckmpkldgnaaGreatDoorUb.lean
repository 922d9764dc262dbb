/-
  What the reckoner's values and memory stand for: block numbers by partial valuations. Plain theorems; no condition.
  The reckoner's memory and the world's: reading, writing, new blocks; the types' table. Plain theorems; no condition.
-/
import Derived.Test.YtjjjckmpkldgnaaGreatDoorUa
import Derived.Test.YtjjjckmpkldgnaaGreatDoorOd
import Derived.Test.YtjjjckmpkldgnaaGreatDoorKp
namespace Go.Proofs.YtjjjckmpkldgnaaGreatDoor.Rk
open Go.RowKit
set_option maxRecDepth 100000
inductive All2 {α β : Type} (R : α → β → Prop) : List α → List β → Prop where
  | nil : All2 R [] []
  | cons {a : α} {b : β} {xs : List α} {ys : List β} (h : R a b) (t : All2 R xs ys) : All2 R (a :: xs) (b :: ys)
/-- Where numbered blocks lie, and how many elements they may hold: of some numbers. -/
abbrev Vl := Nat → Option (Nat × Nat)
def Vl.le (φ ψ : Vl) : Prop := ∀ n x, φ n = some x → ψ n = some x
theorem Vl.ler (φ : Vl) : φ.le φ := fun _ _ h => h
theorem Vl.le.trans {φ ψ χ : Vl} (a : φ.le ψ) (b : ψ.le χ) : φ.le χ := fun n x h => b n x (a n x h)
def Vl.put (φ : Vl) (n : Nat) (x : Nat × Nat) : Vl := fun m => if m = n then some x else φ m
theorem Vl.le_put {φ : Vl} {n : Nat} {x : Nat × Nat} (h : φ n = none) : φ.le (φ.put n x) := fun m y e => by
  unfold Vl.put
  split
  · rename_i he; subst he; rw [h] at e; cases e
  · exact e
theorem Vl.put_self (φ : Vl) (n : Nat) (x : Nat × Nat) : φ.put n x n = some x := by simp [Vl.put]
theorem Vl.put_other (φ : Vl) {n m : Nat} (x : Nat × Nat) (h : m ≠ n) : φ.put n x m = φ m := by simp [Vl.put, h]
/-- The n bytes of a number. -/
def unp (n x : Nat) : List UInt8 := match n with
  | 0 => []
  | m + 1 => UInt8.ofNat (x / 256 ^ m) :: unp m x
theorem unp_len (n x : Nat) : (unp n x).length = n := by
  induction n with
  | zero => rfl
  | succ m ih => simp [unp, ih]
def CA.cap (κ : Nat) : CA → Nat
  | .k n => n
  | .t d => κ - d
def PvD (φ : Vl) : PV → Value → Prop
  | .ptr id off, u => ∃ b κ, φ id = some (b, κ) ∧ u = .pointer (some ⟨b, off, none⟩)
  | .ifc t id off, u => ∃ b κ, φ id = some (b, κ) ∧ u = .iface t (.pointer (some ⟨b, off, none⟩))
def FnD (φ : Vl) : Fn → Fn → Prop
  | .yield l, g => ∃ b κ, φ l = some (b, κ) ∧ g = .yield b
  | f, g => g = f
/-- What a cell stands for. -/
def SvD (F : PH) (φ : Vl) : SV → Value → Prop
  | .int k n, u => u = .int k n
  | .bool b, u => u = .bool b
  | .str n x, u => x < 256 ^ n ∧ u = .string (strOf (unp n x))
  | .ptr id off, u => ∃ b κ, φ id = some (b, κ) ∧ u = .pointer (some ⟨b, off, none⟩)
  | .slc id off len c, u => ∃ b κ, φ id = some (b, κ) ∧ len ≤ c.cap κ ∧ u = .slice (some ⟨b, off, none⟩) len (c.cap κ)
  | .map id, u => ∃ b κ, φ id = some (b, κ) ∧ u = .map (some b)
  | .fn f a c, u => ∃ g us vs, FnD φ f g ∧ All2 (PvD φ) a us ∧ All2 (PvD φ) c vs ∧ u = .func g us.toArray vs.toArray
  | .ifc t id off, u => ∃ b κ, φ id = some (b, κ) ∧ u = .iface t (.pointer (some ⟨b, off, none⟩))
  | .pby n x, u => Byt F u (unp n x)
  | .nilp, u => u = .pointer none
  | .nils, u => u = .slice none 0 0
  | .nilm, u => u = .map none
  | .nilf, u => u = .nilFunc
  | .nili, u => u = .nilIface
def TvD (F : PH) (φ : Vl) : TV → Value → Prop
  | .s x, u => SvD F φ x u
  | .agg l, u => ∃ us, All2 (SvD F φ) l us ∧ u = .agg us.toArray
def AvD (F : PH) (φ : Vl) : AV → Value → Prop
  | .s x, u => SvD F φ x u
  | .agg l, u => ∃ us, All2 (SvD F φ) l us ∧ u = .agg us.toArray
  | .tup l, u => ∃ us, All2 (TvD F φ) l us ∧ u = .tuple us.toArray
  | .und, u => u = undef
theorem All2.imp {α β : Type} {R R' : α → β → Prop} (h : ∀ a b, R a b → R' a b) {xs : List α} {ys : List β} (a : All2 R xs ys) : All2 R' xs ys := by
  induction a with
  | nil => exact .nil
  | cons x _ ih => exact .cons (h _ _ x) ih
theorem All2.len {α β : Type} {R : α → β → Prop} {xs : List α} {ys : List β} (a : All2 R xs ys) : xs.length = ys.length := by
  induction a with
  | nil => rfl
  | cons x _ ih => simp [ih]
theorem All2.get {α β : Type} {R : α → β → Prop} {xs : List α} {ys : List β} (a : All2 R xs ys) : ∀ {i : Nat} {x : α}, xs[i]? = some x → ∃ y, ys[i]? = some y ∧ R x y := by
  induction a with
  | nil => intro i x e; simp at e
  | cons h _ ih =>
    intro i x e
    cases i with
    | zero => cases e; exact ⟨_, rfl, h⟩
    | succ i => exact ih e
theorem All2.app {α β : Type} {R : α → β → Prop} {xs xs' : List α} {ys ys' : List β} (a : All2 R xs ys) (b : All2 R xs' ys') : All2 R (xs ++ xs') (ys ++ ys') := by
  induction a with
  | nil => exact b
  | cons h _ ih => exact .cons h ih
theorem All2.drop {α β : Type} {R : α → β → Prop} {xs : List α} {ys : List β} (a : All2 R xs ys) : ∀ n, All2 R (xs.drop n) (ys.drop n) := by
  induction a with
  | nil => intro n; simp; exact .nil
  | cons h t ih => intro n; cases n with
    | zero => exact .cons h t
    | succ n => exact ih n
theorem All2.take {α β : Type} {R : α → β → Prop} {xs : List α} {ys : List β} (a : All2 R xs ys) : ∀ n, All2 R (xs.take n) (ys.take n) := by
  induction a with
  | nil => intro n; simp; exact .nil
  | cons h t ih => intro n; cases n with
    | zero => exact .nil
    | succ n => exact .cons h (ih n)
section
variable {F G : PH} {φ ψ : Vl}
theorem PvD.mono (hp : φ.le ψ) {x : PV} {u : Value} (h : PvD φ x u) : PvD ψ x u := by
  cases x <;> exact let ⟨b, κ, e, r⟩ := h; ⟨b, κ, hp _ _ e, r⟩
theorem FnD.mono (hp : φ.le ψ) {f g : Fn} (h : FnD φ f g) : FnD ψ f g := by
  cases f <;> first | exact h | exact let ⟨b, κ, e, r⟩ := h; ⟨b, κ, hp _ _ e, r⟩
theorem SvD.mono (hF : F.le G) (hp : φ.le ψ) {x : SV} {u : Value} (h : SvD F φ x u) : SvD G ψ x u := by
  cases x with
  | ptr | map | ifc => exact let ⟨b, κ, e, r⟩ := h; ⟨b, κ, hp _ _ e, r⟩
  | slc => exact let ⟨b, κ, e, r⟩ := h; ⟨b, κ, hp _ _ e, r⟩
  | fn => exact let ⟨g, us, vs, a, b, c, e⟩ := h; ⟨g, us, vs, a.mono hp, b.imp fun _ _ => PvD.mono hp, c.imp fun _ _ => PvD.mono hp, e⟩
  | pby => exact SliceV.mono h hF
  | _ => exact h
theorem svs_mono (hF : F.le G) (hp : φ.le ψ) {xs : List SV} {us : List Value} (h : All2 (SvD F φ) xs us) : All2 (SvD G ψ) xs us := h.imp fun _ _ => SvD.mono hF hp
theorem TvD.mono (hF : F.le G) (hp : φ.le ψ) {x : TV} {u : Value} (h : TvD F φ x u) : TvD G ψ x u := by
  cases x with
  | s => exact SvD.mono hF hp h
  | agg => exact let ⟨us, a, e⟩ := h; ⟨us, svs_mono hF hp a, e⟩
theorem AvD.mono (hF : F.le G) (hp : φ.le ψ) {x : AV} {u : Value} (h : AvD F φ x u) : AvD G ψ x u := by
  cases x with
  | s => exact SvD.mono hF hp h
  | agg => exact let ⟨us, a, e⟩ := h; ⟨us, svs_mono hF hp a, e⟩
  | tup => exact let ⟨us, a, e⟩ := h; ⟨us, a.imp fun _ _ => TvD.mono hF hp, e⟩
  | und => exact h
/-- A cell's value is one cell. -/
theorem SvD.one {x : SV} {u : Value} (h : SvD F φ x u) : u.oneCell' = true := by
  cases x with
  | ptr | map | ifc => obtain ⟨b, κ, e, rfl⟩ := h; rfl
  | slc => obtain ⟨b, κ, e, _, rfl⟩ := h; rfl
  | fn => obtain ⟨g, us, vs, _, _, _, rfl⟩ := h; rfl
  | pby => obtain ⟨_, a, c, rfl, _⟩ := h; rfl
  | str => obtain ⟨_, rfl⟩ := h; rfl
  | _ => subst h; rfl
theorem svs_ones {xs : List SV} {us : List Value} (h : All2 (SvD F φ) xs us) : Ones us := by
  induction h with
  | nil => exact ones_nil
  | cons a _ ih => exact ones_cons a.one ih
theorem SvD.vc {x : SV} {u : Value} (h : SvD F φ x u) : VC u [u] := by
  cases x with
  | ptr | map | ifc => obtain ⟨b, κ, e, rfl⟩ := h; constructor
  | slc => obtain ⟨b, κ, e, _, rfl⟩ := h; constructor
  | fn => obtain ⟨g, us, vs, _, _, _, rfl⟩ := h; constructor
  | pby => obtain ⟨_, a, c, rfl, _⟩ := h; constructor
  | str => obtain ⟨_, rfl⟩ := h; constructor
  | _ => subst h; constructor
end
/-! memory -/
def EsD (F : PH) (φ : Vl) (e : TV × TV × Nat) (m : MapEntry) : Prop := TvD F φ e.1 m.key ∧ TvD F φ e.2.1 m.val ∧ m.born = e.2.2
/-- What a block holds. -/
def ObD (F : PH) (φ : Vl) (κ : Nat) : AO → Obj → Prop
  | .cells E cs, o => ∃ us, All2 (SvD F φ) cs us ∧ o = .cells us.toArray E (0, 0)
  | .row E sz cs, o => ∃ us cur, All2 (SvD F φ) cs us ∧ o = .cells cur E (0, 0) ∧ cur.toList.take us.length = us ∧ cur.size = κ * sz ∧ 0 < sz ∧ κ ≤ maxLen
  | .brow n x, o => ∃ cur fr, o = .cells cur tyByte fr ∧ (fr = (0, 0) ∨ fr = (κ, κ + 1)) ∧ cur.toList.take n = u8s (unp n x) ∧ cur.size = κ ∧ κ ≤ maxLen
  | .map es c, o => ∃ ms, o = .map ms c ∧ All2 (EsD F φ) es ms.toList
  | .iter m since seen last, o => ∃ mb ms, o = .mapIter mb since ms last ∧ ms.toList.reverse = seen ∧ (match m with
    | none => mb = none
    | some id => ∃ b κ', φ id = some (b, κ') ∧ mb = some b)
  | .siter n x pos, o => o = .stringIter (strOf (unp n x)) pos
  | .loop f l ps asg body dfr pend st, o => ∃ tm db κ', φ dfr = some (db, κ') ∧ (∀ t v, l.get t = some v → AvD F φ v (tm.getD t undef)) ∧ nT f ≤ tm.size ∧ codeOk (nT f) asg = true ∧ codeOk (nT f) body = true ∧ (∀ p ∈ ps, p < nT f) ∧
      o = .loop { state := (match st with | 0 => .ready | 1 => .busy | 2 => .done | _ => .exhausted), pending := pend, fn := f, tmps := tm, params := ps.toArray, assign := asg, body := body, defers := db }
  | .dfr, o => o = .deferred (some [])
theorem ObD.mono {F G : PH} {φ ψ : Vl} (hF : F.le G) (hp : φ.le ψ) {κ : Nat} {x : AO} {o : Obj} (h : ObD F φ κ x o) : ObD G ψ κ x o := by
  cases x with
  | cells => exact let ⟨us, a, e⟩ := h; ⟨us, svs_mono hF hp a, e⟩
  | row => exact let ⟨us, cur, a, e⟩ := h; ⟨us, cur, svs_mono hF hp a, e⟩
  | brow => exact h
  | map => exact let ⟨ms, e, a⟩ := h; ⟨ms, e, a.imp fun _ _ r => ⟨r.1.mono hF hp, r.2.1.mono hF hp, r.2.2⟩⟩
  | iter m =>
    obtain ⟨mb, ms, e, s, c⟩ := h
    refine ⟨mb, ms, e, s, ?_⟩
    cases m with
    | none => exact c
    | some id => exact let ⟨b, κ', a, r⟩ := c; ⟨b, κ', hp _ _ a, r⟩
  | siter => exact h
  | loop => exact let ⟨tm, db, κ', a, c, e⟩ := h; ⟨tm, db, κ', hp _ _ a, fun t v g => (c t v g).mono hF hp, e⟩
  | dfr => exact h
/-- The world holds what the reckoner's memory says; F stays. -/
structure HR (F : PH) (φ : Vl) (h : Hp) (w : World) : Prop where
  obj : ∀ n o b κ, h.get n = some o → φ n = some (b, κ) → ∃ ob, ph w b = some ob ∧ ObD F φ κ o ob
  inj : ∀ n m o o' b κ κ', h.get n = some o → h.get m = some o' → φ n = some (b, κ) → φ m = some (b, κ') → n = m
  fr : F.le (ph w)
  dj : ∀ n o b κ, h.get n = some o → φ n = some (b, κ) → F b = none
/-! trees -/
theorem Tr.get_nil {α : Type} (m : Nat) : (Tr.nil : Tr α).get m = none := rfl
theorem Tr.get_zero {α : Type} (l : Tr α) (v : Option α) (r : Tr α) : (Tr.node l v r).get 0 = v := rfl
theorem Tr.get_succ {α : Type} (l : Tr α) (v : Option α) (r : Tr α) (m : Nat) : (Tr.node l v r).get (m + 1) = if m % 2 = 0 then l.get (m / 2) else r.get (m / 2) := by
  show (Bool.rec (r.get (m / 2)) (l.get (m / 2)) (Nat.beq (m % 2) 0) : Option α) = _
  by_cases h : m % 2 = 0
  · rw [if_pos h, h]; rfl
  · rw [if_neg h]
    have : Nat.beq (m % 2) 0 = false := by
      cases hb : Nat.beq (m % 2) 0 with
      | false => rfl
      | true => exact absurd (Nat.eq_of_beq_eq_true hb) h
    rw [this]
theorem Tr.put1_zero {α : Type} (x : α) (f : Nat) : Tr.put1 x (f + 1) 0 = .node .nil (some x) .nil := rfl
theorem Tr.put1_succ {α : Type} (x : α) (f m : Nat) : Tr.put1 x (f + 1) (m + 1) = if m % 2 = 0 then .node (Tr.put1 x f (m / 2)) none .nil else .node .nil none (Tr.put1 x f (m / 2)) := by
  show (Bool.rec (Tr.node .nil none (Tr.put1 x f (m / 2))) (Tr.node (Tr.put1 x f (m / 2)) none .nil) (Nat.beq (m % 2) 0) : Tr α) = _
  by_cases h : m % 2 = 0
  · rw [if_pos h, h]; rfl
  · rw [if_neg h]
    have : Nat.beq (m % 2) 0 = false := by
      cases hb : Nat.beq (m % 2) 0 with
      | false => rfl
      | true => exact absurd (Nat.eq_of_beq_eq_true hb) h
    rw [this]
theorem Tr.get_put1 {α : Type} (x : α) : ∀ (f n m : Nat), n < f → (Tr.put1 x f n).get m = if m = n then some x else none := by
  intro f
  induction f with
  | zero => intro n m h; omega
  | succ f ih =>
    intro n m h
    cases n with
    | zero =>
      rw [Tr.put1_zero]
      cases m with
      | zero => rfl
      | succ m => rw [Tr.get_succ]; simp [Tr.get_nil]
    | succ n =>
      rw [Tr.put1_succ]
      have hn : n / 2 < f := by omega
      by_cases h2 : n % 2 = 0
      · rw [if_pos h2]
        cases m with
        | zero => rw [if_neg (by omega)]; rfl
        | succ m =>
          rw [Tr.get_succ]
          by_cases h3 : m % 2 = 0
          · rw [if_pos h3, ih _ _ hn]
            by_cases h4 : m = n
            · subst h4; simp
            · rw [if_neg (by omega), if_neg (by omega)]
          · rw [if_neg h3, if_neg (by omega)]; rfl
      · rw [if_neg h2]
        cases m with
        | zero => rw [if_neg (by omega)]; rfl
        | succ m =>
          rw [Tr.get_succ]
          by_cases h3 : m % 2 = 0
          · rw [if_pos h3, if_neg (by omega)]; rfl
          · rw [if_neg h3, ih _ _ hn]
            by_cases h4 : m = n
            · subst h4; simp
            · rw [if_neg (by omega), if_neg (by omega)]
theorem Tr.set_nil {α : Type} (x : α) (n : Nat) : (Tr.nil : Tr α).set x n = Tr.put1 x (n + 1) n := rfl
theorem Tr.set_zero {α : Type} (x : α) (l : Tr α) (v : Option α) (r : Tr α) : (Tr.node l v r).set x 0 = .node l (some x) r := rfl
theorem Tr.set_succ {α : Type} (x : α) (l : Tr α) (v : Option α) (r : Tr α) (m : Nat) : (Tr.node l v r).set x (m + 1) = if m % 2 = 0 then .node (l.set x (m / 2)) v r else .node l v (r.set x (m / 2)) := by
  show (Bool.rec (Tr.node l v (r.set x (m / 2))) (Tr.node (l.set x (m / 2)) v r) (Nat.beq (m % 2) 0) : Tr α) = _
  by_cases h : m % 2 = 0
  · rw [if_pos h, h]; rfl
  · rw [if_neg h]
    have : Nat.beq (m % 2) 0 = false := by
      cases hb : Nat.beq (m % 2) 0 with
      | false => rfl
      | true => exact absurd (Nat.eq_of_beq_eq_true hb) h
    rw [this]
theorem Tr.get_set {α : Type} (x : α) : ∀ (t : Tr α) (n m : Nat), (t.set x n).get m = if m = n then some x else t.get m := by
  intro t
  induction t with
  | nil => intro n m; rw [Tr.set_nil, Tr.get_put1 _ _ _ _ (by omega)]; rfl
  | node l v r ihl ihr =>
    intro n m
    cases n with
    | zero =>
      rw [Tr.set_zero]
      cases m with
      | zero => rfl
      | succ m => rw [if_neg (by omega), Tr.get_succ, Tr.get_succ]
    | succ n =>
      rw [Tr.set_succ]
      by_cases h2 : n % 2 = 0
      · rw [if_pos h2]
        cases m with
        | zero => rw [if_neg (by omega)]; rfl
        | succ m =>
          rw [Tr.get_succ, Tr.get_succ]
          by_cases h3 : m % 2 = 0
          · rw [if_pos h3, if_pos h3, ihl]
            by_cases h4 : m = n
            · subst h4; simp
            · rw [if_neg (by omega), if_neg (by omega)]
          · rw [if_neg h3, if_neg h3, if_neg (by omega)]
      · rw [if_neg h2]
        cases m with
        | zero => rw [if_neg (by omega)]; rfl
        | succ m =>
          rw [Tr.get_succ, Tr.get_succ]
          by_cases h3 : m % 2 = 0
          · rw [if_pos h3, if_pos h3, if_neg (by omega)]
          · rw [if_neg h3, if_neg h3, ihr]
            by_cases h4 : m = n
            · subst h4; simp
            · rw [if_neg (by omega), if_neg (by omega)]
theorem Hp.get_set (o : AO) (h : Hp) (n m : Nat) : (h.set o n).get m = if m = n then some o else h.get m := by
  unfold Hp.get Hp.set
  dsimp only
  rw [Tr.get_set]
  by_cases e : m = n
  · rw [if_pos e, if_pos e]
  · rw [if_neg e, if_neg e]
theorem Hp.get_del (h : Hp) (n m : Nat) : (h.del n).get m = if m = n then none else h.get m := by
  unfold Hp.get Hp.del
  dsimp only
  rw [Tr.get_set]
  by_cases e : m = n
  · rw [if_pos e, if_pos e]
  · rw [if_neg e, if_neg e]
theorem over0_get (m : Nat) : ∀ (b : Tr (Option AO)) , (over0 b).get m = match b.get m with | some x => x | none => none := by
  intro b
  induction b generalizing m with
  | nil => rfl
  | node l v r ihl ihr =>
    show (Tr.node (over0 l) (overV none v) (over0 r)).get m = _
    cases m with
    | zero => rw [Tr.get_zero, Tr.get_zero]; cases v <;> rfl
    | succ m =>
      rw [Tr.get_succ, Tr.get_succ]
      split
      · exact ihl _
      · exact ihr _
theorem over_get : ∀ (a : Tr AO) (b : Tr (Option AO)) (m : Nat), (over a b).get m = match b.get m with | some x => x | none => a.get m := by
  intro a
  induction a with
  | nil => intro b m; exact over0_get m b
  | node al av ar ihl ihr =>
    intro b m
    cases b with
    | nil => rfl
    | node bl bv br =>
      show (Tr.node (over al bl) (overV av bv) (over ar br)).get m = _
      cases m with
      | zero => rw [Tr.get_zero, Tr.get_zero, Tr.get_zero]; cases bv <;> rfl
      | succ m =>
        rw [Tr.get_succ, Tr.get_succ, Tr.get_succ]
        split
        · exact ihl _ _
        · exact ihr _ _
theorem Hp.get_seal (h : Hp) (m : Nat) : h.firm.get m = h.get m := by
  show (match (Tr.nil : Tr (Option AO)).get m with | some x => x | none => (over h.ro h.rw).get m) = _
  rw [over_get]
  rfl
end Go.Proofs.YtjjjckmpkldgnaaGreatDoor.Rk
namespace Go.Proofs.YtjjjckmpkldgnaaGreatDoor.Rk
open Go.RowKit
set_option maxRecDepth 100000
/-! the tables -/
theorem evens_get {α : Type} : ∀ (l : List α) (b : Bool) (i : Nat), (evens b l)[i]? = l[2 * i + (if b then 0 else 1)]? := by
  intro l
  induction l with
  | nil => intro b i; simp [evens]
  | cons a r ih =>
    intro b i
    cases b with
    | true =>
      show (a :: evens false r)[i]? = _
      cases i with
      | zero => rfl
      | succ i =>
        rw [List.getElem?_cons_succ, ih]
        simp only [Bool.false_eq_true, if_false, if_true]
        rw [show 2 * (i + 1) + 0 = (2 * i + 1) + 1 from by omega, List.getElem?_cons_succ]
    | false =>
      show (evens true r)[i]? = _
      rw [ih]
      simp only [Bool.false_eq_true, if_false, if_true]
      rw [List.getElem?_cons_succ]
      rfl
theorem ofList_get {α : Type} : ∀ (f : Nat) (l : List α) (n : Nat) (x : α), (Tr.ofList f l).get n = some x → l[n]? = some x := by
  intro f
  induction f with
  | zero => intro l n x h; cases h
  | succ f ih =>
    intro l n x h
    cases l with
    | nil => cases h
    | cons a r =>
      unfold Tr.ofList at h
      dsimp only at h
      cases n with
      | zero => rw [Tr.get_zero] at h; exact h
      | succ n =>
        rw [Tr.get_succ] at h
        rw [List.getElem?_cons_succ]
        by_cases e : n % 2 = 0
        · rw [if_pos e] at h
          have := ih _ _ _ h
          rw [evens_get] at this
          rw [← this]
          congr 1
          simp; omega
        · rw [if_neg e] at h
          have := ih _ _ _ h
          rw [evens_get] at this
          rw [← this]
          congr 1
          simp; omega
theorem infoT_ok {T : TypeId} {i : TypeInfo} (h : infoT T = some i) : P.info? T = some i := by
  have h1 : P.types.toList[T]? = some i := ofList_get _ _ _ _ h
  have h2 : P.types[T]? = some i := by rw [← Array.getElem?_toList]; exact h1
  have hlt : T < P.types.size := (Array.getElem?_eq_some_iff.1 h2).1
  unfold Tables.info?
  rw [if_pos hlt]
  exact h2
theorem funT_ok {f : FuncId} {fn : Func} (h : funT f = some fn) : P.funcs[f]? = some fn := by
  have h1 : P.funcs.toList[f]? = some fn := ofList_get _ _ _ _ h
  rw [← Array.getElem?_toList]; exact h1
theorem undT_ok {T : TypeId} {d : TypeDesc} (h : undT T = some d) : P.underlying T = some d := by
  unfold undT at h
  cases hi : infoT T with
  | none => rw [hi] at h; cases h
  | some i =>
    rw [hi] at h
    dsimp only at h
    have e := infoT_ok hi
    unfold Program.underlying
    rw [e]
    obtain ⟨desc, _⟩ := i
    dsimp only at h
    cases desc with
    | named nm u =>
      dsimp only at h
      cases hu : infoT u with
      | none => rw [hu] at h; cases h
      | some j =>
        rw [hu] at h
        have e2 := infoT_ok hu
        show (P.info? u).map (·.desc) = some d
        rw [e2]; exact h
    | _ => exact h
theorem tsz_ok {T : TypeId} {n : Nat} (h : tsz T = some n) : ∃ i, P.info? T = some i ∧ i.size = n := by
  unfold tsz at h
  cases hi : infoT T with
  | none => rw [hi] at h; cases h
  | some i => rw [hi] at h; cases h; exact ⟨i, infoT_ok hi, rfl⟩
theorem tagg_ok {T : TypeId} {n : Nat} (h : tagg T = some n) : aggSize P T = some n := by
  unfold tagg at h
  split at h
  · rename_i hu
    obtain ⟨i, hi, hs⟩ := tsz_ok h
    unfold aggSize
    rw [undT_ok hu]
    dsimp only
    rw [hi]
    obtain ⟨⟩ := i
    cases hs; rfl
  · rename_i hu
    obtain ⟨i, hi, hs⟩ := tsz_ok h
    unfold aggSize
    rw [undT_ok hu]
    dsimp only
    rw [hi]
    obtain ⟨⟩ := i
    cases hs; rfl
  · cases h
theorem tplain_ok {T : TypeId} (h : tplain T = true) : plainB P T = true := by
  unfold tplain at h
  split at h
  · cases h
  · cases h
  · rename_i d h1 h2 hu
    split at h
    · rename_i hs
      obtain ⟨i, hi, hs⟩ := tsz_ok hs
      unfold plainB
      rw [undT_ok hu]
      rw [hi]
      obtain ⟨⟩ := i
      cases hs
      cases d <;> first | rfl | (exact absurd rfl (h1 _)) | (exact absurd rfl (h2 _ _))
    · cases h
  · cases h
theorem tel_ok {T E : TypeId} {n : Nat} (h : tel T = some (E, n)) : elemSize P T = some (E, n) := by
  unfold tel at h
  split at h
  · rename_i E' hu
    cases hs : tsz E' with
    | none => rw [hs] at h; cases h
    | some m =>
      rw [hs] at h
      cases h
      obtain ⟨i, hi, hs⟩ := tsz_ok hs
      unfold elemSize
      rw [undT_ok hu]
      dsimp only
      rw [hi]
      obtain ⟨⟩ := i
      cases hs; rfl
  · cases h
/-! lists -/
theorem ldrop_eq {α : Type} : ∀ (l : List α) (n : Nat), ldrop l n = l.drop n
  | [], n => by simp [ldrop]
  | a :: r, 0 => rfl
  | a :: r, n + 1 => by simp [ldrop, ldrop_eq r n]
theorem lget_eq {α : Type} : ∀ (l : List α) (n : Nat), lget l n = l[n]?
  | [], n => by simp [lget]
  | a :: r, 0 => rfl
  | a :: r, n + 1 => by simp [lget, lget_eq r n]
theorem ltake_eq {α : Type} : ∀ (n : Nat) (l m : List α), ltake n l = some m → m = l.take n ∧ m.length = n
  | 0, l, m, h => by cases h; simp
  | n + 1, [], m, h => by cases h
  | n + 1, a :: r, m, h => by
    unfold ltake at h
    dsimp only at h
    cases hr : ltake n r with
    | none => rw [hr] at h; cases h
    | some m' =>
      rw [hr] at h
      cases h
      obtain ⟨e, hl⟩ := ltake_eq n r m' hr
      exact ⟨by simp [e], by simp [hl]⟩
/-! bytes -/
theorem unp_snoc : ∀ (n x : Nat), unp (n + 1) x = unp n (x / 256) ++ [UInt8.ofNat x]
  | 0, x => by simp [unp]
  | n + 1, x => by
    show UInt8.ofNat (x / 256 ^ (n + 1)) :: unp (n + 1) x = UInt8.ofNat (x / 256 / 256 ^ n) :: unp n (x / 256) ++ [_]
    rw [unp_snoc n x, Nat.div_div_eq_div_mul, show 256 * 256 ^ n = 256 ^ (n + 1) from by rw [Nat.pow_succ, Nat.mul_comm]]
    rfl
theorem unp_drop : ∀ (k m x : Nat), (unp (k + m) x).drop k = unp m x
  | 0, m, x => by simp
  | k + 1, m, x => by
    rw [show k + 1 + m = (k + m) + 1 from by omega]
    exact unp_drop k m x
theorem unp_take : ∀ (n k x : Nat), (unp (n + k) x).take n = unp n (x / 256 ^ k)
  | 0, k, x => by simp [unp]
  | n + 1, k, x => by
    rw [show n + 1 + k = (n + k) + 1 from by omega]
    show UInt8.ofNat (x / 256 ^ (n + k)) :: (unp (n + k) x).take n = UInt8.ofNat (x / 256 ^ k / 256 ^ n) :: unp n (x / 256 ^ k)
    rw [unp_take n k x, Nat.div_div_eq_div_mul, ← Nat.pow_add, Nat.add_comm k n]
theorem unp_sub {m off n : Nat} (h : off + n ≤ m) (x : Nat) : ((unp m x).drop off).take n = unp n (x / 256 ^ (m - off - n)) := by
  obtain ⟨k, rfl⟩ : ∃ k, m = off + (n + k) := ⟨m - off - n, by omega⟩
  rw [unp_drop, unp_take]
  congr 2
  congr 1
  omega
theorem unp_mod (n x : Nat) : unp n (x % 256 ^ n) = unp n x := by
  induction n generalizing x with
  | zero => rfl
  | succ n ih =>
    rw [unp_snoc, unp_snoc]
    have e1 : x % 256 ^ (n + 1) / 256 = x / 256 % 256 ^ n := by
      rw [Nat.pow_succ, Nat.mul_comm, Nat.mod_mul_right_div_self]
    have e2 : UInt8.ofNat (x % 256 ^ (n + 1)) = UInt8.ofNat x := by
      apply UInt8.toNat_inj.1
      rw [UInt8.toNat_ofNat', UInt8.toNat_ofNat']
      rw [Nat.pow_succ, show (2 : Nat) ^ 8 = 256 from rfl, Nat.mod_mul_left_mod]
    rw [e1, ih, e2]
theorem unp_cat (n m x y : Nat) (hy : y < 256 ^ m) : unp (n + m) (x * 256 ^ m + y) = unp n x ++ unp m y := by
  have h1 : (unp (n + m) (x * 256 ^ m + y)).take n = unp n x := by
    rw [unp_take]
    congr 1
    rw [Nat.mul_comm, Nat.mul_add_div (Nat.pow_pos (by decide)), Nat.div_eq_of_lt hy, Nat.add_zero]
  have h2 : (unp (n + m) (x * 256 ^ m + y)).drop n = unp m y := by
    rw [unp_drop, ← unp_mod]
    congr 1
    rw [Nat.mul_comm, Nat.mul_add_mod, Nat.mod_eq_of_lt hy]
  rw [← List.take_append_drop n (unp (n + m) _), h1, h2]
theorem unpB_ok {F : PH} {φ : Vl} : ∀ (n x : Nat) (acc : List SV) (us : List Value), All2 (SvD F φ) acc us → All2 (SvD F φ) (unpB n x acc) (u8s (unp n x) ++ us)
  | 0, x, acc, us, h => h
  | n + 1, x, acc, us, h => by
    show All2 _ (unpB n (x / 256) (.int .u8 (.ofNat (x % 256)) :: acc)) _
    rw [unp_snoc]
    have := unpB_ok n (x / 256) (.int .u8 (.ofNat (x % 256)) :: acc) (.int .u8 ((UInt8.ofNat x).toNat : Int) :: us) (.cons (by
      show Value.int .u8 _ = .int .u8 (Int.ofNat (x % 256))
      rw [UInt8.toNat_ofNat']; rfl) h)
    simpa [u8s] using this
theorem packB_ok {F : PH} {φ : Vl} : ∀ (l : List SV) (us : List Value) (x y : Nat), All2 (SvD F φ) l us → packB l x = some y → ∃ z, z < 256 ^ l.length ∧ y = x * 256 ^ l.length + z ∧ us = u8s (unp l.length z)
  | [], us, x, y, h, e => by
    cases h; cases e
    exact ⟨0, by simp, by simp, rfl⟩
  | s :: r, us, x, y, h, e => by
    cases h with
    | @cons _ u _ us' h1 h2 =>
    unfold packB at e
    split at e
    · rename_i m
      split at e
      · rename_i hm
        have hm : m < 256 := Nat.le_of_ble_eq_true hm
        obtain ⟨z, hz, hy, hu⟩ := packB_ok r us' _ y h2 e
        have hs : u = .int .u8 (Int.ofNat m) := h1
        refine ⟨m * 256 ^ r.length + z, ?_, ?_, ?_⟩
        · rw [List.length_cons, Nat.pow_succ, Nat.mul_comm _ 256]
          calc m * 256 ^ r.length + z < m * 256 ^ r.length + 256 ^ r.length := by omega
            _ = (m + 1) * 256 ^ r.length := by rw [Nat.add_mul, Nat.one_mul]
            _ ≤ 256 * 256 ^ r.length := Nat.mul_le_mul_right _ hm
        · rw [hy, List.length_cons, Nat.pow_succ, Nat.add_mul, Nat.mul_assoc, Nat.mul_comm 256, Nat.add_assoc]
        · rw [List.length_cons, Nat.add_comm r.length 1, unp_cat 1 r.length m z hz, hu, hs]
          show _ = u8s (UInt8.ofNat (m / 256 ^ 0) :: unp r.length z)
          rw [Nat.pow_zero, Nat.div_one]
          show _ = Value.int .u8 (((UInt8.ofNat m).toNat : Nat) : Int) :: _
          rw [UInt8.toNat_ofNat', Nat.mod_eq_of_lt (by exact hm)]
          rfl
      · cases e
    · cases e
/-! memory -/
theorem oget_some {α β : Type} {x : Option α} {k : α → Option β} {b : β} (h : oget x k = some b) : ∃ a, x = some a ∧ k a = some b := by
  cases x with
  | none => cases h
  | some a => exact ⟨a, rfl, h⟩
section
variable {F G : PH} {φ ψ : Vl} {h : Hp} {w w' : World}
theorem HR.grow (r : HR F φ h w) (g : (ph w).le (ph w')) : HR F φ h w' where
  obj := fun n o b κ e1 e2 => let ⟨ob, a, c⟩ := r.obj n o b κ e1 e2; ⟨ob, g _ _ a, c⟩
  inj := r.inj
  fr := r.fr.trans g
  dj := r.dj
theorem HR.new (r : HR F φ h w) {n b κ : Nat} {o : AO} {ob : Obj} (hn : φ n = none) (g : (ph w).le (ph w')) (h0 : ph w b = none) (h1 : ph w' b = some ob) (ho : ObD F (φ.put n (b, κ)) κ o ob) : HR F (φ.put n (b, κ)) (h.set o n) w' where
  obj := fun m o' c κ' e1 e2 => by
    rw [Hp.get_set] at e1
    by_cases e : m = n
    · subst e
      rw [if_pos rfl] at e1
      cases e1
      rw [Vl.put_self] at e2
      cases e2
      exact ⟨ob, h1, ho⟩
    · rw [if_neg e] at e1
      rw [Vl.put_other _ _ e] at e2
      obtain ⟨ob', a, c'⟩ := r.obj m o' c κ' e1 e2
      exact ⟨ob', g _ _ a, c'.mono (PH.ler _) (Vl.le_put hn)⟩
  inj := fun m m' o1 o2 c κ1 κ2 e1 e2 e3 e4 => by
    rw [Hp.get_set] at e1 e2
    by_cases a : m = n <;> by_cases a' : m' = n
    · rw [a, a']
    · subst a
      rw [Vl.put_self] at e3
      cases e3
      rw [if_neg a'] at e2
      rw [Vl.put_other _ _ a'] at e4
      obtain ⟨ob', q, _⟩ := r.obj m' o2 _ κ2 e2 e4
      rw [h0] at q; cases q
    · subst a'
      rw [Vl.put_self] at e4
      cases e4
      rw [if_neg a] at e1
      rw [Vl.put_other _ _ a] at e3
      obtain ⟨ob', q, _⟩ := r.obj m o1 _ κ1 e1 e3
      rw [h0] at q; cases q
    · rw [if_neg a] at e1
      rw [if_neg a'] at e2
      rw [Vl.put_other _ _ a] at e3
      rw [Vl.put_other _ _ a'] at e4
      exact r.inj m m' o1 o2 c κ1 κ2 e1 e2 e3 e4
  fr := r.fr.trans g
  dj := fun m o' c κ' e1 e2 => by
    rw [Hp.get_set] at e1
    by_cases e : m = n
    · subst e
      rw [Vl.put_self] at e2
      cases e2
      cases hF : F b with
      | none => rfl
      | some x => have := r.fr b x hF; rw [h0] at this; cases this
    · rw [if_neg e] at e1
      rw [Vl.put_other _ _ e] at e2
      exact r.dj m o' c κ' e1 e2
theorem HR.upd (r : HR F φ h w) {n b κ : Nat} {o o' : AO} {ob : Obj} (hg : h.get n = some o) (hn : φ n = some (b, κ)) (g : ∀ c x, c ≠ b → ph w c = some x → ph w' c = some x) (h1 : ph w' b = some ob) (ho : ObD F φ κ o' ob) : HR F φ (h.set o' n) w' where
  obj := fun m o2 c κ' e1 e2 => by
    rw [Hp.get_set] at e1
    by_cases e : m = n
    · subst e
      rw [if_pos rfl] at e1
      cases e1
      rw [hn] at e2
      cases e2
      exact ⟨ob, h1, ho⟩
    · rw [if_neg e] at e1
      obtain ⟨ob', a, c'⟩ := r.obj m o2 c κ' e1 e2
      refine ⟨ob', g c _ (fun ec => ?_) a, c'⟩
      subst ec
      exact e (r.inj m n o2 o c κ' κ e1 hg e2 hn)
  inj := fun m m' o1 o2 c κ1 κ2 e1 e2 e3 e4 => by
    have k : ∀ {m o1}, (h.set o' n).get m = some o1 → ∃ o, h.get m = some o := fun {m o1} e => by
      rw [Hp.get_set] at e
      by_cases a : m = n
      · subst a; exact ⟨o, hg⟩
      · rw [if_neg a] at e; exact ⟨_, e⟩
    obtain ⟨_, k1⟩ := k e1
    obtain ⟨_, k2⟩ := k e2
    exact r.inj m m' _ _ c κ1 κ2 k1 k2 e3 e4
  fr := fun c x e => g c x (fun ec => by subst ec; rw [r.dj n o c κ hg hn] at e; cases e) (r.fr c x e)
  dj := fun m o2 c κ' e1 e2 => by
    rw [Hp.get_set] at e1
    by_cases a : m = n
    · subst a; rw [hn] at e2; cases e2; exact r.dj m o _ _ hg hn
    · rw [if_neg a] at e1; exact r.dj m o2 c κ' e1 e2
theorem HR.sub (r : HR F φ h w) {h' : Hp} (s : ∀ n o, h'.get n = some o → h.get n = some o) : HR F φ h' w where
  obj := fun n o b κ e1 e2 => r.obj n o b κ (s _ _ e1) e2
  inj := fun n m o o' b κ κ' e1 e2 => r.inj n m o o' b κ κ' (s _ _ e1) (s _ _ e2)
  fr := r.fr
  dj := fun n o b κ e1 e2 => r.dj n o b κ (s _ _ e1) e2
theorem HR.del (r : HR F φ h w) (n : Nat) : HR F φ (h.del n) w := r.sub fun m o e => by
  rw [Hp.get_del] at e
  by_cases a : m = n
  · rw [if_pos a] at e; cases e
  · rwa [if_neg a] at e
theorem HR.firm (r : HR F φ h w) : HR F φ h.firm w := r.sub fun m o e => by rwa [Hp.get_seal] at e
/-- Memory that is kept besides. -/
theorem HR.keep (r : HR F φ h w) (g : (ph w).le (ph w')) (hG : F.le G) (hw : G.le (ph w')) (hd : ∀ c x, G c = some x → F c = none → ph w c = none) : HR G φ h w' where
  obj := fun n o b κ e1 e2 => let ⟨ob, a, c⟩ := r.obj n o b κ e1 e2; ⟨ob, g _ _ a, c.mono hG (Vl.ler _)⟩
  inj := r.inj
  fr := hw
  dj := fun n o b κ e1 e2 => by
    have h1 := r.dj n o b κ e1 e2
    cases hb : G b with
    | none => rfl
    | some x =>
      have := hd b x hb h1
      obtain ⟨ob, a, _⟩ := r.obj n o b κ e1 e2
      rw [this] at a; cases a
theorem cellsW {w : World} {b : Nat} {E : TypeId} {cur : Array Value} {us : List Value} {off : Nat} {fr : Nat × Nat} (h : ph w b = some (.cells cur E fr)) (e : (cur.toList.drop off).take us.length = us) : Cells (ph w) b off us := fun j u hj => by
  have hlt : j < us.length := (List.getElem?_eq_some_iff.1 hj).1
  rw [← e, List.getElem?_take, if_pos hlt, List.getElem?_drop] at hj
  have : cur[off + j]? = some u := by rw [← Array.getElem?_toList]; exact hj
  unfold cellF
  rw [h]
  exact this
/-- What is read of a block. -/
theorem rd_ok (r : HR F φ h w) {id off n b κ : Nat} {cs : List SV} (e : rd h id off n = some cs) (hn : φ id = some (b, κ)) : ∃ us, All2 (SvD F φ) cs us ∧ Cells (ph w) b off us ∧ cs.length = n := by
  unfold rd at e
  obtain ⟨o, ho, e⟩ := oget_some e
  obtain ⟨ob, hb, hd⟩ := r.obj _ _ _ _ ho hn
  cases o with
  | cells E l =>
    dsimp only at e
    rw [ldrop_eq] at e
    obtain ⟨e1, e2⟩ := ltake_eq _ _ _ e
    obtain ⟨us, ha, rfl⟩ := hd
    have ha2 := (ha.drop off).take n
    rw [← e1] at ha2
    refine ⟨_, ha2, cellsW hb ?_, e2⟩
    have hl := ha2.len
    rw [e2] at hl
    rw [← hl]
  | row E sz l =>
    dsimp only at e
    rw [ldrop_eq] at e
    obtain ⟨e1, e2⟩ := ltake_eq _ _ _ e
    obtain ⟨us, cur, ha, rfl, hp, _⟩ := hd
    have ha2 := (ha.drop off).take n
    rw [← e1] at ha2
    refine ⟨_, ha2, cellsW hb ?_, e2⟩
    have hl := ha2.len
    rw [e2] at hl
    have hul := ha.len
    have hn : n ≤ us.length - off := by
      rw [List.length_take, List.length_drop] at hl; omega
    have e3 : (us.drop off).take n = (cur.toList.drop off).take n := by
      conv => lhs; rw [← hp]
      rw [List.drop_take, List.take_take, Nat.min_eq_left hn]
    rw [← hl, e3]
  | brow m x =>
    dsimp only at e
    split at e
    · rename_i hle
      cases e
      have hle := Nat.le_of_ble_eq_true hle
      obtain ⟨cur, fr, rfl, _, hp, _⟩ := hd
      refine ⟨u8s (unp n (x / 256 ^ (m - off - n))), by simpa using unpB_ok n (x / 256 ^ (m - off - n)) [] [] .nil, cellsW hb ?_, ?_⟩
      · have h1 : ((u8s (unp m x)).drop off).take n = u8s (unp n (x / 256 ^ (m - off - n))) := by
          rw [← unp_sub hle]; simp [u8s, List.map_take, List.map_drop]
        rw [← h1, ← hp, List.drop_take, List.take_take, Nat.min_eq_left (by omega)]
        congr 1
        rw [List.length_take, List.length_drop]
        have : m ≤ cur.toList.length := by
          have := congrArg List.length hp
          rw [List.length_take, u8s_len, unp_len] at this; omega
        omega
      · have := (unpB_ok (F := F) (φ := φ) n (x / 256 ^ (m - off - n)) [] [] .nil).len
        rw [this]; simp [u8s, unp_len]
    · cases e
  | _ => cases e
end
end Go.Proofs.YtjjjckmpkldgnaaGreatDoor.Rk
