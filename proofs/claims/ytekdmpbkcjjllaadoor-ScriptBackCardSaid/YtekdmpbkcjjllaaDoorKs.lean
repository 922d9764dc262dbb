/-
  What comes in, read by its type: one reading for each type, put together. Plain theorems over any program; no condition.
-/
import Derived.Test.YtekdmpbkcjjllaaDoorKr
namespace Go.Proofs.YtekdmpbkcjjllaaDoor
open Go.RowKit Go.ChangeShapes Go.WideShapes Go.ChangeAt
/-- A type's values as plain data: its cells' number, which cells say which datum, and that what comes in says one. -/
structure Ty (P : Program) (t : TypeId) (α : Type) where
  sz : Nat
  rep : PH → α → List Value → Prop
  mono : ∀ {F G : PH} {x : α} {cs : List Value}, F.le G → rep F x cs → rep G x cs
  len : ∀ {F : PH} {x : α} {cs : List Value}, rep F x cs → cs.length = sz
  ones : ∀ {F : PH} {x : α} {cs : List Value}, rep F x cs → Ones cs
  opn : ∀ {H : Type} {enc : TypeId × Value → H} {W : World} {base : Nat} {sp : Nat → Bool} {held : Bool} {fuel : Nat} {cs : List Value} {y : DataW H × List MemPlace}, DataW.trod enc P W base sp held fuel t cs = some y → ∃ x, rep (ph W) x cs
theorem wf_inK {k : IntKind} {n : Int} (h : (Lit.int k n).wf = true) : InK k n := by
  cases k
  · exact bounds_i8 h
  · exact bounds_i16 h
  · exact bounds_i32 h
  · exact bounds_i64 h
  · exact bounds_u8 h
  · exact bounds_u16 h
  · exact bounds_u32 h
  · exact bounds_u64 h
def tyInt {P : Program} {t : TypeId} {k : IntKind} (ht : P.underlying t = some (.int k)) : Ty P t Int where
  sz := 1
  rep := fun _ n cs => cs = [.int k n] ∧ InK k n
  mono := fun _ h => h
  len := fun h => by rw [h.1]; rfl
  ones := fun h => by rw [h.1]; exact ones_cons rfl ones_nil
  opn := fun h => by
    obtain ⟨n, rfl, _, hw⟩ := DataW.trod_int ht h
    exact ⟨n, rfl, wf_inK hw⟩
def tyBool {P : Program} {t : TypeId} (ht : P.underlying t = some .bool) : Ty P t Bool where
  sz := 1
  rep := fun _ b cs => cs = [.bool b]
  mono := fun _ h => h
  len := fun h => by rw [h]; rfl
  ones := fun h => by rw [h]; exact ones_cons rfl ones_nil
  opn := fun h => by
    obtain ⟨b, rfl, _⟩ := DataW.trod_bool ht h
    exact ⟨b, rfl⟩
def tyStr {P : Program} {t : TypeId} (ht : P.underlying t = some .string) : Ty P t (List UInt8) where
  sz := 1
  rep := fun _ s cs => cs = [.string (strOf s)] ∧ s.length ≤ maxLen
  mono := fun _ h => h
  len := fun h => by rw [h.1]; rfl
  ones := fun h => by rw [h.1]; exact ones_cons rfl ones_nil
  opn := fun h => by
    obtain ⟨s, rfl, _, hs⟩ := DataW.trod_string ht h
    refine ⟨s.data.toList, rfl, by simpa using hs⟩
inductive All2 {α β : Type} (R : α → β → Prop) : List α → List β → Prop where
  | nil : All2 R [] []
  | cons {x : α} {y : β} {xs : List α} {ys : List β} (h : R x y) (t : All2 R xs ys) : All2 R (x :: xs) (y :: ys)
theorem All2.len1 {α β : Type} {R : α → β → Prop} {xs : List α} {ys : List β} (h : All2 R xs ys) : xs.length = ys.length := by
  induction h with
  | nil => rfl
  | cons _ _ ih => simp [ih]
theorem All2.mono {α β : Type} {R S : α → β → Prop} (hRS : ∀ x y, R x y → S x y) {xs : List α} {ys : List β} (h : All2 R xs ys) : All2 S xs ys := by
  induction h with
  | nil => exact .nil
  | cons h _ ih => exact .cons (hRS _ _ h) ih
theorem All2.at {α β : Type} {R : α → β → Prop} {xs : List α} {ys : List β} (h : All2 R xs ys) : ∀ {i : Nat} {x : α}, xs[i]? = some x → ∃ y, ys[i]? = some y ∧ R x y := by
  induction h with
  | nil => intro i x e; simp at e
  | cons h _ ih =>
    intro i x e
    cases i with
    | zero => simp at e; subst e; exact ⟨_, rfl, h⟩
    | succ i => exact ih (by simpa using e)
theorem All2.of {α β : Type} {R : α → β → Prop} : ∀ {ys : List β}, (∀ y ∈ ys, ∃ x, R x y) → ∃ xs, All2 R xs ys
  | [], _ => ⟨[], .nil⟩
  | y :: ys, h => by
    obtain ⟨x, hx⟩ := h y List.mem_cons_self
    obtain ⟨xs, hxs⟩ := All2.of fun y hy => h y (List.mem_cons_of_mem _ hy)
    exact ⟨x :: xs, .cons hx hxs⟩
theorem All2.right {α β : Type} {R : α → β → Prop} {xs : List α} {ys : List β} (h : All2 R xs ys) : ∀ y ∈ ys, ∃ x ∈ xs, R x y := by
  induction h with
  | nil => intro y h; cases h
  | cons h _ ih =>
    intro y hy
    rcases List.mem_cons.1 hy with rfl | hy
    · exact ⟨_, List.mem_cons_self, h⟩
    · obtain ⟨x, hx, hr⟩ := ih y hy
      exact ⟨x, List.mem_cons_of_mem _ hx, hr⟩
/-- A row of so many. -/
def RowV {P : Program} {e : TypeId} {α : Type} (te : Ty P e α) (F : PH) (v : Value) (xs : List α) : Prop :=
  ∃ css, SliceV F te.sz v xs.length css.flatten ∧ All2 (te.rep F) xs css
section
variable {P : Program} {e : TypeId} {α : Type} {te : Ty P e α} {F G : PH} {v : Value} {xs : List α}
theorem RowV.mono (h : RowV te F v xs) (hl : F.le G) : RowV te G v xs := by
  obtain ⟨css, h1, h2⟩ := h
  exact ⟨css, SliceV.mono h1 hl, All2.mono (fun _ _ => te.mono hl) h2⟩
theorem RowV.form (h : RowV te F v xs) : ∃ a c, v = .slice a xs.length c ∧ xs.length ≤ c := by
  obtain ⟨css, ⟨_, a, c, e, hn, _⟩, _⟩ := h
  exact ⟨a, c, e, hn⟩
theorem RowV.nil : RowV te F (.slice none 0 0) [] := ⟨[], SliceV.nil F _, .nil⟩
/-- What stands at a place of a row. -/
theorem RowV.at {a : Option Addr} {n c i : Nat} {x : α} (h : RowV te F (.slice a n c) xs) (hi : xs[i]? = some x) : ∃ b off cs, a = some ⟨b, off, none⟩ ∧ Cells F b (off + i * te.sz) cs ∧ te.rep F x cs ∧ i < n := by
  obtain ⟨css, h1, h2⟩ := h
  have hn : n = xs.length := by
    obtain ⟨_, a', c', e, _⟩ := h1
    injection e
  subst hn
  have hlt := (List.getElem?_eq_some_iff.1 hi).1
  obtain ⟨cs, hc, hr⟩ := All2.at h2 hi
  obtain ⟨b, off, ha, hcc⟩ := h1.row (fun c hc => by obtain ⟨x, _, hx⟩ := All2.right h2 c hc; exact te.len hx) hc hlt
  exact ⟨b, off, cs, ha, hcc, hr, hlt⟩
end
def tySlice {P : Program} {t e : TypeId} {α : Type} (te : Ty P e α) (ht : P.underlying t = some (.slice e)) (hc : P.cellsOf e = te.sz) (hpos : 0 < te.sz) : Ty P t (List α) where
  sz := 1
  rep := fun F xs cs => ∃ v, cs = [v] ∧ RowV te F v xs
  mono := fun hl ⟨v, h1, h2⟩ => ⟨v, h1, h2.mono hl⟩
  len := fun ⟨v, h1, _⟩ => by rw [h1]; rfl
  ones := fun ⟨v, h1, h2⟩ => by
    obtain ⟨a, c, rfl, _⟩ := h2.form
    rw [h1]; exact ones_cons rfl ones_nil
  opn := fun h => by
    obtain ⟨a, n, c, css, m, rfl, _, _, hl, hs, hel⟩ := open_sl ht (by rw [hc]; exact hpos) h
    rw [hc] at hs
    obtain ⟨xs, hxs⟩ := All2.of (R := te.rep _) fun c h => let ⟨_, _, hy⟩ := hel c h; te.opn hy
    have hxl : xs.length = n := (All2.len1 hxs).trans hl
    subst hxl
    exact ⟨xs, _, rfl, css, hs, hxs⟩
/-- A row of bytes. -/
def tyBytes {P : Program} {t e : TypeId} (ht : P.underlying t = some (.slice e)) (he : P.underlying e = some (.int .u8)) (hc : P.cellsOf e = 1) : Ty P t (List UInt8) where
  sz := 1
  rep := fun F bs cs => ∃ v, cs = [v] ∧ SliceV F 1 v bs.length (u8s bs)
  mono := fun hl ⟨v, h1, h2⟩ => ⟨v, h1, SliceV.mono h2 hl⟩
  len := fun ⟨v, h1, _⟩ => by rw [h1]; rfl
  ones := fun ⟨v, h1, ⟨_, a, c, e, _⟩⟩ => by rw [h1, e]; exact ones_cons rfl ones_nil
  opn := fun {_ enc W base sp held fuel cs y} h => by
    obtain ⟨a, n, c, css, m, hcs, hn, hm, hl, hs, hel⟩ := open_sl ht (by rw [hc]; omega) h
    subst hcs
    rw [hc] at hs hel
    have key : ∀ (css : List (List Value)), (∀ c ∈ css, c.length = 1 ∧ ∃ y, DataW.trod enc P W base sp held m e c = some y) → ∃ bs : List UInt8, css.flatten = u8s bs ∧ bs.length = css.length := by
      intro css
      induction css with
      | nil => intro _; exact ⟨[], rfl, rfl⟩
      | cons c css ih =>
        intro h
        obtain ⟨bs, h1, h2⟩ := ih fun c hc => h c (List.mem_cons_of_mem _ hc)
        obtain ⟨_, y, hy⟩ := h c List.mem_cons_self
        obtain ⟨z, rfl, _, hw⟩ := DataW.trod_int he hy
        have hb := bounds_u8 hw
        refine ⟨UInt8.ofNat z.toNat :: bs, ?_, by simp [h2]⟩
        rw [List.flatten_cons, h1]
        have e1 : ((UInt8.ofNat z.toNat).toNat : Int) = z := by simp; omega
        simp [u8s, e1]
        omega
    obtain ⟨bs, h1, h2⟩ := key css hel
    rw [hl] at h2
    rw [h1] at hs
    subst h2
    exact ⟨bs, _, rfl, hs⟩
/-- An array of bytes. -/
def tyArr {P : Program} {t e n : Nat} (ht : P.underlying t = some (.array n e)) (he : P.underlying e = some (.int .u8)) (hce : P.cellsOf e = 1) (hct : P.cellsOf t = n) : Ty P t (List UInt8) where
  sz := n
  rep := fun _ bs cs => cs = u8s bs ∧ bs.length = n
  mono := fun _ h => h
  len := fun h => by rw [h.1]; simp [u8s, h.2]
  ones := fun h => by
    rw [h.1]
    intro v hv
    obtain ⟨x, _, rfl⟩ := List.mem_map.1 hv
    rfl
  opn := fun {_ enc W base sp held fuel cs y} h => by
    obtain ⟨xs, m, _, _, hl, hxl, hf⟩ := DataW.trod_array ht h
    rw [hce] at hf
    rw [hct] at hl
    have key : ∀ (k : Nat), k ≤ n → ∃ bs : List UInt8, cs.take k = u8s bs ∧ bs.length = k := by
      intro k
      induction k with
      | zero => intro _; exact ⟨[], by simp [u8s], rfl⟩
      | succ k ih =>
        intro hk
        obtain ⟨bs, h1, h2⟩ := ih (by omega)
        have hk' := hf k (by omega)
        rw [List.getElem?_eq_getElem (by omega)] at hk'
        obtain ⟨z, hz, _, hw⟩ := DataW.trod_int he hk'
        have hb := bounds_u8 hw
        have e1 : ((UInt8.ofNat z.toNat).toNat : Int) = z := by simp; omega
        refine ⟨bs ++ [UInt8.ofNat z.toNat], ?_, by simp [h2]⟩
        have hc : cs[k]? = some (.int .u8 z) := by
          have : ((cs.drop (k * 1)).take 1)[0]? = some (.int .u8 z) := by rw [hz]; rfl
          simpa using this
        rw [List.take_add_one, h1, hc]
        simp [u8s, e1]
        omega
    obtain ⟨bs, h1, h2⟩ := key n (Nat.le_refl _)
    rw [List.take_of_length_le (by omega)] at h1
    exact ⟨bs, h1, h2⟩
/-- Fields, one behind the other. -/
structure Fs (P : Program) (fs : List Field) (o : Nat) (α : Type) where
  sz : Nat
  rep : PH → α → List Value → Prop
  mono : ∀ {F G : PH} {x : α} {cs : List Value}, F.le G → rep F x cs → rep G x cs
  len : ∀ {F : PH} {x : α} {cs : List Value}, rep F x cs → cs.length = sz
  ones : ∀ {F : PH} {x : α} {cs : List Value}, rep F x cs → Ones cs
  opn : ∀ {H : Type} {enc : TypeId × Value → H} {W : World} {base : Nat} {sp : Nat → Bool} {held : Bool} {m : Nat} {cs : List Value}, cs.length = o + sz →
    (∀ (i : Nat) (f : Field), fs[i]? = some f → ∃ y, DataW.trod enc P W base sp held m f.type ((cs.drop f.offset).take (P.cellsOf f.type)) = some y) → ∃ x, rep (ph W) x (cs.drop o)
def fsNil {P : Program} (o : Nat) : Fs P [] o Unit where
  sz := 0
  rep := fun _ _ cs => cs = []
  mono := fun _ h => h
  len := fun h => by rw [h]; rfl
  ones := fun h => by rw [h]; exact ones_nil
  opn := fun hl _ => ⟨(), List.drop_eq_nil_of_le (by omega)⟩
def fsCons {P : Program} {f : Field} {fs : List Field} {o : Nat} {α β : Type} (ty : Ty P f.type α) (rest : Fs P fs (o + ty.sz) β) (ho : f.offset = o) (hc : P.cellsOf f.type = ty.sz) : Fs P (f :: fs) o (α × β) where
  sz := ty.sz + rest.sz
  rep := fun F x cs => ∃ c1 c2, cs = c1 ++ c2 ∧ ty.rep F x.1 c1 ∧ rest.rep F x.2 c2
  mono := fun hl ⟨c1, c2, h, h1, h2⟩ => ⟨c1, c2, h, ty.mono hl h1, rest.mono hl h2⟩
  len := fun ⟨c1, c2, h, h1, h2⟩ => by rw [h, List.length_append, ty.len h1, rest.len h2]
  ones := fun ⟨c1, c2, h, h1, h2⟩ => by rw [h]; exact ones_append (ty.ones h1) (rest.ones h2)
  opn := fun {_ enc W base sp held m cs} hl hf => by
    obtain ⟨y, hy⟩ := hf 0 f rfl
    rw [ho, hc] at hy
    obtain ⟨x, hx⟩ := ty.opn hy
    obtain ⟨x2, hx2⟩ := rest.opn (enc := enc) (W := W) (base := base) (sp := sp) (held := held) (m := m) (cs := cs) (by omega) fun i g hg => hf (i + 1) g hg
    refine ⟨(x, x2), _, _, ?_, hx, hx2⟩
    rw [← List.drop_drop, List.take_append_drop]
def tyStruct {P : Program} {t : TypeId} {fs : Array Field} {α : Type} (ht : P.underlying t = some (.struct fs)) (ff : Fs P fs.toList 0 α) (hc : P.cellsOf t = ff.sz) : Ty P t α where
  sz := ff.sz
  rep := ff.rep
  mono := ff.mono
  len := ff.len
  ones := ff.ones
  opn := fun {_ enc W base sp held fuel cs y} h => by
    obtain ⟨xs, m, _, _, hl, hxl, hf⟩ := DataW.trod_struct ht h
    have := ff.opn (enc := enc) (W := W) (base := base) (sp := sp) (held := held) (m := m) (cs := cs) (by omega) fun i f hi => by
      have hi' : fs[i]? = some f := by simpa using hi
      have hlt : i < xs.length := by
        rw [hxl]; exact (Array.getElem?_eq_some_iff.1 hi').1
      exact ⟨xs[i], by rw [hf i f hi']; exact List.getElem?_eq_getElem hlt⟩
    simpa using this
/-- A whole argument of a struct's type. -/
theorem open_struct {H : Type} {enc : TypeId × Value → H} {P : Program} {W : World} {base b0 : Nat} {sp : Nat → Bool} {held : Bool} {r : Reach} {t : TypeId} {fs : Array Field} {α : Type} (ty : Ty P t α) {v : Value} {d : DataW H} {ps : List MemPlace} (ht : P.underlying t = some (.struct fs))
    (hval : Value.okWide P W r b0 t v) (h : DataW.Trod enc P W base sp held t v d ps) : ∃ x cs, v = .agg cs.toArray ∧ ty.rep (ph W) x cs := by
  obtain ⟨cs, rfl, _⟩ := okWide_struct ht hval
  obtain ⟨fuel, hf⟩ := h
  obtain ⟨x, hx⟩ := ty.opn hf
  exact ⟨x, cs.toList, by simp, by simpa [Value.cells] using hx⟩
/-- A whole argument of a slice's type. -/
theorem open_row {H : Type} {enc : TypeId × Value → H} {P : Program} {W : World} {base b0 : Nat} {sp : Nat → Bool} {held : Bool} {r : Reach} {t e : TypeId} {α : Type} (te : Ty P e α) {v : Value} {d : DataW H} {ps : List MemPlace} (ht : P.underlying t = some (.slice e)) (hc : P.cellsOf e = te.sz) (hpos : 0 < te.sz)
    (hval : Value.okWide P W r b0 t v) (h : DataW.Trod enc P W base sp held t v d ps) : ∃ xs, RowV te (ph W) v xs := by
  obtain ⟨a, n, c, rfl⟩ := okWide_slice ht hval
  obtain ⟨fuel, hf⟩ := h
  obtain ⟨xs, v, hv, hx⟩ := (tySlice te ht hc hpos).opn hf
  have hv' : [Value.slice a n c] = [v] := by simpa [Value.cells] using hv
  cases hv'
  exact ⟨xs, hx⟩
end Go.Proofs.YtekdmpbkcjjllaaDoor
