/-
  More rules of operations: slices, structs, append, conversions, bits, comparisons. Plain theorems over any program; no condition.
  Regions whose order is open and whose operations leave memory as it is, but for calls that only hand back a value: one walk in the text's order. Plain theorems over any program; no condition.
-/
import Derived.Test.YtjjjckmpkldgnaaGreatDoorKc
import Derived.Laws.BitsAllLaws
import Derived.Laws.BitsLemmas
import Derived.Deep.Quiet
namespace Go.Proofs.YtjjjckmpkldgnaaGreatDoor
open Go.RowKit

/-- A slice value that reads as the cells cs (n elements of so many cells each). -/
def SliceV (F : PH) (size : Nat) (v : Value) (n : Nat) (cs : List Value) : Prop :=
  cs.length = n * size ∧ ∃ a c, v = .slice a n c ∧ n ≤ c ∧ (0 < n → ∃ b off, a = some ⟨b, off, none⟩ ∧ Cells F b off cs)
theorem SliceV.mono {F G : PH} {size n : Nat} {v : Value} {cs : List Value} (h : SliceV F size v n cs) (hl : F.le G) : SliceV G size v n cs := by
  obtain ⟨h1, a, c, hv, hn, h2⟩ := h
  exact ⟨h1, a, c, hv, hn, fun h0 => let ⟨b, off, ha, hc⟩ := h2 h0; ⟨b, off, ha, hc.mono hl⟩⟩
theorem SliceV.nil (F : PH) (size : Nat) : SliceV F size (.slice none 0 0) 0 [] := ⟨by simp, none, 0, rfl, Nat.le_refl _, fun h => absurd h (by omega)⟩
theorem slice_at {F : PH} {size n i : Nat} {cs : List Value} {b off : Nat} (hl : cs.length = n * size) (hc : Cells F b off cs) (hi : i < n) : Cells F b (off + i * size) ((cs.drop (i * size)).take size) := fun j u e => by
  have hlt : j < size := by
    have := (List.getElem?_eq_some_iff.1 e).1
    simp at this; omega
  rw [List.getElem?_take, if_pos hlt, List.getElem?_drop] at e
  have := hc _ u e
  rwa [← Nat.add_assoc] at this
/-- A cut of it. -/
def cutV (a : Option Addr) (size c lo hi m : Nat) : Value := .slice (if m = lo then a else a.map (·.add (lo * size))) (hi - lo) (m - lo)
theorem SliceV.cut {F : PH} {size n lo hi m c : Nat} {a : Option Addr} {cs : List Value} (h : SliceV F size (.slice a n c) n cs) (h1 : lo ≤ hi) (h2 : hi ≤ n) (h3 : hi ≤ m) : SliceV F size (cutV a size c lo hi m) (hi - lo) ((cs.drop (lo * size)).take ((hi - lo) * size)) := by
  obtain ⟨hl, a', c', hv, hn, hc⟩ := h
  cases hv
  have e1 : (hi - lo) * size ≤ n * size - lo * size := by rw [← Nat.sub_mul]; exact Nat.mul_le_mul_right _ (by omega)
  refine ⟨by rw [List.length_take, List.length_drop, hl]; omega, _, _, rfl, by omega, fun h0 => ?_⟩
  obtain ⟨b, off, rfl, hcc⟩ := hc (by omega)
  rw [if_neg (by omega)]
  refine ⟨b, off + lo * size, by simp [adr_add], fun j u e => ?_⟩
  have hlt : j < (hi - lo) * size := by
    have := (List.getElem?_eq_some_iff.1 e).1
    simp at this; omega
  rw [List.getElem?_take, if_pos hlt, List.getElem?_drop] at e
  have := hcc _ u e
  rwa [← Nat.add_assoc] at this
def partvs (l : Env) : List (Nat × Operand) → Option (List (Nat × Value))
  | [] => some []
  | (i, x) :: r => match opv l x with
    | none => none
    | some v => match partvs l r with
      | none => none
      | some vs => some ((i, v) :: vs)
theorem partvs_eq {l : Env} {ρ : Operand → Value} (hρ : ∀ x u, opv l x = some u → ρ x = u) : ∀ {ps : List (Nat × Operand)} {vs : List (Nat × Value)}, partvs l ps = some vs → ps.map (fun (i, x) => (i, ρ x)) = vs
  | [], vs, e => by cases e; rfl
  | (i, x) :: r, vs, e => by
    unfold partvs at e
    cases h1 : opv l x with
    | none => simp [h1] at e
    | some v =>
      cases h2 : partvs l r with
      | none => simp [h1, h2] at e
      | some vs' =>
        simp [h1, h2] at e
        subst e
        simp [hρ _ _ h1]
        exact partvs_eq hρ h2
/-- The parts of a slice literal, laid one behind the other. -/
inductive FillS (size : Nat) : List (Nat × Value) → List Value → List Value → Prop where
  | nil {r : List Value} : FillS size [] r r
  | cons {i : Nat} {v : Value} {ps : List (Nat × Value)} {vs r s t : List Value} (hv : VC v vs) (hn : vs.length = size) (hl : Lay (i * size) vs r s) (h : FillS size ps s t) : FillS size ((i, v) :: ps) r t
inductive FillF (pl : List (Nat × Nat)) : List (Nat × Value) → List Value → List Value → Prop where
  | nil {r : List Value} : FillF pl [] r r
  | cons {i off n : Nat} {v : Value} {ps : List (Nat × Value)} {vs r s t : List Value} (hv : VC v vs) (hf : pl[i]? = some (off, n)) (hn : vs.length = n) (hl : Lay off vs r s) (h : FillF pl ps s t) : FillF pl ((i, v) :: ps) r t
def placesOf (P : Program) (T : TypeId) : Option (List (Nat × Nat)) := match P.underlying T with
  | some (.struct fs) => fs.toList.mapM (fun f => (P.info? f.type).map fun i => (f.offset, i.size))
  | _ => none
theorem setRange_list (vs : List Value) : ∀ (i off : Nat) (r : List Value), off + i + vs.length ≤ r.length →
    (vs.zipIdx i).foldl (fun (cs : Array Value) (p : Value × Nat) => cs.setIfInBounds (off + p.2) p.1) r.toArray = (r.take (off + i) ++ vs ++ r.drop (off + i + vs.length)).toArray := by
  induction vs with
  | nil => intro i off r h; simp
  | cons v vs ih =>
    intro i off r h
    rw [List.zipIdx_cons, List.foldl_cons]
    simp only [List.setIfInBounds_toArray]
    rw [ih (i + 1) off _ (by simp only [List.length_set, List.length_cons] at *; omega)]
    congr 1
    simp only [List.length_cons] at h
    have hlt : off + i < r.length := by omega
    rw [show off + (i + 1) = off + i + 1 from by omega, List.take_succ_eq_append_getElem (by simpa using hlt), List.getElem_set_self, List.take_set_of_le (Nat.le_refl _), List.drop_set_of_lt (by omega), List.length_cons,
      show off + i + 1 + vs.length = off + i + (vs.length + 1) from by omega]
    simp
theorem fold_lay {vs r s : List Value} {off : Nat} (h : Lay off vs r s) : (vs.toArray.zipIdx).foldl (fun (cs : Array Value) (p : Value × Nat) => cs.setIfInBounds (off + p.2) p.1) r.toArray = s.toArray := by
  obtain ⟨e, hl⟩ := h.eq
  have := setRange_list vs 0 off r (by simpa using hl)
  simp only [Nat.add_zero] at this
  rw [e, ← this, ← Array.foldl_toList]
  simp
theorem fillS_run {size : Nat} {ps : List (Nat × Value)} {r t : List Value} (h : FillS size ps r t) : Instr.fill (fun i => some (i * size, size)) r.toArray ps = some t.toArray := by
  induction h with
  | nil => rfl
  | @cons i v ps vs r s t hv hn hl _ ih =>
    have hl2 := hl.eq.2
    unfold Instr.fill
    simp only [hv.eq]
    rw [if_neg (by simp [hn]; omega)]
    rw [← ih]
    congr 1
    exact fold_lay hl
section
variable {P : Program} {l : Env} {F : PH} {H Hr : List Asrt} {d : Option Nat} {T T' U E : TypeId} {pos : String} {af : Array Edge} {g : Option (Nat × Bool)} {x y z y' z' : Operand}
theorem elemSize_info {size : Nat} (ht : elemSize P T = some (E, size)) : P.underlying T = some (.slice E) ∧ ∃ i, P.info? E = some i ∧ i.size = size := by
  unfold elemSize at ht
  split at ht
  · rename_i e hu
    split at ht
    · rename_i hinf
      cases ht
      exact ⟨hu, _, hinf, rfl⟩
    · cases ht
  · cases ht
theorem run_sizeOf {i : TypeInfo} (h : P.info? T = some i) (w : World) : (sizeOf T).run P w = .ok i.size w := by simp [sizeOf, typeInfo, h, go_sem]
theorem ev_slice_lo {a : Option Addr} {n c lo size : Nat} {k : IntKind} (hx : opv l x = some (.slice a n c)) (hz : opv l z = some (.int k (lo : Int))) (ht : elemSize P T = some (E, size)) (h1 : lo ≤ n) :
    Ev P ⟨d, .slice T x (some z) none none, U, pos, af, g⟩ l F H (cutV a size c lo n c) := .of fun ρ hρ w _ => by
  obtain ⟨hu, i, hi, rfl⟩ := elemSize_info ht
  have e1 := hρ _ _ hx; have e2 := hρ _ _ hz
  have h2 : (lo : Int) ≤ (n : Int) := by omega
  simp [execOp, e1, e2, go_sem, Instr.sliceAt, Instr.slice, run_underlying hu, Instr.sliceBounds, Instr.sliceBound, asIntOf, sizeOf, typeInfo, hi, h1, h2, cutV]
theorem ev_slice_clip {a : Option Addr} {n c hi m size : Nat} {k' k'' : IntKind} (hx : opv l x = some (.slice a n c)) (hy : opv l y = some (.int k'' (m : Int))) (hz' : opv l z' = some (.int k' (hi : Int))) (ht : elemSize P T = some (E, size)) (h3 : hi ≤ m) (h5 : m ≤ c) :
    Ev P ⟨d, .slice T x none (some z') (some y), U, pos, af, g⟩ l F H (.slice a hi m) := .of fun ρ hρ w _ => by
  obtain ⟨hu, i, hi', rfl⟩ := elemSize_info ht
  have e1 := hρ _ _ hx; have e3 := hρ _ _ hz'; have e4 := hρ _ _ hy
  have h4 : (hi : Int) ≤ (m : Int) := by omega
  have h6 : (m : Int) ≤ (c : Int) := by omega
  have h2 : a.map (fun x => x.add 0) = a := by cases a <;> simp [Addr.add]
  simp [execOp, e1, e3, e4, go_sem, Instr.sliceAt, Instr.slice, run_underlying hu, Instr.sliceBounds, Instr.sliceBound, asIntOf, sizeOf, typeInfo, hi', h3, h4, h5, h6, h2]
/-! literals -/
theorem zero_row {cs : List Value} (n : Nat) : ((Array.range (n * cs.length)).map (fun i => cs.toArray[i % cs.toArray.size]!)) = ((List.replicate n cs).flatten).toArray := by
  have key : ∀ n, (List.range (n * cs.length)).map (fun i => cs.toArray[i % cs.toArray.size]!) = (List.replicate n cs).flatten := by
    intro n
    induction n with
    | zero => simp
    | succ n ih =>
      rw [Nat.succ_mul, Nat.add_comm, List.range_add, List.map_append, List.replicate_succ, List.flatten_cons]
      congr 1
      · apply List.ext_getElem
        · simp
        · intro i h1 h2
          simp only [List.length_map, List.length_range] at h1
          simp [Nat.mod_eq_of_lt h1, h1]
      · rw [← ih, List.map_map]
        apply List.map_congr_left
        intro i _
        simp
  apply Array.ext'
  rw [Array.toList_map]
  simpa using key n
theorem ev_buildSlice {n size : Nat} {ps : List (Nat × Operand)} {vs : List (Nat × Value)} {zs r t : List Value} (hp : partvs l ps = some vs) (ht : elemSize P T = some (E, size)) (hz : zeroCs P E = some zs) (hn : zs.length = size) (h24 : Nat.ble (n * size) 16777216 = true)
    (hr : (List.replicate n zs).flatten = r) (hf : FillS size vs r t) : Ev' P ⟨d, .buildSlice T n ps.toArray, U, pos, af, g⟩ l F H fun v F' H' => F = F' ∧ ∃ b, v = .slice (some ⟨b, 0, none⟩) n n ∧ H' = blk b E t :: H := .of fun N a w ha hs => by
  obtain ⟨hu, i, hi, rfl⟩ := elemSize_info ht
  obtain ⟨i', zv, hi', hz', hc⟩ := zeroCs_info hz
  rw [hi] at hi'; cases hi'
  have hpv := partvs_eq (fun x u e => ha.opv e) hp
  have h24' : ¬ n * i.size > 2 ^ 24 := by have := Nat.le_of_ble_eq_true h24; omega
  refine ⟨.value (.slice (some ⟨w.heap.size, 0, none⟩) n n), w.alloc (.cells t.toArray E), _, F, blk w.heap.size E t :: H, ?_, .inl rfl, Mild.alloc w _, PH.ler F, ⟨rfl, _, rfl, rfl⟩, hs.alloc _ _ rfl⟩
  refine run_v (s := Instr.buildSlice T n _) ?_
  have hzv : (zeroValue E).run P w = .ok zv w := by simp [zeroValue, typeInfo, hi, hz', go_sem]
  have hfill := fillS_run hf
  have e2 : ps.toArray.map (fun (p : Nat × Operand) => (p.1, a.eval p.2)) = vs.toArray := by rw [← hpv]; simp
  unfold Instr.buildSlice
  by_cases h0 : n * i.size = 0
  · have hr0 : r = [] := by
      rw [← hr]
      apply List.eq_nil_of_length_eq_zero
      simp [hn, h0]
    subst hr0
    have er : Array.range 0 = #[] := by simp [Array.range]
    simp [run_underlying hu, run_sizeOf hi, h24', h0, e2, hfill, er]
    rfl
  · have hrow : ((Array.range (n * i.size)).map (fun j => zv.cells[j % zv.cells.size]!)) = r.toArray := by
      rw [hc, ← hr, ← hn]; exact zero_row n
    simp [run_underlying hu, run_sizeOf hi, h24', h0, hzv, e2]
    rw [hrow, hfill]
    rfl
theorem ev_build {ps : List (Nat × Operand)} {vs : List (Nat × Value)} {pl : List (Nat × Nat)} {zs t : List Value} (hp : partvs l ps = some vs) (hz : zeroCs P T = some zs) (hpl : placesOf P T = some pl) (hf : FillF pl vs zs t) :
    Ev P ⟨d, .build T ps.toArray, U, pos, af, g⟩ l F H (.agg t.toArray) := .of fun ρ hρ w _ => by
  obtain ⟨i', zv, hi', hz', hc⟩ := zeroCs_info hz
  have hpv := partvs_eq hρ hp
  have e2 : ps.toArray.map (fun (p : Nat × Operand) => (p.1, ρ p.2)) = vs.toArray := by rw [← hpv]; simp
  refine run_v (s := Instr.build T _) ?_
  rw [e2]
  refine run_build w T _ _ ?_
  unfold placesOf at hpl
  split at hpl
  · rename_i fs hu
    have hfill : ∀ {vs : List (Nat × Value)} {r t : List Value}, FillF pl vs r t → Instr.fill (pl.toArray[·]?) r.toArray vs = some t.toArray := by
      intro vs r t h
      induction h with
      | nil => rfl
      | @cons i off n v ps vs r s t hv hf hn hl _ ih =>
        have hl2 := hl.eq.2
        unfold Instr.fill
        have hf' : pl.toArray[i]? = some (off, n) := by simpa using hf
        simp only [hv.eq, hf']
        rw [if_neg (by simp [hn]; omega)]
        rw [← ih]
        congr 1
        exact fold_lay hl
    unfold Program.built
    simp only [hi', hu, hz', hpl, hc]
    exact hfill hf
  · cases hpl
/-! append -/
theorem ev_append {size bytes m : Nat} {z v : Value} {n : Nat} {xs news : List Value} {K : Value → List Asrt} {c b off : Nat} (hx : opv l x = some v) (hy : opv l y = some (.slice (some ⟨b, off, none⟩) m c)) (he : Elem P T E size bytes z) (hc : Rdb F H b off news) (hl : news.length = m * size) (h1 : Ones news)
    (hb : (n + m) * bytes ≤ 140737488355328) (h63 : n + m ≤ maxLen) (hu : ∀ v', Upd (own v E size n xs) (own v' E size (n + m) (xs ++ news)) H (K v')) :
    Ev' P ⟨d, .call { callee := .builtin .append, args := #[x, y], argTypes := #[T, T] }, U, pos, af, g⟩ l F H fun u F' H' => F = F' ∧ (u = .slice none 0 0 ↔ v = .slice none 0 0 ∧ m = 0) ∧ H' = K u := .of fun N a w ha hs => by
  obtain ⟨hu1, ⟨i, hi, hz, hsz, hby, hzs, h0⟩, _, _⟩ := he
  obtain ⟨h, R, ⟨hlen, hA⟩, hd, hle, _, k⟩ := hs.focus (hu v)
  have hown : w.ownsRow 0 E size v n xs := by
    refine ⟨hlen, ?_⟩
    rcases hA with ⟨e1, e2, _⟩ | ⟨gg, cap, cur, e1, e2, e3, e4, e5, e6⟩
    · exact .inl ⟨e1, e2⟩
    · subst e2
      exact .inr ⟨gg, cap, cur, e1, Nat.zero_le _, hle gg _ ((PH.le_r hd) gg _ (PH.one_self _ _)), e3, e4, e5, e6⟩
  obtain ⟨v', w', hrun, hown', hg, hnil, hblk⟩ := run_append_own_at (P := P) w 0 T U E i z size bytes hu1 hi hz hsz hby hzs h0 v n xs hown ⟨b, off, none⟩ m c news hl (hc w hs).world h1 h63 hb (Nat.zero_le _)
  have e1 := ha.opv hx; have e2 := ha.opv hy
  refine ⟨.value v', w', v', F, K v', ?_, .inl rfl, Mild.grown hg, PH.ler F, ⟨rfl, hnil, rfl⟩, ?_⟩
  · generalize a.eval = ρ at e1 e2 ⊢
    simp only [execOp, resolve, List.map_toArray, List.map_cons, List.map_nil, e1, e2, pure_bind, invoke, builtin]
    exact run_v hrun
  · -- the new row beside the frame
    obtain ⟨h, R, ⟨hlen2, hA2⟩, hd, hle, _, k⟩ := hs.focus (hu v')
    have hRown : ∀ j o, R j = some o → some j ≠ v.ownBlock ∧ j < w.heap.size := by
      intro j o hj
      refine ⟨fun e => ?_, ph_lt (hle j o ((PH.le_l _ _) j o hj))⟩
      rcases hA2 with ⟨e1, _, _⟩ | ⟨gg, cap, cur, e1, e2, _⟩
      · subst e1; simp [Value.ownBlock] at e
      · subst e1; simp [Value.ownBlock] at e; subst e; subst e2
        rcases hd j with e | e
        · rw [e] at hj; cases hj
        · rw [PH.one_self] at e; cases e
    have hR' : R.le (ph w') := fun j o hj => by
      obtain ⟨h1, h2⟩ := hRown j o hj
      show w'.heap[j]? = some o
      rw [hg.block j h2 h1]
      exact hle j o ((PH.le_l _ _) j o hj)
    rcases hown'.2 with ⟨e1, e2⟩ | ⟨gg, cap, cur, e1, _, e3, e4, e5, e6, e7⟩
    · exact k PH.emp w' ⟨hown'.1, .inl ⟨e1, e2, rfl⟩⟩ (PH.dj_emp _) (by rw [PH.un_emp]; exact hR')
    · refine k (PH.one gg (.cells cur E (0, 0))) w' ⟨hown'.1, .inr ⟨gg, cap, cur, e1, rfl, e4, e5, e6, e7⟩⟩ (PH.dj_one ?_) (PH.un_le hR' (PH.one_le e3))
      cases hj : R gg with
      | none => rfl
      | some o =>
        obtain ⟨h1, h2⟩ := hRown gg o hj
        subst e1
        rcases hblk with e | e
        · exact absurd e h1
        · simp [Value.ownBlock] at e; omega
/-! conversions between integers -/
theorem ev_conv {k k' : IntKind} {n r : Int} (hx : opv l x = some (.int k n)) (hu : P.underlying T' = some (.int k')) (hs : (P.underlying T).isSome = true) (hr : k'.wrap n = r) : Ev P ⟨d, .convert T T' x, U, pos, af, g⟩ l F H (.int k' r) := .of fun ρ hρ w _ => by
  have e1 := hρ _ _ hx
  obtain ⟨ds, hds⟩ := Option.isSome_iff_exists.1 hs
  refine run_v (s := convert T T' (ρ x)) ?_
  rw [e1, ← hr]
  cases ds <;> simp [convert, run_underlying hu, run_underlying hds, Conv.intToInt, go_sem]
/-! bits of unsigned numbers -/
theorem bits_nat (op : BinOp) (k : IntKind) (a b : Nat) (hk : k.signed = false) (ha : a < 2 ^ k.bits) (hb : b < 2 ^ k.bits) (r : Nat) (hr : r < 2 ^ k.bits)
    (h : (op = .and ∧ r = a &&& b) ∨ (op = .or ∧ r = a ||| b) ∨ (op = .xor ∧ r = a ^^^ b)) (w : World) : (Op.intBits op k a b).run P w = .ok (.int k (r : Int)) w := by
  have e1 : (BitVec.ofInt k.bits (a : Int)).toNat = a := by rw [BitVec.ofInt_natCast, BitVec.toNat_ofNat]; exact Nat.mod_eq_of_lt ha
  have e2 : (BitVec.ofInt k.bits (b : Int)).toNat = b := by rw [BitVec.ofInt_natCast, BitVec.toNat_ofNat]; exact Nat.mod_eq_of_lt hb
  have hw : k.wrap (r : Int) = r := by
    have : ((r : Int) % 2 ^ k.bits) = r := Int.emod_eq_of_lt (by omega) (by exact_mod_cast hr)
    simp [IntKind.wrap, hk, this]
  rcases h with ⟨rfl, h⟩ | ⟨rfl, h⟩ | ⟨rfl, h⟩
  · show Sem.run P (pure (Value.int k (k.wrap ((BitVec.ofInt k.bits (a : Int) &&& BitVec.ofInt k.bits (b : Int)).toNat : Int)))) w = _
    rw [BitVec.toNat_and, e1, e2, ← h, hw]; rfl
  · show Sem.run P (pure (Value.int k (k.wrap ((BitVec.ofInt k.bits (a : Int) ||| BitVec.ofInt k.bits (b : Int)).toNat : Int)))) w = _
    rw [BitVec.toNat_or, e1, e2, ← h, hw]; rfl
  · show Sem.run P (pure (Value.int k (k.wrap ((BitVec.ofInt k.bits (a : Int) ^^^ BitVec.ofInt k.bits (b : Int)).toNat : Int)))) w = _
    rw [BitVec.toNat_xor, e1, e2, ← h, hw]; rfl
theorem ev_or_bits {k : IntKind} {m n : Nat} (hx : opv l x = some (.int k m)) (hy : opv l y = some (.int k n)) (hk : k.signed = false) (ha : m < 2 ^ k.bits) (hb : n < 2 ^ k.bits) : Ev P ⟨d, .binOp .or T x y T', U, pos, af, g⟩ l F H (.int k ((m ||| n : Nat) : Int)) := .of fun ρ hρ w _ => by
  have e1 := hρ _ _ hx; have e2 := hρ _ _ hy
  refine run_v (s := do eqGuard .or T x y (ρ x) (ρ y); binOp .or T (ρ x) (ρ y)) ?_
  rw [e1, e2]
  have := bits_nat (P := P) .or k m n hk ha hb _ (Nat.or_lt_two_pow ha hb) (.inr (.inl ⟨rfl, rfl⟩)) w
  simpa [eqGuard, binOp, go_sem] using this
theorem ev_shl {k k' : IntKind} {m : Int} {n : Nat} {r : Int} (hx : opv l x = some (.int k m)) (hy : opv l y = some (.int k' n)) (hr : k.wrap (m * 2 ^ (min n k.bits)) = r) : Ev P ⟨d, .binOp .shl T x y T', U, pos, af, g⟩ l F H (.int k r) := .of fun ρ hρ w _ => by
  have e1 := hρ _ _ hx; have e2 := hρ _ _ hy
  refine run_v (s := do eqGuard .shl T x y (ρ x) (ρ y); binOp .shl T (ρ x) (ρ y)) ?_
  rw [e1, e2, ← hr]
  have h0 : ¬ (n : Int) < 0 := by omega
  simp [eqGuard, binOp, Op.shift, go_sem]
theorem ev_shr {k k' : IntKind} {m n : Nat} (hx : opv l x = some (.int k (m : Int))) (hy : opv l y = some (.int k' (n : Int))) (hm : m < 2 ^ k.bits) : Ev P ⟨d, .binOp .shr T x y T', U, pos, af, g⟩ l F H (.int k ((m >>> n : Nat) : Int)) := .of fun ρ hρ w _ => by
  have e1 := hρ _ _ hx; have e2 := hρ _ _ hy
  refine run_v (s := do eqGuard .shr T x y (ρ x) (ρ y); binOp .shr T (ρ x) (ρ y)) ?_
  rw [e1, e2]
  have h0 : ¬ (n : Int) < 0 := by omega
  have key : (m : Int).fdiv (2 ^ (min n k.bits)) = ((m >>> n : Nat) : Int) := by
    have e3 : ((2 : Int) ^ (min n k.bits)) = ((2 ^ (min n k.bits) : Nat) : Int) := by simp
    rw [e3, Int.fdiv_eq_ediv_of_nonneg _ (Int.natCast_nonneg _), ← Int.natCast_ediv, Nat.shiftRight_eq_div_pow]
    congr 1
    by_cases h : n ≤ k.bits
    · rw [Nat.min_eq_left h]
    · rw [Nat.min_eq_right (by omega), Nat.div_eq_of_lt hm, Nat.div_eq_of_lt (Nat.lt_of_lt_of_le hm (Nat.pow_le_pow_right (by omega) (by omega)))]
  rw [← key]
  simp [eqGuard, binOp, Op.shift, go_sem]
end
theorem own_slice {F h : PH} {v : Value} {E size n : Nat} {xs : List Value} (ho : own v E size n xs h) (hd : F.dj h) : SliceV (F.un h) size v n xs := by
  obtain ⟨hl, h1⟩ := ho
  refine ⟨hl, ?_⟩
  rcases h1 with ⟨rfl, rfl, rfl⟩ | ⟨g, cap, cur, rfl, rfl, h2, _, _, h5⟩
  · exact ⟨none, 0, rfl, Nat.le_refl _, fun h => absurd h (by omega)⟩
  · refine ⟨_, _, rfl, h2, fun _ => ⟨g, 0, rfl, cells_row ((PH.le_r hd) g _ (PH.one_self _ _)) (by rw [hl]; exact h5)⟩⟩
/-- What is nil owns nothing. -/
theorem J_own_nil {C : Ctx} {k : List KItem} {l : Env} {F : PH} {H : List Asrt} (E size : Nat) (h : J C k l F (own (.slice none 0 0) E size 0 [] :: H)) : J C k l F H := J_weak h fun w s => by
  obtain ⟨r, hr, hd, hl⟩ := s
  exact ⟨r, ⟨PH.emp, r, ⟨by simp, .inl ⟨rfl, rfl, rfl⟩⟩, hr, PH.emp_dj _, (PH.emp_un _).symm⟩, hd, hl⟩
/-! calls, in the form that the walks use -/
section
variable {C : Ctx} {ops : Array Oper} {rest : List Oper} {k : List KItem} {l : Env} {F : PH} {H : List Asrt} {d : Nat} {T : TypeId} {pos : String} {af : Array Edge} {g : Option (Nat × Bool)} {f : FuncId} {args : List Operand} {tys : Array TypeId} {vs : List Value}
theorem JO_c {Hc Hr : List Asrt} {Q : Value → PH → List Asrt → Prop} (sp : Spec C.P f vs F Hc Q) (hc : ∀ args w, (callFunc f args).run C.P w = .ok (.enter f args) w) (hv : opvs l args = some vs)
    (hr : runs ops l ⟨some d, .call { callee := .value (.func f), args := args.toArray, argTypes := tys }, T, pos, af, g⟩ = some true) (hp : ∀ w, Sat F H w → Sat F (Hc ++ Hr) w)
    (h : ∀ v F' H', F.le F' → Q v F' H' → JO C ops rest k ((d, v) :: l) F' (H' ++ Hr)) :
    JO C ops (⟨some d, .call { callee := .value (.func f), args := args.toArray, argTypes := tys }, T, pos, af, g⟩ :: rest) k l F H := by
  unfold JO at *
  intro hd a w ha hm hs
  unfold wpList
  rw [if_pos (runs_wanted hr ha)]
  left
  unfold Oper.wp
  have he : args.toArray.map a.eval = vs.toArray := by rw [← ha.opvs hv]; simp
  have hrun : (execOp a.eval ⟨some d, .call { callee := .value (.func f), args := args.toArray, argTypes := tys }, T, pos, af, g⟩).run C.P w = .ok (.enter f vs.toArray) w := by
    unfold execOp
    simp only [resolve, Act.eval, Deferred.ofValue, invoke]
    simp only [Array.append_empty, pure_bind, ← he]
    simp [hc]
  rw [hrun]
  simp only [Oper.upon_enter]
  refine (sp.out Hr w (hp w hs)).mono ?_
  rintro e w' ⟨v, F', H', rfl, hF, hQ, hmw, hs'⟩
  rw [List.all_cons, Bool.and_eq_true] at hd
  exact h v F' H' hF hQ hd.2 _ w' (ha.put (by simpa using hd.1) v) (hm.trans hmw) hs'
theorem JO_p {v : Value} (sp : Pure C.P f vs F v) (hc : ∀ args w, (callFunc f args).run C.P w = .ok (.enter f args) w) (hv : opvs l args = some vs)
    (hr : runs ops l ⟨some d, .call { callee := .value (.func f), args := args.toArray, argTypes := tys }, T, pos, af, g⟩ = some true)
    (h : JO C ops rest k ((d, v) :: l) F H) :
    JO C ops (⟨some d, .call { callee := .value (.func f), args := args.toArray, argTypes := tys }, T, pos, af, g⟩ :: rest) k l F H :=
  JO_c (Hc := []) (Hr := H) sp hc hv hr (fun _ s => s) fun u F' H' hF ⟨e1, e2⟩ => by
    subst e1 e2
    exact JO_weak h fun _ s => s.mono hF
end
end Go.Proofs.YtjjjckmpkldgnaaGreatDoor
namespace Go.Proofs.YtjjjckmpkldgnaaGreatDoor
open Go.RowKit

def JQ (C : Ctx) (ops : Array Oper) (rest : List Oper) (k : List KItem) (l : Env) (F : PH) (H : List Asrt) : Prop :=
  rest.all (fun o => o.dst.all (· < C.N)) = true → ∀ a, Holds C.N l a → wpQuiet C.P ops (fun w => Mild C.w0 w ∧ Sat F H w) (fun a' => ∀ w', (Mild C.w0 w' ∧ Sat F H w') → kpost C k .normal a' w') rest a
section
variable {C : Ctx} {ops : Array Oper} {rest : List Oper} {k : List KItem} {l : Env} {F : PH} {H : List Asrt} {d : Nat} {T : TypeId} {pos : String} {af : Array Edge} {g : Option (Nat × Bool)} {f : FuncId} {args : List Operand} {tys : Array TypeId} {vs : List Value}
theorem J_draw {id : Nat} {ops : List Oper} (hd : ops.all (fun o => o.dst.all (· < C.N)) = true) (hm : C.P.follows .mixedOrders = true) (hB : Region.lexB .any ops.toArray = true) (h : JQ C ops.toArray ops k l F H) : J C (.code (.region id ops.toArray true) :: k) l F H := by
  unfold J JQ at *
  intro a w ha hmw hs
  have h1 := h hd a ha
  exact wp_region_quiet (C := fun w => Mild C.w0 w ∧ Sat F H w) hm hB ⟨hmw.trans (Mild.drew w), hs⟩ h1
theorem JQ_nil (h : J C k l F H) : JQ C ops [] k l F H := by
  unfold J at h
  intro _ a ha
  exact fun w hw => h a w ha hw.1 hw.2
theorem JQ_s {p : Op} {v : Value} (he : Ev C.P ⟨some d, p, T, pos, af, g⟩ l F H v) (hr : runs ops l ⟨some d, p, T, pos, af, g⟩ = some true) (h : JQ C ops rest k ((d, v) :: l) F H) : JQ C ops (⟨some d, p, T, pos, af, g⟩ :: rest) k l F H := by
  unfold JQ at *
  intro hd a ha
  rw [List.all_cons, Bool.and_eq_true] at hd
  unfold wpQuiet
  rw [if_pos (runs_wanted hr ha)]
  refine ⟨v, fun w hw => ?_, h hd.2 _ (ha.put (by simpa using hd.1) v)⟩
  unfold Oper.quietAt
  rw [he.out _ a w ha hw.2]
  exact ⟨rfl, rfl⟩
theorem JQ_sk {p : Op} (hr : runs ops l ⟨some d, p, T, pos, af, g⟩ = some false) (h : JQ C ops rest k ((d, undef) :: l) F H) : JQ C ops (⟨some d, p, T, pos, af, g⟩ :: rest) k l F H := by
  unfold JQ at *
  intro hd a ha
  rw [List.all_cons, Bool.and_eq_true] at hd
  unfold wpQuiet
  rw [if_neg (by rw [runs_wanted hr ha]; decide)]
  exact h hd.2 _ (ha.put (by simpa using hd.1) undef)
theorem JQ_p {v : Value} (sp : Pure C.P f vs F v) (hc : ∀ args w, (callFunc f args).run C.P w = .ok (.enter f args) w) (hv : opvs l args = some vs)
    (hr : runs ops l ⟨some d, .call { callee := .value (.func f), args := args.toArray, argTypes := tys }, T, pos, af, g⟩ = some true)
    (h : JQ C ops rest k ((d, v) :: l) F H) :
    JQ C ops (⟨some d, .call { callee := .value (.func f), args := args.toArray, argTypes := tys }, T, pos, af, g⟩ :: rest) k l F H := by
  unfold JQ at *
  intro hd a ha
  rw [List.all_cons, Bool.and_eq_true] at hd
  unfold wpQuiet
  rw [if_pos (runs_wanted hr ha)]
  refine ⟨v, fun w hw => ?_, h hd.2 _ (ha.put (by simpa using hd.1) v)⟩
  unfold Oper.quietAt
  have he : args.toArray.map a.eval = vs.toArray := by rw [← ha.opvs hv]; simp
  have hrun : (execOp a.eval ⟨some d, .call { callee := .value (.func f), args := args.toArray, argTypes := tys }, T, pos, af, g⟩).run C.P w = .ok (.enter f vs.toArray) w := by
    unfold execOp
    simp only [resolve, Act.eval, Deferred.ofValue, invoke]
    simp only [Array.append_empty, pure_bind, ← he]
    simp [hc]
  rw [hrun]
  refine ⟨rfl, (Spec.out sp H w hw.2).mono ?_⟩
  rintro e w' ⟨u, F', H', rfl, hF, ⟨e1, e2⟩, hmw, hs'⟩
  subst e1 e2
  exact ⟨rfl, hw.1.trans hmw, hs'.mono hF⟩
end
attribute [irreducible] JQ
/-! ### append of one element -/
section
variable {P : Program} {T E size bytes : Nat} {z : Value}
theorem Elem.es (he : Elem P T E size bytes z) : elemSize P T = some (E, size) := by
  obtain ⟨hu, ⟨i, hi, _, hs, _⟩, _, _⟩ := he
  unfold elemSize
  rw [hu]
  dsimp only
  rw [hi]
  cases i
  cases hs
  rfl
theorem Elem.zs (he : Elem P T E size bytes z) : zeroCs P E = some z.cells.toList ∧ z.cells.toList.length = size := by
  obtain ⟨hu, ⟨i, hi, hz, hs, _, hzs, _⟩, _, _⟩ := he
  refine ⟨?_, by simpa using hzs⟩
  unfold zeroCs
  rw [hi]
  cases i
  cases hz
  cases z <;> rfl
theorem lay_all : ∀ {vs zs : List Value}, vs.length = zs.length → Lay 0 vs zs vs
  | [], [], _ => .nil
  | v :: vs, z :: zs, h => .put (lay_all (by simpa using h))
theorem ev_one {l : Env} {F : PH} {H : List Asrt} {d : Option Nat} {U : TypeId} {pos : String} {af : Array Edge} {g : Option (Nat × Bool)} {y : Operand} {v : Value} {vs : List Value} (hy : opv l y = some v) (hv : VC v vs) (hl : vs.length = size) (he : Elem P T E size bytes z) :
    Ev' P ⟨d, .buildSlice T 1 #[(0, y)], U, pos, af, g⟩ l F H fun v F' H' => F = F' ∧ ∃ b, v = .slice (some ⟨b, 0, none⟩) 1 1 ∧ H' = blk b E vs :: H := by
  obtain ⟨hz, hzl⟩ := he.zs
  exact ev_buildSlice (ps := [(0, y)]) (vs := [(0, v)]) (by simp [partvs, hy]) he.es hz hzl (by rw [Nat.one_mul]; exact he.small) (r := z.cells.toList) (by simp) (.cons hv hl (by rw [Nat.zero_mul]; exact lay_all (by rw [hl, hzl])) .nil)
/-- 'append(s, x)': the literal of one element, and the append. -/
theorem JO_append1 {C : Ctx} {ops : Array Oper} {rest : List Oper} {k : List KItem} {l : Env} {F : PH} {H : List Asrt} {d1 d2 : Nat} {U1 U2 : TypeId} {pos1 pos2 : String} {af1 af2 : Array Edge} {g1 g2 : Option (Nat × Bool)} {x y : Operand} {v yv : Value} {n : Nat} {xs vs : List Value} {K : Value → List Asrt}
    (hx : ∀ w, opv ((d1, w) :: l) x = some v) (hy : opv l y = some yv) (hv : VC yv vs) (hl : vs.length = size) (he : Elem C.P T E size bytes z) (h1 : Ones vs) (hb : (n + 1) * bytes ≤ 140737488355328)
    (hu : ∀ v', Upd (own v E size n xs) (own v' E size (n + 1) (xs ++ vs)) H (K v'))
    (hr1 : runs ops l ⟨some d1, .buildSlice T 1 #[(0, y)], U1, pos1, af1, g1⟩ = some true)
    (hr2 : ∀ w, runs ops ((d1, w) :: l) ⟨some d2, .call { callee := .builtin .append, args := #[x, .tmp d1], argTypes := #[T, T] }, U2, pos2, af2, g2⟩ = some true)
    (h : ∀ u w, JO C ops rest k ((d2, u) :: (d1, w) :: l) F (K u)) :
    JO C ops (⟨some d1, .buildSlice T 1 #[(0, y)], U1, pos1, af1, g1⟩ :: ⟨some d2, .call { callee := .builtin .append, args := #[x, .tmp d1], argTypes := #[T, T] }, U2, pos2, af2, g2⟩ :: rest) k l F H := by
  refine JO_e (ev_one hy hv hl he) hr1 ?_
  rintro w F' H' _ ⟨rfl, b, rfl, rfl⟩
  have hpos := Nat.le_of_ble_eq_true he.pos
  have hn : n + 1 ≤ (n + 1) * bytes := Nat.le_mul_of_pos_right _ hpos
  refine JO_e (ev_append (m := 1) (c := 1) (b := b) (off := 0) (K := fun v' => blk b E vs :: K v') (hx _) (by simp [opv, Env.get_cons]) he (Rdb.ofB (n := 0) .here (by simp)) (by rw [hl]; simp) h1 hb (by unfold maxLen; omega) (fun v' => .there (hu v'))) (hr2 _) ?_
  rintro u F' H' _ ⟨rfl, _, rfl⟩
  exact JO_weak (h u _) fun _ s => s.drop
end
/-! ### texts, bytes -/
def u8s (bs : List UInt8) : List Value := bs.map fun x => .int .u8 x.toNat
section
variable {P : Program} {l : Env} {F : PH} {H Hr : List Asrt} {d : Option Nat} {T T' U E : TypeId} {pos : String} {af : Array Edge} {g : Option (Nat × Bool)} {x y z y' z' : Operand}
theorem ev_index_str {s : ByteArray} {i n : Nat} {k : IntKind} {c : UInt8} (hx : opv l x = some (.string s)) (hy : opv l y = some (.int k (i : Int))) (ht : P.underlying T = some .string) (hi : s.data[i]? = some c) (hn : c.toNat = n) :
    Ev P ⟨d, .index T x y, U, pos, af, g⟩ l F H (.int .u8 (n : Int)) := by
  subst hn
  obtain ⟨hlt, hc⟩ := Array.getElem?_eq_some_iff.1 hi
  have := ev_index_string (F := F) (H := H) (d := d) (U := U) (pos := pos) (af := af) (g := g) (P := P) hx hy ht (i := i) hlt
  have e : s[i]'hlt = c := hc
  rw [e] at this
  exact this
theorem run_equal_bool (hu : P.underlying T = some .bool) (a b : Bool) (w : World) : (Op.equal T (.bool a) (.bool b)).run P w = .ok (a == b) w := by
  have h : ∀ n : Nat, (Op.equalIn (n + 1) T (.bool a) (.bool b)).run P w = .ok (a == b) w := fun n => by simp [Op.equalIn, run_underlying hu]
  exact h 9999
theorem ev_bool_eql {a b : Bool} (hx : opv l x = some (.bool a)) (hy : opv l y = some (.bool b)) (hu : P.underlying T = some .bool) : Ev P ⟨d, .binOp .eql T x y T', U, pos, af, g⟩ l F H (.bool (a == b)) := .of fun ρ hρ w _ => by
  have e1 := hρ _ _ hx; have e2 := hρ _ _ hy
  refine run_v (s := do eqGuard .eql T x y (ρ x) (ρ y); binOp .eql T (ρ x) (ρ y)) ?_
  rw [e1, e2]
  have hr := run_equal_bool (P := P) hu a b w
  simp [eqGuard, binOp, hr]
end
end Go.Proofs.YtjjjckmpkldgnaaGreatDoor
