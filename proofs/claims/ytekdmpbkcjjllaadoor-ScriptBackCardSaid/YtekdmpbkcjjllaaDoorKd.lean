/-
  The rules of operations on memory. Plain theorems over any program; no condition.
-/
import Derived.Test.YtekdmpbkcjjllaaDoorKc
namespace Go.Proofs.YtekdmpbkcjjllaaDoor
open Go.RowKit

/-! ### what is asked of the types' table -/
def fieldOff (P : Program) (S i : Nat) : Option Nat := match P.underlying S with
  | some (.struct fs) => match fs[i]? with
    | some ⟨_, t, off, _, _, _, _⟩ => match P.info? t with
      | some ⟨_, _, .succ _, _, _, _, _, _, _, _⟩ => some off
      | _ => none
    | _ => none
  | _ => none
/-- A slice's element type and its size. -/
def elemSize (P : Program) (T : TypeId) : Option (TypeId × Nat) := match P.underlying T with
  | some (.slice e) => match P.info? e with
    | some ⟨_, _, n, _, _, _, _, _, _, _⟩ => some (e, n)
    | none => none
  | _ => none
/-- A struct's (or an array's) size; a plain variable's. -/
def aggSize (P : Program) (T : TypeId) : Option Nat := match P.underlying T with
  | some (.struct _) => (match P.info? T with | some ⟨_, _, n, _, _, _, _, _, _, _⟩ => some n | none => none)
  | some (.array _ _) => (match P.info? T with | some ⟨_, _, n, _, _, _, _, _, _, _⟩ => some n | none => none)
  | _ => none
def plainB (P : Program) (T : TypeId) : Bool := match P.underlying T with
  | some (.struct _) => false
  | some (.array _ _) => false
  | some _ => (match P.info? T with | some ⟨_, _, 1, _, _, _, _, _, _, _⟩ => true | _ => false)
  | none => false
/-- The zero's cells. -/
def zeroCs (P : Program) (T : TypeId) : Option (List Value) := match P.info? T with
  | some ⟨_, _, _, _, _, _, _, some (.agg ⟨cs⟩), _, _⟩ => some cs
  | some ⟨_, _, _, _, _, _, _, some v, _, _⟩ => some [v]
  | _ => none
/-- A slice's element: its type, its size, the zero's cells, its bytes. -/
structure Elem (P : Program) (T E size bytes : Nat) (z : Value) : Prop where
  u : P.underlying T = some (.slice E)
  i : ∃ i, P.info? E = some i ∧ i.zero = some z ∧ i.size = size ∧ i.bytes = bytes ∧ z.cells.size = size ∧ 0 < size
  small : Nat.ble size 16777216 = true
  pos : Nat.ble 1 bytes = true
section
variable {P : Program} {l : Env} {F : PH} {H Hr : List Asrt} {d : Option Nat} {T T' U E : TypeId} {pos : String} {af : Array Edge} {g : Option (Nat × Bool)} {x y : Operand}
theorem run_v {s : Sem Value} {v : Value} {w w' : World} (h : s.run P w = .ok v w') : Sem.run P (do pure (Next.value (← s))) w = .ok (.value v) w' := by
  simp only [bind_pure_comp, Sem.run_map, h, Result.andThen_ok]
theorem run_u {s : Sem Unit} {w w' : World} (h : s.run P w = .ok () w') : Sem.run P (do s; pure Next.skip) w = .ok .skip w' := by
  rw [Sem.run_bind, h]; rfl
theorem run_typeInfo {i : TypeInfo} (h : P.info? T = some i) (w : World) : (typeInfo T).run P w = .ok i w := by simp [typeInfo, h, go_sem]
theorem run_newVar (v : Value) (w : World) : (newVar E v).run P w = .ok ⟨w.heap.size, 0, none⟩ (w.alloc (.cells v.cells E)) := by
  simp [newVar, newRow, go_sem]
theorem underlying_info {t : TypeId} {ds : TypeDesc} (h : P.underlying t = some ds) : ∃ i, P.info? t = some i := by
  unfold Program.underlying at h
  cases hi : P.info? t with
  | none => simp [hi] at h
  | some i => exact ⟨i, rfl⟩
theorem ev_fieldAddr {b off n i : Nat} (hx : opv l x = some (.pointer (some ⟨b, off, none⟩))) (hf : fieldOff P T i = some n) : Ev P ⟨d, .fieldAddr T x i, U, pos, af, g⟩ l F H (.pointer (some ⟨b, off + n, none⟩)) := .of fun ρ hρ w _ => by
  have e1 := hρ _ _ hx
  unfold fieldOff at hf
  split at hf
  · rename_i fs hu
    split at hf
    · rename_i nm t o e tg pk bo hfi
      split at hf
      · rename_i a1 a2 sz a4 a5 a6 a7 a8 a9 a10 hinf
        cases hf
        simp [execOp, e1, go_sem, Instr.fieldAt, run_underlying hu, hfi, Instr.sureAddr, fieldPlace, sizeOf, typeInfo, hinf, adr_add]
      · cases hf
    · cases hf
  · cases hf
theorem agg_isAgg {n : Nat} (h : aggSize P T = some n) : ∃ ds i, P.underlying T = some ds ∧ (match ds with | .struct _ | .array _ _ => true | _ => false) = true ∧ P.info? T = some i ∧ i.size = n := by
  unfold aggSize at h
  split at h
  · rename_i hu
    split at h
    · rename_i hi; cases h; exact ⟨_, _, hu, rfl, hi, rfl⟩
    · cases h
  · rename_i hu
    split at h
    · rename_i hi; cases h; exact ⟨_, _, hu, rfl, hi, rfl⟩
    · cases h
  · cases h
theorem plain_info (h : plainB P T = true) : ∃ ds i, P.underlying T = some ds ∧ (match ds with | .struct _ | .array _ _ => true | _ => false) = false ∧ P.info? T = some i ∧ i.size = 1 := by
  unfold plainB at h
  split at h
  · cases h
  · cases h
  · rename_i ds h1 h2 hu
    split at h
    · rename_i hi
      refine ⟨ds, _, hu, ?_, hi, rfl⟩
      cases ds <;> first | rfl | simp_all
    · cases h
  · cases h
theorem run_load_agg {n b off : Nat} {cs : List Value} {w : World} (h : aggSize P T = some n) (hc : Cells (ph w) b off cs) (hn : cs.length = n) : (loadVar T ⟨b, off, none⟩).run P w = .ok (.agg cs.toArray) w := by
  obtain ⟨ds, i, hu, ha, hi, hs⟩ := agg_isAgg h
  have hl := run_loadCells_list (P := P) w ⟨b, off, none⟩ cs hc.world
  subst hn
  rw [← hs] at hl
  simp only [loadCells] at hl
  cases ds <;> simp at ha <;> simp [loadVar, isAgg, run_underlying hu, go_sem, sizeOf, typeInfo, hi, hl]
theorem run_load_one {b off : Nat} {v : Value} {w : World} (h : plainB P T = true) (hc : Cells (ph w) b off [v]) : (loadVar T ⟨b, off, none⟩).run P w = .ok v w := by
  obtain ⟨ds, i, hu, ha, hi, hs⟩ := plain_info h
  have hl := cellF_ph.1 (hc 0 v rfl)
  simp only [Nat.add_zero] at hl
  cases ds <;> simp at ha <;> simp [loadVar, isAgg, run_underlying hu, go_sem, hl]
theorem ev_load_agg {n b off : Nat} {cs : List Value} (hx : opv l x = some (.pointer (some ⟨b, off, none⟩))) (h : aggSize P T = some n) (hc : Rdb F H b off cs) (hn : cs.length = n) : Ev P ⟨d, .load T x, U, pos, af, g⟩ l F H (.agg cs.toArray) := .of fun ρ hρ w hs => by
  have e1 := hρ _ _ hx
  exact run_v (s := Instr.loadAt T (ρ x)) (by rw [e1]; exact run_load_agg h (hc w hs) hn)
theorem ev_load {b off : Nat} {v : Value} (hx : opv l x = some (.pointer (some ⟨b, off, none⟩))) (h : plainB P T = true) (hc : Rdb F H b off [v]) : Ev P ⟨d, .load T x, U, pos, af, g⟩ l F H v := .of fun ρ hρ w hs => by
  have e1 := hρ _ _ hx
  exact run_v (s := Instr.loadAt T (ρ x)) (by rw [e1]; exact run_load_one h (hc w hs))
/-! what the call makes -/
theorem zeroCs_info {cs : List Value} (h : zeroCs P T = some cs) : ∃ i v, P.info? T = some i ∧ i.zero = some v ∧ v.cells = cs.toArray := by
  unfold zeroCs at h
  split at h
  · rename_i hi; cases h; exact ⟨_, _, hi, rfl, rfl⟩
  · rename_i v a9 a10 hv hi
    cases h
    refine ⟨_, _, hi, rfl, ?_⟩
    cases v <;> first | rfl | (exfalso; apply hv; rfl)
  · cases h
theorem ev_alloc {cs : List Value} (h : zeroCs P E = some cs) : Ev' P ⟨d, .alloc E, U, pos, af, g⟩ l F H fun v F' H' => F = F' ∧ ∃ b, v = .pointer (some ⟨b, 0, none⟩) ∧ H' = blk b E cs :: H := .of fun N a w ha hs => by
  obtain ⟨i, z, hi, hz, hc⟩ := zeroCs_info h
  refine ⟨.value (.pointer (some ⟨w.heap.size, 0, none⟩)), w.alloc (.cells cs.toArray E), _, F, blk w.heap.size E cs :: H, ?_, .inl rfl, Mild.alloc w _, PH.ler F, ⟨rfl, _, rfl, rfl⟩, hs.alloc _ _ rfl⟩
  refine run_v (s := Instr.alloc E true (.tuple #[])) ?_
  have h0 : (zeroValue E).run P w = .ok z w := by simp [zeroValue, typeInfo, hi, hz, go_sem]
  rw [← hc]
  simp [Instr.alloc, h0, run_newVar]
theorem ev_box {u : Value} {cs : List Value} (hx : opv l x = some u) (hv : VC u cs) : Ev' P ⟨d, .box E x, U, pos, af, g⟩ l F H fun v F' H' => F = F' ∧ ∃ b, v = .pointer (some ⟨b, 0, none⟩) ∧ H' = blk b E cs :: H := .of fun N a w ha hs => by
  have e1 := ha.opv hx
  refine ⟨.value (.pointer (some ⟨w.heap.size, 0, none⟩)), w.alloc (.cells cs.toArray E), _, F, blk w.heap.size E cs :: H, ?_, .inl rfl, Mild.alloc w _, PH.ler F, ⟨rfl, _, rfl, rfl⟩, hs.alloc _ _ rfl⟩
  refine run_v (s := Instr.box E (a.eval x)) ?_
  rw [e1, ← hv.eq]
  simp [Instr.box, run_newVar]
theorem setRow_ph {w : World} {b : Nat} {cs : Array Value} {E : TypeId} {fr : Nat × Nat} (h : w.heap[b]? = some (.cells cs E fr)) (c : Array Value) : ph (w.setRow b c) b = some (.cells c E fr) := setRow_heap w b cs c E fr h
theorem Mild.setRow (w : World) (b : Nat) (c : Array Value) : Mild w (w.setRow b c) := by
  unfold World.setRow
  exact ⟨rfl, rfl, rfl, by simp⟩
theorem Sat.setRow {b : Nat} {cs vs : List Value} {H' : List Asrt} {w : World} (s : Sat F H w) (u : Upd (blk b E cs) (blk b E vs) H H') : Sat F H' (w.setRow b vs.toArray) := by
  obtain ⟨h, R, hA, hd, hl, _, k⟩ := s.focus u
  have h1 : h = PH.one b (.cells cs.toArray E (0, 0)) := hA
  subst h1
  have hb : w.heap[b]? = some (.cells cs.toArray E (0, 0)) := hl b _ ((PH.le_r hd) b _ (PH.one_self _ _))
  have hR : R b = none := by
    rcases hd b with e | e
    · exact e
    · rw [PH.one_self] at e; cases e
  refine k _ _ rfl (PH.dj_one hR) (PH.un_le (fun c o e => ?_) (PH.one_le (setRow_ph hb _)))
  have hne : c ≠ b := fun ec => by subst ec; rw [hR] at e; cases e
  show (w.setRow b vs.toArray).heap[c]? = some o
  rw [setRow_other w b c _ hne]
  exact hl c o ((PH.le_l _ _) c o e)
theorem ev_store {b off n : Nat} {u : Value} {r vs s : List Value} {H' : List Asrt} (hx : opv l x = some (.pointer (some ⟨b, off, none⟩))) (hy : opv l y = some u) (hv : VC u vs) (ht : (P.info? T).map (·.size) = some n) (hn : vs.length = n)
    (hlay : Lay off vs r s) (h1 : Ones vs) (hu : Upd (blk b E r) (blk b E s) H H') : Ev' P ⟨d, .store T x y, U, pos, af, g⟩ l F H fun v F' H'' => F = F' ∧ v = undef ∧ H'' = H' := .of fun N a w ha hs => by
  have e1 := ha.opv hx
  have e2 := ha.opv hy
  obtain ⟨hs1, hs2⟩ := hlay.eq
  have hb : w.heap[b]? = some (.cells r.toArray E (0, 0)) := by
    obtain ⟨h, R, hA, hd, hl, _, _⟩ := hs.focus hu
    have h1 : h = PH.one b (.cells r.toArray E (0, 0)) := hA
    subst h1
    exact hl b _ ((PH.le_r hd) b _ (PH.one_self _ _))
  refine ⟨.skip, w.setRow b s.toArray, undef, F, H', ?_, .inr ⟨rfl, rfl⟩, Mild.setRow w b _, PH.ler F, ⟨rfl, rfl, rfl⟩, hs.setRow hu⟩
  have hrun := run_storeCells_at P b off E vs 0 r.toArray w hb (by simp; omega) h1
  simp only [Nat.add_zero, List.toList_toArray] at hrun
  rw [← hs1] at hrun
  cases hi : P.info? T with
  | none => rw [hi] at ht; cases ht
  | some i =>
    rw [hi] at ht
    have hsz : i.size = n := by simpa using ht
    refine run_u (s := Instr.storeAt T (a.eval x) (a.eval y)) ?_
    rw [e1, e2]
    show (storeVar T ⟨b, off, none⟩ u).run P w = _
    unfold storeVar
    rw [hv.eq]
    simp [sizeOf, typeInfo, hi, hsz, hn, hrun, run_typeInfo hi]
/-! lengths -/
theorem ev_len_slice {a : Option Addr} {n c : Nat} {E : TypeId} (hx : opv l x = some (.slice a n c)) (hu : P.underlying T = some (.slice E)) : Ev P ⟨d, .call { callee := .builtin .len, args := #[x], argTypes := #[T] }, U, pos, af, g⟩ l F H (.int .i64 n) := .of fun ρ hρ w _ => by
  simp [execOp, hρ _ _ hx, go_sem, resolve, invoke, builtin, Builtin.len_, run_underlying hu, goInt]
theorem ev_len_string {s : ByteArray} (hx : opv l x = some (.string s)) (hu : P.underlying T = some .string) : Ev P ⟨d, .call { callee := .builtin .len, args := #[x], argTypes := #[T] }, U, pos, af, g⟩ l F H (.int .i64 s.size) := .of fun ρ hρ w _ => by
  simp [execOp, hρ _ _ hx, go_sem, resolve, invoke, builtin, Builtin.len_, run_underlying hu, goInt]
theorem ev_cap_slice {a : Option Addr} {n c : Nat} {E : TypeId} (hx : opv l x = some (.slice a n c)) (hu : P.underlying T = some (.slice E)) : Ev P ⟨d, .call { callee := .builtin .cap, args := #[x], argTypes := #[T] }, U, pos, af, g⟩ l F H (.int .i64 c) := .of fun ρ hρ w _ => by
  simp [execOp, hρ _ _ hx, go_sem, resolve, invoke, builtin, Builtin.cap_, run_underlying hu, goInt]
theorem ev_min {k : IntKind} {m n : Int} (hx : opv l x = some (.int k m)) (hy : opv l y = some (.int k n)) {ts : Array TypeId} : Ev P ⟨d, .call { callee := .builtin .min, args := #[x, y], argTypes := ts }, U, pos, af, g⟩ l F H (.int k (min m n)) := .of fun ρ hρ w _ => by
  have e1 := hρ _ _ hx; have e2 := hρ _ _ hy
  by_cases h : n < m
  · have : min m n = n := by omega
    simp [execOp, e1, e2, go_sem, resolve, invoke, builtin, Builtin.min_, Builtin.min2, h, this]
  · have : min m n = m := by omega
    simp [execOp, e1, e2, go_sem, resolve, invoke, builtin, Builtin.min_, Builtin.min2, h, this]
theorem ev_max {k : IntKind} {m n : Int} (hx : opv l x = some (.int k m)) (hy : opv l y = some (.int k n)) {ts : Array TypeId} : Ev P ⟨d, .call { callee := .builtin .max, args := #[x, y], argTypes := ts }, U, pos, af, g⟩ l F H (.int k (max m n)) := .of fun ρ hρ w _ => by
  have e1 := hρ _ _ hx; have e2 := hρ _ _ hy
  by_cases h : m < n
  · have : max m n = n := by omega
    simp [execOp, e1, e2, go_sem, resolve, invoke, builtin, Builtin.max_, Builtin.max2, h, this]
  · have : max m n = m := by omega
    simp [execOp, e1, e2, go_sem, resolve, invoke, builtin, Builtin.max_, Builtin.max2, h, this]
/-! indexes -/
theorem ev_indexAddr {b off n c i size E : Nat} {k : IntKind} (hx : opv l x = some (.slice (some ⟨b, off, none⟩) n c)) (hy : opv l y = some (.int k (i : Int))) (ht : elemSize P T = some (E, size)) (hi : i < n) :
    Ev P ⟨d, .indexAddr T x y, U, pos, af, g⟩ l F H (.pointer (some ⟨b, off + i * size, none⟩)) := .of fun ρ hρ w _ => by
  have e1 := hρ _ _ hx; have e2 := hρ _ _ hy
  unfold elemSize at ht
  split at ht
  · rename_i e hu
    split at ht
    · rename_i hinf
      cases ht
      have h1 : (i : Int) < (n : Int) := by omega
      simp [execOp, e1, e2, go_sem, Instr.indexAt, asIntOf, run_underlying hu, sizeOf, typeInfo, hinf, h1, adr_add, hi]
    · cases ht
  · cases ht
theorem ev_index_string {s : ByteArray} {i : Nat} {k : IntKind} (hx : opv l x = some (.string s)) (hy : opv l y = some (.int k (i : Int))) (ht : P.underlying T = some .string) (hi : i < s.size) :
    Ev P ⟨d, .index T x y, U, pos, af, g⟩ l F H (.int .u8 (s[i]'hi).toNat) := .of fun ρ hρ w _ => by
  have e1 := hρ _ _ hx; have e2 := hρ _ _ hy
  have h1 : s[i]? = some (s[i]'hi) := by simp [hi]
  simp [execOp, e1, e2, go_sem, Instr.index, asIntOf, run_underlying ht, h1]
/-! a cut of a slice -/
theorem ev_slice_hi {a : Option Addr} {n c h size E : Nat} {k : IntKind} {z : Operand} (hx : opv l x = some (.slice a n c)) (hz : opv l z = some (.int k (h : Int))) (ht : elemSize P T = some (E, size)) (hh : h ≤ c) :
    Ev P ⟨d, .slice T x none (some z) none, U, pos, af, g⟩ l F H (.slice a h c) := .of fun ρ hρ w _ => by
  have e1 := hρ _ _ hx; have e2 := hρ _ _ hz
  unfold elemSize at ht
  split at ht
  · rename_i e hu
    split at ht
    · rename_i hinf
      cases ht
      have h1 : (h : Int) ≤ (c : Int) := by omega
      have h2 : a.map (fun x => x.add 0) = a := by cases a <;> simp [Addr.add]
      simp [execOp, e1, e2, go_sem, Instr.sliceAt, Instr.slice, run_underlying hu, Instr.sliceBounds, Instr.sliceBound, asIntOf, sizeOf, typeInfo, hinf, h1, hh, h2]
    · cases ht
  · cases ht
end
end Go.Proofs.YtekdmpbkcjjllaaDoor
