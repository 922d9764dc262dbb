/-
  Maps of the call's own: keys as plain data; made, looked up, updated, entries stored, deleted. Conditions are typed with each.
-/
import Derived.Test.YtekdmpbkcjjllaaDoorLa
import Derived.Test.YtekdmpbkcjjllaaDoorKz
import Derived.WideKeyRuns
import Derived.MapKept
namespace Go.Proofs.YtekdmpbkcjjllaaDoor
open Go.RowKit
set_option maxRecDepth 100000
/-- The first entry whose key is a. -/
def scanK {α : Type} [DecidableEq α] (a : α) : List (α × Value) → Nat → Option (Nat × Value)
  | [], _ => none
  | (k, v) :: r, i => if a = k then some (i, v) else scanK a r (i + 1)
/-- A key's type as plain data. -/
structure KeyT (P : Program) (kt : TypeId) (α : Type) [DecidableEq α] where
  val : α → Value
  chk : ∀ (b : Bool) (a : α) (w : World), (Instr.checkKey b 10000 kt (val a)).run P w = .ok () w
  find : ∀ (a : α) (M : List (α × Value)) (es : List MapEntry), es.map (fun e => (e.key, e.val)) = M.map (fun p => (val p.1, p.2)) → ∀ w, (Instr.findKey kt (val a) es).run P w = .ok (scanK a M 0) w
  same : ∀ a, Instr.sameBits 10000 (val a) (val a) = true
theorem checkKey_int {P : Program} {kt : TypeId} {k : IntKind} (hk : P.underlying kt = some (.int k)) (n : Nat) (b : Bool) (v : Value) (w : World) : (Instr.checkKey b (n + 1) kt v).run P w = .ok () w := by
  cases v <;> simp [Instr.checkKey, run_underlying hk]
/-- Whole numbers as keys. -/
def keyInt {P : Program} {kt : TypeId} {k : IntKind} (hk : P.underlying kt = some (.int k)) : KeyT P kt Int where
  val := fun n => .int k n
  chk := fun b a w => checkKey_int hk 9999 b _ w
  same := fun a => by simp [Instr.sameBits]
  find := by
    intro a M es h w
    have key : ∀ (M : List (Int × Value)) (es : List MapEntry) (i : Nat), es.map (fun e => (e.key, e.val)) = M.map (fun p => (Value.int k p.1, p.2)) → Instr.findNow (.int k) (.int k a) es i = some (scanK a M i) := by
      intro M
      induction M with
      | nil => intro es i h; cases es with
        | nil => rfl
        | cons e es => simp at h
      | cons p M ih =>
        intro es i h
        cases es with
        | nil => simp at h
        | cons e es =>
          simp only [List.map_cons, List.cons.injEq, Prod.mk.injEq] at h
          obtain ⟨⟨h1, h2⟩, h3⟩ := h
          obtain ⟨k', v'⟩ := p
          dsimp only at h1 h2
          simp only [Instr.findNow, scanK, h1, Instr.sameNow, if_true]
          by_cases hak : a = k'
          · subst hak; simp [h2]
          · have : (a == k') = false := by simpa using hak
            simp [this, hak, ih es (i + 1) h3]
    unfold Instr.findKey
    simp only [Sem.run_bind, run_underlying hk, Result.andThen_ok, key M es 0 h]
    rfl
theorem find_wide {P : Program} {kt : TypeId} {α : Type} [DecidableEq α] (val : α → Value) (hwide : (match P.underlying kt with | some (.array _ _) | some (.struct _) => true | _ => false) = true)
    (heq : ∀ (a b : α) (w : World), (Op.equal kt (val a) (val b)).run P w = .ok (decide (a = b)) w) (a : α) (M : List (α × Value)) (es : List MapEntry) (h : es.map (fun e => (e.key, e.val)) = M.map (fun p => (val p.1, p.2))) (w : World) :
    (Instr.findKey kt (val a) es).run P w = .ok (scanK a M 0) w := by
  rw [run_findKey_eq w hwide]
  have key : ∀ (M : List (α × Value)) (es : List MapEntry) (i : Nat), es.map (fun e => (e.key, e.val)) = M.map (fun p => (val p.1, p.2)) → (Instr.findAsking kt (val a) es i).run P w = .ok (scanK a M i) w := by
    intro M
    induction M with
    | nil => intro es i h; cases es with
      | nil => rfl
      | cons e es => simp at h
    | cons p M ih =>
      intro es i h
      cases es with
      | nil => simp at h
      | cons e es =>
        simp only [List.map_cons, List.cons.injEq, Prod.mk.injEq] at h
        obtain ⟨⟨h1, h2⟩, h3⟩ := h
        obtain ⟨k', v'⟩ := p
        dsimp only at h1 h2
        unfold Instr.findAsking
        simp only [Sem.run_bind, h1, heq, Result.andThen_ok, scanK]
        by_cases hak : a = k'
        · subst hak; simp [h2]
        · simp [hak, ih es (i + 1) h3]
  exact key M es 0 h
/-- Arrays of bytes as keys. -/
theorem checkKey_bytes {P : Program} {kt n e : Nat} (ht : arrOf P kt = some (n, e, 1)) (he : P.underlying e = some (.int .u8)) (b : Bool) (bs : List UInt8) (hl : bs.length = n) (w : World) (m : Nat) : (Instr.checkKey b (m + 2) kt (.agg (u8s bs).toArray)).run P w = .ok () w := by
  obtain ⟨hu, i, hi, hs⟩ := arrOf_info ht
  rw [Instr.checkKey]
  simp only [Sem.run_bind, run_underlying hu, Result.andThen_ok]
  simp only [Std.Legacy.Range.forIn_eq_forIn_range', Std.Legacy.Range.size, Nat.sub_zero, Nat.add_one_sub_one, Nat.div_one]
  have each : ∀ j ∈ List.range' 0 n, j < n := fun j hj => by simp at hj; omega
  generalize List.range' 0 n = is at each
  induction is with
  | nil => simp
  | cons j is ih =>
    have hj := each j (by simp)
    have hlt : j < bs.length := by omega
    have hg : (u8s bs)[j * 1]? = some (.int .u8 (bs[j].toNat : Int)) := by simp [u8s, hlt]
    have p1 := run_part_1 (cs := u8s bs) (off := j * 1) (T := e) (v := .int .u8 (bs[j].toNat : Int)) he rfl hg w
    have p2 := checkKey_int he m b (.int .u8 (bs[j].toNat : Int)) w
    simp only [List.forIn_cons, Sem.run_bind, run_sizeOf hi, hs, Result.andThen_ok, p1, p2, Sem.run_pure]
    exact ih (fun y hy => each y (by simp [hy]))
/-! a map of the call's own -/
def MpC {P : Program} {kt : TypeId} {α : Type} [DecidableEq α] (K : KeyT P kt α) (M : List (α × Value)) (es : Array MapEntry) (clock : Nat) : Prop :=
  es.toList.map (fun e => (e.key, e.val)) = M.map (fun p => (K.val p.1, p.2)) ∧ (∀ e ∈ es.toList, e.born < clock) ∧ (es.toList.map (·.born)).Nodup
def mp {P : Program} {kt : TypeId} {α : Type} [DecidableEq α] (K : KeyT P kt α) (b : Nat) (M : List (α × Value)) : Asrt := fun h => ∃ es clock, h = PH.one b (.map es clock) ∧ MpC K M es clock
/-- The same; the entry at place i was born at s. -/
def mpE {P : Program} {kt : TypeId} {α : Type} [DecidableEq α] (K : KeyT P kt α) (b : Nat) (M : List (α × Value)) (i : Nat) (s : Int) : Asrt := fun h => ∃ es clock, h = PH.one b (.map es clock) ∧ MpC K M es clock ∧ ∃ e, es.toList[i]? = some e ∧ (e.born : Int) = s
theorem mpE_mp {P : Program} {kt : TypeId} {α : Type} [DecidableEq α] {K : KeyT P kt α} {b : Nat} {M : List (α × Value)} {i : Nat} {s : Int} : ∀ h, mpE K b M i s h → mp K b M h := fun h ⟨es, c, e, hc, _⟩ => ⟨es, c, e, hc⟩
section
variable {α : Type} [DecidableEq α]
def getK (M : List (α × Value)) (a : α) : Option Value := (scanK a M 0).map (·.2)
/-- The place of a key. -/
def atK (M : List (α × Value)) (a : α) : Option Nat := (scanK a M 0).map (·.1)
def setK (M : List (α × Value)) (a : α) (v : Value) : List (α × Value) := match M with
  | [] => [(a, v)]
  | (k, u) :: r => if a = k then (k, v) :: r else (k, u) :: setK r a v
def delK (M : List (α × Value)) (a : α) : List (α × Value) := match M with
  | [] => []
  | (k, u) :: r => if a = k then r else (k, u) :: delK r a
theorem scanK_shift (a : α) : ∀ (M : List (α × Value)) (i : Nat), scanK a M i = (scanK a M 0).map fun p => (p.1 + i, p.2)
  | [], _ => rfl
  | (k, v) :: r, i => by
    unfold scanK
    by_cases h : a = k
    · rw [if_pos h, if_pos h]; simp
    · rw [if_neg h, if_neg h, scanK_shift a r (i + 1), scanK_shift a r (0 + 1)]
      generalize scanK a r 0 = q
      cases q with
      | none => rfl
      | some p => simp; omega
theorem getK_nil (a : α) : getK [] a = none := rfl
theorem scanK_cons (k : α) (v : Value) (r : List (α × Value)) (a : α) (i : Nat) : scanK a ((k, v) :: r) i = if a = k then some (i, v) else scanK a r (i + 1) := rfl
theorem getK_cons (k : α) (v : Value) (r : List (α × Value)) (a : α) : getK ((k, v) :: r) a = if a = k then some v else getK r a := by
  unfold getK
  rw [scanK_cons]
  by_cases h : a = k
  · rw [if_pos h, if_pos h]; rfl
  · rw [if_neg h, if_neg h, scanK_shift]
    generalize scanK a r 0 = q
    cases q <;> rfl
theorem getK_set (M : List (α × Value)) (a : α) (v : Value) (b : α) : getK (setK M a v) b = if b = a then some v else getK M b := by
  induction M with
  | nil => unfold setK; rw [getK_cons, getK_nil]
  | cons p r ih =>
    obtain ⟨k, u⟩ := p
    unfold setK
    by_cases h : a = k
    · subst h; rw [if_pos rfl, getK_cons, getK_cons]
      by_cases hb : b = a
      · rw [if_pos hb, if_pos hb]
      · rw [if_neg hb, if_neg hb, if_neg hb]
    · rw [if_neg h, getK_cons, getK_cons, ih]
      by_cases hk : b = k
      · subst hk; rw [if_pos rfl, if_neg (fun e => h e.symm), if_pos rfl]
      · rw [if_neg hk, if_neg hk]
/-- What an array of entries becomes, by the place found. -/
theorem scanK_some {a : α} : ∀ {M : List (α × Value)} {i : Nat} {v : Value}, scanK a M 0 = some (i, v) → M[i]? = some (a, v) ∧ ∀ u, setK M a u = M.set i (a, u) ∧ delK M a = M.eraseIdx i
  | [], _, _, h => by cases h
  | (k, u) :: r, i, v, h => by
    unfold scanK at h
    by_cases hk : a = k
    · rw [if_pos hk] at h
      cases h
      subst hk
      exact ⟨rfl, fun u => ⟨by unfold setK; rw [if_pos rfl]; rfl, by unfold delK; rw [if_pos rfl]; rfl⟩⟩
    · rw [if_neg hk, scanK_shift] at h
      cases hr : scanK a r 0 with
      | none => rw [hr] at h; cases h
      | some p =>
        rw [hr] at h
        cases h
        obtain ⟨h1, h2⟩ := scanK_some (i := p.1) (v := p.2) hr
        refine ⟨h1, fun u => ?_⟩
        obtain ⟨h3, h4⟩ := h2 u
        exact ⟨by unfold setK; rw [if_neg hk, h3]; rfl, by unfold delK; rw [if_neg hk, h4]; rfl⟩
theorem scanK_none {a : α} : ∀ {M : List (α × Value)}, scanK a M 0 = none → ∀ u, setK M a u = M ++ [(a, u)] ∧ delK M a = M
  | [], _, u => ⟨rfl, rfl⟩
  | (k, v) :: r, h, u => by
    unfold scanK at h
    by_cases hk : a = k
    · rw [if_pos hk] at h; cases h
    · rw [if_neg hk, scanK_shift] at h
      have hr : scanK a r 0 = none := by
        cases hr : scanK a r 0 with
        | none => rfl
        | some p => rw [hr] at h; cases h
      obtain ⟨h1, h2⟩ := scanK_none hr u
      exact ⟨by unfold setK; rw [if_neg hk, h1]; rfl, by unfold delK; rw [if_neg hk, h2]⟩
end
theorem run_getMap {P : Program} {w : World} {r : Nat} {es : Array MapEntry} {clock : Nat} (hb : w.heap[r]? = some (.map es clock)) : (getObj r).run P w = .ok (.map es clock) w := by simp [getObj, Sem.run, hb]
theorem run_setMap {P : Program} {w : World} {r : Nat} {es : Array MapEntry} {clock : Nat} (o : Obj) (hb : w.heap[r]? = some (.map es clock)) : (setObj r o).run P w = .ok () { w with heap := w.heap.setIfInBounds r o } := by simp [setObj, Sem.run, hb]
def mapOf (P : Program) (T : TypeId) : Option (TypeId × TypeId) := match P.underlying T with
  | some (.map k e) => some (k, e)
  | _ => none
theorem mapOf_u {P : Program} {T k e : TypeId} (h : mapOf P T = some (k, e)) : P.underlying T = some (.map k e) := by
  unfold mapOf at h
  split at h
  · rename_i hu; cases h; exact hu
  · cases h
/-- The zero of a map's elements. -/
def zeroV (P : Program) (T : TypeId) : Option Value := match P.info? T with
  | some ⟨_, _, _, _, _, _, _, z, _, _⟩ => z
  | none => none
theorem zeroV_run {P : Program} {T : TypeId} {z : Value} (h : zeroV P T = some z) (w : World) : (zeroValue T).run P w = .ok z w := by
  unfold zeroV at h
  split at h
  · rename_i hi; simp [zeroValue, typeInfo, hi, h, go_sem]
  · cases h
section
variable {P : Program} {l : Env} {F : PH} {H H' Hr : List Asrt} {d : Option Nat} {T U kt et : TypeId} {pos : String} {af : Array Edge} {g : Option (Nat × Bool)} {x y z : Operand} {α : Type} [DecidableEq α] {K : KeyT P kt α} {b : Nat} {M : List (α × Value)}
theorem ev_makeMap : Ev' P ⟨d, .makeMap T none, U, pos, af, g⟩ l F H fun v F' H' => F = F' ∧ ∃ b, v = .map (some b) ∧ H' = mp K b [] :: H := .of fun N a w ha hs => by
  refine ⟨.value (.map (some w.heap.size)), w.alloc (.map #[] 0), _, F, mp K w.heap.size [] :: H, ?_, .inl rfl, Mild.alloc w _, PH.ler F, ⟨rfl, _, rfl, rfl⟩, hs.alloc _ _ ⟨#[], 0, rfl, rfl, fun _ h => (by simp at h), List.nodup_nil⟩⟩
  exact run_v (s := Instr.makeMap T none) (by simp [Instr.makeMap, go_sem])
theorem ev_makeMapN {k : IntKind} {n : Int} (hx : opv l x = some (.int k n)) (ht : mapOf P T = some (kt, et)) : Ev' P ⟨d, .makeMap T (some x), U, pos, af, g⟩ l F H fun v F' H' => F = F' ∧ ∃ b, v = .map (some b) ∧ H' = mp K b [] :: H := .of fun N a w ha hs => by
  have e1 := ha.opv hx
  refine ⟨.value (.map (some w.heap.size)), w.alloc (.map #[] 0), _, F, mp K w.heap.size [] :: H, ?_, .inl rfl, Mild.alloc w _, PH.ler F, ⟨rfl, _, rfl, rfl⟩, hs.alloc _ _ ⟨#[], 0, rfl, rfl, fun _ h => (by simp at h), List.nodup_nil⟩⟩
  refine run_v (s := Instr.makeMap T (some (a.eval x))) ?_
  rw [e1]
  simp [Instr.makeMap, go_sem, run_underlying (mapOf_u ht), asInt]
/-- What stands in the block. -/
theorem mp_obj {w : World} (hs : Sat F H w) (p : Pick (mp K b M) H Hr) : ∃ es clock, w.heap[b]? = some (.map es clock) ∧ MpC K M es clock := by
  obtain ⟨_, ⟨h, r, ⟨es, c, rfl, hc⟩, hr, hhr, rfl⟩, hd, hl⟩ := hs.pick p
  exact ⟨es, c, hl b _ ((PH.le_r hd) b _ ((PH.le_l _ _) b _ (PH.one_self _ _))), hc⟩
theorem ev_lookup_ok {a : α} {zv : Value} {r : Value} (hx : opv l x = some (.map (some b))) (hy : opv l y = some (K.val a)) (ht : mapOf P T = some (kt, et)) (hz : zeroV P et = some zv) (p : Pick (mp K b M) H Hr)
    (hr : r = (match getK M a with | some v => .tuple #[v, .bool true] | none => .tuple #[zv, .bool false])) : Ev P ⟨d, .lookup T x y true, U, pos, af, g⟩ l F H r := .of fun ρ hρ w hs => by
  have e1 := hρ _ _ hx; have e2 := hρ _ _ hy
  obtain ⟨es, c, hb, hc⟩ := mp_obj hs p
  have hf := K.find a M es.toList hc.1 w
  subst hr
  refine run_v (s := Instr.lookup T (ρ x) (ρ y) true) ?_
  rw [e1, e2]
  unfold Instr.lookup getK
  cases hsc : scanK a M 0 with
  | none => simp [run_underlying (mapOf_u ht), run_getMap hb, go_sem, K.chk, hf, hsc, zeroV_run hz]
  | some q => simp [run_underlying (mapOf_u ht), run_getMap hb, go_sem, K.chk, hf, hsc]
theorem ev_lookup {a : α} {zv : Value} {r : Value} (hx : opv l x = some (.map (some b))) (hy : opv l y = some (K.val a)) (ht : mapOf P T = some (kt, et)) (hz : zeroV P et = some zv) (p : Pick (mp K b M) H Hr)
    (hr : r = (getK M a).getD zv) : Ev P ⟨d, .lookup T x y false, U, pos, af, g⟩ l F H r := .of fun ρ hρ w hs => by
  have e1 := hρ _ _ hx; have e2 := hρ _ _ hy
  obtain ⟨es, c, hb, hc⟩ := mp_obj hs p
  have hf := K.find a M es.toList hc.1 w
  subst hr
  refine run_v (s := Instr.lookup T (ρ x) (ρ y) false) ?_
  rw [e1, e2]
  unfold Instr.lookup getK
  cases hsc : scanK a M 0 with
  | none => simp [run_underlying (mapOf_u ht), run_getMap hb, go_sem, K.chk, hf, hsc, zeroV_run hz]
  | some q => simp [run_underlying (mapOf_u ht), run_getMap hb, go_sem, K.chk, hf, hsc]
theorem ev_len_map (hx : opv l x = some (.map (some b))) (ht : mapOf P T = some (kt, et)) (p : Pick (mp K b M) H Hr) : Ev P ⟨d, .call { callee := .builtin .len, args := #[x], argTypes := #[T] }, U, pos, af, g⟩ l F H (.int .i64 M.length) := .of fun ρ hρ w hs => by
  have e1 := hρ _ _ hx
  obtain ⟨es, c, hb, hc⟩ := mp_obj hs p
  have hl : es.size = M.length := by have := congrArg List.length hc.1; simpa using this
  simp [execOp, e1, go_sem, resolve, invoke, builtin, Builtin.len_, run_underlying (mapOf_u ht), run_getMap hb, goInt, hl]
end
/-! what changes a map -/
theorem set_same {β : Type} {L : List β} {i : Nat} {x : β} (h : L[i]? = some x) : L.set i x = L := by
  apply List.ext_getElem?
  intro j
  rw [List.getElem?_set]
  by_cases hij : i = j
  · subst hij
    obtain ⟨hlt, _⟩ := List.getElem?_eq_some_iff.1 h
    rw [if_pos rfl, if_pos hlt, h]
  · rw [if_neg hij]
theorem map_erase {β γ : Type} (f : β → γ) : ∀ (L : List β) (i : Nat), (L.eraseIdx i).map f = (L.map f).eraseIdx i
  | [], _ => rfl
  | _ :: _, 0 => rfl
  | x :: L, i + 1 => by simp [map_erase f L i]
theorem mpC_set {P : Program} {kt : TypeId} {α : Type} [DecidableEq α] {K : KeyT P kt α} {M : List (α × Value)} {es : Array MapEntry} {c i : Nat} {a : α} {v u : Value} (hc : MpC K M es c) (hs : scanK a M 0 = some (i, v)) : MpC K (setK M a u) (es.modify i fun e => { e with key := K.val a, val := u }) c := by
  obtain ⟨h1, h2, h3⟩ := hc
  obtain ⟨hM, hset⟩ := scanK_some hs
  rw [(hset u).1]
  have hlen : es.toList.length = M.length := by have := congrArg List.length h1; simpa using this
  have hi : i < M.length := (List.getElem?_eq_some_iff.1 hM).1
  have hmod : (es.modify i fun e => { e with key := K.val a, val := u }).toList = es.toList.set i { (es.toList[i]'(by omega)) with key := K.val a, val := u } := by
    rw [Array.toList_modify]
    apply List.ext_getElem?
    intro j
    rw [List.getElem?_modify, List.getElem?_set]
    by_cases hij : i = j
    · subst hij
      have hlt : i < es.size := by simp at hlen; omega
      simp [hlt]
    · simp [hij]
  refine ⟨?_, ?_, ?_⟩
  · rw [hmod, List.map_set, h1, List.map_set]
  · intro e he
    rw [hmod] at he
    rcases List.mem_or_eq_of_mem_set he with he | he
    · exact h2 e he
    · subst he
      show (es.toList[i]'(by omega)).born < c
      exact h2 _ (List.getElem_mem _)
  · rw [hmod, List.map_set]
    show ((es.toList.map MapEntry.born).set i (es.toList[i]'(by omega)).born).Nodup
    rw [set_same (by rw [List.getElem?_map, List.getElem?_eq_getElem (by omega)]; rfl)]
    exact h3
theorem mpC_push {P : Program} {kt : TypeId} {α : Type} [DecidableEq α] {K : KeyT P kt α} {M : List (α × Value)} {es : Array MapEntry} {c : Nat} {a : α} {u : Value} (hc : MpC K M es c) : MpC K (M ++ [(a, u)]) (es.push { key := K.val a, val := u, born := c }) (c + 1) := by
  obtain ⟨h1, h2, h3⟩ := hc
  refine ⟨by simp [h1], ?_, ?_⟩
  · intro e he
    simp only [Array.toList_push, List.mem_append, List.mem_singleton] at he
    rcases he with he | rfl
    · have := h2 e he; omega
    · exact Nat.lt_succ_self _
  · simp only [Array.toList_push, List.map_append, List.map_cons, List.map_nil]
    rw [List.nodup_append]
    refine ⟨h3, by simp, ?_⟩
    intro x hx y hy
    simp at hy
    obtain ⟨e, he, rfl⟩ := List.mem_map.1 hx
    have := h2 e he
    omega
theorem mpC_del {P : Program} {kt : TypeId} {α : Type} [DecidableEq α] {K : KeyT P kt α} {M : List (α × Value)} {es : Array MapEntry} {c i : Nat} (hc : MpC K M es c) : MpC K (M.eraseIdx i) (es.eraseIdxIfInBounds i) c := by
  obtain ⟨h1, h2, h3⟩ := hc
  have he : (es.eraseIdxIfInBounds i).toList = es.toList.eraseIdx i := by simp
  refine ⟨?_, ?_, ?_⟩
  · rw [he, map_erase, h1, map_erase]
  · intro e hm
    rw [he] at hm
    exact h2 e (List.mem_of_mem_eraseIdx hm)
  · rw [he, map_erase]
    exact h3.sublist (List.eraseIdx_sublist _ _)
section
variable {P : Program} {l : Env} {F : PH} {H H' Hr : List Asrt} {d : Option Nat} {T U kt et : TypeId} {pos : String} {af : Array Edge} {g : Option (Nat × Bool)} {x y z : Operand} {α : Type} [DecidableEq α] {K : KeyT P kt α} {b : Nat} {M M' : List (α × Value)}
/-- The map's block, put anew. -/
theorem Sat.putMap {A A' : Asrt} {w : World} (s : Sat F H w) (u : Upd A A' H H') (hA : ∀ h, A h → ∃ es c, h = PH.one b (.map es c)) : ∃ es c, A (PH.one b (.map es c)) ∧ w.heap[b]? = some (.map es c) ∧ b < w.heap.size ∧ ∀ es' c', A' (PH.one b (.map es' c')) → Sat F H' { w with heap := w.heap.setIfInBounds b (.map es' c') } := by
  obtain ⟨h, R, hAh, hd, hl, _, k⟩ := s.focus u
  obtain ⟨es, c, rfl⟩ := hA h hAh
  have hb : w.heap[b]? = some (.map es c) := hl b _ ((PH.le_r hd) b _ (PH.one_self _ _))
  have hlt : b < w.heap.size := (Array.getElem?_eq_some_iff.1 hb).1
  have hR : R b = none := by
    rcases hd b with e | e
    · exact e
    · rw [PH.one_self] at e; cases e
  refine ⟨es, c, hAh, hb, hlt, fun es' c' hA' => k _ _ hA' (PH.dj_one hR) (PH.un_le (fun j o e => ?_) (PH.one_le ?_))⟩
  · have hne : j ≠ b := fun ec => by subst ec; rw [hR] at e; cases e
    have := hl j o ((PH.le_l _ _) j o e)
    show (w.heap.setIfInBounds b (.map es' c'))[j]? = some o
    rw [Array.getElem?_setIfInBounds_ne (Ne.symm hne)]
    exact this
  · show (w.heap.setIfInBounds b (.map es' c'))[b]? = some _
    rw [Array.getElem?_setIfInBounds_self_of_lt hlt]
theorem keyStays (K : KeyT P kt α) {a : α} {es : Array MapEntry} {i : Nat} {v : Value} (h1 : es.toList.map (fun e => (e.key, e.val)) = M.map (fun p => (K.val p.1, p.2))) (hs : scanK a M 0 = some (i, v)) (w : World) : (Instr.keyThatStays (((es[i]?).map (·.key)).getD (K.val a)) (K.val a)).run P w = .ok (K.val a) w ∧ ∃ e, es[i]? = some e ∧ e.key = K.val a ∧ e.val = v := by
  obtain ⟨hM, _⟩ := scanK_some hs
  have hi := (List.getElem?_eq_some_iff.1 hM).1
  have hlen : es.size = M.length := by have := congrArg List.length h1; simpa using this
  have hg : es.toList[i]? = some (es.toList[i]'(by simp; omega)) := List.getElem?_eq_getElem _
  have h2 : (es.toList.map (fun e => (e.key, e.val)))[i]? = some (K.val a, v) := by rw [h1, List.getElem?_map, hM]; rfl
  rw [List.getElem?_map, hg] at h2
  simp only [Option.map_some, Option.some.injEq, Prod.mk.injEq] at h2
  have hg' : es[i]? = some (es.toList[i]'(by simp; omega)) := by rw [← hg]; simp
  refine ⟨?_, _, hg', h2.1, h2.2⟩
  rw [hg']
  simp only [Option.map_some, Option.getD_some]
  rw [h2.1]
  unfold Instr.keyThatStays
  rw [if_pos (K.same a)]
  rfl
theorem ev_mapUpdate {a : α} {u : Value} (hx : opv l x = some (.map (some b))) (hy : opv l y = some (K.val a)) (hz : opv l z = some u) (ht : mapOf P T = some (kt, et)) (hu : Upd (mp K b M) (mp K b (setK M a u)) H H') :
    Ev' P ⟨d, .mapUpdate T x y z, U, pos, af, g⟩ l F H fun v F' H'' => F = F' ∧ v = undef ∧ H'' = H' := .of fun N A w ha hs => by
  have e1 := ha.opv hx; have e2 := ha.opv hy; have e3 := ha.opv hz
  obtain ⟨es, c, ⟨es1, c1, he, hc⟩, hb, hlt, k⟩ := hs.putMap hu (fun h ⟨es, c, e, _⟩ => ⟨es, c, e⟩)
  have hee : Obj.map es c = Obj.map es1 c1 := by have := congrFun he b; rw [PH.one_self, PH.one_self] at this; exact Option.some.inj this
  cases hee
  have hf := K.find a M es.toList hc.1 w
  cases hsc : scanK a M 0 with
  | none =>
    have hM := ((scanK_none hsc) u).1
    refine ⟨.skip, _, undef, F, H', ?_, .inr ⟨rfl, rfl⟩, Mild.putObj w b (.map (es.push { key := K.val a, val := u, born := c }) (c + 1)), PH.ler F, ⟨rfl, rfl, rfl⟩, k _ _ ⟨_, _, rfl, by rw [hM]; exact mpC_push hc⟩⟩
    refine run_u (s := Instr.mapUpdate T (A.eval x) (A.eval y) (A.eval z)) ?_
    rw [e1, e2, e3]
    unfold Instr.mapUpdate
    simp [run_underlying (mapOf_u ht), run_getMap hb, go_sem, K.chk, hf, hsc, run_setMap _ hb]
  | some q =>
    obtain ⟨i, v⟩ := q
    obtain ⟨hst, e0, he0, _, _⟩ := keyStays K hc.1 hsc w
    refine ⟨.skip, _, undef, F, H', ?_, .inr ⟨rfl, rfl⟩, Mild.putObj w b (.map (es.modify i fun e => { e with key := K.val a, val := u }) c), PH.ler F, ⟨rfl, rfl, rfl⟩, k _ _ ⟨_, _, rfl, mpC_set hc hsc⟩⟩
    refine run_u (s := Instr.mapUpdate T (A.eval x) (A.eval y) (A.eval z)) ?_
    rw [e1, e2, e3]
    unfold Instr.mapUpdate
    rw [he0] at hst
    simp only [Option.map_some, Option.getD_some] at hst
    simp [run_underlying (mapOf_u ht), run_getMap hb, go_sem, K.chk, hf, hsc, run_setMap _ hb, he0, hst]
theorem ev_delete {a : α} (hx : opv l x = some (.map (some b))) (hy : opv l y = some (K.val a)) (ht : mapOf P T = some (kt, et)) (hu : Upd (mp K b M) (mp K b (delK M a)) H H') {T2 : TypeId} :
    Ev' P ⟨d, .call { callee := .builtin .delete, args := #[x, y], argTypes := #[T, T2] }, U, pos, af, g⟩ l F H fun v F' H'' => F = F' ∧ v = .tuple #[] ∧ H'' = H' := .of fun N A w ha hs => by
  have e1 := ha.opv hx; have e2 := ha.opv hy
  obtain ⟨es, c, ⟨es1, c1, he, hc⟩, hb, hlt, k⟩ := hs.putMap hu (fun h ⟨es, c, e, _⟩ => ⟨es, c, e⟩)
  have hee : Obj.map es c = Obj.map es1 c1 := by have := congrFun he b; rw [PH.one_self, PH.one_self] at this; exact Option.some.inj this
  cases hee
  have hf := K.find a M es.toList hc.1 w
  cases hsc : scanK a M 0 with
  | none =>
    have hM := ((scanK_none hsc) undef).2
    refine ⟨.value (.tuple #[]), _, .tuple #[], F, H', ?_, .inl rfl, Mild.putObj w b (.map es c), PH.ler F, ⟨rfl, rfl, rfl⟩, k _ _ ⟨_, _, rfl, by rw [hM]; exact hc⟩⟩
    generalize A.eval = ρ at e1 e2 ⊢
    simp only [execOp, resolve, List.map_toArray, List.map_cons, List.map_nil, e1, e2, pure_bind, invoke, builtin]
    refine run_v ?_
    unfold Builtin.delete_
    simp [run_underlying (mapOf_u ht), run_getMap hb, go_sem, K.chk, hf, hsc, run_setMap _ hb]
  | some q =>
    obtain ⟨i, v⟩ := q
    have hM := ((scanK_some hsc).2 undef).2
    refine ⟨.value (.tuple #[]), _, .tuple #[], F, H', ?_, .inl rfl, Mild.putObj w b (.map (es.eraseIdxIfInBounds i) c), PH.ler F, ⟨rfl, rfl, rfl⟩, k _ _ ⟨_, _, rfl, by rw [hM]; exact mpC_del hc⟩⟩
    generalize A.eval = ρ at e1 e2 ⊢
    simp only [execOp, resolve, List.map_toArray, List.map_cons, List.map_nil, e1, e2, pure_bind, invoke, builtin]
    refine run_v ?_
    unfold Builtin.delete_
    simp [run_underlying (mapOf_u ht), run_getMap hb, go_sem, K.chk, hf, hsc, run_setMap _ hb]
/-- 'm[k] op= ..' takes the entry first: the value that stands there, and when it was born. -/
theorem ev_mapEntry {a : α} {zv v0 : Value} {i0 : Nat} (hx : opv l x = some (.map (some b))) (hy : opv l y = some (K.val a)) (ht : mapOf P T = some (kt, et)) (hz : zeroV P et = some zv) (hv : v0 = (getK M a).getD zv) (hi : i0 = (atK M a).getD M.length)
    (hM : M' = setK M a v0) {H'' : Int → List Asrt} (hu : ∀ s, Upd (mp K b M) (mpE K b M' i0 s) H (H'' s)) :
    Ev' P ⟨d, .mapEntry T x y, U, pos, af, g⟩ l F H fun v F' H1 => F = F' ∧ ∃ s, v = .tuple #[v0, .int .i64 s] ∧ H1 = H'' s := .of fun N A w ha hs => by
  have e1 := ha.opv hx; have e2 := ha.opv hy
  obtain ⟨es, c, ⟨es1, c1, he, hc⟩, hb, hlt, _⟩ := hs.putMap (hu 0) (fun h ⟨es, c, e, _⟩ => ⟨es, c, e⟩)
  have hee : Obj.map es c = Obj.map es1 c1 := by have := congrFun he b; rw [PH.one_self, PH.one_self] at this; exact Option.some.inj this
  cases hee
  have hlen : es.toList.length = M.length := by have := congrArg List.length hc.1; simpa using this
  have hf := K.find a M es.toList hc.1 w
  cases hsc : scanK a M 0 with
  | none =>
    have hv' : v0 = zv := by rw [hv]; unfold getK; rw [hsc]; rfl
    have hi' : i0 = M.length := by rw [hi]; unfold atK; rw [hsc]; rfl
    subst hv'
    have hM' := ((scanK_none hsc) v0).1
    obtain ⟨_, _, _, _, _, k⟩ := hs.putMap (hu c) (fun h ⟨es, c, e, _⟩ => ⟨es, c, e⟩)
    refine ⟨.value (.tuple #[v0, goInt c]), _, _, F, H'' c, ?_, .inl rfl, Mild.putObj w b (.map (es.push { key := K.val a, val := v0, born := c }) (c + 1)), PH.ler F, ⟨rfl, _, rfl, rfl⟩, k _ _ ⟨_, _, rfl, by rw [hM, hM']; exact mpC_push hc, ⟨K.val a, v0, c⟩, ?_, rfl⟩⟩
    · refine run_v (s := Instr.mapEntry T (A.eval x) (A.eval y)) ?_
      rw [e1, e2]
      unfold Instr.mapEntry
      simp [run_underlying (mapOf_u ht), run_getMap hb, go_sem, K.chk, hf, hsc, run_setMap _ hb, zeroV_run hz]
    · rw [hi', ← hlen, Array.toList_push, List.getElem?_append_right (Nat.le_refl _)]; simp
  | some q =>
    obtain ⟨i, v⟩ := q
    have hv' : v0 = v := by rw [hv]; unfold getK; rw [hsc]; rfl
    have hi' : i0 = i := by rw [hi]; unfold atK; rw [hsc]; rfl
    subst hv' hi'
    obtain ⟨hst, e0, he0, hk0, hw0⟩ := keyStays K hc.1 hsc w
    obtain ⟨_, _, _, _, _, k⟩ := hs.putMap (hu e0.born) (fun h ⟨es, c, e, _⟩ => ⟨es, c, e⟩)
    have hmm : (es.modify i0 fun e => { e with key := K.val a }) = es.modify i0 fun e => { e with key := K.val a, val := v0 } := by
      apply Array.ext'
      rw [Array.toList_modify, Array.toList_modify]
      apply List.ext_getElem?
      intro j
      rw [List.getElem?_modify, List.getElem?_modify]
      by_cases hij : i0 = j
      · subst hij
        have : es.toList[i0]? = some e0 := by simpa using he0
        simp [this, hw0]
      · simp [hij]
    refine ⟨.value (.tuple #[v0, goInt e0.born]), _, _, F, H'' e0.born, ?_, .inl rfl, Mild.putObj w b (.map (es.modify i0 fun e => { e with key := K.val a }) c), PH.ler F, ⟨rfl, _, rfl, rfl⟩, k (es.modify i0 fun e => { e with key := K.val a }) c ⟨_, _, rfl, by rw [hM, hmm]; exact mpC_set hc hsc, { e0 with key := K.val a }, ?_, rfl⟩⟩
    · refine run_v (s := Instr.mapEntry T (A.eval x) (A.eval y)) ?_
      rw [e1, e2]
      unfold Instr.mapEntry
      rw [he0] at hst
      simp only [Option.map_some, Option.getD_some] at hst
      simp [run_underlying (mapOf_u ht), run_getMap hb, go_sem, K.chk, hf, hsc, run_setMap _ hb, he0, hst, Value.int]
    · have : es.toList[i0]? = some e0 := by simpa using he0
      rw [Array.toList_modify, List.getElem?_modify]
      simp [this]
theorem ev_entryStore {i : Nat} {a : α} {v0 u : Value} {s : Int} (hx : opv l x = some (.map (some b))) (hy : opv l y = some (.int .i64 s)) (hz : opv l z = some u) (hi : scanK a M 0 = some (i, v0)) (hu : Upd (mpE K b M i s) (mp K b (setK M a u)) H H') :
    Ev' P ⟨d, .entryStore T x y z, U, pos, af, g⟩ l F H fun v F' H'' => F = F' ∧ v = undef ∧ H'' = H' := .of fun N A w ha hs => by
  have e1 := ha.opv hx; have e2 := ha.opv hy; have e3 := ha.opv hz
  obtain ⟨es, c, ⟨es1, c1, he, hc, e0, he0, hb0⟩, hb, hlt, k⟩ := hs.putMap hu (fun h ⟨es, c, e, _⟩ => ⟨es, c, e⟩)
  have hee : Obj.map es c = Obj.map es1 c1 := by have := congrFun he b; rw [PH.one_self, PH.one_self] at this; exact Option.some.inj this
  cases hee
  have he0' : es[i]? = some e0 := by simpa using he0
  obtain ⟨hst, e1', he1, hk1, hw1⟩ := keyStays K hc.1 hi w
  rw [he0'] at he1
  cases he1
  have hfind : es.findIdx? (fun e => (e.born : Int) == s) = some i := by
    rw [Array.findIdx?_eq_some_iff_getElem]
    obtain ⟨hlt', hge⟩ := Array.getElem?_eq_some_iff.1 he0'
    refine ⟨hlt', by rw [hge]; simpa using hb0, fun j hj => ?_⟩
    have hjs : j < es.size := by omega
    have hne := List.pairwise_iff_getElem.1 hc.2.2 j i (by simpa using hjs) (by simpa using hlt') hj
    simp only [List.getElem_map, Array.getElem_toList] at hne
    intro hbad
    have h3 : (es[j].born : Int) = s := by simpa using hbad
    rw [hge] at hne
    exact hne (by omega)
  have hmm : (es.modify i fun e => { e with val := u }) = es.modify i fun e => { e with key := K.val a, val := u } := by
    apply Array.ext'
    rw [Array.toList_modify, Array.toList_modify]
    apply List.ext_getElem?
    intro j
    rw [List.getElem?_modify, List.getElem?_modify]
    by_cases hij : i = j
    · subst hij
      simp [he0, hk1]
    · simp [hij]
  refine ⟨.skip, _, undef, F, H', ?_, .inr ⟨rfl, rfl⟩, Mild.putObj w b (.map (es.modify i fun e => { e with val := u }) c), PH.ler F, ⟨rfl, rfl, rfl⟩, k (es.modify i fun e => { e with val := u }) c ⟨_, _, rfl, by rw [hmm]; exact mpC_set hc hi⟩⟩
  refine run_u (s := Instr.entryStore T (A.eval x) (A.eval y) (A.eval z)) ?_
  rw [e1, e2, e3]
  unfold Instr.entryStore
  simp [run_getMap hb, go_sem, asInt, hfind, run_setMap _ hb]
end
/-- In any order. -/
theorem Star.perm {H H' : List Asrt} (p : H.Perm H') : ∀ {r : PH}, Star H r → Star H' r := by
  induction p with
  | nil => exact fun h => h
  | cons A _ ih => exact fun ⟨h1, h2, ha, hs, hd, e⟩ => ⟨h1, h2, ha, ih hs, hd, e⟩
  | swap A B l => exact fun h => h.pick (.there .here)
  | trans _ _ ih1 ih2 => exact fun h => ih2 (ih1 h)
theorem Sat.perm {F : PH} {H H' : List Asrt} {w : World} (p : H.Perm H') (s : Sat F H w) : Sat F H' w := let ⟨r, hr, hd, hl⟩ := s; ⟨r, hr.perm p, hd, hl⟩
/-- What stands between is taken to the front. -/
theorem Sat.front {F : PH} {A B C : List Asrt} {w : World} (s : Sat F (A ++ (B ++ C)) w) : Sat F (B ++ (A ++ C)) w := s.perm (List.perm_append_comm_assoc A B C)
theorem Ev.sub {P : Program} {o : Oper} {l : Env} {F F' : PH} {H H' : List Asrt} {v : Value} (e : Ev P o l F' H' v) (h : ∀ w, Sat F H w → Sat F' H' w) : Ev P o l F H v := by
  unfold Ev at *
  exact fun N a w ha hs => e N a w ha (h w hs)
theorem Sat.ofE {P : Program} {kt : TypeId} {α : Type} [DecidableEq α] {K : KeyT P kt α} {b i : Nat} {s : Int} {M : List (α × Value)} {F : PH} {H Hr : List Asrt} {w : World} (p : Pick (mpE K b M i s) H Hr) (h : Sat F H w) : Sat F (mp K b M :: Hr) w := by
  obtain ⟨r, ⟨h1, h2, ha, hs, hd, e⟩, h3, h4⟩ := h.pick p
  exact ⟨r, ⟨h1, h2, mpE_mp _ ha, hs, hd, e⟩, h3, h4⟩
theorem ev_lookupE {P : Program} {l : Env} {F : PH} {H Hr : List Asrt} {d : Option Nat} {T U kt et : TypeId} {pos : String} {af : Array Edge} {g : Option (Nat × Bool)} {x y : Operand} {α : Type} [DecidableEq α] {K : KeyT P kt α} {b i : Nat} {s : Int} {M : List (α × Value)} {a : α} {zv : Value} {r : Value} (hx : opv l x = some (.map (some b))) (hy : opv l y = some (K.val a)) (ht : mapOf P T = some (kt, et)) (hz : zeroV P et = some zv) (p : Pick (mpE K b M i s) H Hr)
    (hr : r = (getK M a).getD zv) : Ev P ⟨d, .lookup T x y false, U, pos, af, g⟩ l F H r := Ev.sub (ev_lookup hx hy ht hz .here hr) fun _ h => h.ofE p
/-- The end of a function without results. -/
theorem J_fin {P : Program} {fn : Func} {N : Nat} {w0 : World} {l : Env} {F F0 : PH} {H X : List Asrt} {Q : Value → PH → List Asrt → Prop} (hres : fn.results = #[]) (H' : List Asrt) (hH : ∀ w, Sat F H w → Sat F (H' ++ X) w) (hF : F0.le F) (hQ : Q (.tuple #[]) F H') :
    J ⟨P, fn, Post w0 F0 X Q, N, w0⟩ [] l F H := by
  unfold J
  intro a w ha hm hs
  exact ⟨ha.defers, _, results_run ha hs (rs := []) (vs := []) (by simp [hres]) .nil, ⟨_, F, H', rfl, hF, hQ, hm, hH w hs⟩⟩
/-- The first n in the order js. -/
theorem Sat.pm {F : PH} {H : List Asrt} {w : World} (s : Sat F H w) (n : Nat) (js : List Nat) (hn : (H.take n).length = n) (h : (List.range n).isPerm js = true) : Sat F (js.map (fun i => (H.take n).getD i (fun h => h = PH.emp)) ++ H.drop n) w := by
  refine s.perm ?_
  have e : (List.range n).map (fun i => (H.take n).getD i (fun h => h = PH.emp)) = H.take n := by
    apply List.ext_getElem?
    intro i
    rw [List.getElem?_map]
    by_cases hi : i < n
    · have h2 : i < (H.take n).length := by omega
      rw [List.getElem?_range hi, List.getElem?_eq_getElem h2]
      simp only [Option.map_some, List.getD_eq_getElem?_getD, List.getElem?_eq_getElem h2, Option.getD_some]
    · rw [List.getElem?_eq_none (by simp; omega), List.getElem?_eq_none (by omega)]
      rfl
  have p := (List.isPerm_iff.1 h).map (fun i => (H.take n).getD i (fun h => h = PH.emp))
  rw [e] at p
  have := p.append_right (H.drop n)
  rwa [List.take_append_drop] at this
theorem Ev'.mono' {P : Program} {o : Oper} {l : Env} {F : PH} {H : List Asrt} {Q Q' : Value → PH → List Asrt → Prop} (h : Ev' P o l F H Q) (hq : ∀ v F' H', Q v F' H' → ∃ H'', Q' v F' H'' ∧ ∀ w, Sat F' H' w → Sat F' H'' w) : Ev' P o l F H Q' := .of fun N a w ha hs => by
  obtain ⟨nx, w', v, F', H', h1, h2, h3, h4, h5, h6⟩ := h.out N a w ha hs
  obtain ⟨H'', h7, h8⟩ := hq v F' H' h5
  exact ⟨nx, w', v, F', H'', h1, h2, h3, h4, h7, h8 w' h6⟩
/-- An empty slice is made. -/
theorem ev_mt {P : Program} {l : Env} {F : PH} {H : List Asrt} {d : Option Nat} {T U E : TypeId} {pos : String} {af : Array Edge} {gd : Option (Nat × Bool)} {size bytes_ : Nat} {zv : Value} (he : Elem P T E size bytes_ zv) : Ev' P ⟨d, .buildSlice T 0 #[], U, pos, af, gd⟩ l F H fun u F' H' => F = F' ∧ (∃ b, u = .slice (some ⟨b, 0, none⟩) 0 0) ∧ H' = own u E size 0 [] :: H := by
  obtain ⟨hz, hzl⟩ := he.zs
  refine (ev_buildSlice (n := 0) (ps := []) (vs := []) rfl he.es hz hzl (by simp) (r := []) (by simp) .nil).mono' ?_
  rintro v F' H' ⟨rfl, b, rfl, rfl⟩
  refine ⟨_, ⟨rfl, ⟨b, rfl⟩, rfl⟩, fun w s => ?_⟩
  obtain ⟨_, ⟨h, r, h1, hr, hhr, rfl⟩, hd, hl⟩ := s
  exact ⟨_, ⟨h, r, ⟨by simp, .inr ⟨b, 0, _, rfl, h1, Nat.le_refl _, (by unfold maxLen; omega), by simp, by simp⟩⟩, hr, hhr, rfl⟩, hd, hl⟩
/-- Cells put ahead of others, and behind others. -/
theorem layM : ∀ {vs zs : List Value} (r : List Value), vs.length = zs.length → Lay 0 vs (zs ++ r) (vs ++ r)
  | [], [], _, _ => .nil
  | v :: vs, z :: zs, r, h => .put (layM r (by simpa using h))
theorem layP : ∀ (p : List Value) {i : Nat} {vs r s : List Value}, Lay i vs r s → Lay (p.length + i) vs (p ++ r) (p ++ s)
  | [], i, _, _, _, h => by rw [List.length_nil, Nat.zero_add]; exact h
  | x :: p, i, vs, r, s, h => by
    have := Lay.skip (u := x) (layP p h)
    rw [List.length_cons, show p.length + 1 + i = p.length + i + 1 from by omega]
    exact this
theorem Sat.drop2 {F : PH} {A B : Asrt} {X : List Asrt} {w : World} (s : Sat F (A :: B :: X) w) : Sat F (A :: X) w := (s.perm (.swap B A X)).drop
end Go.Proofs.YtekdmpbkcjjllaaDoor
