/-
  Rules of operations, fifth part: what may be read of a slice, whoever owns it; appends of whole slices, onto new memory; texts and bytes; arrays; make. Plain theorems over any program; no condition.
-/
import Derived.Test.YtekdmpbkcjjllaaDoorKk
import Derived.Deep.AppendSrc
import Derived.Laws.BytesArg
import Derived.Laws.MakeOwn
namespace Go.Proofs.YtekdmpbkcjjllaaDoor
open Go.RowKit

/-- A slice value that reads as the cells cs, by F or by what the call owns. -/
def RdS (F : PH) (H : List Asrt) (size : Nat) (v : Value) (n : Nat) (cs : List Value) : Prop :=
  cs.length = n * size ∧ ∃ a c, v = .slice a n c ∧ n ≤ c ∧ (0 < n → ∃ b off, a = some ⟨b, off, none⟩ ∧ Rdb F H b off cs)
theorem SliceV.rds {F : PH} {H : List Asrt} {size n : Nat} {v : Value} {cs : List Value} (h : SliceV F size v n cs) : RdS F H size v n cs := by
  obtain ⟨h1, a, c, hv, hn, h2⟩ := h
  exact ⟨h1, a, c, hv, hn, fun h0 => let ⟨b, off, ha, hc⟩ := h2 h0; ⟨b, off, ha, Rdb.ofF hc⟩⟩
theorem RdS.blk {F : PH} {H Hr : List Asrt} {E b off n c size : Nat} {r cs : List Value} (p : Pick (blk b E r) H Hr) (hl : cs.length = n * size) (hr : (r.drop off).take cs.length = cs) (hn : n ≤ c) :
    RdS F H size (.slice (some ⟨b, off, none⟩) n c) n cs := ⟨hl, _, _, rfl, hn, fun _ => ⟨b, off, rfl, Rdb.ofB (n := 0) p hr⟩⟩
/-- What the call owns may be read. -/
theorem RdS.own {F : PH} {H Hr : List Asrt} {E n c size : Nat} {a : Option Addr} {xs : List Value} (p : Pick (own (.slice a n c) E size n xs) H Hr) (hn : n ≤ c) (hl : xs.length = n * size) (ha : 0 < n → ∃ b, a = some ⟨b, 0, none⟩) : RdS F H size (.slice a n c) n xs := by
  refine ⟨hl, a, c, rfl, hn, fun h0 => ?_⟩
  obtain ⟨b, rfl⟩ := ha h0
  exact ⟨b, 0, rfl, own_rdb p⟩
theorem RdS.at {F : PH} {H : List Asrt} {size n c : Nat} {a : Option Addr} {cs : List Value} (h : RdS F H size (.slice a n c) n cs) {w : World} (hs : Sat F H w) (h0 : 0 < n) : ∃ b off, a = some ⟨b, off, none⟩ ∧ ∀ j u, cs[j]? = some u → w.cell? ((⟨b, off, none⟩ : Addr).add j) = some u := by
  obtain ⟨_, a', c', e, _, h2⟩ := h
  cases e
  obtain ⟨b, off, ha, hc⟩ := h2 h0
  exact ⟨b, off, ha, (hc w hs).world⟩
section
variable {P : Program} {l : Env} {F : PH} {H Hr H' : List Asrt} {d : Option Nat} {T T' U E : TypeId} {pos : String} {af : Array Edge} {gd : Option (Nat × Bool)} {x y z y' z' : Operand} {size bytes : Nat} {zv : Value}
theorem run_append_zero {t e ty : TypeId} {i : TypeInfo} (ht : P.underlying t = some (.slice e)) (hi : P.info? e = some i) (base a : Option Addr) (n cap c : Nat) (h : n ≤ cap) (w : World) :
    (Builtin.append_ #[t, t] ty #[.slice base n cap, .slice a 0 c]).run P w = .ok (.slice base n cap) w := by
  cases a <;> cases base <;> simp [Builtin.append_, run_underlying ht, sizeOf, typeInfo, hi, Builtin.lenOf, Builtin.firstCells, h, loadCells, loadCellsFrom, storeCells, go_sem]
theorem src_of {e' : TypeId} {w : World} {m : Nat} {v : Value} {news : List Value} (hk : P.underlying T = some (.slice e')) (h : RdS F H size v m news) (hs : Sat F H w) (h1 : Ones news) : Src P size T v m news w := by
  have h' := h
  obtain ⟨hl, a, c, rfl, hn, hc⟩ := h
  by_cases h0 : 0 < m
  · obtain ⟨b, off, rfl, hw⟩ := h'.at hs h0
    exact Src.ofSlice w hk _ _ _ _ hl hw h1
  · have hm : m = 0 := by omega
    subst hm
    have hnil : news = [] := List.eq_nil_of_length_eq_zero (by simpa using hl)
    subst hnil
    cases a with
    | none => exact Src.ofNil w hk c
    | some ad => exact Src.ofSlice w hk ad 0 c [] (by simp) (fun j u e => by simp at e) h1
/-- 'append(s, t...)': s the call's own, t whatever may be read. -/
theorem ev_append_s {v sv : Value} {n m : Nat} {xs news : List Value} {K : Value → List Asrt} (hx : opv l x = some v) (hy : opv l y = some sv) (he : Elem P T E size bytes zv) (hr : RdS F H size sv m news) (h1 : Ones news)
    (hb : (n + m) * bytes ≤ 140737488355328) (hu : ∀ v', Upd (own v E size n xs) (own v' E size (n + m) (xs ++ news)) H (K v')) :
    Ev' P ⟨d, .call { callee := .builtin .append, args := #[x, y], argTypes := #[T, T] }, U, pos, af, gd⟩ l F H fun u F' H' => F = F' ∧ (u = .slice none 0 0 ↔ v = .slice none 0 0 ∧ m = 0) ∧ H' = K u := by
  have hpos := Nat.le_of_ble_eq_true he.pos
  have hnm : n + m ≤ (n + m) * bytes := Nat.le_mul_of_pos_right _ hpos
  by_cases h0 : 0 < m
  · obtain ⟨hl, a, c, rfl, hn, hc⟩ := hr
    obtain ⟨b, off, rfl, hcc⟩ := hc h0
    exact ev_append hx hy he hcc hl h1 hb (by unfold maxLen; omega) hu
  · have hm : m = 0 := by omega
    subst hm
    obtain ⟨hl, a, c, rfl, hn, hc⟩ := hr
    have hnil : news = [] := List.eq_nil_of_length_eq_zero (by simpa using hl)
    subst hnil
    refine .of fun N A w ha hs => ?_
    obtain ⟨h, R, ⟨hlen, hA⟩, hd, hle, _, k⟩ := hs.focus (hu v)
    have hform : ∃ base cap, v = .slice base n cap ∧ n ≤ cap := by
      rcases hA with ⟨e, e2, _⟩ | ⟨g, cap, cur, e, _, h2, _⟩
      · subst e2; exact ⟨_, _, e, Nat.le_refl _⟩
      · exact ⟨_, _, e, h2⟩
    obtain ⟨base, cap, rfl, hcap⟩ := hform
    have e1 := ha.opv hx; have e2 := ha.opv hy
    have hu' := he.u
    obtain ⟨i, hi, _⟩ := he.i
    refine ⟨.value (.slice base n cap), w, .slice base n cap, F, K (.slice base n cap), ?_, .inl rfl, Mild.refl w, PH.ler F, ⟨rfl, by simp, rfl⟩, ?_⟩
    · generalize A.eval = ρ at e1 e2 ⊢
      simp only [execOp, resolve, List.map_toArray, List.map_cons, List.map_nil, e1, e2, pure_bind, invoke, builtin]
      exact run_v (run_append_zero hu' hi base a n cap c hcap w)
    · exact k h w ⟨by simpa using hlen, by simpa using hA⟩ hd hle
/-- 'append(s, t...)' where there is no room in s: a new row. -/
theorem ev_append_fresh {a : Option Addr} {c n m : Nat} {sv : Value} {xs news : List Value} (hx : opv l x = some (.slice a n c)) (hy : opv l y = some sv) (he : Elem P T E size bytes zv) (hr0 : RdS F H size (.slice a n c) n xs) (hr : RdS F H size sv m news) (h1 : Ones news)
    (hg : c < n + m) (hb : (n + m) * bytes ≤ 140737488355328) :
    Ev' P ⟨d, .call { callee := .builtin .append, args := #[x, y], argTypes := #[T, T] }, U, pos, af, gd⟩ l F H fun u F' H' => F = F' ∧ u ≠ .slice none 0 0 ∧ H' = own u E size (n + m) (xs ++ news) :: H := .of fun N A w ha hs => by
  obtain ⟨hu1, ⟨i, hi, hz, hsz, hby, hzs, h0⟩, _, hbp⟩ := he
  have hpos := Nat.le_of_ble_eq_true hbp
  have hnm : n + m ≤ (n + m) * bytes := Nat.le_mul_of_pos_right _ hpos
  subst hsz; subst hby
  have e1 := ha.opv hx; have e2 := ha.opv hy
  have hsrc := src_of (T := T) hu1 hr hs h1
  have hl0 : xs.length = n * i.size := hr0.1
  have hold : (Builtin.firstCells i.size n (.slice a n c)).run P w.drew = .ok xs.toArray w.drew := by
    by_cases hn0 : 0 < n
    · obtain ⟨b, off, rfl, hw⟩ := hr0.at hs hn0
      exact run_firstCells_some w.drew i.size n _ n c xs hl0 (by simpa using hw)
    · have hn : n = 0 := by omega
      subst hn
      have hnil : xs = [] := List.eq_nil_of_length_eq_zero (by simpa using hl0)
      subst hnil
      cases a with
      | none => exact run_firstCells_none w.drew i.size 0 0 c
      | some ad => exact run_firstCells_some w.drew i.size 0 ad 0 c [] (by simp) (fun j u e => by simp at e)
  have hrun := run_append_grow_src (P := P) w T T U E i zv hu1 hi hz a n c xs hold sv m news hsrc hg (by omega) (growslice_fits hg hb)
  refine ⟨.value (.slice (some ⟨w.heap.size, 0, none⟩) (n + m) (grownCap w (n + m) c E)), _, .slice (some ⟨w.heap.size, 0, none⟩) (n + m) (grownCap w (n + m) c E), F, _, ?_, .inl rfl, (Mild.drew w).trans (Mild.alloc w.drew (.cells ((xs ++ news).toArray ++ Builtin.zeroCells zv.cells (grownCap w (n + m) c E - (n + m))) E)), PH.ler F, ⟨rfl, by simp, rfl⟩, Sat.alloc (w := w.drew) hs _ _ ?_⟩
  · generalize A.eval = ρ at e1 e2 ⊢
    simp only [execOp, resolve, List.map_toArray, List.map_cons, List.map_nil, e1, e2, pure_bind, invoke, builtin]
    exact run_v hrun
  · have hlen : (xs ++ news).length = (n + m) * i.size := by rw [List.length_append, hl0, hr.1, Nat.add_mul]
    have hge := grownCap_ge w (n + m) c E
    have hcm : grownCap w (n + m) c E ≤ maxLen := grownCap_le_maxLen w (n + m) c E (by unfold maxLen; omega)
    refine own_mk (g := w.heap.size) (c := grownCap w (n + m) c E) hlen hge hcm ?_ ?_
    · simp only [Array.size_append, List.size_toArray, size_zeroCells, hzs, hlen, ← Nat.add_mul]
      congr 1
      omega
    · simp only [Array.toList_append]
      rw [← hlen]
      exact List.take_left
/-! texts and bytes -/
def strOf (bs : List UInt8) : ByteArray := ⟨bs.toArray⟩
theorem strOf_size (bs : List UInt8) : (strOf bs).size = bs.length := by simp [strOf, ByteArray.size]
theorem strOf_toList (bs : List UInt8) : (strOf bs).toList = bs := by
  rw [ByteArray.toList_eq] <;> simp [strOf]
theorem u8s_nums (bs : List UInt8) : u8s bs = (bs.map fun b => ((b.toNat : Nat) : Int)).map (Value.int .u8) := by simp [u8s]
theorem ev_bytes_string {e : TypeId} {bs : List UInt8} {v : Value} {n : Nat} (hx : opv l x = some v) (hr : RdS F H 1 v n (u8s bs)) (hu : P.underlying T = some (.slice e)) (he : P.underlying e = some (.int .u8)) (hd : P.underlying T' = some .string) :
    Ev P ⟨d, .convert T T' x, U, pos, af, gd⟩ l F H (.string (strOf bs)) := .of fun ρ hρ w hs => by
  have e1 := hρ _ _ hx
  have hr' := hr
  obtain ⟨hl, a, c, rfl, hn, hc⟩ := hr
  refine run_v (s := convert T T' (ρ x)) ?_
  rw [e1]
  have hlen : bs.length = n := by simpa [u8s] using hl
  by_cases h0 : 0 < n
  · obtain ⟨b, off, rfl, hw⟩ := hr'.at hs h0
    have := run_convert_bytes_arg (P := P) w T e hu he b off n c (bs.map fun b => ((b.toNat : Nat) : Int)) (by simpa using hlen) (fun i hi => by
      have hlt : i < bs.length := by omega
      have := hw i (.int .u8 (bs[i].toNat : Int)) (by simp [u8s, hlt])
      rw [adr_add] at this
      simpa [hlt] using this) T' hd
    rw [this]
    simp [strOfNums, strOf]
    apply List.map_id''
    intro b
    simp
  · have hm : n = 0 := by omega
    subst hm
    have hnil : bs = [] := List.eq_nil_of_length_eq_zero hlen
    subst hnil
    cases a with
    | none => rw [run_convert_bytes_nil w T e hu he 0 c T' hd]; rfl
    | some ad =>
      rw [run_convert_bytes_string w T T' e _ 0 c hu he hd, run_bytesToString w ad 0 c [] (by simp [loadCells, loadCellsFrom, go_sem])]
      rfl
end
end Go.Proofs.YtekdmpbkcjjllaaDoor
