/-
  Rules of operations, sixth part: arrays; cells written in a row of the call's own; make; conversions between texts and bytes that make memory. Plain theorems over any program; no condition.
-/
import Derived.Test.YtekdmpbkcjjllaaDoorKl
import Derived.Lib.ConvBytes
namespace Go.Proofs.YtekdmpbkcjjllaaDoor
open Go.RowKit

/-- An array's length, its element, the element's size. -/
def arrOf (P : Program) (T : TypeId) : Option (Nat × TypeId × Nat) := match P.underlying T with
  | some (.array n e) => match P.info? e with
    | some ⟨_, _, sz, _, _, _, _, _, _, _⟩ => some (n, e, sz)
    | none => none
  | _ => none
theorem arrOf_info {P : Program} {T : TypeId} {n E size : Nat} (h : arrOf P T = some (n, E, size)) : P.underlying T = some (.array n E) ∧ ∃ i, P.info? E = some i ∧ i.size = size := by
  unfold arrOf at h
  split at h
  · rename_i hu
    split at h
    · rename_i hi; cases h; exact ⟨hu, _, hi, rfl⟩
    · cases h
  · cases h
theorem lay_set : ∀ {i : Nat} {r : List Value} (v : Value), i < r.length → Lay i [v] r (r.set i v)
  | 0, u :: r, v, _ => .put .nil
  | i + 1, u :: r, v, h => .skip (lay_set v (by simpa using h))
theorem lay_at : ∀ {i : Nat} {vs r : List Value}, i + vs.length ≤ r.length → Lay i vs r (r.take i ++ vs ++ r.drop (i + vs.length))
  | 0, [], r, _ => by simpa using Lay.nil
  | 0, v :: vs, [], h => by simp at h
  | 0, v :: vs, u :: r, h => by
    have := lay_at (i := 0) (vs := vs) (r := r) (by simp at h ⊢; omega)
    simpa using Lay.put this
  | i + 1, vs, [], h => by simp at h
  | i + 1, vs, u :: r, h => by
    have := lay_at (i := i) (vs := vs) (r := r) (by simp at h; omega)
    have e : i + 1 + vs.length = (i + vs.length) + 1 := by omega
    rw [e]
    simpa using Lay.skip this
section
variable {P : Program} {l : Env} {F : PH} {H Hr H' : List Asrt} {d : Option Nat} {T T' U E : TypeId} {pos : String} {af : Array Edge} {gd : Option (Nat × Bool)} {x y z y' z' : Operand} {size bytes : Nat} {zv : Value}
theorem ev_indexAddr_arr {b off len i : Nat} {k : IntKind} (hx : opv l x = some (.pointer (some ⟨b, off, none⟩))) (hy : opv l y = some (.int k (i : Int))) (ht : arrOf P T = some (len, E, size)) (hi : i < len) :
    Ev P ⟨d, .indexAddr T x y, U, pos, af, gd⟩ l F H (.pointer (some ⟨b, off + i * size, none⟩)) := .of fun ρ hρ w _ => by
  have e1 := hρ _ _ hx; have e2 := hρ _ _ hy
  obtain ⟨hu, j, hj, rfl⟩ := arrOf_info ht
  have h1 : (i : Int) < (len : Int) := by omega
  simp [execOp, e1, e2, go_sem, Instr.indexAt, asIntOf, run_underlying hu, Instr.sureAddr, sizeOf, typeInfo, hj, h1, adr_add, hi]
theorem ev_slice_arr_lo {b off len lo : Nat} {k : IntKind} (hx : opv l x = some (.pointer (some ⟨b, off, none⟩))) (hz : opv l z = some (.int k (lo : Int))) (ht : arrOf P T = some (len, E, size)) (h1 : lo < len) :
    Ev P ⟨d, .slice T x (some z) none none, U, pos, af, gd⟩ l F H (.slice (some ⟨b, off + lo * size, none⟩) (len - lo) (len - lo)) := .of fun ρ hρ w _ => by
  have e1 := hρ _ _ hx; have e2 := hρ _ _ hz
  obtain ⟨hu, j, hj, rfl⟩ := arrOf_info ht
  have h2 : (lo : Int) ≤ (len : Int) := by omega
  have h3 : ¬ len = lo := by omega
  have h4 : lo ≤ len := by omega
  simp [execOp, e1, e2, go_sem, Instr.sliceAt, run_underlying hu, Instr.sureAddr, Instr.sliceBounds, Instr.sliceBound, asIntOf, sizeOf, typeInfo, hj, h2, h3, h4, adr_add]
theorem ev_slice_arr_hi {b off len hi : Nat} {k : IntKind} (hx : opv l x = some (.pointer (some ⟨b, off, none⟩))) (hz : opv l z = some (.int k (hi : Int))) (ht : arrOf P T = some (len, E, size)) (h1 : hi ≤ len) :
    Ev P ⟨d, .slice T x none (some z) none, U, pos, af, gd⟩ l F H (.slice (some ⟨b, off, none⟩) hi len) := .of fun ρ hρ w _ => by
  have e1 := hρ _ _ hx; have e2 := hρ _ _ hz
  obtain ⟨hu, j, hj, rfl⟩ := arrOf_info ht
  have h2 : (hi : Int) ≤ (len : Int) := by omega
  simp [execOp, e1, e2, go_sem, Instr.sliceAt, run_underlying hu, Instr.sureAddr, Instr.sliceBounds, Instr.sliceBound, asIntOf, sizeOf, typeInfo, hj, h2, h1, adr_add]
theorem ev_slice_arr {b off len : Nat} (hx : opv l x = some (.pointer (some ⟨b, off, none⟩))) (ht : arrOf P T = some (len, E, size)) :
    Ev P ⟨d, .slice T x none none none, U, pos, af, gd⟩ l F H (.slice (some ⟨b, off, none⟩) len len) := .of fun ρ hρ w _ => by
  have e1 := hρ _ _ hx
  obtain ⟨hu, j, hj, rfl⟩ := arrOf_info ht
  simp [execOp, e1, go_sem, Instr.sliceAt, run_underlying hu, Instr.sureAddr, Instr.sliceBounds, Instr.sliceBound, asIntOf, sizeOf, typeInfo, hj, adr_add]
/-- Cells written in a row of the call's own. -/
theorem ev_store_own {b off n c m : Nat} {u : Value} {xs ys vs : List Value} (hx : opv l x = some (.pointer (some ⟨b, off, none⟩))) (hy : opv l y = some u) (hv : VC u vs) (ht : (P.info? T).map (·.size) = some m) (hn : vs.length = m)
    (hlay : Lay off vs xs ys) (h1 : Ones vs) (hu : Upd (own (.slice (some ⟨b, 0, none⟩) n c) E size n xs) (own (.slice (some ⟨b, 0, none⟩) n c) E size n ys) H H') :
    Ev' P ⟨d, .store T x y, U, pos, af, gd⟩ l F H fun v F' H'' => F = F' ∧ v = undef ∧ H'' = H' := .of fun N a w ha hs => by
  have e1 := ha.opv hx
  have e2 := ha.opv hy
  obtain ⟨hs1, hs2⟩ := hlay.eq
  obtain ⟨cur, hb, hlen, hnc, hcm, hcs, htk, k⟩ := own_block hs hu
  have hnsz : n * size ≤ c * size := Nat.mul_le_mul_right _ hnc
  refine ⟨.skip, w.setRow b (cur.toList.take off ++ vs ++ cur.toList.drop (off + vs.length)).toArray, undef, F, H', ?_, .inr ⟨rfl, rfl⟩, Mild.setRow w b _, PH.ler F, ⟨rfl, rfl, rfl⟩, k _ (own_mk ?_ hnc hcm ?_ ?_)⟩
  · have hrun := run_storeCells_at P b off E vs 0 cur w hb (by simp [hcs]; omega) h1
    simp only [Nat.add_zero] at hrun
    cases hi : P.info? T with
    | none => rw [hi] at ht; cases ht
    | some i =>
      rw [hi] at ht
      have hsz : i.size = m := by simpa using ht
      refine run_u (s := Instr.storeAt T (a.eval x) (a.eval y)) ?_
      rw [e1, e2]
      show (storeVar T ⟨b, off, none⟩ u).run P w = _
      unfold storeVar
      rw [hv.eq]
      simp [sizeOf, typeInfo, hi, hsz, hn, hrun, run_typeInfo hi]
  · rw [hs1]; simp; omega
  · simp; rw [hcs]; omega
  · simp only []
    rw [hs1, ← htk]
    rw [← htk] at hs2
    simp only [List.length_take, Array.length_toList] at hs2
    apply List.ext_getElem?
    intro j
    simp only [List.getElem?_take, List.getElem?_append, List.length_take, List.length_append, Array.length_toList, List.getElem?_drop, List.length_drop]
    grind
/-! make -/
theorem ev_make {k k' : IntKind} {c : Nat} (hx : opv l x = some (.int k 0)) (hy : opv l y = some (.int k' (c : Int))) (he : Elem P T E size bytes zv) (hb : bytes * c ≤ 281474976710656) :
    Ev' P ⟨d, .makeSlice T x y, U, pos, af, gd⟩ l F H fun u F' H' => F = F' ∧ (∃ b, u = .slice (some ⟨b, 0, none⟩) 0 c) ∧ H' = own u E size 0 [] :: H := .of fun N A w ha hs => by
  obtain ⟨hu1, ⟨i, hi, hz, hsz, hby, hzs, h0⟩, _, hbp⟩ := he
  have hpos := Nat.le_of_ble_eq_true hbp
  have hnm : c ≤ bytes * c := Nat.le_mul_of_pos_left _ hpos
  subst hsz; subst hby
  have e1 := ha.opv hx; have e2 := ha.opv hy
  have hb' : (i.bytes : Int) * (c : Int) ≤ 281474976710656 := by
    have h : ((i.bytes * c : Nat) : Int) ≤ 281474976710656 := by omega
    rwa [Int.natCast_mul] at h
  have hrun := run_make (P := P) w T E i zv hu1 hi hz k k' 0 c (Int.le_refl _) (by omega) hb' (by omega)
  simp only [Int.toNat_zero, Int.toNat_natCast] at hrun
  refine ⟨.value (.slice (some ⟨w.heap.size, 0, none⟩) 0 c), _, _, F, _, ?_, .inl rfl, Mild.alloc w (.cells (madeCells zv.cells (c * i.size)) E), PH.ler F, ⟨rfl, ⟨_, rfl⟩, rfl⟩, Sat.alloc hs _ _ (own_mk (by simp) (Nat.zero_le _) (by unfold maxLen; omega) (size_madeCells _ _) (by simp))⟩
  generalize A.eval = ρ at e1 e2 ⊢
  refine run_v (s := Instr.makeSlice T (ρ x) (ρ y)) ?_
  rw [e1, e2]; exact hrun
theorem ev_make_full {k k' : IntKind} {c : Nat} (hx : opv l x = some (.int k (c : Int))) (hy : opv l y = some (.int k' (c : Int))) (he : Elem P T E size bytes zv) (hb : bytes * c ≤ 281474976710656) :
    Ev' P ⟨d, .makeSlice T x y, U, pos, af, gd⟩ l F H fun u F' H' => F = F' ∧ (∃ b, u = .slice (some ⟨b, 0, none⟩) c c) ∧ H' = own u E size c (List.replicate c zv.cells.toList).flatten :: H := .of fun N A w ha hs => by
  obtain ⟨hu1, ⟨i, hi, hz, hsz, hby, hzs, h0⟩, _, hbp⟩ := he
  have hpos := Nat.le_of_ble_eq_true hbp
  have hnm : c ≤ bytes * c := Nat.le_mul_of_pos_left _ hpos
  subst hsz; subst hby
  have e1 := ha.opv hx; have e2 := ha.opv hy
  have hb' : (i.bytes : Int) * (c : Int) ≤ 281474976710656 := by
    have h : ((i.bytes * c : Nat) : Int) ≤ 281474976710656 := by omega
    rwa [Int.natCast_mul] at h
  have hrun := run_make (P := P) w T E i zv hu1 hi hz k k' c c (by omega) (by omega) hb' (by omega)
  simp only [Int.toNat_natCast] at hrun
  have hrow : madeCells zv.cells (c * i.size) = ((List.replicate c zv.cells.toList).flatten).toArray := by
    have := zero_row (cs := zv.cells.toList) c
    rw [show zv.cells.toList.length = i.size from by simpa using hzs] at this
    simpa [madeCells] using this
  rw [hrow] at hrun
  have hlen : ((List.replicate c zv.cells.toList).flatten).length = c * i.size := by simp [hzs]
  refine ⟨.value (.slice (some ⟨w.heap.size, 0, none⟩) c c), _, _, F, _, ?_, .inl rfl, Mild.alloc w (.cells ((List.replicate c zv.cells.toList).flatten).toArray E), PH.ler F, ⟨rfl, ⟨_, rfl⟩, rfl⟩, Sat.alloc hs _ _ (own_mk hlen (Nat.le_refl _) (by unfold maxLen; omega) (by simpa using hlen) (by rw [← hlen]; exact List.take_length))⟩
  generalize A.eval = ρ at e1 e2 ⊢
  refine run_v (s := Instr.makeSlice T (ρ x) (ρ y)) ?_
  rw [e1, e2]; exact hrun
/-! conversions that make memory, or mark it -/
theorem ev_string_bytes {e : TypeId} {s : ByteArray} {ds : TypeDesc} (hx : opv l x = some (.string s)) (hu : P.underlying T = some ds) (hd : P.underlying T' = some (.slice e)) (he : P.underlying e = some (.int .u8)) :
    Ev' P ⟨d, .convert T T' x, U, pos, af, gd⟩ l F H fun u F' H' => (∃ b c, u = .slice (some ⟨b, 0, none⟩) s.size c) ∧ SliceV F' 1 u s.size (u8s s.data.toList) ∧ H' = H := .of fun N A w ha hs => by
  have e1 := ha.opv hx
  have hrun := Lib.run_convert_string_bytes (P := P) w T T' e s hu hd he
  have hnew := Lib.bytesWorld_at_new w e s
  generalize hO : Obj.cells (Lib.bytesCells w e s) e ((Lib.bytesCells w e s).size, (Lib.bytesCells w e s).size + 1) = O at hnew
  have hle : (ph w).le (ph (Lib.bytesWorld w e s)) := fun b o hb => by
    show (Lib.bytesWorld w e s).heap[b]? = some o
    rw [Lib.bytesWorld_at_old w e s b (ph_lt hb)]; exact hb
  have hcap : s.size ≤ grownCap w s.size 0 e := grownCap_ge w s.size 0 e
  obtain ⟨R, hR, hFR, k⟩ := hs.add
  have hsat := k (fun h => h = PH.one w.heap.size O) (PH.one w.heap.size O) (Lib.bytesWorld w e s) rfl (PH.dj_one (by
    cases h : R w.heap.size with
    | none => rfl
    | some y => exact absurd (ph_lt (hR _ _ h)) (by omega))) (PH.un_le (hR.trans hle) (PH.one_le hnew))
  obtain ⟨h, hh, hdj, hsat⟩ := hsat.persist
  subst hh
  refine ⟨.value (.slice (some ⟨w.heap.size, 0, none⟩) s.size (grownCap w s.size 0 e)), Lib.bytesWorld w e s, _, F.un (PH.one w.heap.size O), H, ?_, .inl rfl, ⟨rfl, rfl, rfl, by rw [Lib.bytesWorld_size]; omega⟩, PH.le_l _ _, ⟨⟨_, _, rfl⟩, ⟨by rw [Nat.mul_one, u8s, List.length_map, Array.length_toList]; rfl, _, _, rfl, hcap, fun _ => ⟨_, _, rfl, ?_⟩⟩, rfl⟩, hsat⟩
  · generalize A.eval = ρ at e1 ⊢
    refine run_v (s := convert T T' (ρ x)) ?_
    rw [e1]; exact hrun
  · subst hO
    intro j u hj
    have hF : (F.un (PH.one w.heap.size (Obj.cells (Lib.bytesCells w e s) e ((Lib.bytesCells w e s).size, (Lib.bytesCells w e s).size + 1)))) w.heap.size = some (Obj.cells (Lib.bytesCells w e s) e ((Lib.bytesCells w e s).size, (Lib.bytesCells w e s).size + 1)) :=
      (PH.le_r hdj) _ _ (PH.one_self _ _)
    unfold cellF
    rw [hF]
    have hlt : j < s.data.size := by
      have := (List.getElem?_eq_some_iff.1 hj).1
      simpa [u8s] using this
    show (Lib.bytesCells w e s)[0 + j]? = some u
    rw [Nat.zero_add, Lib.bytesCells, Array.getElem?_append_left (by simpa using hlt)]
    simpa [u8s] using hj
theorem ev_bytes_bytes {e b n c : Nat} {cs : List Value} (hx : opv l x = some (.slice (some ⟨b, 0, none⟩) n c)) (hu : P.underlying T = some (.slice e)) (he : P.underlying e = some (.int .u8)) (p : Pick (blk b E cs) H Hr) :
    Ev' P ⟨d, .convert T T x, U, pos, af, gd⟩ l F H fun u F' H' => u = .slice (some ⟨b, 0, none⟩) n c ∧ Cells F' b 0 cs ∧ H' = Hr := .of fun N A w ha hs => by
  have e1 := ha.opv hx
  have hb := hs.blk_heap p
  have hs1 := hs.pick p
  obtain ⟨_, ⟨h, r, hA, hr, hhr, rfl⟩, hd, hl⟩ := hs1
  have hA' : h = PH.one b (.cells cs.toArray E (0, 0)) := hA
  subst hA'
  have hsh : w.shape? b = some (E, cs.length) := by simp [World.shape?, hb]
  have hfz : (w.freeze ⟨b, cs.length, none⟩ 1).heap[b]? = some (.cells cs.toArray E (cs.length, cs.length + 1)) := by
    obtain ⟨hlt, hbe⟩ := Array.getElem?_eq_some_iff.1 hb
    simp [World.freeze, hlt, hbe]
    try rw [Array.getElem_modify_self]
    try simp [hbe]
  have hfo : ∀ j, j ≠ b → (w.freeze ⟨b, cs.length, none⟩ 1).heap[j]? = w.heap[j]? := fun j hj => by
    simp [World.freeze, Array.getElem?_modify, Ne.symm hj]
  have e1' : F.dj (PH.one b (.cells cs.toArray E (0, 0))) := hd.mono_r (PH.le_l _ _)
  have e2' : F.dj r := hd.mono_r (PH.le_r hhr)
  have hone : ∀ (f : PH) (o o' : Obj), f.dj (PH.one b o) → f.dj (PH.one b o') := fun f o o' h j => by
    rcases h j with e | e
    · exact .inl e
    · right
      unfold PH.one at e ⊢
      split at e
      · cases e
      · rename_i hj; rw [if_neg hj]
  have hold : ∀ (f : PH), f.dj (PH.one b (.cells cs.toArray E (0, 0))) → f.le (ph w) → f.le (ph (w.freeze ⟨b, cs.length, none⟩ 1)) := fun f hf hle j o hj => by
    have hne : j ≠ b := fun ej => by
      subst ej
      rcases hf j with e | e
      · rw [e] at hj; cases hj
      · rw [PH.one_self] at e; cases e
    show (w.freeze ⟨b, cs.length, none⟩ 1).heap[j]? = some o
    rw [hfo j hne]
    exact hle j o hj
  have hFw : F.le (ph w) := (PH.le_l _ _).trans hl
  have hrw : r.le (ph w) := ((PH.le_r hhr).trans (PH.le_r hd)).trans hl
  refine ⟨.value (.slice (some ⟨b, 0, none⟩) n c), w.freeze ⟨b, cs.length, none⟩ 1, _, F.un (PH.one b (.cells cs.toArray E (cs.length, cs.length + 1))), Hr, ?_, .inl rfl, ⟨rfl, rfl, rfl, by simp [World.freeze]⟩, PH.le_l _ _, ⟨rfl, ?_, rfl⟩, ?_⟩
  · generalize A.eval = ρ at e1 ⊢
    refine run_v (s := convert T T (ρ x)) ?_
    rw [e1]
    simp [convert, run_underlying hu, run_underlying he, markStringish, hsh]
  · intro j u hj
    unfold cellF
    rw [(PH.le_r (hone F _ _ e1')) b _ (PH.one_self _ _)]
    simpa using hj
  · refine ⟨r, hr, PH.dj_un e2' (hone r _ _ hhr.symm).symm, PH.un_le (PH.un_le (hold F e1' hFw) (PH.one_le hfz)) (hold r hhr.symm hrw)⟩
end
end Go.Proofs.YtekdmpbkcjjllaaDoor
