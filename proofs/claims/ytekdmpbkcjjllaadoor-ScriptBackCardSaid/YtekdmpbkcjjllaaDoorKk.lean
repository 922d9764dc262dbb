/-
  Rules of operations, fourth part: a row shifted within itself, cleared behind its end; appends of whole slices; texts and bytes; make. Plain theorems over any program; no condition.
-/
import Derived.Test.YtekdmpbkcjjllaaDoorKja
import Derived.Laws.BytesString
namespace Go.Proofs.YtekdmpbkcjjllaaDoor
open Go.RowKit

theorem own_block {F : PH} {H H' : List Asrt} {w : World} {g n c E size : Nat} {xs : List Value} {A' : Asrt} (s : Sat F H w) (hu : Upd (own (.slice (some ⟨g, 0, none⟩) n c) E size n xs) A' H H') :
    ∃ cur : Array Value, w.heap[g]? = some (.cells cur E (0, 0)) ∧ xs.length = n * size ∧ n ≤ c ∧ c ≤ maxLen ∧ cur.size = c * size ∧ cur.toList.take (n * size) = xs ∧
      ∀ (cur' : Array Value), A' (PH.one g (.cells cur' E (0, 0))) → Sat F H' (w.setRow g cur') := by
  obtain ⟨h, R, hA, hd, hl, _, k⟩ := s.focus hu
  obtain ⟨hlen, h1⟩ := hA
  rcases h1 with ⟨e, _, _⟩ | ⟨g', cap, cur, e, e2, h2, h3, h4, h5⟩
  · cases e
  cases e
  subst e2
  have hb : w.heap[g]? = some (.cells cur E (0, 0)) := hl g _ ((PH.le_r hd) g _ (PH.one_self _ _))
  have hR : R g = none := by
    rcases hd g with e | e
    · exact e
    · rw [PH.one_self] at e; cases e
  refine ⟨cur, hb, hlen, h2, h3, h4, h5, fun cur' hA' => k _ _ hA' (PH.dj_one hR) (PH.un_le (fun j o e => ?_) (PH.one_le (setRow_ph hb _)))⟩
  have hne : j ≠ g := fun ec => by subst ec; rw [hR] at e; cases e
  show (w.setRow g _).heap[j]? = some o
  rw [setRow_other w g j _ hne]
  exact hl j o ((PH.le_l _ _) j o e)
theorem own_mk {g n c E size : Nat} {cur : Array Value} {xs : List Value} (h1 : xs.length = n * size) (h2 : n ≤ c) (h3 : c ≤ maxLen) (h4 : cur.size = c * size) (h5 : cur.toList.take (n * size) = xs) :
    own (.slice (some ⟨g, 0, none⟩) n c) E size n xs (PH.one g (.cells cur E (0, 0))) := ⟨h1, .inr ⟨g, c, cur, rfl, rfl, h2, h3, h4, h5⟩⟩
section
variable {P : Program} {l : Env} {F : PH} {H Hr H' : List Asrt} {d : Option Nat} {T T' U E : TypeId} {pos : String} {af : Array Edge} {gd : Option (Nat × Bool)} {x y z y' z' : Operand} {size bytes : Nat} {zv : Value}
theorem ev_append_shift {g n c i j : Nat} {xs : List Value} (hx : opv l x = some (.slice (some ⟨g, 0, none⟩) i c)) (hy : opv l y = some (cutV (some ⟨g, 0, none⟩) size c j n c)) (he : Elem P T E size bytes zv) (hij : i ≤ j) (hjn : j ≤ n) (h1 : Ones xs)
    (hu : Upd (own (.slice (some ⟨g, 0, none⟩) n c) E size n xs) (own (.slice (some ⟨g, 0, none⟩) (i + (n - j)) c) E size (i + (n - j)) (xs.take (i * size) ++ xs.drop (j * size))) H H') :
    Ev' P ⟨d, .call { callee := .builtin .append, args := #[x, y], argTypes := #[T, T] }, U, pos, af, gd⟩ l F H fun u F' H'' => F = F' ∧ u = .slice (some ⟨g, 0, none⟩) (i + (n - j)) c ∧ H'' = H' := .of fun N a w ha hs => by
  obtain ⟨hu1, ⟨ti, hi, hz, hsz, hby, hzs, h0⟩, _, _⟩ := he
  obtain ⟨cur, hb, hlen, hnc, hcm, hcs, htk, k⟩ := own_block hs hu
  subst hsz
  have e1 := ha.opv hx; have e2 := ha.opv hy
  have hnl : (xs.drop (j * ti.size)).length = (n - j) * ti.size := by rw [List.length_drop, hlen, Nat.sub_mul]
  have hisz : i * ti.size ≤ j * ti.size := Nat.mul_le_mul_right _ hij
  have hjsz : j * ti.size ≤ n * ti.size := Nat.mul_le_mul_right _ hjn
  have hnsz : n * ti.size ≤ c * ti.size := Nat.mul_le_mul_right _ hnc
  have hadd : (i + (n - j)) * ti.size = i * ti.size + (n * ti.size - j * ti.size) := by rw [Nat.add_mul, Nat.sub_mul]
  have hsrc : ∀ q u, (xs.drop (j * ti.size))[q]? = some u → w.cell? ((⟨g, j * ti.size, none⟩ : Addr).add q) = some u := by
    intro q u e
    rw [adr_add, cell_of_row w g _ cur E (0, 0) hb]
    rw [List.getElem?_drop, ← htk, List.getElem?_take] at e
    split at e
    · simpa using e
    · cases e
  have hcur : cur.toList.take (i * ti.size) = xs.take (i * ti.size) := by rw [← htk, List.take_take, Nat.min_eq_left (by omega)]
  have hxl : (xs.take (i * ti.size)).length = i * ti.size := by rw [List.length_take, hlen]; omega
  -- the address of the source, where there is any
  have hrun : ∀ (ad : Addr) (cc : Nat), (n - j = 0 ∨ ad = ⟨g, j * ti.size, none⟩) → (Builtin.append_ #[T, T] U #[.slice (some ⟨g, 0, none⟩) i c, .slice (some ad) (n - j) cc]).run P w =
      .ok (.slice (some ⟨g, 0, none⟩) (i + (n - j)) c) (w.setRow g (cur.toList.take (i * ti.size) ++ xs.drop (j * ti.size) ++ cur.toList.drop (i * ti.size + (xs.drop (j * ti.size)).length)).toArray) := by
    intro ad cc had
    refine run_append_room (P := P) w T U E ti hu1 hi g i c cur hb ad (n - j) cc (xs.drop (j * ti.size)) hnl ?_ (fun u hu' => h1 u (List.mem_of_mem_drop hu')) (by omega) (by rw [hnl, hcs, Nat.sub_mul]; omega)
    intro q u e
    rcases had with h | h
    · have hnil : xs.drop (j * ti.size) = [] := List.eq_nil_of_length_eq_zero (by rw [hnl, h, Nat.zero_mul])
      rw [hnil] at e; simp at e
    · subst h; exact hsrc q u e
  refine ⟨.value (.slice (some ⟨g, 0, none⟩) (i + (n - j)) c), _, _, F, H', ?_, .inl rfl, Mild.setRow w g (cur.toList.take (i * ti.size) ++ xs.drop (j * ti.size) ++ cur.toList.drop (i * ti.size + (xs.drop (j * ti.size)).length)).toArray, PH.ler F, ⟨rfl, rfl, rfl⟩, k _ (own_mk ?_ (by omega) hcm ?_ ?_)⟩
  · generalize a.eval = ρ at e1 e2 ⊢
    simp only [execOp, resolve, List.map_toArray, List.map_cons, List.map_nil, e1, e2, pure_bind, invoke, builtin]
    refine run_v ?_
    unfold cutV
    by_cases hcj : c = j
    · rw [if_pos hcj]
      exact hrun _ _ (.inl (by omega))
    · rw [if_neg hcj]
      exact hrun _ _ (.inr (by simp [adr_add]))
  · rw [List.length_append, hxl, hnl, Nat.add_mul]
  · simp only [List.size_toArray, List.length_append, List.length_take, List.length_drop, Array.length_toList, hcs, hlen]
    omega
  · simp only []
    rw [hcur, List.append_assoc, ← List.append_assoc, List.take_append_of_le_length (by rw [List.length_append, hxl, hnl, Nat.add_mul]; exact Nat.le_refl _)]
    exact List.take_of_length_le (by rw [List.length_append, hxl, hnl, Nat.add_mul]; exact Nat.le_refl _)
theorem ones_zero (h : Ones zv.cells.toList) (n : Nat) : Ones (Builtin.zeroCells zv.cells n).toList := by
  intro v hv
  unfold Builtin.zeroCells at hv
  rw [Array.toList_map] at hv
  obtain ⟨i, hi, rfl⟩ := List.mem_map.1 hv
  have hlt : i < n * zv.cells.size := by simpa using hi
  have h0 : 0 < zv.cells.size := by
    rcases Nat.eq_zero_or_pos zv.cells.size with h | h
    · rw [h] at hlt; omega
    · exact h
  have hm : i % zv.cells.size < zv.cells.size := Nat.mod_lt _ h0
  apply h
  rw [getElem!_pos zv.cells (i % zv.cells.size) hm]
  simp
theorem ev_clear_tail {g n h c : Nat} {xs : List Value} (hy : opv l y = some (cutV (some ⟨g, 0, none⟩) size c n h c)) (he : Elem P T E size bytes zv) (hz1 : Ones zv.cells.toList) (hnh : n ≤ h) (hhc : h ≤ c)
    (hu : Upd (own (.slice (some ⟨g, 0, none⟩) n c) E size n xs) (own (.slice (some ⟨g, 0, none⟩) n c) E size n xs) H H) :
    Ev' P ⟨d, .call { callee := .builtin .clear, args := #[y], argTypes := #[T] }, U, pos, af, gd⟩ l F H fun u F' H'' => F = F' ∧ u = .tuple #[] ∧ H'' = H := .of fun N a w ha hs => by
  obtain ⟨hu1, ⟨ti, hi, hz, hsz, hby, hzs, h0⟩, _, _⟩ := he
  obtain ⟨cur, hb, hlen, hnc, hcm, hcs, htk, k⟩ := own_block hs hu
  subst hsz
  have e2 := ha.opv hy
  by_cases h00 : h - n = 0
  · refine ⟨.value (.tuple #[]), w, _, F, H, ?_, .inl rfl, Mild.refl w, PH.ler F, ⟨rfl, rfl, rfl⟩, hs⟩
    generalize a.eval = ρ at e2 ⊢
    simp only [execOp, resolve, List.map_toArray, List.map_cons, List.map_nil, e2, pure_bind, invoke, builtin]
    refine run_v ?_
    unfold cutV
    rw [h00]
    split <;> simp [Builtin.clear_, run_underlying hu1]
  · have hnsz : n * ti.size ≤ h * ti.size := Nat.mul_le_mul_right _ hnh
    have hhsz : h * ti.size ≤ c * ti.size := Nat.mul_le_mul_right _ hhc
    have hzl : (Builtin.zeroCells zv.cells (h - n)).toList.length = (h - n) * ti.size := by simp [Builtin.zeroCells, hzs]
    have hst := run_storeCells_at P g (n * ti.size) E (Builtin.zeroCells zv.cells (h - n)).toList 0 cur w hb (by rw [hzl, hcs, Nat.sub_mul]; omega) (ones_zero hz1 _)
    have hzv : (zeroValue E).run P w = .ok zv w := by simp [zeroValue, typeInfo, hi, hz, go_sem]
    refine ⟨.value (.tuple #[]), _, _, F, H, ?_, .inl rfl, Mild.setRow w g _, PH.ler F, ⟨rfl, rfl, rfl⟩, k (cur.toList.take (n * ti.size + 0) ++ (Builtin.zeroCells zv.cells (h - n)).toList ++ cur.toList.drop (n * ti.size + 0 + (Builtin.zeroCells zv.cells (h - n)).toList.length)).toArray (own_mk hlen hnc hcm ?_ ?_)⟩
    · generalize a.eval = ρ at e2 ⊢
      simp only [execOp, resolve, List.map_toArray, List.map_cons, List.map_nil, e2, pure_bind, invoke, builtin]
      refine run_v ?_
      unfold cutV
      rw [if_neg (by omega)]
      simp only [Option.map_some, adr_add, Nat.zero_add]
      obtain ⟨q, hq⟩ : ∃ q, h - n = q + 1 := ⟨h - n - 1, by omega⟩
      rw [hq] at hst ⊢
      simp [Builtin.clear_, run_underlying hu1, hzv, hst]
    · simp only [List.size_toArray, List.length_append, List.length_take, List.length_drop, Array.length_toList, hcs, hzl, Nat.sub_mul]
      omega
    · simp only []
      rw [Nat.add_zero, List.append_assoc, List.take_append_of_le_length (by rw [List.length_take, Array.length_toList, hcs]; omega), List.take_take, Nat.min_self]
      exact htk
end
end Go.Proofs.YtekdmpbkcjjllaaDoor
