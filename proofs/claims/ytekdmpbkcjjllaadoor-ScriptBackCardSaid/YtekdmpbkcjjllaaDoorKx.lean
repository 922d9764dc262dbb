/-
  'append(s, make([]T, n)...)'. Plain theorems over any program; no condition.
-/
import Derived.Test.YtekdmpbkcjjllaaDoorKw
import Derived.Lib.AppendZeros
namespace Go.Proofs.YtekdmpbkcjjllaaDoor
open Go.RowKit
theorem zeroCells_list {P : Program} {T E size bytes : Nat} {zv : Value} (he : Elem P T E size bytes zv) (m : Nat) : (Builtin.zeroCells zv.cells m) = ((List.replicate m zv.cells.toList).flatten).toArray := by
  obtain ⟨_, ⟨i, _, _, _, _, hzs, _⟩, _, _⟩ := he
  have := zero_row (cs := zv.cells.toList) m
  rw [← this]
  simp [Builtin.zeroCells]
theorem run_append_zeros_none {P : Program} (w : World) (t tn ty e : TypeId) (i : TypeInfo) (k kn : IntKind) (ht : P.underlying t = some (.slice e)) (htn : P.underlying tn = some (.int kn)) (hi : P.info? e = some i) (base : Option Addr) (n c : Nat) (hc : n ≤ c) :
    (Builtin.append_ #[t, tn] ty #[.slice base n c, .int k (0 : Nat)]).run P w = .ok (.slice base n c) w := by
  have hw : IntKind.i64.wrap 0 = 0 := by decide
  cases base <;> simp [Builtin.append_, run_underlying ht, run_underlying htn, sizeOf, typeInfo, hi, asInt, asIntOf, hw, hc, storeCells]
theorem run_append_zeros_room {P : Program} (w : World) (t tn ty e : TypeId) (i : TypeInfo) (z : Value) (k kn : IntKind) (ht : P.underlying t = some (.slice e)) (htn : P.underlying tn = some (.int kn)) (hi : P.info? e = some i) (hz : i.zero = some z) (hzs : z.cells.size = i.size)
    (g n c m : Nat) (cur : Array Value) (E : TypeId) (hg : w.heap[g]? = some (.cells cur E (0, 0))) (h0 : 0 < m) (hs : 0 < i.size) (hroom : n + m ≤ c) (hcs : cur.size = c * i.size) (h1 : ∀ u ∈ (Builtin.zeroCells z.cells m).toList, u.oneCell' = true) (h63 : (m : Int) ≤ 9223372036854775807) (h48 : m * i.bytes ≤ 281474976710656) :
    (Builtin.append_ #[t, tn] ty #[.slice (some ⟨g, 0, none⟩) n c, .int k m]).run P w = .ok (.slice (some ⟨g, 0, none⟩) (n + m) c) (w.setRow g (cur.toList.take (n * i.size) ++ (Builtin.zeroCells z.cells m).toList ++ cur.toList.drop (n * i.size + (Builtin.zeroCells z.cells m).toList.length)).toArray) := by
  have hw : IntKind.i64.wrap (m : Int) = m := by rw [IntKind.wrap_i64]; omega
  have h48i : ¬ (281474976710656 < (m : Int) * (i.bytes : Int)) := by
    rw [← Int.natCast_mul]; omega
  have hneg : ¬ ((m : Int) < 0) := by omega
  have hns : ¬ (m * i.size = 0) := Nat.mul_ne_zero (by omega) (by omega)
  have hfit : n * i.size + (Builtin.zeroCells z.cells m).toList.length ≤ cur.size := by
    rw [Array.length_toList, size_zeroCells, hzs, hcs, ← Nat.add_mul]
    exact Nat.mul_le_mul_right _ hroom
  have hst := run_storeCells_at P g (n * i.size) E (Builtin.zeroCells z.cells m).toList 0 cur w hg (by simpa using hfit) h1
  simp only [Nat.add_zero] at hst
  simp [Builtin.append_, run_underlying ht, run_underlying htn, sizeOf, typeInfo, zeroValue, hi, hz, asInt, asIntOf, hw, hneg, hns, h48i, hroom, adr_add] at hst ⊢
  rw [hst]
  rfl
theorem run_append_zeros_grow {P : Program} (w : World) (t tn ty e : TypeId) (i : TypeInfo) (z : Value) (k kn : IntKind) (ht : P.underlying t = some (.slice e)) (htn : P.underlying tn = some (.int kn)) (hi : P.info? e = some i) (hz : i.zero = some z)
    (base : Option Addr) (n c m : Nat) (olds : List Value) (hold : (Builtin.firstCells i.size n (.slice base n c)).run P w.drew = .ok olds.toArray w.drew) (h0 : 0 < m) (hs : 0 < i.size) (hg : c < n + m) (h63 : ((n + m : Nat) : Int) ≤ 9223372036854775807) (h48 : m * i.bytes ≤ 281474976710656) (hfit : Builtin.nextslicecap (n + m) c * i.bytes ≤ 281474976710656) :
    (Builtin.append_ #[t, tn] ty #[.slice base n c, .int k m]).run P w =
      .ok (.slice (some ⟨w.heap.size, 0, none⟩) (n + m) (grownCap w (n + m) c e)) (w.drew.alloc (.cells ((olds ++ (Builtin.zeroCells z.cells m).toList).toArray ++ Builtin.zeroCells z.cells (grownCap w (n + m) c e - (n + m))) e)) := by
  have hw : IntKind.i64.wrap (m : Int) = m := by rw [IntKind.wrap_i64]; omega
  have h48i : ¬ (281474976710656 < (m : Int) * (i.bytes : Int)) := by
    rw [← Int.natCast_mul]; omega
  have hneg : ¬ ((m : Int) < 0) := by omega
  have hns : ¬ (m * i.size = 0) := Nat.mul_ne_zero (by omega) (by omega)
  have hn : ¬ (n + m ≤ c) := by omega
  have h63' : ¬ (9223372036854775807 < ((n : Int) + (m : Int))) := by omega
  have h48' : ¬ (281474976710656 < Builtin.nextslicecap (n + m) c * i.bytes) := by omega
  simp [Builtin.append_, run_underlying ht, run_underlying htn, sizeOf, typeInfo, zeroValue, hi, hz, asInt, asIntOf, hw, hneg, hns, h48i, hn, h63', h48', Question.forced, hold, newRow, grownCap]
  congr 2
  apply Array.ext'
  simp [List.append_assoc]
section
variable {P : Program} {l : Env} {F : PH} {H Hr H' : List Asrt} {d : Option Nat} {T T' U E : TypeId} {pos : String} {af : Array Edge} {gd : Option (Nat × Bool)} {x y : Operand} {size bytes : Nat} {zv : Value}
theorem ev_append_zeros {v : Value} {n m : Nat} {xs : List Value} {k kn : IntKind} {K : Value → List Asrt} (hx : opv l x = some v) (hy : opv l y = some (.int k (m : Int))) (he : Elem P T E size bytes zv) (hn : P.underlying T' = some (.int kn)) (hz1 : Ones zv.cells.toList)
    (hb : (n + m) * bytes ≤ 140737488355328) (hu : ∀ v', Upd (own v E size n xs) (own v' E size (n + m) (xs ++ (List.replicate m zv.cells.toList).flatten)) H (K v')) :
    Ev' P ⟨d, .call { callee := .builtin .append, args := #[x, y], argTypes := #[T, T'] }, U, pos, af, gd⟩ l F H fun u F' H' => F = F' ∧ H' = K u := .of fun N A w ha hs => by
  have hzc := zeroCells_list he m
  have hones : ∀ u ∈ (Builtin.zeroCells zv.cells m).toList, u.oneCell' = true := ones_zero hz1 m
  obtain ⟨hu1, ⟨i, hi, hz, hsz, hby, hzs, h0⟩, _, hbp⟩ := he
  have hpos := Nat.le_of_ble_eq_true hbp
  have hnm : n + m ≤ (n + m) * bytes := Nat.le_mul_of_pos_right _ hpos
  have hmb : m * bytes ≤ (n + m) * bytes := Nat.mul_le_mul_right _ (by omega)
  subst hsz; subst hby
  have e1 := ha.opv hx; have e2 := ha.opv hy
  have hzl : ((List.replicate m zv.cells.toList).flatten).length = m * i.size := by
    have := congrArg Array.size hzc
    rw [size_zeroCells, hzs] at this
    simpa using this.symm
  obtain ⟨h, R, ⟨hlen, hA⟩, hd, hle, hFR, kk⟩ := hs.focus (hu v)
  by_cases hm : m = 0
  · subst hm
    have hform : ∃ base cap, v = .slice base n cap ∧ n ≤ cap := by
      rcases hA with ⟨e, e2, _⟩ | ⟨g, cap, cur, e, _, h2, _⟩
      · subst e2; exact ⟨_, _, e, Nat.le_refl _⟩
      · exact ⟨_, _, e, h2⟩
    obtain ⟨base, cap, rfl, hcap⟩ := hform
    refine ⟨.value (.slice base n cap), w, .slice base n cap, F, K (.slice base n cap), ?_, .inl rfl, Mild.refl w, PH.ler F, ⟨rfl, rfl⟩, ?_⟩
    · generalize A.eval = ρ at e1 e2 ⊢
      simp only [execOp, resolve, List.map_toArray, List.map_cons, List.map_nil, e1, e2, pure_bind, invoke, builtin]
      exact run_v (run_append_zeros_none w T T' U E i k kn hu1 hn hi base n cap hcap)
    · exact kk h w ⟨by simpa using hlen, by simpa using hA⟩ hd hle
  have hm0 : 0 < m := by omega
  have grow : ∀ (base : Option Addr) (c : Nat), v = .slice base n c → (Builtin.firstCells i.size n (.slice base n c)).run P w.drew = .ok xs.toArray w.drew → c < n + m →
      ∃ nx w' u F' H', (execOp A.eval ⟨d, .call { callee := .builtin .append, args := #[x, y], argTypes := #[T, T'] }, U, pos, af, gd⟩).run P w = .ok nx w' ∧ (nx = .value u ∨ (nx = .skip ∧ u = undef)) ∧ Mild w w' ∧ F.le F' ∧ (F = F' ∧ H' = K u) ∧ Sat F' H' w' := fun base c hv hold hg => by
    have hrun := run_append_zeros_grow (P := P) w T T' U E i zv k kn hu1 hn hi hz base n c m xs hold hm0 h0 hg (by omega) (by omega) (growslice_fits hg hb)
    rw [hzc, List.toList_toArray] at hrun
    have hge := grownCap_ge w (n + m) c E
    have hcm : grownCap w (n + m) c E ≤ maxLen := grownCap_le_maxLen w (n + m) c E (by unfold maxLen; omega)
    have hl2 : (xs ++ (List.replicate m zv.cells.toList).flatten).length = (n + m) * i.size := by rw [List.length_append, hlen, hzl, Nat.add_mul]
    refine ⟨.value (.slice (some ⟨w.heap.size, 0, none⟩) (n + m) (grownCap w (n + m) c E)), _, .slice (some ⟨w.heap.size, 0, none⟩) (n + m) (grownCap w (n + m) c E), F, _, ?_, .inl rfl,
      (Mild.drew w).trans (Mild.alloc w.drew (.cells ((xs ++ (List.replicate m zv.cells.toList).flatten).toArray ++ Builtin.zeroCells zv.cells (grownCap w (n + m) c E - (n + m))) E)), PH.ler F, ⟨rfl, rfl⟩, ?_⟩
    · subst hv
      generalize A.eval = ρ at e1 e2 ⊢
      simp only [execOp, resolve, List.map_toArray, List.map_cons, List.map_nil, e1, e2, pure_bind, invoke, builtin]
      exact run_v hrun
    · obtain ⟨h', R', _, hd', hle', _, kk'⟩ := hs.focus (hu (.slice (some ⟨w.heap.size, 0, none⟩) (n + m) (grownCap w (n + m) c E)))
      refine kk' (PH.one w.heap.size (.cells ((xs ++ (List.replicate m zv.cells.toList).flatten).toArray ++ Builtin.zeroCells zv.cells (grownCap w (n + m) c E - (n + m))) E (0, 0))) _ (own_mk hl2 hge hcm ?_ ?_) (PH.dj_one ?_) ?_
      · simp only [Array.size_append, List.size_toArray, size_zeroCells, hzs, hl2, ← Nat.add_mul]
        congr 1
        omega
      · simp only [Array.toList_append]
        rw [← hl2]
        exact List.take_left
      · cases hRn : R' w.heap.size with
        | none => rfl
        | some o => exact absurd (ph_lt (hle' _ _ (PH.le_l R' h' _ _ hRn))) (by omega)
      · refine PH.un_le (((PH.le_l R' h').trans hle').trans (ph_alloc_le w.drew _)) (PH.one_le (ph_alloc_new w.drew _))
  rcases hA with ⟨rfl, rfl, rfl⟩ | ⟨g, cap, cur, rfl, rfl, hnc, hcm, hcs, htk⟩
  · have hx0 : xs = [] := List.eq_nil_of_length_eq_zero (by simpa using hlen)
    subst hx0
    exact grow none 0 rfl (run_firstCells_none w.drew i.size 0 0 0) (by omega)
  · have hblk : w.heap[g]? = some (.cells cur E (0, 0)) := hle g _ ((PH.le_r hd) g _ (PH.one_self _ _))
    by_cases hroom : n + m ≤ cap
    · have hrun := run_append_zeros_room (P := P) w T T' U E i zv k kn hu1 hn hi hz hzs g n cap m cur E hblk hm0 h0 hroom hcs hones (by omega) (by omega)
      rw [hzc, List.toList_toArray] at hrun
      have hns : (n + m) * i.size = n * i.size + m * i.size := Nat.add_mul _ _ _
      have hcap : (n + m) * i.size ≤ cap * i.size := Nat.mul_le_mul_right _ hroom
      obtain ⟨cur', hb', _, _, _, _, _, kb⟩ := own_block hs (hu (.slice (some ⟨g, 0, none⟩) (n + m) cap))
      refine ⟨.value (.slice (some ⟨g, 0, none⟩) (n + m) cap), _, .slice (some ⟨g, 0, none⟩) (n + m) cap, F, _, ?_, .inl rfl, Mild.setRow w g _, PH.ler F, ⟨rfl, rfl⟩, kb (cur.toList.take (n * i.size) ++ (List.replicate m zv.cells.toList).flatten ++ cur.toList.drop (n * i.size + ((List.replicate m zv.cells.toList).flatten).length)).toArray (own_mk ?_ hroom hcm ?_ ?_)⟩
      · generalize A.eval = ρ at e1 e2 ⊢
        simp only [execOp, resolve, List.map_toArray, List.map_cons, List.map_nil, e1, e2, pure_bind, invoke, builtin]
        exact run_v hrun
      · rw [List.length_append, hlen, hzl, hns]
      · simp [hzl, hcs, Nat.min_eq_left hnc]; omega
      · have hlt : (cur.toList.take (n * i.size)).length = n * i.size := by simp [hcs, Nat.min_eq_left hnc]
        simp only []
        rw [List.append_assoc, htk, ← List.append_assoc, List.take_append_of_le_length (by rw [List.length_append, hlen, hzl]; omega), List.take_of_length_le (by rw [List.length_append, hlen, hzl]; omega)]
    · refine grow (some ⟨g, 0, none⟩) cap rfl (run_firstCells_some w.drew i.size n ⟨g, 0, none⟩ n cap xs hlen fun j u hj => ?_) (by omega)
      have hj' : cur[j]? = some u := by
        rw [← htk, List.getElem?_take] at hj
        split at hj
        · simpa using hj
        · cases hj
      have : w.drew.cell? ((⟨g, 0, none⟩ : Addr).add j) = some u := by
        rw [adr_add]
        exact cellF_ph.1 (by unfold cellF; rw [show ph w.drew g = some (.cells cur E (0, 0)) from hblk]; simpa using hj')
      exact this
end
end Go.Proofs.YtekdmpbkcjjllaaDoor
