/-
  Copies: into a block of the call's own. Plain theorems over any program; no condition.
-/
import Derived.Test.YtekdmpbkcjjllaaDoorKq
import Derived.Laws.CopyOwn
namespace Go.Proofs.YtekdmpbkcjjllaaDoor
open Go.RowKit
section
variable {P : Program} {l : Env} {F : PH} {H Hr H' : List Asrt} {d : Option Nat} {T T' U E : TypeId} {pos : String} {af : Array Edge} {gd : Option (Nat × Bool)} {x y z y' z' : Operand}
theorem blk_heap {b : Nat} {E : TypeId} {r s : List Value} {w : World} (hs : Sat F H w) (hu : Upd (blk b E r) (blk b E s) H H') : w.heap[b]? = some (.cells r.toArray E (0, 0)) := by
  obtain ⟨h, R, hA, hd, hl, _, _⟩ := hs.focus hu
  have h1 : h = PH.one b (.cells r.toArray E (0, 0)) := hA
  subst h1
  exact hl b _ ((PH.le_r hd) b _ (PH.one_self _ _))
/-- 'copy(d, s)', d in a block of the call's own, elements of one cell. -/
theorem ev_copy {b off n c m c2 k e : Nat} {a2 : Option Addr} {r s cs news : List Value} (hx : opv l x = some (.slice (some ⟨b, off, none⟩) n c)) (hy : opv l y = some (.slice a2 m c2)) (ht : elemSize P T = some (e, 1))
    (hr : RdS F H 1 (.slice a2 m c2) m news) (h1 : Ones news) (hk : Nat.min m n = k) (hcs : news.take k = cs) (hlay : Lay off cs r s) (hu : Upd (blk b E r) (blk b E s) H H') :
    Ev' P ⟨d, .call { callee := .builtin .copy, args := #[x, y], argTypes := #[T, T'] }, U, pos, af, gd⟩ l F H fun v F' H'' => F = F' ∧ v = .int .i64 k ∧ H'' = H' := .of fun N A w ha hs => by
  have e1 := ha.opv hx
  have e2 := ha.opv hy
  obtain ⟨hs1, hs2⟩ := hlay.eq
  have hb := blk_heap hs hu
  obtain ⟨hul, hsz⟩ := elemSize_info ht
  have hsz' : (P.info? e).map (·.size) = some 1 := by obtain ⟨i, hi, h⟩ := hsz; rw [hi]; simp [h]
  have hlen := hr.1
  have hcl : cs.length = k := by
    subst hcs
    rw [List.length_take, hlen, Nat.mul_one]
    have : k ≤ m := by subst hk; exact Nat.min_le_left _ _
    omega
  by_cases h0 : k = 0
  · have hcs0 : cs = [] := List.eq_nil_of_length_eq_zero (by omega)
    have hst : s = r := by rw [hs1, hcs0]; simp
    have hrun := run_copy_none (P := P) w T T' U e (some ⟨b, off, none⟩) a2 n c m c2 hul hsz' (by omega)
    refine ⟨.value (goInt 0), w, goInt 0, F, H', ?_, .inl rfl, Mild.refl w, PH.ler F, ⟨rfl, by subst h0; rfl, rfl⟩, ?_⟩
    · generalize A.eval = ρ at e1 e2 ⊢
      simp only [execOp, resolve, List.map_toArray, List.map_cons, List.map_nil, e1, e2, pure_bind, invoke, builtin]
      exact run_v hrun
    · have h2 := hs.setRow hu
      refine h2.world fun b' o h => ?_
      by_cases hbb : b = b'
      · subst hbb
        rw [setRow_ph hb] at h
        rw [hst] at h
        exact hb.trans h
      · have h3 : (w.setRow b s.toArray).heap[b']? = some o := h
        rw [setRow_other w b b' _ (fun e => hbb e.symm)] at h3
        exact h3
  · have hm0 : 0 < m := by
      have : k ≤ m := by subst hk; exact Nat.min_le_left _ _
      omega
    obtain ⟨b2, off2, rfl, hw⟩ := hr.at hs hm0
    have hrun := run_copy_row (P := P) w T T' U e b off n c ⟨b2, off2, none⟩ m c2 r.toArray E cs hul hsz' hb (by omega) (fun j v hj => hw j v (by
      subst hcs
      rw [List.getElem?_take] at hj
      split at hj
      · exact hj
      · cases hj)) (by simpa using hs2) (fun v hv => h1 v (by subst hcs; exact List.mem_of_mem_take hv))
    refine ⟨.value (goInt cs.length), w.setRow b s.toArray, goInt cs.length, F, H', ?_, .inl rfl, Mild.setRow w b _, PH.ler F, ⟨rfl, by rw [hcl]; rfl, rfl⟩, hs.setRow hu⟩
    generalize A.eval = ρ at e1 e2 ⊢
    simp only [execOp, resolve, List.map_toArray, List.map_cons, List.map_nil, e1, e2, pure_bind, invoke, builtin]
    refine run_v ?_
    rw [hrun]
    simp only [List.toList_toArray]
    rw [← hs1]
end
end Go.Proofs.YtekdmpbkcjjllaaDoor
