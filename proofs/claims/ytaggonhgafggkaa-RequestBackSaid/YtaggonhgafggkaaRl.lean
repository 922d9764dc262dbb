/-
  A request's bytes tell it: plain laws; requests that come in. Conditions are typed with each.
-/
import Derived.Test.YtaggonhgafggkaaRk
import Derived.Test.YtaggonhgafggkaaRj
import Derived.Test.YtaggonhgafggkaaRh
namespace Go.Proofs.Ytaggonhgafggkaa
open Go.RowKit
set_option maxRecDepth 100000
theorem pad32_full {t : List UInt8} (h : t.length = 32) : pad32 t = t := by unfold pad32; rw [h]; simp
theorem tagsR_app {ts : List (List UInt8)} (h : ∀ t ∈ ts, t.length = 32) (more : List UInt8) : ∀ j, j ≤ ts.length → tagsR 0 (ts.flatten ++ more) j = (0, (ts.drop j).flatten ++ more, ts.take j)
  | 0, _ => by simp [tagsR]
  | j + 1, hj => by
    have ht : ts[j]? = some ts[j] := List.getElem?_eq_getElem (by omega)
    have hl := h ts[j] (List.getElem_mem (by omega))
    rw [tagsR_succ, tagsR_app h more j (by omega)]
    dsimp only
    have e : ts.drop j = ts[j] :: ts.drop (j + 1) := List.drop_eq_getElem_cons (by omega)
    have hf : fixR 0 ((ts.drop j).flatten ++ more) 32 = (ts[j], 0, (ts.drop (j + 1)).flatten ++ more) := by
      have := fixR_app (bs := ts[j]) (rest := (ts.drop (j + 1)).flatten ++ more)
      rw [hl] at this
      rw [e, List.flatten_cons, List.append_assoc]
      exact this
    rw [hf]
    dsimp only
    rw [pad32_full hl, take_snoc ht]
theorem oneR_app {e : En} {m : Nat} (h0 : 0 ≤ e.1) (h1 : e.1 < 256) (hm : e.2.1.length = m) (ht : ∀ t ∈ e.2.1, t.length = 32) (more : List UInt8) : oneR m 0 (enB e ++ more) = (e, 0, more) := by
  subst hm
  have e1 : enB e ++ more = putB (uN e.1) 1 ++ (e.2.1.flatten ++ more) := by unfold enB; rw [List.append_assoc]
  rw [e1, oneR_eq (num1 (uN_lt _) _)]
  dsimp only
  rw [tagsR_app ht more _ (Nat.le_refl _), List.drop_length, List.take_length, iN_byte h0 h1]
  rfl
theorem endsR_app {es : List En} {m : Nat} (h : ∀ e ∈ es, 0 ≤ e.1 ∧ e.1 < 256 ∧ e.2.1.length = m ∧ ∀ t ∈ e.2.1, t.length = 32) (more : List UInt8) : ∀ j, j ≤ es.length → endsR m 0 (es.flatMap enB ++ more) j = (0, (es.drop j).flatMap enB ++ more, es.take j)
  | 0, _ => by simp [endsR]
  | j + 1, hj => by
    have hg : es[j]? = some es[j] := List.getElem?_eq_getElem (by omega)
    obtain ⟨h0, h1, h2, h3⟩ := h es[j] (List.getElem_mem (by omega))
    rw [endsR_succ, endsR_app h more j (by omega)]
    dsimp only
    have e : es.drop j = es[j] :: es.drop (j + 1) := List.drop_eq_getElem_cons (by omega)
    rw [e, List.flatMap_cons, List.append_assoc, oneR_app h0 h1 h2 h3]
    dsimp only
    rw [take_snoc hg]
theorem goodE_iff {n : Int} {es : List En} (h : goodE n es = true) : (es.length : Int) ≤ n ∧ oddEs n es = false ∧ ∀ e ∈ es, 0 ≤ e.1 ∧ e.1 < n ∧ (e.2.1.length : Int) = n := by
  unfold goodE at h
  rw [Bool.and_eq_true] at h
  obtain ⟨h1, h2⟩ := h
  have h1' : (List.range es.length).any (badE n es) = false := by simpa using h1
  have hall : ∀ i, i < es.length → offE n es i = false ∧ oddE n es i = false := fun i hi => by
    have := List.any_eq_false.1 h1' i (List.mem_range.2 hi)
    unfold badE at this
    simpa using this
  refine ⟨of_decide_eq_true h2, ?_, fun e he => ?_⟩
  · unfold oddEs
    rw [List.any_eq_false]
    intro i hi
    rw [(hall i (List.mem_range.1 hi)).2]; decide
  · obtain ⟨i, hi⟩ := List.getElem?_of_mem he
    have hlt := (List.getElem?_eq_some_iff.1 hi).1
    obtain ⟨h3, h4⟩ := hall i hlt
    rw [offE_is hi] at h3
    simp only [Bool.or_eq_false_iff, decide_eq_false_iff_not] at h3
    unfold oddE at h4
    rw [hi] at h4
    dsimp only at h4
    rw [Bool.or_eq_false_iff] at h4
    have h5 := of_decide_eq_false h4.1
    refine ⟨by omega, by omega, ?_⟩
    have := h3.2
    omega
theorem enB_le {es : List En} {F : PH} {v : Value} {t : Nat} (h : RowV tyEn F v es) (hf : ∀ e ∈ es, e.2.1.length ≤ t) : ∀ e ∈ es, (enB e).length ≤ 1 + 32 * t := fun e he => by
  obtain ⟨i, hi⟩ := List.getElem?_of_mem he
  obtain ⟨a, c, rfl, _⟩ := h.form
  obtain ⟨_, _, _, _, _, hrep, _⟩ := h.at hi
  obtain ⟨_, _, _, ht, _⟩ := en_of hrep
  have := hf e he
  unfold enB
  rw [List.length_append, pl1, flat32_len ht.2]
  omega
theorem reqB_len (c : Cr) (es : List En) (F : PH) (v : Value) (h : RowV tyEn F v es) {l t : Nat} (hl : es.length ≤ l) (hf : ∀ e ∈ es, e.2.1.length ≤ t) : (reqB c es).length ≤ 40 + c.letter.length + c.text.length + l * (1 + 32 * t) := by
  have h1 := flatMap_len (enB_le h hf)
  have h2 : es.length * (1 + 32 * t) ≤ l * (1 + 32 * t) := Nat.mul_le_mul_right _ hl
  unfold reqB
  rw [List.length_append, headB_len]
  omega
theorem reqP_bytes {c : Cr} {es : List En} {n : Int} (he : c.err n = 0) (ha : InK .i64 c.a) (hb : InK .i64 c.b) (hl : c.letter.length ≤ 1048576) (hg : goodE n es = true) (F : PH) (v : Value) (h : RowV tyEn F v es) : reqP (reqB c es) n = ((c, es), 0) := by
  obtain ⟨g1, g2, g3⟩ := goodE_iff hg
  have hn := Cr.err_ok he
  have hfit := Cr.fits_of he ha hb hl
  have hrow := coreP_bytes hfit n
  rw [if_neg (fun h => h he)] at hrow
  obtain ⟨m, rfl⟩ := Int.eq_ofNat_of_zero_le (show 0 ≤ n by omega)
  have hel : es.length ≤ m := by omega
  have hok : ∀ e ∈ es, 0 ≤ e.1 ∧ e.1 < 256 ∧ e.2.1.length = m ∧ ∀ t ∈ e.2.1, t.length = 32 := fun e he => by
    obtain ⟨h1, h2, h3⟩ := g3 e he
    obtain ⟨i, hi⟩ := List.getElem?_of_mem he
    obtain ⟨a, c, rfl, _⟩ := h.form
    obtain ⟨_, _, _, _, _, hrep, _⟩ := h.at hi
    obtain ⟨_, _, _, ht, _⟩ := en_of hrep
    exact ⟨h1, by omega, by omega, ht.2⟩
  have hcb := c.bytes_len
  have hbl : (reqB c es).length = 40 + c.letter.length + c.text.length + (es.flatMap enB).length := by
    unfold reqB
    rw [List.length_append, headB_len]
  have e1 : reqB c es = putB c.bytes.length 4 ++ (c.bytes ++ (putB es.length 2 ++ (es.flatMap enB ++ []))) := by
    unfold reqB headB rowB
    simp only [List.append_assoc, List.append_nil]
  have h1 := rowR_put (row := c.bytes) (rest := putB es.length 2 ++ (es.flatMap enB ++ [])) (by have := hfit.text; omega) ((reqB c es).length : Int) (by omega)
  rw [← e1] at h1
  have h2 : cntR 0 (putB es.length 2 ++ (es.flatMap enB ++ [])) (m : Int) = ((es.length : Int), 0, es.flatMap enB ++ []) := by
    rw [cntR_eq, num2 (by omega)]
    dsimp only
    rw [if_neg (fun h => by have := h.2; omega)]
  have h3 := endsR_app hok [] es.length (Nat.le_refl _)
  rw [List.drop_length, List.take_length] at h3
  unfold reqP
  rw [if_neg (by omega)]
  unfold reqM
  dsimp only
  rw [h1]
  dsimp only
  rw [h2]
  dsimp only
  rw [Int.toNat_natCast, Int.toNat_natCast, h3]
  dsimp only
  rw [if_neg (by rw [g2]; simp [endR]), hrow, if_neg (by simp)]
def tyEns : Ty Try.prog 64 (List En) := tySlice tyEn Try.underlying64 (by kernel_rfl) (by decide)
def tyReq : Ty Try.prog 66 ((Int × Int × Int × List UInt8 × Int × Int × List UInt8 × Unit) × List En × Unit) := tyStruct Try.underlying66 (fsCons tyCore (fsCons tyEns (fsNil _) rfl (by kernel_rfl)) rfl (by kernel_rfl)) (by kernel_rfl)
theorem req_of {F : PH} {x : (Int × Int × Int × List UInt8 × Int × Int × List UInt8 × Unit) × List En × Unit} {cs : List Value} (h : tyReq.rep F x cs) : ∃ (c : Cr) (v : Value), cs = reqC c v ∧ InK .i64 c.a ∧ InK .i64 c.b ∧ c.letter.length ≤ maxLen ∧ c.text.length ≤ maxLen ∧ RowV tyEn F v x.2.1 := by
  obtain ⟨c1, c2, rfl, hc, c3, c4, rfl, ⟨v, rfl, hv⟩, rfl⟩ := h
  obtain ⟨c, rfl, h1, h2, h3, h4⟩ := core_of hc
  exact ⟨c, v, rfl, h1, h2, h3, h4, hv⟩
end Go.Proofs.Ytaggonhgafggkaa
