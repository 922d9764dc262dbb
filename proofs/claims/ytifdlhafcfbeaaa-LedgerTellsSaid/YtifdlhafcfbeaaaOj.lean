/-
  More of what reading gives: plain laws. Conditions are typed with each.
-/
import Derived.Test.YtifdlhafcfbeaaaOg
import Derived.Test.YtifdlhafcfbeaaaKr
import Derived.Lib.Hide
namespace Go.Proofs.Ytifdlhafcfbeaaa
open Go.RowKit
set_option maxRecDepth 100000
/-- Bytes, filled up to 32. -/
def pad32 (bs : List UInt8) : List UInt8 := bs ++ List.replicate (32 - bs.length) 0
/-- So many tags, one behind the other: the error, what is left, the tags. -/
def tagsR (e : Int) (rs : List UInt8) : Nat → Int × List UInt8 × List (List UInt8)
  | 0 => (e, rs, [])
  | j + 1 => ((fixR (tagsR e rs j).1 (tagsR e rs j).2.1 32).2.1, (fixR (tagsR e rs j).1 (tagsR e rs j).2.1 32).2.2, (tagsR e rs j).2.2 ++ [pad32 (fixR (tagsR e rs j).1 (tagsR e rs j).2.1 32).1])
theorem tagsR_succ (e : Int) (rs : List UInt8) (j : Nat) : tagsR e rs (j + 1) = ((fixR (tagsR e rs j).1 (tagsR e rs j).2.1 32).2.1, (fixR (tagsR e rs j).1 (tagsR e rs j).2.1 32).2.2, (tagsR e rs j).2.2 ++ [pad32 (fixR (tagsR e rs j).1 (tagsR e rs j).2.1 32).1]) := rfl
theorem fixR_le32 (e : Int) (bs : List UInt8) : (fixR e bs 32).1.length = 0 ∨ (fixR e bs 32).1.length = 32 := by
  unfold fixR
  split
  · simp
  · split
    · simp
    · right; simp; omega
theorem pad32_len {bs : List UInt8} (h : bs.length = 0 ∨ bs.length = 32) : (pad32 bs).length = 32 := by unfold pad32; simp; omega
theorem tagsR_len (e : Int) (rs : List UInt8) (j : Nat) : (tagsR e rs j).2.2.length = j := by
  induction j with
  | zero => rfl
  | succ j ih => rw [tagsR_succ]; simp [ih]
theorem tagsR_32 (e : Int) (rs : List UInt8) (j : Nat) : ∀ t ∈ (tagsR e rs j).2.2, t.length = 32 := by
  induction j with
  | zero => intro t h; cases h
  | succ j ih =>
    rw [tagsR_succ]
    intro t h
    rcases List.mem_append.1 h with h | h
    · exact ih t h
    · rw [List.mem_singleton] at h; subst h; exact pad32_len (fixR_le32 _ _)
theorem tagsR_rest (e : Int) (rs : List UInt8) (j : Nat) : (tagsR e rs j).2.1.length ≤ rs.length := by
  induction j with
  | zero => exact Nat.le_refl _
  | succ j ih => rw [tagsR_succ]; exact Nat.le_trans (fixR_rest _ _ _) ih
theorem rowR_rest' (e : Int) (bs : List UInt8) (n : Int) : (rowR e bs n).2.2.length ≤ bs.length := by
  have := numR_rest e bs 4
  rw [rowR_eq]
  split
  · exact this
  · split
    · exact this
    · exact Nat.le_trans (fixR_rest _ _ _) this
theorem cntR_rest' (e : Int) (bs : List UInt8) (n : Int) : (cntR e bs n).2.2.length ≤ bs.length := by
  have := numR_rest e bs 2
  rw [cntR_eq]
  split <;> exact this
theorem fixR_stick {e : Int} (he : e ≠ 0) (bs : List UInt8) (n : Int) : fixR e bs n = ([], e, bs) := by unfold fixR; rw [if_pos he]
theorem numR_stick {e : Int} (he : e ≠ 0) (bs : List UInt8) (n : Int) : numR e bs n = (0, e, bs) := by
  unfold numR; rw [if_neg (fun h => he h.1), fixR_stick he]; rfl
theorem tagsR_stick {e : Int} (he : e ≠ 0) (rs : List UInt8) (j : Nat) : (tagsR e rs j).1 = e := by
  induction j with
  | zero => rfl
  | succ j ih => rw [tagsR_succ, ih, fixR_stick he]
theorem tagsR_stuck {e : Int} {rs : List UInt8} {j : Nat} (h : (tagsR e rs j).1 ≠ 0) : ∀ i, (tagsR e rs (j + i)).1 ≠ 0
  | 0 => h
  | i + 1 => by
    have := tagsR_stuck h i
    rw [← Nat.add_assoc, tagsR_succ, fixR_stick this]
    exact this
theorem rowR_stick {e : Int} (he : e ≠ 0) (bs : List UInt8) (m : Int) : rowR e bs m = ([], e, bs) := by
  rw [rowR_eq, numR_stick he, if_pos he]
theorem cntR_stick {e : Int} (he : e ≠ 0) (bs : List UInt8) (m : Int) : cntR e bs m = (0, e, bs) := by
  rw [cntR_eq, numR_stick he, if_neg (fun h => he h.1)]; rfl
theorem endR_bad {e : Int} (he : e ≠ 0) (bs : List UInt8) : endR e bs ≠ 0 := by unfold endR; rw [if_neg (fun h => he h.1)]; exact he
theorem rowR_most {e : Int} {bs : List UInt8} {m m' : Int} (h : bs.length ≤ m) (h' : bs.length ≤ m') : rowR e bs m = rowR e bs m' ∨ ((rowR e bs m).2.1 ≠ 0 ∧ (rowR e bs m').2.1 ≠ 0) := by
  have hr := numR_rest e bs 4
  simp only [rowR_eq]
  generalize numR e bs 4 = r at *
  obtain ⟨x, e2, bs2⟩ := r
  dsimp only at *
  by_cases he : e2 = 0
  · subst he
    have h00 : ¬ ((0 : Int) ≠ 0) := by simp
    rw [if_neg h00, if_neg h00]
    by_cases hx : (bs2.length : Int) < x
    · right
      have hf : (fixR 0 bs2 x).2.1 ≠ 0 := by unfold fixR; rw [if_neg h00, if_pos (.inr hx)]; show (2 : Int) ≠ 0; decide
      have h30 : (3 : Int) ≠ 0 := by decide
      constructor
      · split
        · exact h30
        · exact hf
      · split
        · exact h30
        · exact hf
    · left
      rw [if_neg (by omega), if_neg (by omega)]
  · left
    rw [if_pos he, if_pos he]
theorem fixR_sum {e : Int} {bs : List UInt8} {n : Int} (h : (fixR e bs n).2.1 = 0) : (fixR e bs n).1.length + (fixR e bs n).2.2.length = bs.length ∧ ((fixR e bs n).1.length : Int) = n := by
  obtain ⟨_, h1, h2, h3, h4⟩ := fixR_ok h
  rw [h3, h4]; simp; omega
theorem numR_sum {e : Int} {bs : List UInt8} {n : Int} (h : (numR e bs n).2.1 = 0) : n + (numR e bs n).2.2.length = bs.length := by
  unfold numR at h ⊢
  dsimp only at h ⊢
  obtain ⟨h1, h2⟩ := fixR_sum h
  omega
theorem rowR_sum {e : Int} {bs : List UInt8} {m : Int} (h : (rowR e bs m).2.1 = 0) : e = 0 ∧ 4 + (rowR e bs m).1.length + (rowR e bs m).2.2.length = bs.length := by
  rw [rowR_eq] at h ⊢
  by_cases h1 : (numR e bs 4).2.1 ≠ 0
  · rw [if_pos h1] at h; exact absurd h h1
  · rw [if_neg h1] at h ⊢
    have h1' : (numR e bs 4).2.1 = 0 := by simpa using h1
    have hs := numR_sum h1'
    have ho := (numR_ok h1').1
    split at h
    · cases h
    · rename_i h2
      rw [if_neg h2]
      have := fixR_sum h
      omega
theorem cntR_sum {e : Int} {bs : List UInt8} {m : Int} (h : (cntR e bs m).2.1 = 0) (hm : 0 ≤ m) : e = 0 ∧ 2 + (cntR e bs m).2.2.length = bs.length ∧ 0 ≤ (cntR e bs m).1 ∧ (cntR e bs m).1 ≤ m := by
  rw [cntR_eq] at h ⊢
  split at h
  · cases h
  · rename_i h2
    rw [if_neg h2]
    have hs := numR_sum (n := 2) h
    have ho := (numR_ok (n := 2) h).1
    dsimp only at h ⊢
    refine ⟨ho, by omega, by omega, ?_⟩
    rcases Int.lt_or_le m (numR e bs 2).1 with hh | hh
    · exact absurd ⟨h, hh⟩ h2
    · exact hh
theorem tagsR_sum {e : Int} {rs : List UInt8} {j : Nat} (h : (tagsR e rs j).1 = 0) : e = 0 ∧ 32 * j + (tagsR e rs j).2.1.length = rs.length := by
  induction j with
  | zero => exact ⟨h, by simp [tagsR]⟩
  | succ j ih =>
    rw [tagsR_succ] at h ⊢
    dsimp only at h ⊢
    have h1 := (fixR_ok h).1
    have h2 := fixR_sum h
    have h3 := ih h1
    exact ⟨h3.1, by omega⟩
theorem cntR_le (e : Int) (bs : List UInt8) {m : Int} (hm : 0 ≤ m) : 0 ≤ (cntR e bs m).1 ∧ (cntR e bs m).1 ≤ m := by
  rw [cntR_eq]
  by_cases he : (numR e bs 2).2.1 = 0
  · split
    · exact ⟨Int.le_refl _, hm⟩
    · rename_i h2
      dsimp only
      rcases Int.lt_or_le m (numR e bs 2).1 with hh | hh
      · exact absurd ⟨he, hh⟩ h2
      · omega
  · rw [if_neg (fun h => he h.1), numR_bad he]
    exact ⟨Int.le_refl _, hm⟩
theorem numR_lt (e : Int) (bs : List UInt8) (n : Int) : (numR e bs n).1 < 256 ^ n.toNat := by
  by_cases he : (numR e bs n).2.1 = 0
  · exact (numR_ok he).2.2
  · rw [numR_bad he]; exact Nat.pow_pos (by omega)
abbrev z32 : List Value := List.replicate 32 (.int .u8 0)
theorem lay_pad {bs : List UInt8} (h : bs.length = 0 ∨ bs.length = 32) : Lay 0 (u8s bs) z32 (u8s (pad32 bs)) := by
  have e : u8s (pad32 bs) = z32.take 0 ++ u8s bs ++ z32.drop (0 + (u8s bs).length) := by
    unfold pad32
    rw [u8s_append, u8s_len, Nat.zero_add, List.drop_replicate, List.take_zero, List.nil_append]
    unfold u8s
    rw [List.map_replicate]
    rfl
  rw [e]
  exact lay_at (by rw [u8s_len]; simp [z32]; omega)
def wr32 (bs : List UInt8) (i : Nat) : List Value := u8s (bs.take i) ++ List.replicate (32 - i) (.int .u8 0)
theorem wr32_set {bs : List UInt8} {i : Nat} {c : UInt8} (hl : bs.length ≤ 32) (hi : bs[i]? = some c) : (wr32 bs i).set i (.int .u8 (c.toNat : Int)) = wr32 bs (i + 1) := by
  have hlt := (List.getElem?_eq_some_iff.1 hi).1
  have h1 : (u8s (bs.take i)).length = i := by rw [u8s_len, List.length_take]; omega
  unfold wr32
  rw [List.set_append_right _ _ (by omega), h1, Nat.sub_self, show 32 - i = (32 - (i + 1)) + 1 from by omega, List.replicate_succ, List.set_cons_zero, take_snoc hi, u8s_append, List.append_assoc]
  rfl
theorem wr32_len {bs : List UInt8} {i : Nat} (hl : bs.length ≤ 32) (hi : i ≤ bs.length) : (wr32 bs i).length = 32 := by
  unfold wr32; rw [List.length_append, u8s_len]; simp; omega
theorem wr32_end {bs : List UInt8} : wr32 bs bs.length = u8s (pad32 bs) := by
  unfold wr32 pad32; rw [List.take_length, u8s_append]; simp [u8s]
end Go.Proofs.Ytifdlhafcfbeaaa
