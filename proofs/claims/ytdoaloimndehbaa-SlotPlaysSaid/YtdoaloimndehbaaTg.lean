/-
  Two slots of one number, in plain: who votes for what, by the replicas' numbers; two quorums share an honest one. Conditions are typed with each.
-/
import Derived.Test.YtdoaloimndehbaaTf
namespace Go.Proofs.Ytdoaloimndehbaa
open Go.RowKit
set_option maxRecDepth 100000
theorem take_snc {α : Type} {l : List α} {j : Nat} {x : α} (h : l[j]? = some x) : l.take (j + 1) = l.take j ++ [x] := by
  rw [List.take_add_one, h]
  rfl
theorem byt_at {F : PH} {a : Option Addr} {n c i : Nat} {bs : List UInt8} {x : UInt8} (h : SliceV F 1 (.slice a n c) n (u8s bs)) (hi : bs[i]? = some x) : ∃ b off, a = some ⟨b, off, none⟩ ∧ Cells F b (off + i * 1) [.int .u8 (x.toNat : Int)] ∧ i < n := by
  obtain ⟨hl, a', c', e, _, h2⟩ := h
  cases e
  have hlt := (List.getElem?_eq_some_iff.1 hi).1
  have hn : bs.length = n := by simpa [u8s] using hl
  obtain ⟨b, off, rfl, hc⟩ := h2 (by omega)
  refine ⟨b, off, rfl, ?_, by omega⟩
  rw [Nat.mul_one]
  exact hc.one i (by unfold u8s; rw [List.getElem?_map, hi]; rfl)
def dgOf (c : UInt8) : Dg := dgB (c % 2 + 1)
theorem dgOf_val (c : UInt8) : ((c % 2 + 1 : UInt8).toNat : Int) = (c.toNat : Int) % 2 + 1 := by
  have : (c % 2 + 1 : UInt8).toNat = c.toNat % 2 + 1 := by
    rw [UInt8.toNat_add, UInt8.toNat_mod]
    have := c.toNat_lt
    simp
    omega
  rw [this]
  push_cast
  rfl
/-- The votes of those before i, by what each says. -/
def vo (L : Nat → List UInt8) : Nat → Vts
  | 0 => []
  | i + 1 => vo L i ++ (match (L i)[i]? with | some c => [((i : Int), dgOf c)] | none => [])
theorem hasV_append (vs ws : Vts) (who : Int) : hasV (vs ++ ws) who = match hasV vs who with | some e => some e | none => hasV ws who := by
  induction vs with
  | nil => rfl
  | cons p r ih =>
    obtain ⟨w, d⟩ := p
    rw [List.cons_append, hasV, hasV]
    by_cases h : who = w
    · rw [if_pos h, if_pos h]
    · rw [if_neg h, if_neg h, ih]
theorem vo_none (L : Nat → List UInt8) : ∀ (i : Nat) (j : Int), (i : Int) ≤ j → hasV (vo L i) j = none
  | 0, _, _ => rfl
  | i + 1, j, h => by
    unfold vo
    rw [hasV_append, vo_none L i j (by omega)]
    dsimp only
    cases (L i)[i]? with
    | none => rfl
    | some c =>
      dsimp only [hasV]
      rw [if_neg (by omega)]
theorem vo_len (L : Nat → List UInt8) : ∀ i : Nat, (vo L i).length ≤ i
  | 0 => Nat.le_refl _
  | i + 1 => by
    unfold vo
    have := vo_len L i
    rw [List.length_append]
    cases (L i)[i]? <;> simp <;> omega
theorem vo_some {L : Nat → List UInt8} {i n : Nat} {c : UInt8} (h : (L i)[i]? = some c) (hn : i < n) : (voteP n (vo L i) i (dgOf c)).2 = vo L (i + 1) := by
  unfold voteP
  rw [if_neg (by omega), vo_none L i i (Int.le_refl _)]
  show _ = vo L i ++ _
  rw [h]
theorem vo_skip {L : Nat → List UInt8} {i : Nat} (h : (L i)[i]? = none) : vo L i = vo L (i + 1) := by
  show _ = vo L i ++ _
  rw [h, List.append_nil]
theorem cntV_append (vs ws : Vts) (d : Dg) : cntV (vs ++ ws) d = cntV vs d + cntV ws d := by unfold cntV; rw [List.filter_append, List.length_append]
def lieB (n : Nat) (ls : List UInt8) (i : Nat) : Bool := ls.any fun l => l.toNat % n == i
def lieC (n : Nat) (ls : List UInt8) : Nat → Nat
  | 0 => 0
  | i + 1 => lieC n ls i + if lieB n ls i then 1 else 0
theorem lieC_cons (n : Nat) (l : UInt8) (ls : List UInt8) : ∀ i, lieC n (l :: ls) i ≤ lieC n ls i + if l.toNat % n < i then 1 else 0
  | 0 => Nat.zero_le _
  | i + 1 => by
    have ih := lieC_cons n l ls i
    unfold lieC
    have hb : lieB n (l :: ls) i = (l.toNat % n == i || lieB n ls i) := rfl
    rw [hb]
    by_cases h : l.toNat % n = i
    · have h1 : ¬ l.toNat % n < i := by omega
      rw [if_neg h1] at ih
      rw [if_pos (show l.toNat % n < i + 1 by omega)]
      rw [show (l.toNat % n == i) = true from by simpa using h, Bool.true_or, if_pos rfl]
      split <;> omega
    · rw [show (l.toNat % n == i) = false from by simpa using h, Bool.false_or]
      split at ih
      · rw [if_pos (show l.toNat % n < i + 1 by omega)]; split <;> omega
      · rw [if_neg (show ¬ l.toNat % n < i + 1 by omega)]; split <;> omega
theorem lieC_le (n i : Nat) : ∀ ls : List UInt8, lieC n ls i ≤ ls.length
  | [] => by
    have : lieC n [] i = 0 := by
      induction i with
      | zero => rfl
      | succ i ih => unfold lieC; rw [ih]; rfl
    omega
  | l :: ls => by
    have h1 := lieC_cons n l ls i
    have h2 := lieC_le n i ls
    rw [List.length_cons]
    split at h1 <;> omega
def saysA (n : Nat) (says one ls : List UInt8) (i : Nat) : List UInt8 := if lieB n ls i then one else says
theorem both_le (n : Nat) (says one two ls : List UInt8) : ∀ i : Nat, cntV (vo (saysA n says one ls) i) (dgB 1) + cntV (vo (saysA n says two ls) i) (dgB 2) ≤ i + lieC n ls i
  | 0 => by simp [vo, cntV]
  | i + 1 => by
    have ih := both_le n says one two ls i
    unfold vo lieC
    rw [cntV_append, cntV_append]
    have one_le : ∀ (o : Option UInt8) (d : Dg), cntV (match o with | some c => [((i : Int), dgOf c)] | none => []) d ≤ 1 := fun o d => by
      cases o with
      | none => simp [cntV]
      | some c => exact List.length_filter_le _ _
    by_cases hl : lieB n ls i = true
    · rw [if_pos hl]
      have h1 := one_le ((saysA n says one ls i)[i]?) (dgB 1)
      have h2 := one_le ((saysA n says two ls i)[i]?) (dgB 2)
      omega
    · rw [if_neg hl]
      have e1 : saysA n says one ls i = says := if_neg hl
      have e2 : saysA n says two ls i = says := if_neg hl
      rw [e1, e2]
      have : ∀ o : Option UInt8, cntV (match o with | some c => [((i : Int), dgOf c)] | none => []) (dgB 1) + cntV (match o with | some c => [((i : Int), dgOf c)] | none => []) (dgB 2) ≤ 1 := fun o => by
        cases o with
        | none => simp [cntV]
        | some c =>
          unfold cntV
          dsimp only
          by_cases h1 : dgOf c = dgB 1
          · have h2 : ¬ dgOf c = dgB 2 := fun h2 => by
              rw [h1] at h2
              exact absurd (dgB_inj h2) (by decide)
            rw [List.filter_cons_of_pos (by simpa using h1), List.filter_cons_of_neg (by simpa using h2)]
            simp
          · rw [List.filter_cons_of_neg (by simpa using h1)]
            have := List.length_filter_le (fun p : Int × Dg => decide (p.2 = dgB 2)) [((i : Int), dgOf c)]
            simp only [List.filter_nil, List.length_nil, List.length_cons, Nat.zero_add] at this ⊢
            exact this
      have := this says[i]?
      omega
/-- Two quorums of 3 k + 1 share an honest one. -/
theorem one_law {k n : Nat} {says one two ls : List UInt8} {q1 q2 : Pr} (hn : n = 3 * k + 1) (hk : 1 ≤ k) (hl : ls.length ≤ k) (h1 : q1.d = dgB 1) (h2 : q2.d = dgB 2)
    (ha : committedP n (some q1) (vo (saysA n says one ls) n) = true) (hb : committedP n (some q2) (vo (saysA n says two ls) n) = true) : False := by
  unfold committedP quoI at ha hb
  have ha := of_decide_eq_true ha
  have hb := of_decide_eq_true hb
  rw [h1] at ha
  rw [h2] at hb
  have h3 := both_le n says one two ls n
  have h4 := lieC_le n n ls
  omega
end Go.Proofs.Ytdoaloimndehbaa
