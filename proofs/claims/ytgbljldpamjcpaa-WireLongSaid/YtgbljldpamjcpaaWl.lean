/-
  A message's bytes tell it again: plain laws. Conditions are typed with each.
-/
import Derived.Test.YtgbljldpamjcpaaWk
import Derived.Test.YtgbljldpamjcpaaOctetsBack
namespace Go.Proofs.Ytgbljldpamjcpaa
open Go.RowKit
theorem pad32_full {t : List UInt8} (h : t.length = 32) : pad32 t = t := by unfold pad32; rw [h]; simp
theorem tagsR_app {ts : List (List UInt8)} (h : ∀ t ∈ ts, t.length = 32) (more : List UInt8) : ∀ j, j ≤ ts.length → tagsR 0 (ts.flatten ++ more) j = (0, (ts.drop j).flatten ++ more, ts.take j)
  | 0, _ => by simp [tagsR]
  | j + 1, hj => by
    have ht : ts[j]? = some ts[j] := List.getElem?_eq_getElem (by omega)
    have hl := h ts[j] (List.getElem_mem (by omega))
    rw [tagsR_succ, tagsR_app h more j (by omega)]
    dsimp only
    have e : ts.drop j = ts[j] :: ts.drop (j + 1) := List.drop_eq_getElem_cons (by omega)
    have hf : fixR 0 ((ts.drop j).flatten ++ more) 32 = (ts[j], 0, (ts.drop (j + 1)).flatten ++ more) := by
      have := fixR_app (bs := ts[j]) (rest := (ts.drop (j + 1)).flatten ++ more)
      rw [hl] at this
      rw [e, List.flatten_cons, List.append_assoc]
      exact this
    rw [hf]
    dsimp only
    rw [pad32_full hl, take_snoc ht]
theorem headsR_app {k f : Nat} (hk : k < 256) (hf : f < 256) (bs : List UInt8) (ts : List (List UInt8)) (more : List UInt8) {m : Int} (hb : (bs.length : Int) ≤ m) (hb32 : bs.length < 4294967296) (ht : ts.length ≤ 7) :
    headsR (wireB k f bs ts ++ more) m = ⟨k, f, bs, ts.length, 0, ts.flatten ++ more⟩ := by
  have e : wireB k f bs ts ++ more = putB k 1 ++ (putB f 1 ++ (putB bs.length 4 ++ (bs ++ (putB ts.length 2 ++ (ts.flatten ++ more))))) := by
    unfold wireB wireP; simp only [List.append_assoc]
  have h1 := numR_put (m := 1) (u := k) (.inl rfl) (by omega) (putB f 1 ++ (putB bs.length 4 ++ (bs ++ (putB ts.length 2 ++ (ts.flatten ++ more)))))
  have h2 := numR_put (m := 1) (u := f) (.inl rfl) (by omega) (putB bs.length 4 ++ (bs ++ (putB ts.length 2 ++ (ts.flatten ++ more))))
  have h3 := rowR_put (row := bs) (rest := putB ts.length 2 ++ (ts.flatten ++ more)) hb32 m hb
  have h4 := numR_put (m := 2) (u := ts.length) (.inr (.inl rfl)) (by omega) (ts.flatten ++ more)
  have h4' : cntR 0 (putB ts.length 2 ++ (ts.flatten ++ more)) 7 = ((ts.length : Int), 0, ts.flatten ++ more) := by
    have h4'' : numR 0 (putB ts.length 2 ++ (ts.flatten ++ more)) 2 = (ts.length % 256 ^ 2, 0, ts.flatten ++ more) := h4
    rw [cntR_eq, h4'']
    dsimp only
    have : ts.length % 256 ^ 2 = ts.length := Nat.mod_eq_of_lt (by have : (256 : Nat) ^ 2 = 65536 := rfl; omega)
    rw [this, if_neg (fun h => by have := h.2; omega)]
  have h1' : numR 0 (putB k 1 ++ (putB f 1 ++ (putB bs.length 4 ++ (bs ++ (putB ts.length 2 ++ (ts.flatten ++ more)))))) 1 = (k, 0, putB f 1 ++ (putB bs.length 4 ++ (bs ++ (putB ts.length 2 ++ (ts.flatten ++ more))))) := by
    have e : k % 256 ^ 1 = k := Nat.mod_eq_of_lt (by omega)
    exact h1.trans (by rw [e])
  have h2' : numR 0 (putB f 1 ++ (putB bs.length 4 ++ (bs ++ (putB ts.length 2 ++ (ts.flatten ++ more))))) 1 = (f, 0, putB bs.length 4 ++ (bs ++ (putB ts.length 2 ++ (ts.flatten ++ more)))) := by
    have e : f % 256 ^ 1 = f := Nat.mod_eq_of_lt (by omega)
    exact h2.trans (by rw [e])
  rw [e]
  unfold headsR
  dsimp only
  rw [h1']
  dsimp only
  rw [h2']
  dsimp only
  rw [h3]
  dsimp only
  rw [h4']
  rfl
theorem oddB_lt {k f : Int} (h : oddB k f = false) : 1 ≤ k ∧ k ≤ 12 ∧ 0 ≤ f ∧ f ≤ 63 := by
  unfold oddB at h
  simp only [Bool.or_eq_false_iff, decide_eq_false_iff_not] at h
  omega
/-- A message that may be is told by its bytes; more bytes behind them are a failure. -/
theorem parseB_wire {k f : Nat} (ho : oddB k f = false) (bs : List UInt8) (ts : List (List UInt8)) (more : List UInt8) (ht : ts.length ≤ 7) (h32 : ∀ t ∈ ts, t.length = 32) (hl : (wireB k f bs ts ++ more).length ≤ 1048576) :
    parseB (wireB k f bs ts ++ more) = if more = [] then (0, k, f, bs, ts) else (2, 0, 0, [], []) := by
  have hkf := oddB_lt ho
  have hwl := wireB_len (ku := k) (fu := f) (bs := bs) h32
  have hlen := hl
  rw [List.length_append, hwl] at hlen
  unfold parseB
  rw [if_neg (by omega)]
  unfold parseR
  rw [headsR_app (by omega) (by omega) bs ts more (by rw [List.length_append, hwl]; omega) (by omega) ht]
  dsimp only
  rw [tagsR_app h32 more ts.length (Nat.le_refl _)]
  dsimp only
  rw [List.drop_length, List.take_length, ho]
  by_cases hm : more = []
  · subst hm; simp [endR]
  · have h0 : 0 < more.length := List.length_pos_iff.2 hm
    rw [if_neg hm, if_pos]
    left
    unfold endR
    rw [if_pos ⟨rfl, by simpa using h0⟩]
    decide
theorem wireB_inj {k f k' f' : Nat} (ho : oddB k f = false) (ho' : oddB k' f' = false) (bs bs' : List UInt8) (ts ts' : List (List UInt8)) (ht : ts.length ≤ 7) (h32 : ∀ t ∈ ts, t.length = 32) (hl : (wireB k f bs ts).length ≤ 1048576)
    (ht' : ts'.length ≤ 7) (h32' : ∀ t ∈ ts', t.length = 32) (hl' : (wireB k' f' bs' ts').length ≤ 1048576) : wireB k f bs ts = wireB k' f' bs' ts' ↔ (k = k' ∧ f = f' ∧ bs = bs' ∧ ts = ts') := by
  constructor
  · intro e
    have h1 := parseB_wire ho bs ts [] ht h32 (by rwa [List.append_nil])
    have h2 := parseB_wire ho' bs' ts' [] ht' h32' (by rwa [List.append_nil])
    rw [List.append_nil, if_pos rfl] at h1 h2
    rw [e, h2] at h1
    simp only [Prod.mk.injEq, true_and] at h1
    obtain ⟨rfl, rfl, rfl, rfl⟩ := h1
    exact ⟨rfl, rfl, rfl, rfl⟩
  · rintro ⟨rfl, rfl, rfl, rfl⟩; rfl
end Go.Proofs.Ytgbljldpamjcpaa
