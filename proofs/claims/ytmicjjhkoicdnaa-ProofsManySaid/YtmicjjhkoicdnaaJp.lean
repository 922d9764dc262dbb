/-
  Many proposals of one number: those of the latest views stay. Plain.
-/
import Derived.Test.YtmicjjhkoicdnaaJo
namespace Go.Proofs.Ytmicjjhkoicdnaa
open Go.RowKit
set_option maxRecDepth 100000
def enM (i : Nat) : EntX := ((0, (i : Int), 0, [], 0, 0, [], ()), 0, ())
def kM (seq : Int) (i : Nat) : PrX := (seq, (i : Int), [enM i], ())
/-- What is kept behind so many. -/
def mN (seq : Int) (i : Nat) : List PrX := (List.range' (i - 64) (min i 64)).map (kM seq)
theorem mN_len (seq : Int) (i : Nat) : (mN seq i).length = min i 64 := by unfold mN; rw [List.length_map, List.length_range']
theorem alike_no {seq : Int} {i j : Nat} (h : j ≠ i) : alikeP (kM seq i) (kM seq j) = false := by
  have : sameE [enM j] [enM i] = false := by
    unfold sameE
    rw [decide_eq_false]
    intro e
    have e1 := (List.cons.inj e).1
    have e2 : (j : Int) = (i : Int) := congrArg (fun x : EntX => x.1.2.1) e1
    omega
  show (decide _ && sameE [enM j] [enM i]) = false
  rw [this, Bool.and_false]
theorem worst_zero (seq : Int) (s n : Nat) : ∀ i, worstN ((List.range' s n).map (kM seq)) i = 0
  | 0 => rfl
  | i + 1 => by
    unfold worstN
    rw [worst_zero seq s n i]
    split
    · rename_i y w hy hw
      rw [List.getElem?_map] at hy hw
      obtain ⟨p, hp, rfl⟩ := Option.map_eq_some_iff.1 hy
      obtain ⟨q, hq, rfl⟩ := Option.map_eq_some_iff.1 hw
      have hp' := (List.getElem?_eq_some_iff.1 hp)
      have hq' := (List.getElem?_eq_some_iff.1 hq)
      obtain ⟨hp1, hp2⟩ := hp'
      obtain ⟨hq1, hq2⟩ := hq'
      rw [List.getElem_range'] at hp2 hq2
      have hf : ltW (kM seq p) (kM seq q) = false := by
        rw [show ltW (kM seq p) (kM seq q) = (decide ((p : Int) < (q : Int)) || (decide ((p : Int) = (q : Int)) && decide (seq < seq))) from rfl]
        simp
        omega
      rw [hf]
      rfl
    · rfl
theorem prop_mN (seq : Int) (i : Nat) : propP (mN seq i) (kM seq i) = mN seq (i + 1) := by
  have hnew : newerP (alikeP (kM seq i)) (mN seq i) (kM seq i) = (List.range' (i - 64) (min i 64 + 1)).map (kM seq) := by
    rw [newer_none]
    · unfold mN
      rw [List.range'_concat, List.map_append, List.map_singleton]
      congr 3
      omega
    · intro y hy
      unfold mN at hy
      obtain ⟨j, hj, rfl⟩ := List.mem_map.1 hy
      have := List.mem_range'_1.1 hj
      exact alike_no (by omega)
  unfold propP
  dsimp only
  rw [hnew, List.length_map, List.length_range']
  by_cases h : i < 64
  · rw [if_pos (by omega)]
    unfold mN
    rw [show i - 64 = i + 1 - 64 from by omega, show min i 64 + 1 = min (i + 1) 64 from by omega]
  · rw [if_neg (by omega), worst_zero]
    unfold mN
    rw [show min i 64 + 1 = (min (i + 1) 64) + 1 from by omega, List.range'_succ, List.map_cons, List.eraseIdx_zero, List.tail_cons, show i - 64 + 1 = i + 1 - 64 from by omega]
theorem sorted_mN (seq : Int) (i : Nat) {L : List PV} (h : L.map PV.key = mN seq i) : isortL ltS L = L := by
  have hs : Srtd ltS L := by
    have h1 : (L.map PV.key).Pairwise (fun a b => a.1 = b.1 ∧ a.2.1 < b.2.1) := by
      rw [h]
      unfold mN
      rw [List.pairwise_map]
      exact (List.pairwise_lt_range' (s := i - 64) (n := min i 64)).imp fun {a b} hab => ⟨rfl, by show (a : Int) < (b : Int); omega⟩
    rw [List.pairwise_map] at h1
    refine h1.imp fun {a b} hab => ?_
    have e1 : a.s = b.s := hab.1
    have e2 : a.w < b.w := hab.2
    unfold ltS
    simp
    omega
  exact srtd_eq ltS_swo (isortL_ok ltS_swo L).1 hs (isortL_ok ltS_swo L).2.symm
theorem view_mN {seq : Int} {i j : Nat} {L : List PV} {y : PV} (h : L.map PV.key = mN seq i) (hy : L[j]? = some y) : y.w = ((i - 64 + j : Nat) : Int) := by
  have h1 : (mN seq i)[j]? = some y.key := by rw [← h, List.getElem?_map, hy]; rfl
  unfold mN at h1
  rw [List.getElem?_map] at h1
  obtain ⟨p, hp, e⟩ := Option.map_eq_some_iff.1 h1
  obtain ⟨hp1, hp2⟩ := List.getElem?_eq_some_iff.1 hp
  rw [List.getElem_range'] at hp2
  have e2 : (p : Int) = y.w := congrArg (fun x : PrX => x.2.1) e
  omega
end Go.Proofs.Ytmicjjhkoicdnaa
