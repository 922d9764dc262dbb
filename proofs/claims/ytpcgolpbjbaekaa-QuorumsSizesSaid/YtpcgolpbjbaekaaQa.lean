/-
  The quorums' plain side: sets as numbers, what the program's and the document's functions come to. No program; no condition.
-/
import Derived.Test.YtpcgolpbjbaekaaKh
namespace Go.Proofs.Ytpcgolpbjbaekaa
def hasB (s i : Nat) : Bool := decide (s / 2 ^ i % 2 = 1)
def countN (s : Nat) : Nat := ((List.range 7).filter (hasB s)).length
def sharedN (a b : Nat) : Nat := ((List.range 7).filter (fun i => hasB a i && hasB b i)).length
def setsN (n q : Nat) : List Nat := (List.range (2 ^ n)).filter (fun s => decide (countN s = q))
def rightP (n f q : Int) : Prop := 1 ≤ n ∧ n ≤ 7 ∧ 0 ≤ f ∧ f ≤ n ∧ 0 ≤ q ∧ q ≤ n
instance (n f q : Int) : Decidable (rightP n f q) := by unfold rightP; infer_instance
theorem filt_yes {p : Nat → Bool} {j : Nat} (h : p j = true) : (List.range (j + 1)).filter p = (List.range j).filter p ++ [j] := by rw [List.range_succ, List.filter_append]; simp [h]
theorem filt_no {p : Nat → Bool} {j : Nat} (h : p j = false) : (List.range (j + 1)).filter p = (List.range j).filter p := by rw [List.range_succ, List.filter_append]; simp [h]
theorem filt_le (p : Nat → Bool) (j : Nat) : ((List.range j).filter p).length ≤ j := by have := List.length_filter_le p (List.range j); simpa using this
def u32v (s : Nat) : Value := .int .u32 (s : Int)
theorem popc_le : ∀ s, s < 128 → countN s ≤ 7 := by decide +kernel
def safeP (n f q : Int) : Prop := rightP n f q ∧ f < max (2 * q - n) 0
instance (n f q : Int) : Decidable (safeP n f q) := by unfold safeP; infer_instance
def liveP (n f q : Int) : Prop := rightP n f q ∧ q ≤ n - f
instance (n f q : Int) : Decidable (liveP n f q) := by unfold liveP; infer_instance
def i64v (s : Nat) : Value := .int .i64 (s : Int)
def sizesTo (n f : Int) (k : Nat) : List Nat := (List.range k).filter (fun q => decide (safeP n f q) && decide (liveP n f q))
def sizesN (n f : Int) : List Nat := sizesTo n f ((max (min n 7) 0).toNat + 1)
def mostTo (n : Int) : Nat → Nat
  | 0 => 0
  | k + 1 => if sizesN n ((k + 1 : Nat) : Int) = [] then mostTo n k else k + 1
def mostN (n : Int) : Nat := mostTo n (min n 7).toNat
def withinB (n s k : Nat) : Bool := (List.range k).all (fun i => !(decide (n ≤ i) && hasB s i))
def setsR (n q : Nat) : List Nat := (List.range 128).filter (fun s => withinB n s 7 && decide (countN s = q))
theorem setsR_eq : ∀ n, n < 8 → ∀ q, q < 8 → setsR n q = setsN n q := by decide +kernel
theorem setsN_small : ∀ n, n < 8 → ∀ q, q < 8 → ∀ x ∈ setsN n q, x < 128 := by decide +kernel
def meetR (S : List Nat) : Nat := S.foldl (fun m a => S.foldl (fun m b => min m (sharedN a b)) m) 7
def safeR (S : List Nat) (f : Nat) : Bool := S.all fun a => S.all fun b => decide (f < sharedN a b)
def liveR (L S : List Nat) : Bool := L.all fun x => S.any fun a => decide (sharedN a x = 0)
theorem meet_eq : ∀ n, n < 8 → ∀ q, q < 8 → 1 ≤ n → q ≤ n → (meetR (setsN n q) : Int) = max (2 * (q : Int) - n) 0 := by decide +kernel
def chkQ (n q f : Nat) : Bool := !(decide (1 ≤ n) && decide (q ≤ n) && decide (f ≤ n)) || ((safeR (setsN n q) f == decide ((f : Int) < max (2 * (q : Int) - n) 0)) && (liveR (setsN n f) (setsN n q) == decide ((q : Int) ≤ n - f)))
theorem chkQ_all : ((List.range 8).all fun n => (List.range 8).all fun q => (List.range 8).all fun f => chkQ n q f) = true := by decide +kernel
theorem chkQ_at (n q f : Nat) (hn : n < 8) (hq : q < 8) (hf : f < 8) : chkQ n q f = true := by
  have h := chkQ_all
  simp only [List.all_eq_true, List.mem_range] at h
  exact h n hn q hq f hf
theorem safe_eq (n q f : Nat) (hn : n < 8) (h1 : 1 ≤ n) (hq : q ≤ n) (hf : f ≤ n) : safeR (setsN n q) f = decide ((f : Int) < max (2 * (q : Int) - n) 0) := by
  have h := chkQ_at n q f hn (by omega) (by omega)
  simp [chkQ, h1, hq, hf] at h
  exact h.1
theorem live_eq (n q f : Nat) (hn : n < 8) (h1 : 1 ≤ n) (hq : q ≤ n) (hf : f ≤ n) : liveR (setsN n f) (setsN n q) = decide ((q : Int) ≤ n - f) := by
  have h := chkQ_at n q f hn (by omega) (by omega)
  simp [chkQ, h1, hq, hf] at h
  exact h.2
theorem foldl_take {α β : Type} {S : List α} {j : Nat} {x : α} (f : β → α → β) (z : β) (h : S[j]? = some x) : (S.take (j + 1)).foldl f z = f ((S.take j).foldl f z) x := by
  have hlt := (List.getElem?_eq_some_iff.1 h).1
  rw [List.take_succ_eq_append_getElem hlt, List.foldl_append]
  have : S[j] = x := (List.getElem?_eq_some_iff.1 h).2
  simp [this]
theorem all_take {α : Type} {S : List α} {j : Nat} {x : α} (p : α → Bool) (h : S[j]? = some x) : (S.take (j + 1)).all p = ((S.take j).all p && p x) := by
  have hlt := (List.getElem?_eq_some_iff.1 h).1
  rw [List.take_succ_eq_append_getElem hlt, List.all_append]
  have : S[j] = x := (List.getElem?_eq_some_iff.1 h).2
  simp [this]
theorem any_take {α : Type} {S : List α} {j : Nat} {x : α} (p : α → Bool) (h : S[j]? = some x) : (S.take (j + 1)).any p = ((S.take j).any p || p x) := by
  have hlt := (List.getElem?_eq_some_iff.1 h).1
  rw [List.take_succ_eq_append_getElem hlt, List.any_append]
  have : S[j] = x := (List.getElem?_eq_some_iff.1 h).2
  simp [this]
theorem at_lt {α : Type} {S : List α} {j : Nat} (h : j < S.length) : ∃ x, S[j]? = some x ∧ x ∈ S := ⟨S[j], List.getElem?_eq_getElem h, List.getElem_mem h⟩
theorem all_no {α : Type} {S : List α} {x : α} {p : α → Bool} (hx : x ∈ S) (h : p x = false) : S.all p = false := by
  rw [List.all_eq_false]; exact ⟨x, hx, by rw [h]; simp⟩
theorem sharedN_le (a b : Nat) : sharedN a b ≤ 7 := filt_le _ 7
end Go.Proofs.Ytpcgolpbjbaekaa
