/-
  The sum of bytes as a plain function. Conditions are typed with each.
-/
import Derived.Test.YtkhdodlfkpcojaaSd
import Derived.Test.YtkhdodlfkpcojaaOc
namespace Go.Proofs.Ytkhdodlfkpcojaa
open Go.RowKit
def h0 : S8 := ⟨0x6a09e667#32, 0xbb67ae85#32, 0x3c6ef372#32, 0xa54ff53a#32, 0x510e527f#32, 0x9b05688c#32, 0x1f83d9ab#32, 0x5be0cd19#32⟩
def feedN : Nat → S8 → List UInt8 → S8
  | 0, s, _ => s
  | n + 1, s, bs => feedN n (comp s bs) (bs.drop 64)
theorem wordB_app {xs : List UInt8} (ys : List UInt8) {i : Nat} (h : 4 * i + 4 ≤ xs.length) : wordB (xs ++ ys) i = wordB xs i := by
  unfold wordB
  rw [List.drop_append_of_le_length (by omega), List.take_append_of_le_length (by rw [List.length_drop]; omega)]
theorem sch_app {xs : List UInt8} (ys : List UInt8) (h : 64 ≤ xs.length) : ∀ i, sch (xs ++ ys) i = sch xs i
  | 0 => rfl
  | i + 1 => by
    rw [sch_succ, sch_succ, sch_app ys h i]
    congr 2
    unfold nextW
    by_cases hi : i < 16
    · rw [if_pos hi, if_pos hi, wordB_app ys (by omega)]
    · rw [if_neg hi, if_neg hi]
theorem comp_app {xs : List UInt8} (s : S8) (ys : List UInt8) (h : 64 ≤ xs.length) : comp s (xs ++ ys) = comp s xs := by
  unfold comp; rw [sch_app ys h]
theorem feedN_app : ∀ (n : Nat) (s : S8) (xs ys : List UInt8), 64 * n ≤ xs.length → feedN n s (xs ++ ys) = feedN n s xs
  | 0, _, _, _, _ => rfl
  | n + 1, s, xs, ys, h => by
    show feedN n (comp s (xs ++ ys)) ((xs ++ ys).drop 64) = feedN n (comp s xs) (xs.drop 64)
    rw [comp_app s ys (by omega), List.drop_append_of_le_length (by omega), feedN_app n _ _ _ (by rw [List.length_drop]; omega)]
theorem feedN_succ : ∀ (n : Nat) (s : S8) (xs : List UInt8), feedN (n + 1) s xs = comp (feedN n s xs) (xs.drop (64 * n))
  | 0, _, _ => rfl
  | n + 1, s, xs => by
    show feedN (n + 1) (comp s xs) (xs.drop 64) = comp (feedN n (comp s xs) (xs.drop 64)) _
    rw [feedN_succ n, List.drop_drop, show 64 + 64 * n = 64 * (n + 1) from by omega]
theorem feedN_plus : ∀ (m n : Nat) (s : S8) (xs : List UInt8), feedN (m + n) s xs = feedN n (feedN m s xs) (xs.drop (64 * m))
  | m, 0, _, _ => rfl
  | m, n + 1, s, xs => by
    rw [← Nat.add_assoc, feedN_succ, feedN_plus m n, feedN_succ, List.drop_drop, show 64 * (m + n) = 64 * m + 64 * n from by omega]
theorem S8.ll (s s' : S8) : s.l.length = s'.l.length := by simp [S8.l]
/-- The blocks that are whole, and what is left. -/
def stB (t : List UInt8) : S8 := feedN (t.length / 64) h0 t
def restB (t : List UInt8) : List UInt8 := t.drop (64 * (t.length / 64))
theorem restB_len (t : List UInt8) : (restB t).length = t.length % 64 := by unfold restB; rw [List.length_drop]; omega
def zerosN (n : Nat) : Nat := (119 - n % 64) % 64
/-- What stands behind the bytes. -/
def tailB (n : Nat) : List UInt8 := [128] ++ List.replicate (zerosN n) 0 ++ putB (8 * n) 8
theorem tailB_len (n : Nat) : (tailB n).length = 9 + zerosN n := by
  have h : (putB (8 * n) 8).length = 8 := putB_len (m := 8) rfl
  unfold tailB
  rw [List.length_append, List.length_append, h]
  simp; omega
def digB (s : S8) : List UInt8 := (s.l.map fun w => putB w.toNat 4).flatten
/-- The sum. -/
def sumB (t : List UInt8) : List UInt8 := digB (feedN ((restB t ++ tailB t.length).length / 64) (stB t) (restB t ++ tailB t.length))
theorem flat_get {α : Type} {n : Nat} : ∀ {css : List (List α)} {i k : Nat} {c : List α}, (∀ c ∈ css, c.length = n) → css[i]? = some c → k < n → css.flatten[n * i + k]? = c[k]?
  | [], i, k, c, _, h, _ => by simp at h
  | d :: css, 0, k, c, h, hi, hk => by
    have hd := h d List.mem_cons_self
    have : d = c := by simpa using hi
    subst this
    rw [List.flatten_cons, Nat.mul_zero, Nat.zero_add, List.getElem?_append_left (by omega)]
  | d :: css, i + 1, k, c, h, hi, hk => by
    have hd := h d List.mem_cons_self
    rw [List.flatten_cons, List.getElem?_append_right (by rw [hd, Nat.mul_succ]; omega), hd, show n * (i + 1) + k - n = n * i + k from by rw [Nat.mul_succ]; omega]
    exact flat_get (fun c hc => h c (List.mem_cons_of_mem _ hc)) (by simpa using hi) hk
theorem digB_len (s : S8) : (digB s).length = 32 := by
  have h : ∀ w : W, (putB w.toNat 4).length = 4 := fun w => putB_len (m := 4) rfl
  simp [digB, S8.l, h]
theorem digB_at {s : S8} {i k : Nat} {x : W} (hi : s.l[i]? = some x) (hk : k < 4) : (digB s)[4 * i + k]? = some (UInt8.ofNat (x.toNat >>> (24 - 8 * k))) := by
  unfold digB
  rw [flat_get (n := 4) (c := putB x.toNat 4) (fun c hc => by obtain ⟨w, _, rfl⟩ := List.mem_map.1 hc; exact putB_len (m := 4) rfl) (by rw [List.getElem?_map, hi]; rfl) hk]
  have := putB_at (v := x.toNat) (m := 4) (j := k) rfl hk
  rw [show 8 * (4 - 1 - k) = 24 - 8 * k from by omega] at this
  exact this
def wr32 (bs : List UInt8) (i : Nat) : List Value := u8s (bs.take i) ++ List.replicate (32 - i) (.int .u8 0)
theorem wr32_set {bs : List UInt8} {i : Nat} {c : UInt8} (hl : bs.length ≤ 32) (hi : bs[i]? = some c) : (wr32 bs i).set i (.int .u8 (c.toNat : Int)) = wr32 bs (i + 1) := by
  have hlt := (List.getElem?_eq_some_iff.1 hi).1
  have h1 : (u8s (bs.take i)).length = i := by rw [u8s_len, List.length_take]; omega
  unfold wr32
  rw [List.set_append_right _ _ (by omega), h1, Nat.sub_self, show 32 - i = (32 - (i + 1)) + 1 from by omega, List.replicate_succ, List.set_cons_zero, take_snoc hi, u8s_append, List.append_assoc]
  rfl
theorem wr32_len {bs : List UInt8} {i : Nat} (hl : bs.length ≤ 32) (hi : i ≤ bs.length) : (wr32 bs i).length = 32 := by
  unfold wr32; rw [List.length_append, u8s_len]; simp; omega
theorem wr32_full {bs : List UInt8} (h : bs.length = 32) : wr32 bs 32 = u8s bs := by
  unfold wr32; rw [List.take_of_length_le (by omega)]; simp
theorem wr32_lay {bs : List UInt8} {i : Nat} {c : UInt8} (hl : bs.length ≤ 32) (hi : bs[i]? = some c) : Lay (0 + i * 1) [.int .u8 (c.toNat : Int)] (wr32 bs i) (wr32 bs (i + 1)) := by
  have hlt := (List.getElem?_eq_some_iff.1 hi).1
  rw [Nat.zero_add, Nat.mul_one, ← wr32_set hl hi]
  exact lay_set _ (by rw [wr32_len hl (by omega)]; omega)
end Go.Proofs.Ytkhdodlfkpcojaa
