/-
  The octets' readers: ok, fail, Fixed; the document's Fixed. Conditions are typed with each.
-/
import Derived.Test.YtmicjjhkoicdnaaDoorOc
namespace Go.Proofs.YtmicjjhkoicdnaaDoor
open Go.RowKit
set_option maxRecDepth 100000
theorem Byt.form {F : PH} {v : Value} {bs : List UInt8} (h : Byt F v bs) : ∃ a c, v = .slice a bs.length c ∧ bs.length ≤ c := by
  obtain ⟨_, a, c, e, hn, _⟩ := h
  exact ⟨a, c, e, hn⟩
theorem Byt.pre {F : PH} {a : Option Addr} {c : Nat} {bs : List UInt8} (h : Byt F (.slice a bs.length c) bs) {k m : Nat} (hk : k ≤ bs.length) (hm : k ≤ m) : SliceV F 1 (.slice a k m) k (u8s (bs.take k)) := by
  obtain ⟨h1, a', c', e, h2, h3⟩ := h
  cases e
  refine ⟨by simp [u8s]; omega, a, m, rfl, hm, fun h0 => ?_⟩
  obtain ⟨b, off, ha, hc⟩ := h3 (by omega)
  refine ⟨b, off, ha, ?_⟩
  have : u8s bs = u8s (bs.take k) ++ u8s (bs.drop k) := by rw [← u8s_append, List.take_append_drop]
  rw [this] at hc
  exact hc.left
theorem Byt.suf {F : PH} {a : Option Addr} {c : Nat} {bs : List UInt8} (h : Byt F (.slice a bs.length c) bs) {k : Nat} (hk : k ≤ bs.length) (hc : bs.length ≤ c) : Byt F (cutV a 1 c k bs.length c) (bs.drop k) := by
  have := SliceV.cut (c := c) (lo := k) (hi := bs.length) (m := c) h hk (Nat.le_refl _) hc
  unfold Byt
  rw [List.length_drop, u8s_drop]
  simp only [Nat.mul_one] at this
  rw [List.take_of_length_le (by rw [List.length_drop, u8s_len]; exact Nat.le_refl _)] at this
  exact this
theorem Byt.nil (F : PH) : Byt F (.slice none 0 0) [] := SliceV.nil F 1
theorem bytes_byt {F h : PH} {v : Value} {bs : List UInt8} (ho : bytes v bs h) (hd : F.dj h) : Byt (F.un h) v bs := own_slice ho hd
theorem clone_spec' (a : Option Addr) (n c : Nat) (bs : List UInt8) (F : PH) (hl : bs.length = n) (h : SliceV F 1 (.slice a n c) n (u8s bs)) (hn : n ≤ 1099511627776) :
    Spec Tryd.prog 45 [.slice a n c] F [] fun u F' H' => F = F' ∧ (u = .slice none 0 0 ↔ a = none) ∧ H' = [bytes u bs] := by
  subst hl; exact clone_spec a c bs F h hn
/-- The end of a function without results. -/
theorem J_end {P : Program} {fn : Func} {N : Nat} {w0 : World} {l : Env} {F F0 : PH} {H X : List Asrt} {Q : Value → PH → List Asrt → Prop} (hres : fn.results = #[]) (H' : List Asrt) (hH : ∀ w, Sat F H w → Sat F (H' ++ X) w) (hF : F0.le F) (hQ : Q (.tuple #[]) F H') :
    J ⟨P, fn, Post w0 F0 X Q, N, w0⟩ [] l F H := by
  unfold J
  intro a w ha hm hs
  exact ⟨ha.defers, _, results_run ha hs (rs := []) (vs := []) (by simp [hres]) .nil, ⟨_, F, H', rfl, hF, hQ, hm, hH w hs⟩⟩
/-- What Fixed reads, the failure and what is left. -/
def fixR (e : Int) (bs : List UInt8) (n : Int) : List UInt8 × Int × List UInt8 := if e ≠ 0 then ([], e, bs) else if n < 0 ∨ bs.length < n then ([], 2, bs) else (bs.take n.toNat, 0, bs.drop n.toNat)
def FixQ (R : Nat → Value → Int → Asrt) (b : Nat) (r : List UInt8 × Int × List UInt8) (u : Value) (F' : PH) (H' : List Asrt) : Prop := ∃ v', Byt F' u r.1 ∧ Byt F' v' r.2.2 ∧ H' = [R b v' r.2.1]
end Go.Proofs.YtmicjjhkoicdnaaDoor
