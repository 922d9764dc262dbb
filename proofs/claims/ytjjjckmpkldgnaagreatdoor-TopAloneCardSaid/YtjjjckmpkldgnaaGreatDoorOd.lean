/-
  The octets' readers: ok, fail, Fixed; the document's Fixed. Conditions are typed with each.
  The octets' readers: the document's Fixed; Number, the program's and the document's. Conditions are typed with each.
  The octets' readers: Range, the program's and the document's. Conditions are typed with each.
  The octets' readers: Row, Count, End, the program's and the document's; Read; no reader. Conditions are typed with each.
  What arguments that come in give: rows of bytes, rows of structs. Plain theorems over any program; no condition.
-/
import Derived.Test.YtjjjckmpkldgnaaGreatDoorOa
import Derived.Test.YtjjjckmpkldgnaaGreatDoorKja
import Derived.Deep.Slices
import Derived.SliceStrings
namespace Go.Proofs.YtjjjckmpkldgnaaGreatDoor
open Go.RowKit
set_option maxRecDepth 100000
theorem Byt.form {F : PH} {v : Value} {bs : List UInt8} (h : Byt F v bs) : ∃ a c, v = .slice a bs.length c ∧ bs.length ≤ c := by
  obtain ⟨_, a, c, e, hn, _⟩ := h
  exact ⟨a, c, e, hn⟩
theorem Byt.pre {F : PH} {a : Option Addr} {c : Nat} {bs : List UInt8} (h : Byt F (.slice a bs.length c) bs) {k m : Nat} (hk : k ≤ bs.length) (hm : k ≤ m) : SliceV F 1 (.slice a k m) k (u8s (bs.take k)) := by
  obtain ⟨h1, a', c', e, h2, h3⟩ := h
  cases e
  refine ⟨by simp [u8s]; omega, a, m, rfl, hm, fun h0 => ?_⟩
  obtain ⟨b, off, ha, hc⟩ := h3 (by omega)
  refine ⟨b, off, ha, ?_⟩
  have : u8s bs = u8s (bs.take k) ++ u8s (bs.drop k) := by rw [← u8s_append, List.take_append_drop]
  rw [this] at hc
  exact hc.left
theorem Byt.suf {F : PH} {a : Option Addr} {c : Nat} {bs : List UInt8} (h : Byt F (.slice a bs.length c) bs) {k : Nat} (hk : k ≤ bs.length) (hc : bs.length ≤ c) : Byt F (cutV a 1 c k bs.length c) (bs.drop k) := by
  have := SliceV.cut (c := c) (lo := k) (hi := bs.length) (m := c) h hk (Nat.le_refl _) hc
  unfold Byt
  rw [List.length_drop, u8s_drop]
  simp only [Nat.mul_one] at this
  rw [List.take_of_length_le (by rw [List.length_drop, u8s_len]; exact Nat.le_refl _)] at this
  exact this
theorem Byt.nil (F : PH) : Byt F (.slice none 0 0) [] := SliceV.nil F 1
theorem bytes_byt {F h : PH} {v : Value} {bs : List UInt8} (ho : bytes v bs h) (hd : F.dj h) : Byt (F.un h) v bs := own_slice ho hd
theorem clone_spec' (a : Option Addr) (n c : Nat) (bs : List UInt8) (F : PH) (hl : bs.length = n) (h : SliceV F 1 (.slice a n c) n (u8s bs)) (hn : n ≤ 1099511627776) :
    Spec Tryz.prog 46 [.slice a n c] F [] fun u F' H' => F = F' ∧ (u = .slice none 0 0 ↔ a = none) ∧ H' = [bytes u bs] := by
  subst hl; exact clone_spec a c bs F h hn
/-- The end of a function without results. -/
theorem J_end {P : Program} {fn : Func} {N : Nat} {w0 : World} {l : Env} {F F0 : PH} {H X : List Asrt} {Q : Value → PH → List Asrt → Prop} (hres : fn.results = #[]) (H' : List Asrt) (hH : ∀ w, Sat F H w → Sat F (H' ++ X) w) (hF : F0.le F) (hQ : Q (.tuple #[]) F H') :
    J ⟨P, fn, Post w0 F0 X Q, N, w0⟩ [] l F H := by
  unfold J
  intro a w ha hm hs
  exact ⟨ha.defers, _, results_run ha hs (rs := []) (vs := []) (by simp [hres]) .nil, ⟨_, F, H', rfl, hF, hQ, hm, hH w hs⟩⟩
/-- A reader's struct. -/
abbrev rdr (b : Nat) (v : Value) (e : Int) : Asrt := blk b 423 [v, .int .i64 e]
set_option maxHeartbeats 1000000 in
theorem ok_spec (b : Nat) (v : Value) (e : Int) (x : Bool) (hx : decide (e = 0) = x) (F : PH) : Spec Tryz.prog 287 [.pointer (some ⟨b, 0, none⟩)] F [rdr b v e] fun u F' H' => F = F' ∧ u = .bool x ∧ H' = [rdr b v e] := by
  refine Spec.of1 Tryz.func287 rfl rfl fun X w0 => ?_
  show J _ _ _ _ (rdr b v e :: X)
  cases x with
  | true =>
    have he : e = 0 := by simpa using hx
    repeat (first|refine zJ rfl rfl ?_|refine jr rfl ?_|refine jn ?_|refine zM rfl rfl ?_|(refine zC rfl rfl ?_ rfl ?_;omega)|(refine zD rfl rfl ?_ rfl ?_;omega)|(refine zP rfl ?_ rfl ?_;omega)|refine zG rfl rfl rfl rfl ?_|(refine jdq rfl rfl ?_ ?_ ?_;kernel_rfl;kernel_rfl)|refine zB rfl rfl rfl (by repeat constructor) rfl ?_|refine zH .here rfl rfl rfl rfl ?_|refine zH (.there .here) rfl rfl rfl rfl ?_|refine zH (.there (.there .here)) rfl rfl rfl rfl ?_)
    exact J_ret1 rfl rfl [rdr b v e] rfl (PH.ler _) ⟨rfl, rfl, rfl⟩
  | false =>
    have he : ¬ e = 0 := by simpa using hx
    repeat (first|refine zJ rfl rfl ?_|refine jr rfl ?_|refine jn ?_|refine zM rfl rfl ?_|(refine zC rfl rfl ?_ rfl ?_;omega)|(refine zD rfl rfl ?_ rfl ?_;omega)|(refine zP rfl ?_ rfl ?_;omega)|refine zG rfl rfl rfl rfl ?_|(refine jdq rfl rfl ?_ ?_ ?_;kernel_rfl;kernel_rfl)|refine zB rfl rfl rfl (by repeat constructor) rfl ?_|refine zH .here rfl rfl rfl rfl ?_|refine zH (.there .here) rfl rfl rfl rfl ?_|refine zH (.there (.there .here)) rfl rfl rfl rfl ?_)
    exact J_ret1 rfl rfl [rdr b v e] rfl (PH.ler _) ⟨rfl, rfl, rfl⟩
set_option maxHeartbeats 1000000 in
theorem fail_spec (b : Nat) (v : Value) (e : Int) (F : PH) : Spec Tryz.prog 288 [.pointer (some ⟨b, 0, none⟩), .int .i64 e] F [rdr b v 0] fun u F' H' => F = F' ∧ H' = [rdr b v e] := by
  refine Spec.of2 Tryz.func288 rfl rfl fun X w0 => ?_
  show J _ _ _ _ (rdr b v 0 :: X)
  repeat (first|refine zJ rfl rfl ?_|refine jr rfl ?_|refine jn ?_|refine zM rfl rfl ?_|(refine zC rfl rfl ?_ rfl ?_;omega)|(refine zD rfl rfl ?_ rfl ?_;omega)|(refine zP rfl ?_ rfl ?_;omega)|refine zG rfl rfl rfl rfl ?_|(refine jdq rfl rfl ?_ ?_ ?_;kernel_rfl;kernel_rfl)|refine zB rfl rfl rfl (by repeat constructor) rfl ?_|refine zH .here rfl rfl rfl rfl ?_|refine zH (.there .here) rfl rfl rfl rfl ?_|refine zH (.there (.there .here)) rfl rfl rfl rfl ?_)
  refine oN (ev_store rfl rfl .int rfl rfl (.skip (.put .nil)) (ones_cons rfl ones_nil) .here) rfl ?_
  rintro _ _ _ _ ⟨rfl, _, rfl⟩
  repeat (first|refine zJ rfl rfl ?_|refine jr rfl ?_|refine jn ?_|refine zM rfl rfl ?_|(refine zC rfl rfl ?_ rfl ?_;omega)|(refine zD rfl rfl ?_ rfl ?_;omega)|(refine zP rfl ?_ rfl ?_;omega)|refine zG rfl rfl rfl rfl ?_|(refine jdq rfl rfl ?_ ?_ ?_;kernel_rfl;kernel_rfl)|refine zB rfl rfl rfl (by repeat constructor) rfl ?_|refine zH .here rfl rfl rfl rfl ?_|refine zH (.there .here) rfl rfl rfl rfl ?_|refine zH (.there (.there .here)) rfl rfl rfl rfl ?_)
  exact J_end rfl [rdr b v e] (fun w s => s) (PH.ler _) ⟨rfl, rfl⟩
/-- What Fixed reads, the failure and what is left. -/
def fixR (e : Int) (bs : List UInt8) (n : Int) : List UInt8 × Int × List UInt8 := if e ≠ 0 then ([], e, bs) else if n < 0 ∨ bs.length < n then ([], 2, bs) else (bs.take n.toNat, 0, bs.drop n.toNat)
def FixQ (R : Nat → Value → Int → Asrt) (b : Nat) (r : List UInt8 × Int × List UInt8) (u : Value) (F' : PH) (H' : List Asrt) : Prop := ∃ v', Byt F' u r.1 ∧ Byt F' v' r.2.2 ∧ H' = [R b v' r.2.1]
set_option maxHeartbeats 2000000 in
theorem fixed_spec (b : Nat) (v : Value) (e n : Int) (bs : List UInt8) (F : PH) (h : Byt F v bs) (hl : bs.length ≤ 1099511627776) :
    Spec Tryz.prog 266 [.pointer (some ⟨b, 0, none⟩), .int .i64 n] F [rdr b v e] (FixQ rdr b (fixR e bs n)) := by
  obtain ⟨a, c, rfl, hc⟩ := h.form
  refine Spec.of2 Tryz.func266 rfl rfl fun X w0 => ?_
  show J _ _ _ _ (rdr b _ e :: X)
  repeat (first|refine zJ rfl rfl ?_|refine jr rfl ?_|refine jn ?_|refine zM rfl rfl ?_|(refine zC rfl rfl ?_ rfl ?_;omega)|(refine zD rfl rfl ?_ rfl ?_;omega)|(refine zP rfl ?_ rfl ?_;omega)|refine zG rfl rfl rfl rfl ?_|(refine jdq rfl rfl ?_ ?_ ?_;kernel_rfl;kernel_rfl)|refine zB rfl rfl rfl (by repeat constructor) rfl ?_|refine zH .here rfl rfl rfl rfl ?_|refine zH (.there .here) rfl rfl rfl rfl ?_|refine zH (.there (.there .here)) rfl rfl rfl rfl ?_)
  by_cases he : e = 0
  · subst he
    refine oC (Hc := [rdr b _ 0]) (Hr := X) (ok_spec b _ 0 true rfl F) Tryz.call287 rfl rfl (fun _ s => s) ?_
    rintro _ _ _ _ ⟨rfl, rfl, rfl⟩
    by_cases hn : n < 0 ∨ bs.length < n
    · have hr : fixR 0 bs n = ([], 2, bs) := by simp [fixR, hn]
      rw [hr]
      by_cases hn0 : n < 0
      · repeat (first|refine zJ rfl rfl ?_|refine jr rfl ?_|refine jn ?_|refine zM rfl rfl ?_|(refine zC rfl rfl ?_ rfl ?_;omega)|(refine zD rfl rfl ?_ rfl ?_;omega)|(refine zP rfl ?_ rfl ?_;omega)|refine zG rfl rfl rfl rfl ?_|(refine jdq rfl rfl ?_ ?_ ?_;kernel_rfl;kernel_rfl)|refine zB rfl rfl rfl (by repeat constructor) rfl ?_|refine zH .here rfl rfl rfl rfl ?_|refine zH (.there .here) rfl rfl rfl rfl ?_|refine zH (.there (.there .here)) rfl rfl rfl rfl ?_)
        refine oC (Hc := [rdr b _ 0]) (Hr := X) (fail_spec b _ 2 F) Tryz.call288 rfl rfl (fun _ s => s) ?_
        rintro _ _ _ _ ⟨rfl, rfl⟩
        repeat (first|refine zJ rfl rfl ?_|refine jr rfl ?_|refine jn ?_|refine zM rfl rfl ?_|(refine zC rfl rfl ?_ rfl ?_;omega)|(refine zD rfl rfl ?_ rfl ?_;omega)|(refine zP rfl ?_ rfl ?_;omega)|refine zG rfl rfl rfl rfl ?_|(refine jdq rfl rfl ?_ ?_ ?_;kernel_rfl;kernel_rfl)|refine zB rfl rfl rfl (by repeat constructor) rfl ?_|refine zH .here rfl rfl rfl rfl ?_|refine zH (.there .here) rfl rfl rfl rfl ?_|refine zH (.there (.there .here)) rfl rfl rfl rfl ?_)
        exact J_ret1 rfl rfl [rdr b _ 2] rfl (PH.ler _) ⟨_, Byt.nil F, h, rfl⟩
      · repeat (first|refine zJ rfl rfl ?_|refine jr rfl ?_|refine jn ?_|refine zM rfl rfl ?_|(refine zC rfl rfl ?_ rfl ?_;omega)|(refine zD rfl rfl ?_ rfl ?_;omega)|(refine zP rfl ?_ rfl ?_;omega)|refine zG rfl rfl rfl rfl ?_|(refine jdq rfl rfl ?_ ?_ ?_;kernel_rfl;kernel_rfl)|refine zB rfl rfl rfl (by repeat constructor) rfl ?_|refine zH .here rfl rfl rfl rfl ?_|refine zH (.there .here) rfl rfl rfl rfl ?_|refine zH (.there (.there .here)) rfl rfl rfl rfl ?_)
        refine oC (Hc := [rdr b _ 0]) (Hr := X) (fail_spec b _ 2 F) Tryz.call288 rfl rfl (fun _ s => s) ?_
        rintro _ _ _ _ ⟨rfl, rfl⟩
        repeat (first|refine zJ rfl rfl ?_|refine jr rfl ?_|refine jn ?_|refine zM rfl rfl ?_|(refine zC rfl rfl ?_ rfl ?_;omega)|(refine zD rfl rfl ?_ rfl ?_;omega)|(refine zP rfl ?_ rfl ?_;omega)|refine zG rfl rfl rfl rfl ?_|(refine jdq rfl rfl ?_ ?_ ?_;kernel_rfl;kernel_rfl)|refine zB rfl rfl rfl (by repeat constructor) rfl ?_|refine zH .here rfl rfl rfl rfl ?_|refine zH (.there .here) rfl rfl rfl rfl ?_|refine zH (.there (.there .here)) rfl rfl rfl rfl ?_)
        exact J_ret1 rfl rfl [rdr b _ 2] rfl (PH.ler _) ⟨_, Byt.nil F, h, rfl⟩
    · have hr : fixR 0 bs n = (bs.take n.toNat, 0, bs.drop n.toNat) := by simp [fixR, hn]
      rw [hr]
      obtain ⟨m, rfl⟩ : ∃ m : Nat, n = (m : Int) := ⟨n.toNat, by omega⟩
      have hm : m ≤ bs.length := by omega
      rw [show ((m : Int)).toNat = m from by omega]
      repeat (first|refine zJ rfl rfl ?_|refine jr rfl ?_|refine jn ?_|refine zM rfl rfl ?_|(refine zC rfl rfl ?_ rfl ?_;omega)|(refine zD rfl rfl ?_ rfl ?_;omega)|(refine zP rfl ?_ rfl ?_;omega)|refine zG rfl rfl rfl rfl ?_|(refine jdq rfl rfl ?_ ?_ ?_;kernel_rfl;kernel_rfl)|refine zB rfl rfl rfl (by repeat constructor) rfl ?_|refine zH .here rfl rfl rfl rfl ?_|refine zH (.there .here) rfl rfl rfl rfl ?_|refine zH (.there (.there .here)) rfl rfl rfl rfl ?_)
      refine oS (ev_slice_clip (hi := m) (m := m) rfl rfl rfl rfl (Nat.le_refl _) (by omega)) rfl ?_
      refine oC (Hc := []) (Hr := rdr b (.slice a bs.length c) 0 :: X) (clone_spec' a m m (bs.take m) F (by simp; omega) (h.pre hm (Nat.le_refl _)) (by omega)) Tryz.call46 rfl rfl (fun _ s => s) ?_
      rintro u _ _ _ ⟨rfl, _, rfl⟩
      refine oPersist fun h' hA hdj => ?_
      repeat (first|refine zJ rfl rfl ?_|refine jr rfl ?_|refine jn ?_|refine zM rfl rfl ?_|(refine zC rfl rfl ?_ rfl ?_;omega)|(refine zD rfl rfl ?_ rfl ?_;omega)|(refine zP rfl ?_ rfl ?_;omega)|refine zG rfl rfl rfl rfl ?_|(refine jdq rfl rfl ?_ ?_ ?_;kernel_rfl;kernel_rfl)|refine zB rfl rfl rfl (by repeat constructor) rfl ?_|refine zH .here rfl rfl rfl rfl ?_|refine zH (.there .here) rfl rfl rfl rfl ?_|refine zH (.there (.there .here)) rfl rfl rfl rfl ?_)
      refine oS (ev_slice_lo (lo := m) rfl rfl rfl hm) rfl ?_
      repeat (first|refine zJ rfl rfl ?_|refine jr rfl ?_|refine jn ?_|refine zM rfl rfl ?_|(refine zC rfl rfl ?_ rfl ?_;omega)|(refine zD rfl rfl ?_ rfl ?_;omega)|(refine zP rfl ?_ rfl ?_;omega)|refine zG rfl rfl rfl rfl ?_|(refine jdq rfl rfl ?_ ?_ ?_;kernel_rfl;kernel_rfl)|refine zB rfl rfl rfl (by repeat constructor) rfl ?_|refine zH .here rfl rfl rfl rfl ?_|refine zH (.there .here) rfl rfl rfl rfl ?_|refine zH (.there (.there .here)) rfl rfl rfl rfl ?_)
      refine oN (ev_store rfl rfl .slice rfl rfl (.put .nil) (ones_cons rfl ones_nil) .here) rfl ?_
      rintro _ _ _ _ ⟨rfl, _, rfl⟩
      repeat (first|refine zJ rfl rfl ?_|refine jr rfl ?_|refine jn ?_|refine zM rfl rfl ?_|(refine zC rfl rfl ?_ rfl ?_;omega)|(refine zD rfl rfl ?_ rfl ?_;omega)|(refine zP rfl ?_ rfl ?_;omega)|refine zG rfl rfl rfl rfl ?_|(refine jdq rfl rfl ?_ ?_ ?_;kernel_rfl;kernel_rfl)|refine zB rfl rfl rfl (by repeat constructor) rfl ?_|refine zH .here rfl rfl rfl rfl ?_|refine zH (.there .here) rfl rfl rfl rfl ?_|refine zH (.there (.there .here)) rfl rfl rfl rfl ?_)
      exact J_ret1 rfl rfl [rdr b (cutV a 1 c m bs.length c) 0] rfl (PH.le_l _ _) ⟨_, bytes_byt hA hdj, (h.suf hm hc).mono (PH.le_l _ _), rfl⟩
  · refine oC (Hc := [rdr b _ e]) (Hr := X) (ok_spec b _ e false (by simp [he]) F) Tryz.call287 rfl rfl (fun _ s => s) ?_
    rintro _ _ _ _ ⟨rfl, rfl, rfl⟩
    repeat (first|refine zJ rfl rfl ?_|refine jr rfl ?_|refine jn ?_|refine zM rfl rfl ?_|(refine zC rfl rfl ?_ rfl ?_;omega)|(refine zD rfl rfl ?_ rfl ?_;omega)|(refine zP rfl ?_ rfl ?_;omega)|refine zG rfl rfl rfl rfl ?_|(refine jdq rfl rfl ?_ ?_ ?_;kernel_rfl;kernel_rfl)|refine zB rfl rfl rfl (by repeat constructor) rfl ?_|refine zH .here rfl rfl rfl rfl ?_|refine zH (.there .here) rfl rfl rfl rfl ?_|refine zH (.there (.there .here)) rfl rfl rfl rfl ?_)
    have hr : fixR e bs n = ([], e, bs) := by simp [fixR, he]
    rw [hr]
    exact J_ret1 rfl rfl [rdr b _ e] rfl (PH.ler _) ⟨_, Byt.nil F, h, rfl⟩
end Go.Proofs.YtjjjckmpkldgnaaGreatDoor
namespace Go.Proofs.YtjjjckmpkldgnaaGreatDoor
open Go.RowKit
set_option maxRecDepth 100000
theorem Byt.pre' {F : PH} {a : Option Addr} {c : Nat} {bs : List UInt8} (h : Byt F (.slice a bs.length c) bs) {k m : Nat} (hk : k ≤ bs.length) (hm : k ≤ m) : Byt F (.slice a k m) (bs.take k) := by
  have e : (bs.take k).length = k := by simp; omega
  unfold Byt
  rw [e]
  exact h.pre hk hm
/-- Bytes as a number. -/
def numB (bs : List UInt8) : Nat := bs.foldl (fun v c => v * 256 + c.toNat) 0
theorem numB_snoc (bs : List UInt8) (c : UInt8) : numB (bs ++ [c]) = numB bs * 256 + c.toNat := by simp [numB]
theorem numB_lt : ∀ (n : Nat) (bs : List UInt8), bs.length = n → numB bs < 256 ^ n
  | 0, bs, h => by
    have : bs = [] := List.eq_nil_of_length_eq_zero h
    subst this; simp [numB]
  | n + 1, bs, h => by
    obtain ⟨cs, c, rfl⟩ : ∃ cs c, bs = cs ++ [c] := by
      have hne : bs ≠ [] := by intro e; subst e; simp at h
      exact ⟨bs.dropLast, bs.getLast hne, (List.dropLast_concat_getLast hne).symm⟩
    have hl : cs.length = n := by simpa using h
    have := numB_lt n cs hl
    have hc : c.toNat < 256 := c.toNat_lt
    rw [numB_snoc, Nat.pow_succ]
    omega
theorem numB_take {bs : List UInt8} {j : Nat} {c : UInt8} (h : bs[j]? = some c) : numB (bs.take (j + 1)) = numB (bs.take j) * 256 + c.toNat := by rw [take_snoc h, numB_snoc]
theorem numB_take_lt {bs : List UInt8} {j : Nat} (hl : bs.length ≤ 8) (hj : j < bs.length) : numB (bs.take j) < 72057594037927936 := by
  have h1 : (bs.take j).length = j := by simp; omega
  have h2 := numB_lt j _ h1
  have h3 : (256 : Nat) ^ j ≤ 256 ^ 7 := Nat.pow_le_pow_right (by omega) (by omega)
  have h4 : (256 : Nat) ^ 7 = 2 ^ 56 := by decide
  omega
theorem or_add {v c : Nat} (hc : c < 256) : (v * 256) ||| c = v * 256 + c := by
  have := Nat.two_pow_add_eq_or_of_lt (i := 8) (b := c) (by simpa using hc) v
  rw [Nat.mul_comm] at this
  exact this.symm
/-- What Number reads. -/
def numR (e : Int) (bs : List UInt8) (n : Int) : Nat × Int × List UInt8 :=
  let r := fixR (if e = 0 ∧ sizeB n = false then 2 else e) bs n
  (numB r.1, r.2)
def NumQ (R : Nat → Value → Int → Asrt) (b : Nat) (r : Nat × Int × List UInt8) (u : Value) (F' : PH) (H' : List Asrt) : Prop := ∃ v', u = .int .u64 r.1 ∧ Byt F' v' r.2.2 ∧ H' = [R b v' r.2.1]
theorem fixR_len {e : Int} {bs : List UInt8} {n : Int} (h : e ≠ 0 ∨ sizeB n = true) : (fixR e bs n).1.length ≤ 8 := by
  unfold fixR
  split
  · simp
  · split
    · simp
    · have := sizeB_cases (h.resolve_left (by simpa using ‹¬ e ≠ 0›))
      simp only [List.length_take]
      omega
theorem Byt.at {F : PH} {a : Option Addr} {n c : Nat} {bs : List UInt8} (h : Byt F (.slice a n c) bs) {j : Nat} (hj : j < bs.length) : ∃ b off, a = some ⟨b, off, none⟩ ∧ Cells F b (off + j * 1) [.int .u8 (bs[j].toNat : Int)] := by
  obtain ⟨h1, a', c', e, h2, h3⟩ := h
  cases e
  obtain ⟨b, off, ha, hc⟩ := h3 (by omega)
  refine ⟨b, off, ha, fun i u hi => ?_⟩
  have hi0 : i = 0 := by
    have := (List.getElem?_eq_some_iff.1 hi).1
    simp at this; omega
  subst hi0
  have hu : u = .int .u8 (bs[j].toNat : Int) := by simpa using hi.symm
  subst hu
  rw [Nat.mul_one, Nat.add_zero]
  exact hc j _ (by simp [u8s, hj])
theorem shl8 {m : Nat} (h : m < 72057594037927936) : IntKind.u64.wrap ((m : Int) * 2 ^ (min 8 IntKind.u64.bits)) = ((m * 256 : Nat) : Int) := by
  have e : ((m : Int) * 2 ^ (min 8 IntKind.u64.bits)) = ((m * 256 : Nat) : Int) := by
    rw [Int.natCast_mul]; rfl
  rw [e]
  exact wrap_in (by dsimp only [InK]; omega)
set_option maxHeartbeats 4000000 in
theorem number_spec (b : Nat) (v : Value) (e n : Int) (bs : List UInt8) (F : PH) (h : Byt F v bs) (hl : bs.length ≤ 1099511627776) :
    Spec Tryz.prog 265 [.pointer (some ⟨b, 0, none⟩), .int .i64 n] F [rdr b v e] (NumQ rdr b (numR e bs n)) := by
  obtain ⟨e1, he1⟩ : ∃ e1, (if e = 0 ∧ sizeB n = false then 2 else e) = e1 := ⟨_, rfl⟩
  have hr : numR e bs n = (numB (fixR e1 bs n).1, (fixR e1 bs n).2) := by simp [numR, he1]
  have hs : e1 ≠ 0 ∨ sizeB n = true := by
    by_cases h1 : e = 0 ∧ sizeB n = false
    · rw [if_pos h1] at he1; left; omega
    · rw [if_neg h1] at he1
      cases hz : sizeB n with
      | true => exact .inr rfl
      | false => left; rw [← he1]; intro h0; exact h1 ⟨h0, hz⟩
  rw [hr]
  have hlen : (fixR e1 bs n).1.length ≤ 8 := fixR_len hs
  have hsz := size_spec n F
  refine Spec.of2 Tryz.func265 rfl rfl fun X w0 => ?_
  show J _ _ _ _ (rdr b _ e :: X)
  refine jc rfl rfl ?_
  refine jr rfl ?_
  refine oM rfl rfl ?_
  refine jn ?_
  refine J_seq (J_open ?_)
  refine J_join [_, _] (fun _ : Unit => True) (fun _ => [(0, .pointer (some ⟨b, 0, none⟩)), (1, .int .i64 n), (5, .int .u64 0)]) (fun _ => F) (fun _ => rdr b v e1 :: X) ?_ ?_
  · by_cases he : e = 0
    · subst he
      cases hz : sizeB n with
      | true =>
        rw [hz] at hsz he1
        repeat (first|refine zJ rfl rfl ?_|refine jr rfl ?_|refine jn ?_|refine zM rfl rfl ?_|(refine zC rfl rfl ?_ rfl ?_;omega)|(refine zD rfl rfl ?_ rfl ?_;omega)|(refine zP rfl ?_ rfl ?_;omega)|refine zG rfl rfl rfl rfl ?_|(refine jdq rfl rfl ?_ ?_ ?_;kernel_rfl;kernel_rfl)|refine zB rfl rfl rfl (by repeat constructor) rfl ?_|refine zH .here rfl rfl rfl rfl ?_|refine zH (.there .here) rfl rfl rfl rfl ?_|refine zH (.there (.there .here)) rfl rfl rfl rfl ?_)
        refine oC (Hc := [rdr b _ 0]) (Hr := X) (ok_spec b _ 0 true rfl F) Tryz.call287 rfl rfl (fun _ s => s) ?_
        rintro _ _ _ _ ⟨rfl, rfl, rfl⟩
        repeat (first|refine zJ rfl rfl ?_|refine jr rfl ?_|refine jn ?_|refine zM rfl rfl ?_|(refine zC rfl rfl ?_ rfl ?_;omega)|(refine zD rfl rfl ?_ rfl ?_;omega)|(refine zP rfl ?_ rfl ?_;omega)|refine zG rfl rfl rfl rfl ?_|(refine jdq rfl rfl ?_ ?_ ?_;kernel_rfl;kernel_rfl)|refine zB rfl rfl rfl (by repeat constructor) rfl ?_|refine zH .here rfl rfl rfl rfl ?_|refine zH (.there .here) rfl rfl rfl rfl ?_|refine zH (.there (.there .here)) rfl rfl rfl rfl ?_)
        refine oP (hsz) Tryz.call193 rfl rfl ?_
        repeat (first|refine zJ rfl rfl ?_|refine jr rfl ?_|refine jn ?_|refine zM rfl rfl ?_|(refine zC rfl rfl ?_ rfl ?_;omega)|(refine zD rfl rfl ?_ rfl ?_;omega)|(refine zP rfl ?_ rfl ?_;omega)|refine zG rfl rfl rfl rfl ?_|(refine jdq rfl rfl ?_ ?_ ?_;kernel_rfl;kernel_rfl)|refine zB rfl rfl rfl (by repeat constructor) rfl ?_|refine zH .here rfl rfl rfl rfl ?_|refine zH (.there .here) rfl rfl rfl rfl ?_|refine zH (.there (.there .here)) rfl rfl rfl rfl ?_)
        exact J_joined () trivial ⟨⟨rfl, rfl, rfl, trivial⟩, fun w s => by simp at he1; subst he1; exact s⟩
      | false =>
        rw [hz] at hsz he1
        repeat (first|refine zJ rfl rfl ?_|refine jr rfl ?_|refine jn ?_|refine zM rfl rfl ?_|(refine zC rfl rfl ?_ rfl ?_;omega)|(refine zD rfl rfl ?_ rfl ?_;omega)|(refine zP rfl ?_ rfl ?_;omega)|refine zG rfl rfl rfl rfl ?_|(refine jdq rfl rfl ?_ ?_ ?_;kernel_rfl;kernel_rfl)|refine zB rfl rfl rfl (by repeat constructor) rfl ?_|refine zH .here rfl rfl rfl rfl ?_|refine zH (.there .here) rfl rfl rfl rfl ?_|refine zH (.there (.there .here)) rfl rfl rfl rfl ?_)
        refine oC (Hc := [rdr b _ 0]) (Hr := X) (ok_spec b _ 0 true rfl F) Tryz.call287 rfl rfl (fun _ s => s) ?_
        rintro _ _ _ _ ⟨rfl, rfl, rfl⟩
        repeat (first|refine zJ rfl rfl ?_|refine jr rfl ?_|refine jn ?_|refine zM rfl rfl ?_|(refine zC rfl rfl ?_ rfl ?_;omega)|(refine zD rfl rfl ?_ rfl ?_;omega)|(refine zP rfl ?_ rfl ?_;omega)|refine zG rfl rfl rfl rfl ?_|(refine jdq rfl rfl ?_ ?_ ?_;kernel_rfl;kernel_rfl)|refine zB rfl rfl rfl (by repeat constructor) rfl ?_|refine zH .here rfl rfl rfl rfl ?_|refine zH (.there .here) rfl rfl rfl rfl ?_|refine zH (.there (.there .here)) rfl rfl rfl rfl ?_)
        refine oP (hsz) Tryz.call193 rfl rfl ?_
        repeat (first|refine zJ rfl rfl ?_|refine jr rfl ?_|refine jn ?_|refine zM rfl rfl ?_|(refine zC rfl rfl ?_ rfl ?_;omega)|(refine zD rfl rfl ?_ rfl ?_;omega)|(refine zP rfl ?_ rfl ?_;omega)|refine zG rfl rfl rfl rfl ?_|(refine jdq rfl rfl ?_ ?_ ?_;kernel_rfl;kernel_rfl)|refine zB rfl rfl rfl (by repeat constructor) rfl ?_|refine zH .here rfl rfl rfl rfl ?_|refine zH (.there .here) rfl rfl rfl rfl ?_|refine zH (.there (.there .here)) rfl rfl rfl rfl ?_)
        refine oC (Hc := [rdr b _ 0]) (Hr := X) (fail_spec b _ 2 F) Tryz.call288 rfl rfl (fun _ s => s) ?_
        rintro _ _ _ _ ⟨rfl, rfl⟩
        repeat (first|refine zJ rfl rfl ?_|refine jr rfl ?_|refine jn ?_|refine zM rfl rfl ?_|(refine zC rfl rfl ?_ rfl ?_;omega)|(refine zD rfl rfl ?_ rfl ?_;omega)|(refine zP rfl ?_ rfl ?_;omega)|refine zG rfl rfl rfl rfl ?_|(refine jdq rfl rfl ?_ ?_ ?_;kernel_rfl;kernel_rfl)|refine zB rfl rfl rfl (by repeat constructor) rfl ?_|refine zH .here rfl rfl rfl rfl ?_|refine zH (.there .here) rfl rfl rfl rfl ?_|refine zH (.there (.there .here)) rfl rfl rfl rfl ?_)
        exact J_joined () trivial ⟨⟨rfl, rfl, rfl, trivial⟩, fun w s => by simp at he1; subst he1; exact s⟩
    · repeat (first|refine zJ rfl rfl ?_|refine jr rfl ?_|refine jn ?_|refine zM rfl rfl ?_|(refine zC rfl rfl ?_ rfl ?_;omega)|(refine zD rfl rfl ?_ rfl ?_;omega)|(refine zP rfl ?_ rfl ?_;omega)|refine zG rfl rfl rfl rfl ?_|(refine jdq rfl rfl ?_ ?_ ?_;kernel_rfl;kernel_rfl)|refine zB rfl rfl rfl (by repeat constructor) rfl ?_|refine zH .here rfl rfl rfl rfl ?_|refine zH (.there .here) rfl rfl rfl rfl ?_|refine zH (.there (.there .here)) rfl rfl rfl rfl ?_)
      refine oC (Hc := [rdr b _ e]) (Hr := X) (ok_spec b _ e false (by simp [he]) F) Tryz.call287 rfl rfl (fun _ s => s) ?_
      rintro _ _ _ _ ⟨rfl, rfl, rfl⟩
      repeat (first|refine zJ rfl rfl ?_|refine jr rfl ?_|refine jn ?_|refine zM rfl rfl ?_|(refine zC rfl rfl ?_ rfl ?_;omega)|(refine zD rfl rfl ?_ rfl ?_;omega)|(refine zP rfl ?_ rfl ?_;omega)|refine zG rfl rfl rfl rfl ?_|(refine jdq rfl rfl ?_ ?_ ?_;kernel_rfl;kernel_rfl)|refine zB rfl rfl rfl (by repeat constructor) rfl ?_|refine zH .here rfl rfl rfl rfl ?_|refine zH (.there .here) rfl rfl rfl rfl ?_|refine zH (.there (.there .here)) rfl rfl rfl rfl ?_)
      exact J_joined () trivial ⟨⟨rfl, rfl, rfl, trivial⟩, fun w s => by simp [he] at he1; subst he1; exact s⟩
  intro _ _
  repeat (first|refine zJ rfl rfl ?_|refine jr rfl ?_|refine jn ?_|refine zM rfl rfl ?_|(refine zC rfl rfl ?_ rfl ?_;omega)|(refine zD rfl rfl ?_ rfl ?_;omega)|(refine zP rfl ?_ rfl ?_;omega)|refine zG rfl rfl rfl rfl ?_|(refine jdq rfl rfl ?_ ?_ ?_;kernel_rfl;kernel_rfl)|refine zB rfl rfl rfl (by repeat constructor) rfl ?_|refine zH .here rfl rfl rfl rfl ?_|refine zH (.there .here) rfl rfl rfl rfl ?_|refine zH (.there (.there .here)) rfl rfl rfl rfl ?_)
  refine oC (Hc := [rdr b v e1]) (Hr := X) (fixed_spec b v e1 n bs F h hl) Tryz.call266 rfl rfl (fun _ s => s) ?_
  rintro u F1 _ hF ⟨v', hu, hv', rfl⟩
  generalize hfx : fixR e1 bs n = r at *
  obtain ⟨out, e2, bs2⟩ := r
  dsimp only at hlen hu hv' ⊢
  obtain ⟨a, c, rfl, hc⟩ := hu.form
  repeat (first|refine zJ rfl rfl ?_|refine jr rfl ?_|refine jn ?_|refine zM rfl rfl ?_|(refine zC rfl rfl ?_ rfl ?_;omega)|(refine zD rfl rfl ?_ rfl ?_;omega)|(refine zP rfl ?_ rfl ?_;omega)|refine zG rfl rfl rfl rfl ?_|(refine jdq rfl rfl ?_ ?_ ?_;kernel_rfl;kernel_rfl)|refine zB rfl rfl rfl (by repeat constructor) rfl ?_|refine zH .here rfl rfl rfl rfl ?_|refine zH (.there .here) rfl rfl rfl rfl ?_|refine zH (.there (.there .here)) rfl rfl rfl rfl ?_)
  refine J_loop (ι := Nat) (fun j => j ≤ out.length) (fun j => out.length - j) (fun j => [(5, .int .u64 (numB (out.take j))), (19, .slice a out.length c), (20, .int .i64 out.length), (21, .int .i64 j)]) (fun _ => F1)
    (fun j => rdr b v' e2 :: X) 0 (Nat.zero_le _) ⟨⟨rfl, rfl, rfl, rfl, trivial⟩, fun _ h => h⟩ ?_
  intro j hj
  by_cases hlt : j < out.length
  · obtain ⟨b1, off, rfl, hcell⟩ := hu.at hlt
    have hg : out[j]? = some out[j] := List.getElem?_eq_getElem hlt
    have hn1 := numB_take_lt hlen hlt
    have hcl : out[j].toNat < 256 := out[j].toNat_lt
    have hnx := numB_take hg
    generalize out[j] = ch at *
    repeat (first|refine zJ rfl rfl ?_|refine jr rfl ?_|refine jn ?_|refine zM rfl rfl ?_|(refine zC rfl rfl ?_ rfl ?_;omega)|(refine zD rfl rfl ?_ rfl ?_;omega)|(refine zP rfl ?_ rfl ?_;omega)|refine zG rfl rfl rfl rfl ?_|(refine jdq rfl rfl ?_ ?_ ?_;kernel_rfl;kernel_rfl)|refine zB rfl rfl rfl (by repeat constructor) rfl ?_|refine zH .here rfl rfl rfl rfl ?_|refine zH (.there .here) rfl rfl rfl rfl ?_|refine zH (.there (.there .here)) rfl rfl rfl rfl ?_)
    refine oS (ev_indexAddr rfl rfl rfl hlt) rfl ?_
    refine oS (ev_load rfl rfl (Rdb.ofF hcell)) rfl ?_
    repeat (first|refine zJ rfl rfl ?_|refine jr rfl ?_|refine jn ?_|refine zM rfl rfl ?_|(refine zC rfl rfl ?_ rfl ?_;omega)|(refine zD rfl rfl ?_ rfl ?_;omega)|(refine zP rfl ?_ rfl ?_;omega)|refine zG rfl rfl rfl rfl ?_|(refine jdq rfl rfl ?_ ?_ ?_;kernel_rfl;kernel_rfl)|refine zB rfl rfl rfl (by repeat constructor) rfl ?_|refine zH .here rfl rfl rfl rfl ?_|refine zH (.there .here) rfl rfl rfl rfl ?_|refine zH (.there (.there .here)) rfl rfl rfl rfl ?_)
    refine oS (ev_shl (n := 8) rfl rfl (shl8 hn1)) rfl ?_
    repeat (first|refine zJ rfl rfl ?_|refine jr rfl ?_|refine jn ?_|refine zM rfl rfl ?_|(refine zC rfl rfl ?_ rfl ?_;omega)|(refine zD rfl rfl ?_ rfl ?_;omega)|(refine zP rfl ?_ rfl ?_;omega)|refine zG rfl rfl rfl rfl ?_|(refine jdq rfl rfl ?_ ?_ ?_;kernel_rfl;kernel_rfl)|refine zB rfl rfl rfl (by repeat constructor) rfl ?_|refine zH .here rfl rfl rfl rfl ?_|refine zH (.there .here) rfl rfl rfl rfl ?_|refine zH (.there (.there .here)) rfl rfl rfl rfl ?_)
    refine oS (ev_or_bits rfl rfl rfl (by simp only [IntKind.bits]; omega) (by simp only [IntKind.bits]; omega)) rfl ?_
    repeat (first|refine zJ rfl rfl ?_|refine jr rfl ?_|refine jn ?_|refine zM rfl rfl ?_|(refine zC rfl rfl ?_ rfl ?_;omega)|(refine zD rfl rfl ?_ rfl ?_;omega)|(refine zP rfl ?_ rfl ?_;omega)|refine zG rfl rfl rfl rfl ?_|(refine jdq rfl rfl ?_ ?_ ?_;kernel_rfl;kernel_rfl)|refine zB rfl rfl rfl (by repeat constructor) rfl ?_|refine zH .here rfl rfl rfl rfl ?_|refine zH (.there .here) rfl rfl rfl rfl ?_|refine zH (.there (.there .here)) rfl rfl rfl rfl ?_)
    refine J_again (j + 1) hlt (by omega) ⟨⟨?_, rfl, rfl, rfl, trivial⟩, fun w s => s⟩
    rw [hnx, ← or_add hcl]; rfl
  · obtain rfl : j = out.length := by omega
    repeat (first|refine zJ rfl rfl ?_|refine jr rfl ?_|refine jn ?_|refine zM rfl rfl ?_|(refine zC rfl rfl ?_ rfl ?_;omega)|(refine zD rfl rfl ?_ rfl ?_;omega)|(refine zP rfl ?_ rfl ?_;omega)|refine zG rfl rfl rfl rfl ?_|(refine jdq rfl rfl ?_ ?_ ?_;kernel_rfl;kernel_rfl)|refine zB rfl rfl rfl (by repeat constructor) rfl ?_|refine zH .here rfl rfl rfl rfl ?_|refine zH (.there .here) rfl rfl rfl rfl ?_|refine zH (.there (.there .here)) rfl rfl rfl rfl ?_)
    refine J_ret1 rfl rfl [rdr b v' e2] rfl hF ⟨v', ?_, hv', rfl⟩
    rw [List.take_length]
end Go.Proofs.YtjjjckmpkldgnaaGreatDoor
namespace Go.Proofs.YtjjjckmpkldgnaaGreatDoor
open Go.RowKit
set_option maxRecDepth 100000
end Go.Proofs.YtjjjckmpkldgnaaGreatDoor
namespace Go.Proofs.YtjjjckmpkldgnaaGreatDoor
open Go.RowKit
set_option maxRecDepth 100000
/-! no reader -/
end Go.Proofs.YtjjjckmpkldgnaaGreatDoor
namespace Go.Proofs.YtjjjckmpkldgnaaGreatDoor
open Go.RowKit Go.ChangeShapes Go.WideShapes Go.ChangeAt
section
variable {H : Type} {enc : TypeId × Value → H} {P : Program} {W : World} {base : Nat} {sp : Nat → Bool} {held : Bool}
/-- A row that came in: its elements' cells, each read as data. -/
theorem open_sl {t e : TypeId} {fuel : Nat} {cs : List Value} {x : DataW H × List MemPlace} (ht : P.underlying t = some (.slice e)) (hpos : 0 < P.cellsOf e) (h : DataW.trod enc P W base sp held fuel t cs = some x) :
    ∃ (a : Option Addr) (n c : Nat) (css : List (List Value)) (m : Nat), cs = [.slice a n c] ∧ n ≤ c ∧ c ≤ maxLen ∧ css.length = n ∧ SliceV (ph W) (P.cellsOf e) (.slice a n c) n css.flatten ∧
      ∀ c ∈ css, c.length = P.cellsOf e ∧ ∃ y, DataW.trod enc P W base sp held m e c = some y := by
  rcases Go.Deep.open_slice ht h with ⟨rfl, _⟩ | ⟨a, len, cap, m, n, D, Pl, rfl, hb, hl, hm, hmm, rfl, hx⟩
  · exact ⟨none, 0, 0, [], 0, rfl, Nat.le_refl _, by unfold maxLen; omega, rfl, SliceV.nil _ _, fun _ h => by cases h⟩
  · have hlm : len ≤ m := by rw [hmm]; split <;> omega
    let f : Nat → List Value := fun i => if h : i < m then Classical.choose (hx i h) else []
    have hf : ∀ i, i < m → W.cells? base (a.add (i * P.cellsOf e)) (P.cellsOf e) = some (f i) ∧ ∃ y, DataW.trod enc P W base sp held n e (f i) = some y := fun i hi => by
      have := Classical.choose_spec (hx i hi)
      simp only [f, dif_pos hi]
      exact ⟨this.1, _, this.2⟩
    have hfl : ∀ i, i < m → (f i).length = P.cellsOf e := fun i hi => (World.cells?_some (hf i hi).1).2.1
    have hmem : ∀ c ∈ (List.range len).map f, c.length = P.cellsOf e ∧ ∃ y, DataW.trod enc P W base sp held n e c = some y := by
      intro c hc
      obtain ⟨i, hi, rfl⟩ := List.mem_map.1 hc
      have : i < len := List.mem_range.1 hi
      exact ⟨hfl i (by omega), (hf i (by omega)).2⟩
    refine ⟨some a, len, cap, (List.range len).map f, n, rfl, hl, hm, by simp, ⟨?_, some a, cap, rfl, hl, fun h0 => ?_⟩, hmem⟩
    · rw [flat_len (fun c hc => (hmem c hc).1)]; simp
    · obtain ⟨ab, ao, spot⟩ := a
      have hspot : spot = none := by
        have h1 := (World.cells?_some (hf 0 (by omega)).1).2.2 0 (by omega)
        rw [List.getElem?_eq_getElem (by rw [hfl 0 (by omega)]; omega)] at h1
        simpa [Addr.add] using World.cell?_spot h1
      subst hspot
      refine ⟨ab, ao, rfl, fun j u hj => ?_⟩
      have hlen : ((List.range len).map f).flatten.length = len * P.cellsOf e := by rw [flat_len (fun c hc => (hmem c hc).1)]; simp
      have hjl : j < len * P.cellsOf e := by
        have := (List.getElem?_eq_some_iff.1 hj).1
        rwa [hlen] at this
      have hq : j / P.cellsOf e < len := by rw [Nat.div_lt_iff_lt_mul (by omega)]; exact hjl
      have hr : j % P.cellsOf e < P.cellsOf e := Nat.mod_lt _ (by omega)
      have hdm : j / P.cellsOf e * P.cellsOf e + j % P.cellsOf e = j := by rw [Nat.mul_comm]; exact Nat.div_add_mod _ _
      have h1 := (World.cells?_some (hf (j / P.cellsOf e) (by omega)).1).2.2 (j % P.cellsOf e) hr
      have hat := flat_at (n := P.cellsOf e) (i := j / P.cellsOf e) (css := (List.range len).map f) (c := f (j / P.cellsOf e)) (fun c hc => (hmem c hc).1) (by simp [hq])
      have h2 : (f (j / P.cellsOf e))[j % P.cellsOf e]? = some u := by
        rw [← hat, List.getElem?_take, if_pos hr, List.getElem?_drop, hdm]; exact hj
      rw [h2, adr_add, adr_add, Nat.add_assoc, hdm] at h1
      exact cellF_ph.2 h1
/-- A row of bytes that came in. -/
theorem open_byt {r : Reach} {b0 : Nat} {t e : TypeId} {v : Value} {d : DataW H} {ps : List MemPlace} (ht : P.underlying t = some (.slice e)) (he : P.underlying e = some (.int .u8)) (hc : P.cellsOf e = 1)
    (hval : Value.okWide P W r b0 t v) (h : DataW.Trod enc P W base sp held t v d ps) :
    ∃ (a : Option Addr) (c : Nat) (bs : List UInt8), v = .slice a bs.length c ∧ bs.length ≤ c ∧ c ≤ maxLen ∧ SliceV (ph W) 1 v bs.length (u8s bs) := by
  obtain ⟨a1, len, cap, rfl⟩ := okWide_slice ht hval
  obtain ⟨fuel, hf⟩ := h
  obtain ⟨a, n, c, css, m, hcs, hn, hm, hl, hs, hel⟩ := open_sl ht (by rw [hc]; omega) hf
  simp [Value.cells] at hcs
  obtain ⟨rfl, rfl, rfl⟩ := hcs
  rw [hc] at hs hel
  have key : ∀ (css : List (List Value)), (∀ c ∈ css, c.length = 1 ∧ ∃ y, DataW.trod enc P W base sp held m e c = some y) → ∃ bs : List UInt8, css.flatten = u8s bs ∧ bs.length = css.length := by
    intro css
    induction css with
    | nil => intro _; exact ⟨[], rfl, rfl⟩
    | cons c css ih =>
      intro h
      obtain ⟨bs, h1, h2⟩ := ih fun c hc => h c (List.mem_cons_of_mem _ hc)
      obtain ⟨_, y, hy⟩ := h c List.mem_cons_self
      obtain ⟨z, rfl, _, hw⟩ := DataW.trod_int he hy
      have hb := bounds_u8 hw
      refine ⟨UInt8.ofNat z.toNat :: bs, ?_, by simp [h2]⟩
      rw [List.flatten_cons, h1]
      have e1 : ((UInt8.ofNat z.toNat).toNat : Int) = z := by simp; omega
      simp [u8s, e1]
      omega
  obtain ⟨bs, h1, h2⟩ := key css hel
  rw [hl] at h2
  rw [h1] at hs
  subst h2
  exact ⟨_, _, bs, rfl, hn, hm, hs⟩
end
end Go.Proofs.YtjjjckmpkldgnaaGreatDoor
