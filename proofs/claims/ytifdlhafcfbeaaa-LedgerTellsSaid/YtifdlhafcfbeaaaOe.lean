/-
  The octets' readers: the document's Fixed; Number, the program's and the document's. Conditions are typed with each.
-/
import Derived.Test.YtifdlhafcfbeaaaOd
namespace Go.Proofs.Ytifdlhafcfbeaaa
open Go.RowKit
set_option maxRecDepth 100000
theorem Byt.pre' {F : PH} {a : Option Addr} {c : Nat} {bs : List UInt8} (h : Byt F (.slice a bs.length c) bs) {k m : Nat} (hk : k ≤ bs.length) (hm : k ≤ m) : Byt F (.slice a k m) (bs.take k) := by
  have e : (bs.take k).length = k := by simp; omega
  unfold Byt
  rw [e]
  exact h.pre hk hm
set_option maxHeartbeats 2000000 in
theorem Fixed_spec (b : Nat) (v : Value) (e n : Int) (bs : List UInt8) (F : PH) (h : Byt F v bs) (hl : bs.length ≤ 1099511627776) :
    Spec Try.prog 69 [.pointer (some ⟨b, 0, none⟩), .int .i64 n] F [Rdr b v e] (FixQ Rdr b (fixR e bs n)) := by
  obtain ⟨a, c, rfl, hc⟩ := h.form
  refine Spec.of2 Try.func69 rfl rfl fun X w0 => ?_
  show J _ _ _ _ (Rdr b _ e :: X)
  by_cases he : e = 0
  · subst he
    by_cases hn : n < 0 ∨ bs.length < n
    · have hr : fixR 0 bs n = ([], 2, bs) := by simp [fixR, hn]
      rw [hr]
      by_cases hn0 : n < 0
      · repeat (first|refine zJ rfl rfl ?_|refine jr rfl ?_|refine jn ?_|refine zM rfl rfl ?_|(refine zC rfl rfl ?_ rfl ?_;omega)|(refine zD rfl rfl ?_ rfl ?_;omega)|(refine zP rfl ?_ rfl ?_;omega)|refine zG rfl rfl rfl rfl ?_|(refine jdq rfl rfl ?_ ?_ ?_;kernel_rfl;kernel_rfl)|refine zB rfl rfl rfl (by repeat constructor) rfl ?_|refine zH .here rfl rfl rfl rfl ?_|refine zH (.there .here) rfl rfl rfl rfl ?_|refine zH (.there (.there .here)) rfl rfl rfl rfl ?_)
        refine oN (ev_store rfl rfl .int rfl rfl (.skip (.put .nil)) (ones_cons rfl ones_nil) .here) rfl ?_
        rintro _ _ _ _ ⟨rfl, _, rfl⟩
        repeat (first|refine zJ rfl rfl ?_|refine jr rfl ?_|refine jn ?_|refine zM rfl rfl ?_|(refine zC rfl rfl ?_ rfl ?_;omega)|(refine zD rfl rfl ?_ rfl ?_;omega)|(refine zP rfl ?_ rfl ?_;omega)|refine zG rfl rfl rfl rfl ?_|(refine jdq rfl rfl ?_ ?_ ?_;kernel_rfl;kernel_rfl)|refine zB rfl rfl rfl (by repeat constructor) rfl ?_|refine zH .here rfl rfl rfl rfl ?_|refine zH (.there .here) rfl rfl rfl rfl ?_|refine zH (.there (.there .here)) rfl rfl rfl rfl ?_)
        exact J_ret1 rfl rfl [Rdr b _ 2] rfl (PH.ler _) ⟨_, Byt.nil F, h, rfl⟩
      · repeat (first|refine zJ rfl rfl ?_|refine jr rfl ?_|refine jn ?_|refine zM rfl rfl ?_|(refine zC rfl rfl ?_ rfl ?_;omega)|(refine zD rfl rfl ?_ rfl ?_;omega)|(refine zP rfl ?_ rfl ?_;omega)|refine zG rfl rfl rfl rfl ?_|(refine jdq rfl rfl ?_ ?_ ?_;kernel_rfl;kernel_rfl)|refine zB rfl rfl rfl (by repeat constructor) rfl ?_|refine zH .here rfl rfl rfl rfl ?_|refine zH (.there .here) rfl rfl rfl rfl ?_|refine zH (.there (.there .here)) rfl rfl rfl rfl ?_)
        refine oN (ev_store rfl rfl .int rfl rfl (.skip (.put .nil)) (ones_cons rfl ones_nil) .here) rfl ?_
        rintro _ _ _ _ ⟨rfl, _, rfl⟩
        repeat (first|refine zJ rfl rfl ?_|refine jr rfl ?_|refine jn ?_|refine zM rfl rfl ?_|(refine zC rfl rfl ?_ rfl ?_;omega)|(refine zD rfl rfl ?_ rfl ?_;omega)|(refine zP rfl ?_ rfl ?_;omega)|refine zG rfl rfl rfl rfl ?_|(refine jdq rfl rfl ?_ ?_ ?_;kernel_rfl;kernel_rfl)|refine zB rfl rfl rfl (by repeat constructor) rfl ?_|refine zH .here rfl rfl rfl rfl ?_|refine zH (.there .here) rfl rfl rfl rfl ?_|refine zH (.there (.there .here)) rfl rfl rfl rfl ?_)
        exact J_ret1 rfl rfl [Rdr b _ 2] rfl (PH.ler _) ⟨_, Byt.nil F, h, rfl⟩
    · have hr : fixR 0 bs n = (bs.take n.toNat, 0, bs.drop n.toNat) := by simp [fixR, hn]
      rw [hr]
      obtain ⟨m, rfl⟩ : ∃ m : Nat, n = (m : Int) := ⟨n.toNat, by omega⟩
      have hm : m ≤ bs.length := by omega
      rw [show ((m : Int)).toNat = m from by omega]
      repeat (first|refine zJ rfl rfl ?_|refine jr rfl ?_|refine jn ?_|refine zM rfl rfl ?_|(refine zC rfl rfl ?_ rfl ?_;omega)|(refine zD rfl rfl ?_ rfl ?_;omega)|(refine zP rfl ?_ rfl ?_;omega)|refine zG rfl rfl rfl rfl ?_|(refine jdq rfl rfl ?_ ?_ ?_;kernel_rfl;kernel_rfl)|refine zB rfl rfl rfl (by repeat constructor) rfl ?_|refine zH .here rfl rfl rfl rfl ?_|refine zH (.there .here) rfl rfl rfl rfl ?_|refine zH (.there (.there .here)) rfl rfl rfl rfl ?_)
      refine oE eb_empty rfl ?_
      rintro u0 _ _ _ ⟨rfl, ⟨b0, rfl⟩, rfl⟩
      repeat (first|refine zJ rfl rfl ?_|refine jr rfl ?_|refine jn ?_|refine zM rfl rfl ?_|(refine zC rfl rfl ?_ rfl ?_;omega)|(refine zD rfl rfl ?_ rfl ?_;omega)|(refine zP rfl ?_ rfl ?_;omega)|refine zG rfl rfl rfl rfl ?_|(refine jdq rfl rfl ?_ ?_ ?_;kernel_rfl;kernel_rfl)|refine zB rfl rfl rfl (by repeat constructor) rfl ?_|refine zH .here rfl rfl rfl rfl ?_|refine zH (.there .here) rfl rfl rfl rfl ?_|refine zH (.there (.there .here)) rfl rfl rfl rfl ?_)
      refine oS (ev_slice_hi (h := m) rfl rfl rfl (by omega)) rfl ?_
      refine oE (eb_append (bs := []) (cs := bs.take m) (K := fun v' => bytes v' (bs.take m) :: Rdr b (.slice a bs.length c) 0 :: X) rfl rfl (h.pre' hm (by omega)).rds (by simp; omega) (fun v' => .here)) rfl ?_
      rintro u _ _ _ ⟨rfl, _, rfl⟩
      refine oPersist fun h' hA hdj => ?_
      repeat (first|refine zJ rfl rfl ?_|refine jr rfl ?_|refine jn ?_|refine zM rfl rfl ?_|(refine zC rfl rfl ?_ rfl ?_;omega)|(refine zD rfl rfl ?_ rfl ?_;omega)|(refine zP rfl ?_ rfl ?_;omega)|refine zG rfl rfl rfl rfl ?_|(refine jdq rfl rfl ?_ ?_ ?_;kernel_rfl;kernel_rfl)|refine zB rfl rfl rfl (by repeat constructor) rfl ?_|refine zH .here rfl rfl rfl rfl ?_|refine zH (.there .here) rfl rfl rfl rfl ?_|refine zH (.there (.there .here)) rfl rfl rfl rfl ?_)
      refine oS (ev_slice_lo (lo := m) rfl rfl rfl hm) rfl ?_
      repeat (first|refine zJ rfl rfl ?_|refine jr rfl ?_|refine jn ?_|refine zM rfl rfl ?_|(refine zC rfl rfl ?_ rfl ?_;omega)|(refine zD rfl rfl ?_ rfl ?_;omega)|(refine zP rfl ?_ rfl ?_;omega)|refine zG rfl rfl rfl rfl ?_|(refine jdq rfl rfl ?_ ?_ ?_;kernel_rfl;kernel_rfl)|refine zB rfl rfl rfl (by repeat constructor) rfl ?_|refine zH .here rfl rfl rfl rfl ?_|refine zH (.there .here) rfl rfl rfl rfl ?_|refine zH (.there (.there .here)) rfl rfl rfl rfl ?_)
      refine oN (ev_store rfl rfl .slice rfl rfl (.put .nil) (ones_cons rfl ones_nil) .here) rfl ?_
      rintro _ _ _ _ ⟨rfl, _, rfl⟩
      repeat (first|refine zJ rfl rfl ?_|refine jr rfl ?_|refine jn ?_|refine zM rfl rfl ?_|(refine zC rfl rfl ?_ rfl ?_;omega)|(refine zD rfl rfl ?_ rfl ?_;omega)|(refine zP rfl ?_ rfl ?_;omega)|refine zG rfl rfl rfl rfl ?_|(refine jdq rfl rfl ?_ ?_ ?_;kernel_rfl;kernel_rfl)|refine zB rfl rfl rfl (by repeat constructor) rfl ?_|refine zH .here rfl rfl rfl rfl ?_|refine zH (.there .here) rfl rfl rfl rfl ?_|refine zH (.there (.there .here)) rfl rfl rfl rfl ?_)
      exact J_ret1 rfl rfl [Rdr b (cutV a 1 c m bs.length c) 0] rfl (PH.le_l _ _) ⟨_, bytes_byt hA hdj, (h.suf hm hc).mono (PH.le_l _ _), rfl⟩
  · repeat (first|refine zJ rfl rfl ?_|refine jr rfl ?_|refine jn ?_|refine zM rfl rfl ?_|(refine zC rfl rfl ?_ rfl ?_;omega)|(refine zD rfl rfl ?_ rfl ?_;omega)|(refine zP rfl ?_ rfl ?_;omega)|refine zG rfl rfl rfl rfl ?_|(refine jdq rfl rfl ?_ ?_ ?_;kernel_rfl;kernel_rfl)|refine zB rfl rfl rfl (by repeat constructor) rfl ?_|refine zH .here rfl rfl rfl rfl ?_|refine zH (.there .here) rfl rfl rfl rfl ?_|refine zH (.there (.there .here)) rfl rfl rfl rfl ?_)
    have hr : fixR e bs n = ([], e, bs) := by simp [fixR, he]
    rw [hr]
    exact J_ret1 rfl rfl [Rdr b _ e] rfl (PH.ler _) ⟨_, Byt.nil F, h, rfl⟩
/-- Bytes as a number. -/
def numB (bs : List UInt8) : Nat := bs.foldl (fun v c => v * 256 + c.toNat) 0
theorem numB_snoc (bs : List UInt8) (c : UInt8) : numB (bs ++ [c]) = numB bs * 256 + c.toNat := by simp [numB]
theorem numB_lt : ∀ (n : Nat) (bs : List UInt8), bs.length = n → numB bs < 256 ^ n
  | 0, bs, h => by
    have : bs = [] := List.eq_nil_of_length_eq_zero h
    subst this; simp [numB]
  | n + 1, bs, h => by
    obtain ⟨cs, c, rfl⟩ : ∃ cs c, bs = cs ++ [c] := by
      have hne : bs ≠ [] := by intro e; subst e; simp at h
      exact ⟨bs.dropLast, bs.getLast hne, (List.dropLast_concat_getLast hne).symm⟩
    have hl : cs.length = n := by simpa using h
    have := numB_lt n cs hl
    have hc : c.toNat < 256 := c.toNat_lt
    rw [numB_snoc, Nat.pow_succ]
    omega
theorem numB_take {bs : List UInt8} {j : Nat} {c : UInt8} (h : bs[j]? = some c) : numB (bs.take (j + 1)) = numB (bs.take j) * 256 + c.toNat := by rw [take_snoc h, numB_snoc]
theorem numB_take_lt {bs : List UInt8} {j : Nat} (hl : bs.length ≤ 8) (hj : j < bs.length) : numB (bs.take j) < 72057594037927936 := by
  have h1 : (bs.take j).length = j := by simp; omega
  have h2 := numB_lt j _ h1
  have h3 : (256 : Nat) ^ j ≤ 256 ^ 7 := Nat.pow_le_pow_right (by omega) (by omega)
  have h4 : (256 : Nat) ^ 7 = 2 ^ 56 := by decide
  omega
theorem or_add {v c : Nat} (hc : c < 256) : (v * 256) ||| c = v * 256 + c := by
  have := Nat.two_pow_add_eq_or_of_lt (i := 8) (b := c) (by simpa using hc) v
  rw [Nat.mul_comm] at this
  exact this.symm
/-- What Number reads. -/
def numR (e : Int) (bs : List UInt8) (n : Int) : Nat × Int × List UInt8 :=
  let r := fixR (if e = 0 ∧ sizeB n = false then 2 else e) bs n
  (numB r.1, r.2)
def NumQ (R : Nat → Value → Int → Asrt) (b : Nat) (r : Nat × Int × List UInt8) (u : Value) (F' : PH) (H' : List Asrt) : Prop := ∃ v', u = .int .u64 r.1 ∧ Byt F' v' r.2.2 ∧ H' = [R b v' r.2.1]
theorem fixR_len {e : Int} {bs : List UInt8} {n : Int} (h : e ≠ 0 ∨ sizeB n = true) : (fixR e bs n).1.length ≤ 8 := by
  unfold fixR
  split
  · simp
  · split
    · simp
    · have := sizeB_cases (h.resolve_left (by simpa using ‹¬ e ≠ 0›))
      simp only [List.length_take]
      omega
theorem Byt.at {F : PH} {a : Option Addr} {n c : Nat} {bs : List UInt8} (h : Byt F (.slice a n c) bs) {j : Nat} (hj : j < bs.length) : ∃ b off, a = some ⟨b, off, none⟩ ∧ Cells F b (off + j * 1) [.int .u8 (bs[j].toNat : Int)] := by
  obtain ⟨h1, a', c', e, h2, h3⟩ := h
  cases e
  obtain ⟨b, off, ha, hc⟩ := h3 (by omega)
  refine ⟨b, off, ha, fun i u hi => ?_⟩
  have hi0 : i = 0 := by
    have := (List.getElem?_eq_some_iff.1 hi).1
    simp at this; omega
  subst hi0
  have hu : u = .int .u8 (bs[j].toNat : Int) := by simpa using hi.symm
  subst hu
  rw [Nat.mul_one, Nat.add_zero]
  exact hc j _ (by simp [u8s, hj])
theorem shl8 {m : Nat} (h : m < 72057594037927936) : IntKind.u64.wrap ((m : Int) * 2 ^ (min 8 IntKind.u64.bits)) = ((m * 256 : Nat) : Int) := by
  have e : ((m : Int) * 2 ^ (min 8 IntKind.u64.bits)) = ((m * 256 : Nat) : Int) := by
    rw [Int.natCast_mul]; rfl
  rw [e]
  exact wrap_in (by dsimp only [InK]; omega)
set_option maxHeartbeats 4000000 in
theorem number_spec (b : Nat) (v : Value) (e n : Int) (bs : List UInt8) (F : PH) (h : Byt F v bs) (hl : bs.length ≤ 1099511627776) :
    Spec Try.prog 28 [.pointer (some ⟨b, 0, none⟩), .int .i64 n] F [rdr b v e] (NumQ rdr b (numR e bs n)) := by
  obtain ⟨e1, he1⟩ : ∃ e1, (if e = 0 ∧ sizeB n = false then 2 else e) = e1 := ⟨_, rfl⟩
  have hr : numR e bs n = (numB (fixR e1 bs n).1, (fixR e1 bs n).2) := by simp [numR, he1]
  have hs : e1 ≠ 0 ∨ sizeB n = true := by
    by_cases h1 : e = 0 ∧ sizeB n = false
    · rw [if_pos h1] at he1; left; omega
    · rw [if_neg h1] at he1
      cases hz : sizeB n with
      | true => exact .inr rfl
      | false => left; rw [← he1]; intro h0; exact h1 ⟨h0, hz⟩
  rw [hr]
  have hlen : (fixR e1 bs n).1.length ≤ 8 := fixR_len hs
  have hsz := size_spec n F
  refine Spec.of2 Try.func28 rfl rfl fun X w0 => ?_
  show J _ _ _ _ (rdr b _ e :: X)
  refine jc rfl rfl ?_
  refine jr rfl ?_
  refine oM rfl rfl ?_
  refine jn ?_
  refine J_seq (J_open ?_)
  refine J_join [_, _] (fun _ : Unit => True) (fun _ => [(0, .pointer (some ⟨b, 0, none⟩)), (1, .int .i64 n), (5, .int .u64 0)]) (fun _ => F) (fun _ => rdr b v e1 :: X) ?_ ?_
  · by_cases he : e = 0
    · subst he
      cases hz : sizeB n with
      | true =>
        rw [hz] at hsz he1
        repeat (first|refine zJ rfl rfl ?_|refine jr rfl ?_|refine jn ?_|refine zM rfl rfl ?_|(refine zC rfl rfl ?_ rfl ?_;omega)|(refine zD rfl rfl ?_ rfl ?_;omega)|(refine zP rfl ?_ rfl ?_;omega)|refine zG rfl rfl rfl rfl ?_|(refine jdq rfl rfl ?_ ?_ ?_;kernel_rfl;kernel_rfl)|refine zB rfl rfl rfl (by repeat constructor) rfl ?_|refine zH .here rfl rfl rfl rfl ?_|refine zH (.there .here) rfl rfl rfl rfl ?_|refine zH (.there (.there .here)) rfl rfl rfl rfl ?_)
        refine oC (Hc := [rdr b _ 0]) (Hr := X) (ok_spec b _ 0 true rfl F) Try.call63 rfl rfl (fun _ s => s) ?_
        rintro _ _ _ _ ⟨rfl, rfl, rfl⟩
        repeat (first|refine zJ rfl rfl ?_|refine jr rfl ?_|refine jn ?_|refine zM rfl rfl ?_|(refine zC rfl rfl ?_ rfl ?_;omega)|(refine zD rfl rfl ?_ rfl ?_;omega)|(refine zP rfl ?_ rfl ?_;omega)|refine zG rfl rfl rfl rfl ?_|(refine jdq rfl rfl ?_ ?_ ?_;kernel_rfl;kernel_rfl)|refine zB rfl rfl rfl (by repeat constructor) rfl ?_|refine zH .here rfl rfl rfl rfl ?_|refine zH (.there .here) rfl rfl rfl rfl ?_|refine zH (.there (.there .here)) rfl rfl rfl rfl ?_)
        refine oP (hsz) Try.call64 rfl rfl ?_
        repeat (first|refine zJ rfl rfl ?_|refine jr rfl ?_|refine jn ?_|refine zM rfl rfl ?_|(refine zC rfl rfl ?_ rfl ?_;omega)|(refine zD rfl rfl ?_ rfl ?_;omega)|(refine zP rfl ?_ rfl ?_;omega)|refine zG rfl rfl rfl rfl ?_|(refine jdq rfl rfl ?_ ?_ ?_;kernel_rfl;kernel_rfl)|refine zB rfl rfl rfl (by repeat constructor) rfl ?_|refine zH .here rfl rfl rfl rfl ?_|refine zH (.there .here) rfl rfl rfl rfl ?_|refine zH (.there (.there .here)) rfl rfl rfl rfl ?_)
        exact J_joined () trivial ⟨⟨rfl, rfl, rfl, trivial⟩, fun w s => by simp at he1; subst he1; exact s⟩
      | false =>
        rw [hz] at hsz he1
        repeat (first|refine zJ rfl rfl ?_|refine jr rfl ?_|refine jn ?_|refine zM rfl rfl ?_|(refine zC rfl rfl ?_ rfl ?_;omega)|(refine zD rfl rfl ?_ rfl ?_;omega)|(refine zP rfl ?_ rfl ?_;omega)|refine zG rfl rfl rfl rfl ?_|(refine jdq rfl rfl ?_ ?_ ?_;kernel_rfl;kernel_rfl)|refine zB rfl rfl rfl (by repeat constructor) rfl ?_|refine zH .here rfl rfl rfl rfl ?_|refine zH (.there .here) rfl rfl rfl rfl ?_|refine zH (.there (.there .here)) rfl rfl rfl rfl ?_)
        refine oC (Hc := [rdr b _ 0]) (Hr := X) (ok_spec b _ 0 true rfl F) Try.call63 rfl rfl (fun _ s => s) ?_
        rintro _ _ _ _ ⟨rfl, rfl, rfl⟩
        repeat (first|refine zJ rfl rfl ?_|refine jr rfl ?_|refine jn ?_|refine zM rfl rfl ?_|(refine zC rfl rfl ?_ rfl ?_;omega)|(refine zD rfl rfl ?_ rfl ?_;omega)|(refine zP rfl ?_ rfl ?_;omega)|refine zG rfl rfl rfl rfl ?_|(refine jdq rfl rfl ?_ ?_ ?_;kernel_rfl;kernel_rfl)|refine zB rfl rfl rfl (by repeat constructor) rfl ?_|refine zH .here rfl rfl rfl rfl ?_|refine zH (.there .here) rfl rfl rfl rfl ?_|refine zH (.there (.there .here)) rfl rfl rfl rfl ?_)
        refine oP (hsz) Try.call64 rfl rfl ?_
        repeat (first|refine zJ rfl rfl ?_|refine jr rfl ?_|refine jn ?_|refine zM rfl rfl ?_|(refine zC rfl rfl ?_ rfl ?_;omega)|(refine zD rfl rfl ?_ rfl ?_;omega)|(refine zP rfl ?_ rfl ?_;omega)|refine zG rfl rfl rfl rfl ?_|(refine jdq rfl rfl ?_ ?_ ?_;kernel_rfl;kernel_rfl)|refine zB rfl rfl rfl (by repeat constructor) rfl ?_|refine zH .here rfl rfl rfl rfl ?_|refine zH (.there .here) rfl rfl rfl rfl ?_|refine zH (.there (.there .here)) rfl rfl rfl rfl ?_)
        refine oC (Hc := [rdr b _ 0]) (Hr := X) (fail_spec b _ 2 F) Try.call65 rfl rfl (fun _ s => s) ?_
        rintro _ _ _ _ ⟨rfl, rfl⟩
        repeat (first|refine zJ rfl rfl ?_|refine jr rfl ?_|refine jn ?_|refine zM rfl rfl ?_|(refine zC rfl rfl ?_ rfl ?_;omega)|(refine zD rfl rfl ?_ rfl ?_;omega)|(refine zP rfl ?_ rfl ?_;omega)|refine zG rfl rfl rfl rfl ?_|(refine jdq rfl rfl ?_ ?_ ?_;kernel_rfl;kernel_rfl)|refine zB rfl rfl rfl (by repeat constructor) rfl ?_|refine zH .here rfl rfl rfl rfl ?_|refine zH (.there .here) rfl rfl rfl rfl ?_|refine zH (.there (.there .here)) rfl rfl rfl rfl ?_)
        exact J_joined () trivial ⟨⟨rfl, rfl, rfl, trivial⟩, fun w s => by simp at he1; subst he1; exact s⟩
    · repeat (first|refine zJ rfl rfl ?_|refine jr rfl ?_|refine jn ?_|refine zM rfl rfl ?_|(refine zC rfl rfl ?_ rfl ?_;omega)|(refine zD rfl rfl ?_ rfl ?_;omega)|(refine zP rfl ?_ rfl ?_;omega)|refine zG rfl rfl rfl rfl ?_|(refine jdq rfl rfl ?_ ?_ ?_;kernel_rfl;kernel_rfl)|refine zB rfl rfl rfl (by repeat constructor) rfl ?_|refine zH .here rfl rfl rfl rfl ?_|refine zH (.there .here) rfl rfl rfl rfl ?_|refine zH (.there (.there .here)) rfl rfl rfl rfl ?_)
      refine oC (Hc := [rdr b _ e]) (Hr := X) (ok_spec b _ e false (by simp [he]) F) Try.call63 rfl rfl (fun _ s => s) ?_
      rintro _ _ _ _ ⟨rfl, rfl, rfl⟩
      repeat (first|refine zJ rfl rfl ?_|refine jr rfl ?_|refine jn ?_|refine zM rfl rfl ?_|(refine zC rfl rfl ?_ rfl ?_;omega)|(refine zD rfl rfl ?_ rfl ?_;omega)|(refine zP rfl ?_ rfl ?_;omega)|refine zG rfl rfl rfl rfl ?_|(refine jdq rfl rfl ?_ ?_ ?_;kernel_rfl;kernel_rfl)|refine zB rfl rfl rfl (by repeat constructor) rfl ?_|refine zH .here rfl rfl rfl rfl ?_|refine zH (.there .here) rfl rfl rfl rfl ?_|refine zH (.there (.there .here)) rfl rfl rfl rfl ?_)
      exact J_joined () trivial ⟨⟨rfl, rfl, rfl, trivial⟩, fun w s => by simp [he] at he1; subst he1; exact s⟩
  intro _ _
  repeat (first|refine zJ rfl rfl ?_|refine jr rfl ?_|refine jn ?_|refine zM rfl rfl ?_|(refine zC rfl rfl ?_ rfl ?_;omega)|(refine zD rfl rfl ?_ rfl ?_;omega)|(refine zP rfl ?_ rfl ?_;omega)|refine zG rfl rfl rfl rfl ?_|(refine jdq rfl rfl ?_ ?_ ?_;kernel_rfl;kernel_rfl)|refine zB rfl rfl rfl (by repeat constructor) rfl ?_|refine zH .here rfl rfl rfl rfl ?_|refine zH (.there .here) rfl rfl rfl rfl ?_|refine zH (.there (.there .here)) rfl rfl rfl rfl ?_)
  refine oC (Hc := [rdr b v e1]) (Hr := X) (fixed_spec b v e1 n bs F h hl) Try.call66 rfl rfl (fun _ s => s) ?_
  rintro u F1 _ hF ⟨v', hu, hv', rfl⟩
  generalize hfx : fixR e1 bs n = r at *
  obtain ⟨out, e2, bs2⟩ := r
  dsimp only at hlen hu hv' ⊢
  obtain ⟨a, c, rfl, hc⟩ := hu.form
  repeat (first|refine zJ rfl rfl ?_|refine jr rfl ?_|refine jn ?_|refine zM rfl rfl ?_|(refine zC rfl rfl ?_ rfl ?_;omega)|(refine zD rfl rfl ?_ rfl ?_;omega)|(refine zP rfl ?_ rfl ?_;omega)|refine zG rfl rfl rfl rfl ?_|(refine jdq rfl rfl ?_ ?_ ?_;kernel_rfl;kernel_rfl)|refine zB rfl rfl rfl (by repeat constructor) rfl ?_|refine zH .here rfl rfl rfl rfl ?_|refine zH (.there .here) rfl rfl rfl rfl ?_|refine zH (.there (.there .here)) rfl rfl rfl rfl ?_)
  refine J_loop (ι := Nat) (fun j => j ≤ out.length) (fun j => out.length - j) (fun j => [(5, .int .u64 (numB (out.take j))), (19, .slice a out.length c), (20, .int .i64 out.length), (21, .int .i64 j)]) (fun _ => F1)
    (fun j => rdr b v' e2 :: X) 0 (Nat.zero_le _) ⟨⟨rfl, rfl, rfl, rfl, trivial⟩, fun _ h => h⟩ ?_
  intro j hj
  by_cases hlt : j < out.length
  · obtain ⟨b1, off, rfl, hcell⟩ := hu.at hlt
    have hg : out[j]? = some out[j] := List.getElem?_eq_getElem hlt
    have hn1 := numB_take_lt hlen hlt
    have hcl : out[j].toNat < 256 := out[j].toNat_lt
    have hnx := numB_take hg
    generalize out[j] = ch at *
    repeat (first|refine zJ rfl rfl ?_|refine jr rfl ?_|refine jn ?_|refine zM rfl rfl ?_|(refine zC rfl rfl ?_ rfl ?_;omega)|(refine zD rfl rfl ?_ rfl ?_;omega)|(refine zP rfl ?_ rfl ?_;omega)|refine zG rfl rfl rfl rfl ?_|(refine jdq rfl rfl ?_ ?_ ?_;kernel_rfl;kernel_rfl)|refine zB rfl rfl rfl (by repeat constructor) rfl ?_|refine zH .here rfl rfl rfl rfl ?_|refine zH (.there .here) rfl rfl rfl rfl ?_|refine zH (.there (.there .here)) rfl rfl rfl rfl ?_)
    refine oS (ev_indexAddr rfl rfl rfl hlt) rfl ?_
    refine oS (ev_load rfl rfl (Rdb.ofF hcell)) rfl ?_
    repeat (first|refine zJ rfl rfl ?_|refine jr rfl ?_|refine jn ?_|refine zM rfl rfl ?_|(refine zC rfl rfl ?_ rfl ?_;omega)|(refine zD rfl rfl ?_ rfl ?_;omega)|(refine zP rfl ?_ rfl ?_;omega)|refine zG rfl rfl rfl rfl ?_|(refine jdq rfl rfl ?_ ?_ ?_;kernel_rfl;kernel_rfl)|refine zB rfl rfl rfl (by repeat constructor) rfl ?_|refine zH .here rfl rfl rfl rfl ?_|refine zH (.there .here) rfl rfl rfl rfl ?_|refine zH (.there (.there .here)) rfl rfl rfl rfl ?_)
    refine oS (ev_shl (n := 8) rfl rfl (shl8 hn1)) rfl ?_
    repeat (first|refine zJ rfl rfl ?_|refine jr rfl ?_|refine jn ?_|refine zM rfl rfl ?_|(refine zC rfl rfl ?_ rfl ?_;omega)|(refine zD rfl rfl ?_ rfl ?_;omega)|(refine zP rfl ?_ rfl ?_;omega)|refine zG rfl rfl rfl rfl ?_|(refine jdq rfl rfl ?_ ?_ ?_;kernel_rfl;kernel_rfl)|refine zB rfl rfl rfl (by repeat constructor) rfl ?_|refine zH .here rfl rfl rfl rfl ?_|refine zH (.there .here) rfl rfl rfl rfl ?_|refine zH (.there (.there .here)) rfl rfl rfl rfl ?_)
    refine oS (ev_or_bits rfl rfl rfl (by simp only [IntKind.bits]; omega) (by simp only [IntKind.bits]; omega)) rfl ?_
    repeat (first|refine zJ rfl rfl ?_|refine jr rfl ?_|refine jn ?_|refine zM rfl rfl ?_|(refine zC rfl rfl ?_ rfl ?_;omega)|(refine zD rfl rfl ?_ rfl ?_;omega)|(refine zP rfl ?_ rfl ?_;omega)|refine zG rfl rfl rfl rfl ?_|(refine jdq rfl rfl ?_ ?_ ?_;kernel_rfl;kernel_rfl)|refine zB rfl rfl rfl (by repeat constructor) rfl ?_|refine zH .here rfl rfl rfl rfl ?_|refine zH (.there .here) rfl rfl rfl rfl ?_|refine zH (.there (.there .here)) rfl rfl rfl rfl ?_)
    refine J_again (j + 1) hlt (by omega) ⟨⟨?_, rfl, rfl, rfl, trivial⟩, fun w s => s⟩
    rw [hnx, ← or_add hcl]; rfl
  · obtain rfl : j = out.length := by omega
    repeat (first|refine zJ rfl rfl ?_|refine jr rfl ?_|refine jn ?_|refine zM rfl rfl ?_|(refine zC rfl rfl ?_ rfl ?_;omega)|(refine zD rfl rfl ?_ rfl ?_;omega)|(refine zP rfl ?_ rfl ?_;omega)|refine zG rfl rfl rfl rfl ?_|(refine jdq rfl rfl ?_ ?_ ?_;kernel_rfl;kernel_rfl)|refine zB rfl rfl rfl (by repeat constructor) rfl ?_|refine zH .here rfl rfl rfl rfl ?_|refine zH (.there .here) rfl rfl rfl rfl ?_|refine zH (.there (.there .here)) rfl rfl rfl rfl ?_)
    refine J_ret1 rfl rfl [rdr b v' e2] rfl hF ⟨v', ?_, hv', rfl⟩
    rw [List.take_length]
set_option maxHeartbeats 4000000 in
theorem Number_spec (b : Nat) (v : Value) (e n : Int) (bs : List UInt8) (F : PH) (h : Byt F v bs) (hl : bs.length ≤ 1099511627776) :
    Spec Try.prog 32 [.pointer (some ⟨b, 0, none⟩), .int .i64 n] F [Rdr b v e] (NumQ Rdr b (numR e bs n)) := by
  obtain ⟨e1, he1⟩ : ∃ e1, (if e = 0 ∧ sizeB n = false then 2 else e) = e1 := ⟨_, rfl⟩
  have hr : numR e bs n = (numB (fixR e1 bs n).1, (fixR e1 bs n).2) := by simp [numR, he1]
  have hs : e1 ≠ 0 ∨ sizeB n = true := by
    by_cases h1 : e = 0 ∧ sizeB n = false
    · rw [if_pos h1] at he1; left; omega
    · rw [if_neg h1] at he1
      cases hz : sizeB n with
      | true => exact .inr rfl
      | false => left; rw [← he1]; intro h0; exact h1 ⟨h0, hz⟩
  rw [hr]
  have hlen : (fixR e1 bs n).1.length ≤ 8 := fixR_len hs
  have hsz := Size_spec n F
  refine Spec.of2 Try.func32 rfl rfl fun X w0 => ?_
  show J _ _ _ _ (Rdr b _ e :: X)
  refine jc rfl rfl ?_
  refine jr rfl ?_
  refine oM rfl rfl ?_
  refine jn ?_
  refine J_seq (J_open ?_)
  refine J_join [_, _] (fun _ : Unit => True) (fun _ => [(0, .pointer (some ⟨b, 0, none⟩)), (1, .int .i64 n), (5, .int .u64 0)]) (fun _ => F) (fun _ => Rdr b v e1 :: X) ?_ ?_
  · by_cases he : e = 0
    · subst he
      cases hz : sizeB n with
      | true =>
        rw [hz] at hsz he1
        repeat (first|refine zJ rfl rfl ?_|refine jr rfl ?_|refine jn ?_|refine zM rfl rfl ?_|(refine zC rfl rfl ?_ rfl ?_;omega)|(refine zD rfl rfl ?_ rfl ?_;omega)|(refine zP rfl ?_ rfl ?_;omega)|refine zG rfl rfl rfl rfl ?_|(refine jdq rfl rfl ?_ ?_ ?_;kernel_rfl;kernel_rfl)|refine zB rfl rfl rfl (by repeat constructor) rfl ?_|refine zH .here rfl rfl rfl rfl ?_|refine zH (.there .here) rfl rfl rfl rfl ?_|refine zH (.there (.there .here)) rfl rfl rfl rfl ?_)
        refine oP (hsz) Try.call68 rfl rfl ?_
        repeat (first|refine zJ rfl rfl ?_|refine jr rfl ?_|refine jn ?_|refine zM rfl rfl ?_|(refine zC rfl rfl ?_ rfl ?_;omega)|(refine zD rfl rfl ?_ rfl ?_;omega)|(refine zP rfl ?_ rfl ?_;omega)|refine zG rfl rfl rfl rfl ?_|(refine jdq rfl rfl ?_ ?_ ?_;kernel_rfl;kernel_rfl)|refine zB rfl rfl rfl (by repeat constructor) rfl ?_|refine zH .here rfl rfl rfl rfl ?_|refine zH (.there .here) rfl rfl rfl rfl ?_|refine zH (.there (.there .here)) rfl rfl rfl rfl ?_)
        exact J_joined () trivial ⟨⟨rfl, rfl, rfl, trivial⟩, fun w s => by simp at he1; subst he1; exact s⟩
      | false =>
        rw [hz] at hsz he1
        repeat (first|refine zJ rfl rfl ?_|refine jr rfl ?_|refine jn ?_|refine zM rfl rfl ?_|(refine zC rfl rfl ?_ rfl ?_;omega)|(refine zD rfl rfl ?_ rfl ?_;omega)|(refine zP rfl ?_ rfl ?_;omega)|refine zG rfl rfl rfl rfl ?_|(refine jdq rfl rfl ?_ ?_ ?_;kernel_rfl;kernel_rfl)|refine zB rfl rfl rfl (by repeat constructor) rfl ?_|refine zH .here rfl rfl rfl rfl ?_|refine zH (.there .here) rfl rfl rfl rfl ?_|refine zH (.there (.there .here)) rfl rfl rfl rfl ?_)
        refine oP (hsz) Try.call68 rfl rfl ?_
        repeat (first|refine zJ rfl rfl ?_|refine jr rfl ?_|refine jn ?_|refine zM rfl rfl ?_|(refine zC rfl rfl ?_ rfl ?_;omega)|(refine zD rfl rfl ?_ rfl ?_;omega)|(refine zP rfl ?_ rfl ?_;omega)|refine zG rfl rfl rfl rfl ?_|(refine jdq rfl rfl ?_ ?_ ?_;kernel_rfl;kernel_rfl)|refine zB rfl rfl rfl (by repeat constructor) rfl ?_|refine zH .here rfl rfl rfl rfl ?_|refine zH (.there .here) rfl rfl rfl rfl ?_|refine zH (.there (.there .here)) rfl rfl rfl rfl ?_)
        refine oN (ev_store rfl rfl .int rfl rfl (.skip (.put .nil)) (ones_cons rfl ones_nil) .here) rfl ?_
        rintro _ _ _ _ ⟨rfl, _, rfl⟩
        repeat (first|refine zJ rfl rfl ?_|refine jr rfl ?_|refine jn ?_|refine zM rfl rfl ?_|(refine zC rfl rfl ?_ rfl ?_;omega)|(refine zD rfl rfl ?_ rfl ?_;omega)|(refine zP rfl ?_ rfl ?_;omega)|refine zG rfl rfl rfl rfl ?_|(refine jdq rfl rfl ?_ ?_ ?_;kernel_rfl;kernel_rfl)|refine zB rfl rfl rfl (by repeat constructor) rfl ?_|refine zH .here rfl rfl rfl rfl ?_|refine zH (.there .here) rfl rfl rfl rfl ?_|refine zH (.there (.there .here)) rfl rfl rfl rfl ?_)
        exact J_joined () trivial ⟨⟨rfl, rfl, rfl, trivial⟩, fun w s => by simp at he1; subst he1; exact s⟩
    · repeat (first|refine zJ rfl rfl ?_|refine jr rfl ?_|refine jn ?_|refine zM rfl rfl ?_|(refine zC rfl rfl ?_ rfl ?_;omega)|(refine zD rfl rfl ?_ rfl ?_;omega)|(refine zP rfl ?_ rfl ?_;omega)|refine zG rfl rfl rfl rfl ?_|(refine jdq rfl rfl ?_ ?_ ?_;kernel_rfl;kernel_rfl)|refine zB rfl rfl rfl (by repeat constructor) rfl ?_|refine zH .here rfl rfl rfl rfl ?_|refine zH (.there .here) rfl rfl rfl rfl ?_|refine zH (.there (.there .here)) rfl rfl rfl rfl ?_)
      exact J_joined () trivial ⟨⟨rfl, rfl, rfl, trivial⟩, fun w s => by simp [he] at he1; subst he1; exact s⟩
  intro _ _
  repeat (first|refine zJ rfl rfl ?_|refine jr rfl ?_|refine jn ?_|refine zM rfl rfl ?_|(refine zC rfl rfl ?_ rfl ?_;omega)|(refine zD rfl rfl ?_ rfl ?_;omega)|(refine zP rfl ?_ rfl ?_;omega)|refine zG rfl rfl rfl rfl ?_|(refine jdq rfl rfl ?_ ?_ ?_;kernel_rfl;kernel_rfl)|refine zB rfl rfl rfl (by repeat constructor) rfl ?_|refine zH .here rfl rfl rfl rfl ?_|refine zH (.there .here) rfl rfl rfl rfl ?_|refine zH (.there (.there .here)) rfl rfl rfl rfl ?_)
  refine oC (Hc := [Rdr b v e1]) (Hr := X) (Fixed_spec b v e1 n bs F h hl) Try.call69 rfl rfl (fun _ s => s) ?_
  rintro u F1 _ hF ⟨v', hu, hv', rfl⟩
  generalize hfx : fixR e1 bs n = r at *
  obtain ⟨out, e2, bs2⟩ := r
  dsimp only at hlen hu hv' ⊢
  obtain ⟨a, c, rfl, hc⟩ := hu.form
  repeat (first|refine zJ rfl rfl ?_|refine jr rfl ?_|refine jn ?_|refine zM rfl rfl ?_|(refine zC rfl rfl ?_ rfl ?_;omega)|(refine zD rfl rfl ?_ rfl ?_;omega)|(refine zP rfl ?_ rfl ?_;omega)|refine zG rfl rfl rfl rfl ?_|(refine jdq rfl rfl ?_ ?_ ?_;kernel_rfl;kernel_rfl)|refine zB rfl rfl rfl (by repeat constructor) rfl ?_|refine zH .here rfl rfl rfl rfl ?_|refine zH (.there .here) rfl rfl rfl rfl ?_|refine zH (.there (.there .here)) rfl rfl rfl rfl ?_)
  refine J_loop (ι := Nat) (fun j => j ≤ out.length) (fun j => out.length - j) (fun j => [(5, .int .u64 (numB (out.take j))), (23, .slice a out.length c), (24, .int .i64 out.length), (25, .int .i64 j)]) (fun _ => F1)
    (fun j => Rdr b v' e2 :: X) 0 (Nat.zero_le _) ⟨⟨rfl, rfl, rfl, rfl, trivial⟩, fun _ h => h⟩ ?_
  intro j hj
  by_cases hlt : j < out.length
  · obtain ⟨b1, off, rfl, hcell⟩ := hu.at hlt
    have hg : out[j]? = some out[j] := List.getElem?_eq_getElem hlt
    have hn1 := numB_take_lt hlen hlt
    have hcl : out[j].toNat < 256 := out[j].toNat_lt
    have hnx := numB_take hg
    generalize out[j] = ch at *
    repeat (first|refine zJ rfl rfl ?_|refine jr rfl ?_|refine jn ?_|refine zM rfl rfl ?_|(refine zC rfl rfl ?_ rfl ?_;omega)|(refine zD rfl rfl ?_ rfl ?_;omega)|(refine zP rfl ?_ rfl ?_;omega)|refine zG rfl rfl rfl rfl ?_|(refine jdq rfl rfl ?_ ?_ ?_;kernel_rfl;kernel_rfl)|refine zB rfl rfl rfl (by repeat constructor) rfl ?_|refine zH .here rfl rfl rfl rfl ?_|refine zH (.there .here) rfl rfl rfl rfl ?_|refine zH (.there (.there .here)) rfl rfl rfl rfl ?_)
    refine oS (ev_indexAddr rfl rfl rfl hlt) rfl ?_
    refine oS (ev_load rfl rfl (Rdb.ofF hcell)) rfl ?_
    repeat (first|refine zJ rfl rfl ?_|refine jr rfl ?_|refine jn ?_|refine zM rfl rfl ?_|(refine zC rfl rfl ?_ rfl ?_;omega)|(refine zD rfl rfl ?_ rfl ?_;omega)|(refine zP rfl ?_ rfl ?_;omega)|refine zG rfl rfl rfl rfl ?_|(refine jdq rfl rfl ?_ ?_ ?_;kernel_rfl;kernel_rfl)|refine zB rfl rfl rfl (by repeat constructor) rfl ?_|refine zH .here rfl rfl rfl rfl ?_|refine zH (.there .here) rfl rfl rfl rfl ?_|refine zH (.there (.there .here)) rfl rfl rfl rfl ?_)
    repeat (first|refine zJ rfl rfl ?_|refine jr rfl ?_|refine jn ?_|refine zM rfl rfl ?_|(refine zC rfl rfl ?_ rfl ?_;omega)|(refine zD rfl rfl ?_ rfl ?_;omega)|(refine zP rfl ?_ rfl ?_;omega)|refine zG rfl rfl rfl rfl ?_|(refine jdq rfl rfl ?_ ?_ ?_;kernel_rfl;kernel_rfl)|refine zB rfl rfl rfl (by repeat constructor) rfl ?_|refine zH .here rfl rfl rfl rfl ?_|refine zH (.there .here) rfl rfl rfl rfl ?_|refine zH (.there (.there .here)) rfl rfl rfl rfl ?_)
    refine J_again (j + 1) hlt (by omega) ⟨⟨?_, rfl, rfl, rfl, trivial⟩, fun w s => s⟩
    rw [hnx, Int.natCast_add, Int.natCast_mul]; rfl
  · obtain rfl : j = out.length := by omega
    repeat (first|refine zJ rfl rfl ?_|refine jr rfl ?_|refine jn ?_|refine zM rfl rfl ?_|(refine zC rfl rfl ?_ rfl ?_;omega)|(refine zD rfl rfl ?_ rfl ?_;omega)|(refine zP rfl ?_ rfl ?_;omega)|refine zG rfl rfl rfl rfl ?_|(refine jdq rfl rfl ?_ ?_ ?_;kernel_rfl;kernel_rfl)|refine zB rfl rfl rfl (by repeat constructor) rfl ?_|refine zH .here rfl rfl rfl rfl ?_|refine zH (.there .here) rfl rfl rfl rfl ?_|refine zH (.there (.there .here)) rfl rfl rfl rfl ?_)
    refine J_ret1 rfl rfl [Rdr b v' e2] rfl hF ⟨v', ?_, hv', rfl⟩
    rw [List.take_length]
end Go.Proofs.Ytifdlhafcfbeaaa
