/-
  The octets' readers: ok, fail, Fixed; the document's Fixed. Conditions are typed with each.
-/
import Derived.Test.YtifdlhafcfbeaaaOc
namespace Go.Proofs.Ytifdlhafcfbeaaa
open Go.RowKit
set_option maxRecDepth 100000
theorem Byt.form {F : PH} {v : Value} {bs : List UInt8} (h : Byt F v bs) : ∃ a c, v = .slice a bs.length c ∧ bs.length ≤ c := by
  obtain ⟨_, a, c, e, hn, _⟩ := h
  exact ⟨a, c, e, hn⟩
theorem Byt.pre {F : PH} {a : Option Addr} {c : Nat} {bs : List UInt8} (h : Byt F (.slice a bs.length c) bs) {k m : Nat} (hk : k ≤ bs.length) (hm : k ≤ m) : SliceV F 1 (.slice a k m) k (u8s (bs.take k)) := by
  obtain ⟨h1, a', c', e, h2, h3⟩ := h
  cases e
  refine ⟨by simp [u8s]; omega, a, m, rfl, hm, fun h0 => ?_⟩
  obtain ⟨b, off, ha, hc⟩ := h3 (by omega)
  refine ⟨b, off, ha, ?_⟩
  have : u8s bs = u8s (bs.take k) ++ u8s (bs.drop k) := by rw [← u8s_append, List.take_append_drop]
  rw [this] at hc
  exact hc.left
theorem Byt.suf {F : PH} {a : Option Addr} {c : Nat} {bs : List UInt8} (h : Byt F (.slice a bs.length c) bs) {k : Nat} (hk : k ≤ bs.length) (hc : bs.length ≤ c) : Byt F (cutV a 1 c k bs.length c) (bs.drop k) := by
  have := SliceV.cut (c := c) (lo := k) (hi := bs.length) (m := c) h hk (Nat.le_refl _) hc
  unfold Byt
  rw [List.length_drop, u8s_drop]
  simp only [Nat.mul_one] at this
  rw [List.take_of_length_le (by rw [List.length_drop, u8s_len]; exact Nat.le_refl _)] at this
  exact this
theorem Byt.nil (F : PH) : Byt F (.slice none 0 0) [] := SliceV.nil F 1
theorem bytes_byt {F h : PH} {v : Value} {bs : List UInt8} (ho : bytes v bs h) (hd : F.dj h) : Byt (F.un h) v bs := own_slice ho hd
theorem clone_spec' (a : Option Addr) (n c : Nat) (bs : List UInt8) (F : PH) (hl : bs.length = n) (h : SliceV F 1 (.slice a n c) n (u8s bs)) (hn : n ≤ 1099511627776) :
    Spec Try.prog 62 [.slice a n c] F [] fun u F' H' => F = F' ∧ (u = .slice none 0 0 ↔ a = none) ∧ H' = [bytes u bs] := by
  subst hl; exact clone_spec a c bs F h hn
/-- The end of a function without results. -/
theorem J_end {P : Program} {fn : Func} {N : Nat} {w0 : World} {l : Env} {F F0 : PH} {H X : List Asrt} {Q : Value → PH → List Asrt → Prop} (hres : fn.results = #[]) (H' : List Asrt) (hH : ∀ w, Sat F H w → Sat F (H' ++ X) w) (hF : F0.le F) (hQ : Q (.tuple #[]) F H') :
    J ⟨P, fn, Post w0 F0 X Q, N, w0⟩ [] l F H := by
  unfold J
  intro a w ha hm hs
  exact ⟨ha.defers, _, results_run ha hs (rs := []) (vs := []) (by simp [hres]) .nil, ⟨_, F, H', rfl, hF, hQ, hm, hH w hs⟩⟩
/-- A reader's struct. -/
abbrev rdr (b : Nat) (v : Value) (e : Int) : Asrt := blk b 88 [v, .int .i64 e]
abbrev Rdr (b : Nat) (v : Value) (e : Int) : Asrt := blk b 60 [v, .int .i64 e]
set_option maxHeartbeats 1000000 in
theorem ok_spec (b : Nat) (v : Value) (e : Int) (x : Bool) (hx : decide (e = 0) = x) (F : PH) : Spec Try.prog 63 [.pointer (some ⟨b, 0, none⟩)] F [rdr b v e] fun u F' H' => F = F' ∧ u = .bool x ∧ H' = [rdr b v e] := by
  refine Spec.of1 Try.func63 rfl rfl fun X w0 => ?_
  show J _ _ _ _ (rdr b v e :: X)
  cases x with
  | true =>
    have he : e = 0 := by simpa using hx
    repeat (first|refine zJ rfl rfl ?_|refine jr rfl ?_|refine jn ?_|refine zM rfl rfl ?_|(refine zC rfl rfl ?_ rfl ?_;omega)|(refine zD rfl rfl ?_ rfl ?_;omega)|(refine zP rfl ?_ rfl ?_;omega)|refine zG rfl rfl rfl rfl ?_|(refine jdq rfl rfl ?_ ?_ ?_;kernel_rfl;kernel_rfl)|refine zB rfl rfl rfl (by repeat constructor) rfl ?_|refine zH .here rfl rfl rfl rfl ?_|refine zH (.there .here) rfl rfl rfl rfl ?_|refine zH (.there (.there .here)) rfl rfl rfl rfl ?_)
    exact J_ret1 rfl rfl [rdr b v e] rfl (PH.ler _) ⟨rfl, rfl, rfl⟩
  | false =>
    have he : ¬ e = 0 := by simpa using hx
    repeat (first|refine zJ rfl rfl ?_|refine jr rfl ?_|refine jn ?_|refine zM rfl rfl ?_|(refine zC rfl rfl ?_ rfl ?_;omega)|(refine zD rfl rfl ?_ rfl ?_;omega)|(refine zP rfl ?_ rfl ?_;omega)|refine zG rfl rfl rfl rfl ?_|(refine jdq rfl rfl ?_ ?_ ?_;kernel_rfl;kernel_rfl)|refine zB rfl rfl rfl (by repeat constructor) rfl ?_|refine zH .here rfl rfl rfl rfl ?_|refine zH (.there .here) rfl rfl rfl rfl ?_|refine zH (.there (.there .here)) rfl rfl rfl rfl ?_)
    exact J_ret1 rfl rfl [rdr b v e] rfl (PH.ler _) ⟨rfl, rfl, rfl⟩
theorem ok_nil (F : PH) : Pure Try.prog 63 [.pointer none] F (.bool false) := by
  refine Spec.of1 Try.func63 rfl rfl fun X w0 => ?_
  repeat (first|refine zJ rfl rfl ?_|refine jr rfl ?_|refine jn ?_|refine zM rfl rfl ?_|(refine zC rfl rfl ?_ rfl ?_;omega)|(refine zD rfl rfl ?_ rfl ?_;omega)|(refine zP rfl ?_ rfl ?_;omega)|refine zG rfl rfl rfl rfl ?_|(refine jdq rfl rfl ?_ ?_ ?_;kernel_rfl;kernel_rfl)|refine zB rfl rfl rfl (by repeat constructor) rfl ?_|refine zH .here rfl rfl rfl rfl ?_|refine zH (.there .here) rfl rfl rfl rfl ?_|refine zH (.there (.there .here)) rfl rfl rfl rfl ?_)
  exact J_ret1 rfl rfl [] rfl (PH.ler _) ⟨rfl, rfl⟩
set_option maxHeartbeats 1000000 in
theorem fail_spec (b : Nat) (v : Value) (e : Int) (F : PH) : Spec Try.prog 65 [.pointer (some ⟨b, 0, none⟩), .int .i64 e] F [rdr b v 0] fun u F' H' => F = F' ∧ H' = [rdr b v e] := by
  refine Spec.of2 Try.func65 rfl rfl fun X w0 => ?_
  show J _ _ _ _ (rdr b v 0 :: X)
  repeat (first|refine zJ rfl rfl ?_|refine jr rfl ?_|refine jn ?_|refine zM rfl rfl ?_|(refine zC rfl rfl ?_ rfl ?_;omega)|(refine zD rfl rfl ?_ rfl ?_;omega)|(refine zP rfl ?_ rfl ?_;omega)|refine zG rfl rfl rfl rfl ?_|(refine jdq rfl rfl ?_ ?_ ?_;kernel_rfl;kernel_rfl)|refine zB rfl rfl rfl (by repeat constructor) rfl ?_|refine zH .here rfl rfl rfl rfl ?_|refine zH (.there .here) rfl rfl rfl rfl ?_|refine zH (.there (.there .here)) rfl rfl rfl rfl ?_)
  refine oN (ev_store rfl rfl .int rfl rfl (.skip (.put .nil)) (ones_cons rfl ones_nil) .here) rfl ?_
  rintro _ _ _ _ ⟨rfl, _, rfl⟩
  repeat (first|refine zJ rfl rfl ?_|refine jr rfl ?_|refine jn ?_|refine zM rfl rfl ?_|(refine zC rfl rfl ?_ rfl ?_;omega)|(refine zD rfl rfl ?_ rfl ?_;omega)|(refine zP rfl ?_ rfl ?_;omega)|refine zG rfl rfl rfl rfl ?_|(refine jdq rfl rfl ?_ ?_ ?_;kernel_rfl;kernel_rfl)|refine zB rfl rfl rfl (by repeat constructor) rfl ?_|refine zH .here rfl rfl rfl rfl ?_|refine zH (.there .here) rfl rfl rfl rfl ?_|refine zH (.there (.there .here)) rfl rfl rfl rfl ?_)
  exact J_end rfl [rdr b v e] (fun w s => s) (PH.ler _) ⟨rfl, rfl⟩
/-- What Fixed reads, the failure and what is left. -/
def fixR (e : Int) (bs : List UInt8) (n : Int) : List UInt8 × Int × List UInt8 := if e ≠ 0 then ([], e, bs) else if n < 0 ∨ bs.length < n then ([], 2, bs) else (bs.take n.toNat, 0, bs.drop n.toNat)
def FixQ (R : Nat → Value → Int → Asrt) (b : Nat) (r : List UInt8 × Int × List UInt8) (u : Value) (F' : PH) (H' : List Asrt) : Prop := ∃ v', Byt F' u r.1 ∧ Byt F' v' r.2.2 ∧ H' = [R b v' r.2.1]
set_option maxHeartbeats 2000000 in
theorem fixed_spec (b : Nat) (v : Value) (e n : Int) (bs : List UInt8) (F : PH) (h : Byt F v bs) (hl : bs.length ≤ 1099511627776) :
    Spec Try.prog 66 [.pointer (some ⟨b, 0, none⟩), .int .i64 n] F [rdr b v e] (FixQ rdr b (fixR e bs n)) := by
  obtain ⟨a, c, rfl, hc⟩ := h.form
  refine Spec.of2 Try.func66 rfl rfl fun X w0 => ?_
  show J _ _ _ _ (rdr b _ e :: X)
  repeat (first|refine zJ rfl rfl ?_|refine jr rfl ?_|refine jn ?_|refine zM rfl rfl ?_|(refine zC rfl rfl ?_ rfl ?_;omega)|(refine zD rfl rfl ?_ rfl ?_;omega)|(refine zP rfl ?_ rfl ?_;omega)|refine zG rfl rfl rfl rfl ?_|(refine jdq rfl rfl ?_ ?_ ?_;kernel_rfl;kernel_rfl)|refine zB rfl rfl rfl (by repeat constructor) rfl ?_|refine zH .here rfl rfl rfl rfl ?_|refine zH (.there .here) rfl rfl rfl rfl ?_|refine zH (.there (.there .here)) rfl rfl rfl rfl ?_)
  by_cases he : e = 0
  · subst he
    refine oC (Hc := [rdr b _ 0]) (Hr := X) (ok_spec b _ 0 true rfl F) Try.call63 rfl rfl (fun _ s => s) ?_
    rintro _ _ _ _ ⟨rfl, rfl, rfl⟩
    by_cases hn : n < 0 ∨ bs.length < n
    · have hr : fixR 0 bs n = ([], 2, bs) := by simp [fixR, hn]
      rw [hr]
      by_cases hn0 : n < 0
      · repeat (first|refine zJ rfl rfl ?_|refine jr rfl ?_|refine jn ?_|refine zM rfl rfl ?_|(refine zC rfl rfl ?_ rfl ?_;omega)|(refine zD rfl rfl ?_ rfl ?_;omega)|(refine zP rfl ?_ rfl ?_;omega)|refine zG rfl rfl rfl rfl ?_|(refine jdq rfl rfl ?_ ?_ ?_;kernel_rfl;kernel_rfl)|refine zB rfl rfl rfl (by repeat constructor) rfl ?_|refine zH .here rfl rfl rfl rfl ?_|refine zH (.there .here) rfl rfl rfl rfl ?_|refine zH (.there (.there .here)) rfl rfl rfl rfl ?_)
        refine oC (Hc := [rdr b _ 0]) (Hr := X) (fail_spec b _ 2 F) Try.call65 rfl rfl (fun _ s => s) ?_
        rintro _ _ _ _ ⟨rfl, rfl⟩
        repeat (first|refine zJ rfl rfl ?_|refine jr rfl ?_|refine jn ?_|refine zM rfl rfl ?_|(refine zC rfl rfl ?_ rfl ?_;omega)|(refine zD rfl rfl ?_ rfl ?_;omega)|(refine zP rfl ?_ rfl ?_;omega)|refine zG rfl rfl rfl rfl ?_|(refine jdq rfl rfl ?_ ?_ ?_;kernel_rfl;kernel_rfl)|refine zB rfl rfl rfl (by repeat constructor) rfl ?_|refine zH .here rfl rfl rfl rfl ?_|refine zH (.there .here) rfl rfl rfl rfl ?_|refine zH (.there (.there .here)) rfl rfl rfl rfl ?_)
        exact J_ret1 rfl rfl [rdr b _ 2] rfl (PH.ler _) ⟨_, Byt.nil F, h, rfl⟩
      · repeat (first|refine zJ rfl rfl ?_|refine jr rfl ?_|refine jn ?_|refine zM rfl rfl ?_|(refine zC rfl rfl ?_ rfl ?_;omega)|(refine zD rfl rfl ?_ rfl ?_;omega)|(refine zP rfl ?_ rfl ?_;omega)|refine zG rfl rfl rfl rfl ?_|(refine jdq rfl rfl ?_ ?_ ?_;kernel_rfl;kernel_rfl)|refine zB rfl rfl rfl (by repeat constructor) rfl ?_|refine zH .here rfl rfl rfl rfl ?_|refine zH (.there .here) rfl rfl rfl rfl ?_|refine zH (.there (.there .here)) rfl rfl rfl rfl ?_)
        refine oC (Hc := [rdr b _ 0]) (Hr := X) (fail_spec b _ 2 F) Try.call65 rfl rfl (fun _ s => s) ?_
        rintro _ _ _ _ ⟨rfl, rfl⟩
        repeat (first|refine zJ rfl rfl ?_|refine jr rfl ?_|refine jn ?_|refine zM rfl rfl ?_|(refine zC rfl rfl ?_ rfl ?_;omega)|(refine zD rfl rfl ?_ rfl ?_;omega)|(refine zP rfl ?_ rfl ?_;omega)|refine zG rfl rfl rfl rfl ?_|(refine jdq rfl rfl ?_ ?_ ?_;kernel_rfl;kernel_rfl)|refine zB rfl rfl rfl (by repeat constructor) rfl ?_|refine zH .here rfl rfl rfl rfl ?_|refine zH (.there .here) rfl rfl rfl rfl ?_|refine zH (.there (.there .here)) rfl rfl rfl rfl ?_)
        exact J_ret1 rfl rfl [rdr b _ 2] rfl (PH.ler _) ⟨_, Byt.nil F, h, rfl⟩
    · have hr : fixR 0 bs n = (bs.take n.toNat, 0, bs.drop n.toNat) := by simp [fixR, hn]
      rw [hr]
      obtain ⟨m, rfl⟩ : ∃ m : Nat, n = (m : Int) := ⟨n.toNat, by omega⟩
      have hm : m ≤ bs.length := by omega
      rw [show ((m : Int)).toNat = m from by omega]
      repeat (first|refine zJ rfl rfl ?_|refine jr rfl ?_|refine jn ?_|refine zM rfl rfl ?_|(refine zC rfl rfl ?_ rfl ?_;omega)|(refine zD rfl rfl ?_ rfl ?_;omega)|(refine zP rfl ?_ rfl ?_;omega)|refine zG rfl rfl rfl rfl ?_|(refine jdq rfl rfl ?_ ?_ ?_;kernel_rfl;kernel_rfl)|refine zB rfl rfl rfl (by repeat constructor) rfl ?_|refine zH .here rfl rfl rfl rfl ?_|refine zH (.there .here) rfl rfl rfl rfl ?_|refine zH (.there (.there .here)) rfl rfl rfl rfl ?_)
      refine oS (ev_slice_clip (hi := m) (m := m) rfl rfl rfl rfl (Nat.le_refl _) (by omega)) rfl ?_
      refine oC (Hc := []) (Hr := rdr b (.slice a bs.length c) 0 :: X) (clone_spec' a m m (bs.take m) F (by simp; omega) (h.pre hm (Nat.le_refl _)) (by omega)) Try.call62 rfl rfl (fun _ s => s) ?_
      rintro u _ _ _ ⟨rfl, _, rfl⟩
      refine oPersist fun h' hA hdj => ?_
      repeat (first|refine zJ rfl rfl ?_|refine jr rfl ?_|refine jn ?_|refine zM rfl rfl ?_|(refine zC rfl rfl ?_ rfl ?_;omega)|(refine zD rfl rfl ?_ rfl ?_;omega)|(refine zP rfl ?_ rfl ?_;omega)|refine zG rfl rfl rfl rfl ?_|(refine jdq rfl rfl ?_ ?_ ?_;kernel_rfl;kernel_rfl)|refine zB rfl rfl rfl (by repeat constructor) rfl ?_|refine zH .here rfl rfl rfl rfl ?_|refine zH (.there .here) rfl rfl rfl rfl ?_|refine zH (.there (.there .here)) rfl rfl rfl rfl ?_)
      refine oS (ev_slice_lo (lo := m) rfl rfl rfl hm) rfl ?_
      repeat (first|refine zJ rfl rfl ?_|refine jr rfl ?_|refine jn ?_|refine zM rfl rfl ?_|(refine zC rfl rfl ?_ rfl ?_;omega)|(refine zD rfl rfl ?_ rfl ?_;omega)|(refine zP rfl ?_ rfl ?_;omega)|refine zG rfl rfl rfl rfl ?_|(refine jdq rfl rfl ?_ ?_ ?_;kernel_rfl;kernel_rfl)|refine zB rfl rfl rfl (by repeat constructor) rfl ?_|refine zH .here rfl rfl rfl rfl ?_|refine zH (.there .here) rfl rfl rfl rfl ?_|refine zH (.there (.there .here)) rfl rfl rfl rfl ?_)
      refine oN (ev_store rfl rfl .slice rfl rfl (.put .nil) (ones_cons rfl ones_nil) .here) rfl ?_
      rintro _ _ _ _ ⟨rfl, _, rfl⟩
      repeat (first|refine zJ rfl rfl ?_|refine jr rfl ?_|refine jn ?_|refine zM rfl rfl ?_|(refine zC rfl rfl ?_ rfl ?_;omega)|(refine zD rfl rfl ?_ rfl ?_;omega)|(refine zP rfl ?_ rfl ?_;omega)|refine zG rfl rfl rfl rfl ?_|(refine jdq rfl rfl ?_ ?_ ?_;kernel_rfl;kernel_rfl)|refine zB rfl rfl rfl (by repeat constructor) rfl ?_|refine zH .here rfl rfl rfl rfl ?_|refine zH (.there .here) rfl rfl rfl rfl ?_|refine zH (.there (.there .here)) rfl rfl rfl rfl ?_)
      exact J_ret1 rfl rfl [rdr b (cutV a 1 c m bs.length c) 0] rfl (PH.le_l _ _) ⟨_, bytes_byt hA hdj, (h.suf hm hc).mono (PH.le_l _ _), rfl⟩
  · refine oC (Hc := [rdr b _ e]) (Hr := X) (ok_spec b _ e false (by simp [he]) F) Try.call63 rfl rfl (fun _ s => s) ?_
    rintro _ _ _ _ ⟨rfl, rfl, rfl⟩
    repeat (first|refine zJ rfl rfl ?_|refine jr rfl ?_|refine jn ?_|refine zM rfl rfl ?_|(refine zC rfl rfl ?_ rfl ?_;omega)|(refine zD rfl rfl ?_ rfl ?_;omega)|(refine zP rfl ?_ rfl ?_;omega)|refine zG rfl rfl rfl rfl ?_|(refine jdq rfl rfl ?_ ?_ ?_;kernel_rfl;kernel_rfl)|refine zB rfl rfl rfl (by repeat constructor) rfl ?_|refine zH .here rfl rfl rfl rfl ?_|refine zH (.there .here) rfl rfl rfl rfl ?_|refine zH (.there (.there .here)) rfl rfl rfl rfl ?_)
    have hr : fixR e bs n = ([], e, bs) := by simp [fixR, he]
    rw [hr]
    exact J_ret1 rfl rfl [rdr b _ e] rfl (PH.ler _) ⟨_, Byt.nil F, h, rfl⟩
theorem fixed_nil (n : Int) (F : PH) : Pure Try.prog 66 [.pointer none, .int .i64 n] F (.slice none 0 0) := by
  refine Spec.of2 Try.func66 rfl rfl fun X w0 => ?_
  repeat (first|refine zJ rfl rfl ?_|refine jr rfl ?_|refine jn ?_|refine zM rfl rfl ?_|(refine zC rfl rfl ?_ rfl ?_;omega)|(refine zD rfl rfl ?_ rfl ?_;omega)|(refine zP rfl ?_ rfl ?_;omega)|refine zG rfl rfl rfl rfl ?_|(refine jdq rfl rfl ?_ ?_ ?_;kernel_rfl;kernel_rfl)|refine zB rfl rfl rfl (by repeat constructor) rfl ?_|refine zH .here rfl rfl rfl rfl ?_|refine zH (.there .here) rfl rfl rfl rfl ?_|refine zH (.there (.there .here)) rfl rfl rfl rfl ?_)
  refine oP (ok_nil F) Try.call63 rfl rfl ?_
  repeat (first|refine zJ rfl rfl ?_|refine jr rfl ?_|refine jn ?_|refine zM rfl rfl ?_|(refine zC rfl rfl ?_ rfl ?_;omega)|(refine zD rfl rfl ?_ rfl ?_;omega)|(refine zP rfl ?_ rfl ?_;omega)|refine zG rfl rfl rfl rfl ?_|(refine jdq rfl rfl ?_ ?_ ?_;kernel_rfl;kernel_rfl)|refine zB rfl rfl rfl (by repeat constructor) rfl ?_|refine zH .here rfl rfl rfl rfl ?_|refine zH (.there .here) rfl rfl rfl rfl ?_|refine zH (.there (.there .here)) rfl rfl rfl rfl ?_)
  exact J_ret1 rfl rfl [] rfl (PH.ler _) ⟨rfl, rfl⟩
end Go.Proofs.Ytifdlhafcfbeaaa
