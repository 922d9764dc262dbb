/-
  The octets' Put, the program's and the document's. Conditions are typed with each.
-/
import Derived.Test.YtmicjjhkoicdnaaDoorOa
namespace Go.Proofs.YtmicjjhkoicdnaaDoor
open Go.RowKit
set_option maxRecDepth 100000
theorem wrap_u8 (x : Nat) : IntKind.u8.wrap (x : Int) = ((UInt8.ofNat x).toNat : Int) := by
  simp [IntKind.wrap, IntKind.bits, IntKind.signed]
def be8 (v : Nat) : List UInt8 := (List.range 8).map fun i => UInt8.ofNat (v >>> (56 - 8 * i))
/-- What Put puts. -/
def putB (v : Nat) (n : Int) : List UInt8 := if sizeB n then (be8 v).drop (8 - n.toNat) else []
theorem be8_len (v : Nat) : (be8 v).length = 8 := by simp [be8]
def wr8 (v j : Nat) : List Value := u8s ((be8 v).take j) ++ List.replicate (8 - j) (.int .u8 0)
theorem wr8_set (v j : Nat) (hj : j < 8) : (wr8 v j).set j (.int .u8 (((UInt8.ofNat (v >>> (56 - 8 * j))).toNat : Nat) : Int)) = wr8 v (j + 1) := by
  have : j = 0 ∨ j = 1 ∨ j = 2 ∨ j = 3 ∨ j = 4 ∨ j = 5 ∨ j = 6 ∨ j = 7 := by omega
  rcases this with rfl | rfl | rfl | rfl | rfl | rfl | rfl | rfl <;> rfl
theorem wr8_len (v j : Nat) (hj : j ≤ 8) : (wr8 v j).length = 8 := by simp [wr8, u8s, be8]; omega
theorem wr8_8 (v : Nat) : wr8 v 8 = u8s (be8 v) := by
  unfold wr8
  rw [List.take_of_length_le (by rw [be8_len]; exact Nat.le_refl _)]
  simp
set_option maxHeartbeats 4000000 in
theorem put_spec (a : Option Addr) (c v : Nat) (n : Int) (bs : List UInt8) (F : PH) (h : Byt F (.slice a bs.length c) bs) (hc : bs.length ≤ c) (hv : v < 2 ^ 64) (hn : bs.length ≤ 1099511627776) :
    Spec Tryd.prog 39 [.slice a bs.length c, .int .u64 v, .int .i64 n] F [] fun u F' H' => F = F' ∧ H' = [bytes u (bs ++ putB v n)] := by
  have hclip : Byt F (.slice a bs.length bs.length) bs := by
    obtain ⟨h1, a', c', e, h2, h3⟩ := h
    cases e
    exact ⟨h1, a, _, rfl, Nat.le_refl _, h3⟩
  refine Spec.of3 Tryd.func39 rfl rfl fun X w0 => ?_
  repeat (first|refine zJ rfl rfl ?_|refine jr rfl ?_|refine jn ?_|refine zM rfl rfl ?_|(refine zC rfl rfl ?_ rfl ?_;omega)|(refine zD rfl rfl ?_ rfl ?_;omega)|(refine zP rfl ?_ rfl ?_;omega)|refine zG rfl rfl rfl rfl ?_|(refine jdq rfl rfl ?_ ?_ ?_;kernel_rfl;kernel_rfl)|refine zB rfl rfl rfl (by repeat constructor) rfl ?_)
  refine oP (clip_spec a bs.length c hc F) Tryd.call43 rfl rfl ?_
  repeat (first|refine zJ rfl rfl ?_|refine jr rfl ?_|refine jn ?_|refine zM rfl rfl ?_|(refine zC rfl rfl ?_ rfl ?_;omega)|(refine zD rfl rfl ?_ rfl ?_;omega)|(refine zP rfl ?_ rfl ?_;omega)|refine zG rfl rfl rfl rfl ?_|(refine jdq rfl rfl ?_ ?_ ?_;kernel_rfl;kernel_rfl)|refine zB rfl rfl rfl (by repeat constructor) rfl ?_)
  have hsz := size_spec n F
  cases hb : sizeB n with
  | false =>
    rw [hb] at hsz
    refine oP (hsz) Tryd.call44 rfl rfl ?_
    repeat (first|refine zJ rfl rfl ?_|refine jr rfl ?_|refine jn ?_|refine zM rfl rfl ?_|(refine zC rfl rfl ?_ rfl ?_;omega)|(refine zD rfl rfl ?_ rfl ?_;omega)|(refine zP rfl ?_ rfl ?_;omega)|refine zG rfl rfl rfl rfl ?_|(refine jdq rfl rfl ?_ ?_ ?_;kernel_rfl;kernel_rfl)|refine zB rfl rfl rfl (by repeat constructor) rfl ?_)
    refine oC (Hc := []) (Hr := X) (clone_spec a bs.length bs F hclip hn) Tryd.call45 rfl rfl (fun _ s => s) ?_
    rintro u _ _ _ ⟨rfl, _, rfl⟩
    repeat (first|refine zJ rfl rfl ?_|refine jr rfl ?_|refine jn ?_|refine zM rfl rfl ?_|(refine zC rfl rfl ?_ rfl ?_;omega)|(refine zD rfl rfl ?_ rfl ?_;omega)|(refine zP rfl ?_ rfl ?_;omega)|refine zG rfl rfl rfl rfl ?_|(refine jdq rfl rfl ?_ ?_ ?_;kernel_rfl;kernel_rfl)|refine zB rfl rfl rfl (by repeat constructor) rfl ?_)
    exact J_ret1 rfl rfl [bytes u (bs ++ putB v n)] (by simp [putB, hb]) (PH.ler _) ⟨rfl, rfl⟩
  | true =>
    rw [hb] at hsz
    have hcases := sizeB_cases hb
    obtain ⟨m, rfl⟩ : ∃ m : Nat, n = (m : Int) := ⟨n.toNat, by omega⟩
    refine oP (hsz) Tryd.call44 rfl rfl ?_
    repeat (first|refine zJ rfl rfl ?_|refine jr rfl ?_|refine jn ?_|refine zM rfl rfl ?_|(refine zC rfl rfl ?_ rfl ?_;omega)|(refine zD rfl rfl ?_ rfl ?_;omega)|(refine zP rfl ?_ rfl ?_;omega)|refine zG rfl rfl rfl rfl ?_|(refine jdq rfl rfl ?_ ?_ ?_;kernel_rfl;kernel_rfl)|refine zB rfl rfl rfl (by repeat constructor) rfl ?_)
    refine oE (ev_alloc rfl) rfl ?_
    rintro _ _ _ _ ⟨rfl, bw, rfl, rfl⟩
    repeat (first|refine zJ rfl rfl ?_|refine jr rfl ?_|refine jn ?_|refine zM rfl rfl ?_|(refine zC rfl rfl ?_ rfl ?_;omega)|(refine zD rfl rfl ?_ rfl ?_;omega)|(refine zP rfl ?_ rfl ?_;omega)|refine zG rfl rfl rfl rfl ?_|(refine jdq rfl rfl ?_ ?_ ?_;kernel_rfl;kernel_rfl)|refine zB rfl rfl rfl (by repeat constructor) rfl ?_)
    refine J_loop (ι := Nat) (fun j => j ≤ 8) (fun j => 8 - j) (fun j => [(0, .slice a bs.length bs.length), (1, .int .u64 v), (2, .int .i64 m), (7, .pointer (some ⟨bw, 0, none⟩)), (16, .int .i64 j)]) (fun _ => F)
      (fun j => blk bw 89 (wr8 v j) :: X) 0 (Nat.zero_le _) ⟨⟨rfl, rfl, rfl, rfl, rfl, trivial⟩, fun _ h => h⟩ ?_
    intro j hj
    by_cases hlt : j < 8
    · repeat (first|refine zJ rfl rfl ?_|refine jr rfl ?_|refine jn ?_|refine zM rfl rfl ?_|(refine zC rfl rfl ?_ rfl ?_;omega)|(refine zD rfl rfl ?_ rfl ?_;omega)|(refine zP rfl ?_ rfl ?_;omega)|refine zG rfl rfl rfl rfl ?_|(refine jdq rfl rfl ?_ ?_ ?_;kernel_rfl;kernel_rfl)|refine zB rfl rfl rfl (by repeat constructor) rfl ?_)
      refine oS (ev_shr (n := 56 - 8 * j) rfl (by rw [show ((56 - 8 * j : Nat) : Int) = 56 - 8 * (j : Int) from by omega]; rfl) hv) rfl ?_
      repeat (first|refine zJ rfl rfl ?_|refine jr rfl ?_|refine jn ?_|refine zM rfl rfl ?_|(refine zC rfl rfl ?_ rfl ?_;omega)|(refine zD rfl rfl ?_ rfl ?_;omega)|(refine zP rfl ?_ rfl ?_;omega)|refine zG rfl rfl rfl rfl ?_|(refine jdq rfl rfl ?_ ?_ ?_;kernel_rfl;kernel_rfl)|refine zB rfl rfl rfl (by repeat constructor) rfl ?_)
      refine oS (ev_conv rfl rfl rfl (wrap_u8 _)) rfl ?_
      refine oS (ev_indexAddr_arr rfl rfl rfl hlt) rfl ?_
      refine oN (ev_store rfl rfl .int rfl rfl (lay_set (i := 0 + j * 1) (r := wr8 v j) _ (by rw [wr8_len v j hj]; omega)) (ones_cons rfl ones_nil) .here) rfl ?_
      rintro _ _ _ _ ⟨rfl, _, rfl⟩
      rw [show 0 + j * 1 = j from by omega, wr8_set v j hlt]
      repeat (first|refine zJ rfl rfl ?_|refine jr rfl ?_|refine jn ?_|refine zM rfl rfl ?_|(refine zC rfl rfl ?_ rfl ?_;omega)|(refine zD rfl rfl ?_ rfl ?_;omega)|(refine zP rfl ?_ rfl ?_;omega)|refine zG rfl rfl rfl rfl ?_|(refine jdq rfl rfl ?_ ?_ ?_;kernel_rfl;kernel_rfl)|refine zB rfl rfl rfl (by repeat constructor) rfl ?_)
      exact J_again (j + 1) hlt (by omega) ⟨⟨rfl, rfl, rfl, rfl, rfl, trivial⟩, fun w s => s⟩
    · obtain rfl : j = 8 := by omega
      rw [wr8_8]
      repeat (first|refine zJ rfl rfl ?_|refine jr rfl ?_|refine jn ?_|refine zM rfl rfl ?_|(refine zC rfl rfl ?_ rfl ?_;omega)|(refine zD rfl rfl ?_ rfl ?_;omega)|(refine zP rfl ?_ rfl ?_;omega)|refine zG rfl rfl rfl rfl ?_|(refine jdq rfl rfl ?_ ?_ ?_;kernel_rfl;kernel_rfl)|refine zB rfl rfl rfl (by repeat constructor) rfl ?_)
      have hm : m ≤ 8 ∧ 1 ≤ m := by omega
      refine oS (ev_slice_arr_lo (lo := 8 - m) rfl (by rw [show ((8 - m : Nat) : Int) = 8 - (m : Int) from by omega]; rfl) rfl (by omega)) rfl ?_
      have hp : putB v m = (be8 v).drop (8 - m) := by simp [putB, hb]
      have hlen : (putB v m).length = 8 - (8 - m) := by rw [hp, List.length_drop, be8_len]
      refine oE (eb_append_fresh (bs := bs) (cs := putB v m) rfl rfl hclip.rds (show RdB F _ (.slice (some ⟨bw, 0 + (8 - m) * 1, none⟩) (8 - (8 - m)) (8 - (8 - m))) (putB v m) from ?_) (by rw [hlen]; omega) (by rw [hlen]; omega)) rfl ?_
      · unfold RdB
        rw [hlen]
        refine RdS.blk .here (by rw [u8s_len, hlen, Nat.mul_one]) ?_ (Nat.le_refl _)
        rw [hp, u8s_drop, Nat.mul_one, Nat.zero_add]
        exact List.take_length
      rintro u _ _ _ ⟨rfl, _, rfl⟩
      repeat (first|refine zJ rfl rfl ?_|refine jr rfl ?_|refine jn ?_|refine zM rfl rfl ?_|(refine zC rfl rfl ?_ rfl ?_;omega)|(refine zD rfl rfl ?_ rfl ?_;omega)|(refine zP rfl ?_ rfl ?_;omega)|refine zG rfl rfl rfl rfl ?_|(refine jdq rfl rfl ?_ ?_ ?_;kernel_rfl;kernel_rfl)|refine zB rfl rfl rfl (by repeat constructor) rfl ?_)
      exact J_retv rfl (.tmp rfl .nil) [bytes u (bs ++ putB v m)] (fun w s => (s.pick (.there .here)).drop) (PH.ler _) ⟨rfl, rfl⟩
end Go.Proofs.YtmicjjhkoicdnaaDoor
