/-
  The document's numbers, written.
  The document's letters and bytes.
  The document's numbers, read.
-/
import Derived.Test.YtekdmpbkcjjllaaDoorPq
namespace Go.Proofs.YtekdmpbkcjjllaaDoor
open Go.RowKit
set_option maxRecDepth 100000
section
variable {P : Program} {l : Env} {F : PH} {H : List Asrt} {d : Option Nat} {T T' U : TypeId} {pos : String} {af : Array Edge} {g : Option (Nat × Bool)} {x y : Operand}
theorem ev_neg {k : IntKind} {n : Int} (hx : opv l x = some (.int k n)) (hr : InK k (-n)) : Ev P ⟨d, .unOp .neg T x, U, pos, af, g⟩ l F H (.int k (-n)) := .of fun ρ hρ w _ => by
  have e1 := hρ _ _ hx
  have hw := wrap_in hr
  simp [execOp, e1, go_sem, Op.unary, hw]
theorem ev_negw {k : IntKind} {n : Int} (hx : opv l x = some (.int k n)) : Ev P ⟨d, .unOp .neg T x, U, pos, af, g⟩ l F H (.int k (k.wrap (-n))) := .of fun ρ hρ w _ => by
  have e1 := hρ _ _ hx
  simp [execOp, e1, go_sem, Op.unary]
theorem ev_quo_neg {a : Nat} {n : Int} (hx : opv l x = some (.int .i64 (-(a : Int)))) (hy : opv l y = some (.int .i64 n)) (h1 : 1 ≤ n) (hm : InK .i64 (-((a : Int) / n))) : Ev P ⟨d, .binOp .quo T x y T', U, pos, af, g⟩ l F H (.int .i64 (-((a : Int) / n))) := .of fun ρ hρ w _ => by
  have e1 := hρ _ _ hx
  have e2 := hρ _ _ hy
  have hn : ¬ n = 0 := by omega
  have hq : (-(a : Int)).tdiv n = -((a : Int) / n) := by rw [Int.neg_tdiv, Int.tdiv_eq_ediv_of_nonneg (Int.natCast_nonneg a)]
  have hw : IntKind.i64.wrap (-((a : Int) / n)) = -((a : Int) / n) := wrap_in hm
  simp [execOp, e1, e2, eqGuard, binOp, Op.intDiv, go_sem, hn, hq, hw]
theorem ev_rem_neg {a : Nat} {n : Int} (hx : opv l x = some (.int .i64 (-(a : Int)))) (hy : opv l y = some (.int .i64 n)) (h1 : 1 ≤ n) : Ev P ⟨d, .binOp .rem T x y T', U, pos, af, g⟩ l F H (.int .i64 (-((a : Int) % n))) := .of fun ρ hρ w _ => by
  have e1 := hρ _ _ hx
  have e2 := hρ _ _ hy
  have hn : ¬ n = 0 := by omega
  have hq : (-(a : Int)).tmod n = -((a : Int) % n) := by rw [Int.neg_tmod, Int.tmod_eq_emod_of_nonneg (Int.natCast_nonneg a)]
  simp [execOp, e1, e2, eqGuard, binOp, Op.intDiv, go_sem, hn, hq]
end
/-- A number's digits; none of 0. -/
def preD (t : Nat) : List UInt8 := if t = 0 then [] else Lib.decDigits t
theorem dec_step (v : Nat) : Lib.decDigits v = preD (v / 10) ++ [UInt8.ofNat (48 + v % 10)] := by
  unfold preD
  rw [Lib.decDigits]
  by_cases h : v < 10
  · rw [dif_pos h, if_pos (by omega), Nat.mod_eq_of_lt h]; rfl
  · rw [dif_neg h, if_neg (by omega)]
theorem preD_step {t : Nat} (h : t ≠ 0) : preD t = preD (t / 10) ++ [UInt8.ofNat (48 + t % 10)] := by
  rw [← dec_step]
  unfold preD
  rw [if_neg h]
theorem digit_val {d : Nat} (h : d < 10) : ((UInt8.ofNat (48 + d)).toNat : Int) = 48 + (d : Int) := by
  have : (UInt8.ofNat (48 + d)).toNat = 48 + d := by simp; omega
  omega
set_option maxHeartbeats 8000000 in
theorem positive_spec (t d : Nat) (F : PH) (hd : d < 10) (ht : t ≤ 922337203685477580) (hR : (preD t ++ [UInt8.ofNat (48 + d)]).length ≤ 100) :
    Pure Tryd.prog 68 [.int .i64 t, .int .i64 d] F (.string (strOf (preD t ++ [UInt8.ofNat (48 + d)]))) := by
  refine Spec.of2 Tryd.func68 rfl rfl fun X w0 => ?_
  repeat (first|refine zJ rfl rfl ?_|refine jr rfl ?_|refine jn ?_|refine zM rfl rfl ?_|(refine zC rfl rfl ?_ rfl ?_;omega)|(refine zD rfl rfl ?_ rfl ?_;omega)|(refine zP rfl ?_ rfl ?_;omega)|refine zG rfl rfl rfl rfl ?_|(refine jdq rfl rfl ?_ ?_ ?_;kernel_rfl;kernel_rfl)|refine zB rfl rfl rfl (by repeat constructor) rfl ?_|refine zH .here rfl rfl rfl rfl ?_|refine zH (.there .here) rfl rfl rfl rfl ?_|refine zH (.there (.there .here)) rfl rfl rfl rfl ?_|refine zH (.there (.there (.there .here))) rfl rfl rfl rfl ?_|refine zH (.there (.there (.there (.there .here)))) rfl rfl rfl rfl ?_)
  rw [show (48 : Int) + (d : Int) = ((UInt8.ofNat (48 + d)).toNat : Int) from (digit_val hd).symm]
  refine oE (ev_buildSlice (E := 5) (zs := [.int .u8 0]) (t := u8s [UInt8.ofNat (48 + d)]) rfl rfl rfl rfl rfl rfl (.cons .int rfl (by repeat constructor) .nil)) rfl ?_
  rintro _ _ _ _ ⟨rfl, bx, rfl, rfl⟩
  refine oPersist fun h' ho hdj => ?_
  have hb : Byt (F.un h') (.slice (some ⟨bx, 0, none⟩) 1 1) [UInt8.ofNat (48 + d)] := ⟨rfl, _, 1, rfl, Nat.le_refl _, fun _ => ⟨bx, 0, rfl, blk_cells ho hdj⟩⟩
  have hF1 : F.le (F.un h') := PH.le_l _ _
  generalize F.un h' = F1 at *
  refine oS (ev_bytes_string rfl hb.rds rfl rfl rfl) rfl ?_
  repeat (first|refine zJ rfl rfl ?_|refine jr rfl ?_|refine jn ?_|refine zM rfl rfl ?_|(refine zC rfl rfl ?_ rfl ?_;omega)|(refine zD rfl rfl ?_ rfl ?_;omega)|(refine zP rfl ?_ rfl ?_;omega)|refine zG rfl rfl rfl rfl ?_|(refine jdq rfl rfl ?_ ?_ ?_;kernel_rfl;kernel_rfl)|refine zB rfl rfl rfl (by repeat constructor) rfl ?_|refine zH .here rfl rfl rfl rfl ?_|refine zH (.there .here) rfl rfl rfl rfl ?_|refine zH (.there (.there .here)) rfl rfl rfl rfl ?_|refine zH (.there (.there (.there .here))) rfl rfl rfl rfl ?_|refine zH (.there (.there (.there (.there .here)))) rfl rfl rfl rfl ?_)
  generalize hRR : preD t ++ [UInt8.ofNat (48 + d)] = R at *
  refine J_loop2 (fun (n : Nat) (out : List UInt8) => preD n ++ out = R ∧ n ≤ 922337203685477580) (fun n _ => n) (fun n out => [(0, .int .i64 n), (5, .string (strOf out))]) (fun _ _ => F) (fun _ _ => X) t [UInt8.ofNat (48 + d)] ⟨hRR, ht⟩ ⟨⟨rfl, rfl, trivial⟩, fun w s => s.mono hF1⟩ ?_
  rintro n out ⟨hn, hnb⟩
  have hlen := congrArg List.length hn
  rw [List.length_append] at hlen
  by_cases h0 : 0 < n
  · rw [preD_step (by omega), List.append_assoc] at hn
    have hq : ((n / 10 : Nat) : Int) = (n : Int) / 10 := by omega
    repeat (first|refine zJ rfl rfl ?_|refine jr rfl ?_|refine jn ?_|refine zM rfl rfl ?_|(refine zC rfl rfl ?_ rfl ?_;omega)|(refine zD rfl rfl ?_ rfl ?_;omega)|(refine zP rfl ?_ rfl ?_;omega)|refine zG rfl rfl rfl rfl ?_|(refine jdq rfl rfl ?_ ?_ ?_;kernel_rfl;kernel_rfl)|refine zB rfl rfl rfl (by repeat constructor) rfl ?_|refine zH .here rfl rfl rfl rfl ?_|refine zH (.there .here) rfl rfl rfl rfl ?_|refine zH (.there (.there .here)) rfl rfl rfl rfl ?_|refine zH (.there (.there (.there .here))) rfl rfl rfl rfl ?_|refine zH (.there (.there (.there (.there .here)))) rfl rfl rfl rfl ?_)
    have hm10 : n % 10 < 10 := Nat.mod_lt _ (by omega)
    rw [show (48 : Int) + (n : Int) % 10 = ((UInt8.ofNat (48 + n % 10)).toNat : Int) from by rw [digit_val hm10]; omega]
    generalize n % 10 = m at *
    refine oE (ev_buildSlice (E := 5) (zs := [.int .u8 0]) (t := u8s [UInt8.ofNat (48 + m)]) rfl rfl rfl rfl rfl rfl (.cons .int rfl (by repeat constructor) .nil)) rfl ?_
    rintro _ _ _ _ ⟨rfl, by_, rfl, rfl⟩
    refine oPersist fun h2 ho2 hd2 => ?_
    have hb2 : Byt (F.un h2) (.slice (some ⟨by_, 0, none⟩) 1 1) [UInt8.ofNat (48 + m)] := ⟨rfl, _, 1, rfl, Nat.le_refl _, fun _ => ⟨by_, 0, rfl, blk_cells ho2 hd2⟩⟩
    have hF2 : F.le (F.un h2) := PH.le_l _ _
    generalize F.un h2 = F2 at *
    refine oS (ev_bytes_string rfl hb2.rds rfl rfl rfl) rfl ?_
    repeat (first|refine zJ rfl rfl ?_|refine jr rfl ?_|refine jn ?_|refine zM rfl rfl ?_|(refine zC rfl rfl ?_ rfl ?_;omega)|(refine zD rfl rfl ?_ rfl ?_;omega)|(refine zP rfl ?_ rfl ?_;omega)|refine zG rfl rfl rfl rfl ?_|(refine jdq rfl rfl ?_ ?_ ?_;kernel_rfl;kernel_rfl)|refine zB rfl rfl rfl (by repeat constructor) rfl ?_|refine zH .here rfl rfl rfl rfl ?_|refine zH (.there .here) rfl rfl rfl rfl ?_|refine zH (.there (.there .here)) rfl rfl rfl rfl ?_|refine zH (.there (.there (.there .here))) rfl rfl rfl rfl ?_|refine zH (.there (.there (.there (.there .here)))) rfl rfl rfl rfl ?_)
    refine oS (ev_cat rfl rfl (by simp; omega)) rfl ?_
    repeat (first|refine zJ rfl rfl ?_|refine jr rfl ?_|refine jn ?_|refine zM rfl rfl ?_|(refine zC rfl rfl ?_ rfl ?_;omega)|(refine zD rfl rfl ?_ rfl ?_;omega)|(refine zP rfl ?_ rfl ?_;omega)|refine zG rfl rfl rfl rfl ?_|(refine jdq rfl rfl ?_ ?_ ?_;kernel_rfl;kernel_rfl)|refine zB rfl rfl rfl (by repeat constructor) rfl ?_|refine zH .here rfl rfl rfl rfl ?_|refine zH (.there .here) rfl rfl rfl rfl ?_|refine zH (.there (.there .here)) rfl rfl rfl rfl ?_|refine zH (.there (.there (.there .here))) rfl rfl rfl rfl ?_|refine zH (.there (.there (.there (.there .here)))) rfl rfl rfl rfl ?_)
    refine J_again2 (n / 10) ([UInt8.ofNat (48 + m)] ++ out) ⟨hn, by omega⟩ (by omega) ?_
    rw [hq]
    exact ⟨⟨rfl, rfl, trivial⟩, fun w s => s.mono hF2⟩
  · obtain rfl : n = 0 := by omega
    have hn' : out = R := by rw [← hn]; rfl
    subst hn'
    repeat (first|refine zJ rfl rfl ?_|refine jr rfl ?_|refine jn ?_|refine zM rfl rfl ?_|(refine zC rfl rfl ?_ rfl ?_;omega)|(refine zD rfl rfl ?_ rfl ?_;omega)|(refine zP rfl ?_ rfl ?_;omega)|refine zG rfl rfl rfl rfl ?_|(refine jdq rfl rfl ?_ ?_ ?_;kernel_rfl;kernel_rfl)|refine zB rfl rfl rfl (by repeat constructor) rfl ?_|refine zH .here rfl rfl rfl rfl ?_|refine zH (.there .here) rfl rfl rfl rfl ?_|refine zH (.there (.there .here)) rfl rfl rfl rfl ?_|refine zH (.there (.there (.there .here))) rfl rfl rfl rfl ?_|refine zH (.there (.there (.there (.there .here)))) rfl rfl rfl rfl ?_)
    exact J_ret1 rfl rfl [] rfl (PH.ler _) ⟨rfl, rfl⟩
theorem itoa_nat (n : Nat) : Lib.itoa (n : Int) = preD (n / 10) ++ [UInt8.ofNat (48 + n % 10)] := by
  unfold Lib.itoa
  rw [if_neg (by omega), Int.toNat_natCast, dec_step]
theorem itoa_neg (a : Nat) (h : 0 < a) : Lib.itoa (-(a : Int)) = 45 :: (preD (a / 10) ++ [UInt8.ofNat (48 + a % 10)]) := by
  unfold Lib.itoa
  rw [if_pos (by omega), Int.natAbs_neg, Int.natAbs_natCast, dec_step]
set_option maxHeartbeats 4000000 in
theorem digits_spec (n : Int) (F : PH) (hn : InI n) : Pure Tryd.prog 55 [.int .i64 n] F (.string (strOf (Lib.itoa n))) := by
  have hlen := Lib.itoa_length_le n hn.1 hn.2
  have h1 := hn.1
  have h2 := hn.2
  refine Spec.of1 Tryd.func55 rfl rfl fun X w0 => ?_
  by_cases h : n < 0
  · obtain ⟨a, rfl, ha⟩ : ∃ a : Nat, n = -(a : Int) ∧ 0 < a := ⟨n.natAbs, by omega, by omega⟩
    rw [itoa_neg a ha] at hlen ⊢
    repeat (first|refine zJ rfl rfl ?_|refine jr rfl ?_|refine jn ?_|refine zM rfl rfl ?_|(refine zC rfl rfl ?_ rfl ?_;omega)|(refine zD rfl rfl ?_ rfl ?_;omega)|(refine zP rfl ?_ rfl ?_;omega)|refine zG rfl rfl rfl rfl ?_|(refine jdq rfl rfl ?_ ?_ ?_;kernel_rfl;kernel_rfl)|refine zB rfl rfl rfl (by repeat constructor) rfl ?_|refine zH .here rfl rfl rfl rfl ?_|refine zH (.there .here) rfl rfl rfl rfl ?_|refine zH (.there (.there .here)) rfl rfl rfl rfl ?_|refine zH (.there (.there (.there .here))) rfl rfl rfl rfl ?_|refine zH (.there (.there (.there (.there .here)))) rfl rfl rfl rfl ?_)
    refine oS (ev_quo_neg rfl rfl (by omega) (by simp only [InK]; omega)) rfl ?_
    repeat (first|refine zJ rfl rfl ?_|refine jr rfl ?_|refine jn ?_|refine zM rfl rfl ?_|(refine zC rfl rfl ?_ rfl ?_;omega)|(refine zD rfl rfl ?_ rfl ?_;omega)|(refine zP rfl ?_ rfl ?_;omega)|refine zG rfl rfl rfl rfl ?_|(refine jdq rfl rfl ?_ ?_ ?_;kernel_rfl;kernel_rfl)|refine zB rfl rfl rfl (by repeat constructor) rfl ?_|refine zH .here rfl rfl rfl rfl ?_|refine zH (.there .here) rfl rfl rfl rfl ?_|refine zH (.there (.there .here)) rfl rfl rfl rfl ?_|refine zH (.there (.there (.there .here))) rfl rfl rfl rfl ?_|refine zH (.there (.there (.there (.there .here)))) rfl rfl rfl rfl ?_)
    refine oS (ev_neg rfl (by simp only [InK]; omega)) rfl ?_
    repeat (first|refine zJ rfl rfl ?_|refine jr rfl ?_|refine jn ?_|refine zM rfl rfl ?_|(refine zC rfl rfl ?_ rfl ?_;omega)|(refine zD rfl rfl ?_ rfl ?_;omega)|(refine zP rfl ?_ rfl ?_;omega)|refine zG rfl rfl rfl rfl ?_|(refine jdq rfl rfl ?_ ?_ ?_;kernel_rfl;kernel_rfl)|refine zB rfl rfl rfl (by repeat constructor) rfl ?_|refine zH .here rfl rfl rfl rfl ?_|refine zH (.there .here) rfl rfl rfl rfl ?_|refine zH (.there (.there .here)) rfl rfl rfl rfl ?_|refine zH (.there (.there (.there .here))) rfl rfl rfl rfl ?_|refine zH (.there (.there (.there (.there .here)))) rfl rfl rfl rfl ?_)
    refine oS (ev_rem_neg rfl rfl (by omega)) rfl ?_
    repeat (first|refine zJ rfl rfl ?_|refine jr rfl ?_|refine jn ?_|refine zM rfl rfl ?_|(refine zC rfl rfl ?_ rfl ?_;omega)|(refine zD rfl rfl ?_ rfl ?_;omega)|(refine zP rfl ?_ rfl ?_;omega)|refine zG rfl rfl rfl rfl ?_|(refine jdq rfl rfl ?_ ?_ ?_;kernel_rfl;kernel_rfl)|refine zB rfl rfl rfl (by repeat constructor) rfl ?_|refine zH .here rfl rfl rfl rfl ?_|refine zH (.there .here) rfl rfl rfl rfl ?_|refine zH (.there (.there .here)) rfl rfl rfl rfl ?_|refine zH (.there (.there (.there .here))) rfl rfl rfl rfl ?_|refine zH (.there (.there (.there (.there .here)))) rfl rfl rfl rfl ?_)
    refine oS (ev_neg rfl (by simp only [InK]; omega)) rfl ?_
    rw [show -(-((a : Int) / 10)) = ((a / 10 : Nat) : Int) from by omega, show -(-((a : Int) % 10)) = ((a % 10 : Nat) : Int) from by omega]
    refine oP (positive_spec (a / 10) (a % 10) F (Nat.mod_lt _ (by omega)) (by omega) (by simp at hlen ⊢; omega)) Tryd.call68 rfl rfl ?_
    refine oS (ev_cat (a := [45]) rfl rfl (by simp at hlen ⊢; omega)) rfl ?_
    repeat (first|refine zJ rfl rfl ?_|refine jr rfl ?_|refine jn ?_|refine zM rfl rfl ?_|(refine zC rfl rfl ?_ rfl ?_;omega)|(refine zD rfl rfl ?_ rfl ?_;omega)|(refine zP rfl ?_ rfl ?_;omega)|refine zG rfl rfl rfl rfl ?_|(refine jdq rfl rfl ?_ ?_ ?_;kernel_rfl;kernel_rfl)|refine zB rfl rfl rfl (by repeat constructor) rfl ?_|refine zH .here rfl rfl rfl rfl ?_|refine zH (.there .here) rfl rfl rfl rfl ?_|refine zH (.there (.there .here)) rfl rfl rfl rfl ?_|refine zH (.there (.there (.there .here))) rfl rfl rfl rfl ?_|refine zH (.there (.there (.there (.there .here)))) rfl rfl rfl rfl ?_)
    exact J_ret1 rfl rfl [] rfl (PH.ler _) ⟨rfl, rfl⟩
  · obtain ⟨a, rfl⟩ : ∃ a : Nat, n = (a : Int) := ⟨n.toNat, by omega⟩
    rw [itoa_nat] at hlen ⊢
    repeat (first|refine zJ rfl rfl ?_|refine jr rfl ?_|refine jn ?_|refine zM rfl rfl ?_|(refine zC rfl rfl ?_ rfl ?_;omega)|(refine zD rfl rfl ?_ rfl ?_;omega)|(refine zP rfl ?_ rfl ?_;omega)|refine zG rfl rfl rfl rfl ?_|(refine jdq rfl rfl ?_ ?_ ?_;kernel_rfl;kernel_rfl)|refine zB rfl rfl rfl (by repeat constructor) rfl ?_|refine zH .here rfl rfl rfl rfl ?_|refine zH (.there .here) rfl rfl rfl rfl ?_|refine zH (.there (.there .here)) rfl rfl rfl rfl ?_|refine zH (.there (.there (.there .here))) rfl rfl rfl rfl ?_|refine zH (.there (.there (.there (.there .here)))) rfl rfl rfl rfl ?_)
    rw [show (a : Int) / 10 = ((a / 10 : Nat) : Int) from by omega, show (a : Int) % 10 = ((a % 10 : Nat) : Int) from by omega]
    refine oP (positive_spec (a / 10) (a % 10) F (Nat.mod_lt _ (by omega)) (by omega) (by omega)) Tryd.call68 rfl rfl ?_
    refine oS (ev_cat (a := []) rfl rfl (by simp at hlen ⊢; omega)) rfl ?_
    rw [List.nil_append]
    repeat (first|refine zJ rfl rfl ?_|refine jr rfl ?_|refine jn ?_|refine zM rfl rfl ?_|(refine zC rfl rfl ?_ rfl ?_;omega)|(refine zD rfl rfl ?_ rfl ?_;omega)|(refine zP rfl ?_ rfl ?_;omega)|refine zG rfl rfl rfl rfl ?_|(refine jdq rfl rfl ?_ ?_ ?_;kernel_rfl;kernel_rfl)|refine zB rfl rfl rfl (by repeat constructor) rfl ?_|refine zH .here rfl rfl rfl rfl ?_|refine zH (.there .here) rfl rfl rfl rfl ?_|refine zH (.there (.there .here)) rfl rfl rfl rfl ?_|refine zH (.there (.there (.there .here))) rfl rfl rfl rfl ?_|refine zH (.there (.there (.there (.there .here)))) rfl rfl rfl rfl ?_)
    exact J_ret1 rfl rfl [] rfl (PH.ler _) ⟨rfl, rfl⟩
end Go.Proofs.YtekdmpbkcjjllaaDoor
namespace Go.Proofs.YtekdmpbkcjjllaaDoor
open Go.RowKit
set_option maxRecDepth 100000
set_option maxHeartbeats 8000000 in
theorem dletter_spec (s : W8) (F : PH) (hs : s.length ≤ 2000000) : Pure Tryd.prog 28 [.string (strOf s)] F (.bool (letterB s)) := by
  have hsz := strOf_size s
  refine Spec.of1 Tryd.func28 rfl rfl fun X w0 => ?_
  repeat (first|refine zJ rfl rfl ?_|refine jr rfl ?_|refine jn ?_|refine zM rfl rfl ?_|(refine zC rfl rfl ?_ rfl ?_;omega)|(refine zD rfl rfl ?_ rfl ?_;omega)|(refine zP rfl ?_ rfl ?_;omega)|refine zG rfl rfl rfl rfl ?_|(refine jdq rfl rfl ?_ ?_ ?_;kernel_rfl;kernel_rfl)|refine zB rfl rfl rfl (by repeat constructor) rfl ?_|refine zH .here rfl rfl rfl rfl ?_|refine zH (.there .here) rfl rfl rfl rfl ?_|refine zH (.there (.there .here)) rfl rfl rfl rfl ?_|refine zH (.there (.there (.there .here))) rfl rfl rfl rfl ?_|refine zH (.there (.there (.there (.there .here)))) rfl rfl rfl rfl ?_)
  refine J_loop (ι := Nat) (fun i => i ≤ s.length ∧ ∀ c ∈ s.take i, c ≠ 32 ∧ c ≠ 10) (fun i => s.length - i) (fun i => [(0, .string (strOf s)), (3, .int .i64 i)]) (fun _ => F) (fun _ => X) 0 ⟨Nat.zero_le _, by simp⟩ ⟨⟨rfl, rfl, trivial⟩, fun w s => s⟩ ?_
  rintro i ⟨hi, hc⟩
  by_cases hlt : i < s.length
  · have hg : s[i]? = some s[i] := List.getElem?_eq_getElem hlt
    have hmem : s[i] ∈ s := List.getElem_mem hlt
    have htk : s.take (i + 1) = s.take i ++ [s[i]] := by rw [List.take_add_one, hg]; rfl
    generalize s[i] = c at *
    repeat (first|refine zJ rfl rfl ?_|refine jr rfl ?_|refine jn ?_|refine zM rfl rfl ?_|(refine zC rfl rfl ?_ rfl ?_;omega)|(refine zD rfl rfl ?_ rfl ?_;omega)|(refine zP rfl ?_ rfl ?_;omega)|refine zG rfl rfl rfl rfl ?_|(refine jdq rfl rfl ?_ ?_ ?_;kernel_rfl;kernel_rfl)|refine zB rfl rfl rfl (by repeat constructor) rfl ?_|refine zH .here rfl rfl rfl rfl ?_|refine zH (.there .here) rfl rfl rfl rfl ?_|refine zH (.there (.there .here)) rfl rfl rfl rfl ?_|refine zH (.there (.there (.there .here))) rfl rfl rfl rfl ?_|refine zH (.there (.there (.there (.there .here)))) rfl rfl rfl rfl ?_)
    refine oS (ev_ix (bs := s) (c := c) rfl rfl rfl hg) rfl ?_
    have e32 : c = 32 ↔ c.toNat = 32 := UInt8.toNat_inj.symm
    have e10 : c = 10 ↔ c.toNat = 10 := UInt8.toNat_inj.symm
    by_cases h1 : c.toNat = 32
    · repeat (first|refine zJ rfl rfl ?_|refine jr rfl ?_|refine jn ?_|refine zM rfl rfl ?_|(refine zC rfl rfl ?_ rfl ?_;omega)|(refine zD rfl rfl ?_ rfl ?_;omega)|(refine zP rfl ?_ rfl ?_;omega)|refine zG rfl rfl rfl rfl ?_|(refine jdq rfl rfl ?_ ?_ ?_;kernel_rfl;kernel_rfl)|refine zB rfl rfl rfl (by repeat constructor) rfl ?_|refine zH .here rfl rfl rfl rfl ?_|refine zH (.there .here) rfl rfl rfl rfl ?_|refine zH (.there (.there .here)) rfl rfl rfl rfl ?_|refine zH (.there (.there (.there .here))) rfl rfl rfl rfl ?_|refine zH (.there (.there (.there (.there .here)))) rfl rfl rfl rfl ?_)
      have hq : letterB s = false := letterB_false (.inr (.inr (.inl (by simpa using (e32.2 h1) ▸ hmem))))
      rw [hq]
      exact J_ret1 rfl rfl [] rfl (PH.ler _) ⟨rfl, rfl⟩
    · repeat (first|refine zJ rfl rfl ?_|refine jr rfl ?_|refine jn ?_|refine zM rfl rfl ?_|(refine zC rfl rfl ?_ rfl ?_;omega)|(refine zD rfl rfl ?_ rfl ?_;omega)|(refine zP rfl ?_ rfl ?_;omega)|refine zG rfl rfl rfl rfl ?_|(refine jdq rfl rfl ?_ ?_ ?_;kernel_rfl;kernel_rfl)|refine zB rfl rfl rfl (by repeat constructor) rfl ?_|refine zH .here rfl rfl rfl rfl ?_|refine zH (.there .here) rfl rfl rfl rfl ?_|refine zH (.there (.there .here)) rfl rfl rfl rfl ?_|refine zH (.there (.there (.there .here))) rfl rfl rfl rfl ?_|refine zH (.there (.there (.there (.there .here)))) rfl rfl rfl rfl ?_)
      refine oS (ev_ix (bs := s) (c := c) rfl rfl rfl hg) rfl ?_
      by_cases h2 : c.toNat = 10
      · repeat (first|refine zJ rfl rfl ?_|refine jr rfl ?_|refine jn ?_|refine zM rfl rfl ?_|(refine zC rfl rfl ?_ rfl ?_;omega)|(refine zD rfl rfl ?_ rfl ?_;omega)|(refine zP rfl ?_ rfl ?_;omega)|refine zG rfl rfl rfl rfl ?_|(refine jdq rfl rfl ?_ ?_ ?_;kernel_rfl;kernel_rfl)|refine zB rfl rfl rfl (by repeat constructor) rfl ?_|refine zH .here rfl rfl rfl rfl ?_|refine zH (.there .here) rfl rfl rfl rfl ?_|refine zH (.there (.there .here)) rfl rfl rfl rfl ?_|refine zH (.there (.there (.there .here))) rfl rfl rfl rfl ?_|refine zH (.there (.there (.there (.there .here)))) rfl rfl rfl rfl ?_)
        have hq : letterB s = false := letterB_false (.inr (.inr (.inr (by simpa using (e10.2 h2) ▸ hmem))))
        rw [hq]
        exact J_ret1 rfl rfl [] rfl (PH.ler _) ⟨rfl, rfl⟩
      · repeat (first|refine zJ rfl rfl ?_|refine jr rfl ?_|refine jn ?_|refine zM rfl rfl ?_|(refine zC rfl rfl ?_ rfl ?_;omega)|(refine zD rfl rfl ?_ rfl ?_;omega)|(refine zP rfl ?_ rfl ?_;omega)|refine zG rfl rfl rfl rfl ?_|(refine jdq rfl rfl ?_ ?_ ?_;kernel_rfl;kernel_rfl)|refine zB rfl rfl rfl (by repeat constructor) rfl ?_|refine zH .here rfl rfl rfl rfl ?_|refine zH (.there .here) rfl rfl rfl rfl ?_|refine zH (.there (.there .here)) rfl rfl rfl rfl ?_|refine zH (.there (.there (.there .here))) rfl rfl rfl rfl ?_|refine zH (.there (.there (.there (.there .here)))) rfl rfl rfl rfl ?_)
        exact J_again (i + 1) ⟨by omega, by
          rw [htk]
          intro d hd
          rcases List.mem_append.1 hd with h | h
          · exact hc d h
          · rw [List.mem_singleton.1 h]; exact ⟨fun e => h1 (e32.1 e), fun e => h2 (e10.1 e)⟩⟩ (by omega) ⟨⟨rfl, rfl, trivial⟩, fun w s => s⟩
  · obtain rfl : i = s.length := by omega
    rw [List.take_length] at hc
    have hq : letterB s = decide (1 ≤ s.length ∧ s.length ≤ 64) := by
      by_cases h : 1 ≤ s.length ∧ s.length ≤ 64
      · rw [letterB_true (fun e => by rw [e] at h; simp at h) h.2 (by simpa using fun e => (hc _ e).1 rfl) (by simpa using fun e => (hc _ e).2 rfl)]
        simp [h]
      · rw [letterB_false (by
          by_cases e : s = []
          · exact .inl e
          · have := List.length_pos_iff.2 e
            exact .inr (.inl (by omega)))]
        simp [h]
    rw [hq]
    by_cases h1 : 1 ≤ s.length
    · by_cases h2 : s.length ≤ 64
      · repeat (first|refine zJ rfl rfl ?_|refine jr rfl ?_|refine jn ?_|refine zM rfl rfl ?_|(refine zC rfl rfl ?_ rfl ?_;omega)|(refine zD rfl rfl ?_ rfl ?_;omega)|(refine zP rfl ?_ rfl ?_;omega)|refine zG rfl rfl rfl rfl ?_|(refine jdq rfl rfl ?_ ?_ ?_;kernel_rfl;kernel_rfl)|refine zB rfl rfl rfl (by repeat constructor) rfl ?_|refine zH .here rfl rfl rfl rfl ?_|refine zH (.there .here) rfl rfl rfl rfl ?_|refine zH (.there (.there .here)) rfl rfl rfl rfl ?_|refine zH (.there (.there (.there .here))) rfl rfl rfl rfl ?_|refine zH (.there (.there (.there (.there .here)))) rfl rfl rfl rfl ?_)
        exact J_ret1 rfl rfl [] rfl (PH.ler _) ⟨by simp [h1, h2], rfl⟩
      · repeat (first|refine zJ rfl rfl ?_|refine jr rfl ?_|refine jn ?_|refine zM rfl rfl ?_|(refine zC rfl rfl ?_ rfl ?_;omega)|(refine zD rfl rfl ?_ rfl ?_;omega)|(refine zP rfl ?_ rfl ?_;omega)|refine zG rfl rfl rfl rfl ?_|(refine jdq rfl rfl ?_ ?_ ?_;kernel_rfl;kernel_rfl)|refine zB rfl rfl rfl (by repeat constructor) rfl ?_|refine zH .here rfl rfl rfl rfl ?_|refine zH (.there .here) rfl rfl rfl rfl ?_|refine zH (.there (.there .here)) rfl rfl rfl rfl ?_|refine zH (.there (.there (.there .here))) rfl rfl rfl rfl ?_|refine zH (.there (.there (.there (.there .here)))) rfl rfl rfl rfl ?_)
        exact J_ret1 rfl rfl [] rfl (PH.ler _) ⟨by simp [h2], rfl⟩
    · repeat (first|refine zJ rfl rfl ?_|refine jr rfl ?_|refine jn ?_|refine zM rfl rfl ?_|(refine zC rfl rfl ?_ rfl ?_;omega)|(refine zD rfl rfl ?_ rfl ?_;omega)|(refine zP rfl ?_ rfl ?_;omega)|refine zG rfl rfl rfl rfl ?_|(refine jdq rfl rfl ?_ ?_ ?_;kernel_rfl;kernel_rfl)|refine zB rfl rfl rfl (by repeat constructor) rfl ?_|refine zH .here rfl rfl rfl rfl ?_|refine zH (.there .here) rfl rfl rfl rfl ?_|refine zH (.there (.there .here)) rfl rfl rfl rfl ?_|refine zH (.there (.there (.there .here))) rfl rfl rfl rfl ?_|refine zH (.there (.there (.there (.there .here)))) rfl rfl rfl rfl ?_)
      exact J_ret1 rfl rfl [] rfl (PH.ler _) ⟨by simp [h1], rfl⟩
def halfN (c : UInt8) : Nat := match nib c with | some n => n | none => 16
theorem hx_ne {c : UInt8} {i : Nat} (hi : i < 16) (h : hx i = c) : nib c = some i := by
  subst h
  have : ∀ i, i < 16 → nib (hx i) = some i := by decide
  exact this i hi
theorem nib_hx {c : UInt8} {n : Nat} (h : nib c = some n) : n < 16 ∧ hx n = c := by
  have : ∀ c : UInt8, ∀ n, nib c = some n → n < 16 ∧ hx n = c := by
    intro c n h
    unfold nib at h
    split at h
    · rename_i h1
      cases h
      refine ⟨by omega, ?_⟩
      apply UInt8.toNat_inj.1
      have : ∀ k, k < 10 → (hx k).toNat = k + 48 := by decide
      rw [this _ (by omega)]; omega
    · split at h
      · rename_i h1
        cases h
        refine ⟨by omega, ?_⟩
        apply UInt8.toNat_inj.1
        have : ∀ k, k < 6 → (hx (k + 10)).toNat = k + 97 := by decide
        have := this (c.toNat - 97) (by omega)
        rw [show c.toNat - 97 + 10 = c.toNat - 87 from by omega] at this
        omega
      · cases h
  exact this c n h
set_option maxHeartbeats 8000000 in
theorem half_spec (c : UInt8) (F : PH) : Pure Tryd.prog 61 [.int .u8 (c.toNat : Int)] F (.int .i64 (halfN c : Int)) := by
  refine Spec.of1 Tryd.func61 rfl rfl fun X w0 => ?_
  repeat (first|refine zJ rfl rfl ?_|refine jr rfl ?_|refine jn ?_|refine zM rfl rfl ?_|(refine zC rfl rfl ?_ rfl ?_;omega)|(refine zD rfl rfl ?_ rfl ?_;omega)|(refine zP rfl ?_ rfl ?_;omega)|refine zG rfl rfl rfl rfl ?_|(refine jdq rfl rfl ?_ ?_ ?_;kernel_rfl;kernel_rfl)|refine zB rfl rfl rfl (by repeat constructor) rfl ?_|refine zH .here rfl rfl rfl rfl ?_|refine zH (.there .here) rfl rfl rfl rfl ?_|refine zH (.there (.there .here)) rfl rfl rfl rfl ?_|refine zH (.there (.there (.there .here))) rfl rfl rfl rfl ?_|refine zH (.there (.there (.there (.there .here)))) rfl rfl rfl rfl ?_)
  refine J_loop (ι := Nat) (fun i => i ≤ 16 ∧ ∀ j, j < i → hx j ≠ c) (fun i => 16 - i) (fun i => [(0, .int .u8 (c.toNat : Int)), (3, .int .i64 i)]) (fun _ => F) (fun _ => X) 0 ⟨Nat.zero_le _, by simp⟩ ⟨⟨rfl, rfl, trivial⟩, fun w s => s⟩ ?_
  rintro i ⟨hi, hc⟩
  by_cases hlt : i < 16
  · have hg := hx_get hlt
    have hh : hx i = c ↔ (hx i).toNat = c.toNat := UInt8.toNat_inj.symm
    have hnx : ∀ e : hx i = c, nib c = some i := hx_ne hlt
    obtain ⟨d, hd⟩ : ∃ d, hx i = d := ⟨_, rfl⟩
    rw [hd] at hg hh hnx
    have hcl : c.toNat < 256 := c.toNat_lt
    have hdl : d.toNat < 256 := d.toNat_lt
    repeat (first|refine zJ rfl rfl ?_|refine jr rfl ?_|refine jn ?_|refine zM rfl rfl ?_|(refine zC rfl rfl ?_ rfl ?_;omega)|(refine zD rfl rfl ?_ rfl ?_;omega)|(refine zP rfl ?_ rfl ?_;omega)|refine zG rfl rfl rfl rfl ?_|(refine jdq rfl rfl ?_ ?_ ?_;kernel_rfl;kernel_rfl)|refine zB rfl rfl rfl (by repeat constructor) rfl ?_|refine zH .here rfl rfl rfl rfl ?_|refine zH (.there .here) rfl rfl rfl rfl ?_|refine zH (.there (.there .here)) rfl rfl rfl rfl ?_|refine zH (.there (.there (.there .here))) rfl rfl rfl rfl ?_|refine zH (.there (.there (.there (.there .here)))) rfl rfl rfl rfl ?_)
    refine oS (ev_ix (bs := hxT) (c := d) rfl rfl rfl hg) rfl ?_
    by_cases h1 : d.toNat = c.toNat
    · have hn := hnx (hh.2 h1)
      unfold halfN
      rw [hn]
      repeat (first|refine zJ rfl rfl ?_|refine jr rfl ?_|refine jn ?_|refine zM rfl rfl ?_|(refine zC rfl rfl ?_ rfl ?_;omega)|(refine zD rfl rfl ?_ rfl ?_;omega)|(refine zP rfl ?_ rfl ?_;omega)|refine zG rfl rfl rfl rfl ?_|(refine jdq rfl rfl ?_ ?_ ?_;kernel_rfl;kernel_rfl)|refine zB rfl rfl rfl (by repeat constructor) rfl ?_|refine zH .here rfl rfl rfl rfl ?_|refine zH (.there .here) rfl rfl rfl rfl ?_|refine zH (.there (.there .here)) rfl rfl rfl rfl ?_|refine zH (.there (.there (.there .here))) rfl rfl rfl rfl ?_|refine zH (.there (.there (.there (.there .here)))) rfl rfl rfl rfl ?_)
      exact J_ret1 rfl rfl [] rfl (PH.ler _) ⟨rfl, rfl⟩
    · repeat (first|refine zJ rfl rfl ?_|refine jr rfl ?_|refine jn ?_|refine zM rfl rfl ?_|(refine zC rfl rfl ?_ rfl ?_;omega)|(refine zD rfl rfl ?_ rfl ?_;omega)|(refine zP rfl ?_ rfl ?_;omega)|refine zG rfl rfl rfl rfl ?_|(refine jdq rfl rfl ?_ ?_ ?_;kernel_rfl;kernel_rfl)|refine zB rfl rfl rfl (by repeat constructor) rfl ?_|refine zH .here rfl rfl rfl rfl ?_|refine zH (.there .here) rfl rfl rfl rfl ?_|refine zH (.there (.there .here)) rfl rfl rfl rfl ?_|refine zH (.there (.there (.there .here))) rfl rfl rfl rfl ?_|refine zH (.there (.there (.there (.there .here)))) rfl rfl rfl rfl ?_)
      exact J_again (i + 1) ⟨by omega, fun j hj => by
        rcases Nat.lt_succ_iff_lt_or_eq.1 hj with h | rfl
        · exact hc j h
        · rw [hd]; exact fun e => h1 (hh.1 e)⟩ (by omega) ⟨⟨rfl, rfl, trivial⟩, fun w s => s⟩
  · obtain rfl : i = 16 := by omega
    have hn : nib c = none := by
      cases e : nib c with
      | none => rfl
      | some n => exact absurd (nib_hx e).2 (hc n (nib_hx e).1)
    unfold halfN
    rw [hn]
    repeat (first|refine zJ rfl rfl ?_|refine jr rfl ?_|refine jn ?_|refine zM rfl rfl ?_|(refine zC rfl rfl ?_ rfl ?_;omega)|(refine zD rfl rfl ?_ rfl ?_;omega)|(refine zP rfl ?_ rfl ?_;omega)|refine zG rfl rfl rfl rfl ?_|(refine jdq rfl rfl ?_ ?_ ?_;kernel_rfl;kernel_rfl)|refine zB rfl rfl rfl (by repeat constructor) rfl ?_|refine zH .here rfl rfl rfl rfl ?_|refine zH (.there .here) rfl rfl rfl rfl ?_|refine zH (.there (.there .here)) rfl rfl rfl rfl ?_|refine zH (.there (.there (.there .here))) rfl rfl rfl rfl ?_|refine zH (.there (.there (.there (.there .here)))) rfl rfl rfl rfl ?_)
    exact J_ret1 rfl rfl [] rfl (PH.ler _) ⟨rfl, rfl⟩
def BQ (r : Option W8) (u : Value) (F' : PH) : Prop := ∃ v, u = .tuple #[v, .bool r.isSome] ∧ Byt F' v (r.getD [])
theorem BQ.none (F : PH) : BQ .none (.tuple #[.slice .none 0 0, .bool false]) F := ⟨_, rfl, SliceV.nil _ _⟩
theorem nib_none {c : UInt8} (h : ¬ halfN c ≤ 15) : nib c = none := by
  unfold halfN at h
  cases e : nib c with
  | none => rfl
  | some n => rw [e] at h; have := nib_lt e; exact absurd (by dsimp only; omega) h
theorem nib_some {c : UInt8} (h : halfN c ≤ 15) : nib c = some (halfN c) := by
  unfold halfN at h ⊢
  cases e : nib c with
  | none => rw [e] at h; exact absurd h (by dsimp only; omega)
  | some n => rfl
set_option maxHeartbeats 16000000 in
theorem dbytes_spec (s : W8) (F : PH) (hs : s.length ≤ 2000000) : Spec Tryd.prog 42 [.string (strOf s)] F [] fun u F' H' => H' = [] ∧ BQ (bytesW s) u F' := by
  refine Spec.of1 Tryd.func42 rfl rfl fun X w0 => ?_
  by_cases h45 : s = [45]
  · subst h45
    repeat (first|refine zJ rfl rfl ?_|refine jr rfl ?_|refine jn ?_|refine zM rfl rfl ?_|(refine zC rfl rfl ?_ rfl ?_;omega)|(refine zD rfl rfl ?_ rfl ?_;omega)|(refine zP rfl ?_ rfl ?_;omega)|refine zG rfl rfl rfl rfl ?_|(refine jdq rfl rfl ?_ ?_ ?_;kernel_rfl;kernel_rfl)|refine zB rfl rfl rfl (by repeat constructor) rfl ?_|refine zH .here rfl rfl rfl rfl ?_|refine zH (.there .here) rfl rfl rfl rfl ?_|refine zH (.there (.there .here)) rfl rfl rfl rfl ?_|refine zH (.there (.there (.there .here))) rfl rfl rfl rfl ?_|refine zH (.there (.there (.there (.there .here)))) rfl rfl rfl rfl ?_)
    refine oS (ev_seql (r := true) (cs := [45]) rfl rfl (by decide)) rfl ?_
    repeat (first|refine zJ rfl rfl ?_|refine jr rfl ?_|refine jn ?_|refine zM rfl rfl ?_|(refine zC rfl rfl ?_ rfl ?_;omega)|(refine zD rfl rfl ?_ rfl ?_;omega)|(refine zP rfl ?_ rfl ?_;omega)|refine zG rfl rfl rfl rfl ?_|(refine jdq rfl rfl ?_ ?_ ?_;kernel_rfl;kernel_rfl)|refine zB rfl rfl rfl (by repeat constructor) rfl ?_|refine zH .here rfl rfl rfl rfl ?_|refine zH (.there .here) rfl rfl rfl rfl ?_|refine zH (.there (.there .here)) rfl rfl rfl rfl ?_|refine zH (.there (.there (.there .here))) rfl rfl rfl rfl ?_|refine zH (.there (.there (.there (.there .here)))) rfl rfl rfl rfl ?_)
    exact J_retv (vs := [.slice none 0 0, .bool true]) rfl (.tmp rfl (.tmp rfl .nil)) [] (fun w s => s) (PH.ler _) ⟨rfl, _, rfl, SliceV.nil _ _⟩
  repeat (first|refine zJ rfl rfl ?_|refine jr rfl ?_|refine jn ?_|refine zM rfl rfl ?_|(refine zC rfl rfl ?_ rfl ?_;omega)|(refine zD rfl rfl ?_ rfl ?_;omega)|(refine zP rfl ?_ rfl ?_;omega)|refine zG rfl rfl rfl rfl ?_|(refine jdq rfl rfl ?_ ?_ ?_;kernel_rfl;kernel_rfl)|refine zB rfl rfl rfl (by repeat constructor) rfl ?_|refine zH .here rfl rfl rfl rfl ?_|refine zH (.there .here) rfl rfl rfl rfl ?_|refine zH (.there (.there .here)) rfl rfl rfl rfl ?_|refine zH (.there (.there (.there .here))) rfl rfl rfl rfl ?_|refine zH (.there (.there (.there (.there .here)))) rfl rfl rfl rfl ?_)
  refine oS (ev_seql (r := false) (cs := [45]) rfl rfl (by simpa using h45)) rfl ?_
  have hsz := strOf_size s
  by_cases h0 : s = []
  · subst h0
    repeat (first|refine zJ rfl rfl ?_|refine jr rfl ?_|refine jn ?_|refine zM rfl rfl ?_|(refine zC rfl rfl ?_ rfl ?_;omega)|(refine zD rfl rfl ?_ rfl ?_;omega)|(refine zP rfl ?_ rfl ?_;omega)|refine zG rfl rfl rfl rfl ?_|(refine jdq rfl rfl ?_ ?_ ?_;kernel_rfl;kernel_rfl)|refine zB rfl rfl rfl (by repeat constructor) rfl ?_|refine zH .here rfl rfl rfl rfl ?_|refine zH (.there .here) rfl rfl rfl rfl ?_|refine zH (.there (.there .here)) rfl rfl rfl rfl ?_|refine zH (.there (.there (.there .here))) rfl rfl rfl rfl ?_|refine zH (.there (.there (.there (.there .here)))) rfl rfl rfl rfl ?_)
    exact J_retv (vs := [.slice none 0 0, .bool false]) rfl (.tmp rfl (.tmp rfl .nil)) [] (fun w s => s) (PH.ler _) ⟨rfl, BQ.none _⟩
  rw [bytesW_of h45 h0]
  have hl0 : 0 < s.length := List.length_pos_iff.2 h0
  by_cases hodd : s.length % 2 = 1
  · repeat (first|refine zJ rfl rfl ?_|refine jr rfl ?_|refine jn ?_|refine zM rfl rfl ?_|(refine zC rfl rfl ?_ rfl ?_;omega)|(refine zD rfl rfl ?_ rfl ?_;omega)|(refine zP rfl ?_ rfl ?_;omega)|refine zG rfl rfl rfl rfl ?_|(refine jdq rfl rfl ?_ ?_ ?_;kernel_rfl;kernel_rfl)|refine zB rfl rfl rfl (by repeat constructor) rfl ?_|refine zH .here rfl rfl rfl rfl ?_|refine zH (.there .here) rfl rfl rfl rfl ?_|refine zH (.there (.there .here)) rfl rfl rfl rfl ?_|refine zH (.there (.there (.there .here))) rfl rfl rfl rfl ?_|refine zH (.there (.there (.there (.there .here)))) rfl rfl rfl rfl ?_)
    rw [unhex_odd s hodd]
    exact J_retv (vs := [.slice none 0 0, .bool false]) rfl (.tmp rfl (.tmp rfl .nil)) [] (fun w s => s) (PH.ler _) ⟨rfl, BQ.none _⟩
  repeat (first|refine zJ rfl rfl ?_|refine jr rfl ?_|refine jn ?_|refine zM rfl rfl ?_|(refine zC rfl rfl ?_ rfl ?_;omega)|(refine zD rfl rfl ?_ rfl ?_;omega)|(refine zP rfl ?_ rfl ?_;omega)|refine zG rfl rfl rfl rfl ?_|(refine jdq rfl rfl ?_ ?_ ?_;kernel_rfl;kernel_rfl)|refine zB rfl rfl rfl (by repeat constructor) rfl ?_|refine zH .here rfl rfl rfl rfl ?_|refine zH (.there .here) rfl rfl rfl rfl ?_|refine zH (.there (.there .here)) rfl rfl rfl rfl ?_|refine zH (.there (.there (.there .here))) rfl rfl rfl rfl ?_|refine zH (.there (.there (.there (.there .here)))) rfl rfl rfl rfl ?_)
  refine J_own_nil 5 1 ?_
  refine J_loop (ι := Nat × Value × W8) (fun p => 2 * p.1 ≤ s.length ∧ p.2.2.length = p.1 ∧ unhex s = (unhex (s.drop (2 * p.1))).map fun t => p.2.2 ++ t) (fun p => s.length - 2 * p.1) (fun p => [(0, .string (strOf s)), (4, p.2.1), (5, .int .i64 ((2 * p.1 : Nat) : Int))]) (fun _ => F)
    (fun p => bytes p.2.1 p.2.2 :: X) (0, .slice none 0 0, []) ⟨by omega, rfl, by simp⟩ ⟨⟨rfl, rfl, rfl, trivial⟩, fun w s => s⟩ ?_
  rintro ⟨i, u, acc⟩ ⟨hi, hal, hun⟩
  dsimp only at *
  by_cases hlt : 2 * i < s.length
  · obtain ⟨ca, hca⟩ : ∃ ca, s[2 * i]? = some ca := ⟨_, List.getElem?_eq_getElem hlt⟩
    obtain ⟨cb, hcb⟩ : ∃ cb, s[2 * i + 1]? = some cb := ⟨_, List.getElem?_eq_getElem (by omega)⟩
    have hdr := drop_two hca hcb
    repeat (first|refine zJ rfl rfl ?_|refine jr rfl ?_|refine jn ?_|refine zM rfl rfl ?_|(refine zC rfl rfl ?_ rfl ?_;omega)|(refine zD rfl rfl ?_ rfl ?_;omega)|(refine zP rfl ?_ rfl ?_;omega)|refine zG rfl rfl rfl rfl ?_|(refine jdq rfl rfl ?_ ?_ ?_;kernel_rfl;kernel_rfl)|refine zB rfl rfl rfl (by repeat constructor) rfl ?_|refine zH .here rfl rfl rfl rfl ?_|refine zH (.there .here) rfl rfl rfl rfl ?_|refine zH (.there (.there .here)) rfl rfl rfl rfl ?_|refine zH (.there (.there (.there .here))) rfl rfl rfl rfl ?_|refine zH (.there (.there (.there (.there .here)))) rfl rfl rfl rfl ?_)
    refine ja PH.emp [] ?_ (fun w s => s.any) ?_; kernel_rfl
    refine aT 0 rfl (ev_qe rfl) rfl rfl ?_ ?_ ?_ ?_; kernel_rfl; kernel_rfl; kernel_rfl
    refine aT 1 rfl (ev_qe rfl) rfl rfl ?_ ?_ ?_ ?_; kernel_rfl; kernel_rfl; kernel_rfl
    refine aT 2 rfl (ev_ix (bs := s) (c := ca) rfl rfl rfl hca) rfl rfl ?_ ?_ ?_ ?_; kernel_rfl; kernel_rfl; kernel_rfl
    refine aT 4 rfl (ev_qe rfl) rfl rfl ?_ ?_ ?_ ?_; kernel_rfl; kernel_rfl; kernel_rfl
    refine aT 5 rfl (ev_qe rfl) rfl rfl ?_ ?_ ?_ ?_; kernel_rfl; kernel_rfl; kernel_rfl
    refine aT 6 rfl (ea rfl rfl rfl (by dsimp only [InK]; omega)) rfl rfl ?_ ?_ ?_ ?_; kernel_rfl; kernel_rfl; kernel_rfl
    refine aT 7 rfl (ev_ix (bs := s) (i := 2 * i + 1) (c := cb) rfl rfl rfl hcb) rfl rfl ?_ ?_ ?_ ?_; kernel_rfl; kernel_rfl; kernel_rfl
    refine aB (i := 3) (by kernel_rfl) (aP rfl (half_spec ca F) Tryd.call61 rfl rfl rfl (fun _ s => s.any) ?_)
    refine aB (i := 8) (by kernel_rfl) (aP rfl (half_spec cb F) Tryd.call61 rfl rfl rfl (fun _ s => s.any) ?_)
    refine aT 9 rfl (ev_qe rfl) rfl rfl ?_ ?_ ?_ ?_; kernel_rfl; kernel_rfl; kernel_rfl
    refine aT 10 rfl (ev_qe rfl) rfl rfl ?_ ?_ ?_ ?_; kernel_rfl; kernel_rfl; kernel_rfl
    refine aD (by kernel_rfl) ?_
    rw [hdr] at hun
    by_cases ha : halfN ca ≤ 15
    · by_cases hb : halfN cb ≤ 15
      · have hbyte : (UInt8.ofNat (16 * halfN ca + halfN cb)).toNat = 16 * halfN ca + halfN cb := by rw [UInt8.toNat_ofNat']; exact Nat.mod_eq_of_lt (by omega)
        have hna := nib_some ha
        have hnb := nib_some hb
        generalize halfN ca = na at *
        generalize halfN cb = nb at *
        repeat (first|refine zJ rfl rfl ?_|refine jr rfl ?_|refine jn ?_|refine zM rfl rfl ?_|(refine zC rfl rfl ?_ rfl ?_;omega)|(refine zD rfl rfl ?_ rfl ?_;omega)|(refine zP rfl ?_ rfl ?_;omega)|refine zG rfl rfl rfl rfl ?_|(refine jdq rfl rfl ?_ ?_ ?_;kernel_rfl;kernel_rfl)|refine zB rfl rfl rfl (by repeat constructor) rfl ?_|refine zH .here rfl rfl rfl rfl ?_|refine zH (.there .here) rfl rfl rfl rfl ?_|refine zH (.there (.there .here)) rfl rfl rfl rfl ?_|refine zH (.there (.there (.there .here))) rfl rfl rfl rfl ?_|refine zH (.there (.there (.there (.there .here)))) rfl rfl rfl rfl ?_)
        rw [show (16 : Int) * (na : Int) + (nb : Int) = ((UInt8.ofNat (16 * na + nb)).toNat : Int) from by rw [hbyte]; omega]
        refine ob_push (b := UInt8.ofNat (16 * na + nb)) (bs := acc) (K := fun v' => bytes v' (acc ++ [UInt8.ofNat (16 * na + nb)]) :: X) rfl (fun _ => rfl) rfl (by omega) (fun v' => .here) rfl (fun _ => rfl) fun u2 w2 => ?_
        repeat (first|refine zJ rfl rfl ?_|refine jr rfl ?_|refine jn ?_|refine zM rfl rfl ?_|(refine zC rfl rfl ?_ rfl ?_;omega)|(refine zD rfl rfl ?_ rfl ?_;omega)|(refine zP rfl ?_ rfl ?_;omega)|refine zG rfl rfl rfl rfl ?_|(refine jdq rfl rfl ?_ ?_ ?_;kernel_rfl;kernel_rfl)|refine zB rfl rfl rfl (by repeat constructor) rfl ?_|refine zH .here rfl rfl rfl rfl ?_|refine zH (.there .here) rfl rfl rfl rfl ?_|refine zH (.there (.there .here)) rfl rfl rfl rfl ?_|refine zH (.there (.there (.there .here))) rfl rfl rfl rfl ?_|refine zH (.there (.there (.there (.there .here)))) rfl rfl rfl rfl ?_)
        refine J_again (ι := Nat × Value × W8) (i + 1, u2, acc ++ [UInt8.ofNat (16 * na + nb)]) ⟨by dsimp only; omega, by simp [hal], ?_⟩ (by dsimp only; omega) ⟨⟨rfl, rfl, ?_, trivial⟩, fun w s => s⟩
        · dsimp only
          rw [hun, unhex, hna, hnb, show 2 * (i + 1) = 2 * i + 2 from by omega]
          cases unhex (s.drop (2 * i + 2)) <;> simp
        · exact congrArg (fun z : Int => some (Value.int .i64 z)) (by omega)
      · have hno : unhex s = none := by rw [hun, unhex, nib_none hb]; cases nib ca <;> simp
        generalize halfN ca = na at *
        generalize halfN cb = nb at *
        repeat (first|refine zJ rfl rfl ?_|refine jr rfl ?_|refine jn ?_|refine zM rfl rfl ?_|(refine zC rfl rfl ?_ rfl ?_;omega)|(refine zD rfl rfl ?_ rfl ?_;omega)|(refine zP rfl ?_ rfl ?_;omega)|refine zG rfl rfl rfl rfl ?_|(refine jdq rfl rfl ?_ ?_ ?_;kernel_rfl;kernel_rfl)|refine zB rfl rfl rfl (by repeat constructor) rfl ?_|refine zH .here rfl rfl rfl rfl ?_|refine zH (.there .here) rfl rfl rfl rfl ?_|refine zH (.there (.there .here)) rfl rfl rfl rfl ?_|refine zH (.there (.there (.there .here))) rfl rfl rfl rfl ?_|refine zH (.there (.there (.there (.there .here)))) rfl rfl rfl rfl ?_)
        rw [hno]
        exact J_retv (vs := [.slice none 0 0, .bool false]) rfl (.tmp rfl (.tmp rfl .nil)) [] (fun w s => s.drop) (PH.ler _) ⟨rfl, BQ.none _⟩
    · have hno : unhex s = none := by rw [hun, unhex, nib_none ha]; simp
      generalize halfN ca = na at *
      generalize halfN cb = nb at *
      repeat (first|refine zJ rfl rfl ?_|refine jr rfl ?_|refine jn ?_|refine zM rfl rfl ?_|(refine zC rfl rfl ?_ rfl ?_;omega)|(refine zD rfl rfl ?_ rfl ?_;omega)|(refine zP rfl ?_ rfl ?_;omega)|refine zG rfl rfl rfl rfl ?_|(refine jdq rfl rfl ?_ ?_ ?_;kernel_rfl;kernel_rfl)|refine zB rfl rfl rfl (by repeat constructor) rfl ?_|refine zH .here rfl rfl rfl rfl ?_|refine zH (.there .here) rfl rfl rfl rfl ?_|refine zH (.there (.there .here)) rfl rfl rfl rfl ?_|refine zH (.there (.there (.there .here))) rfl rfl rfl rfl ?_|refine zH (.there (.there (.there (.there .here)))) rfl rfl rfl rfl ?_)
      rw [hno]
      exact J_retv (vs := [.slice none 0 0, .bool false]) rfl (.tmp rfl (.tmp rfl .nil)) [] (fun w s => s.drop) (PH.ler _) ⟨rfl, BQ.none _⟩
  · have he : 2 * i = s.length := by omega
    rw [he, List.drop_length] at hun
    refine J_persist fun hh hA hd => ?_
    have hbt := own_slice hA hd
    have hF2 := PH.le_l F hh
    generalize F.un hh = F2 at *
    rw [hun]
    simp only [unhex, Option.map_some, List.append_nil]
    repeat (first|refine zJ rfl rfl ?_|refine jr rfl ?_|refine jn ?_|refine zM rfl rfl ?_|(refine zC rfl rfl ?_ rfl ?_;omega)|(refine zD rfl rfl ?_ rfl ?_;omega)|(refine zP rfl ?_ rfl ?_;omega)|refine zG rfl rfl rfl rfl ?_|(refine jdq rfl rfl ?_ ?_ ?_;kernel_rfl;kernel_rfl)|refine zB rfl rfl rfl (by repeat constructor) rfl ?_|refine zH .here rfl rfl rfl rfl ?_|refine zH (.there .here) rfl rfl rfl rfl ?_|refine zH (.there (.there .here)) rfl rfl rfl rfl ?_|refine zH (.there (.there (.there .here))) rfl rfl rfl rfl ?_|refine zH (.there (.there (.there (.there .here)))) rfl rfl rfl rfl ?_)
    exact J_retv (vs := [u, .bool true]) rfl (.tmp rfl (.tmp rfl .nil)) [] (fun w s => s) hF2 ⟨rfl, u, rfl, hbt⟩
end Go.Proofs.YtekdmpbkcjjllaaDoor
namespace Go.Proofs.YtekdmpbkcjjllaaDoor
open Go.RowKit
set_option maxRecDepth 100000
def valD (l : W8) : Nat := l.foldl (fun a c => 10 * a + (c.toNat - 48)) 0
theorem valD_snoc (l : W8) (c : UInt8) : valD (l ++ [c]) = 10 * valD l + (c.toNat - 48) := by simp [valD]
theorem valD_dec (v : Nat) : valD (Lib.decDigits v) = v := by
  induction v using Nat.strongRecOn with
  | _ v ih =>
    rw [dec_step, valD_snoc, digit_nat (Nat.mod_lt _ (by omega))]
    unfold preD
    by_cases h : v / 10 = 0
    · rw [if_pos h]; simp [valD]; omega
    · rw [if_neg h, ih (v / 10) (by omega)]; omega
def Dig (c : UInt8) : Prop := 48 ≤ c.toNat ∧ c.toNat ≤ 57
theorem dec_dig (v : Nat) : ∀ c ∈ Lib.decDigits v, Dig c := by
  induction v using Nat.strongRecOn with
  | _ v ih =>
    rw [dec_step]
    intro c hc
    rcases List.mem_append.1 hc with h | h
    · unfold preD at h
      split at h
      · cases h
      · exact ih (v / 10) (by omega) c h
    · rw [List.mem_singleton.1 h]
      unfold Dig
      rw [digit_nat (Nat.mod_lt _ (by omega))]
      omega
theorem dec_len : ∀ (k v : Nat), v < 10 ^ (k + 1) → (Lib.decDigits v).length ≤ k + 1
  | 0, v, h => by
    rw [dec_step]
    unfold preD
    rw [if_pos (by omega)]
    simp
  | k + 1, v, h => by
    rw [dec_step, List.length_append]
    unfold preD
    split
    · simp
    · have := dec_len k (v / 10) (by rw [Nat.pow_succ] at h; omega)
      simp; omega
def negS (s : W8) : Bool := s.head? == some 45
def stS (s : W8) : Nat := if negS s then 1 else 0
def sgn (b : Bool) (n : Nat) : Int := if b then -(n : Int) else n
structure Shape (s : W8) (n : Int) : Prop where
  len : s.length ≤ 20
  ne : stS s < s.length
  dig : ∀ c ∈ s.drop (stS s), Dig c
  val : n = sgn (negS s) (valD (s.drop (stS s)))
theorem itoa_shape {n : Int} (h : InI n) : Shape (Lib.itoa n) n := by
  unfold InI at h
  by_cases hn : n < 0
  · have e : Lib.itoa n = 45 :: Lib.decDigits n.natAbs := by unfold Lib.itoa; rw [if_pos hn]
    have hl := dec_len 18 n.natAbs (by omega)
    have hp := List.length_pos_iff.2 (decDigits_ne n.natAbs)
    rw [e]
    refine ⟨by simp; omega, ?_, ?_, ?_⟩
    · show 1 < _; simp; omega
    · exact dec_dig _
    · show n = -(valD (Lib.decDigits n.natAbs) : Int)
      rw [valD_dec]; omega
  · have e : Lib.itoa n = Lib.decDigits n.toNat := by unfold Lib.itoa; rw [if_neg hn]
    have hl := dec_len 18 n.toNat (by omega)
    have hp := List.length_pos_iff.2 (decDigits_ne n.toNat)
    obtain ⟨c, r, hcr, h1, h2⟩ := decDigits_head n.toNat
    have hg : negS (Lib.decDigits n.toNat) = false := by
      unfold negS
      rw [hcr]
      simp
      intro e
      rw [e] at h1
      exact absurd h1 (by decide)
    have hs : stS (Lib.decDigits n.toNat) = 0 := by unfold stS; rw [hg]; rfl
    rw [e]
    refine ⟨by omega, by omega, ?_, ?_⟩
    · rw [hs]; exact dec_dig _
    · rw [hs, hg]
      show n = (valD (Lib.decDigits n.toNat) : Int)
      rw [valD_dec]; omega
theorem numW_shape {s : W8} {n : Int} (h : numW s = some n) : InI n ∧ Shape s n := by
  obtain ⟨h1, rfl⟩ := numW_some h
  exact ⟨h1, itoa_shape h1⟩
theorem numW_no {s : W8} (h : ∀ n, ¬ Shape s n) : numW s = none := by
  cases e : numW s with
  | none => rfl
  | some n => exact absurd (numW_shape e).2 (h n)
theorem wrap64 (x : Int) : InI (IntKind.i64.wrap x) ∧ (IntKind.i64.wrap x - x) % 18446744073709551616 = 0 := by
  have : IntKind.i64.wrap x = if x % 18446744073709551616 < 9223372036854775808 then x % 18446744073709551616 else x % 18446744073709551616 - 18446744073709551616 := by
    simp [IntKind.wrap, IntKind.bits, IntKind.signed]
    split <;> split <;> omega
  unfold InI
  rw [this]
  split <;> omega
def NumQ (s : W8) (u : Value) : Prop := ∃ v, u = .tuple #[.int .i64 v, .bool (numW s).isSome] ∧ InI v ∧ ∀ n, numW s = some n → v = n
theorem NumQ.no {s : W8} (h : ∀ n, ¬ Shape s n) : NumQ s (.tuple #[.int .i64 0, .bool false]) := ⟨0, by rw [numW_no h]; rfl, inI0, fun n e => by rw [numW_no h] at e; cases e⟩
theorem NumQ.yes {s : W8} {v : Int} {E : Nat} (hv : InI v) (h : (v - sgn (negS s) E) % 18446744073709551616 = 0) (he : E = valD (s.drop (stS s))) : NumQ s (.tuple #[.int .i64 v, .bool (decide (Lib.itoa v = s))]) := by
  have key : ∀ n, numW s = some n → v = n := fun n e => by
    obtain ⟨hn, sh⟩ := numW_shape e
    have := sh.val
    rw [← he] at this
    rw [← this] at h
    unfold InI at hn hv
    omega
  refine ⟨v, ?_, hv, key⟩
  by_cases e : Lib.itoa v = s
  · rw [← e, numW_itoa hv]; simp
  · have : numW s = none := by
      cases en : numW s with
      | none => rfl
      | some n => exact absurd (by rw [key n en]; exact (numW_some en).2) e
    rw [this]; simp [e]
theorem drop_take_succ {s : W8} {st i : Nat} {c : UInt8} (hst : st ≤ i) (hc : s[i]? = some c) : (s.take (i + 1)).drop st = (s.take i).drop st ++ [c] := by
  rw [List.take_add_one, hc, Option.toList_some, List.drop_append_of_le_length]
  have := (List.getElem?_eq_some_iff.1 hc).1
  simp; omega
set_option maxHeartbeats 16000000 in
theorem number_spec (s : W8) (F : PH) (hs : s.length ≤ 2000000) : Spec Tryd.prog 60 [.string (strOf s)] F [] fun u F' H' => H' = [] ∧ NumQ s u := by
  have hsz := strOf_size s
  refine Spec.of1 Tryd.func60 rfl rfl fun X w0 => ?_
  cases s with
  | nil =>
    repeat (first|refine zJ rfl rfl ?_|refine jr rfl ?_|refine jn ?_|refine zM rfl rfl ?_|(refine zC rfl rfl ?_ rfl ?_;omega)|(refine zD rfl rfl ?_ rfl ?_;omega)|(refine zP rfl ?_ rfl ?_;omega)|refine zG rfl rfl rfl rfl ?_|(refine jdq rfl rfl ?_ ?_ ?_;kernel_rfl;kernel_rfl)|refine zB rfl rfl rfl (by repeat constructor) rfl ?_|refine zH .here rfl rfl rfl rfl ?_|refine zH (.there .here) rfl rfl rfl rfl ?_|refine zH (.there (.there .here)) rfl rfl rfl rfl ?_|refine zH (.there (.there (.there .here))) rfl rfl rfl rfl ?_|refine zH (.there (.there (.there (.there .here)))) rfl rfl rfl rfl ?_)
    exact J_retv (vs := [.int .i64 0, .bool false]) rfl (.tmp rfl (.tmp rfl .nil)) [] (fun w s => s) (PH.ler _) ⟨rfl, NumQ.no fun n h => by have := h.ne; simp at this⟩
  | cons c0 r0 =>
    have hg0 : (c0 :: r0)[0]? = some c0 := rfl
    have e45 : c0 = 45 ↔ c0.toNat = 45 := UInt8.toNat_inj.symm
    have hneg : negS (c0 :: r0) = decide (c0.toNat = 45) := by
      unfold negS
      by_cases h : c0 = 45
      · subst h; rfl
      · have := fun e => h (e45.2 e)
        have h3 : (c0 == 45) = false := by simpa using h
        show (c0 == 45) = _
        rw [h3, decide_eq_false this]
    have hl1 : 1 ≤ (c0 :: r0).length := by simp
    obtain ⟨s, hsd⟩ : ∃ s, c0 :: r0 = s := ⟨_, rfl⟩
    rw [hsd] at hs hsz hg0 hneg hl1 ⊢
    by_cases hm : c0.toNat = 45
    · have hn : negS s = true := by rw [hneg]; simp [hm]
      have hst : stS s = 1 := by unfold stS; rw [hn]; rfl
      repeat (first|refine zJ rfl rfl ?_|refine jr rfl ?_|refine jn ?_|refine zM rfl rfl ?_|(refine zC rfl rfl ?_ rfl ?_;omega)|(refine zD rfl rfl ?_ rfl ?_;omega)|(refine zP rfl ?_ rfl ?_;omega)|refine zG rfl rfl rfl rfl ?_|(refine jdq rfl rfl ?_ ?_ ?_;kernel_rfl;kernel_rfl)|refine zB rfl rfl rfl (by repeat constructor) rfl ?_|refine zH .here rfl rfl rfl rfl ?_|refine zH (.there .here) rfl rfl rfl rfl ?_|refine zH (.there (.there .here)) rfl rfl rfl rfl ?_|refine zH (.there (.there (.there .here))) rfl rfl rfl rfl ?_|refine zH (.there (.there (.there (.there .here)))) rfl rfl rfl rfl ?_)
      refine oS (ev_ix (bs := s) (i := 0) (c := c0) rfl rfl rfl hg0) rfl ?_
      repeat (first|refine zJ rfl rfl ?_|refine jr rfl ?_|refine jn ?_|refine zM rfl rfl ?_|(refine zC rfl rfl ?_ rfl ?_;omega)|(refine zD rfl rfl ?_ rfl ?_;omega)|(refine zP rfl ?_ rfl ?_;omega)|refine zG rfl rfl rfl rfl ?_|(refine jdq rfl rfl ?_ ?_ ?_;kernel_rfl;kernel_rfl)|refine zB rfl rfl rfl (by repeat constructor) rfl ?_|refine zH .here rfl rfl rfl rfl ?_|refine zH (.there .here) rfl rfl rfl rfl ?_|refine zH (.there (.there .here)) rfl rfl rfl rfl ?_|refine zH (.there (.there (.there .here))) rfl rfl rfl rfl ?_|refine zH (.there (.there (.there (.there .here)))) rfl rfl rfl rfl ?_)
      by_cases he : s.length = 1
      · repeat (first|refine zJ rfl rfl ?_|refine jr rfl ?_|refine jn ?_|refine zM rfl rfl ?_|(refine zC rfl rfl ?_ rfl ?_;omega)|(refine zD rfl rfl ?_ rfl ?_;omega)|(refine zP rfl ?_ rfl ?_;omega)|refine zG rfl rfl rfl rfl ?_|(refine jdq rfl rfl ?_ ?_ ?_;kernel_rfl;kernel_rfl)|refine zB rfl rfl rfl (by repeat constructor) rfl ?_|refine zH .here rfl rfl rfl rfl ?_|refine zH (.there .here) rfl rfl rfl rfl ?_|refine zH (.there (.there .here)) rfl rfl rfl rfl ?_|refine zH (.there (.there (.there .here))) rfl rfl rfl rfl ?_|refine zH (.there (.there (.there (.there .here)))) rfl rfl rfl rfl ?_)
        try rw [decide_eq_true (show ((1 : Int) = ((strOf s).size : Int)) from by omega)]
        repeat (first|refine zJ rfl rfl ?_|refine jr rfl ?_|refine jn ?_|refine zM rfl rfl ?_|(refine zC rfl rfl ?_ rfl ?_;omega)|(refine zD rfl rfl ?_ rfl ?_;omega)|(refine zP rfl ?_ rfl ?_;omega)|refine zG rfl rfl rfl rfl ?_|(refine jdq rfl rfl ?_ ?_ ?_;kernel_rfl;kernel_rfl)|refine zB rfl rfl rfl (by repeat constructor) rfl ?_|refine zH .here rfl rfl rfl rfl ?_|refine zH (.there .here) rfl rfl rfl rfl ?_|refine zH (.there (.there .here)) rfl rfl rfl rfl ?_|refine zH (.there (.there (.there .here))) rfl rfl rfl rfl ?_|refine zH (.there (.there (.there (.there .here)))) rfl rfl rfl rfl ?_)
        exact J_retv (vs := [.int .i64 0, .bool false]) rfl (.tmp rfl (.tmp rfl .nil)) [] (fun w s => s) (PH.ler _) ⟨rfl, NumQ.no fun n h => by have := h.ne; omega⟩
      by_cases h20 : 20 < s.length
      · repeat (first|refine zJ rfl rfl ?_|refine jr rfl ?_|refine jn ?_|refine zM rfl rfl ?_|(refine zC rfl rfl ?_ rfl ?_;omega)|(refine zD rfl rfl ?_ rfl ?_;omega)|(refine zP rfl ?_ rfl ?_;omega)|refine zG rfl rfl rfl rfl ?_|(refine jdq rfl rfl ?_ ?_ ?_;kernel_rfl;kernel_rfl)|refine zB rfl rfl rfl (by repeat constructor) rfl ?_|refine zH .here rfl rfl rfl rfl ?_|refine zH (.there .here) rfl rfl rfl rfl ?_|refine zH (.there (.there .here)) rfl rfl rfl rfl ?_|refine zH (.there (.there (.there .here))) rfl rfl rfl rfl ?_|refine zH (.there (.there (.there (.there .here)))) rfl rfl rfl rfl ?_)
        try rw [decide_eq_false (show ¬ ((1 : Int) = ((strOf s).size : Int)) from by omega)]
        repeat (first|refine zJ rfl rfl ?_|refine jr rfl ?_|refine jn ?_|refine zM rfl rfl ?_|(refine zC rfl rfl ?_ rfl ?_;omega)|(refine zD rfl rfl ?_ rfl ?_;omega)|(refine zP rfl ?_ rfl ?_;omega)|refine zG rfl rfl rfl rfl ?_|(refine jdq rfl rfl ?_ ?_ ?_;kernel_rfl;kernel_rfl)|refine zB rfl rfl rfl (by repeat constructor) rfl ?_|refine zH .here rfl rfl rfl rfl ?_|refine zH (.there .here) rfl rfl rfl rfl ?_|refine zH (.there (.there .here)) rfl rfl rfl rfl ?_|refine zH (.there (.there (.there .here))) rfl rfl rfl rfl ?_|refine zH (.there (.there (.there (.there .here)))) rfl rfl rfl rfl ?_)
        exact J_retv (vs := [.int .i64 0, .bool false]) rfl (.tmp rfl (.tmp rfl .nil)) [] (fun w s => s) (PH.ler _) ⟨rfl, NumQ.no fun n h => by have := h.len; omega⟩
      repeat (first|refine zJ rfl rfl ?_|refine jr rfl ?_|refine jn ?_|refine zM rfl rfl ?_|(refine zC rfl rfl ?_ rfl ?_;omega)|(refine zD rfl rfl ?_ rfl ?_;omega)|(refine zP rfl ?_ rfl ?_;omega)|refine zG rfl rfl rfl rfl ?_|(refine jdq rfl rfl ?_ ?_ ?_;kernel_rfl;kernel_rfl)|refine zB rfl rfl rfl (by repeat constructor) rfl ?_|refine zH .here rfl rfl rfl rfl ?_|refine zH (.there .here) rfl rfl rfl rfl ?_|refine zH (.there (.there .here)) rfl rfl rfl rfl ?_|refine zH (.there (.there (.there .here))) rfl rfl rfl rfl ?_|refine zH (.there (.there (.there (.there .here)))) rfl rfl rfl rfl ?_)
      try rw [decide_eq_false (show ¬ ((1 : Int) = ((strOf s).size : Int)) from by omega)]
      repeat (first|refine zJ rfl rfl ?_|refine jr rfl ?_|refine jn ?_|refine zM rfl rfl ?_|(refine zC rfl rfl ?_ rfl ?_;omega)|(refine zD rfl rfl ?_ rfl ?_;omega)|(refine zP rfl ?_ rfl ?_;omega)|refine zG rfl rfl rfl rfl ?_|(refine jdq rfl rfl ?_ ?_ ?_;kernel_rfl;kernel_rfl)|refine zB rfl rfl rfl (by repeat constructor) rfl ?_|refine zH .here rfl rfl rfl rfl ?_|refine zH (.there .here) rfl rfl rfl rfl ?_|refine zH (.there (.there .here)) rfl rfl rfl rfl ?_|refine zH (.there (.there (.there .here))) rfl rfl rfl rfl ?_|refine zH (.there (.there (.there (.there .here)))) rfl rfl rfl rfl ?_)
      refine J_loop (ι := Nat × Int) (fun p => 1 ≤ p.1 ∧ p.1 ≤ s.length ∧ InI p.2 ∧ (p.2 - sgn true (valD ((s.take p.1).drop 1))) % 18446744073709551616 = 0) (fun p => s.length - p.1) (fun p => [(0, .string (strOf s)), (4, .bool true), (6, .int .i64 p.2), (7, .int .i64 p.1)]) (fun _ => F) (fun _ => X) (1, 0) ⟨Nat.le_refl _, by dsimp only; omega, inI0, by dsimp only; rw [List.drop_take]; simp [valD, sgn]⟩ ⟨⟨rfl, rfl, rfl, rfl, trivial⟩, fun w s => s⟩ ?_
      rintro ⟨i, v⟩ ⟨hi0, hi, hv, hE⟩
      dsimp only at *
      by_cases hlt : i < s.length
      · have hg : s[i]? = some s[i] := List.getElem?_eq_getElem hlt
        have hmem : s[i] ∈ s.drop 1 := by
          refine List.mem_iff_getElem?.2 ⟨i - 1, ?_⟩
          rw [List.getElem?_drop, show 1 + (i - 1) = i from by omega, hg]
        generalize s[i] = c at *
        have hcl : c.toNat < 256 := c.toNat_lt
        by_cases h48 : c.toNat < 48
        · have hno : ∀ n, ¬ Shape s n := fun n h => by have := (h.dig c (by rw [hst]; exact hmem)).1; omega
          repeat (first|refine zJ rfl rfl ?_|refine jr rfl ?_|refine jn ?_|refine zM rfl rfl ?_|(refine zC rfl rfl ?_ rfl ?_;omega)|(refine zD rfl rfl ?_ rfl ?_;omega)|(refine zP rfl ?_ rfl ?_;omega)|refine zG rfl rfl rfl rfl ?_|(refine jdq rfl rfl ?_ ?_ ?_;kernel_rfl;kernel_rfl)|refine zB rfl rfl rfl (by repeat constructor) rfl ?_|refine zH .here rfl rfl rfl rfl ?_|refine zH (.there .here) rfl rfl rfl rfl ?_|refine zH (.there (.there .here)) rfl rfl rfl rfl ?_|refine zH (.there (.there (.there .here))) rfl rfl rfl rfl ?_|refine zH (.there (.there (.there (.there .here)))) rfl rfl rfl rfl ?_)
          refine oS (ev_ix (bs := s) (c := c) rfl rfl rfl hg) rfl ?_
          repeat (first|refine zJ rfl rfl ?_|refine jr rfl ?_|refine jn ?_|refine zM rfl rfl ?_|(refine zC rfl rfl ?_ rfl ?_;omega)|(refine zD rfl rfl ?_ rfl ?_;omega)|(refine zP rfl ?_ rfl ?_;omega)|refine zG rfl rfl rfl rfl ?_|(refine jdq rfl rfl ?_ ?_ ?_;kernel_rfl;kernel_rfl)|refine zB rfl rfl rfl (by repeat constructor) rfl ?_|refine zH .here rfl rfl rfl rfl ?_|refine zH (.there .here) rfl rfl rfl rfl ?_|refine zH (.there (.there .here)) rfl rfl rfl rfl ?_|refine zH (.there (.there (.there .here))) rfl rfl rfl rfl ?_|refine zH (.there (.there (.there (.there .here)))) rfl rfl rfl rfl ?_)
          exact J_retv (vs := [.int .i64 0, .bool false]) rfl (.tmp rfl (.tmp rfl .nil)) [] (fun w s => s) (PH.ler _) ⟨rfl, NumQ.no hno⟩
        by_cases h57 : 57 < c.toNat
        · have hno : ∀ n, ¬ Shape s n := fun n h => by have := (h.dig c (by rw [hst]; exact hmem)).2; omega
          repeat (first|refine zJ rfl rfl ?_|refine jr rfl ?_|refine jn ?_|refine zM rfl rfl ?_|(refine zC rfl rfl ?_ rfl ?_;omega)|(refine zD rfl rfl ?_ rfl ?_;omega)|(refine zP rfl ?_ rfl ?_;omega)|refine zG rfl rfl rfl rfl ?_|(refine jdq rfl rfl ?_ ?_ ?_;kernel_rfl;kernel_rfl)|refine zB rfl rfl rfl (by repeat constructor) rfl ?_|refine zH .here rfl rfl rfl rfl ?_|refine zH (.there .here) rfl rfl rfl rfl ?_|refine zH (.there (.there .here)) rfl rfl rfl rfl ?_|refine zH (.there (.there (.there .here))) rfl rfl rfl rfl ?_|refine zH (.there (.there (.there (.there .here)))) rfl rfl rfl rfl ?_)
          refine oS (ev_ix (bs := s) (c := c) rfl rfl rfl hg) rfl ?_
          repeat (first|refine zJ rfl rfl ?_|refine jr rfl ?_|refine jn ?_|refine zM rfl rfl ?_|(refine zC rfl rfl ?_ rfl ?_;omega)|(refine zD rfl rfl ?_ rfl ?_;omega)|(refine zP rfl ?_ rfl ?_;omega)|refine zG rfl rfl rfl rfl ?_|(refine jdq rfl rfl ?_ ?_ ?_;kernel_rfl;kernel_rfl)|refine zB rfl rfl rfl (by repeat constructor) rfl ?_|refine zH .here rfl rfl rfl rfl ?_|refine zH (.there .here) rfl rfl rfl rfl ?_|refine zH (.there (.there .here)) rfl rfl rfl rfl ?_|refine zH (.there (.there (.there .here))) rfl rfl rfl rfl ?_|refine zH (.there (.there (.there (.there .here)))) rfl rfl rfl rfl ?_)
          refine oS (ev_ix (bs := s) (c := c) rfl rfl rfl hg) rfl ?_
          repeat (first|refine zJ rfl rfl ?_|refine jr rfl ?_|refine jn ?_|refine zM rfl rfl ?_|(refine zC rfl rfl ?_ rfl ?_;omega)|(refine zD rfl rfl ?_ rfl ?_;omega)|(refine zP rfl ?_ rfl ?_;omega)|refine zG rfl rfl rfl rfl ?_|(refine jdq rfl rfl ?_ ?_ ?_;kernel_rfl;kernel_rfl)|refine zB rfl rfl rfl (by repeat constructor) rfl ?_|refine zH .here rfl rfl rfl rfl ?_|refine zH (.there .here) rfl rfl rfl rfl ?_|refine zH (.there (.there .here)) rfl rfl rfl rfl ?_|refine zH (.there (.there (.there .here))) rfl rfl rfl rfl ?_|refine zH (.there (.there (.there (.there .here)))) rfl rfl rfl rfl ?_)
          exact J_retv (vs := [.int .i64 0, .bool false]) rfl (.tmp rfl (.tmp rfl .nil)) [] (fun w s => s) (PH.ler _) ⟨rfl, NumQ.no hno⟩
        repeat (first|refine zJ rfl rfl ?_|refine jr rfl ?_|refine jn ?_|refine zM rfl rfl ?_|(refine zC rfl rfl ?_ rfl ?_;omega)|(refine zD rfl rfl ?_ rfl ?_;omega)|(refine zP rfl ?_ rfl ?_;omega)|refine zG rfl rfl rfl rfl ?_|(refine jdq rfl rfl ?_ ?_ ?_;kernel_rfl;kernel_rfl)|refine zB rfl rfl rfl (by repeat constructor) rfl ?_|refine zH .here rfl rfl rfl rfl ?_|refine zH (.there .here) rfl rfl rfl rfl ?_|refine zH (.there (.there .here)) rfl rfl rfl rfl ?_|refine zH (.there (.there (.there .here))) rfl rfl rfl rfl ?_|refine zH (.there (.there (.there (.there .here)))) rfl rfl rfl rfl ?_)
        refine oS (ev_ix (bs := s) (c := c) rfl rfl rfl hg) rfl ?_
        repeat (first|refine zJ rfl rfl ?_|refine jr rfl ?_|refine jn ?_|refine zM rfl rfl ?_|(refine zC rfl rfl ?_ rfl ?_;omega)|(refine zD rfl rfl ?_ rfl ?_;omega)|(refine zP rfl ?_ rfl ?_;omega)|refine zG rfl rfl rfl rfl ?_|(refine jdq rfl rfl ?_ ?_ ?_;kernel_rfl;kernel_rfl)|refine zB rfl rfl rfl (by repeat constructor) rfl ?_|refine zH .here rfl rfl rfl rfl ?_|refine zH (.there .here) rfl rfl rfl rfl ?_|refine zH (.there (.there .here)) rfl rfl rfl rfl ?_|refine zH (.there (.there (.there .here))) rfl rfl rfl rfl ?_|refine zH (.there (.there (.there (.there .here)))) rfl rfl rfl rfl ?_)
        refine oS (ev_ix (bs := s) (c := c) rfl rfl rfl hg) rfl ?_
        repeat (first|refine zJ rfl rfl ?_|refine jr rfl ?_|refine jn ?_|refine zM rfl rfl ?_|(refine zC rfl rfl ?_ rfl ?_;omega)|(refine zD rfl rfl ?_ rfl ?_;omega)|(refine zP rfl ?_ rfl ?_;omega)|refine zG rfl rfl rfl rfl ?_|(refine jdq rfl rfl ?_ ?_ ?_;kernel_rfl;kernel_rfl)|refine zB rfl rfl rfl (by repeat constructor) rfl ?_|refine zH .here rfl rfl rfl rfl ?_|refine zH (.there .here) rfl rfl rfl rfl ?_|refine zH (.there (.there .here)) rfl rfl rfl rfl ?_|refine zH (.there (.there (.there .here))) rfl rfl rfl rfl ?_|refine zH (.there (.there (.there (.there .here)))) rfl rfl rfl rfl ?_)
        refine oS (ev_ix (bs := s) (c := c) rfl rfl rfl hg) rfl ?_
        repeat (first|refine zJ rfl rfl ?_|refine jr rfl ?_|refine jn ?_|refine zM rfl rfl ?_|(refine zC rfl rfl ?_ rfl ?_;omega)|(refine zD rfl rfl ?_ rfl ?_;omega)|(refine zP rfl ?_ rfl ?_;omega)|refine zG rfl rfl rfl rfl ?_|(refine jdq rfl rfl ?_ ?_ ?_;kernel_rfl;kernel_rfl)|refine zB rfl rfl rfl (by repeat constructor) rfl ?_|refine zH .here rfl rfl rfl rfl ?_|refine zH (.there .here) rfl rfl rfl rfl ?_|refine zH (.there (.there .here)) rfl rfl rfl rfl ?_|refine zH (.there (.there (.there .here))) rfl rfl rfl rfl ?_|refine zH (.there (.there (.there (.there .here)))) rfl rfl rfl rfl ?_)
        refine oS (ev_neg rfl (by dsimp only [InK]; omega)) rfl ?_
        repeat (first|refine zJ rfl rfl ?_|refine jr rfl ?_|refine jn ?_|refine zM rfl rfl ?_|(refine zC rfl rfl ?_ rfl ?_;omega)|(refine zD rfl rfl ?_ rfl ?_;omega)|(refine zP rfl ?_ rfl ?_;omega)|refine zG rfl rfl rfl rfl ?_|(refine jdq rfl rfl ?_ ?_ ?_;kernel_rfl;kernel_rfl)|refine zB rfl rfl rfl (by repeat constructor) rfl ?_|refine zH .here rfl rfl rfl rfl ?_|refine zH (.there .here) rfl rfl rfl rfl ?_|refine zH (.there (.there .here)) rfl rfl rfl rfl ?_|refine zH (.there (.there (.there .here))) rfl rfl rfl rfl ?_|refine zH (.there (.there (.there (.there .here)))) rfl rfl rfl rfl ?_)
        have w1 := wrap64 (v * 10)
        refine oS (ev_mulw rfl rfl) rfl ?_
        obtain ⟨v1, hv1⟩ : ∃ v1, IntKind.i64.wrap (v * 10) = v1 := ⟨_, rfl⟩
        rw [hv1] at w1 ⊢
        repeat (first|refine zJ rfl rfl ?_|refine jr rfl ?_|refine jn ?_|refine zM rfl rfl ?_|(refine zC rfl rfl ?_ rfl ?_;omega)|(refine zD rfl rfl ?_ rfl ?_;omega)|(refine zP rfl ?_ rfl ?_;omega)|refine zG rfl rfl rfl rfl ?_|(refine jdq rfl rfl ?_ ?_ ?_;kernel_rfl;kernel_rfl)|refine zB rfl rfl rfl (by repeat constructor) rfl ?_|refine zH .here rfl rfl rfl rfl ?_|refine zH (.there .here) rfl rfl rfl rfl ?_|refine zH (.there (.there .here)) rfl rfl rfl rfl ?_|refine zH (.there (.there (.there .here))) rfl rfl rfl rfl ?_|refine zH (.there (.there (.there (.there .here)))) rfl rfl rfl rfl ?_)
        have w2 := wrap64 (v1 + -((c.toNat : Int) - 48))
        refine oS (ev_addw rfl rfl) rfl ?_
        obtain ⟨v2, hv2⟩ : ∃ v2, IntKind.i64.wrap (v1 + -((c.toNat : Int) - 48)) = v2 := ⟨_, rfl⟩
        rw [hv2] at w2 ⊢
        repeat (first|refine zJ rfl rfl ?_|refine jr rfl ?_|refine jn ?_|refine zM rfl rfl ?_|(refine zC rfl rfl ?_ rfl ?_;omega)|(refine zD rfl rfl ?_ rfl ?_;omega)|(refine zP rfl ?_ rfl ?_;omega)|refine zG rfl rfl rfl rfl ?_|(refine jdq rfl rfl ?_ ?_ ?_;kernel_rfl;kernel_rfl)|refine zB rfl rfl rfl (by repeat constructor) rfl ?_|refine zH .here rfl rfl rfl rfl ?_|refine zH (.there .here) rfl rfl rfl rfl ?_|refine zH (.there (.there .here)) rfl rfl rfl rfl ?_|refine zH (.there (.there (.there .here))) rfl rfl rfl rfl ?_|refine zH (.there (.there (.there (.there .here)))) rfl rfl rfl rfl ?_)
        refine J_again (ι := Nat × Int) (i + 1, v2) ⟨by dsimp only; omega, hlt, w2.1, ?_⟩ (by dsimp only; omega) ⟨⟨rfl, rfl, rfl, rfl, trivial⟩, fun w s => s⟩
        dsimp only
        rw [drop_take_succ hi0 hg, valD_snoc]
        unfold sgn at hE ⊢
        simp only [if_true, if_false, Bool.false_eq_true] at hE ⊢
        have := w2.2
        have := w1.2
        omega
      · obtain rfl : i = s.length := by omega
        rw [List.take_length] at hE
        repeat (first|refine zJ rfl rfl ?_|refine jr rfl ?_|refine jn ?_|refine zM rfl rfl ?_|(refine zC rfl rfl ?_ rfl ?_;omega)|(refine zD rfl rfl ?_ rfl ?_;omega)|(refine zP rfl ?_ rfl ?_;omega)|refine zG rfl rfl rfl rfl ?_|(refine jdq rfl rfl ?_ ?_ ?_;kernel_rfl;kernel_rfl)|refine zB rfl rfl rfl (by repeat constructor) rfl ?_|refine zH .here rfl rfl rfl rfl ?_|refine zH (.there .here) rfl rfl rfl rfl ?_|refine zH (.there (.there .here)) rfl rfl rfl rfl ?_|refine zH (.there (.there (.there .here))) rfl rfl rfl rfl ?_|refine zH (.there (.there (.there (.there .here)))) rfl rfl rfl rfl ?_)
        refine oP (digits_spec v F hv) Tryd.call55 rfl rfl ?_
        repeat (first|refine zJ rfl rfl ?_|refine jr rfl ?_|refine jn ?_|refine zM rfl rfl ?_|(refine zC rfl rfl ?_ rfl ?_;omega)|(refine zD rfl rfl ?_ rfl ?_;omega)|(refine zP rfl ?_ rfl ?_;omega)|refine zG rfl rfl rfl rfl ?_|(refine jdq rfl rfl ?_ ?_ ?_;kernel_rfl;kernel_rfl)|refine zB rfl rfl rfl (by repeat constructor) rfl ?_|refine zH .here rfl rfl rfl rfl ?_|refine zH (.there .here) rfl rfl rfl rfl ?_|refine zH (.there (.there .here)) rfl rfl rfl rfl ?_|refine zH (.there (.there (.there .here))) rfl rfl rfl rfl ?_|refine zH (.there (.there (.there (.there .here)))) rfl rfl rfl rfl ?_)
        refine oS (ev_seql (r := decide (Lib.itoa v = s)) rfl rfl rfl) rfl ?_
        repeat (first|refine zJ rfl rfl ?_|refine jr rfl ?_|refine jn ?_|refine zM rfl rfl ?_|(refine zC rfl rfl ?_ rfl ?_;omega)|(refine zD rfl rfl ?_ rfl ?_;omega)|(refine zP rfl ?_ rfl ?_;omega)|refine zG rfl rfl rfl rfl ?_|(refine jdq rfl rfl ?_ ?_ ?_;kernel_rfl;kernel_rfl)|refine zB rfl rfl rfl (by repeat constructor) rfl ?_|refine zH .here rfl rfl rfl rfl ?_|refine zH (.there .here) rfl rfl rfl rfl ?_|refine zH (.there (.there .here)) rfl rfl rfl rfl ?_|refine zH (.there (.there (.there .here))) rfl rfl rfl rfl ?_|refine zH (.there (.there (.there (.there .here)))) rfl rfl rfl rfl ?_)
        exact J_retv (vs := [.int .i64 v, .bool (decide (Lib.itoa v = s))]) rfl (.tmp rfl (.tmp rfl .nil)) [] (fun w s => s) (PH.ler _) ⟨rfl, NumQ.yes hv (E := valD (s.drop 1)) (by rw [hn]; exact hE) (by rw [hst])⟩
    · have hn : negS s = false := by rw [hneg]; simp [hm]
      have hst : stS s = 0 := by unfold stS; rw [hn]; rfl
      repeat (first|refine zJ rfl rfl ?_|refine jr rfl ?_|refine jn ?_|refine zM rfl rfl ?_|(refine zC rfl rfl ?_ rfl ?_;omega)|(refine zD rfl rfl ?_ rfl ?_;omega)|(refine zP rfl ?_ rfl ?_;omega)|refine zG rfl rfl rfl rfl ?_|(refine jdq rfl rfl ?_ ?_ ?_;kernel_rfl;kernel_rfl)|refine zB rfl rfl rfl (by repeat constructor) rfl ?_|refine zH .here rfl rfl rfl rfl ?_|refine zH (.there .here) rfl rfl rfl rfl ?_|refine zH (.there (.there .here)) rfl rfl rfl rfl ?_|refine zH (.there (.there (.there .here))) rfl rfl rfl rfl ?_|refine zH (.there (.there (.there (.there .here)))) rfl rfl rfl rfl ?_)
      refine oS (ev_ix (bs := s) (i := 0) (c := c0) rfl rfl rfl hg0) rfl ?_
      repeat (first|refine zJ rfl rfl ?_|refine jr rfl ?_|refine jn ?_|refine zM rfl rfl ?_|(refine zC rfl rfl ?_ rfl ?_;omega)|(refine zD rfl rfl ?_ rfl ?_;omega)|(refine zP rfl ?_ rfl ?_;omega)|refine zG rfl rfl rfl rfl ?_|(refine jdq rfl rfl ?_ ?_ ?_;kernel_rfl;kernel_rfl)|refine zB rfl rfl rfl (by repeat constructor) rfl ?_|refine zH .here rfl rfl rfl rfl ?_|refine zH (.there .here) rfl rfl rfl rfl ?_|refine zH (.there (.there .here)) rfl rfl rfl rfl ?_|refine zH (.there (.there (.there .here))) rfl rfl rfl rfl ?_|refine zH (.there (.there (.there (.there .here)))) rfl rfl rfl rfl ?_)
      have he : ¬ s.length = 0 := by omega
      by_cases h20 : 20 < s.length
      · repeat (first|refine zJ rfl rfl ?_|refine jr rfl ?_|refine jn ?_|refine zM rfl rfl ?_|(refine zC rfl rfl ?_ rfl ?_;omega)|(refine zD rfl rfl ?_ rfl ?_;omega)|(refine zP rfl ?_ rfl ?_;omega)|refine zG rfl rfl rfl rfl ?_|(refine jdq rfl rfl ?_ ?_ ?_;kernel_rfl;kernel_rfl)|refine zB rfl rfl rfl (by repeat constructor) rfl ?_|refine zH .here rfl rfl rfl rfl ?_|refine zH (.there .here) rfl rfl rfl rfl ?_|refine zH (.there (.there .here)) rfl rfl rfl rfl ?_|refine zH (.there (.there (.there .here))) rfl rfl rfl rfl ?_|refine zH (.there (.there (.there (.there .here)))) rfl rfl rfl rfl ?_)
        rw [decide_eq_true (show (20 : Int) < ((strOf s).size : Int) from by omega)]
        repeat (first|refine zJ rfl rfl ?_|refine jr rfl ?_|refine jn ?_|refine zM rfl rfl ?_|(refine zC rfl rfl ?_ rfl ?_;omega)|(refine zD rfl rfl ?_ rfl ?_;omega)|(refine zP rfl ?_ rfl ?_;omega)|refine zG rfl rfl rfl rfl ?_|(refine jdq rfl rfl ?_ ?_ ?_;kernel_rfl;kernel_rfl)|refine zB rfl rfl rfl (by repeat constructor) rfl ?_|refine zH .here rfl rfl rfl rfl ?_|refine zH (.there .here) rfl rfl rfl rfl ?_|refine zH (.there (.there .here)) rfl rfl rfl rfl ?_|refine zH (.there (.there (.there .here))) rfl rfl rfl rfl ?_|refine zH (.there (.there (.there (.there .here)))) rfl rfl rfl rfl ?_)
        exact J_retv (vs := [.int .i64 0, .bool false]) rfl (.tmp rfl (.tmp rfl .nil)) [] (fun w s => s) (PH.ler _) ⟨rfl, NumQ.no fun n h => by have := h.len; omega⟩
      repeat (first|refine zJ rfl rfl ?_|refine jr rfl ?_|refine jn ?_|refine zM rfl rfl ?_|(refine zC rfl rfl ?_ rfl ?_;omega)|(refine zD rfl rfl ?_ rfl ?_;omega)|(refine zP rfl ?_ rfl ?_;omega)|refine zG rfl rfl rfl rfl ?_|(refine jdq rfl rfl ?_ ?_ ?_;kernel_rfl;kernel_rfl)|refine zB rfl rfl rfl (by repeat constructor) rfl ?_|refine zH .here rfl rfl rfl rfl ?_|refine zH (.there .here) rfl rfl rfl rfl ?_|refine zH (.there (.there .here)) rfl rfl rfl rfl ?_|refine zH (.there (.there (.there .here))) rfl rfl rfl rfl ?_|refine zH (.there (.there (.there (.there .here)))) rfl rfl rfl rfl ?_)
      rw [decide_eq_false (show ¬ (20 : Int) < ((strOf s).size : Int) from by omega)]
      repeat (first|refine zJ rfl rfl ?_|refine jr rfl ?_|refine jn ?_|refine zM rfl rfl ?_|(refine zC rfl rfl ?_ rfl ?_;omega)|(refine zD rfl rfl ?_ rfl ?_;omega)|(refine zP rfl ?_ rfl ?_;omega)|refine zG rfl rfl rfl rfl ?_|(refine jdq rfl rfl ?_ ?_ ?_;kernel_rfl;kernel_rfl)|refine zB rfl rfl rfl (by repeat constructor) rfl ?_|refine zH .here rfl rfl rfl rfl ?_|refine zH (.there .here) rfl rfl rfl rfl ?_|refine zH (.there (.there .here)) rfl rfl rfl rfl ?_|refine zH (.there (.there (.there .here))) rfl rfl rfl rfl ?_|refine zH (.there (.there (.there (.there .here)))) rfl rfl rfl rfl ?_)
      refine J_loop (ι := Nat × Int) (fun p => 0 ≤ p.1 ∧ p.1 ≤ s.length ∧ InI p.2 ∧ (p.2 - sgn false (valD ((s.take p.1).drop 0))) % 18446744073709551616 = 0) (fun p => s.length - p.1) (fun p => [(0, .string (strOf s)), (4, .bool false), (6, .int .i64 p.2), (7, .int .i64 p.1)]) (fun _ => F) (fun _ => X) (0, 0) ⟨Nat.le_refl _, by dsimp only; omega, inI0, by dsimp only; rw [List.drop_take]; simp [valD, sgn]⟩ ⟨⟨rfl, rfl, rfl, rfl, trivial⟩, fun w s => s⟩ ?_
      rintro ⟨i, v⟩ ⟨hi0, hi, hv, hE⟩
      dsimp only at *
      by_cases hlt : i < s.length
      · have hg : s[i]? = some s[i] := List.getElem?_eq_getElem hlt
        have hmem : s[i] ∈ s.drop 0 := by
          refine List.mem_iff_getElem?.2 ⟨i - 0, ?_⟩
          rw [List.getElem?_drop, show 0 + (i - 0) = i from by omega, hg]
        generalize s[i] = c at *
        have hcl : c.toNat < 256 := c.toNat_lt
        by_cases h48 : c.toNat < 48
        · have hno : ∀ n, ¬ Shape s n := fun n h => by have := (h.dig c (by rw [hst]; exact hmem)).1; omega
          repeat (first|refine zJ rfl rfl ?_|refine jr rfl ?_|refine jn ?_|refine zM rfl rfl ?_|(refine zC rfl rfl ?_ rfl ?_;omega)|(refine zD rfl rfl ?_ rfl ?_;omega)|(refine zP rfl ?_ rfl ?_;omega)|refine zG rfl rfl rfl rfl ?_|(refine jdq rfl rfl ?_ ?_ ?_;kernel_rfl;kernel_rfl)|refine zB rfl rfl rfl (by repeat constructor) rfl ?_|refine zH .here rfl rfl rfl rfl ?_|refine zH (.there .here) rfl rfl rfl rfl ?_|refine zH (.there (.there .here)) rfl rfl rfl rfl ?_|refine zH (.there (.there (.there .here))) rfl rfl rfl rfl ?_|refine zH (.there (.there (.there (.there .here)))) rfl rfl rfl rfl ?_)
          refine oS (ev_ix (bs := s) (c := c) rfl rfl rfl hg) rfl ?_
          repeat (first|refine zJ rfl rfl ?_|refine jr rfl ?_|refine jn ?_|refine zM rfl rfl ?_|(refine zC rfl rfl ?_ rfl ?_;omega)|(refine zD rfl rfl ?_ rfl ?_;omega)|(refine zP rfl ?_ rfl ?_;omega)|refine zG rfl rfl rfl rfl ?_|(refine jdq rfl rfl ?_ ?_ ?_;kernel_rfl;kernel_rfl)|refine zB rfl rfl rfl (by repeat constructor) rfl ?_|refine zH .here rfl rfl rfl rfl ?_|refine zH (.there .here) rfl rfl rfl rfl ?_|refine zH (.there (.there .here)) rfl rfl rfl rfl ?_|refine zH (.there (.there (.there .here))) rfl rfl rfl rfl ?_|refine zH (.there (.there (.there (.there .here)))) rfl rfl rfl rfl ?_)
          exact J_retv (vs := [.int .i64 0, .bool false]) rfl (.tmp rfl (.tmp rfl .nil)) [] (fun w s => s) (PH.ler _) ⟨rfl, NumQ.no hno⟩
        by_cases h57 : 57 < c.toNat
        · have hno : ∀ n, ¬ Shape s n := fun n h => by have := (h.dig c (by rw [hst]; exact hmem)).2; omega
          repeat (first|refine zJ rfl rfl ?_|refine jr rfl ?_|refine jn ?_|refine zM rfl rfl ?_|(refine zC rfl rfl ?_ rfl ?_;omega)|(refine zD rfl rfl ?_ rfl ?_;omega)|(refine zP rfl ?_ rfl ?_;omega)|refine zG rfl rfl rfl rfl ?_|(refine jdq rfl rfl ?_ ?_ ?_;kernel_rfl;kernel_rfl)|refine zB rfl rfl rfl (by repeat constructor) rfl ?_|refine zH .here rfl rfl rfl rfl ?_|refine zH (.there .here) rfl rfl rfl rfl ?_|refine zH (.there (.there .here)) rfl rfl rfl rfl ?_|refine zH (.there (.there (.there .here))) rfl rfl rfl rfl ?_|refine zH (.there (.there (.there (.there .here)))) rfl rfl rfl rfl ?_)
          refine oS (ev_ix (bs := s) (c := c) rfl rfl rfl hg) rfl ?_
          repeat (first|refine zJ rfl rfl ?_|refine jr rfl ?_|refine jn ?_|refine zM rfl rfl ?_|(refine zC rfl rfl ?_ rfl ?_;omega)|(refine zD rfl rfl ?_ rfl ?_;omega)|(refine zP rfl ?_ rfl ?_;omega)|refine zG rfl rfl rfl rfl ?_|(refine jdq rfl rfl ?_ ?_ ?_;kernel_rfl;kernel_rfl)|refine zB rfl rfl rfl (by repeat constructor) rfl ?_|refine zH .here rfl rfl rfl rfl ?_|refine zH (.there .here) rfl rfl rfl rfl ?_|refine zH (.there (.there .here)) rfl rfl rfl rfl ?_|refine zH (.there (.there (.there .here))) rfl rfl rfl rfl ?_|refine zH (.there (.there (.there (.there .here)))) rfl rfl rfl rfl ?_)
          refine oS (ev_ix (bs := s) (c := c) rfl rfl rfl hg) rfl ?_
          repeat (first|refine zJ rfl rfl ?_|refine jr rfl ?_|refine jn ?_|refine zM rfl rfl ?_|(refine zC rfl rfl ?_ rfl ?_;omega)|(refine zD rfl rfl ?_ rfl ?_;omega)|(refine zP rfl ?_ rfl ?_;omega)|refine zG rfl rfl rfl rfl ?_|(refine jdq rfl rfl ?_ ?_ ?_;kernel_rfl;kernel_rfl)|refine zB rfl rfl rfl (by repeat constructor) rfl ?_|refine zH .here rfl rfl rfl rfl ?_|refine zH (.there .here) rfl rfl rfl rfl ?_|refine zH (.there (.there .here)) rfl rfl rfl rfl ?_|refine zH (.there (.there (.there .here))) rfl rfl rfl rfl ?_|refine zH (.there (.there (.there (.there .here)))) rfl rfl rfl rfl ?_)
          exact J_retv (vs := [.int .i64 0, .bool false]) rfl (.tmp rfl (.tmp rfl .nil)) [] (fun w s => s) (PH.ler _) ⟨rfl, NumQ.no hno⟩
        repeat (first|refine zJ rfl rfl ?_|refine jr rfl ?_|refine jn ?_|refine zM rfl rfl ?_|(refine zC rfl rfl ?_ rfl ?_;omega)|(refine zD rfl rfl ?_ rfl ?_;omega)|(refine zP rfl ?_ rfl ?_;omega)|refine zG rfl rfl rfl rfl ?_|(refine jdq rfl rfl ?_ ?_ ?_;kernel_rfl;kernel_rfl)|refine zB rfl rfl rfl (by repeat constructor) rfl ?_|refine zH .here rfl rfl rfl rfl ?_|refine zH (.there .here) rfl rfl rfl rfl ?_|refine zH (.there (.there .here)) rfl rfl rfl rfl ?_|refine zH (.there (.there (.there .here))) rfl rfl rfl rfl ?_|refine zH (.there (.there (.there (.there .here)))) rfl rfl rfl rfl ?_)
        refine oS (ev_ix (bs := s) (c := c) rfl rfl rfl hg) rfl ?_
        repeat (first|refine zJ rfl rfl ?_|refine jr rfl ?_|refine jn ?_|refine zM rfl rfl ?_|(refine zC rfl rfl ?_ rfl ?_;omega)|(refine zD rfl rfl ?_ rfl ?_;omega)|(refine zP rfl ?_ rfl ?_;omega)|refine zG rfl rfl rfl rfl ?_|(refine jdq rfl rfl ?_ ?_ ?_;kernel_rfl;kernel_rfl)|refine zB rfl rfl rfl (by repeat constructor) rfl ?_|refine zH .here rfl rfl rfl rfl ?_|refine zH (.there .here) rfl rfl rfl rfl ?_|refine zH (.there (.there .here)) rfl rfl rfl rfl ?_|refine zH (.there (.there (.there .here))) rfl rfl rfl rfl ?_|refine zH (.there (.there (.there (.there .here)))) rfl rfl rfl rfl ?_)
        refine oS (ev_ix (bs := s) (c := c) rfl rfl rfl hg) rfl ?_
        repeat (first|refine zJ rfl rfl ?_|refine jr rfl ?_|refine jn ?_|refine zM rfl rfl ?_|(refine zC rfl rfl ?_ rfl ?_;omega)|(refine zD rfl rfl ?_ rfl ?_;omega)|(refine zP rfl ?_ rfl ?_;omega)|refine zG rfl rfl rfl rfl ?_|(refine jdq rfl rfl ?_ ?_ ?_;kernel_rfl;kernel_rfl)|refine zB rfl rfl rfl (by repeat constructor) rfl ?_|refine zH .here rfl rfl rfl rfl ?_|refine zH (.there .here) rfl rfl rfl rfl ?_|refine zH (.there (.there .here)) rfl rfl rfl rfl ?_|refine zH (.there (.there (.there .here))) rfl rfl rfl rfl ?_|refine zH (.there (.there (.there (.there .here)))) rfl rfl rfl rfl ?_)
        refine oS (ev_ix (bs := s) (c := c) rfl rfl rfl hg) rfl ?_
        repeat (first|refine zJ rfl rfl ?_|refine jr rfl ?_|refine jn ?_|refine zM rfl rfl ?_|(refine zC rfl rfl ?_ rfl ?_;omega)|(refine zD rfl rfl ?_ rfl ?_;omega)|(refine zP rfl ?_ rfl ?_;omega)|refine zG rfl rfl rfl rfl ?_|(refine jdq rfl rfl ?_ ?_ ?_;kernel_rfl;kernel_rfl)|refine zB rfl rfl rfl (by repeat constructor) rfl ?_|refine zH .here rfl rfl rfl rfl ?_|refine zH (.there .here) rfl rfl rfl rfl ?_|refine zH (.there (.there .here)) rfl rfl rfl rfl ?_|refine zH (.there (.there (.there .here))) rfl rfl rfl rfl ?_|refine zH (.there (.there (.there (.there .here)))) rfl rfl rfl rfl ?_)
        have w1 := wrap64 (v * 10)
        refine oS (ev_mulw rfl rfl) rfl ?_
        obtain ⟨v1, hv1⟩ : ∃ v1, IntKind.i64.wrap (v * 10) = v1 := ⟨_, rfl⟩
        rw [hv1] at w1 ⊢
        repeat (first|refine zJ rfl rfl ?_|refine jr rfl ?_|refine jn ?_|refine zM rfl rfl ?_|(refine zC rfl rfl ?_ rfl ?_;omega)|(refine zD rfl rfl ?_ rfl ?_;omega)|(refine zP rfl ?_ rfl ?_;omega)|refine zG rfl rfl rfl rfl ?_|(refine jdq rfl rfl ?_ ?_ ?_;kernel_rfl;kernel_rfl)|refine zB rfl rfl rfl (by repeat constructor) rfl ?_|refine zH .here rfl rfl rfl rfl ?_|refine zH (.there .here) rfl rfl rfl rfl ?_|refine zH (.there (.there .here)) rfl rfl rfl rfl ?_|refine zH (.there (.there (.there .here))) rfl rfl rfl rfl ?_|refine zH (.there (.there (.there (.there .here)))) rfl rfl rfl rfl ?_)
        have w2 := wrap64 (v1 + ((c.toNat : Int) - 48))
        refine oS (ev_addw rfl rfl) rfl ?_
        obtain ⟨v2, hv2⟩ : ∃ v2, IntKind.i64.wrap (v1 + ((c.toNat : Int) - 48)) = v2 := ⟨_, rfl⟩
        rw [hv2] at w2 ⊢
        repeat (first|refine zJ rfl rfl ?_|refine jr rfl ?_|refine jn ?_|refine zM rfl rfl ?_|(refine zC rfl rfl ?_ rfl ?_;omega)|(refine zD rfl rfl ?_ rfl ?_;omega)|(refine zP rfl ?_ rfl ?_;omega)|refine zG rfl rfl rfl rfl ?_|(refine jdq rfl rfl ?_ ?_ ?_;kernel_rfl;kernel_rfl)|refine zB rfl rfl rfl (by repeat constructor) rfl ?_|refine zH .here rfl rfl rfl rfl ?_|refine zH (.there .here) rfl rfl rfl rfl ?_|refine zH (.there (.there .here)) rfl rfl rfl rfl ?_|refine zH (.there (.there (.there .here))) rfl rfl rfl rfl ?_|refine zH (.there (.there (.there (.there .here)))) rfl rfl rfl rfl ?_)
        refine J_again (ι := Nat × Int) (i + 1, v2) ⟨by dsimp only; omega, hlt, w2.1, ?_⟩ (by dsimp only; omega) ⟨⟨rfl, rfl, rfl, rfl, trivial⟩, fun w s => s⟩
        dsimp only
        rw [drop_take_succ hi0 hg, valD_snoc]
        unfold sgn at hE ⊢
        simp only [if_true, if_false, Bool.false_eq_true] at hE ⊢
        have := w2.2
        have := w1.2
        omega
      · obtain rfl : i = s.length := by omega
        rw [List.take_length] at hE
        repeat (first|refine zJ rfl rfl ?_|refine jr rfl ?_|refine jn ?_|refine zM rfl rfl ?_|(refine zC rfl rfl ?_ rfl ?_;omega)|(refine zD rfl rfl ?_ rfl ?_;omega)|(refine zP rfl ?_ rfl ?_;omega)|refine zG rfl rfl rfl rfl ?_|(refine jdq rfl rfl ?_ ?_ ?_;kernel_rfl;kernel_rfl)|refine zB rfl rfl rfl (by repeat constructor) rfl ?_|refine zH .here rfl rfl rfl rfl ?_|refine zH (.there .here) rfl rfl rfl rfl ?_|refine zH (.there (.there .here)) rfl rfl rfl rfl ?_|refine zH (.there (.there (.there .here))) rfl rfl rfl rfl ?_|refine zH (.there (.there (.there (.there .here)))) rfl rfl rfl rfl ?_)
        refine oP (digits_spec v F hv) Tryd.call55 rfl rfl ?_
        repeat (first|refine zJ rfl rfl ?_|refine jr rfl ?_|refine jn ?_|refine zM rfl rfl ?_|(refine zC rfl rfl ?_ rfl ?_;omega)|(refine zD rfl rfl ?_ rfl ?_;omega)|(refine zP rfl ?_ rfl ?_;omega)|refine zG rfl rfl rfl rfl ?_|(refine jdq rfl rfl ?_ ?_ ?_;kernel_rfl;kernel_rfl)|refine zB rfl rfl rfl (by repeat constructor) rfl ?_|refine zH .here rfl rfl rfl rfl ?_|refine zH (.there .here) rfl rfl rfl rfl ?_|refine zH (.there (.there .here)) rfl rfl rfl rfl ?_|refine zH (.there (.there (.there .here))) rfl rfl rfl rfl ?_|refine zH (.there (.there (.there (.there .here)))) rfl rfl rfl rfl ?_)
        refine oS (ev_seql (r := decide (Lib.itoa v = s)) rfl rfl rfl) rfl ?_
        repeat (first|refine zJ rfl rfl ?_|refine jr rfl ?_|refine jn ?_|refine zM rfl rfl ?_|(refine zC rfl rfl ?_ rfl ?_;omega)|(refine zD rfl rfl ?_ rfl ?_;omega)|(refine zP rfl ?_ rfl ?_;omega)|refine zG rfl rfl rfl rfl ?_|(refine jdq rfl rfl ?_ ?_ ?_;kernel_rfl;kernel_rfl)|refine zB rfl rfl rfl (by repeat constructor) rfl ?_|refine zH .here rfl rfl rfl rfl ?_|refine zH (.there .here) rfl rfl rfl rfl ?_|refine zH (.there (.there .here)) rfl rfl rfl rfl ?_|refine zH (.there (.there (.there .here))) rfl rfl rfl rfl ?_|refine zH (.there (.there (.there (.there .here)))) rfl rfl rfl rfl ?_)
        exact J_retv (vs := [.int .i64 v, .bool (decide (Lib.itoa v = s))]) rfl (.tmp rfl (.tmp rfl .nil)) [] (fun w s => s) (PH.ler _) ⟨rfl, NumQ.yes hv (E := valD (s.drop 0)) (by rw [hn]; exact hE) (by rw [hst])⟩
end Go.Proofs.YtekdmpbkcjjllaaDoor
