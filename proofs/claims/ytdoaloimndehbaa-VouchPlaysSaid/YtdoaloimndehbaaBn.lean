/-
  The document's vouchings: both, Voters, Mask, Proved. Conditions are typed with each.
  The document's vouchings: Mask, Proved. Conditions are typed with each.
-/
import Derived.Test.YtdoaloimndehbaaBm
namespace Go.Proofs.Ytdoaloimndehbaa
open Go.RowKit
set_option maxRecDepth 100000
set_option maxHeartbeats 4000000 in
theorem hasn_spec (s org : Nat) (F : PH) (hs : s < 4294967296) (ho : org ≤ 64) : Pure Try.prog 63 [.int .u32 s, .int .i64 org] F (.bool (s.testBit org)) := by
  refine Spec.of2 Try.func63 rfl rfl fun X w0 => ?_
  repeat (first|refine zJ rfl rfl ?_|refine jr rfl ?_|refine jn ?_|refine zM rfl rfl ?_|(refine zC rfl rfl ?_ rfl ?_;omega)|(refine zD rfl rfl ?_ rfl ?_;omega)|(refine zP rfl ?_ rfl ?_;omega)|refine zG rfl rfl rfl rfl ?_|(refine jdq rfl rfl ?_ ?_ ?_;kernel_rfl;kernel_rfl)|refine zB rfl rfl rfl (by repeat constructor) rfl ?_|refine zH .here rfl rfl rfl rfl ?_|refine zH (.there .here) rfl rfl rfl rfl ?_|refine zH (.there (.there .here)) rfl rfl rfl rfl ?_)
  refine J_loop2 (fun (i : Nat) (m : Nat) => i ≤ org ∧ m < 4294967296 ∧ m.testBit (org - i) = s.testBit org) (fun i _ => org - i) (fun i m => [(0, .int .u32 m), (1, .int .i64 org), (5, .int .i64 i)]) (fun _ _ => F) (fun _ _ => X) 0 s ⟨Nat.zero_le _, hs, rfl⟩ ⟨⟨rfl, rfl, rfl, trivial⟩, fun _ s => s⟩ ?_
  rintro i m ⟨hi, hm, hb⟩
  by_cases hlt : i < org
  · repeat (first|refine zJ rfl rfl ?_|refine jr rfl ?_|refine jn ?_|refine zM rfl rfl ?_|(refine zC rfl rfl ?_ rfl ?_;omega)|(refine zD rfl rfl ?_ rfl ?_;omega)|(refine zP rfl ?_ rfl ?_;omega)|refine zG rfl rfl rfl rfl ?_|(refine jdq rfl rfl ?_ ?_ ?_;kernel_rfl;kernel_rfl)|refine zB rfl rfl rfl (by repeat constructor) rfl ?_|refine zH .here rfl rfl rfl rfl ?_|refine zH (.there .here) rfl rfl rfl rfl ?_|refine zH (.there (.there .here)) rfl rfl rfl rfl ?_)
    refine J_again2 (i + 1) (m / 2) ⟨hlt, by omega, by rw [← hb, show org - i = (org - (i + 1)) + 1 from by omega, Nat.testBit_succ]⟩ (by omega) ⟨⟨rfl, rfl, rfl, trivial⟩, fun w s => s⟩
  · obtain rfl : i = org := by omega
    rw [Nat.sub_self, Nat.testBit_zero] at hb
    rw [← hb]
    by_cases g : m % 2 = 1
    · repeat (first|refine zJ rfl rfl ?_|refine jr rfl ?_|refine jn ?_|refine zM rfl rfl ?_|(refine zC rfl rfl ?_ rfl ?_;omega)|(refine zD rfl rfl ?_ rfl ?_;omega)|(refine zP rfl ?_ rfl ?_;omega)|refine zG rfl rfl rfl rfl ?_|(refine jdq rfl rfl ?_ ?_ ?_;kernel_rfl;kernel_rfl)|refine zB rfl rfl rfl (by repeat constructor) rfl ?_|refine zH .here rfl rfl rfl rfl ?_|refine zH (.there .here) rfl rfl rfl rfl ?_|refine zH (.there (.there .here)) rfl rfl rfl rfl ?_)
      exact J_ret1 rfl rfl [] rfl (PH.ler _) ⟨by rw [decide_eq_true g], rfl⟩
    · repeat (first|refine zJ rfl rfl ?_|refine jr rfl ?_|refine jn ?_|refine zM rfl rfl ?_|(refine zC rfl rfl ?_ rfl ?_;omega)|(refine zD rfl rfl ?_ rfl ?_;omega)|(refine zP rfl ?_ rfl ?_;omega)|refine zG rfl rfl rfl rfl ?_|(refine jdq rfl rfl ?_ ?_ ?_;kernel_rfl;kernel_rfl)|refine zB rfl rfl rfl (by repeat constructor) rfl ?_|refine zH .here rfl rfl rfl rfl ?_|refine zH (.there .here) rfl rfl rfl rfl ?_|refine zH (.there (.there .here)) rfl rfl rfl rfl ?_)
      exact J_ret1 rfl rfl [] rfl (PH.ler _) ⟨by rw [decide_eq_false g], rfl⟩
theorem hasw_spec (a : W) (i : Nat) (F : PH) (hi : i ≤ 64) : Pure Try.prog 63 [w32 a, .int .i64 i] F (.bool (a.getLsbD i)) := by
  rw [← BitVec.testBit_toNat]
  exact hasn_spec a.toNat i F a.isLt hi
theorem dbl (i : Nat) (hi : i < 32) : (1#32 <<< i) * 2#32 = 1#32 <<< (i + 1) := by
  have h : ∀ i : Fin 32, (1#32 <<< i.val) * 2#32 = 1#32 <<< (i.val + 1) := by decide +kernel
  exact h ⟨i, hi⟩
/-- A sum of bits, one behind the other. -/
def Bits (o : W) (i : Nat) (f : Nat → Bool) : Prop := ∀ q, q < 32 → o.getLsbD q = (decide (q < i) && f q)
theorem Bits.zero (f : Nat → Bool) : Bits 0#32 0 f := fun q hq => by simp
theorem Bits.skip {o : W} {i : Nat} {f : Nat → Bool} (h : Bits o i f) (hf : f i = false) : Bits o (i + 1) f := fun q hq => by
  rw [h q hq]
  by_cases e : q = i
  · subst e; simp [hf]
  · congr 1
    rw [decide_eq_decide]
    omega
theorem Bits.put {o : W} {i : Nat} {f : Nat → Bool} (h : Bits o i f) (hi : i < 32) (hf : f i = true) : Bits (o + 1#32 <<< i) (i + 1) f := fun q hq => by
  have hz : o &&& (1#32 <<< i) = 0#32 := BitVec.eq_of_getLsbD_eq fun p hp => by
    rw [BitVec.getLsbD_and, h p hp, bit_one hp]
    by_cases e : p = i
    · subst e; simp
    · simp [e]
  rw [BitVec.add_eq_or_of_and_eq_zero _ _ hz, BitVec.getLsbD_or, h q hq, bit_one hq]
  by_cases e : q = i
  · subst e; simp [hf]
  · rw [decide_eq_false e, Bool.or_false]
    congr 1
    rw [decide_eq_decide]
    omega
theorem Bits.eq {o m : W} {f : Nat → Bool} (h : Bits o 32 f) (hm : ∀ q, q < 32 → m.getLsbD q = f q) : o = m := BitVec.eq_of_getLsbD_eq fun q hq => by
  rw [h q hq, decide_eq_true hq, Bool.true_and, hm q hq]
set_option maxHeartbeats 8000000 in
theorem both_spec (a b : W) (F : PH) : Pure Try.prog 62 [w32 a, w32 b] F (w32 (a ||| b)) := by
  refine Spec.of2 Try.func62 rfl rfl fun X w0 => ?_
  repeat (first|refine zJ rfl rfl ?_|refine jr rfl ?_|refine jn ?_|refine zM rfl rfl ?_|(refine zC rfl rfl ?_ rfl ?_;omega)|(refine zD rfl rfl ?_ rfl ?_;omega)|(refine zP rfl ?_ rfl ?_;omega)|refine zG rfl rfl rfl rfl ?_|(refine jdq rfl rfl ?_ ?_ ?_;kernel_rfl;kernel_rfl)|refine zB rfl rfl rfl (by repeat constructor) rfl ?_|refine zH .here rfl rfl rfl rfl ?_|refine zH (.there .here) rfl rfl rfl rfl ?_|refine zH (.there (.there .here)) rfl rfl rfl rfl ?_)
  refine J_loop2 (fun (i : Nat) (o : W) => i ≤ 32 ∧ Bits o i (a ||| b).getLsbD) (fun i _ => 32 - i) (fun i o => [(0, w32 a), (1, w32 b), (5, w32 o), (6, w32 (1#32 <<< i)), (7, .int .i64 i)]) (fun _ _ => F) (fun _ _ => X) 0 0#32 ⟨Nat.zero_le _, Bits.zero _⟩ ⟨⟨rfl, rfl, rfl, rfl, rfl, trivial⟩, fun _ s => s⟩ ?_
  rintro i o ⟨hi, ho⟩
  by_cases hlt : i < 32
  · have hor : (a ||| b).getLsbD i = (a.getLsbD i || b.getLsbD i) := BitVec.getLsbD_or
    have hd := dbl i hlt
    repeat (first|refine zJ rfl rfl ?_|refine jr rfl ?_|refine jn ?_|refine zM rfl rfl ?_|(refine zC rfl rfl ?_ rfl ?_;omega)|(refine zD rfl rfl ?_ rfl ?_;omega)|(refine zP rfl ?_ rfl ?_;omega)|refine zG rfl rfl rfl rfl ?_|(refine jdq rfl rfl ?_ ?_ ?_;kernel_rfl;kernel_rfl)|refine zB rfl rfl rfl (by repeat constructor) rfl ?_|refine zH .here rfl rfl rfl rfl ?_|refine zH (.there .here) rfl rfl rfl rfl ?_|refine zH (.there (.there .here)) rfl rfl rfl rfl ?_)
    refine oP (hasw_spec a i F (by omega)) Try.call63 rfl rfl ?_
    cases ha : a.getLsbD i with
    | true =>
      rw [ha, Bool.true_or] at hor
      repeat (first|refine zJ rfl rfl ?_|refine jr rfl ?_|refine jn ?_|refine zM rfl rfl ?_|(refine zC rfl rfl ?_ rfl ?_;omega)|(refine zD rfl rfl ?_ rfl ?_;omega)|(refine zP rfl ?_ rfl ?_;omega)|refine zG rfl rfl rfl rfl ?_|(refine jdq rfl rfl ?_ ?_ ?_;kernel_rfl;kernel_rfl)|refine zB rfl rfl rfl (by repeat constructor) rfl ?_|refine zH .here rfl rfl rfl rfl ?_|refine zH (.there .here) rfl rfl rfl rfl ?_|refine zH (.there (.there .here)) rfl rfl rfl rfl ?_)
      refine oS (eu rfl rfl rfl) rfl ?_
      repeat (first|refine zJ rfl rfl ?_|refine jr rfl ?_|refine jn ?_|refine zM rfl rfl ?_|(refine zC rfl rfl ?_ rfl ?_;omega)|(refine zD rfl rfl ?_ rfl ?_;omega)|(refine zP rfl ?_ rfl ?_;omega)|refine zG rfl rfl rfl rfl ?_|(refine jdq rfl rfl ?_ ?_ ?_;kernel_rfl;kernel_rfl)|refine zB rfl rfl rfl (by repeat constructor) rfl ?_|refine zH .here rfl rfl rfl rfl ?_|refine zH (.there .here) rfl rfl rfl rfl ?_|refine zH (.there (.there .here)) rfl rfl rfl rfl ?_)
      refine oS (eu (b := 2#32) rfl rfl rfl) rfl ?_
      rw [hd]
      repeat (first|refine zJ rfl rfl ?_|refine jr rfl ?_|refine jn ?_|refine zM rfl rfl ?_|(refine zC rfl rfl ?_ rfl ?_;omega)|(refine zD rfl rfl ?_ rfl ?_;omega)|(refine zP rfl ?_ rfl ?_;omega)|refine zG rfl rfl rfl rfl ?_|(refine jdq rfl rfl ?_ ?_ ?_;kernel_rfl;kernel_rfl)|refine zB rfl rfl rfl (by repeat constructor) rfl ?_|refine zH .here rfl rfl rfl rfl ?_|refine zH (.there .here) rfl rfl rfl rfl ?_|refine zH (.there (.there .here)) rfl rfl rfl rfl ?_)
      exact J_again2 (i + 1) (o + 1#32 <<< i) ⟨hlt, ho.put hlt hor⟩ (by omega) ⟨⟨rfl, rfl, rfl, rfl, rfl, trivial⟩, fun w s => s⟩
    | false =>
      rw [ha, Bool.false_or] at hor
      repeat (first|refine zJ rfl rfl ?_|refine jr rfl ?_|refine jn ?_|refine zM rfl rfl ?_|(refine zC rfl rfl ?_ rfl ?_;omega)|(refine zD rfl rfl ?_ rfl ?_;omega)|(refine zP rfl ?_ rfl ?_;omega)|refine zG rfl rfl rfl rfl ?_|(refine jdq rfl rfl ?_ ?_ ?_;kernel_rfl;kernel_rfl)|refine zB rfl rfl rfl (by repeat constructor) rfl ?_|refine zH .here rfl rfl rfl rfl ?_|refine zH (.there .here) rfl rfl rfl rfl ?_|refine zH (.there (.there .here)) rfl rfl rfl rfl ?_)
      refine oP (hasw_spec b i F (by omega)) Try.call63 rfl rfl ?_
      cases hb : b.getLsbD i with
      | true =>
        rw [hb] at hor
        repeat (first|refine zJ rfl rfl ?_|refine jr rfl ?_|refine jn ?_|refine zM rfl rfl ?_|(refine zC rfl rfl ?_ rfl ?_;omega)|(refine zD rfl rfl ?_ rfl ?_;omega)|(refine zP rfl ?_ rfl ?_;omega)|refine zG rfl rfl rfl rfl ?_|(refine jdq rfl rfl ?_ ?_ ?_;kernel_rfl;kernel_rfl)|refine zB rfl rfl rfl (by repeat constructor) rfl ?_|refine zH .here rfl rfl rfl rfl ?_|refine zH (.there .here) rfl rfl rfl rfl ?_|refine zH (.there (.there .here)) rfl rfl rfl rfl ?_)
        refine oS (eu rfl rfl rfl) rfl ?_
        repeat (first|refine zJ rfl rfl ?_|refine jr rfl ?_|refine jn ?_|refine zM rfl rfl ?_|(refine zC rfl rfl ?_ rfl ?_;omega)|(refine zD rfl rfl ?_ rfl ?_;omega)|(refine zP rfl ?_ rfl ?_;omega)|refine zG rfl rfl rfl rfl ?_|(refine jdq rfl rfl ?_ ?_ ?_;kernel_rfl;kernel_rfl)|refine zB rfl rfl rfl (by repeat constructor) rfl ?_|refine zH .here rfl rfl rfl rfl ?_|refine zH (.there .here) rfl rfl rfl rfl ?_|refine zH (.there (.there .here)) rfl rfl rfl rfl ?_)
        refine oS (eu (b := 2#32) rfl rfl rfl) rfl ?_
        rw [hd]
        repeat (first|refine zJ rfl rfl ?_|refine jr rfl ?_|refine jn ?_|refine zM rfl rfl ?_|(refine zC rfl rfl ?_ rfl ?_;omega)|(refine zD rfl rfl ?_ rfl ?_;omega)|(refine zP rfl ?_ rfl ?_;omega)|refine zG rfl rfl rfl rfl ?_|(refine jdq rfl rfl ?_ ?_ ?_;kernel_rfl;kernel_rfl)|refine zB rfl rfl rfl (by repeat constructor) rfl ?_|refine zH .here rfl rfl rfl rfl ?_|refine zH (.there .here) rfl rfl rfl rfl ?_|refine zH (.there (.there .here)) rfl rfl rfl rfl ?_)
        exact J_again2 (i + 1) (o + 1#32 <<< i) ⟨hlt, ho.put hlt hor⟩ (by omega) ⟨⟨rfl, rfl, rfl, rfl, rfl, trivial⟩, fun w s => s⟩
      | false =>
        rw [hb] at hor
        repeat (first|refine zJ rfl rfl ?_|refine jr rfl ?_|refine jn ?_|refine zM rfl rfl ?_|(refine zC rfl rfl ?_ rfl ?_;omega)|(refine zD rfl rfl ?_ rfl ?_;omega)|(refine zP rfl ?_ rfl ?_;omega)|refine zG rfl rfl rfl rfl ?_|(refine jdq rfl rfl ?_ ?_ ?_;kernel_rfl;kernel_rfl)|refine zB rfl rfl rfl (by repeat constructor) rfl ?_|refine zH .here rfl rfl rfl rfl ?_|refine zH (.there .here) rfl rfl rfl rfl ?_|refine zH (.there (.there .here)) rfl rfl rfl rfl ?_)
        refine oS (eu (b := 2#32) rfl rfl rfl) rfl ?_
        rw [hd]
        repeat (first|refine zJ rfl rfl ?_|refine jr rfl ?_|refine jn ?_|refine zM rfl rfl ?_|(refine zC rfl rfl ?_ rfl ?_;omega)|(refine zD rfl rfl ?_ rfl ?_;omega)|(refine zP rfl ?_ rfl ?_;omega)|refine zG rfl rfl rfl rfl ?_|(refine jdq rfl rfl ?_ ?_ ?_;kernel_rfl;kernel_rfl)|refine zB rfl rfl rfl (by repeat constructor) rfl ?_|refine zH .here rfl rfl rfl rfl ?_|refine zH (.there .here) rfl rfl rfl rfl ?_|refine zH (.there (.there .here)) rfl rfl rfl rfl ?_)
        exact J_again2 (i + 1) o ⟨hlt, ho.skip hor⟩ (by omega) ⟨⟨rfl, rfl, rfl, rfl, rfl, trivial⟩, fun w s => s⟩
  · obtain rfl : i = 32 := by omega
    rw [ho.eq fun _ _ => rfl]
    repeat (first|refine zJ rfl rfl ?_|refine jr rfl ?_|refine jn ?_|refine zM rfl rfl ?_|(refine zC rfl rfl ?_ rfl ?_;omega)|(refine zD rfl rfl ?_ rfl ?_;omega)|(refine zP rfl ?_ rfl ?_;omega)|refine zG rfl rfl rfl rfl ?_|(refine jdq rfl rfl ?_ ?_ ?_;kernel_rfl;kernel_rfl)|refine zB rfl rfl rfl (by repeat constructor) rfl ?_|refine zH .here rfl rfl rfl rfl ?_|refine zH (.there .here) rfl rfl rfl rfl ?_|refine zH (.there (.there .here)) rfl rfl rfl rfl ?_)
    exact J_retv rfl (.tmp rfl .nil) [] (fun w s => s) (PH.ler _) ⟨rfl, rfl⟩
/-! voters -/
def votB (c s : Int) (d : Dg) (o : Ax) : Bool := decide (o.2.c = c) && (decide (o.2.s = s) && decide (o.2.d = d))
def votR (R : List Ax) (c s : Int) (d : Dg) : List Vo := (R.filter (votB c s d)).map (·.2)
theorem votR_len (R : List Ax) (c s : Int) (d : Dg) : (votR R c s d).length ≤ R.length := by
  unfold votR
  rw [List.length_map]
  exact List.length_filter_le _ _
theorem votR_snoc (R : List Ax) (o : Ax) (c s : Int) (d : Dg) : votR (R ++ [o]) c s d = votR R c s d ++ (if votB c s d o then [o.2] else []) := by
  unfold votR
  rw [List.filter_append, List.map_append]
  congr 1
  cases h : votB c s d o <;> simp [h]
set_option maxHeartbeats 16000000 in
theorem voters_spec (br : Nat) (n c s : Int) (d : Dg) (lv : Value) (R : List Ax) (F : PH) (hr : RF F br n lv R) (hn : R.length ≤ 300) :
    Spec Try.prog 38 [pT br, .int .i64 c, .int .i64 s, d.v] F [] fun u F' H' => H' = [] ∧ VR F' u (votR R c s d) := by
  refine Spec.of4 Try.func38 rfl rfl fun X w0 => ?_
  refine jc rfl rfl ?_
  refine jr rfl ?_
  refine oE (ev_box rfl .agg) rfl ?_; rintro _ _ _ _ ⟨rfl, b7, rfl, rfl⟩
  obtain ⟨a, cc, rfl, hcc⟩ := hr.row.form
  repeat (first|refine zJ rfl rfl ?_|refine jr rfl ?_|refine jn ?_|refine zM rfl rfl ?_|(refine zC rfl rfl ?_ rfl ?_;omega)|(refine zD rfl rfl ?_ rfl ?_;omega)|(refine zP rfl ?_ rfl ?_;omega)|refine zG rfl rfl rfl rfl ?_|(refine jdq rfl rfl ?_ ?_ ?_;kernel_rfl;kernel_rfl)|refine zB rfl rfl rfl (by repeat constructor) rfl ?_|refine zH .here rfl rfl rfl rfl ?_|refine zH (.there .here) rfl rfl rfl rfl ?_|refine zH (.there (.there .here)) rfl rfl rfl rfl ?_)
  refine oS (ev_load (v := .slice a R.length cc) rfl rfl (Rdb.ofF (cells_at hr.blk 1 rfl))) rfl ?_
  repeat (first|refine zJ rfl rfl ?_|refine jr rfl ?_|refine jn ?_|refine zM rfl rfl ?_|(refine zC rfl rfl ?_ rfl ?_;omega)|(refine zD rfl rfl ?_ rfl ?_;omega)|(refine zP rfl ?_ rfl ?_;omega)|refine zG rfl rfl rfl rfl ?_|(refine jdq rfl rfl ?_ ?_ ?_;kernel_rfl;kernel_rfl)|refine zB rfl rfl rfl (by repeat constructor) rfl ?_|refine zH .here rfl rfl rfl rfl ?_|refine zH (.there .here) rfl rfl rfl rfl ?_|refine zH (.there (.there .here)) rfl rfl rfl rfl ?_)
  refine J_weak (F' := F) (H' := own (.slice none 0 0) 72 35 (votR (R.take 0) c s d).length (vCs (votR (R.take 0) c s d)) :: blk b7 29 (u8s d.1) :: X) ?_ (fun w s => s.nilOwn _ _)
  refine J_loop2 (fun (j : Nat) (v : Value) => j ≤ R.length) (fun j _ => R.length - j) (fun j v => [(1, .int .i64 c), (2, .int .i64 s), (7, .pointer (some ⟨b7, 0, none⟩)), (9, v), (15, .slice a R.length cc), (16, .int .i64 R.length), (17, .int .i64 j)]) (fun _ _ => F) (fun j v => own v 72 35 (votR (R.take j) c s d).length (vCs (votR (R.take j) c s d)) :: blk b7 29 (u8s d.1) :: X) 0 (.slice none 0 0) (Nat.zero_le _) ⟨⟨rfl, rfl, rfl, rfl, rfl, rfl, rfl, trivial⟩, fun _ s => s⟩ ?_
  rintro j v hj
  by_cases hlt : j < R.length
  rotate_left
  · obtain rfl : j = R.length := by omega
    rw [List.take_length]
    repeat (first|refine zJ rfl rfl ?_|refine jr rfl ?_|refine jn ?_|refine zM rfl rfl ?_|(refine zC rfl rfl ?_ rfl ?_;omega)|(refine zD rfl rfl ?_ rfl ?_;omega)|(refine zP rfl ?_ rfl ?_;omega)|refine zG rfl rfl rfl rfl ?_|(refine jdq rfl rfl ?_ ?_ ?_;kernel_rfl;kernel_rfl)|refine zB rfl rfl rfl (by repeat constructor) rfl ?_|refine zH .here rfl rfl rfl rfl ?_|refine zH (.there .here) rfl rfl rfl rfl ?_|refine zH (.there (.there .here)) rfl rfl rfl rfl ?_)
    refine J_persist fun hh hA hd => ?_
    exact J_retv rfl (.tmp rfl .nil) [] (fun w s => s.drop) (PH.le_l _ _) ⟨rfl, own_slice hA hd⟩
  have hg : R[j]? = some R[j] := List.getElem?_eq_getElem hlt
  obtain ⟨b1, o1, rfl, hc1, _⟩ := hr.row.at hg
  have hsn := votR_snoc (R.take j) R[j] c s d
  have htk : R.take (j + 1) = R.take j ++ [R[j]] := by rw [List.take_add_one, hg]; rfl
  rw [← htk] at hsn
  have hll := votR_len (R.take j) c s d
  rw [List.length_take] at hll
  generalize R[j] = o at *
  repeat (first|refine zJ rfl rfl ?_|refine jr rfl ?_|refine jn ?_|refine zM rfl rfl ?_|(refine zC rfl rfl ?_ rfl ?_;omega)|(refine zD rfl rfl ?_ rfl ?_;omega)|(refine zP rfl ?_ rfl ?_;omega)|refine zG rfl rfl rfl rfl ?_|(refine jdq rfl rfl ?_ ?_ ?_;kernel_rfl;kernel_rfl)|refine zB rfl rfl rfl (by repeat constructor) rfl ?_|refine zH .here rfl rfl rfl rfl ?_|refine zH (.there .here) rfl rfl rfl rfl ?_|refine zH (.there (.there .here)) rfl rfl rfl rfl ?_)
  refine oS (ev_indexAddr rfl rfl rfl hlt) rfl ?_
  refine oS (ev_load_agg (n := 36) rfl rfl (Rdb.ofF hc1) (oCs1_len o)) rfl ?_
  refine oE (ev_alloc (cs := zOne) rfl) rfl ?_
  rintro _ _ _ _ ⟨rfl, b11, rfl, rfl⟩
  refine oN (ev_store rfl rfl .agg rfl (oCs1_len o) (lay_all (zs := zOne) (by rw [oCs1_len]; rfl)) (oCs1_ones o) .here) rfl ?_
  rintro _ _ _ _ ⟨rfl, _, rfl⟩
  have hno : votB c s d o = false → votR (R.take (j + 1)) c s d = votR (R.take j) c s d := fun h => by rw [hsn, h, if_neg (by decide), List.append_nil]
  by_cases h1 : o.2.c = c
  rotate_left
  · have hs := hno (by unfold votB; rw [decide_eq_false h1, Bool.false_and])
    repeat (first|refine zJ rfl rfl ?_|refine jr rfl ?_|refine jn ?_|refine zM rfl rfl ?_|(refine zC rfl rfl ?_ rfl ?_;omega)|(refine zD rfl rfl ?_ rfl ?_;omega)|(refine zP rfl ?_ rfl ?_;omega)|refine zG rfl rfl rfl rfl ?_|(refine jdq rfl rfl ?_ ?_ ?_;kernel_rfl;kernel_rfl)|refine zB rfl rfl rfl (by repeat constructor) rfl ?_|refine zH .here rfl rfl rfl rfl ?_|refine zH (.there .here) rfl rfl rfl rfl ?_|refine zH (.there (.there .here)) rfl rfl rfl rfl ?_)
    exact J_again2 (j + 1) v hlt (by omega) ⟨⟨rfl, rfl, rfl, rfl, rfl, rfl, rfl, trivial⟩, fun w t => by rw [hs]; exact t.drop⟩
  by_cases h2 : o.2.s = s
  rotate_left
  · have hs := hno (by unfold votB; rw [decide_eq_false h2, Bool.false_and, Bool.and_false])
    repeat (first|refine zJ rfl rfl ?_|refine jr rfl ?_|refine jn ?_|refine zM rfl rfl ?_|(refine zC rfl rfl ?_ rfl ?_;omega)|(refine zD rfl rfl ?_ rfl ?_;omega)|(refine zP rfl ?_ rfl ?_;omega)|refine zG rfl rfl rfl rfl ?_|(refine jdq rfl rfl ?_ ?_ ?_;kernel_rfl;kernel_rfl)|refine zB rfl rfl rfl (by repeat constructor) rfl ?_|refine zH .here rfl rfl rfl rfl ?_|refine zH (.there .here) rfl rfl rfl rfl ?_|refine zH (.there (.there .here)) rfl rfl rfl rfl ?_)
    exact J_again2 (j + 1) v hlt (by omega) ⟨⟨rfl, rfl, rfl, rfl, rfl, rfl, rfl, trivial⟩, fun w t => by rw [hs]; exact t.drop⟩
  repeat (first|refine zJ rfl rfl ?_|refine jr rfl ?_|refine jn ?_|refine zM rfl rfl ?_|(refine zC rfl rfl ?_ rfl ?_;omega)|(refine zD rfl rfl ?_ rfl ?_;omega)|(refine zP rfl ?_ rfl ?_;omega)|refine zG rfl rfl rfl rfl ?_|(refine jdq rfl rfl ?_ ?_ ?_;kernel_rfl;kernel_rfl)|refine zB rfl rfl rfl (by repeat constructor) rfl ?_|refine zH .here rfl rfl rfl rfl ?_|refine zH (.there .here) rfl rfl rfl rfl ?_|refine zH (.there (.there .here)) rfl rfl rfl rfl ?_)
  refine oS (ev_ldD (d := o.2.d) .here rfl (dg_at3 _ _ _ _ _)) rfl ?_
  refine oS (ev_ldD (d := d) (.there (.there .here)) rfl (by rw [List.drop_zero, List.take_length])) rfl ?_
  refine oS (ev_eqD rfl rfl) rfl ?_
  by_cases h3 : o.2.d = d
  rotate_left
  · have hs := hno (by unfold votB; rw [decide_eq_false h3, Bool.and_false, Bool.and_false])
    rw [decide_eq_false h3]
    repeat (first|refine zJ rfl rfl ?_|refine jr rfl ?_|refine jn ?_|refine zM rfl rfl ?_|(refine zC rfl rfl ?_ rfl ?_;omega)|(refine zD rfl rfl ?_ rfl ?_;omega)|(refine zP rfl ?_ rfl ?_;omega)|refine zG rfl rfl rfl rfl ?_|(refine jdq rfl rfl ?_ ?_ ?_;kernel_rfl;kernel_rfl)|refine zB rfl rfl rfl (by repeat constructor) rfl ?_|refine zH .here rfl rfl rfl rfl ?_|refine zH (.there .here) rfl rfl rfl rfl ?_|refine zH (.there (.there .here)) rfl rfl rfl rfl ?_)
    exact J_again2 (j + 1) v hlt (by omega) ⟨⟨rfl, rfl, rfl, rfl, rfl, rfl, rfl, trivial⟩, fun w t => by rw [hs]; exact t.drop⟩
  rw [if_pos (by unfold votB; rw [decide_eq_true h1, decide_eq_true h2, decide_eq_true h3]; rfl)] at hsn
  rw [decide_eq_true h3]
  repeat (first|refine zJ rfl rfl ?_|refine jr rfl ?_|refine jn ?_|refine zM rfl rfl ?_|(refine zC rfl rfl ?_ rfl ?_;omega)|(refine zD rfl rfl ?_ rfl ?_;omega)|(refine zP rfl ?_ rfl ?_;omega)|refine zG rfl rfl rfl rfl ?_|(refine jdq rfl rfl ?_ ?_ ?_;kernel_rfl;kernel_rfl)|refine zB rfl rfl rfl (by repeat constructor) rfl ?_|refine zH .here rfl rfl rfl rfl ?_|refine zH (.there .here) rfl rfl rfl rfl ?_|refine zH (.there (.there .here)) rfl rfl rfl rfl ?_)
  refine oS (ev_load_agg (cs := o.2.cs) rfl rfl (Rdb.ofB (n := 0) .here (vo_at1 o)) o.2.len) rfl ?_
  refine oA (size := 35) (bytes := 56) (vs := o.2.cs) (n := (votR (R.take j) c s d).length) (xs := vCs (votR (R.take j) c s d)) (fun _ => rfl) rfl .agg o.2.len elVo o.2.ones (by omega) (fun v' => .there .here) rfl (fun _ => rfl) fun u w => ?_
  repeat (first|refine zJ rfl rfl ?_|refine jr rfl ?_|refine jn ?_|refine zM rfl rfl ?_|(refine zC rfl rfl ?_ rfl ?_;omega)|(refine zD rfl rfl ?_ rfl ?_;omega)|(refine zP rfl ?_ rfl ?_;omega)|refine zG rfl rfl rfl rfl ?_|(refine jdq rfl rfl ?_ ?_ ?_;kernel_rfl;kernel_rfl)|refine zB rfl rfl rfl (by repeat constructor) rfl ?_|refine zH .here rfl rfl rfl rfl ?_|refine zH (.there .here) rfl rfl rfl rfl ?_|refine zH (.there (.there .here)) rfl rfl rfl rfl ?_)
  refine J_again2 (j + 1) u hlt (by omega) ⟨⟨rfl, rfl, rfl, rfl, rfl, rfl, rfl, trivial⟩, fun w t => ?_⟩
  rw [hsn, vCs_app, List.length_append]
  have : vCs [o.2] = o.2.cs := by simp [vCs]
  rw [this]
  exact t.drop
end Go.Proofs.Ytdoaloimndehbaa
namespace Go.Proofs.Ytdoaloimndehbaa
open Go.RowKit
set_option maxRecDepth 100000
abbrev msR (R : List Ax) (c s : Int) (d : Dg) : List W := (votR R c s d).map (·.m)
set_option maxHeartbeats 16000000 in
theorem rmask_spec (br : Nat) (n c s at_ : Int) (d : Dg) (lv : Value) (R : List Ax) (F : PH) (hr : RF F br n lv R) (hn : R.length ≤ 300) :
    Pure Try.prog 39 [pT br, .int .i64 c, .int .i64 s, d.v, .int .i64 at_] F (w32 (maskP (msR R c s d) at_)) := by
  refine Spec.of5 Try.func39 rfl rfl fun X w0 => ?_
  refine jc rfl rfl ?_
  refine jr rfl ?_
  refine oE (ev_box rfl .agg) rfl ?_; rintro _ _ _ _ ⟨rfl, b8, rfl, rfl⟩
  have hvl := votR_len R c s d
  repeat (first|refine zJ rfl rfl ?_|refine jr rfl ?_|refine jn ?_|refine zM rfl rfl ?_|(refine zC rfl rfl ?_ rfl ?_;omega)|(refine zD rfl rfl ?_ rfl ?_;omega)|(refine zP rfl ?_ rfl ?_;omega)|refine zG rfl rfl rfl rfl ?_|(refine jdq rfl rfl ?_ ?_ ?_;kernel_rfl;kernel_rfl)|refine zB rfl rfl rfl (by repeat constructor) rfl ?_|refine zH .here rfl rfl rfl rfl ?_|refine zH (.there .here) rfl rfl rfl rfl ?_|refine zH (.there (.there .here)) rfl rfl rfl rfl ?_)
  refine J_loop3 (fun (i : Nat) (G : PH) (o : W) => i ≤ 32 ∧ F.le G ∧ Bits o i (bitAt (msR R c s d) at_)) (fun i _ _ => 32 - i) (fun i _ o => [(0, pT br), (1, .int .i64 c), (2, .int .i64 s), (4, .int .i64 at_), (8, .pointer (some ⟨b8, 0, none⟩)), (11, w32 o), (12, w32 (1#32 <<< i)), (13, .int .i64 i)]) (fun _ G _ => G) (fun _ _ _ => blk b8 29 (u8s d.1) :: X) 0 F 0#32 ⟨Nat.zero_le _, PH.ler _, Bits.zero _⟩ ⟨⟨rfl, rfl, rfl, rfl, rfl, rfl, rfl, rfl, trivial⟩, fun _ s => s⟩ ?_
  rintro i G o ⟨hi, hG, ho⟩
  by_cases hlt : i < 32
  rotate_left
  · obtain rfl : i = 32 := by omega
    rw [ho.eq fun q hq => maskP_bit _ _ hq]
    repeat (first|refine zJ rfl rfl ?_|refine jr rfl ?_|refine jn ?_|refine zM rfl rfl ?_|(refine zC rfl rfl ?_ rfl ?_;omega)|(refine zD rfl rfl ?_ rfl ?_;omega)|(refine zP rfl ?_ rfl ?_;omega)|refine zG rfl rfl rfl rfl ?_|(refine jdq rfl rfl ?_ ?_ ?_;kernel_rfl;kernel_rfl)|refine zB rfl rfl rfl (by repeat constructor) rfl ?_|refine zH .here rfl rfl rfl rfl ?_|refine zH (.there .here) rfl rfl rfl rfl ?_|refine zH (.there (.there .here)) rfl rfl rfl rfl ?_)
    exact J_retv rfl (.tmp rfl .nil) [] (fun w s => s.drop) hG ⟨rfl, rfl⟩
  have hd := dbl i hlt
  repeat (first|refine zJ rfl rfl ?_|refine jr rfl ?_|refine jn ?_|refine zM rfl rfl ?_|(refine zC rfl rfl ?_ rfl ?_;omega)|(refine zD rfl rfl ?_ rfl ?_;omega)|(refine zP rfl ?_ rfl ?_;omega)|refine zG rfl rfl rfl rfl ?_|(refine jdq rfl rfl ?_ ?_ ?_;kernel_rfl;kernel_rfl)|refine zB rfl rfl rfl (by repeat constructor) rfl ?_|refine zH .here rfl rfl rfl rfl ?_|refine zH (.there .here) rfl rfl rfl rfl ?_|refine zH (.there (.there .here)) rfl rfl rfl rfl ?_)
  refine oS (ev_ldD (d := d) .here rfl (by rw [List.drop_zero, List.take_length])) rfl ?_
  refine oC (Hc := []) (Hr := blk b8 29 (u8s d.1) :: X) (voters_spec br n c s d lv R G (hr.mono hG) hn) Try.call38 rfl rfl (fun _ s => s) ?_
  rintro u G1 _ hG1 ⟨rfl, hv⟩
  obtain ⟨a, cc, rfl, hcc⟩ := hv.form
  have hms : msR R c s d = (votR R c s d).map (·.m) := rfl
  rw [hms] at ho ⊢
  generalize votR R c s d = vs at *
  repeat (first|refine zJ rfl rfl ?_|refine jr rfl ?_|refine jn ?_|refine zM rfl rfl ?_|(refine zC rfl rfl ?_ rfl ?_;omega)|(refine zD rfl rfl ?_ rfl ?_;omega)|(refine zP rfl ?_ rfl ?_;omega)|refine zG rfl rfl rfl rfl ?_|(refine jdq rfl rfl ?_ ?_ ?_;kernel_rfl;kernel_rfl)|refine zB rfl rfl rfl (by repeat constructor) rfl ?_|refine zH .here rfl rfl rfl rfl ?_|refine zH (.there .here) rfl rfl rfl rfl ?_|refine zH (.there (.there .here)) rfl rfl rfl rfl ?_)
  refine J_loop (ι := Nat) (fun j => j ≤ vs.length) (fun j => vs.length - j) (fun j => [(0, pT br), (1, .int .i64 c), (2, .int .i64 s), (4, .int .i64 at_), (8, .pointer (some ⟨b8, 0, none⟩)), (11, w32 o), (12, w32 (1#32 <<< i)), (13, .int .i64 i), (14, .int .i64 (cntW ((vs.take j).map (·.m)) i)), (25, .slice a vs.length cc), (26, .int .i64 vs.length), (27, .int .i64 j)]) (fun _ => G1) (fun _ => blk b8 29 (u8s d.1) :: X) 0 (Nat.zero_le _) ⟨⟨rfl, rfl, rfl, rfl, rfl, rfl, rfl, rfl, rfl, rfl, rfl, rfl, trivial⟩, fun _ s => s⟩ ?_
  intro j hj
  by_cases hjl : j < vs.length
  · have hg : vs[j]? = some vs[j] := List.getElem?_eq_getElem hjl
    obtain ⟨b1, o1, rfl, hc1, _⟩ := hv.at hg
    have hsn : (vs.take (j + 1)).map (·.m) = (vs.take j).map (·.m) ++ [vs[j].m] := by rw [List.take_add_one, hg, Option.toList_some, List.map_append]; rfl
    have hcn : cntW ((vs.take (j + 1)).map (·.m)) i = cntW ((vs.take j).map (·.m)) i + (if vs[j].m.getLsbD i then 1 else 0) := by
      rw [hsn]; unfold cntW; rw [List.countP_append, List.countP_cons, List.countP_nil, Nat.zero_add]
    have hcl : cntW ((vs.take j).map (·.m)) i ≤ j := by
      have := List.countP_le_length (p := (·.getLsbD i)) (l := (vs.take j).map (·.m))
      rw [List.length_map, List.length_take] at this
      unfold cntW
      omega
    generalize vs[j] = y at *
    repeat (first|refine zJ rfl rfl ?_|refine jr rfl ?_|refine jn ?_|refine zM rfl rfl ?_|(refine zC rfl rfl ?_ rfl ?_;omega)|(refine zD rfl rfl ?_ rfl ?_;omega)|(refine zP rfl ?_ rfl ?_;omega)|refine zG rfl rfl rfl rfl ?_|(refine jdq rfl rfl ?_ ?_ ?_;kernel_rfl;kernel_rfl)|refine zB rfl rfl rfl (by repeat constructor) rfl ?_|refine zH .here rfl rfl rfl rfl ?_|refine zH (.there .here) rfl rfl rfl rfl ?_|refine zH (.there (.there .here)) rfl rfl rfl rfl ?_)
    refine oS (ev_indexAddr rfl rfl rfl hjl) rfl ?_
    refine oS (ev_load_agg (n := 35) rfl rfl (Rdb.ofF hc1) y.len) rfl ?_
    refine oE (ev_alloc (cs := zVoC) rfl) rfl ?_
    rintro _ _ _ _ ⟨rfl, b16, rfl, rfl⟩
    refine oN (ev_store rfl rfl .agg rfl y.len (lay_all (zs := zVoC) (by rw [y.len]; rfl)) y.ones .here) rfl ?_
    rintro _ _ _ _ ⟨rfl, _, rfl⟩
    repeat (first|refine zJ rfl rfl ?_|refine jr rfl ?_|refine jn ?_|refine zM rfl rfl ?_|(refine zC rfl rfl ?_ rfl ?_;omega)|(refine zD rfl rfl ?_ rfl ?_;omega)|(refine zP rfl ?_ rfl ?_;omega)|refine zG rfl rfl rfl rfl ?_|(refine jdq rfl rfl ?_ ?_ ?_;kernel_rfl;kernel_rfl)|refine zB rfl rfl rfl (by repeat constructor) rfl ?_|refine zH .here rfl rfl rfl rfl ?_|refine zH (.there .here) rfl rfl rfl rfl ?_|refine zH (.there (.there .here)) rfl rfl rfl rfl ?_)
    refine oS (ev_load (v := w32 y.m) rfl rfl (Rdb.ofB (n := 0) .here (mk_at2 _ _ _ _))) rfl ?_
    repeat (first|refine zJ rfl rfl ?_|refine jr rfl ?_|refine jn ?_|refine zM rfl rfl ?_|(refine zC rfl rfl ?_ rfl ?_;omega)|(refine zD rfl rfl ?_ rfl ?_;omega)|(refine zP rfl ?_ rfl ?_;omega)|refine zG rfl rfl rfl rfl ?_|(refine jdq rfl rfl ?_ ?_ ?_;kernel_rfl;kernel_rfl)|refine zB rfl rfl rfl (by repeat constructor) rfl ?_|refine zH .here rfl rfl rfl rfl ?_|refine zH (.there .here) rfl rfl rfl rfl ?_|refine zH (.there (.there .here)) rfl rfl rfl rfl ?_)
    refine oP (hasw_spec y.m i G1 (by omega)) Try.call63 rfl rfl ?_
    cases hb : y.m.getLsbD i with
    | true =>
      rw [hb, if_pos rfl] at hcn
      repeat (first|refine zJ rfl rfl ?_|refine jr rfl ?_|refine jn ?_|refine zM rfl rfl ?_|(refine zC rfl rfl ?_ rfl ?_;omega)|(refine zD rfl rfl ?_ rfl ?_;omega)|(refine zP rfl ?_ rfl ?_;omega)|refine zG rfl rfl rfl rfl ?_|(refine jdq rfl rfl ?_ ?_ ?_;kernel_rfl;kernel_rfl)|refine zB rfl rfl rfl (by repeat constructor) rfl ?_|refine zH .here rfl rfl rfl rfl ?_|refine zH (.there .here) rfl rfl rfl rfl ?_|refine zH (.there (.there .here)) rfl rfl rfl rfl ?_)
      refine J_again (j + 1) hjl (by omega) ⟨⟨rfl, rfl, rfl, rfl, rfl, rfl, rfl, rfl, by rw [hcn]; rfl, rfl, rfl, rfl, trivial⟩, fun w t => t.drop⟩
    | false =>
      rw [hb, if_neg (by decide), Nat.add_zero] at hcn
      repeat (first|refine zJ rfl rfl ?_|refine jr rfl ?_|refine jn ?_|refine zM rfl rfl ?_|(refine zC rfl rfl ?_ rfl ?_;omega)|(refine zD rfl rfl ?_ rfl ?_;omega)|(refine zP rfl ?_ rfl ?_;omega)|refine zG rfl rfl rfl rfl ?_|(refine jdq rfl rfl ?_ ?_ ?_;kernel_rfl;kernel_rfl)|refine zB rfl rfl rfl (by repeat constructor) rfl ?_|refine zH .here rfl rfl rfl rfl ?_|refine zH (.there .here) rfl rfl rfl rfl ?_|refine zH (.there (.there .here)) rfl rfl rfl rfl ?_)
      refine J_again (j + 1) hjl (by omega) ⟨⟨rfl, rfl, rfl, rfl, rfl, rfl, rfl, rfl, by rw [hcn]; rfl, rfl, rfl, rfl, trivial⟩, fun w t => t.drop⟩
  · obtain rfl : j = vs.length := by omega
    rw [List.take_length]
    have hbit : bitAt (vs.map (·.m)) at_ i = decide (1 ≤ at_ ∧ at_ ≤ (cntW (vs.map (·.m)) i : Int)) := rfl
    generalize cntW (vs.map (·.m)) i = cn at *
    by_cases h1 : 1 ≤ at_
    rotate_left
    · have hb := hbit.trans (decide_eq_false (fun h => h1 h.1))
      repeat (first|refine zJ rfl rfl ?_|refine jr rfl ?_|refine jn ?_|refine zM rfl rfl ?_|(refine zC rfl rfl ?_ rfl ?_;omega)|(refine zD rfl rfl ?_ rfl ?_;omega)|(refine zP rfl ?_ rfl ?_;omega)|refine zG rfl rfl rfl rfl ?_|(refine jdq rfl rfl ?_ ?_ ?_;kernel_rfl;kernel_rfl)|refine zB rfl rfl rfl (by repeat constructor) rfl ?_|refine zH .here rfl rfl rfl rfl ?_|refine zH (.there .here) rfl rfl rfl rfl ?_|refine zH (.there (.there .here)) rfl rfl rfl rfl ?_)
      refine oS (eu (b := 2#32) rfl rfl rfl) rfl ?_
      rw [hd]
      repeat (first|refine zJ rfl rfl ?_|refine jr rfl ?_|refine jn ?_|refine zM rfl rfl ?_|(refine zC rfl rfl ?_ rfl ?_;omega)|(refine zD rfl rfl ?_ rfl ?_;omega)|(refine zP rfl ?_ rfl ?_;omega)|refine zG rfl rfl rfl rfl ?_|(refine jdq rfl rfl ?_ ?_ ?_;kernel_rfl;kernel_rfl)|refine zB rfl rfl rfl (by repeat constructor) rfl ?_|refine zH .here rfl rfl rfl rfl ?_|refine zH (.there .here) rfl rfl rfl rfl ?_|refine zH (.there (.there .here)) rfl rfl rfl rfl ?_)
      exact J_again3 (i + 1) G1 o ⟨hlt, hG.trans hG1, ho.skip hb⟩ (by omega) ⟨⟨rfl, rfl, rfl, rfl, rfl, rfl, rfl, rfl, trivial⟩, fun w t => t⟩
    by_cases h2 : at_ ≤ (cn : Int)
    rotate_left
    · have hb := hbit.trans (decide_eq_false (fun h => h2 h.2))
      repeat (first|refine zJ rfl rfl ?_|refine jr rfl ?_|refine jn ?_|refine zM rfl rfl ?_|(refine zC rfl rfl ?_ rfl ?_;omega)|(refine zD rfl rfl ?_ rfl ?_;omega)|(refine zP rfl ?_ rfl ?_;omega)|refine zG rfl rfl rfl rfl ?_|(refine jdq rfl rfl ?_ ?_ ?_;kernel_rfl;kernel_rfl)|refine zB rfl rfl rfl (by repeat constructor) rfl ?_|refine zH .here rfl rfl rfl rfl ?_|refine zH (.there .here) rfl rfl rfl rfl ?_|refine zH (.there (.there .here)) rfl rfl rfl rfl ?_)
      refine oS (eu (b := 2#32) rfl rfl rfl) rfl ?_
      rw [hd]
      repeat (first|refine zJ rfl rfl ?_|refine jr rfl ?_|refine jn ?_|refine zM rfl rfl ?_|(refine zC rfl rfl ?_ rfl ?_;omega)|(refine zD rfl rfl ?_ rfl ?_;omega)|(refine zP rfl ?_ rfl ?_;omega)|refine zG rfl rfl rfl rfl ?_|(refine jdq rfl rfl ?_ ?_ ?_;kernel_rfl;kernel_rfl)|refine zB rfl rfl rfl (by repeat constructor) rfl ?_|refine zH .here rfl rfl rfl rfl ?_|refine zH (.there .here) rfl rfl rfl rfl ?_|refine zH (.there (.there .here)) rfl rfl rfl rfl ?_)
      exact J_again3 (i + 1) G1 o ⟨hlt, hG.trans hG1, ho.skip hb⟩ (by omega) ⟨⟨rfl, rfl, rfl, rfl, rfl, rfl, rfl, rfl, trivial⟩, fun w t => t⟩
    have hb := hbit.trans (decide_eq_true ⟨h1, h2⟩)
    repeat (first|refine zJ rfl rfl ?_|refine jr rfl ?_|refine jn ?_|refine zM rfl rfl ?_|(refine zC rfl rfl ?_ rfl ?_;omega)|(refine zD rfl rfl ?_ rfl ?_;omega)|(refine zP rfl ?_ rfl ?_;omega)|refine zG rfl rfl rfl rfl ?_|(refine jdq rfl rfl ?_ ?_ ?_;kernel_rfl;kernel_rfl)|refine zB rfl rfl rfl (by repeat constructor) rfl ?_|refine zH .here rfl rfl rfl rfl ?_|refine zH (.there .here) rfl rfl rfl rfl ?_|refine zH (.there (.there .here)) rfl rfl rfl rfl ?_)
    refine oS (eu rfl rfl rfl) rfl ?_
    repeat (first|refine zJ rfl rfl ?_|refine jr rfl ?_|refine jn ?_|refine zM rfl rfl ?_|(refine zC rfl rfl ?_ rfl ?_;omega)|(refine zD rfl rfl ?_ rfl ?_;omega)|(refine zP rfl ?_ rfl ?_;omega)|refine zG rfl rfl rfl rfl ?_|(refine jdq rfl rfl ?_ ?_ ?_;kernel_rfl;kernel_rfl)|refine zB rfl rfl rfl (by repeat constructor) rfl ?_|refine zH .here rfl rfl rfl rfl ?_|refine zH (.there .here) rfl rfl rfl rfl ?_|refine zH (.there (.there .here)) rfl rfl rfl rfl ?_)
    refine oS (eu (b := 2#32) rfl rfl rfl) rfl ?_
    rw [hd]
    repeat (first|refine zJ rfl rfl ?_|refine jr rfl ?_|refine jn ?_|refine zM rfl rfl ?_|(refine zC rfl rfl ?_ rfl ?_;omega)|(refine zD rfl rfl ?_ rfl ?_;omega)|(refine zP rfl ?_ rfl ?_;omega)|refine zG rfl rfl rfl rfl ?_|(refine jdq rfl rfl ?_ ?_ ?_;kernel_rfl;kernel_rfl)|refine zB rfl rfl rfl (by repeat constructor) rfl ?_|refine zH .here rfl rfl rfl rfl ?_|refine zH (.there .here) rfl rfl rfl rfl ?_|refine zH (.there (.there .here)) rfl rfl rfl rfl ?_)
    exact J_again3 (i + 1) G1 (o + 1#32 <<< i) ⟨hlt, hG.trans hG1, ho.put hlt hb⟩ (by omega) ⟨⟨rfl, rfl, rfl, rfl, rfl, rfl, rfl, rfl, trivial⟩, fun w t => t⟩
def rprovedP (R : List Ax) (c s : Int) (d : Dg) (mask : W) (at_ : Int) : Bool := decide (1 ≤ at_ ∧ at_ ≤ ((votR R c s d).length : Int) ∧ maskP (msR R c s d) at_ ||| mask = maskP (msR R c s d) at_)
theorem rproved_spec (br : Nat) (n c s at_ : Int) (d : Dg) (mask : W) (lv : Value) (R : List Ax) (F : PH) (hr : RF F br n lv R) (hn : R.length ≤ 300) :
    Pure Try.prog 40 [pT br, .int .i64 c, .int .i64 s, d.v, w32 mask, .int .i64 at_] F (.bool (rprovedP R c s d mask at_)) := by
  refine Spec.of6 Try.func40 rfl rfl fun X w0 => ?_
  refine jc rfl rfl ?_
  refine jr rfl ?_
  refine oE (ev_box rfl .agg) rfl ?_; rintro _ _ _ _ ⟨rfl, b9, rfl, rfl⟩
  have hm := rmask_spec br n c s at_ d lv R F hr hn
  have hv := voters_spec br n c s d lv R F hr hn
  unfold rprovedP
  generalize maskP (msR R c s d) at_ = hv0 at *
  generalize votR R c s d = vs at *
  by_cases h1 : 1 ≤ at_
  rotate_left
  · rw [decide_eq_false (fun h => h1 h.1)]
    repeat (first|refine zJ rfl rfl ?_|refine jr rfl ?_|refine jn ?_|refine zM rfl rfl ?_|(refine zC rfl rfl ?_ rfl ?_;omega)|(refine zD rfl rfl ?_ rfl ?_;omega)|(refine zP rfl ?_ rfl ?_;omega)|refine zG rfl rfl rfl rfl ?_|(refine jdq rfl rfl ?_ ?_ ?_;kernel_rfl;kernel_rfl)|refine zB rfl rfl rfl (by repeat constructor) rfl ?_|refine zH .here rfl rfl rfl rfl ?_|refine zH (.there .here) rfl rfl rfl rfl ?_|refine zH (.there (.there .here)) rfl rfl rfl rfl ?_)
    refine oS (ev_ldD (d := d) .here rfl (by rw [List.drop_zero, List.take_length])) rfl ?_
    repeat (first|refine zJ rfl rfl ?_|refine jr rfl ?_|refine jn ?_|refine zM rfl rfl ?_|(refine zC rfl rfl ?_ rfl ?_;omega)|(refine zD rfl rfl ?_ rfl ?_;omega)|(refine zP rfl ?_ rfl ?_;omega)|refine zG rfl rfl rfl rfl ?_|(refine jdq rfl rfl ?_ ?_ ?_;kernel_rfl;kernel_rfl)|refine zB rfl rfl rfl (by repeat constructor) rfl ?_|refine zH .here rfl rfl rfl rfl ?_|refine zH (.there .here) rfl rfl rfl rfl ?_|refine zH (.there (.there .here)) rfl rfl rfl rfl ?_)
    refine oP (hm) Try.call39 rfl rfl ?_
    repeat (first|refine zJ rfl rfl ?_|refine jr rfl ?_|refine jn ?_|refine zM rfl rfl ?_|(refine zC rfl rfl ?_ rfl ?_;omega)|(refine zD rfl rfl ?_ rfl ?_;omega)|(refine zP rfl ?_ rfl ?_;omega)|refine zG rfl rfl rfl rfl ?_|(refine jdq rfl rfl ?_ ?_ ?_;kernel_rfl;kernel_rfl)|refine zB rfl rfl rfl (by repeat constructor) rfl ?_|refine zH .here rfl rfl rfl rfl ?_|refine zH (.there .here) rfl rfl rfl rfl ?_|refine zH (.there (.there .here)) rfl rfl rfl rfl ?_)
    exact J_retv rfl (.tmp rfl .nil) [] (fun w s => s.drop) (PH.ler _) ⟨rfl, rfl⟩
  by_cases h2 : at_ ≤ (vs.length : Int)
  rotate_left
  · rw [decide_eq_false (fun h => h2 h.2.1)]
    repeat (first|refine zJ rfl rfl ?_|refine jr rfl ?_|refine jn ?_|refine zM rfl rfl ?_|(refine zC rfl rfl ?_ rfl ?_;omega)|(refine zD rfl rfl ?_ rfl ?_;omega)|(refine zP rfl ?_ rfl ?_;omega)|refine zG rfl rfl rfl rfl ?_|(refine jdq rfl rfl ?_ ?_ ?_;kernel_rfl;kernel_rfl)|refine zB rfl rfl rfl (by repeat constructor) rfl ?_|refine zH .here rfl rfl rfl rfl ?_|refine zH (.there .here) rfl rfl rfl rfl ?_|refine zH (.there (.there .here)) rfl rfl rfl rfl ?_)
    refine oS (ev_ldD (d := d) .here rfl (by rw [List.drop_zero, List.take_length])) rfl ?_
    repeat (first|refine zJ rfl rfl ?_|refine jr rfl ?_|refine jn ?_|refine zM rfl rfl ?_|(refine zC rfl rfl ?_ rfl ?_;omega)|(refine zD rfl rfl ?_ rfl ?_;omega)|(refine zP rfl ?_ rfl ?_;omega)|refine zG rfl rfl rfl rfl ?_|(refine jdq rfl rfl ?_ ?_ ?_;kernel_rfl;kernel_rfl)|refine zB rfl rfl rfl (by repeat constructor) rfl ?_|refine zH .here rfl rfl rfl rfl ?_|refine zH (.there .here) rfl rfl rfl rfl ?_|refine zH (.there (.there .here)) rfl rfl rfl rfl ?_)
    refine oP (hm) Try.call39 rfl rfl ?_
    repeat (first|refine zJ rfl rfl ?_|refine jr rfl ?_|refine jn ?_|refine zM rfl rfl ?_|(refine zC rfl rfl ?_ rfl ?_;omega)|(refine zD rfl rfl ?_ rfl ?_;omega)|(refine zP rfl ?_ rfl ?_;omega)|refine zG rfl rfl rfl rfl ?_|(refine jdq rfl rfl ?_ ?_ ?_;kernel_rfl;kernel_rfl)|refine zB rfl rfl rfl (by repeat constructor) rfl ?_|refine zH .here rfl rfl rfl rfl ?_|refine zH (.there .here) rfl rfl rfl rfl ?_|refine zH (.there (.there .here)) rfl rfl rfl rfl ?_)
    refine oS (ev_ldD (d := d) .here rfl (by rw [List.drop_zero, List.take_length])) rfl ?_
    refine oC (Hc := []) (Hr := blk b9 29 (u8s d.1) :: X) hv Try.call38 rfl rfl (fun _ s => s) ?_
    rintro u G1 _ hG1 ⟨rfl, hu⟩
    obtain ⟨a, cc, rfl, hcc⟩ := hu.form
    repeat (first|refine zJ rfl rfl ?_|refine jr rfl ?_|refine jn ?_|refine zM rfl rfl ?_|(refine zC rfl rfl ?_ rfl ?_;omega)|(refine zD rfl rfl ?_ rfl ?_;omega)|(refine zP rfl ?_ rfl ?_;omega)|refine zG rfl rfl rfl rfl ?_|(refine jdq rfl rfl ?_ ?_ ?_;kernel_rfl;kernel_rfl)|refine zB rfl rfl rfl (by repeat constructor) rfl ?_|refine zH .here rfl rfl rfl rfl ?_|refine zH (.there .here) rfl rfl rfl rfl ?_|refine zH (.there (.there .here)) rfl rfl rfl rfl ?_)
    exact J_retv rfl (.tmp rfl .nil) [] (fun w s => s.drop) hG1 ⟨rfl, rfl⟩
  · repeat (first|refine zJ rfl rfl ?_|refine jr rfl ?_|refine jn ?_|refine zM rfl rfl ?_|(refine zC rfl rfl ?_ rfl ?_;omega)|(refine zD rfl rfl ?_ rfl ?_;omega)|(refine zP rfl ?_ rfl ?_;omega)|refine zG rfl rfl rfl rfl ?_|(refine jdq rfl rfl ?_ ?_ ?_;kernel_rfl;kernel_rfl)|refine zB rfl rfl rfl (by repeat constructor) rfl ?_|refine zH .here rfl rfl rfl rfl ?_|refine zH (.there .here) rfl rfl rfl rfl ?_|refine zH (.there (.there .here)) rfl rfl rfl rfl ?_)
    refine oS (ev_ldD (d := d) .here rfl (by rw [List.drop_zero, List.take_length])) rfl ?_
    repeat (first|refine zJ rfl rfl ?_|refine jr rfl ?_|refine jn ?_|refine zM rfl rfl ?_|(refine zC rfl rfl ?_ rfl ?_;omega)|(refine zD rfl rfl ?_ rfl ?_;omega)|(refine zP rfl ?_ rfl ?_;omega)|refine zG rfl rfl rfl rfl ?_|(refine jdq rfl rfl ?_ ?_ ?_;kernel_rfl;kernel_rfl)|refine zB rfl rfl rfl (by repeat constructor) rfl ?_|refine zH .here rfl rfl rfl rfl ?_|refine zH (.there .here) rfl rfl rfl rfl ?_|refine zH (.there (.there .here)) rfl rfl rfl rfl ?_)
    refine oP (hm) Try.call39 rfl rfl ?_
    repeat (first|refine zJ rfl rfl ?_|refine jr rfl ?_|refine jn ?_|refine zM rfl rfl ?_|(refine zC rfl rfl ?_ rfl ?_;omega)|(refine zD rfl rfl ?_ rfl ?_;omega)|(refine zP rfl ?_ rfl ?_;omega)|refine zG rfl rfl rfl rfl ?_|(refine jdq rfl rfl ?_ ?_ ?_;kernel_rfl;kernel_rfl)|refine zB rfl rfl rfl (by repeat constructor) rfl ?_|refine zH .here rfl rfl rfl rfl ?_|refine zH (.there .here) rfl rfl rfl rfl ?_|refine zH (.there (.there .here)) rfl rfl rfl rfl ?_)
    refine oS (ev_ldD (d := d) .here rfl (by rw [List.drop_zero, List.take_length])) rfl ?_
    refine oC (Hc := []) (Hr := blk b9 29 (u8s d.1) :: X) hv Try.call38 rfl rfl (fun _ s => s) ?_
    rintro u G1 _ hG1 ⟨rfl, hu⟩
    obtain ⟨a, cc, rfl, hcc⟩ := hu.form
    repeat (first|refine zJ rfl rfl ?_|refine jr rfl ?_|refine jn ?_|refine zM rfl rfl ?_|(refine zC rfl rfl ?_ rfl ?_;omega)|(refine zD rfl rfl ?_ rfl ?_;omega)|(refine zP rfl ?_ rfl ?_;omega)|refine zG rfl rfl rfl rfl ?_|(refine jdq rfl rfl ?_ ?_ ?_;kernel_rfl;kernel_rfl)|refine zB rfl rfl rfl (by repeat constructor) rfl ?_|refine zH .here rfl rfl rfl rfl ?_|refine zH (.there .here) rfl rfl rfl rfl ?_|refine zH (.there (.there .here)) rfl rfl rfl rfl ?_)
    refine oP (both_spec hv0 mask G1) Try.call62 rfl rfl ?_
    repeat (first|refine zJ rfl rfl ?_|refine jr rfl ?_|refine jn ?_|refine zM rfl rfl ?_|(refine zC rfl rfl ?_ rfl ?_;omega)|(refine zD rfl rfl ?_ rfl ?_;omega)|(refine zP rfl ?_ rfl ?_;omega)|refine zG rfl rfl rfl rfl ?_|(refine jdq rfl rfl ?_ ?_ ?_;kernel_rfl;kernel_rfl)|refine zB rfl rfl rfl (by repeat constructor) rfl ?_|refine zH .here rfl rfl rfl rfl ?_|refine zH (.there .here) rfl rfl rfl rfl ?_|refine zH (.there (.there .here)) rfl rfl rfl rfl ?_)
    rw [show decide (1 ≤ at_ ∧ at_ ≤ (vs.length : Int) ∧ hv0 ||| mask = hv0) = decide (((hv0 ||| mask).toNat : Int) = (hv0.toNat : Int)) from by
      rw [decide_eq_decide]
      exact ⟨fun h => by rw [h.2.2], fun h => ⟨h1, h2, BitVec.eq_of_toNat_eq (by omega)⟩⟩]
    exact J_retv rfl (.tmp rfl .nil) [] (fun w s => s.drop) hG1 ⟨rfl, rfl⟩
end Go.Proofs.Ytdoaloimndehbaa
