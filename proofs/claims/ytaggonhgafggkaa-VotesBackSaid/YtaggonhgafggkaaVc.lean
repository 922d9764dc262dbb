/-
  Numbers and digests read, and what is asked of them, by the program and by the document. Conditions are typed with each.
-/
import Derived.Test.YtaggonhgafggkaaVa
namespace Go.Proofs.Ytaggonhgafggkaa
open Go.RowKit
set_option maxRecDepth 100000
def INumQ (R : Nat → Value → Int → Asrt) (b : Nat) (r : Nat × Int × List UInt8) (u : Value) (F' : PH) (H' : List Asrt) : Prop := ∃ v', u = .int .i64 (iN r.1) ∧ Byt F' v' r.2.2 ∧ H' = [R b v' r.2.1]
theorem num_spec (b : Nat) (v : Value) (e : Int) (bs : List UInt8) (F : PH) (h : Byt F v bs) (hl : bs.length ≤ 1099511627776) :
    Spec Try.prog 48 [.pointer (some ⟨b, 0, none⟩)] F [rdr b v e] (INumQ rdr b (numR e bs 8)) := by
  refine Spec.of1 Try.func48 rfl rfl fun X w0 => ?_
  show J _ _ _ _ (rdr b _ e :: X)
  repeat (first|refine zJ rfl rfl ?_|refine jr rfl ?_|refine jn ?_|refine zM rfl rfl ?_|(refine zC rfl rfl ?_ rfl ?_;omega)|(refine zD rfl rfl ?_ rfl ?_;omega)|(refine zP rfl ?_ rfl ?_;omega)|refine zG rfl rfl rfl rfl ?_|(refine jdq rfl rfl ?_ ?_ ?_;kernel_rfl;kernel_rfl)|refine zB rfl rfl rfl (by repeat constructor) rfl ?_|refine zH .here rfl rfl rfl rfl ?_|refine zH (.there .here) rfl rfl rfl rfl ?_|refine zH (.there (.there .here)) rfl rfl rfl rfl ?_)
  refine oC (Hc := [rdr b v e]) (Hr := X) (number_spec b v e 8 bs F h hl) Try.call73 rfl rfl (fun _ s => s) ?_
  rintro _ F1 _ hF1 ⟨v1, rfl, hv1, rfl⟩
  repeat (first|refine zJ rfl rfl ?_|refine jr rfl ?_|refine jn ?_|refine zM rfl rfl ?_|(refine zC rfl rfl ?_ rfl ?_;omega)|(refine zD rfl rfl ?_ rfl ?_;omega)|(refine zP rfl ?_ rfl ?_;omega)|refine zG rfl rfl rfl rfl ?_|(refine jdq rfl rfl ?_ ?_ ?_;kernel_rfl;kernel_rfl)|refine zB rfl rfl rfl (by repeat constructor) rfl ?_|refine zH .here rfl rfl rfl rfl ?_|refine zH (.there .here) rfl rfl rfl rfl ?_|refine zH (.there (.there .here)) rfl rfl rfl rfl ?_)
  refine oS (ev_conv rfl rfl rfl (iN_wrap _)) rfl ?_
  repeat (first|refine zJ rfl rfl ?_|refine jr rfl ?_|refine jn ?_|refine zM rfl rfl ?_|(refine zC rfl rfl ?_ rfl ?_;omega)|(refine zD rfl rfl ?_ rfl ?_;omega)|(refine zP rfl ?_ rfl ?_;omega)|refine zG rfl rfl rfl rfl ?_|(refine jdq rfl rfl ?_ ?_ ?_;kernel_rfl;kernel_rfl)|refine zB rfl rfl rfl (by repeat constructor) rfl ?_|refine zH .here rfl rfl rfl rfl ?_|refine zH (.there .here) rfl rfl rfl rfl ?_|refine zH (.there (.there .here)) rfl rfl rfl rfl ?_)
  exact J_retv rfl (.tmp rfl .nil) [rdr b v1 _] (fun w s => s) hF1 ⟨v1, rfl, hv1, rfl⟩
theorem small_spec (b : Nat) (v : Value) (e : Int) (bs : List UInt8) (F : PH) (h : Byt F v bs) (hl : bs.length ≤ 1099511627776) :
    Spec Try.prog 54 [.pointer (some ⟨b, 0, none⟩)] F [rdr b v e] (INumQ rdr b (numR e bs 1)) := by
  refine Spec.of1 Try.func54 rfl rfl fun X w0 => ?_
  show J _ _ _ _ (rdr b _ e :: X)
  repeat (first|refine zJ rfl rfl ?_|refine jr rfl ?_|refine jn ?_|refine zM rfl rfl ?_|(refine zC rfl rfl ?_ rfl ?_;omega)|(refine zD rfl rfl ?_ rfl ?_;omega)|(refine zP rfl ?_ rfl ?_;omega)|refine zG rfl rfl rfl rfl ?_|(refine jdq rfl rfl ?_ ?_ ?_;kernel_rfl;kernel_rfl)|refine zB rfl rfl rfl (by repeat constructor) rfl ?_|refine zH .here rfl rfl rfl rfl ?_|refine zH (.there .here) rfl rfl rfl rfl ?_|refine zH (.there (.there .here)) rfl rfl rfl rfl ?_)
  refine oC (Hc := [rdr b v e]) (Hr := X) (number_spec b v e 1 bs F h hl) Try.call73 rfl rfl (fun _ s => s) ?_
  rintro _ F1 _ hF1 ⟨v1, rfl, hv1, rfl⟩
  repeat (first|refine zJ rfl rfl ?_|refine jr rfl ?_|refine jn ?_|refine zM rfl rfl ?_|(refine zC rfl rfl ?_ rfl ?_;omega)|(refine zD rfl rfl ?_ rfl ?_;omega)|(refine zP rfl ?_ rfl ?_;omega)|refine zG rfl rfl rfl rfl ?_|(refine jdq rfl rfl ?_ ?_ ?_;kernel_rfl;kernel_rfl)|refine zB rfl rfl rfl (by repeat constructor) rfl ?_|refine zH .here rfl rfl rfl rfl ?_|refine zH (.there .here) rfl rfl rfl rfl ?_|refine zH (.there (.there .here)) rfl rfl rfl rfl ?_)
  refine oS (ev_conv rfl rfl rfl (iN_wrap _)) rfl ?_
  repeat (first|refine zJ rfl rfl ?_|refine jr rfl ?_|refine jn ?_|refine zM rfl rfl ?_|(refine zC rfl rfl ?_ rfl ?_;omega)|(refine zD rfl rfl ?_ rfl ?_;omega)|(refine zP rfl ?_ rfl ?_;omega)|refine zG rfl rfl rfl rfl ?_|(refine jdq rfl rfl ?_ ?_ ?_;kernel_rfl;kernel_rfl)|refine zB rfl rfl rfl (by repeat constructor) rfl ?_|refine zH .here rfl rfl rfl rfl ?_|refine zH (.there .here) rfl rfl rfl rfl ?_|refine zH (.there (.there .here)) rfl rfl rfl rfl ?_)
  exact J_retv rfl (.tmp rfl .nil) [rdr b v1 _] (fun w s => s) hF1 ⟨v1, rfl, hv1, rfl⟩
def DigQ (R : Nat → Value → Int → Asrt) (b : Nat) (r : List UInt8 × Int × List UInt8) (u : Value) (F' : PH) (H' : List Asrt) : Prop := ∃ v', u = .agg (u8s (pad32 r.1)).toArray ∧ Byt F' v' r.2.2 ∧ H' = [R b v' r.2.1]
set_option maxHeartbeats 8000000 in
theorem digest_spec (b : Nat) (v : Value) (e : Int) (bs : List UInt8) (F : PH) (h : Byt F v bs) (hl : bs.length ≤ 1048576) :
    Spec Try.prog 49 [.pointer (some ⟨b, 0, none⟩)] F [rdr b v e] (DigQ rdr b (fixR e bs 32)) := by
  refine Spec.of1 Try.func49 rfl rfl fun X w0 => ?_
  refine jc rfl rfl ?_
  refine jr rfl ?_
  refine oE (ev_alloc (cs := z32) rfl) rfl ?_
  rintro _ _ _ _ ⟨rfl, b6, rfl, rfl⟩
  repeat (first|refine zJ rfl rfl ?_|refine jr rfl ?_|refine jn ?_|refine zM rfl rfl ?_|(refine zC rfl rfl ?_ rfl ?_;omega)|(refine zD rfl rfl ?_ rfl ?_;omega)|(refine zP rfl ?_ rfl ?_;omega)|refine zG rfl rfl rfl rfl ?_|(refine jdq rfl rfl ?_ ?_ ?_;kernel_rfl;kernel_rfl)|refine zB rfl rfl rfl (by repeat constructor) rfl ?_|refine zH .here rfl rfl rfl rfl ?_|refine zH (.there .here) rfl rfl rfl rfl ?_|refine zH (.there (.there .here)) rfl rfl rfl rfl ?_)
  refine ja F [] ?_ ?_ ?_; kernel_rfl
  · exact fun w s => s.bare
  refine aT 0 rfl (ev_slice_arr rfl rfl) rfl rfl ?_ ?_ ?_ ?_; kernel_rfl; kernel_rfl; kernel_rfl
  refine aT 1 rfl (ev_pv rfl) rfl rfl ?_ ?_ ?_ ?_; kernel_rfl; kernel_rfl; kernel_rfl
  refine aB (i := 2) (by kernel_rfl) (aC (Hc := [rdr b v e]) (Hr := blk b6 23 z32 :: X) rfl (fixed_spec b v e 32 bs F h (by omega)) Try.call82 rfl rfl rfl (fun _ s => s.pick (.there .here)) (fun _ _ _ hF _ w s => (s.mono hF).bare) ?_)
  rintro u G2 _ hG2 ⟨v6, hu6, hv6, rfl⟩
  refine aF hG2 ?_
  have h32 := fixR_le32 e bs
  generalize hr6 : fixR e bs 32 = r6 at *
  obtain ⟨a6, c6, rfl, hc6⟩ := hu6.form
  refine aB (i := 3) (by kernel_rfl) (aE rfl (ev_copy (k := r6.1.length) rfl rfl rfl hu6.rds (u8s_ones _) (by rcases h32 with h | h <;> rw [h] <;> rfl) (by rw [← u8s_len, List.take_length]) (lay_pad h32) (.there .here)) rfl rfl ?_ ?_)
  · rintro _ _ _ _ ⟨rfl, rfl, rfl⟩ w s
    exact s.bare
  rintro _ _ _ _ ⟨rfl, rfl, rfl⟩
  refine aD (by kernel_rfl) ?_
  have hp32 := pad32_len h32
  repeat (first|refine zJ rfl rfl ?_|refine jr rfl ?_|refine jn ?_|refine zM rfl rfl ?_|(refine zC rfl rfl ?_ rfl ?_;omega)|(refine zD rfl rfl ?_ rfl ?_;omega)|(refine zP rfl ?_ rfl ?_;omega)|refine zG rfl rfl rfl rfl ?_|(refine jdq rfl rfl ?_ ?_ ?_;kernel_rfl;kernel_rfl)|refine zB rfl rfl rfl (by repeat constructor) rfl ?_|refine zH .here rfl rfl rfl rfl ?_|refine zH (.there .here) rfl rfl rfl rfl ?_|refine zH (.there (.there .here)) rfl rfl rfl rfl ?_)
  refine oS (ev_load_agg (cs := u8s (pad32 r6.1)) rfl rfl (Rdb.ofB (n := 0) (.there .here) (by rw [List.drop_zero, List.take_length])) (by rw [u8s_len]; exact hp32)) rfl ?_
  refine oN (ev_store (b := b6) rfl rfl .agg rfl (by rw [u8s_len]; exact hp32) (lay_all (zs := u8s (pad32 r6.1)) rfl) (u8s_ones _) (.there .here)) rfl ?_
  rintro _ _ _ _ ⟨rfl, _, rfl⟩
  repeat (first|refine zJ rfl rfl ?_|refine jr rfl ?_|refine jn ?_|refine zM rfl rfl ?_|(refine zC rfl rfl ?_ rfl ?_;omega)|(refine zD rfl rfl ?_ rfl ?_;omega)|(refine zP rfl ?_ rfl ?_;omega)|refine zG rfl rfl rfl rfl ?_|(refine jdq rfl rfl ?_ ?_ ?_;kernel_rfl;kernel_rfl)|refine zB rfl rfl rfl (by repeat constructor) rfl ?_|refine zH .here rfl rfl rfl rfl ?_|refine zH (.there .here) rfl rfl rfl rfl ?_|refine zH (.there (.there .here)) rfl rfl rfl rfl ?_)
  exact J_retv (vs := [.agg (u8s (pad32 r6.1)).toArray]) rfl (.agg rfl rfl (Rdb.ofB (n := 0) (.there .here) (by rw [List.drop_zero, List.take_length])) (by rw [u8s_len]; exact hp32) .nil) [rdr b v6 r6.2.1] (fun w s => (s.pick (.there .here)).drop) hG2 ⟨v6, rfl, hv6, rfl⟩
set_option maxHeartbeats 8000000 in
theorem ReadDigest_spec (b : Nat) (v : Value) (e : Int) (bs : List UInt8) (F : PH) (h : Byt F v bs) (hl : bs.length ≤ 1048576) :
    Spec Try.prog 58 [.pointer (some ⟨b, 0, none⟩)] F [Rdr b v e] (DigQ Rdr b (fixR e bs 32)) := by
  refine Spec.of1 Try.func58 rfl rfl fun X w0 => ?_
  refine jc rfl rfl ?_
  refine jr rfl ?_
  refine oE (ev_alloc (cs := z32) rfl) rfl ?_
  rintro _ _ _ _ ⟨rfl, b5, rfl, rfl⟩
  repeat (first|refine zJ rfl rfl ?_|refine jr rfl ?_|refine jn ?_|refine zM rfl rfl ?_|(refine zC rfl rfl ?_ rfl ?_;omega)|(refine zD rfl rfl ?_ rfl ?_;omega)|(refine zP rfl ?_ rfl ?_;omega)|refine zG rfl rfl rfl rfl ?_|(refine jdq rfl rfl ?_ ?_ ?_;kernel_rfl;kernel_rfl)|refine zB rfl rfl rfl (by repeat constructor) rfl ?_|refine zH .here rfl rfl rfl rfl ?_|refine zH (.there .here) rfl rfl rfl rfl ?_|refine zH (.there (.there .here)) rfl rfl rfl rfl ?_)
  refine oE (ev_alloc (cs := z32) rfl) rfl ?_
  rintro _ _ _ _ ⟨rfl, b6, rfl, rfl⟩
  repeat (first|refine zJ rfl rfl ?_|refine jr rfl ?_|refine jn ?_|refine zM rfl rfl ?_|(refine zC rfl rfl ?_ rfl ?_;omega)|(refine zD rfl rfl ?_ rfl ?_;omega)|(refine zP rfl ?_ rfl ?_;omega)|refine zG rfl rfl rfl rfl ?_|(refine jdq rfl rfl ?_ ?_ ?_;kernel_rfl;kernel_rfl)|refine zB rfl rfl rfl (by repeat constructor) rfl ?_|refine zH .here rfl rfl rfl rfl ?_|refine zH (.there .here) rfl rfl rfl rfl ?_|refine zH (.there (.there .here)) rfl rfl rfl rfl ?_)
  refine oC (Hc := [Rdr b v e]) (Hr := blk b6 23 z32 :: blk b5 23 z32 :: X) (Fixed_spec b v e 32 bs F h (by omega)) Try.call77 rfl rfl (fun _ s => s.pick (.there (.there .here))) ?_
  rintro u G2 _ hG2 ⟨v6, hu6, hv6, rfl⟩
  have h32 := fixR_le32 e bs
  generalize hr6 : fixR e bs 32 = r6 at *
  have hp32 := pad32_len h32
  obtain ⟨a6, c6, rfl, hc6⟩ := hu6.form
  have hle32 : r6.1.length ≤ 32 := by omega
  repeat (first|refine zJ rfl rfl ?_|refine jr rfl ?_|refine jn ?_|refine zM rfl rfl ?_|(refine zC rfl rfl ?_ rfl ?_;omega)|(refine zD rfl rfl ?_ rfl ?_;omega)|(refine zP rfl ?_ rfl ?_;omega)|refine zG rfl rfl rfl rfl ?_|(refine jdq rfl rfl ?_ ?_ ?_;kernel_rfl;kernel_rfl)|refine zB rfl rfl rfl (by repeat constructor) rfl ?_|refine zH .here rfl rfl rfl rfl ?_|refine zH (.there .here) rfl rfl rfl rfl ?_|refine zH (.there (.there .here)) rfl rfl rfl rfl ?_)
  refine J_loop (ι := Nat) (fun y => y ≤ r6.1.length) (fun y => r6.1.length - y) (fun y => [(2, .pointer (some ⟨b5, 0, none⟩)), (3, .pointer (some ⟨b6, 0, none⟩)), (7, .slice a6 r6.1.length c6), (8, .int .i64 r6.1.length), (9, .int .i64 y)]) (fun _ => G2) (fun y => Rdr b v6 r6.2.1 :: blk b6 23 (wr32 r6.1 y) :: blk b5 23 z32 :: X) 0 (Nat.zero_le _) ⟨⟨rfl, rfl, rfl, rfl, rfl, trivial⟩, fun w s => s⟩ ?_
  intro y hy
  by_cases hyl : y < r6.1.length
  · have hgy : r6.1[y]? = some r6.1[y] := List.getElem?_eq_getElem hyl
    have hset := wr32_set hle32 hgy
    have hwl := wr32_len hle32 hy
    obtain ⟨b9, o9, rfl, hcc⟩ := Byt.at hu6 hyl
    generalize r6.1[y] = x at *
    repeat (first|refine zJ rfl rfl ?_|refine jr rfl ?_|refine jn ?_|refine zM rfl rfl ?_|(refine zC rfl rfl ?_ rfl ?_;omega)|(refine zD rfl rfl ?_ rfl ?_;omega)|(refine zP rfl ?_ rfl ?_;omega)|refine zG rfl rfl rfl rfl ?_|(refine jdq rfl rfl ?_ ?_ ?_;kernel_rfl;kernel_rfl)|refine zB rfl rfl rfl (by repeat constructor) rfl ?_|refine zH .here rfl rfl rfl rfl ?_|refine zH (.there .here) rfl rfl rfl rfl ?_|refine zH (.there (.there .here)) rfl rfl rfl rfl ?_)
    refine oS (ev_indexAddr rfl rfl rfl hyl) rfl ?_
    refine oS (ev_load rfl rfl (Rdb.ofF hcc)) rfl ?_
    repeat (first|refine zJ rfl rfl ?_|refine jr rfl ?_|refine jn ?_|refine zM rfl rfl ?_|(refine zC rfl rfl ?_ rfl ?_;omega)|(refine zD rfl rfl ?_ rfl ?_;omega)|(refine zP rfl ?_ rfl ?_;omega)|refine zG rfl rfl rfl rfl ?_|(refine jdq rfl rfl ?_ ?_ ?_;kernel_rfl;kernel_rfl)|refine zB rfl rfl rfl (by repeat constructor) rfl ?_|refine zH .here rfl rfl rfl rfl ?_|refine zH (.there .here) rfl rfl rfl rfl ?_|refine zH (.there (.there .here)) rfl rfl rfl rfl ?_)
    refine oS (ev_indexAddr_arr (i := y) rfl rfl rfl (by omega)) rfl ?_
    refine oN (ev_store (b := b6) (off := 0 + y * 1) rfl rfl .int rfl rfl (by rw [Nat.zero_add, Nat.mul_one]; exact lay_set _ (by omega)) (ones_cons rfl ones_nil) (.there .here)) rfl ?_
    rintro _ _ _ _ ⟨rfl, _, rfl⟩
    rw [hset]
    repeat (first|refine zJ rfl rfl ?_|refine jr rfl ?_|refine jn ?_|refine zM rfl rfl ?_|(refine zC rfl rfl ?_ rfl ?_;omega)|(refine zD rfl rfl ?_ rfl ?_;omega)|(refine zP rfl ?_ rfl ?_;omega)|refine zG rfl rfl rfl rfl ?_|(refine jdq rfl rfl ?_ ?_ ?_;kernel_rfl;kernel_rfl)|refine zB rfl rfl rfl (by repeat constructor) rfl ?_|refine zH .here rfl rfl rfl rfl ?_|refine zH (.there .here) rfl rfl rfl rfl ?_|refine zH (.there (.there .here)) rfl rfl rfl rfl ?_)
    exact J_again (y + 1) hyl (by omega) ⟨⟨rfl, rfl, rfl, rfl, rfl, trivial⟩, fun w s => s⟩
  · obtain rfl : y = r6.1.length := by omega
    rw [wr32_end]
    repeat (first|refine zJ rfl rfl ?_|refine jr rfl ?_|refine jn ?_|refine zM rfl rfl ?_|(refine zC rfl rfl ?_ rfl ?_;omega)|(refine zD rfl rfl ?_ rfl ?_;omega)|(refine zP rfl ?_ rfl ?_;omega)|refine zG rfl rfl rfl rfl ?_|(refine jdq rfl rfl ?_ ?_ ?_;kernel_rfl;kernel_rfl)|refine zB rfl rfl rfl (by repeat constructor) rfl ?_|refine zH .here rfl rfl rfl rfl ?_|refine zH (.there .here) rfl rfl rfl rfl ?_|refine zH (.there (.there .here)) rfl rfl rfl rfl ?_)
    refine oS (ev_load_agg (cs := u8s (pad32 r6.1)) rfl rfl (Rdb.ofB (n := 0) (.there .here) (by rw [List.drop_zero, List.take_length])) (by rw [u8s_len]; exact hp32)) rfl ?_
    refine oN (ev_store (b := b5) rfl rfl .agg rfl (by rw [u8s_len]; exact hp32) (lay_all (zs := z32) (by rw [u8s_len]; exact hp32)) (u8s_ones _) (.there (.there .here))) rfl ?_
    rintro _ _ _ _ ⟨rfl, _, rfl⟩
    repeat (first|refine zJ rfl rfl ?_|refine jr rfl ?_|refine jn ?_|refine zM rfl rfl ?_|(refine zC rfl rfl ?_ rfl ?_;omega)|(refine zD rfl rfl ?_ rfl ?_;omega)|(refine zP rfl ?_ rfl ?_;omega)|refine zG rfl rfl rfl rfl ?_|(refine jdq rfl rfl ?_ ?_ ?_;kernel_rfl;kernel_rfl)|refine zB rfl rfl rfl (by repeat constructor) rfl ?_|refine zH .here rfl rfl rfl rfl ?_|refine zH (.there .here) rfl rfl rfl rfl ?_|refine zH (.there (.there .here)) rfl rfl rfl rfl ?_)
    exact J_retv (vs := [.agg (u8s (pad32 r6.1)).toArray]) rfl (.agg rfl rfl (Rdb.ofB (n := 0) (.there (.there .here)) (by rw [List.drop_zero, List.take_length])) (by rw [u8s_len]; exact hp32) .nil) [Rdr b v6 r6.2.1] (fun w s => ((s.pick (.there .here)).drop.pick (.there .here)).drop) hG2 ⟨v6, rfl, hv6, rfl⟩
/-! what is asked of numbers -/
def viewB (v : Int) : Bool := decide (0 ≤ v ∧ v ≤ 1048576)
def stampB (v : Int) : Bool := decide (1 ≤ v ∧ v ≤ 1099511627776)
def clB (n c : Int) : Bool := decide (n ≤ c ∧ c < n + 4)
theorem view_spec (v : Int) (F : PH) : Pure Try.prog 51 [.int .i64 v] F (.bool (viewB v)) := by
  refine Spec.of1 Try.func51 rfl rfl fun X w0 => ?_
  unfold viewB
  by_cases h1 : 0 ≤ v
  · by_cases h2 : v ≤ 1048576
    · rw [decide_eq_true ⟨h1, h2⟩]
      repeat (first|refine zJ rfl rfl ?_|refine jr rfl ?_|refine jn ?_|refine zM rfl rfl ?_|(refine zC rfl rfl ?_ rfl ?_;omega)|(refine zD rfl rfl ?_ rfl ?_;omega)|(refine zP rfl ?_ rfl ?_;omega)|refine zG rfl rfl rfl rfl ?_|(refine jdq rfl rfl ?_ ?_ ?_;kernel_rfl;kernel_rfl)|refine zB rfl rfl rfl (by repeat constructor) rfl ?_)
      exact J_retv rfl (.tmp rfl .nil) [] (fun w s => s) (PH.ler _) ⟨rfl, rfl⟩
    · rw [decide_eq_false (fun h => h2 h.2)]
      repeat (first|refine zJ rfl rfl ?_|refine jr rfl ?_|refine jn ?_|refine zM rfl rfl ?_|(refine zC rfl rfl ?_ rfl ?_;omega)|(refine zD rfl rfl ?_ rfl ?_;omega)|(refine zP rfl ?_ rfl ?_;omega)|refine zG rfl rfl rfl rfl ?_|(refine jdq rfl rfl ?_ ?_ ?_;kernel_rfl;kernel_rfl)|refine zB rfl rfl rfl (by repeat constructor) rfl ?_)
      exact J_retv rfl (.tmp rfl .nil) [] (fun w s => s) (PH.ler _) ⟨rfl, rfl⟩
  · rw [decide_eq_false (fun h => h1 h.1)]
    repeat (first|refine zJ rfl rfl ?_|refine jr rfl ?_|refine jn ?_|refine zM rfl rfl ?_|(refine zC rfl rfl ?_ rfl ?_;omega)|(refine zD rfl rfl ?_ rfl ?_;omega)|(refine zP rfl ?_ rfl ?_;omega)|refine zG rfl rfl rfl rfl ?_|(refine jdq rfl rfl ?_ ?_ ?_;kernel_rfl;kernel_rfl)|refine zB rfl rfl rfl (by repeat constructor) rfl ?_)
    exact J_retv rfl (.tmp rfl .nil) [] (fun w s => s) (PH.ler _) ⟨rfl, rfl⟩
theorem seq_spec (v : Int) (F : PH) : Pure Try.prog 52 [.int .i64 v] F (.bool (viewB v)) := by
  refine Spec.of1 Try.func52 rfl rfl fun X w0 => ?_
  unfold viewB
  by_cases h1 : 0 ≤ v
  · by_cases h2 : v ≤ 1048576
    · rw [decide_eq_true ⟨h1, h2⟩]
      repeat (first|refine zJ rfl rfl ?_|refine jr rfl ?_|refine jn ?_|refine zM rfl rfl ?_|(refine zC rfl rfl ?_ rfl ?_;omega)|(refine zD rfl rfl ?_ rfl ?_;omega)|(refine zP rfl ?_ rfl ?_;omega)|refine zG rfl rfl rfl rfl ?_|(refine jdq rfl rfl ?_ ?_ ?_;kernel_rfl;kernel_rfl)|refine zB rfl rfl rfl (by repeat constructor) rfl ?_)
      exact J_retv rfl (.tmp rfl .nil) [] (fun w s => s) (PH.ler _) ⟨rfl, rfl⟩
    · rw [decide_eq_false (fun h => h2 h.2)]
      repeat (first|refine zJ rfl rfl ?_|refine jr rfl ?_|refine jn ?_|refine zM rfl rfl ?_|(refine zC rfl rfl ?_ rfl ?_;omega)|(refine zD rfl rfl ?_ rfl ?_;omega)|(refine zP rfl ?_ rfl ?_;omega)|refine zG rfl rfl rfl rfl ?_|(refine jdq rfl rfl ?_ ?_ ?_;kernel_rfl;kernel_rfl)|refine zB rfl rfl rfl (by repeat constructor) rfl ?_)
      exact J_retv rfl (.tmp rfl .nil) [] (fun w s => s) (PH.ler _) ⟨rfl, rfl⟩
  · rw [decide_eq_false (fun h => h1 h.1)]
    repeat (first|refine zJ rfl rfl ?_|refine jr rfl ?_|refine jn ?_|refine zM rfl rfl ?_|(refine zC rfl rfl ?_ rfl ?_;omega)|(refine zD rfl rfl ?_ rfl ?_;omega)|(refine zP rfl ?_ rfl ?_;omega)|refine zG rfl rfl rfl rfl ?_|(refine jdq rfl rfl ?_ ?_ ?_;kernel_rfl;kernel_rfl)|refine zB rfl rfl rfl (by repeat constructor) rfl ?_)
    exact J_retv rfl (.tmp rfl .nil) [] (fun w s => s) (PH.ler _) ⟨rfl, rfl⟩
theorem View_spec (v : Int) (F : PH) : Pure Try.prog 28 [.int .i64 v] F (.bool (viewB v)) := by
  refine Spec.of1 Try.func28 rfl rfl fun X w0 => ?_
  unfold viewB
  by_cases h1 : 0 ≤ v
  · by_cases h2 : v ≤ 1048576
    · rw [decide_eq_true ⟨h1, h2⟩]
      repeat (first|refine zJ rfl rfl ?_|refine jr rfl ?_|refine jn ?_|refine zM rfl rfl ?_|(refine zC rfl rfl ?_ rfl ?_;omega)|(refine zD rfl rfl ?_ rfl ?_;omega)|(refine zP rfl ?_ rfl ?_;omega)|refine zG rfl rfl rfl rfl ?_|(refine jdq rfl rfl ?_ ?_ ?_;kernel_rfl;kernel_rfl)|refine zB rfl rfl rfl (by repeat constructor) rfl ?_)
      exact J_retv rfl (.tmp rfl .nil) [] (fun w s => s) (PH.ler _) ⟨rfl, rfl⟩
    · rw [decide_eq_false (fun h => h2 h.2)]
      repeat (first|refine zJ rfl rfl ?_|refine jr rfl ?_|refine jn ?_|refine zM rfl rfl ?_|(refine zC rfl rfl ?_ rfl ?_;omega)|(refine zD rfl rfl ?_ rfl ?_;omega)|(refine zP rfl ?_ rfl ?_;omega)|refine zG rfl rfl rfl rfl ?_|(refine jdq rfl rfl ?_ ?_ ?_;kernel_rfl;kernel_rfl)|refine zB rfl rfl rfl (by repeat constructor) rfl ?_)
      exact J_retv rfl (.tmp rfl .nil) [] (fun w s => s) (PH.ler _) ⟨rfl, rfl⟩
  · rw [decide_eq_false (fun h => h1 h.1)]
    repeat (first|refine zJ rfl rfl ?_|refine jr rfl ?_|refine jn ?_|refine zM rfl rfl ?_|(refine zC rfl rfl ?_ rfl ?_;omega)|(refine zD rfl rfl ?_ rfl ?_;omega)|(refine zP rfl ?_ rfl ?_;omega)|refine zG rfl rfl rfl rfl ?_|(refine jdq rfl rfl ?_ ?_ ?_;kernel_rfl;kernel_rfl)|refine zB rfl rfl rfl (by repeat constructor) rfl ?_)
    exact J_retv rfl (.tmp rfl .nil) [] (fun w s => s) (PH.ler _) ⟨rfl, rfl⟩
theorem Seq_spec (v : Int) (F : PH) : Pure Try.prog 29 [.int .i64 v] F (.bool (viewB v)) := by
  refine Spec.of1 Try.func29 rfl rfl fun X w0 => ?_
  unfold viewB
  by_cases h1 : 0 ≤ v
  · by_cases h2 : v ≤ 1048576
    · rw [decide_eq_true ⟨h1, h2⟩]
      repeat (first|refine zJ rfl rfl ?_|refine jr rfl ?_|refine jn ?_|refine zM rfl rfl ?_|(refine zC rfl rfl ?_ rfl ?_;omega)|(refine zD rfl rfl ?_ rfl ?_;omega)|(refine zP rfl ?_ rfl ?_;omega)|refine zG rfl rfl rfl rfl ?_|(refine jdq rfl rfl ?_ ?_ ?_;kernel_rfl;kernel_rfl)|refine zB rfl rfl rfl (by repeat constructor) rfl ?_)
      exact J_retv rfl (.tmp rfl .nil) [] (fun w s => s) (PH.ler _) ⟨rfl, rfl⟩
    · rw [decide_eq_false (fun h => h2 h.2)]
      repeat (first|refine zJ rfl rfl ?_|refine jr rfl ?_|refine jn ?_|refine zM rfl rfl ?_|(refine zC rfl rfl ?_ rfl ?_;omega)|(refine zD rfl rfl ?_ rfl ?_;omega)|(refine zP rfl ?_ rfl ?_;omega)|refine zG rfl rfl rfl rfl ?_|(refine jdq rfl rfl ?_ ?_ ?_;kernel_rfl;kernel_rfl)|refine zB rfl rfl rfl (by repeat constructor) rfl ?_)
      exact J_retv rfl (.tmp rfl .nil) [] (fun w s => s) (PH.ler _) ⟨rfl, rfl⟩
  · rw [decide_eq_false (fun h => h1 h.1)]
    repeat (first|refine zJ rfl rfl ?_|refine jr rfl ?_|refine jn ?_|refine zM rfl rfl ?_|(refine zC rfl rfl ?_ rfl ?_;omega)|(refine zD rfl rfl ?_ rfl ?_;omega)|(refine zP rfl ?_ rfl ?_;omega)|refine zG rfl rfl rfl rfl ?_|(refine jdq rfl rfl ?_ ?_ ?_;kernel_rfl;kernel_rfl)|refine zB rfl rfl rfl (by repeat constructor) rfl ?_)
    exact J_retv rfl (.tmp rfl .nil) [] (fun w s => s) (PH.ler _) ⟨rfl, rfl⟩
theorem stamp_spec (v : Int) (F : PH) : Pure Try.prog 56 [.int .i64 v] F (.bool (stampB v)) := by
  refine Spec.of1 Try.func56 rfl rfl fun X w0 => ?_
  unfold stampB
  by_cases h1 : 1 ≤ v
  · by_cases h2 : v ≤ 1099511627776
    · rw [decide_eq_true ⟨h1, h2⟩]
      repeat (first|refine zJ rfl rfl ?_|refine jr rfl ?_|refine jn ?_|refine zM rfl rfl ?_|(refine zC rfl rfl ?_ rfl ?_;omega)|(refine zD rfl rfl ?_ rfl ?_;omega)|(refine zP rfl ?_ rfl ?_;omega)|refine zG rfl rfl rfl rfl ?_|(refine jdq rfl rfl ?_ ?_ ?_;kernel_rfl;kernel_rfl)|refine zB rfl rfl rfl (by repeat constructor) rfl ?_)
      exact J_retv rfl (.tmp rfl .nil) [] (fun w s => s) (PH.ler _) ⟨rfl, rfl⟩
    · rw [decide_eq_false (fun h => h2 h.2)]
      repeat (first|refine zJ rfl rfl ?_|refine jr rfl ?_|refine jn ?_|refine zM rfl rfl ?_|(refine zC rfl rfl ?_ rfl ?_;omega)|(refine zD rfl rfl ?_ rfl ?_;omega)|(refine zP rfl ?_ rfl ?_;omega)|refine zG rfl rfl rfl rfl ?_|(refine jdq rfl rfl ?_ ?_ ?_;kernel_rfl;kernel_rfl)|refine zB rfl rfl rfl (by repeat constructor) rfl ?_)
      exact J_retv rfl (.tmp rfl .nil) [] (fun w s => s) (PH.ler _) ⟨rfl, rfl⟩
  · rw [decide_eq_false (fun h => h1 h.1)]
    repeat (first|refine zJ rfl rfl ?_|refine jr rfl ?_|refine jn ?_|refine zM rfl rfl ?_|(refine zC rfl rfl ?_ rfl ?_;omega)|(refine zD rfl rfl ?_ rfl ?_;omega)|(refine zP rfl ?_ rfl ?_;omega)|refine zG rfl rfl rfl rfl ?_|(refine jdq rfl rfl ?_ ?_ ?_;kernel_rfl;kernel_rfl)|refine zB rfl rfl rfl (by repeat constructor) rfl ?_)
    exact J_retv rfl (.tmp rfl .nil) [] (fun w s => s) (PH.ler _) ⟨rfl, rfl⟩
theorem Stamp_spec (v : Int) (F : PH) : Pure Try.prog 61 [.int .i64 v] F (.bool (stampB v)) := by
  refine Spec.of1 Try.func61 rfl rfl fun X w0 => ?_
  unfold stampB
  by_cases h1 : 1 ≤ v
  · by_cases h2 : v ≤ 1099511627776
    · rw [decide_eq_true ⟨h1, h2⟩]
      repeat (first|refine zJ rfl rfl ?_|refine jr rfl ?_|refine jn ?_|refine zM rfl rfl ?_|(refine zC rfl rfl ?_ rfl ?_;omega)|(refine zD rfl rfl ?_ rfl ?_;omega)|(refine zP rfl ?_ rfl ?_;omega)|refine zG rfl rfl rfl rfl ?_|(refine jdq rfl rfl ?_ ?_ ?_;kernel_rfl;kernel_rfl)|refine zB rfl rfl rfl (by repeat constructor) rfl ?_)
      exact J_retv rfl (.tmp rfl .nil) [] (fun w s => s) (PH.ler _) ⟨rfl, rfl⟩
    · rw [decide_eq_false (fun h => h2 h.2)]
      repeat (first|refine zJ rfl rfl ?_|refine jr rfl ?_|refine jn ?_|refine zM rfl rfl ?_|(refine zC rfl rfl ?_ rfl ?_;omega)|(refine zD rfl rfl ?_ rfl ?_;omega)|(refine zP rfl ?_ rfl ?_;omega)|refine zG rfl rfl rfl rfl ?_|(refine jdq rfl rfl ?_ ?_ ?_;kernel_rfl;kernel_rfl)|refine zB rfl rfl rfl (by repeat constructor) rfl ?_)
      exact J_retv rfl (.tmp rfl .nil) [] (fun w s => s) (PH.ler _) ⟨rfl, rfl⟩
  · rw [decide_eq_false (fun h => h1 h.1)]
    repeat (first|refine zJ rfl rfl ?_|refine jr rfl ?_|refine jn ?_|refine zM rfl rfl ?_|(refine zC rfl rfl ?_ rfl ?_;omega)|(refine zD rfl rfl ?_ rfl ?_;omega)|(refine zP rfl ?_ rfl ?_;omega)|refine zG rfl rfl rfl rfl ?_|(refine jdq rfl rfl ?_ ?_ ?_;kernel_rfl;kernel_rfl)|refine zB rfl rfl rfl (by repeat constructor) rfl ?_)
    exact J_retv rfl (.tmp rfl .nil) [] (fun w s => s) (PH.ler _) ⟨rfl, rfl⟩
theorem client_spec (n c : Int) (F : PH) (hn : 1 ≤ n ∧ n ≤ 7) : Pure Try.prog 55 [.agg #[.int .i64 n], .int .i64 c] F (.bool (clB n c)) := by
  refine Spec.of2 Try.func55 rfl rfl fun X w0 => ?_
  unfold clB
  refine jc rfl rfl ?_
  refine jr rfl ?_
  refine oE (ev_box (cs := [.int .i64 n]) rfl .agg) rfl ?_
  rintro _ _ _ _ ⟨rfl, b, rfl, rfl⟩
  by_cases h1 : n ≤ c
  · by_cases h2 : c < n + 4
    · rw [decide_eq_true ⟨h1, h2⟩]
      repeat (first|refine zJ rfl rfl ?_|refine jr rfl ?_|refine jn ?_|refine zM rfl rfl ?_|(refine zC rfl rfl ?_ rfl ?_;omega)|(refine zD rfl rfl ?_ rfl ?_;omega)|(refine zP rfl ?_ rfl ?_;omega)|refine zG rfl rfl rfl rfl ?_|(refine jdq rfl rfl ?_ ?_ ?_;kernel_rfl;kernel_rfl)|refine zB rfl rfl rfl (by repeat constructor) rfl ?_|refine zH .here rfl rfl rfl rfl ?_|refine zH (.there .here) rfl rfl rfl rfl ?_|refine zH (.there (.there .here)) rfl rfl rfl rfl ?_)
      exact J_retv rfl (.tmp rfl .nil) [] (fun w s => s.drop) (PH.ler _) ⟨rfl, rfl⟩
    · rw [decide_eq_false (fun h => h2 h.2)]
      repeat (first|refine zJ rfl rfl ?_|refine jr rfl ?_|refine jn ?_|refine zM rfl rfl ?_|(refine zC rfl rfl ?_ rfl ?_;omega)|(refine zD rfl rfl ?_ rfl ?_;omega)|(refine zP rfl ?_ rfl ?_;omega)|refine zG rfl rfl rfl rfl ?_|(refine jdq rfl rfl ?_ ?_ ?_;kernel_rfl;kernel_rfl)|refine zB rfl rfl rfl (by repeat constructor) rfl ?_|refine zH .here rfl rfl rfl rfl ?_|refine zH (.there .here) rfl rfl rfl rfl ?_|refine zH (.there (.there .here)) rfl rfl rfl rfl ?_)
      exact J_retv rfl (.tmp rfl .nil) [] (fun w s => s.drop) (PH.ler _) ⟨rfl, rfl⟩
  · rw [decide_eq_false (fun h => h1 h.1)]
    repeat (first|refine zJ rfl rfl ?_|refine jr rfl ?_|refine jn ?_|refine zM rfl rfl ?_|(refine zC rfl rfl ?_ rfl ?_;omega)|(refine zD rfl rfl ?_ rfl ?_;omega)|(refine zP rfl ?_ rfl ?_;omega)|refine zG rfl rfl rfl rfl ?_|(refine jdq rfl rfl ?_ ?_ ?_;kernel_rfl;kernel_rfl)|refine zB rfl rfl rfl (by repeat constructor) rfl ?_|refine zH .here rfl rfl rfl rfl ?_|refine zH (.there .here) rfl rfl rfl rfl ?_|refine zH (.there (.there .here)) rfl rfl rfl rfl ?_)
    exact J_retv rfl (.tmp rfl .nil) [] (fun w s => s.drop) (PH.ler _) ⟨rfl, rfl⟩
theorem Client_spec (n c : Int) (F : PH) (hn : 1 ≤ n ∧ n ≤ 7) : Pure Try.prog 60 [.int .i64 c, .int .i64 n] F (.bool (clB n c)) := by
  refine Spec.of2 Try.func60 rfl rfl fun X w0 => ?_
  unfold clB
  by_cases h1 : n ≤ c
  · by_cases h2 : c < n + 4
    · rw [decide_eq_true ⟨h1, h2⟩]
      repeat (first|refine zJ rfl rfl ?_|refine jr rfl ?_|refine jn ?_|refine zM rfl rfl ?_|(refine zC rfl rfl ?_ rfl ?_;omega)|(refine zD rfl rfl ?_ rfl ?_;omega)|(refine zP rfl ?_ rfl ?_;omega)|refine zG rfl rfl rfl rfl ?_|(refine jdq rfl rfl ?_ ?_ ?_;kernel_rfl;kernel_rfl)|refine zB rfl rfl rfl (by repeat constructor) rfl ?_)
      exact J_retv rfl (.tmp rfl .nil) [] (fun w s => s) (PH.ler _) ⟨rfl, rfl⟩
    · rw [decide_eq_false (fun h => h2 h.2)]
      repeat (first|refine zJ rfl rfl ?_|refine jr rfl ?_|refine jn ?_|refine zM rfl rfl ?_|(refine zC rfl rfl ?_ rfl ?_;omega)|(refine zD rfl rfl ?_ rfl ?_;omega)|(refine zP rfl ?_ rfl ?_;omega)|refine zG rfl rfl rfl rfl ?_|(refine jdq rfl rfl ?_ ?_ ?_;kernel_rfl;kernel_rfl)|refine zB rfl rfl rfl (by repeat constructor) rfl ?_)
      exact J_retv rfl (.tmp rfl .nil) [] (fun w s => s) (PH.ler _) ⟨rfl, rfl⟩
  · rw [decide_eq_false (fun h => h1 h.1)]
    repeat (first|refine zJ rfl rfl ?_|refine jr rfl ?_|refine jn ?_|refine zM rfl rfl ?_|(refine zC rfl rfl ?_ rfl ?_;omega)|(refine zD rfl rfl ?_ rfl ?_;omega)|(refine zP rfl ?_ rfl ?_;omega)|refine zG rfl rfl rfl rfl ?_|(refine jdq rfl rfl ?_ ?_ ?_;kernel_rfl;kernel_rfl)|refine zB rfl rfl rfl (by repeat constructor) rfl ?_)
    exact J_retv rfl (.tmp rfl .nil) [] (fun w s => s) (PH.ler _) ⟨rfl, rfl⟩
theorem odd_spec (n : Int) (F : PH) : Pure Try.prog 53 [.agg #[.int .i64 n]] F (.bool (decide (n < 1 ∨ 7 < n))) := by
  refine Spec.of1 Try.func53 rfl rfl fun X w0 => ?_
  refine jc rfl rfl ?_
  refine jr rfl ?_
  refine oE (ev_box (cs := [.int .i64 n]) rfl .agg) rfl ?_
  rintro _ _ _ _ ⟨rfl, b, rfl, rfl⟩
  by_cases h1 : n < 1
  · rw [decide_eq_true (.inl h1)]
    repeat (first|refine zJ rfl rfl ?_|refine jr rfl ?_|refine jn ?_|refine zM rfl rfl ?_|(refine zC rfl rfl ?_ rfl ?_;omega)|(refine zD rfl rfl ?_ rfl ?_;omega)|(refine zP rfl ?_ rfl ?_;omega)|refine zG rfl rfl rfl rfl ?_|(refine jdq rfl rfl ?_ ?_ ?_;kernel_rfl;kernel_rfl)|refine zB rfl rfl rfl (by repeat constructor) rfl ?_|refine zH .here rfl rfl rfl rfl ?_|refine zH (.there .here) rfl rfl rfl rfl ?_|refine zH (.there (.there .here)) rfl rfl rfl rfl ?_)
    exact J_retv rfl (.tmp rfl .nil) [] (fun w s => s.drop) (PH.ler _) ⟨rfl, rfl⟩
  · by_cases h2 : 7 < n
    · rw [decide_eq_true (.inr h2)]
      repeat (first|refine zJ rfl rfl ?_|refine jr rfl ?_|refine jn ?_|refine zM rfl rfl ?_|(refine zC rfl rfl ?_ rfl ?_;omega)|(refine zD rfl rfl ?_ rfl ?_;omega)|(refine zP rfl ?_ rfl ?_;omega)|refine zG rfl rfl rfl rfl ?_|(refine jdq rfl rfl ?_ ?_ ?_;kernel_rfl;kernel_rfl)|refine zB rfl rfl rfl (by repeat constructor) rfl ?_|refine zH .here rfl rfl rfl rfl ?_|refine zH (.there .here) rfl rfl rfl rfl ?_|refine zH (.there (.there .here)) rfl rfl rfl rfl ?_)
      exact J_retv rfl (.tmp rfl .nil) [] (fun w s => s.drop) (PH.ler _) ⟨rfl, rfl⟩
    · rw [decide_eq_false (fun h => h.elim h1 h2)]
      repeat (first|refine zJ rfl rfl ?_|refine jr rfl ?_|refine jn ?_|refine zM rfl rfl ?_|(refine zC rfl rfl ?_ rfl ?_;omega)|(refine zD rfl rfl ?_ rfl ?_;omega)|(refine zP rfl ?_ rfl ?_;omega)|refine zG rfl rfl rfl rfl ?_|(refine jdq rfl rfl ?_ ?_ ?_;kernel_rfl;kernel_rfl)|refine zB rfl rfl rfl (by repeat constructor) rfl ?_|refine zH .here rfl rfl rfl rfl ?_|refine zH (.there .here) rfl rfl rfl rfl ?_|refine zH (.there (.there .here)) rfl rfl rfl rfl ?_)
      exact J_retv rfl (.tmp rfl .nil) [] (fun w s => s.drop) (PH.ler _) ⟨rfl, rfl⟩
theorem low_spec (m : Nat) (n : Nat) (F : PH) (hm : m < 4294967296) (hn : n ≤ 7) : Pure Try.prog 62 [.int .u32 m, .int .i64 n] F (.bool (decide (m >>> n = 0))) := by
  refine Spec.of2 Try.func62 rfl rfl fun X w0 => ?_
  repeat (first|refine zJ rfl rfl ?_|refine jr rfl ?_|refine jn ?_|refine zM rfl rfl ?_|(refine zC rfl rfl ?_ rfl ?_;omega)|(refine zD rfl rfl ?_ rfl ?_;omega)|(refine zP rfl ?_ rfl ?_;omega)|refine zG rfl rfl rfl rfl ?_|(refine jdq rfl rfl ?_ ?_ ?_;kernel_rfl;kernel_rfl)|refine zB rfl rfl rfl (by repeat constructor) rfl ?_)
  refine J_loop (ι := Nat) (fun i => i ≤ n) (fun i => n - i) (fun i => [(0, .int .u32 ((m >>> i : Nat) : Int)), (1, .int .i64 n), (5, .int .i64 i)]) (fun _ => F) (fun _ => X) 0 (Nat.zero_le _) ⟨⟨rfl, rfl, rfl, trivial⟩, fun w s => s⟩ ?_
  intro i hi
  have hle : m >>> i ≤ m := by rw [Nat.shiftRight_eq_div_pow]; exact Nat.div_le_self _ _
  by_cases hlt : i < n
  · have hs : m >>> (i + 1) = (m >>> i) / 2 := by rw [Nat.shiftRight_succ]
    generalize hq : m >>> i = q at *
    repeat (first|refine zJ rfl rfl ?_|refine jr rfl ?_|refine jn ?_|refine zM rfl rfl ?_|(refine zC rfl rfl ?_ rfl ?_;omega)|(refine zD rfl rfl ?_ rfl ?_;omega)|(refine zP rfl ?_ rfl ?_;omega)|refine zG rfl rfl rfl rfl ?_|(refine jdq rfl rfl ?_ ?_ ?_;kernel_rfl;kernel_rfl)|refine zB rfl rfl rfl (by repeat constructor) rfl ?_)
    refine J_again (i + 1) hlt (by omega) ⟨⟨?_, rfl, rfl, trivial⟩, fun w s => s⟩
    rw [hs, Int.natCast_ediv]
    rfl
  · obtain rfl : i = n := by omega
    generalize hq : m >>> i = q at *
    by_cases h0 : q = 0
    · rw [decide_eq_true h0]
      repeat (first|refine zJ rfl rfl ?_|refine jr rfl ?_|refine jn ?_|refine zM rfl rfl ?_|(refine zC rfl rfl ?_ rfl ?_;omega)|(refine zD rfl rfl ?_ rfl ?_;omega)|(refine zP rfl ?_ rfl ?_;omega)|refine zG rfl rfl rfl rfl ?_|(refine jdq rfl rfl ?_ ?_ ?_;kernel_rfl;kernel_rfl)|refine zB rfl rfl rfl (by repeat constructor) rfl ?_)
      exact J_retv rfl (.tmp rfl .nil) [] (fun w s => s) (PH.ler _) ⟨rfl, rfl⟩
    · rw [decide_eq_false h0]
      repeat (first|refine zJ rfl rfl ?_|refine jr rfl ?_|refine jn ?_|refine zM rfl rfl ?_|(refine zC rfl rfl ?_ rfl ?_;omega)|(refine zD rfl rfl ?_ rfl ?_;omega)|(refine zP rfl ?_ rfl ?_;omega)|refine zG rfl rfl rfl rfl ?_|(refine jdq rfl rfl ?_ ?_ ?_;kernel_rfl;kernel_rfl)|refine zB rfl rfl rfl (by repeat constructor) rfl ?_)
      exact J_retv rfl (.tmp rfl .nil) [] (fun w s => s) (PH.ler _) ⟨rfl, rfl⟩
end Go.Proofs.Ytaggonhgafggkaa
