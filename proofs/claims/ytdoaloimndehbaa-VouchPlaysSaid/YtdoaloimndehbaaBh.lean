/-
  Count, Mask, Proved. Conditions are typed with each.
-/
import Derived.Test.YtdoaloimndehbaaBg
namespace Go.Proofs.Ytdoaloimndehbaa
open Go.RowKit
set_option maxRecDepth 100000
theorem count_spec2 (b bm : Nat) (n c s : Int) (d : Dg) (L : List VE) (F : PH) (h1 : 1 ≤ n) (h7 : n ≤ 7) (hv : VF F b n bm L) (h4 : ∀ q, (rowOf L q).length ≤ 4) :
    Pure Try.prog 32 [pT b, .int .i64 c, .int .i64 s, d.v] F (.int .i64 (masksP (rowOf L) c s d n.toNat).length) := by
  refine Spec.of4 Try.func32 rfl rfl fun X w0 => ?_
  refine jc rfl rfl ?_
  refine jr rfl ?_
  refine oE (ev_box rfl .agg) rfl ?_; rintro _ _ _ _ ⟨rfl, b7, rfl, rfl⟩
  repeat (first|refine zJ rfl rfl ?_|refine jr rfl ?_|refine jn ?_|refine zM rfl rfl ?_|(refine zC rfl rfl ?_ rfl ?_;omega)|(refine zD rfl rfl ?_ rfl ?_;omega)|(refine zP rfl ?_ rfl ?_;omega)|refine zG rfl rfl rfl rfl ?_|(refine jdq rfl rfl ?_ ?_ ?_;kernel_rfl;kernel_rfl)|refine zB rfl rfl rfl (by repeat constructor) rfl ?_|refine zH .here rfl rfl rfl rfl ?_|refine zH (.there .here) rfl rfl rfl rfl ?_|refine zH (.there (.there .here)) rfl rfl rfl rfl ?_)
  refine oS (ev_ldD (d := d) .here rfl (by rw [List.drop_zero, List.take_length])) rfl ?_
  refine oC (Hc := []) (Hr := blk b7 29 (u8s d.1) :: X) (masks_spec b bm n c s d L F h1 h7 hv h4) Try.call61 rfl rfl (fun _ s => s) ?_
  rintro u F1 _ hF1 ⟨rfl, hs⟩
  obtain ⟨_, a, cc, rfl, _⟩ := hs
  repeat (first|refine zJ rfl rfl ?_|refine jr rfl ?_|refine jn ?_|refine zM rfl rfl ?_|(refine zC rfl rfl ?_ rfl ?_;omega)|(refine zD rfl rfl ?_ rfl ?_;omega)|(refine zP rfl ?_ rfl ?_;omega)|refine zG rfl rfl rfl rfl ?_|(refine jdq rfl rfl ?_ ?_ ?_;kernel_rfl;kernel_rfl)|refine zB rfl rfl rfl (by repeat constructor) rfl ?_|refine zH .here rfl rfl rfl rfl ?_|refine zH (.there .here) rfl rfl rfl rfl ?_|refine zH (.there (.there .here)) rfl rfl rfl rfl ?_)
  exact J_retv rfl (.tmp rfl .nil) [] (fun w s => s.drop) hF1 ⟨rfl, rfl⟩
/-! bits -/
theorem bit_shr (a : W) (i : Nat) : ((a >>> i) &&& 1#32 = 0#32) ↔ a.getLsbD i = false := by
  rw [BitVec.and_one_eq_setWidth_ofBool_getLsbD, BitVec.getLsbD_ushiftRight, Nat.add_zero]
  cases a.getLsbD i <;> simp
theorem bit_one {i q : Nat} (hq : q < 32) : (1#32 <<< i).getLsbD q = decide (q = i) := by
  rw [BitVec.getLsbD_shiftLeft, decide_eq_true hq, Bool.true_and]
  by_cases h : q < i
  · rw [decide_eq_true h, decide_eq_false (by omega)]; rfl
  · rw [decide_eq_false h, Bool.not_false, Bool.true_and, BitVec.getLsbD_one]
    by_cases e : q = i
    · subst e; simp
    · rw [decide_eq_false e]; simp; omega
def cntW (ms : List W) (i : Nat) : Nat := ms.countP (·.getLsbD i)
theorem cntW_snoc {ms : List W} {j : Nat} {m : W} (h : ms[j]? = some m) (i : Nat) : cntW (ms.take (j + 1)) i = cntW (ms.take j) i + (if m.getLsbD i then 1 else 0) := by
  unfold cntW
  rw [List.take_add_one, h, Option.toList_some, List.countP_append, List.countP_cons, List.countP_nil, Nat.zero_add]
def bitAt (ms : List W) (at_ : Int) (i : Nat) : Bool := decide (1 ≤ at_ ∧ at_ ≤ (cntW ms i : Int))
/-- The organizations that enough voters saw. -/
def maskP (ms : List W) (at_ : Int) : W := (List.range 32).foldl (fun o i => if bitAt ms at_ i then o ||| (1#32 <<< i) else o) 0#32
theorem fold_bits (f : Nat → Bool) : ∀ (k : Nat), k ≤ 32 → ∀ q, q < 32 → ((List.range k).foldl (fun (o : W) i => if f i then o ||| (1#32 <<< i) else o) 0#32).getLsbD q = (decide (q < k) && f q)
  | 0, _, q, hq => by simp
  | k + 1, hk, q, hq => by
    rw [List.range_succ, List.foldl_append, List.foldl_cons, List.foldl_nil]
    have ih := fold_bits f k (by omega) q hq
    cases hf : f k with
    | true =>
      rw [if_pos rfl, BitVec.getLsbD_or, ih, bit_one hq]
      by_cases e : q = k
      · subst e; simp [hf]
      · rw [decide_eq_false e, Bool.or_false]
        congr 1
        rw [decide_eq_decide]
        omega
    | false =>
      rw [if_neg (by decide), ih]
      by_cases e : q = k
      · subst e; simp [hf]
      · congr 1
        rw [decide_eq_decide]
        omega
theorem maskP_bit (ms : List W) (at_ : Int) {q : Nat} (hq : q < 32) : (maskP ms at_).getLsbD q = bitAt ms at_ q := by
  unfold maskP
  rw [fold_bits _ 32 (Nat.le_refl _) q hq, decide_eq_true hq, Bool.true_and]
theorem maskP_eq {ms : List W} {at_ : Int} {o : W} (h : ∀ q, q < 32 → o.getLsbD q = bitAt ms at_ q) : o = maskP ms at_ :=
  BitVec.eq_of_getLsbD_eq fun q hq => by rw [h q hq, maskP_bit ms at_ hq]
abbrev iCs (l : List Int) : List Value := l.map (Value.int .i64)
theorem iCs_at {l : List Int} {i : Nat} {n : Int} (h : l[i]? = some n) : ((iCs l).drop i).take [Value.int .i64 n].length = [.int .i64 n] := by
  have h2 : (iCs l)[i]? = some (.int .i64 n) := by rw [List.getElem?_map, h]; rfl
  obtain ⟨hlt, he⟩ := List.getElem?_eq_some_iff.1 h2
  rw [List.drop_eq_getElem_cons hlt, he]
  rfl
theorem iCs_set {l : List Int} {i : Nat} {n m : Int} (h : l[i]? = some m) : Lay i [.int .i64 n] (iCs l) (iCs (l.set i n)) := by
  have hlt := (List.getElem?_eq_some_iff.1 h).1
  rw [show iCs (l.set i n) = (iCs l).set i (.int .i64 n) from List.map_set]
  exact lay_set _ (by rwa [List.length_map])
set_option maxHeartbeats 8000000 in
theorem mask_spec2 (b bm : Nat) (n c s at_ : Int) (d : Dg) (L : List VE) (F : PH) (h1 : 1 ≤ n) (h7 : n ≤ 7) (hv : VF F b n bm L) (h4 : ∀ q, (rowOf L q).length ≤ 4) :
    Pure Try.prog 33 [pT b, .int .i64 c, .int .i64 s, d.v, .int .i64 at_] F (w32 (maskP (masksP (rowOf L) c s d n.toNat) at_)) := by
  have hml := masksP_len (rowOf L) c s d h4 n.toNat
  refine Spec.of5 Try.func33 rfl rfl fun X w0 => ?_
  refine jc rfl rfl ?_
  refine jr rfl ?_
  refine oE (ev_box rfl .agg) rfl ?_; rintro _ _ _ _ ⟨rfl, b8, rfl, rfl⟩
  repeat (first|refine zJ rfl rfl ?_|refine jr rfl ?_|refine jn ?_|refine zM rfl rfl ?_|(refine zC rfl rfl ?_ rfl ?_;omega)|(refine zD rfl rfl ?_ rfl ?_;omega)|(refine zP rfl ?_ rfl ?_;omega)|refine zG rfl rfl rfl rfl ?_|(refine jdq rfl rfl ?_ ?_ ?_;kernel_rfl;kernel_rfl)|refine zB rfl rfl rfl (by repeat constructor) rfl ?_|refine zH .here rfl rfl rfl rfl ?_|refine zH (.there .here) rfl rfl rfl rfl ?_|refine zH (.there (.there .here)) rfl rfl rfl rfl ?_)
  refine oE (ev_alloc (cs := iCs (List.replicate 32 0)) rfl) rfl ?_
  rintro _ _ _ _ ⟨rfl, b11, rfl, rfl⟩
  repeat (first|refine zJ rfl rfl ?_|refine jr rfl ?_|refine jn ?_|refine zM rfl rfl ?_|(refine zC rfl rfl ?_ rfl ?_;omega)|(refine zD rfl rfl ?_ rfl ?_;omega)|(refine zP rfl ?_ rfl ?_;omega)|refine zG rfl rfl rfl rfl ?_|(refine jdq rfl rfl ?_ ?_ ?_;kernel_rfl;kernel_rfl)|refine zB rfl rfl rfl (by repeat constructor) rfl ?_|refine zH .here rfl rfl rfl rfl ?_|refine zH (.there .here) rfl rfl rfl rfl ?_|refine zH (.there (.there .here)) rfl rfl rfl rfl ?_)
  refine oS (ev_ldD (d := d) (.there .here) rfl (by rw [List.drop_zero, List.take_length])) rfl ?_
  refine oC (Hc := []) (Hr := blk b11 138 (iCs (List.replicate 32 0)) :: blk b8 29 (u8s d.1) :: X) (masks_spec b bm n c s d L F h1 h7 hv h4) Try.call61 rfl rfl (fun _ s => s) ?_
  rintro u F1 _ hF1 ⟨rfl, hs⟩
  obtain ⟨_, a, cc, hu, _, hat⟩ := slice1 hs
  subst hu
  generalize masksP (rowOf L) c s d n.toNat = ms at *
  repeat (first|refine zJ rfl rfl ?_|refine jr rfl ?_|refine jn ?_|refine zM rfl rfl ?_|(refine zC rfl rfl ?_ rfl ?_;omega)|(refine zD rfl rfl ?_ rfl ?_;omega)|(refine zP rfl ?_ rfl ?_;omega)|refine zG rfl rfl rfl rfl ?_|(refine jdq rfl rfl ?_ ?_ ?_;kernel_rfl;kernel_rfl)|refine zB rfl rfl rfl (by repeat constructor) rfl ?_|refine zH .here rfl rfl rfl rfl ?_|refine zH (.there .here) rfl rfl rfl rfl ?_|refine zH (.there (.there .here)) rfl rfl rfl rfl ?_)
  refine J_loop3 (fun (j : Nat) (sn : List Int) (o : W) => j ≤ ms.length ∧ sn.length = 32 ∧ (∀ q, q < 32 → sn[q]? = some (cntW (ms.take j) q : Int)) ∧ (∀ q, q < 32 → o.getLsbD q = bitAt (ms.take j) at_ q)) (fun j _ _ => ms.length - j) (fun j sn o => [(4, .int .i64 at_), (11, .pointer (some ⟨b11, 0, none⟩)), (12, w32 o), (20, .slice a ms.length cc), (21, .int .i64 ms.length), (22, .int .i64 j)]) (fun _ _ _ => F1) (fun _ sn _ => blk b11 138 (iCs sn) :: blk b8 29 (u8s d.1) :: X) 0 (List.replicate 32 0) 0#32
    ⟨Nat.zero_le _, List.length_replicate, fun q hq => by rw [List.getElem?_replicate, if_pos hq]; rfl, fun q hq => by rw [show bitAt (ms.take 0) at_ q = false from decide_eq_false (fun ⟨h1, h2⟩ => by rw [show cntW (ms.take 0) q = 0 from rfl] at h2; omega)]; simp⟩ ⟨⟨rfl, rfl, rfl, rfl, rfl, rfl, trivial⟩, fun _ s => s⟩ ?_
  rintro j sn o ⟨hj, hsl, hsn, ho⟩
  by_cases hlt : j < ms.length
  · have hg : ms[j]? = some ms[j] := List.getElem?_eq_getElem hlt
    obtain ⟨b1, o1, rfl, hc1⟩ := hat j _ hg
    have hcs := cntW_snoc hg
    generalize ms[j] = m at *
    repeat (first|refine zJ rfl rfl ?_|refine jr rfl ?_|refine jn ?_|refine zM rfl rfl ?_|(refine zC rfl rfl ?_ rfl ?_;omega)|(refine zD rfl rfl ?_ rfl ?_;omega)|(refine zP rfl ?_ rfl ?_;omega)|refine zG rfl rfl rfl rfl ?_|(refine jdq rfl rfl ?_ ?_ ?_;kernel_rfl;kernel_rfl)|refine zB rfl rfl rfl (by repeat constructor) rfl ?_|refine zH .here rfl rfl rfl rfl ?_|refine zH (.there .here) rfl rfl rfl rfl ?_|refine zH (.there (.there .here)) rfl rfl rfl rfl ?_)
    refine oS (ev_indexAddr rfl rfl rfl hlt) rfl ?_
    refine oS (ev_load (v := w32 m) rfl rfl (Rdb.ofF hc1)) rfl ?_
    repeat (first|refine zJ rfl rfl ?_|refine jr rfl ?_|refine jn ?_|refine zM rfl rfl ?_|(refine zC rfl rfl ?_ rfl ?_;omega)|(refine zD rfl rfl ?_ rfl ?_;omega)|(refine zP rfl ?_ rfl ?_;omega)|refine zG rfl rfl rfl rfl ?_|(refine jdq rfl rfl ?_ ?_ ?_;kernel_rfl;kernel_rfl)|refine zB rfl rfl rfl (by repeat constructor) rfl ?_|refine zH .here rfl rfl rfl rfl ?_|refine zH (.there .here) rfl rfl rfl rfl ?_|refine zH (.there (.there .here)) rfl rfl rfl rfl ?_)
    refine J_loop3 (fun (i : Nat) (sn : List Int) (o : W) => i ≤ 32 ∧ sn.length = 32 ∧ (∀ q, q < 32 → sn[q]? = some (cntW (ms.take (if q < i then j + 1 else j)) q : Int)) ∧ (∀ q, q < 32 → o.getLsbD q = bitAt (ms.take (if q < i then j + 1 else j)) at_ q)) (fun i _ _ => 32 - i) (fun i sn o => [(4, .int .i64 at_), (11, .pointer (some ⟨b11, 0, none⟩)), (12, w32 o), (20, .slice (some ⟨b1, o1, none⟩) ms.length cc), (21, .int .i64 ms.length), (22, .int .i64 j), (14, w32 m), (26, .int .i64 i)]) (fun _ _ _ => F1) (fun _ sn _ => blk b11 138 (iCs sn) :: blk b8 29 (u8s d.1) :: X) 0 sn o
      ⟨Nat.zero_le _, hsl, fun q hq => by rw [if_neg (by omega)]; exact hsn q hq, fun q hq => by rw [if_neg (by omega)]; exact ho q hq⟩ ⟨⟨rfl, rfl, rfl, rfl, rfl, rfl, rfl, rfl, trivial⟩, fun _ s => s⟩ ?_
    clear hsn ho hsl
    rintro i sn o ⟨hi, hsl, hsn, ho⟩
    by_cases hi32 : i < 32
    · have hsi := hsn i hi32
      have hoi := ho i hi32
      rw [if_neg (by omega)] at hsi hoi
      have hci := hcs i
      have hcl : cntW (ms.take j) i ≤ j := by
        have := List.countP_le_length (p := (·.getLsbD i)) (l := ms.take j)
        rw [List.length_take] at this
        unfold cntW
        omega
      have hone : ∀ (G : Nat → Prop), (∀ q, q < 32 → q ≠ i → G (if q < i then j + 1 else j)) → True := fun _ _ => trivial
      have hif : ∀ q, q ≠ i → (if q < i + 1 then j + 1 else j) = (if q < i then j + 1 else j) := fun q hq => by
        by_cases h : q < i
        · rw [if_pos h, if_pos (by omega)]
        · rw [if_neg h, if_neg (by omega)]
      repeat (first|refine zJ rfl rfl ?_|refine jr rfl ?_|refine jn ?_|refine zM rfl rfl ?_|(refine zC rfl rfl ?_ rfl ?_;omega)|(refine zD rfl rfl ?_ rfl ?_;omega)|(refine zP rfl ?_ rfl ?_;omega)|refine zG rfl rfl rfl rfl ?_|(refine jdq rfl rfl ?_ ?_ ?_;kernel_rfl;kernel_rfl)|refine zB rfl rfl rfl (by repeat constructor) rfl ?_|refine zH .here rfl rfl rfl rfl ?_|refine zH (.there .here) rfl rfl rfl rfl ?_|refine zH (.there (.there .here)) rfl rfl rfl rfl ?_)
      refine oS (eus rfl rfl (Int.natCast_nonneg i)) rfl ?_
      rw [Int.toNat_natCast]
      refine oS (eu (b := 1#32) rfl rfl rfl) rfl ?_
      cases hb : m.getLsbD i with
      | false =>
        rw [hb] at hci
        simp only [Bool.false_eq_true, if_false, Nat.add_zero] at hci
        refine oS (ev_eqW (b := 0#32) rfl rfl (decide_eq_true ((bit_shr m i).2 hb))) rfl ?_
        repeat (first|refine zJ rfl rfl ?_|refine jr rfl ?_|refine jn ?_|refine zM rfl rfl ?_|(refine zC rfl rfl ?_ rfl ?_;omega)|(refine zD rfl rfl ?_ rfl ?_;omega)|(refine zP rfl ?_ rfl ?_;omega)|refine zG rfl rfl rfl rfl ?_|(refine jdq rfl rfl ?_ ?_ ?_;kernel_rfl;kernel_rfl)|refine zB rfl rfl rfl (by repeat constructor) rfl ?_|refine zH .here rfl rfl rfl rfl ?_|refine zH (.there .here) rfl rfl rfl rfl ?_|refine zH (.there (.there .here)) rfl rfl rfl rfl ?_)
        refine J_again3 (i + 1) sn o ⟨hi32, hsl, fun q hq => ?_, fun q hq => ?_⟩ (by omega) ⟨⟨rfl, rfl, rfl, rfl, rfl, rfl, rfl, rfl, trivial⟩, fun w s => s⟩
        · by_cases e : q = i
          · subst e; rw [if_pos (Nat.lt_succ_self _), hci]; exact hsi
          · rw [hif q e]; exact hsn q hq
        · by_cases e : q = i
          · subst e; rw [if_pos (Nat.lt_succ_self _), hoi]; unfold bitAt; rw [hci]
          · rw [hif q e]; exact ho q hq
      | true =>
        rw [hb] at hci
        simp only [if_true] at hci
        have hset : ∀ q, q < 32 → (sn.set i ((cntW (ms.take j) i : Int) + 1))[q]? = some ((cntW (ms.take (if q < i + 1 then j + 1 else j)) q : Nat) : Int) := fun q hq => by
          by_cases e : q = i
          · subst e
            rw [if_pos (Nat.lt_succ_self _), hci, List.getElem?_set_self (by omega)]
            rfl
          · rw [hif q e, List.getElem?_set_ne (fun h => e h.symm)]; exact hsn q hq
        have hsi2 : (sn.set i ((cntW (ms.take j) i : Int) + 1))[i]? = some ((cntW (ms.take j) i : Int) + 1) := by rw [List.getElem?_set_self (by omega)]
        generalize hcn : cntW (ms.take j) i = cn at *
        refine oS (ev_eqW (b := 0#32) rfl rfl (decide_eq_false (fun h => by have := (bit_shr m i).1 h; rw [hb] at this; cases this))) rfl ?_
        repeat (first|refine zJ rfl rfl ?_|refine jr rfl ?_|refine jn ?_|refine zM rfl rfl ?_|(refine zC rfl rfl ?_ rfl ?_;omega)|(refine zD rfl rfl ?_ rfl ?_;omega)|(refine zP rfl ?_ rfl ?_;omega)|refine zG rfl rfl rfl rfl ?_|(refine jdq rfl rfl ?_ ?_ ?_;kernel_rfl;kernel_rfl)|refine zB rfl rfl rfl (by repeat constructor) rfl ?_|refine zH .here rfl rfl rfl rfl ?_|refine zH (.there .here) rfl rfl rfl rfl ?_|refine zH (.there (.there .here)) rfl rfl rfl rfl ?_)
        refine oS (ev_indexAddr_arr (i := i) rfl rfl rfl hi32) rfl ?_
        refine oS (ev_load (v := .int .i64 (cn : Int)) rfl rfl (Rdb.ofB (n := 0) .here (by rw [Nat.zero_add, Nat.mul_one]; exact iCs_at hsi))) rfl ?_
        repeat (first|refine zJ rfl rfl ?_|refine jr rfl ?_|refine jn ?_|refine zM rfl rfl ?_|(refine zC rfl rfl ?_ rfl ?_;omega)|(refine zD rfl rfl ?_ rfl ?_;omega)|(refine zP rfl ?_ rfl ?_;omega)|refine zG rfl rfl rfl rfl ?_|(refine jdq rfl rfl ?_ ?_ ?_;kernel_rfl;kernel_rfl)|refine zB rfl rfl rfl (by repeat constructor) rfl ?_|refine zH .here rfl rfl rfl rfl ?_|refine zH (.there .here) rfl rfl rfl rfl ?_|refine zH (.there (.there .here)) rfl rfl rfl rfl ?_)
        refine oS (ev_indexAddr_arr (i := i) rfl rfl rfl hi32) rfl ?_
        refine oN (ev_store (b := b11) (off := 0 + i * 1) rfl rfl .int rfl rfl (by rw [Nat.zero_add, Nat.mul_one]; exact iCs_set hsi) (ones_cons rfl ones_nil) .here) rfl ?_
        rintro _ _ _ _ ⟨rfl, _, rfl⟩
        repeat (first|refine zJ rfl rfl ?_|refine jr rfl ?_|refine jn ?_|refine zM rfl rfl ?_|(refine zC rfl rfl ?_ rfl ?_;omega)|(refine zD rfl rfl ?_ rfl ?_;omega)|(refine zP rfl ?_ rfl ?_;omega)|refine zG rfl rfl rfl rfl ?_|(refine jdq rfl rfl ?_ ?_ ?_;kernel_rfl;kernel_rfl)|refine zB rfl rfl rfl (by repeat constructor) rfl ?_|refine zH .here rfl rfl rfl rfl ?_|refine zH (.there .here) rfl rfl rfl rfl ?_|refine zH (.there (.there .here)) rfl rfl rfl rfl ?_)
        refine oS (ev_indexAddr_arr (i := i) rfl rfl rfl hi32) rfl ?_
        refine oS (ev_load (v := .int .i64 ((cn : Int) + 1)) rfl rfl (Rdb.ofB (n := 0) .here (by rw [Nat.zero_add, Nat.mul_one]; exact iCs_at hsi2))) rfl ?_
        have hnew : ∀ (o' : W), (∀ q, q < 32 → o'.getLsbD q = if q = i then decide (1 ≤ at_ ∧ at_ ≤ (cn : Int) + 1) else o.getLsbD q) → ∀ q, q < 32 → o'.getLsbD q = bitAt (ms.take (if q < i + 1 then j + 1 else j)) at_ q := fun o' h q hq => by
          rw [h q hq]
          by_cases e : q = i
          · subst e; rw [if_pos rfl, if_pos (Nat.lt_succ_self _)]; unfold bitAt; rw [hci]; rfl
          · rw [if_neg e, hif q e]; exact ho q hq
        by_cases hth : 1 ≤ at_ ∧ at_ ≤ (cn : Int) + 1
        · obtain ⟨ha1, ha2⟩ := id hth
          repeat (first|refine zJ rfl rfl ?_|refine jr rfl ?_|refine jn ?_|refine zM rfl rfl ?_|(refine zC rfl rfl ?_ rfl ?_;omega)|(refine zD rfl rfl ?_ rfl ?_;omega)|(refine zP rfl ?_ rfl ?_;omega)|refine zG rfl rfl rfl rfl ?_|(refine jdq rfl rfl ?_ ?_ ?_;kernel_rfl;kernel_rfl)|refine zB rfl rfl rfl (by repeat constructor) rfl ?_|refine zH .here rfl rfl rfl rfl ?_|refine zH (.there .here) rfl rfl rfl rfl ?_|refine zH (.there (.there .here)) rfl rfl rfl rfl ?_)
          refine oS (eusl (a := 1#32) rfl rfl (Int.natCast_nonneg i)) rfl ?_
          rw [Int.toNat_natCast]
          refine oS (eu rfl rfl rfl) rfl ?_
          repeat (first|refine zJ rfl rfl ?_|refine jr rfl ?_|refine jn ?_|refine zM rfl rfl ?_|(refine zC rfl rfl ?_ rfl ?_;omega)|(refine zD rfl rfl ?_ rfl ?_;omega)|(refine zP rfl ?_ rfl ?_;omega)|refine zG rfl rfl rfl rfl ?_|(refine jdq rfl rfl ?_ ?_ ?_;kernel_rfl;kernel_rfl)|refine zB rfl rfl rfl (by repeat constructor) rfl ?_|refine zH .here rfl rfl rfl rfl ?_|refine zH (.there .here) rfl rfl rfl rfl ?_|refine zH (.there (.there .here)) rfl rfl rfl rfl ?_)
          exact J_again3 (i + 1) (sn.set i ((cn : Int) + 1)) (o ||| 1#32 <<< i) ⟨hi32, by rw [List.length_set]; exact hsl, hset, hnew _ fun q hq => by
            rw [BitVec.getLsbD_or, bit_one hq]
            by_cases e : q = i
            · rw [if_pos e, decide_eq_true e, decide_eq_true hth, Bool.or_true]
            · rw [if_neg e, decide_eq_false e, Bool.or_false]⟩ (by omega) ⟨⟨rfl, rfl, rfl, rfl, rfl, rfl, rfl, rfl, trivial⟩, fun w s => s⟩
        · have hno : ∀ q, q < 32 → o.getLsbD q = bitAt (ms.take (if q < i + 1 then j + 1 else j)) at_ q := hnew o fun q hq => by
            by_cases e : q = i
            · subst e
              rw [if_pos rfl, decide_eq_false hth, hoi]
              unfold bitAt
              rw [hcn]
              exact decide_eq_false (fun h => hth ⟨h.1, by omega⟩)
            · rw [if_neg e]
          by_cases ha1 : 1 ≤ at_
          · have ha2 : (cn : Int) + 1 < at_ := by omega
            repeat (first|refine zJ rfl rfl ?_|refine jr rfl ?_|refine jn ?_|refine zM rfl rfl ?_|(refine zC rfl rfl ?_ rfl ?_;omega)|(refine zD rfl rfl ?_ rfl ?_;omega)|(refine zP rfl ?_ rfl ?_;omega)|refine zG rfl rfl rfl rfl ?_|(refine jdq rfl rfl ?_ ?_ ?_;kernel_rfl;kernel_rfl)|refine zB rfl rfl rfl (by repeat constructor) rfl ?_|refine zH .here rfl rfl rfl rfl ?_|refine zH (.there .here) rfl rfl rfl rfl ?_|refine zH (.there (.there .here)) rfl rfl rfl rfl ?_)
            exact J_again3 (i + 1) (sn.set i ((cn : Int) + 1)) o ⟨hi32, by rw [List.length_set]; exact hsl, hset, hno⟩ (by omega) ⟨⟨rfl, rfl, rfl, rfl, rfl, rfl, rfl, rfl, trivial⟩, fun w s => s⟩
          · repeat (first|refine zJ rfl rfl ?_|refine jr rfl ?_|refine jn ?_|refine zM rfl rfl ?_|(refine zC rfl rfl ?_ rfl ?_;omega)|(refine zD rfl rfl ?_ rfl ?_;omega)|(refine zP rfl ?_ rfl ?_;omega)|refine zG rfl rfl rfl rfl ?_|(refine jdq rfl rfl ?_ ?_ ?_;kernel_rfl;kernel_rfl)|refine zB rfl rfl rfl (by repeat constructor) rfl ?_|refine zH .here rfl rfl rfl rfl ?_|refine zH (.there .here) rfl rfl rfl rfl ?_|refine zH (.there (.there .here)) rfl rfl rfl rfl ?_)
            exact J_again3 (i + 1) (sn.set i ((cn : Int) + 1)) o ⟨hi32, by rw [List.length_set]; exact hsl, hset, hno⟩ (by omega) ⟨⟨rfl, rfl, rfl, rfl, rfl, rfl, rfl, rfl, trivial⟩, fun w s => s⟩
    · obtain rfl : i = 32 := by omega
      repeat (first|refine zJ rfl rfl ?_|refine jr rfl ?_|refine jn ?_|refine zM rfl rfl ?_|(refine zC rfl rfl ?_ rfl ?_;omega)|(refine zD rfl rfl ?_ rfl ?_;omega)|(refine zP rfl ?_ rfl ?_;omega)|refine zG rfl rfl rfl rfl ?_|(refine jdq rfl rfl ?_ ?_ ?_;kernel_rfl;kernel_rfl)|refine zB rfl rfl rfl (by repeat constructor) rfl ?_|refine zH .here rfl rfl rfl rfl ?_|refine zH (.there .here) rfl rfl rfl rfl ?_|refine zH (.there (.there .here)) rfl rfl rfl rfl ?_)
      refine J_again3 (j + 1) sn o ⟨hlt, hsl, fun q hq => by have := hsn q hq; rwa [if_pos hq] at this, fun q hq => by have := ho q hq; rwa [if_pos hq] at this⟩ (by omega) ⟨⟨rfl, rfl, rfl, rfl, rfl, rfl, trivial⟩, fun w s => s⟩
  · obtain rfl : j = ms.length := by omega
    rw [List.take_length] at ho
    rw [← maskP_eq ho]
    repeat (first|refine zJ rfl rfl ?_|refine jr rfl ?_|refine jn ?_|refine zM rfl rfl ?_|(refine zC rfl rfl ?_ rfl ?_;omega)|(refine zD rfl rfl ?_ rfl ?_;omega)|(refine zP rfl ?_ rfl ?_;omega)|refine zG rfl rfl rfl rfl ?_|(refine jdq rfl rfl ?_ ?_ ?_;kernel_rfl;kernel_rfl)|refine zB rfl rfl rfl (by repeat constructor) rfl ?_|refine zH .here rfl rfl rfl rfl ?_|refine zH (.there .here) rfl rfl rfl rfl ?_|refine zH (.there (.there .here)) rfl rfl rfl rfl ?_)
    exact J_retv rfl (.tmp rfl .nil) [] (fun w s => s.drop.drop) hF1 ⟨rfl, rfl⟩
theorem ev_andnotW {P : Program} {l : Env} {F : PH} {H : List Asrt} {d : Option Nat} {T T' U : TypeId} {pos : String} {af : Array Edge} {g : Option (Nat × Bool)} {x y : Operand} {a b : W} (hx : opv l x = some (w32 a)) (hy : opv l y = some (w32 b)) : Ev P ⟨d, .binOp .andNot T x y T', U, pos, af, g⟩ l F H (w32 (a &&& ~~~b)) := .of fun ρ hρ w _ => by
  have e1 := hρ _ _ hx; have e2 := hρ _ _ hy
  refine run_v (s := do eqGuard .andNot T x y (ρ x) (ρ y); binOp .andNot T (ρ x) (ρ y)) ?_
  rw [e1, e2]
  have key : (Op.intBits .andNot .u32 a.toNat b.toNat).run P w = .ok (w32 (a &&& ~~~b)) w := by
    show Sem.run P (pure (Value.int .u32 (IntKind.u32.wrap ((BitVec.ofInt 32 (a.toNat : Int) &&& ~~~ BitVec.ofInt 32 (b.toNat : Int)).toNat : Int)))) w = _
    rw [BitVec.ofInt_natCast, BitVec.ofInt_natCast, BitVec.ofNat_toNat, BitVec.ofNat_toNat, BitVec.setWidth_eq, BitVec.setWidth_eq, w32_wrap, BitVec.ofNat_toNat, BitVec.setWidth_eq]
    rfl
  unfold w32
  simpa [eqGuard, binOp, go_sem, w32] using key
def provedP (M : VM) (c s : Int) (d : Dg) (n : Nat) (mask : W) (at_ : Int) : Bool := decide (1 ≤ at_ ∧ at_ ≤ ((masksP M c s d n).length : Int) ∧ mask &&& ~~~(maskP (masksP M c s d n) at_) = 0#32)
theorem proved_spec2 (b bm : Nat) (n c s at_ : Int) (d : Dg) (mask : W) (L : List VE) (F : PH) (h1 : 1 ≤ n) (h7 : n ≤ 7) (hv : VF F b n bm L) (h4 : ∀ q, (rowOf L q).length ≤ 4) :
    Pure Try.prog 31 [pT b, .int .i64 c, .int .i64 s, d.v, w32 mask, .int .i64 at_] F (.bool (provedP (rowOf L) c s d n.toNat mask at_)) := by
  refine Spec.of6 Try.func31 rfl rfl fun X w0 => ?_
  refine jc rfl rfl ?_
  refine jr rfl ?_
  refine oE (ev_box rfl .agg) rfl ?_; rintro _ _ _ _ ⟨rfl, b9, rfl, rfl⟩
  have hc := count_spec2 b bm n c s d L F h1 h7 hv h4
  have hm := mask_spec2 b bm n c s at_ d L F h1 h7 hv h4
  unfold provedP
  generalize masksP (rowOf L) c s d n.toNat = ms at *
  by_cases h1 : 1 ≤ at_
  rotate_left
  · rw [decide_eq_false (fun h => h1 h.1)]
    repeat (first|refine zJ rfl rfl ?_|refine jr rfl ?_|refine jn ?_|refine zM rfl rfl ?_|(refine zC rfl rfl ?_ rfl ?_;omega)|(refine zD rfl rfl ?_ rfl ?_;omega)|(refine zP rfl ?_ rfl ?_;omega)|refine zG rfl rfl rfl rfl ?_|(refine jdq rfl rfl ?_ ?_ ?_;kernel_rfl;kernel_rfl)|refine zB rfl rfl rfl (by repeat constructor) rfl ?_|refine zH .here rfl rfl rfl rfl ?_|refine zH (.there .here) rfl rfl rfl rfl ?_|refine zH (.there (.there .here)) rfl rfl rfl rfl ?_)
    exact J_retv rfl (.tmp rfl .nil) [] (fun w s => s.drop) (PH.ler _) ⟨rfl, rfl⟩
  by_cases h2 : at_ ≤ (ms.length : Int)
  rotate_left
  · rw [decide_eq_false (fun h => h2 h.2.1)]
    repeat (first|refine zJ rfl rfl ?_|refine jr rfl ?_|refine jn ?_|refine zM rfl rfl ?_|(refine zC rfl rfl ?_ rfl ?_;omega)|(refine zD rfl rfl ?_ rfl ?_;omega)|(refine zP rfl ?_ rfl ?_;omega)|refine zG rfl rfl rfl rfl ?_|(refine jdq rfl rfl ?_ ?_ ?_;kernel_rfl;kernel_rfl)|refine zB rfl rfl rfl (by repeat constructor) rfl ?_|refine zH .here rfl rfl rfl rfl ?_|refine zH (.there .here) rfl rfl rfl rfl ?_|refine zH (.there (.there .here)) rfl rfl rfl rfl ?_)
    refine oS (ev_ldD (d := d) .here rfl (by rw [List.drop_zero, List.take_length])) rfl ?_
    refine oP (hc) Try.call32 rfl rfl ?_
    repeat (first|refine zJ rfl rfl ?_|refine jr rfl ?_|refine jn ?_|refine zM rfl rfl ?_|(refine zC rfl rfl ?_ rfl ?_;omega)|(refine zD rfl rfl ?_ rfl ?_;omega)|(refine zP rfl ?_ rfl ?_;omega)|refine zG rfl rfl rfl rfl ?_|(refine jdq rfl rfl ?_ ?_ ?_;kernel_rfl;kernel_rfl)|refine zB rfl rfl rfl (by repeat constructor) rfl ?_|refine zH .here rfl rfl rfl rfl ?_|refine zH (.there .here) rfl rfl rfl rfl ?_|refine zH (.there (.there .here)) rfl rfl rfl rfl ?_)
    exact J_retv rfl (.tmp rfl .nil) [] (fun w s => s.drop) (PH.ler _) ⟨rfl, rfl⟩
  · repeat (first|refine zJ rfl rfl ?_|refine jr rfl ?_|refine jn ?_|refine zM rfl rfl ?_|(refine zC rfl rfl ?_ rfl ?_;omega)|(refine zD rfl rfl ?_ rfl ?_;omega)|(refine zP rfl ?_ rfl ?_;omega)|refine zG rfl rfl rfl rfl ?_|(refine jdq rfl rfl ?_ ?_ ?_;kernel_rfl;kernel_rfl)|refine zB rfl rfl rfl (by repeat constructor) rfl ?_|refine zH .here rfl rfl rfl rfl ?_|refine zH (.there .here) rfl rfl rfl rfl ?_|refine zH (.there (.there .here)) rfl rfl rfl rfl ?_)
    refine oS (ev_ldD (d := d) .here rfl (by rw [List.drop_zero, List.take_length])) rfl ?_
    refine oP (hc) Try.call32 rfl rfl ?_
    repeat (first|refine zJ rfl rfl ?_|refine jr rfl ?_|refine jn ?_|refine zM rfl rfl ?_|(refine zC rfl rfl ?_ rfl ?_;omega)|(refine zD rfl rfl ?_ rfl ?_;omega)|(refine zP rfl ?_ rfl ?_;omega)|refine zG rfl rfl rfl rfl ?_|(refine jdq rfl rfl ?_ ?_ ?_;kernel_rfl;kernel_rfl)|refine zB rfl rfl rfl (by repeat constructor) rfl ?_|refine zH .here rfl rfl rfl rfl ?_|refine zH (.there .here) rfl rfl rfl rfl ?_|refine zH (.there (.there .here)) rfl rfl rfl rfl ?_)
    refine oS (ev_ldD (d := d) .here rfl (by rw [List.drop_zero, List.take_length])) rfl ?_
    repeat (first|refine zJ rfl rfl ?_|refine jr rfl ?_|refine jn ?_|refine zM rfl rfl ?_|(refine zC rfl rfl ?_ rfl ?_;omega)|(refine zD rfl rfl ?_ rfl ?_;omega)|(refine zP rfl ?_ rfl ?_;omega)|refine zG rfl rfl rfl rfl ?_|(refine jdq rfl rfl ?_ ?_ ?_;kernel_rfl;kernel_rfl)|refine zB rfl rfl rfl (by repeat constructor) rfl ?_|refine zH .here rfl rfl rfl rfl ?_|refine zH (.there .here) rfl rfl rfl rfl ?_|refine zH (.there (.there .here)) rfl rfl rfl rfl ?_)
    refine oP (hm) Try.call33 rfl rfl ?_
    refine oS (ev_andnotW rfl rfl) rfl ?_
    refine oS (ev_eqW (b := 0#32) rfl rfl rfl) rfl ?_
    rw [show decide (1 ≤ at_ ∧ at_ ≤ (ms.length : Int) ∧ mask &&& ~~~(maskP ms at_) = 0#32) = decide (mask &&& ~~~(maskP ms at_) = 0#32) from by rw [decide_eq_decide]; exact ⟨fun h => h.2.2, fun h => ⟨h1, h2, h⟩⟩]
    generalize decide (mask &&& ~~~(maskP ms at_) = 0#32) = r
    repeat (first|refine zJ rfl rfl ?_|refine jr rfl ?_|refine jn ?_|refine zM rfl rfl ?_|(refine zC rfl rfl ?_ rfl ?_;omega)|(refine zD rfl rfl ?_ rfl ?_;omega)|(refine zP rfl ?_ rfl ?_;omega)|refine zG rfl rfl rfl rfl ?_|(refine jdq rfl rfl ?_ ?_ ?_;kernel_rfl;kernel_rfl)|refine zB rfl rfl rfl (by repeat constructor) rfl ?_|refine zH .here rfl rfl rfl rfl ?_|refine zH (.there .here) rfl rfl rfl rfl ?_|refine zH (.there (.there .here)) rfl rfl rfl rfl ?_)
    exact J_retv rfl (.tmp rfl .nil) [] (fun w s => s.drop) (PH.ler _) ⟨rfl, rfl⟩
end Go.Proofs.Ytdoaloimndehbaa
