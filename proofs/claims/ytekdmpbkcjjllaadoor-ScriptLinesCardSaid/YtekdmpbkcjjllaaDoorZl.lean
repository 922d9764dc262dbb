/-
  The document's line of a step. Conditions are typed with each.
-/
import Derived.Test.YtekdmpbkcjjllaaDoorZq
namespace Go.Proofs.YtekdmpbkcjjllaaDoor
open Go.RowKit
set_option maxRecDepth 100000
theorem dhexD_snoc (bs : W8) (b : UInt8) : hexD (bs ++ [b]) = (hexD bs ++ [hx (b.toNat / 16)]) ++ [hx (b.toNat % 16)] := by simp [hexD]
set_option maxHeartbeats 8000000 in
theorem dhex_spec (v : Value) (bs : W8) (F : PH) (hv : Byt F v bs) (hl : bs.length ≤ 2000000) : Pure Tryd.prog 54 [v] F (.string (strOf (hexB bs))) := by
  have hv' := hv
  obtain ⟨_, a, c, rfl, hc, hat⟩ := slice1 hv'
  refine Spec.of1 Tryd.func54 rfl rfl fun X w0 => ?_
  repeat (first|refine zJ rfl rfl ?_|refine jr rfl ?_|refine jn ?_|refine zM rfl rfl ?_|(refine zC rfl rfl ?_ rfl ?_;omega)|(refine zD rfl rfl ?_ rfl ?_;omega)|(refine zP rfl ?_ rfl ?_;omega)|refine zG rfl rfl rfl rfl ?_|(refine jdq rfl rfl ?_ ?_ ?_;kernel_rfl;kernel_rfl)|refine zB rfl rfl rfl (by repeat constructor) rfl ?_|refine zH .here rfl rfl rfl rfl ?_|refine zH (.there .here) rfl rfl rfl rfl ?_|refine zH (.there (.there .here)) rfl rfl rfl rfl ?_)
  refine J_loop (ι := Nat) (fun i => i ≤ bs.length) (fun i => bs.length - i) (fun i => [(3, .string (strOf (hexD (bs.take i)))), (6, .slice a bs.length c), (7, .int .i64 bs.length), (8, .int .i64 i)]) (fun _ => F) (fun _ => X) 0 (Nat.zero_le _) ⟨⟨rfl, rfl, rfl, rfl, trivial⟩, fun w s => s⟩ ?_
  intro i hi
  by_cases hlt : i < bs.length
  · have hg : bs[i]? = some bs[i] := List.getElem?_eq_getElem hlt
    have hle := hexD_len (bs.take i)
    rw [List.length_take, Nat.min_eq_left hi] at hle
    obtain ⟨b1, o1, rfl, hcc⟩ := hat i bs[i] hg
    have hsn : hexD (bs.take (i + 1)) = (hexD (bs.take i) ++ [hx (bs[i].toNat / 16)]) ++ [hx (bs[i].toNat % 16)] := by
      rw [List.take_add_one, hg, Option.toList_some, dhexD_snoc]
    generalize bs[i] = b at *
    have hb : b.toNat < 256 := b.toNat_lt
    have q1 := hx_get (n := b.toNat / 16) (by omega)
    have q2 := hx_get (n := b.toNat % 16) (by omega)
    generalize hexD (bs.take i) = acc at *
    repeat (first|refine zJ rfl rfl ?_|refine jr rfl ?_|refine jn ?_|refine zM rfl rfl ?_|(refine zC rfl rfl ?_ rfl ?_;omega)|(refine zD rfl rfl ?_ rfl ?_;omega)|(refine zP rfl ?_ rfl ?_;omega)|refine zG rfl rfl rfl rfl ?_|(refine jdq rfl rfl ?_ ?_ ?_;kernel_rfl;kernel_rfl)|refine zB rfl rfl rfl (by repeat constructor) rfl ?_|refine zH .here rfl rfl rfl rfl ?_|refine zH (.there .here) rfl rfl rfl rfl ?_|refine zH (.there (.there .here)) rfl rfl rfl rfl ?_)
    refine oS (ev_indexAddr rfl rfl rfl hlt) rfl ?_
    refine oS (ev_load rfl rfl (Rdb.ofF hcc)) rfl ?_
    repeat (first|refine zJ rfl rfl ?_|refine jr rfl ?_|refine jn ?_|refine zM rfl rfl ?_|(refine zC rfl rfl ?_ rfl ?_;omega)|(refine zD rfl rfl ?_ rfl ?_;omega)|(refine zP rfl ?_ rfl ?_;omega)|refine zG rfl rfl rfl rfl ?_|(refine jdq rfl rfl ?_ ?_ ?_;kernel_rfl;kernel_rfl)|refine zB rfl rfl rfl (by repeat constructor) rfl ?_|refine zH .here rfl rfl rfl rfl ?_|refine zH (.there .here) rfl rfl rfl rfl ?_|refine zH (.there (.there .here)) rfl rfl rfl rfl ?_)
    try refine jd rfl ?_ ?_ ?_; kernel_rfl; kernel_rfl
    repeat (first|refine zJ rfl rfl ?_|refine jr rfl ?_|refine jn ?_|refine zM rfl rfl ?_|(refine zC rfl rfl ?_ rfl ?_;omega)|(refine zD rfl rfl ?_ rfl ?_;omega)|(refine zP rfl ?_ rfl ?_;omega)|refine zG rfl rfl rfl rfl ?_|(refine jdq rfl rfl ?_ ?_ ?_;kernel_rfl;kernel_rfl)|refine zB rfl rfl rfl (by repeat constructor) rfl ?_|refine zH .here rfl rfl rfl rfl ?_|refine zH (.there .here) rfl rfl rfl rfl ?_|refine zH (.there (.there .here)) rfl rfl rfl rfl ?_)
    refine oS (ev_sub1 (s := hxT) (i := b.toNat / 16) (c := hx (b.toNat / 16)) rfl (show opv _ _ = _ from congrArg (fun z : Int => some (Value.int .u8 z)) (by omega)) (show opv _ _ = _ from congrArg (fun z : Int => some (Value.int .u8 z)) (by omega)) rfl q1) rfl ?_
    refine oS (ev_cat rfl rfl (by simp; omega)) rfl ?_
    repeat (first|refine zJ rfl rfl ?_|refine jr rfl ?_|refine jn ?_|refine zM rfl rfl ?_|(refine zC rfl rfl ?_ rfl ?_;omega)|(refine zD rfl rfl ?_ rfl ?_;omega)|(refine zP rfl ?_ rfl ?_;omega)|refine zG rfl rfl rfl rfl ?_|(refine jdq rfl rfl ?_ ?_ ?_;kernel_rfl;kernel_rfl)|refine zB rfl rfl rfl (by repeat constructor) rfl ?_|refine zH .here rfl rfl rfl rfl ?_|refine zH (.there .here) rfl rfl rfl rfl ?_|refine zH (.there (.there .here)) rfl rfl rfl rfl ?_)
    refine oS (ev_sub1 (s := hxT) (i := b.toNat % 16) (c := hx (b.toNat % 16)) rfl (show opv _ _ = _ from congrArg (fun z : Int => some (Value.int .u8 z)) (by omega)) (show opv _ _ = _ from congrArg (fun z : Int => some (Value.int .u8 z)) (by omega)) rfl q2) rfl ?_
    refine oS (ev_cat rfl rfl (by simp; omega)) rfl ?_
    repeat (first|refine zJ rfl rfl ?_|refine jr rfl ?_|refine jn ?_|refine zM rfl rfl ?_|(refine zC rfl rfl ?_ rfl ?_;omega)|(refine zD rfl rfl ?_ rfl ?_;omega)|(refine zP rfl ?_ rfl ?_;omega)|refine zG rfl rfl rfl rfl ?_|(refine jdq rfl rfl ?_ ?_ ?_;kernel_rfl;kernel_rfl)|refine zB rfl rfl rfl (by repeat constructor) rfl ?_|refine zH .here rfl rfl rfl rfl ?_|refine zH (.there .here) rfl rfl rfl rfl ?_|refine zH (.there (.there .here)) rfl rfl rfl rfl ?_)
    exact J_again (i + 1) hlt (by omega) ⟨⟨congrArg (fun z => some (Value.string (strOf z))) hsn.symm, rfl, rfl, rfl, trivial⟩, fun w s => s⟩
  · obtain rfl : i = bs.length := by omega
    rw [List.take_length]
    have hle := hexD_len bs
    by_cases h0 : bs = []
    · subst h0
      repeat (first|refine zJ rfl rfl ?_|refine jr rfl ?_|refine jn ?_|refine zM rfl rfl ?_|(refine zC rfl rfl ?_ rfl ?_;omega)|(refine zD rfl rfl ?_ rfl ?_;omega)|(refine zP rfl ?_ rfl ?_;omega)|refine zG rfl rfl rfl rfl ?_|(refine jdq rfl rfl ?_ ?_ ?_;kernel_rfl;kernel_rfl)|refine zB rfl rfl rfl (by repeat constructor) rfl ?_|refine zH .here rfl rfl rfl rfl ?_|refine zH (.there .here) rfl rfl rfl rfl ?_|refine zH (.there (.there .here)) rfl rfl rfl rfl ?_)
      refine oS (ev_seql (bs := []) (cs := []) (r := true) rfl rfl (by decide)) rfl ?_
      repeat (first|refine zJ rfl rfl ?_|refine jr rfl ?_|refine jn ?_|refine zM rfl rfl ?_|(refine zC rfl rfl ?_ rfl ?_;omega)|(refine zD rfl rfl ?_ rfl ?_;omega)|(refine zP rfl ?_ rfl ?_;omega)|refine zG rfl rfl rfl rfl ?_|(refine jdq rfl rfl ?_ ?_ ?_;kernel_rfl;kernel_rfl)|refine zB rfl rfl rfl (by repeat constructor) rfl ?_|refine zH .here rfl rfl rfl rfl ?_|refine zH (.there .here) rfl rfl rfl rfl ?_|refine zH (.there (.there .here)) rfl rfl rfl rfl ?_)
      exact J_ret1 rfl rfl [] rfl (PH.ler _) ⟨rfl, rfl⟩
    · have hn : hexD bs ≠ [] := fun e => by rw [e] at hle; have := List.length_pos_iff.2 h0; simp at hle; omega
      have he : hexB bs = hexD bs := by unfold hexB; rw [if_neg h0]
      rw [he]
      repeat (first|refine zJ rfl rfl ?_|refine jr rfl ?_|refine jn ?_|refine zM rfl rfl ?_|(refine zC rfl rfl ?_ rfl ?_;omega)|(refine zD rfl rfl ?_ rfl ?_;omega)|(refine zP rfl ?_ rfl ?_;omega)|refine zG rfl rfl rfl rfl ?_|(refine jdq rfl rfl ?_ ?_ ?_;kernel_rfl;kernel_rfl)|refine zB rfl rfl rfl (by repeat constructor) rfl ?_|refine zH .here rfl rfl rfl rfl ?_|refine zH (.there .here) rfl rfl rfl rfl ?_|refine zH (.there (.there .here)) rfl rfl rfl rfl ?_)
      refine oS (ev_seql (cs := []) (r := false) rfl rfl (by simpa using hn)) rfl ?_
      repeat (first|refine zJ rfl rfl ?_|refine jr rfl ?_|refine jn ?_|refine zM rfl rfl ?_|(refine zC rfl rfl ?_ rfl ?_;omega)|(refine zD rfl rfl ?_ rfl ?_;omega)|(refine zP rfl ?_ rfl ?_;omega)|refine zG rfl rfl rfl rfl ?_|(refine jdq rfl rfl ?_ ?_ ?_;kernel_rfl;kernel_rfl)|refine zB rfl rfl rfl (by repeat constructor) rfl ?_|refine zH .here rfl rfl rfl rfl ?_|refine zH (.there .here) rfl rfl rfl rfl ?_|refine zH (.there (.there .here)) rfl rfl rfl rfl ?_)
      exact J_ret1 rfl rfl [] rfl (PH.ler _) ⟨rfl, rfl⟩
set_option maxHeartbeats 16000000 in
theorem dcoreS_spec (x : Co) (F : PH) (hx : CoIn x) (h1 : x.letter.length ≤ 100) (h2 : x.text.length ≤ 300) : Pure Tryd.prog 53 [.agg (coC x).toArray] F (.string (strOf (spW (coW x)))) := by
  have i1 := itoa_len hx.op
  have i2 := itoa_len hx.a
  have i3 := itoa_len hx.b
  have i4 := hexB_len x.text
  have e : spW (coW x) = ((((((((([32] ++ Lib.itoa x.op) ++ [32]) ++ x.letter) ++ [32]) ++ Lib.itoa x.a) ++ [32]) ++ Lib.itoa x.b) ++ [32]) ++ hexB x.text) := by simp [spW, coW]
  refine Spec.of1 Tryd.func53 rfl rfl fun X w0 => ?_
  rw [e]
  repeat (first|refine zJ rfl rfl ?_|refine jr rfl ?_|refine jn ?_|refine zM rfl rfl ?_|(refine zC rfl rfl ?_ rfl ?_;omega)|(refine zD rfl rfl ?_ rfl ?_;omega)|(refine zP rfl ?_ rfl ?_;omega)|refine zG rfl rfl rfl rfl ?_|(refine jdq rfl rfl ?_ ?_ ?_;kernel_rfl;kernel_rfl)|refine zB rfl rfl rfl (by repeat constructor) rfl ?_|refine zH .here rfl rfl rfl rfl ?_|refine zH (.there .here) rfl rfl rfl rfl ?_|refine zH (.there (.there .here)) rfl rfl rfl rfl ?_)
  refine oE (ev_box rfl .agg) rfl ?_; rintro _ _ _ _ ⟨rfl, b1, rfl, rfl⟩
  repeat (first|refine zJ rfl rfl ?_|refine jr rfl ?_|refine jn ?_|refine zM rfl rfl ?_|(refine zC rfl rfl ?_ rfl ?_;omega)|(refine zD rfl rfl ?_ rfl ?_;omega)|(refine zP rfl ?_ rfl ?_;omega)|refine zG rfl rfl rfl rfl ?_|(refine jdq rfl rfl ?_ ?_ ?_;kernel_rfl;kernel_rfl)|refine zB rfl rfl rfl (by repeat constructor) rfl ?_|refine zH .here rfl rfl rfl rfl ?_|refine zH (.there .here) rfl rfl rfl rfl ?_|refine zH (.there (.there .here)) rfl rfl rfl rfl ?_)
  refine ja F [blk b1 23 (coC x)] ?_ ?_ ?_; kernel_rfl
  · exact fun w s => s.head
  refine aT 0 rfl (ev_qe rfl) rfl rfl ?_ ?_ ?_ ?_; kernel_rfl; kernel_rfl; kernel_rfl
  refine aT 1 rfl (ev_load (v := .int .i64 x.op) rfl rfl (Rdb.ofB (n := 2) .here rfl)) rfl rfl ?_ ?_ ?_ ?_; kernel_rfl; kernel_rfl; kernel_rfl
  refine aT 5 rfl (ev_qe rfl) rfl rfl ?_ ?_ ?_ ?_; kernel_rfl; kernel_rfl; kernel_rfl
  refine aT 6 rfl (ev_load (v := .string (strOf x.letter)) rfl rfl (Rdb.ofB (n := 3) .here rfl)) rfl rfl ?_ ?_ ?_ ?_; kernel_rfl; kernel_rfl; kernel_rfl
  refine aT 9 rfl (ev_qe rfl) rfl rfl ?_ ?_ ?_ ?_; kernel_rfl; kernel_rfl; kernel_rfl
  refine aT 10 rfl (ev_load (v := .int .i64 x.a) rfl rfl (Rdb.ofB (n := 4) .here rfl)) rfl rfl ?_ ?_ ?_ ?_; kernel_rfl; kernel_rfl; kernel_rfl
  refine aT 14 rfl (ev_qe rfl) rfl rfl ?_ ?_ ?_ ?_; kernel_rfl; kernel_rfl; kernel_rfl
  refine aT 15 rfl (ev_load (v := .int .i64 x.b) rfl rfl (Rdb.ofB (n := 5) .here rfl)) rfl rfl ?_ ?_ ?_ ?_; kernel_rfl; kernel_rfl; kernel_rfl
  refine aT 19 rfl (ev_qe rfl) rfl rfl ?_ ?_ ?_ ?_; kernel_rfl; kernel_rfl; kernel_rfl
  refine aT 20 rfl (ev_load (v := .string (strOf x.text)) rfl rfl (Rdb.ofB (n := 6) .here rfl)) rfl rfl ?_ ?_ ?_ ?_; kernel_rfl; kernel_rfl; kernel_rfl
  refine aB2 (i := 2) (i' := 21) (by kernel_rfl) ?_ ?_
  · refine aP rfl (digits_spec x.op F hx.op) Tryd.call55 rfl rfl rfl (fun _ s => s.head) ?_
    refine aT 3 rfl (ev_cat (a := [32]) rfl rfl (by simp only [List.length_append, List.length_cons, List.length_nil]; omega)) rfl rfl ?_ ?_ ?_ ?_; kernel_rfl; kernel_rfl; kernel_rfl
    refine aT 4 rfl (ev_cat (b := [32]) rfl rfl (by simp only [List.length_append, List.length_cons, List.length_nil]; omega)) rfl rfl ?_ ?_ ?_ ?_; kernel_rfl; kernel_rfl; kernel_rfl
    refine aT 7 rfl (ev_cat rfl rfl (by simp only [List.length_append, List.length_cons, List.length_nil]; omega)) rfl rfl ?_ ?_ ?_ ?_; kernel_rfl; kernel_rfl; kernel_rfl
    refine aT 8 rfl (ev_cat (b := [32]) rfl rfl (by simp only [List.length_append, List.length_cons, List.length_nil]; omega)) rfl rfl ?_ ?_ ?_ ?_; kernel_rfl; kernel_rfl; kernel_rfl
    refine aB2 (i := 11) (i' := 21) (by kernel_rfl) ?_ ?_
    · refine aP rfl (digits_spec x.a F hx.a) Tryd.call55 rfl rfl rfl (fun _ s => s.head) ?_
      refine aT 12 rfl (ev_cat rfl rfl (by simp only [List.length_append, List.length_cons, List.length_nil]; omega)) rfl rfl ?_ ?_ ?_ ?_; kernel_rfl; kernel_rfl; kernel_rfl
      refine aT 13 rfl (ev_cat (b := [32]) rfl rfl (by simp only [List.length_append, List.length_cons, List.length_nil]; omega)) rfl rfl ?_ ?_ ?_ ?_; kernel_rfl; kernel_rfl; kernel_rfl
      refine aB2 (i := 16) (i' := 21) (by kernel_rfl) ?_ ?_
      · refine aP rfl (digits_spec x.b F hx.b) Tryd.call55 rfl rfl rfl (fun _ s => s.head) ?_
        refine aT 17 rfl (ev_cat rfl rfl (by simp only [List.length_append, List.length_cons, List.length_nil]; omega)) rfl rfl ?_ ?_ ?_ ?_; kernel_rfl; kernel_rfl; kernel_rfl
        refine aT 18 rfl (ev_cat (b := [32]) rfl rfl (by simp only [List.length_append, List.length_cons, List.length_nil]; omega)) rfl rfl ?_ ?_ ?_ ?_; kernel_rfl; kernel_rfl; kernel_rfl
        refine aB (i := 21) (by kernel_rfl) (aE rfl (eb_bytes rfl) rfl rfl (fun _ _ _ hF hq w s => by obtain ⟨_, e⟩ := hq; subst e; exact s.head.mono hF) ?_)
        rintro vt G _ hG ⟨hvt, rfl⟩
        refine aB (i := 22) (by kernel_rfl) (aP rfl (dhex_spec vt x.text G hvt (by omega)) Tryd.call54 rfl rfl rfl (fun _ s => s.head.mono hG) ?_)
        refine aT 23 rfl (ev_cat rfl rfl (by simp only [List.length_append, List.length_cons, List.length_nil]; omega)) rfl rfl ?_ ?_ ?_ ?_; kernel_rfl; kernel_rfl; kernel_rfl
        refine aT 24 rfl (ev_qe rfl) rfl rfl ?_ ?_ ?_ ?_; kernel_rfl; kernel_rfl; kernel_rfl
        refine aD (by kernel_rfl) ?_
        repeat (first|refine zJ rfl rfl ?_|refine jr rfl ?_|refine jn ?_|refine zM rfl rfl ?_|(refine zC rfl rfl ?_ rfl ?_;omega)|(refine zD rfl rfl ?_ rfl ?_;omega)|(refine zP rfl ?_ rfl ?_;omega)|refine zG rfl rfl rfl rfl ?_|(refine jdq rfl rfl ?_ ?_ ?_;kernel_rfl;kernel_rfl)|refine zB rfl rfl rfl (by repeat constructor) rfl ?_|refine zH .here rfl rfl rfl rfl ?_|refine zH (.there .here) rfl rfl rfl rfl ?_|refine zH (.there (.there .here)) rfl rfl rfl rfl ?_)
        exact J_retv rfl (.tmp rfl .nil) [] (fun w s => s.drop) hG ⟨rfl, rfl⟩
      · refine aE rfl (eb_bytes rfl) rfl rfl (fun _ _ _ hF hq w s => by obtain ⟨_, e⟩ := hq; subst e; exact s.head.mono hF) ?_
        rintro vt G _ hG ⟨hvt, rfl⟩
        refine aB (i := 16) (by kernel_rfl) (?_)
        refine aP rfl (digits_spec x.b G hx.b) Tryd.call55 rfl rfl rfl (fun _ s => s.head.mono hG) ?_
        refine aT 17 rfl (ev_cat rfl rfl (by simp only [List.length_append, List.length_cons, List.length_nil]; omega)) rfl rfl ?_ ?_ ?_ ?_; kernel_rfl; kernel_rfl; kernel_rfl
        refine aT 18 rfl (ev_cat (b := [32]) rfl rfl (by simp only [List.length_append, List.length_cons, List.length_nil]; omega)) rfl rfl ?_ ?_ ?_ ?_; kernel_rfl; kernel_rfl; kernel_rfl
        refine aB (i := 22) (by kernel_rfl) (aP rfl (dhex_spec vt x.text G hvt (by omega)) Tryd.call54 rfl rfl rfl (fun _ s => s.head.mono hG) ?_)
        refine aT 23 rfl (ev_cat rfl rfl (by simp only [List.length_append, List.length_cons, List.length_nil]; omega)) rfl rfl ?_ ?_ ?_ ?_; kernel_rfl; kernel_rfl; kernel_rfl
        refine aT 24 rfl (ev_qe rfl) rfl rfl ?_ ?_ ?_ ?_; kernel_rfl; kernel_rfl; kernel_rfl
        refine aD (by kernel_rfl) ?_
        repeat (first|refine zJ rfl rfl ?_|refine jr rfl ?_|refine jn ?_|refine zM rfl rfl ?_|(refine zC rfl rfl ?_ rfl ?_;omega)|(refine zD rfl rfl ?_ rfl ?_;omega)|(refine zP rfl ?_ rfl ?_;omega)|refine zG rfl rfl rfl rfl ?_|(refine jdq rfl rfl ?_ ?_ ?_;kernel_rfl;kernel_rfl)|refine zB rfl rfl rfl (by repeat constructor) rfl ?_|refine zH .here rfl rfl rfl rfl ?_|refine zH (.there .here) rfl rfl rfl rfl ?_|refine zH (.there (.there .here)) rfl rfl rfl rfl ?_)
        exact J_retv rfl (.tmp rfl .nil) [] (fun w s => s.drop) hG ⟨rfl, rfl⟩
    · refine aE rfl (eb_bytes rfl) rfl rfl (fun _ _ _ hF hq w s => by obtain ⟨_, e⟩ := hq; subst e; exact s.head.mono hF) ?_
      rintro vt G _ hG ⟨hvt, rfl⟩
      refine aB (i := 11) (by kernel_rfl) (?_)
      refine aP rfl (digits_spec x.a G hx.a) Tryd.call55 rfl rfl rfl (fun _ s => s.head.mono hG) ?_
      refine aT 12 rfl (ev_cat rfl rfl (by simp only [List.length_append, List.length_cons, List.length_nil]; omega)) rfl rfl ?_ ?_ ?_ ?_; kernel_rfl; kernel_rfl; kernel_rfl
      refine aT 13 rfl (ev_cat (b := [32]) rfl rfl (by simp only [List.length_append, List.length_cons, List.length_nil]; omega)) rfl rfl ?_ ?_ ?_ ?_; kernel_rfl; kernel_rfl; kernel_rfl
      refine aB (i := 16) (by kernel_rfl) (?_)
      refine aP rfl (digits_spec x.b G hx.b) Tryd.call55 rfl rfl rfl (fun _ s => s.head.mono hG) ?_
      refine aT 17 rfl (ev_cat rfl rfl (by simp only [List.length_append, List.length_cons, List.length_nil]; omega)) rfl rfl ?_ ?_ ?_ ?_; kernel_rfl; kernel_rfl; kernel_rfl
      refine aT 18 rfl (ev_cat (b := [32]) rfl rfl (by simp only [List.length_append, List.length_cons, List.length_nil]; omega)) rfl rfl ?_ ?_ ?_ ?_; kernel_rfl; kernel_rfl; kernel_rfl
      refine aB (i := 22) (by kernel_rfl) (aP rfl (dhex_spec vt x.text G hvt (by omega)) Tryd.call54 rfl rfl rfl (fun _ s => s.head.mono hG) ?_)
      refine aT 23 rfl (ev_cat rfl rfl (by simp only [List.length_append, List.length_cons, List.length_nil]; omega)) rfl rfl ?_ ?_ ?_ ?_; kernel_rfl; kernel_rfl; kernel_rfl
      refine aT 24 rfl (ev_qe rfl) rfl rfl ?_ ?_ ?_ ?_; kernel_rfl; kernel_rfl; kernel_rfl
      refine aD (by kernel_rfl) ?_
      repeat (first|refine zJ rfl rfl ?_|refine jr rfl ?_|refine jn ?_|refine zM rfl rfl ?_|(refine zC rfl rfl ?_ rfl ?_;omega)|(refine zD rfl rfl ?_ rfl ?_;omega)|(refine zP rfl ?_ rfl ?_;omega)|refine zG rfl rfl rfl rfl ?_|(refine jdq rfl rfl ?_ ?_ ?_;kernel_rfl;kernel_rfl)|refine zB rfl rfl rfl (by repeat constructor) rfl ?_|refine zH .here rfl rfl rfl rfl ?_|refine zH (.there .here) rfl rfl rfl rfl ?_|refine zH (.there (.there .here)) rfl rfl rfl rfl ?_)
      exact J_retv rfl (.tmp rfl .nil) [] (fun w s => s.drop) hG ⟨rfl, rfl⟩
  · refine aE rfl (eb_bytes rfl) rfl rfl (fun _ _ _ hF hq w s => by obtain ⟨_, e⟩ := hq; subst e; exact s.head.mono hF) ?_
    rintro vt G _ hG ⟨hvt, rfl⟩
    refine aB (i := 2) (by kernel_rfl) (?_)
    refine aP rfl (digits_spec x.op G hx.op) Tryd.call55 rfl rfl rfl (fun _ s => s.head.mono hG) ?_
    refine aT 3 rfl (ev_cat (a := [32]) rfl rfl (by simp only [List.length_append, List.length_cons, List.length_nil]; omega)) rfl rfl ?_ ?_ ?_ ?_; kernel_rfl; kernel_rfl; kernel_rfl
    refine aT 4 rfl (ev_cat (b := [32]) rfl rfl (by simp only [List.length_append, List.length_cons, List.length_nil]; omega)) rfl rfl ?_ ?_ ?_ ?_; kernel_rfl; kernel_rfl; kernel_rfl
    refine aT 7 rfl (ev_cat rfl rfl (by simp only [List.length_append, List.length_cons, List.length_nil]; omega)) rfl rfl ?_ ?_ ?_ ?_; kernel_rfl; kernel_rfl; kernel_rfl
    refine aT 8 rfl (ev_cat (b := [32]) rfl rfl (by simp only [List.length_append, List.length_cons, List.length_nil]; omega)) rfl rfl ?_ ?_ ?_ ?_; kernel_rfl; kernel_rfl; kernel_rfl
    refine aB (i := 11) (by kernel_rfl) (?_)
    refine aP rfl (digits_spec x.a G hx.a) Tryd.call55 rfl rfl rfl (fun _ s => s.head.mono hG) ?_
    refine aT 12 rfl (ev_cat rfl rfl (by simp only [List.length_append, List.length_cons, List.length_nil]; omega)) rfl rfl ?_ ?_ ?_ ?_; kernel_rfl; kernel_rfl; kernel_rfl
    refine aT 13 rfl (ev_cat (b := [32]) rfl rfl (by simp only [List.length_append, List.length_cons, List.length_nil]; omega)) rfl rfl ?_ ?_ ?_ ?_; kernel_rfl; kernel_rfl; kernel_rfl
    refine aB (i := 16) (by kernel_rfl) (?_)
    refine aP rfl (digits_spec x.b G hx.b) Tryd.call55 rfl rfl rfl (fun _ s => s.head.mono hG) ?_
    refine aT 17 rfl (ev_cat rfl rfl (by simp only [List.length_append, List.length_cons, List.length_nil]; omega)) rfl rfl ?_ ?_ ?_ ?_; kernel_rfl; kernel_rfl; kernel_rfl
    refine aT 18 rfl (ev_cat (b := [32]) rfl rfl (by simp only [List.length_append, List.length_cons, List.length_nil]; omega)) rfl rfl ?_ ?_ ?_ ?_; kernel_rfl; kernel_rfl; kernel_rfl
    refine aB (i := 22) (by kernel_rfl) (aP rfl (dhex_spec vt x.text G hvt (by omega)) Tryd.call54 rfl rfl rfl (fun _ s => s.head.mono hG) ?_)
    refine aT 23 rfl (ev_cat rfl rfl (by simp only [List.length_append, List.length_cons, List.length_nil]; omega)) rfl rfl ?_ ?_ ?_ ?_; kernel_rfl; kernel_rfl; kernel_rfl
    refine aT 24 rfl (ev_qe rfl) rfl rfl ?_ ?_ ?_ ?_; kernel_rfl; kernel_rfl; kernel_rfl
    refine aD (by kernel_rfl) ?_
    repeat (first|refine zJ rfl rfl ?_|refine jr rfl ?_|refine jn ?_|refine zM rfl rfl ?_|(refine zC rfl rfl ?_ rfl ?_;omega)|(refine zD rfl rfl ?_ rfl ?_;omega)|(refine zP rfl ?_ rfl ?_;omega)|refine zG rfl rfl rfl rfl ?_|(refine jdq rfl rfl ?_ ?_ ?_;kernel_rfl;kernel_rfl)|refine zB rfl rfl rfl (by repeat constructor) rfl ?_|refine zH .here rfl rfl rfl rfl ?_|refine zH (.there .here) rfl rfl rfl rfl ?_|refine zH (.there (.there .here)) rfl rfl rfl rfl ?_)
    exact J_retv rfl (.tmp rfl .nil) [] (fun w s => s.drop) hG ⟨rfl, rfl⟩
end Go.Proofs.YtekdmpbkcjjllaaDoor
