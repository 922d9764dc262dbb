/-
  Which core bytes tell, the program's and the document's. Conditions are typed with each. (Printed by wip/gen/rd.py.)
-/
import Derived.Test.YtaggonhgafggkaaRc
import Derived.Test.YtaggonhgafggkaaOj
namespace Go.Proofs.Ytaggonhgafggkaa
open Go.RowKit
set_option maxRecDepth 100000
def iN (n : Nat) : Int := IntKind.i64.wrap n
theorem iN_wrap (n : Nat) : IntKind.i64.wrap (n : Int) = iN n := rfl
/-- A core read: it, the error, what is left. -/
def coreR (most : Int) (bs : List UInt8) : Cr × Int × List UInt8 :=
  let r1 := numR 0 bs 1
  let r2 := numR r1.2.1 r1.2.2 8
  let r3 := numR r2.2.1 r2.2.2 1
  let r4 := rowR r3.2.1 r3.2.2 most
  let r5 := numR r4.2.1 r4.2.2 8
  let r6 := numR r5.2.1 r5.2.2 8
  let r7 := rowR r6.2.1 r6.2.2 most
  (⟨iN r1.1, iN r2.1, iN r3.1, r4.1, iN r5.1, iN r6.1, r7.1⟩, r7.2)
def coreP (bs : List UInt8) (n : Int) : Cr × Int :=
  if endR (coreR bs.length bs).2.1 (coreR bs.length bs).2.2 ≠ 0 then (Cr.zero, 2) else if (coreR bs.length bs).1.err n ≠ 0 then (Cr.zero, (coreR bs.length bs).1.err n) else ((coreR bs.length bs).1, 0)
def CoreQ (r : Cr × Int) (u : Value) (_ : PH) (H' : List Asrt) : Prop := H' = [] ∧ u = .tuple #[.agg r.1.cells.toArray, .int .i64 r.2]
theorem zCr_zero : Cr.zero.cells = zCr := rfl
theorem ones_zCr : Ones zCr := Cr.zero.ones
theorem fill_core : ∃ pl, placesOf Try.prog 52 = some pl ∧ ∀ c : Cr, FillF pl [(0, .int .i64 c.client), (1, .int .i64 c.stamp), (2, .int .i64 c.op), (3, .string (strOf c.letter)), (4, .int .i64 c.a), (5, .int .i64 c.b), (6, .string (strOf c.text))] zCr c.cells := ⟨_, rfl, fun c => by
  repeat (first | exact FillF.nil | refine FillF.cons (by constructor) rfl rfl (by repeat constructor) ?_)⟩
theorem rowR_short (e : Int) (bs : List UInt8) (m : Int) : (rowR e bs m).1.length ≤ bs.length := by
  by_cases h : (rowR e bs m).2.1 = 0
  · have := rowR_sum h; omega
  · rw [rowR_eq] at h ⊢
    split
    · exact Nat.zero_le _
    · split
      · exact Nat.zero_le _
      · rename_i h1 h2
        rw [if_neg h1, if_neg h2] at h
        rw [fixR_bad h]; exact Nat.zero_le _
theorem coreR_bad (bs : List UInt8) (n : Int) (m : Int) (hm : bs.length ≤ m) : coreP bs n = if endR (coreR m bs).2.1 (coreR m bs).2.2 ≠ 0 then (Cr.zero, 2) else if (coreR m bs).1.err n ≠ 0 then (Cr.zero, (coreR m bs).1.err n) else ((coreR m bs).1, 0) := by
  unfold coreP
  have key : ∀ k : Int, bs.length ≤ k → (coreR k bs = coreR bs.length bs) ∨ ((coreR k bs).2.1 ≠ 0 ∧ (coreR bs.length bs).2.1 ≠ 0) := by
    intro k hk
    have n1 := numR_rest 0 bs 1
    unfold coreR
    dsimp only
    generalize numR 0 bs 1 = r1 at *
    have n2 := numR_rest r1.2.1 r1.2.2 8
    generalize numR r1.2.1 r1.2.2 8 = r2 at *
    have n3 := numR_rest r2.2.1 r2.2.2 1
    generalize numR r2.2.1 r2.2.2 1 = r3 at *
    rcases rowR_most (e := r3.2.1) (bs := r3.2.2) (m := k) (m' := bs.length) (by omega) (by omega) with e4 | ⟨e4, e4'⟩
    · rw [e4]
      have n4 := rowR_rest' r3.2.1 r3.2.2 bs.length
      generalize rowR r3.2.1 r3.2.2 bs.length = r4 at *
      have n5 := numR_rest r4.2.1 r4.2.2 8
      generalize numR r4.2.1 r4.2.2 8 = r5 at *
      have n6 := numR_rest r5.2.1 r5.2.2 8
      generalize numR r5.2.1 r5.2.2 8 = r6 at *
      rcases rowR_most (e := r6.2.1) (bs := r6.2.2) (m := k) (m' := bs.length) (by omega) (by omega) with e7 | ⟨e7, e7'⟩
      · left; rw [e7]
      · right; exact ⟨e7, e7'⟩
    · right
      rw [numR_stick e4, numR_stick e4', numR_stick e4, numR_stick e4', rowR_stick e4, rowR_stick e4']
      exact ⟨e4, e4'⟩
  rcases key m hm with e | ⟨e, e'⟩
  · rw [e]
  · rw [if_pos (endR_bad e _), if_pos (endR_bad e' _)]
set_option maxHeartbeats 16000000 in
theorem parseCore_spec (v : Value) (bs : List UInt8) (n : Int) (F : PH) (h : Byt F v bs) (hl : bs.length ≤ 1048576) :
    Spec Try.prog 35 [v, .int .i64 n] F [] (CoreQ (coreP bs n)) := by
  obtain ⟨a, c, rfl, hc⟩ := h.form
  refine Spec.of2 Try.func35 rfl rfl fun X w0 => ?_
  refine jc rfl rfl ?_
  refine jr rfl ?_
  refine oE (ev_alloc (cs := zCr) rfl) rfl ?_
  rintro _ _ _ _ ⟨rfl, b4, rfl, rfl⟩
  repeat (first|refine zJ rfl rfl ?_|refine jr rfl ?_|refine jn ?_|refine zM rfl rfl ?_|(refine zC rfl rfl ?_ rfl ?_;omega)|(refine zD rfl rfl ?_ rfl ?_;omega)|(refine zP rfl ?_ rfl ?_;omega)|refine zG rfl rfl rfl rfl ?_|(refine jdq rfl rfl ?_ ?_ ?_;kernel_rfl;kernel_rfl)|refine zB rfl rfl rfl (by repeat constructor) rfl ?_|refine zH .here rfl rfl rfl rfl ?_|refine zH (.there .here) rfl rfl rfl rfl ?_|refine zH (.there (.there .here)) rfl rfl rfl rfl ?_)
  refine oC (Hc := []) (Hr := blk b4 52 zCr :: X) (read_spec _ bs F h (by omega)) Try.call47 rfl rfl (fun _ s => s) ?_
  rintro _ F0 _ hF0 ⟨br, v0, rfl, hv0, rfl⟩
  repeat (first|refine zJ rfl rfl ?_|refine jr rfl ?_|refine jn ?_|refine zM rfl rfl ?_|(refine zC rfl rfl ?_ rfl ?_;omega)|(refine zD rfl rfl ?_ rfl ?_;omega)|(refine zP rfl ?_ rfl ?_;omega)|refine zG rfl rfl rfl rfl ?_|(refine jdq rfl rfl ?_ ?_ ?_;kernel_rfl;kernel_rfl)|refine zB rfl rfl rfl (by repeat constructor) rfl ?_|refine zH .here rfl rfl rfl rfl ?_|refine zH (.there .here) rfl rfl rfl rfl ?_|refine zH (.there (.there .here)) rfl rfl rfl rfl ?_)
  refine oE (ev_alloc (cs := zCr) rfl) rfl ?_
  rintro _ _ _ _ ⟨rfl, b7, rfl, rfl⟩
  repeat (first|refine zJ rfl rfl ?_|refine jr rfl ?_|refine jn ?_|refine zM rfl rfl ?_|(refine zC rfl rfl ?_ rfl ?_;omega)|(refine zD rfl rfl ?_ rfl ?_;omega)|(refine zP rfl ?_ rfl ?_;omega)|refine zG rfl rfl rfl rfl ?_|(refine jdq rfl rfl ?_ ?_ ?_;kernel_rfl;kernel_rfl)|refine zB rfl rfl rfl (by repeat constructor) rfl ?_|refine zH .here rfl rfl rfl rfl ?_|refine zH (.there .here) rfl rfl rfl rfl ?_|refine zH (.there (.there .here)) rfl rfl rfl rfl ?_)
  refine oC (Hc := [rdr br v0 0]) (Hr := blk b7 52 [.int .i64 0, .int .i64 0, .int .i64 0, .string (strOf []), .int .i64 0, .int .i64 0, .string (strOf [])] :: blk b4 52 zCr :: X) (number_spec br v0 0 1 bs F0 hv0 (by omega)) Try.call73 rfl rfl (fun _ s => s.pick (.there .here)) ?_
  rintro _ F1 _ hF1 ⟨v1, rfl, hv1, rfl⟩
  have n1 := numR_rest 0 bs 1
  generalize hr1 : numR 0 bs 1 = r1 at *
  repeat (first|refine zJ rfl rfl ?_|refine jr rfl ?_|refine jn ?_|refine zM rfl rfl ?_|(refine zC rfl rfl ?_ rfl ?_;omega)|(refine zD rfl rfl ?_ rfl ?_;omega)|(refine zP rfl ?_ rfl ?_;omega)|refine zG rfl rfl rfl rfl ?_|(refine jdq rfl rfl ?_ ?_ ?_;kernel_rfl;kernel_rfl)|refine zB rfl rfl rfl (by repeat constructor) rfl ?_|refine zH .here rfl rfl rfl rfl ?_|refine zH (.there .here) rfl rfl rfl rfl ?_|refine zH (.there (.there .here)) rfl rfl rfl rfl ?_)
  refine oS (ev_conv rfl rfl rfl (iN_wrap _)) rfl ?_
  repeat (first|refine zJ rfl rfl ?_|refine jr rfl ?_|refine jn ?_|refine zM rfl rfl ?_|(refine zC rfl rfl ?_ rfl ?_;omega)|(refine zD rfl rfl ?_ rfl ?_;omega)|(refine zP rfl ?_ rfl ?_;omega)|refine zG rfl rfl rfl rfl ?_|(refine jdq rfl rfl ?_ ?_ ?_;kernel_rfl;kernel_rfl)|refine zB rfl rfl rfl (by repeat constructor) rfl ?_|refine zH .here rfl rfl rfl rfl ?_|refine zH (.there .here) rfl rfl rfl rfl ?_|refine zH (.there (.there .here)) rfl rfl rfl rfl ?_)
  refine oC (Hc := [rdr br v1 r1.2.1]) (Hr := blk b7 52 [.int .i64 0, .int .i64 0, .int .i64 0, .string (strOf []), .int .i64 0, .int .i64 0, .string (strOf [])] :: blk b4 52 zCr :: X) (number_spec br v1 r1.2.1 8 r1.2.2 F1 hv1 (by omega)) Try.call73 rfl rfl (fun _ s => s) ?_
  rintro _ F2 _ hF2 ⟨v2, rfl, hv2, rfl⟩
  have n2 := numR_rest r1.2.1 r1.2.2 8
  generalize hr2 : numR r1.2.1 r1.2.2 8 = r2 at *
  repeat (first|refine zJ rfl rfl ?_|refine jr rfl ?_|refine jn ?_|refine zM rfl rfl ?_|(refine zC rfl rfl ?_ rfl ?_;omega)|(refine zD rfl rfl ?_ rfl ?_;omega)|(refine zP rfl ?_ rfl ?_;omega)|refine zG rfl rfl rfl rfl ?_|(refine jdq rfl rfl ?_ ?_ ?_;kernel_rfl;kernel_rfl)|refine zB rfl rfl rfl (by repeat constructor) rfl ?_|refine zH .here rfl rfl rfl rfl ?_|refine zH (.there .here) rfl rfl rfl rfl ?_|refine zH (.there (.there .here)) rfl rfl rfl rfl ?_)
  refine oS (ev_conv rfl rfl rfl (iN_wrap _)) rfl ?_
  repeat (first|refine zJ rfl rfl ?_|refine jr rfl ?_|refine jn ?_|refine zM rfl rfl ?_|(refine zC rfl rfl ?_ rfl ?_;omega)|(refine zD rfl rfl ?_ rfl ?_;omega)|(refine zP rfl ?_ rfl ?_;omega)|refine zG rfl rfl rfl rfl ?_|(refine jdq rfl rfl ?_ ?_ ?_;kernel_rfl;kernel_rfl)|refine zB rfl rfl rfl (by repeat constructor) rfl ?_|refine zH .here rfl rfl rfl rfl ?_|refine zH (.there .here) rfl rfl rfl rfl ?_|refine zH (.there (.there .here)) rfl rfl rfl rfl ?_)
  refine oC (Hc := [rdr br v2 r2.2.1]) (Hr := blk b7 52 [.int .i64 0, .int .i64 0, .int .i64 0, .string (strOf []), .int .i64 0, .int .i64 0, .string (strOf [])] :: blk b4 52 zCr :: X) (number_spec br v2 r2.2.1 1 r2.2.2 F2 hv2 (by omega)) Try.call73 rfl rfl (fun _ s => s) ?_
  rintro _ F3 _ hF3 ⟨v3, rfl, hv3, rfl⟩
  have n3 := numR_rest r2.2.1 r2.2.2 1
  generalize hr3 : numR r2.2.1 r2.2.2 1 = r3 at *
  repeat (first|refine zJ rfl rfl ?_|refine jr rfl ?_|refine jn ?_|refine zM rfl rfl ?_|(refine zC rfl rfl ?_ rfl ?_;omega)|(refine zD rfl rfl ?_ rfl ?_;omega)|(refine zP rfl ?_ rfl ?_;omega)|refine zG rfl rfl rfl rfl ?_|(refine jdq rfl rfl ?_ ?_ ?_;kernel_rfl;kernel_rfl)|refine zB rfl rfl rfl (by repeat constructor) rfl ?_|refine zH .here rfl rfl rfl rfl ?_|refine zH (.there .here) rfl rfl rfl rfl ?_|refine zH (.there (.there .here)) rfl rfl rfl rfl ?_)
  refine oS (ev_conv rfl rfl rfl (iN_wrap _)) rfl ?_
  repeat (first|refine zJ rfl rfl ?_|refine jr rfl ?_|refine jn ?_|refine zM rfl rfl ?_|(refine zC rfl rfl ?_ rfl ?_;omega)|(refine zD rfl rfl ?_ rfl ?_;omega)|(refine zP rfl ?_ rfl ?_;omega)|refine zG rfl rfl rfl rfl ?_|(refine jdq rfl rfl ?_ ?_ ?_;kernel_rfl;kernel_rfl)|refine zB rfl rfl rfl (by repeat constructor) rfl ?_|refine zH .here rfl rfl rfl rfl ?_|refine zH (.there .here) rfl rfl rfl rfl ?_|refine zH (.there (.there .here)) rfl rfl rfl rfl ?_)
  refine oN (ev_store (b := b7) rfl rfl .int rfl rfl (by repeat constructor) (ones_cons rfl ones_nil) (.there .here)) rfl ?_
  rintro _ _ _ _ ⟨rfl, _, rfl⟩
  repeat (first|refine zJ rfl rfl ?_|refine jr rfl ?_|refine jn ?_|refine zM rfl rfl ?_|(refine zC rfl rfl ?_ rfl ?_;omega)|(refine zD rfl rfl ?_ rfl ?_;omega)|(refine zP rfl ?_ rfl ?_;omega)|refine zG rfl rfl rfl rfl ?_|(refine jdq rfl rfl ?_ ?_ ?_;kernel_rfl;kernel_rfl)|refine zB rfl rfl rfl (by repeat constructor) rfl ?_|refine zH .here rfl rfl rfl rfl ?_|refine zH (.there .here) rfl rfl rfl rfl ?_|refine zH (.there (.there .here)) rfl rfl rfl rfl ?_)
  refine oN (ev_store (b := b7) rfl rfl .int rfl rfl (by repeat constructor) (ones_cons rfl ones_nil) (.there .here)) rfl ?_
  rintro _ _ _ _ ⟨rfl, _, rfl⟩
  repeat (first|refine zJ rfl rfl ?_|refine jr rfl ?_|refine jn ?_|refine zM rfl rfl ?_|(refine zC rfl rfl ?_ rfl ?_;omega)|(refine zD rfl rfl ?_ rfl ?_;omega)|(refine zP rfl ?_ rfl ?_;omega)|refine zG rfl rfl rfl rfl ?_|(refine jdq rfl rfl ?_ ?_ ?_;kernel_rfl;kernel_rfl)|refine zB rfl rfl rfl (by repeat constructor) rfl ?_|refine zH .here rfl rfl rfl rfl ?_|refine zH (.there .here) rfl rfl rfl rfl ?_|refine zH (.there (.there .here)) rfl rfl rfl rfl ?_)
  refine oN (ev_store (b := b7) rfl rfl .int rfl rfl (by repeat constructor) (ones_cons rfl ones_nil) (.there .here)) rfl ?_
  rintro _ _ _ _ ⟨rfl, _, rfl⟩
  repeat (first|refine zJ rfl rfl ?_|refine jr rfl ?_|refine jn ?_|refine zM rfl rfl ?_|(refine zC rfl rfl ?_ rfl ?_;omega)|(refine zD rfl rfl ?_ rfl ?_;omega)|(refine zP rfl ?_ rfl ?_;omega)|refine zG rfl rfl rfl rfl ?_|(refine jdq rfl rfl ?_ ?_ ?_;kernel_rfl;kernel_rfl)|refine zB rfl rfl rfl (by repeat constructor) rfl ?_|refine zH .here rfl rfl rfl rfl ?_|refine zH (.there .here) rfl rfl rfl rfl ?_|refine zH (.there (.there .here)) rfl rfl rfl rfl ?_)
  refine oC (Hc := [rdr br v3 r3.2.1]) (Hr := blk b7 52 [.int .i64 (iN r1.1), .int .i64 (iN r2.1), .int .i64 (iN r3.1), .string (strOf []), .int .i64 0, .int .i64 0, .string (strOf [])] :: blk b4 52 zCr :: X) (rrow_spec br v3 r3.2.1 bs.length r3.2.2 F3 hv3 (by omega)) Try.call64 rfl rfl (fun _ s => s) ?_
  rintro u4 F4 _ hF4 ⟨v4, hu4, hv4, rfl⟩
  have n4 := rowR_rest' r3.2.1 r3.2.2 bs.length
  generalize hr4 : rowR r3.2.1 r3.2.2 bs.length = r4 at *
  obtain ⟨a4, c4, rfl, hc4⟩ := hu4.form
  have l4 : r4.1.length ≤ bs.length := by rw [← hr4]; exact Nat.le_trans (rowR_short _ _ _) (by omega)
  repeat (first|refine zJ rfl rfl ?_|refine jr rfl ?_|refine jn ?_|refine zM rfl rfl ?_|(refine zC rfl rfl ?_ rfl ?_;omega)|(refine zD rfl rfl ?_ rfl ?_;omega)|(refine zP rfl ?_ rfl ?_;omega)|refine zG rfl rfl rfl rfl ?_|(refine jdq rfl rfl ?_ ?_ ?_;kernel_rfl;kernel_rfl)|refine zB rfl rfl rfl (by repeat constructor) rfl ?_|refine zH .here rfl rfl rfl rfl ?_|refine zH (.there .here) rfl rfl rfl rfl ?_|refine zH (.there (.there .here)) rfl rfl rfl rfl ?_)
  refine oS (eb_string rfl (hu4.rds)) rfl ?_
  repeat (first|refine zJ rfl rfl ?_|refine jr rfl ?_|refine jn ?_|refine zM rfl rfl ?_|(refine zC rfl rfl ?_ rfl ?_;omega)|(refine zD rfl rfl ?_ rfl ?_;omega)|(refine zP rfl ?_ rfl ?_;omega)|refine zG rfl rfl rfl rfl ?_|(refine jdq rfl rfl ?_ ?_ ?_;kernel_rfl;kernel_rfl)|refine zB rfl rfl rfl (by repeat constructor) rfl ?_|refine zH .here rfl rfl rfl rfl ?_|refine zH (.there .here) rfl rfl rfl rfl ?_|refine zH (.there (.there .here)) rfl rfl rfl rfl ?_)
  refine oN (ev_store (b := b7) rfl rfl .string rfl rfl (by repeat constructor) (ones_cons rfl ones_nil) (.there .here)) rfl ?_
  rintro _ _ _ _ ⟨rfl, _, rfl⟩
  repeat (first|refine zJ rfl rfl ?_|refine jr rfl ?_|refine jn ?_|refine zM rfl rfl ?_|(refine zC rfl rfl ?_ rfl ?_;omega)|(refine zD rfl rfl ?_ rfl ?_;omega)|(refine zP rfl ?_ rfl ?_;omega)|refine zG rfl rfl rfl rfl ?_|(refine jdq rfl rfl ?_ ?_ ?_;kernel_rfl;kernel_rfl)|refine zB rfl rfl rfl (by repeat constructor) rfl ?_|refine zH .here rfl rfl rfl rfl ?_|refine zH (.there .here) rfl rfl rfl rfl ?_|refine zH (.there (.there .here)) rfl rfl rfl rfl ?_)
  refine oC (Hc := [rdr br v4 r4.2.1]) (Hr := blk b7 52 [.int .i64 (iN r1.1), .int .i64 (iN r2.1), .int .i64 (iN r3.1), .string (strOf r4.1), .int .i64 0, .int .i64 0, .string (strOf [])] :: blk b4 52 zCr :: X) (number_spec br v4 r4.2.1 8 r4.2.2 F4 hv4 (by omega)) Try.call73 rfl rfl (fun _ s => s) ?_
  rintro _ F5 _ hF5 ⟨v5, rfl, hv5, rfl⟩
  have n5 := numR_rest r4.2.1 r4.2.2 8
  generalize hr5 : numR r4.2.1 r4.2.2 8 = r5 at *
  repeat (first|refine zJ rfl rfl ?_|refine jr rfl ?_|refine jn ?_|refine zM rfl rfl ?_|(refine zC rfl rfl ?_ rfl ?_;omega)|(refine zD rfl rfl ?_ rfl ?_;omega)|(refine zP rfl ?_ rfl ?_;omega)|refine zG rfl rfl rfl rfl ?_|(refine jdq rfl rfl ?_ ?_ ?_;kernel_rfl;kernel_rfl)|refine zB rfl rfl rfl (by repeat constructor) rfl ?_|refine zH .here rfl rfl rfl rfl ?_|refine zH (.there .here) rfl rfl rfl rfl ?_|refine zH (.there (.there .here)) rfl rfl rfl rfl ?_)
  refine oS (ev_conv rfl rfl rfl (iN_wrap _)) rfl ?_
  repeat (first|refine zJ rfl rfl ?_|refine jr rfl ?_|refine jn ?_|refine zM rfl rfl ?_|(refine zC rfl rfl ?_ rfl ?_;omega)|(refine zD rfl rfl ?_ rfl ?_;omega)|(refine zP rfl ?_ rfl ?_;omega)|refine zG rfl rfl rfl rfl ?_|(refine jdq rfl rfl ?_ ?_ ?_;kernel_rfl;kernel_rfl)|refine zB rfl rfl rfl (by repeat constructor) rfl ?_|refine zH .here rfl rfl rfl rfl ?_|refine zH (.there .here) rfl rfl rfl rfl ?_|refine zH (.there (.there .here)) rfl rfl rfl rfl ?_)
  refine oC (Hc := [rdr br v5 r5.2.1]) (Hr := blk b7 52 [.int .i64 (iN r1.1), .int .i64 (iN r2.1), .int .i64 (iN r3.1), .string (strOf r4.1), .int .i64 0, .int .i64 0, .string (strOf [])] :: blk b4 52 zCr :: X) (number_spec br v5 r5.2.1 8 r5.2.2 F5 hv5 (by omega)) Try.call73 rfl rfl (fun _ s => s) ?_
  rintro _ F6 _ hF6 ⟨v6, rfl, hv6, rfl⟩
  have n6 := numR_rest r5.2.1 r5.2.2 8
  generalize hr6 : numR r5.2.1 r5.2.2 8 = r6 at *
  repeat (first|refine zJ rfl rfl ?_|refine jr rfl ?_|refine jn ?_|refine zM rfl rfl ?_|(refine zC rfl rfl ?_ rfl ?_;omega)|(refine zD rfl rfl ?_ rfl ?_;omega)|(refine zP rfl ?_ rfl ?_;omega)|refine zG rfl rfl rfl rfl ?_|(refine jdq rfl rfl ?_ ?_ ?_;kernel_rfl;kernel_rfl)|refine zB rfl rfl rfl (by repeat constructor) rfl ?_|refine zH .here rfl rfl rfl rfl ?_|refine zH (.there .here) rfl rfl rfl rfl ?_|refine zH (.there (.there .here)) rfl rfl rfl rfl ?_)
  refine oS (ev_conv rfl rfl rfl (iN_wrap _)) rfl ?_
  repeat (first|refine zJ rfl rfl ?_|refine jr rfl ?_|refine jn ?_|refine zM rfl rfl ?_|(refine zC rfl rfl ?_ rfl ?_;omega)|(refine zD rfl rfl ?_ rfl ?_;omega)|(refine zP rfl ?_ rfl ?_;omega)|refine zG rfl rfl rfl rfl ?_|(refine jdq rfl rfl ?_ ?_ ?_;kernel_rfl;kernel_rfl)|refine zB rfl rfl rfl (by repeat constructor) rfl ?_|refine zH .here rfl rfl rfl rfl ?_|refine zH (.there .here) rfl rfl rfl rfl ?_|refine zH (.there (.there .here)) rfl rfl rfl rfl ?_)
  refine oN (ev_store (b := b7) rfl rfl .int rfl rfl (by repeat constructor) (ones_cons rfl ones_nil) (.there .here)) rfl ?_
  rintro _ _ _ _ ⟨rfl, _, rfl⟩
  repeat (first|refine zJ rfl rfl ?_|refine jr rfl ?_|refine jn ?_|refine zM rfl rfl ?_|(refine zC rfl rfl ?_ rfl ?_;omega)|(refine zD rfl rfl ?_ rfl ?_;omega)|(refine zP rfl ?_ rfl ?_;omega)|refine zG rfl rfl rfl rfl ?_|(refine jdq rfl rfl ?_ ?_ ?_;kernel_rfl;kernel_rfl)|refine zB rfl rfl rfl (by repeat constructor) rfl ?_|refine zH .here rfl rfl rfl rfl ?_|refine zH (.there .here) rfl rfl rfl rfl ?_|refine zH (.there (.there .here)) rfl rfl rfl rfl ?_)
  refine oN (ev_store (b := b7) rfl rfl .int rfl rfl (by repeat constructor) (ones_cons rfl ones_nil) (.there .here)) rfl ?_
  rintro _ _ _ _ ⟨rfl, _, rfl⟩
  repeat (first|refine zJ rfl rfl ?_|refine jr rfl ?_|refine jn ?_|refine zM rfl rfl ?_|(refine zC rfl rfl ?_ rfl ?_;omega)|(refine zD rfl rfl ?_ rfl ?_;omega)|(refine zP rfl ?_ rfl ?_;omega)|refine zG rfl rfl rfl rfl ?_|(refine jdq rfl rfl ?_ ?_ ?_;kernel_rfl;kernel_rfl)|refine zB rfl rfl rfl (by repeat constructor) rfl ?_|refine zH .here rfl rfl rfl rfl ?_|refine zH (.there .here) rfl rfl rfl rfl ?_|refine zH (.there (.there .here)) rfl rfl rfl rfl ?_)
  refine oC (Hc := [rdr br v6 r6.2.1]) (Hr := blk b7 52 [.int .i64 (iN r1.1), .int .i64 (iN r2.1), .int .i64 (iN r3.1), .string (strOf r4.1), .int .i64 (iN r5.1), .int .i64 (iN r6.1), .string (strOf [])] :: blk b4 52 zCr :: X) (rrow_spec br v6 r6.2.1 bs.length r6.2.2 F6 hv6 (by omega)) Try.call64 rfl rfl (fun _ s => s) ?_
  rintro u7 F7 _ hF7 ⟨v7, hu7, hv7, rfl⟩
  have n7 := rowR_rest' r6.2.1 r6.2.2 bs.length
  generalize hr7 : rowR r6.2.1 r6.2.2 bs.length = r7 at *
  obtain ⟨a7, c7, rfl, hc7⟩ := hu7.form
  have l7 : r7.1.length ≤ bs.length := by rw [← hr7]; exact Nat.le_trans (rowR_short _ _ _) (by omega)
  repeat (first|refine zJ rfl rfl ?_|refine jr rfl ?_|refine jn ?_|refine zM rfl rfl ?_|(refine zC rfl rfl ?_ rfl ?_;omega)|(refine zD rfl rfl ?_ rfl ?_;omega)|(refine zP rfl ?_ rfl ?_;omega)|refine zG rfl rfl rfl rfl ?_|(refine jdq rfl rfl ?_ ?_ ?_;kernel_rfl;kernel_rfl)|refine zB rfl rfl rfl (by repeat constructor) rfl ?_|refine zH .here rfl rfl rfl rfl ?_|refine zH (.there .here) rfl rfl rfl rfl ?_|refine zH (.there (.there .here)) rfl rfl rfl rfl ?_)
  refine oS (eb_string rfl (hu7.rds)) rfl ?_
  repeat (first|refine zJ rfl rfl ?_|refine jr rfl ?_|refine jn ?_|refine zM rfl rfl ?_|(refine zC rfl rfl ?_ rfl ?_;omega)|(refine zD rfl rfl ?_ rfl ?_;omega)|(refine zP rfl ?_ rfl ?_;omega)|refine zG rfl rfl rfl rfl ?_|(refine jdq rfl rfl ?_ ?_ ?_;kernel_rfl;kernel_rfl)|refine zB rfl rfl rfl (by repeat constructor) rfl ?_|refine zH .here rfl rfl rfl rfl ?_|refine zH (.there .here) rfl rfl rfl rfl ?_|refine zH (.there (.there .here)) rfl rfl rfl rfl ?_)
  refine oN (ev_store (b := b7) rfl rfl .string rfl rfl (by repeat constructor) (ones_cons rfl ones_nil) (.there .here)) rfl ?_
  rintro _ _ _ _ ⟨rfl, _, rfl⟩
  repeat (first|refine zJ rfl rfl ?_|refine jr rfl ?_|refine jn ?_|refine zM rfl rfl ?_|(refine zC rfl rfl ?_ rfl ?_;omega)|(refine zD rfl rfl ?_ rfl ?_;omega)|(refine zP rfl ?_ rfl ?_;omega)|refine zG rfl rfl rfl rfl ?_|(refine jdq rfl rfl ?_ ?_ ?_;kernel_rfl;kernel_rfl)|refine zB rfl rfl rfl (by repeat constructor) rfl ?_|refine zH .here rfl rfl rfl rfl ?_|refine zH (.there .here) rfl rfl rfl rfl ?_|refine zH (.there (.there .here)) rfl rfl rfl rfl ?_)
  have hh : coreR bs.length bs = (⟨iN r1.1, iN r2.1, iN r3.1, r4.1, iN r5.1, iN r6.1, r7.1⟩, r7.2) := by
    unfold coreR; dsimp only; rw [hr1, hr2, hr3, hr4, hr5, hr6, hr7]
  unfold coreP
  rw [hh]
  dsimp only
  have hFF := hF0.trans (hF1.trans (hF2.trans (hF3.trans (hF4.trans (hF5.trans (hF6.trans hF7))))))
  generalize hcr : (⟨iN r1.1, iN r2.1, iN r3.1, r4.1, iN r5.1, iN r6.1, r7.1⟩ : Cr) = cr
  have hcc : [.int .i64 (iN r1.1), .int .i64 (iN r2.1), .int .i64 (iN r3.1), .string (strOf r4.1), .int .i64 (iN r5.1), .int .i64 (iN r6.1), .string (strOf r7.1)] = cr.cells := by rw [← hcr]; rfl
  have hcl : cr.letter.length ≤ 1048576 := by rw [← hcr]; dsimp only; omega
  have hct : cr.text.length ≤ 1048576 := by rw [← hcr]; dsimp only; omega
  rw [hcc]
  refine oC (Hc := [rdr br v7 r7.2.1]) (Hr := blk b7 52  cr.cells :: blk b4 52 zCr :: X) (end_spec br v7 r7.2.1 r7.2.2 F7 hv7) Try.call50 rfl rfl (fun _ s => s) ?_
  rintro _ _ _ _ ⟨rfl, rfl, rfl⟩
  by_cases he : endR r7.2.1 r7.2.2 = 0
  · rw [if_neg (fun h => h he)]
    repeat (first|refine zJ rfl rfl ?_|refine jr rfl ?_|refine jn ?_|refine zM rfl rfl ?_|(refine zC rfl rfl ?_ rfl ?_;omega)|(refine zD rfl rfl ?_ rfl ?_;omega)|(refine zP rfl ?_ rfl ?_;omega)|refine zG rfl rfl rfl rfl ?_|(refine jdq rfl rfl ?_ ?_ ?_;kernel_rfl;kernel_rfl)|refine zB rfl rfl rfl (by repeat constructor) rfl ?_|refine zH .here rfl rfl rfl rfl ?_|refine zH (.there .here) rfl rfl rfl rfl ?_|refine zH (.there (.there .here)) rfl rfl rfl rfl ?_)
    refine oS (ev_load_agg (cs := cr.cells) rfl rfl (Rdb.ofB (n := 0) (.there .here) rfl) cr.len) rfl ?_
    repeat (first|refine zJ rfl rfl ?_|refine jr rfl ?_|refine jn ?_|refine zM rfl rfl ?_|(refine zC rfl rfl ?_ rfl ?_;omega)|(refine zD rfl rfl ?_ rfl ?_;omega)|(refine zP rfl ?_ rfl ?_;omega)|refine zG rfl rfl rfl rfl ?_|(refine jdq rfl rfl ?_ ?_ ?_;kernel_rfl;kernel_rfl)|refine zB rfl rfl rfl (by repeat constructor) rfl ?_|refine zH .here rfl rfl rfl rfl ?_|refine zH (.there .here) rfl rfl rfl rfl ?_|refine zH (.there (.there .here)) rfl rfl rfl rfl ?_)
    refine oP (check_spec cr n _ (by omega) (by omega)) Try.call32 rfl rfl ?_
    by_cases hk : cr.err n = 0
    · rw [if_neg (fun h => h hk), hk]
      repeat (first|refine zJ rfl rfl ?_|refine jr rfl ?_|refine jn ?_|refine zM rfl rfl ?_|(refine zC rfl rfl ?_ rfl ?_;omega)|(refine zD rfl rfl ?_ rfl ?_;omega)|(refine zP rfl ?_ rfl ?_;omega)|refine zG rfl rfl rfl rfl ?_|(refine jdq rfl rfl ?_ ?_ ?_;kernel_rfl;kernel_rfl)|refine zB rfl rfl rfl (by repeat constructor) rfl ?_|refine zH .here rfl rfl rfl rfl ?_|refine zH (.there .here) rfl rfl rfl rfl ?_|refine zH (.there (.there .here)) rfl rfl rfl rfl ?_)
      refine oS (ev_load_agg (cs := cr.cells) rfl rfl (Rdb.ofB (n := 0) (.there .here) rfl) cr.len) rfl ?_
      refine oN (ev_store (b := b4) rfl rfl .agg rfl cr.len (lay_all (zs := zCr) cr.len) cr.ones (.there (.there .here))) rfl ?_
      rintro _ _ _ _ ⟨rfl, _, rfl⟩
      repeat (first|refine zJ rfl rfl ?_|refine jr rfl ?_|refine jn ?_|refine zM rfl rfl ?_|(refine zC rfl rfl ?_ rfl ?_;omega)|(refine zD rfl rfl ?_ rfl ?_;omega)|(refine zP rfl ?_ rfl ?_;omega)|refine zG rfl rfl rfl rfl ?_|(refine jdq rfl rfl ?_ ?_ ?_;kernel_rfl;kernel_rfl)|refine zB rfl rfl rfl (by repeat constructor) rfl ?_|refine zH .here rfl rfl rfl rfl ?_|refine zH (.there .here) rfl rfl rfl rfl ?_|refine zH (.there (.there .here)) rfl rfl rfl rfl ?_)
      exact J_retv rfl (.agg rfl rfl (Rdb.ofB (n := 0) (.there (.there .here)) rfl) cr.len (.tmp rfl .nil)) [] (fun w s => s.drop.drop.drop) hFF ⟨rfl, rfl⟩
    · rw [if_pos hk]
      repeat (first|refine zJ rfl rfl ?_|refine jr rfl ?_|refine jn ?_|refine zM rfl rfl ?_|(refine zC rfl rfl ?_ rfl ?_;omega)|(refine zD rfl rfl ?_ rfl ?_;omega)|(refine zP rfl ?_ rfl ?_;omega)|refine zG rfl rfl rfl rfl ?_|(refine jdq rfl rfl ?_ ?_ ?_;kernel_rfl;kernel_rfl)|refine zB rfl rfl rfl (by repeat constructor) rfl ?_|refine zH .here rfl rfl rfl rfl ?_|refine zH (.there .here) rfl rfl rfl rfl ?_|refine zH (.there (.there .here)) rfl rfl rfl rfl ?_)
      refine oN (ev_store (b := b4) rfl rfl .agg rfl rfl (lay_all (zs := zCr) rfl) ones_zCr (.there (.there .here))) rfl ?_
      rintro _ _ _ _ ⟨rfl, _, rfl⟩
      repeat (first|refine zJ rfl rfl ?_|refine jr rfl ?_|refine jn ?_|refine zM rfl rfl ?_|(refine zC rfl rfl ?_ rfl ?_;omega)|(refine zD rfl rfl ?_ rfl ?_;omega)|(refine zP rfl ?_ rfl ?_;omega)|refine zG rfl rfl rfl rfl ?_|(refine jdq rfl rfl ?_ ?_ ?_;kernel_rfl;kernel_rfl)|refine zB rfl rfl rfl (by repeat constructor) rfl ?_|refine zH .here rfl rfl rfl rfl ?_|refine zH (.there .here) rfl rfl rfl rfl ?_|refine zH (.there (.there .here)) rfl rfl rfl rfl ?_)
      exact J_retv rfl (.agg rfl rfl (Rdb.ofB (n := 0) (.there (.there .here)) rfl) rfl (.tmp rfl .nil)) [] (fun w s => s.drop.drop.drop) hFF ⟨rfl, rfl⟩
  · rw [if_pos he]
    repeat (first|refine zJ rfl rfl ?_|refine jr rfl ?_|refine jn ?_|refine zM rfl rfl ?_|(refine zC rfl rfl ?_ rfl ?_;omega)|(refine zD rfl rfl ?_ rfl ?_;omega)|(refine zP rfl ?_ rfl ?_;omega)|refine zG rfl rfl rfl rfl ?_|(refine jdq rfl rfl ?_ ?_ ?_;kernel_rfl;kernel_rfl)|refine zB rfl rfl rfl (by repeat constructor) rfl ?_|refine zH .here rfl rfl rfl rfl ?_|refine zH (.there .here) rfl rfl rfl rfl ?_|refine zH (.there (.there .here)) rfl rfl rfl rfl ?_)
    refine oN (ev_store (b := b4) rfl rfl .agg rfl rfl (lay_all (zs := zCr) rfl) ones_zCr (.there (.there .here))) rfl ?_
    rintro _ _ _ _ ⟨rfl, _, rfl⟩
    repeat (first|refine zJ rfl rfl ?_|refine jr rfl ?_|refine jn ?_|refine zM rfl rfl ?_|(refine zC rfl rfl ?_ rfl ?_;omega)|(refine zD rfl rfl ?_ rfl ?_;omega)|(refine zP rfl ?_ rfl ?_;omega)|refine zG rfl rfl rfl rfl ?_|(refine jdq rfl rfl ?_ ?_ ?_;kernel_rfl;kernel_rfl)|refine zB rfl rfl rfl (by repeat constructor) rfl ?_|refine zH .here rfl rfl rfl rfl ?_|refine zH (.there .here) rfl rfl rfl rfl ?_|refine zH (.there (.there .here)) rfl rfl rfl rfl ?_)
    exact J_retv rfl (.agg rfl rfl (Rdb.ofB (n := 0) (.there (.there .here)) rfl) rfl (.tmp rfl .nil)) [] (fun w s => s.drop.drop.drop) hFF ⟨rfl, rfl⟩
set_option maxHeartbeats 64000000 in
theorem ParseCore_spec (v : Value) (bs : List UInt8) (n : Int) (F : PH) (h : Byt F v bs) (hl : bs.length ≤ 1048576) :
    Spec Try.prog 36 [v, .int .i64 n] F [] (CoreQ (coreP bs n)) := by
  obtain ⟨a, c, rfl, hc⟩ := h.form
  obtain ⟨pl, hpl, hfl⟩ := fill_core
  refine Spec.of2 Try.func36 rfl rfl fun X w0 => ?_
  rw [coreR_bad bs n 1048576 (by omega)]
  refine jc rfl rfl ?_
  refine jr rfl ?_
  refine oE (ev_alloc (cs := zCr) rfl) rfl ?_
  rintro _ _ _ _ ⟨rfl, b4, rfl, rfl⟩
  repeat (first|refine zJ rfl rfl ?_|refine jr rfl ?_|refine jn ?_|refine zM rfl rfl ?_|(refine zC rfl rfl ?_ rfl ?_;omega)|(refine zD rfl rfl ?_ rfl ?_;omega)|(refine zP rfl ?_ rfl ?_;omega)|refine zG rfl rfl rfl rfl ?_|(refine jdq rfl rfl ?_ ?_ ?_;kernel_rfl;kernel_rfl)|refine zB rfl rfl rfl (by repeat constructor) rfl ?_|refine zH .here rfl rfl rfl rfl ?_|refine zH (.there .here) rfl rfl rfl rfl ?_|refine zH (.there (.there .here)) rfl rfl rfl rfl ?_)
  refine oE (ev_box rfl .agg) rfl ?_; rintro _ _ _ _ ⟨rfl, br, rfl, rfl⟩
  repeat (first|refine zJ rfl rfl ?_|refine jr rfl ?_|refine jn ?_|refine zM rfl rfl ?_|(refine zC rfl rfl ?_ rfl ?_;omega)|(refine zD rfl rfl ?_ rfl ?_;omega)|(refine zP rfl ?_ rfl ?_;omega)|refine zG rfl rfl rfl rfl ?_|(refine jdq rfl rfl ?_ ?_ ?_;kernel_rfl;kernel_rfl)|refine zB rfl rfl rfl (by repeat constructor) rfl ?_|refine zH .here rfl rfl rfl rfl ?_|refine zH (.there .here) rfl rfl rfl rfl ?_|refine zH (.there (.there .here)) rfl rfl rfl rfl ?_)
  refine J_join [_] (fun i : PH × Value × Nat => F.le i.1 ∧ Byt i.1 i.2.1 (coreR 1048576 bs).2.2 ∧ (coreR 1048576 bs).1.letter.length ≤ bs.length ∧ (coreR 1048576 bs).1.text.length ≤ bs.length) (fun i => [(1, .int .i64 n), (4, .pointer (some ⟨b4, 0, none⟩)), (6, .pointer (some ⟨br, 0, none⟩)), (7, .pointer (some ⟨i.2.2, 0, none⟩))]) (fun i => i.1) (fun i => Rdr br i.2.1 (coreR 1048576 bs).2.1 :: blk i.2.2 52 (coreR 1048576 bs).1.cells :: blk b4 52 zCr :: X) ?_ ?_
  · refine ja F [] ?_ ?_ ?_; kernel_rfl
    · exact fun w s => s.bare
    refine aT 0 rfl (ev_pv rfl) rfl rfl ?_ ?_ ?_ ?_; kernel_rfl; kernel_rfl; kernel_rfl
    refine aT 3 rfl (ev_pv rfl) rfl rfl ?_ ?_ ?_ ?_; kernel_rfl; kernel_rfl; kernel_rfl
    refine aT 6 rfl (ev_pv rfl) rfl rfl ?_ ?_ ?_ ?_; kernel_rfl; kernel_rfl; kernel_rfl
    refine aT 9 rfl (ev_pv rfl) rfl rfl ?_ ?_ ?_ ?_; kernel_rfl; kernel_rfl; kernel_rfl
    refine aT 12 rfl (ev_pv rfl) rfl rfl ?_ ?_ ?_ ?_; kernel_rfl; kernel_rfl; kernel_rfl
    refine aT 15 rfl (ev_pv rfl) rfl rfl ?_ ?_ ?_ ?_; kernel_rfl; kernel_rfl; kernel_rfl
    refine aT 18 rfl (ev_pv rfl) rfl rfl ?_ ?_ ?_ ?_; kernel_rfl; kernel_rfl; kernel_rfl
    refine aB2 (i := 1) (i' := 22) (by kernel_rfl) ?_ ?_
    · refine (aC (Hc := [Rdr br (.slice a bs.length c) 0]) (Hr := blk b4 52 zCr :: X) rfl (Number_spec br (.slice a bs.length c) 0 1 bs F h (by omega)) Try.call57 rfl rfl rfl (fun _ s => s) (fun _ _ _ hF _ w s => (s.mono hF).bare) ?_)
      rintro _ F1 _ hF1 ⟨v1, rfl, hv1, rfl⟩
      refine aF hF1 ?_
      have n1 := numR_rest 0 bs 1
      generalize hr1 : numR 0 bs 1 = r1 at *
      refine aT 2 rfl (ev_conv rfl rfl rfl (iN_wrap _)) rfl rfl ?_ ?_ ?_ ?_; kernel_rfl; kernel_rfl; kernel_rfl
      refine aB2 (i := 4) (i' := 22) (by kernel_rfl) ?_ ?_
      · refine (aC (Hc := [Rdr br v1 r1.2.1]) (Hr := blk b4 52 zCr :: X) rfl (Number_spec br v1 r1.2.1 8 r1.2.2 F1 hv1 (by omega)) Try.call57 rfl rfl rfl (fun _ s => s) (fun _ _ _ hF _ w s => (s.mono hF).bare) ?_)
        rintro _ F2 _ hF2 ⟨v2, rfl, hv2, rfl⟩
        refine aF hF2 ?_
        have n2 := numR_rest r1.2.1 r1.2.2 8
        generalize hr2 : numR r1.2.1 r1.2.2 8 = r2 at *
        refine aT 5 rfl (ev_conv rfl rfl rfl (iN_wrap _)) rfl rfl ?_ ?_ ?_ ?_; kernel_rfl; kernel_rfl; kernel_rfl
        refine aB2 (i := 7) (i' := 22) (by kernel_rfl) ?_ ?_
        · refine (aC (Hc := [Rdr br v2 r2.2.1]) (Hr := blk b4 52 zCr :: X) rfl (Number_spec br v2 r2.2.1 1 r2.2.2 F2 hv2 (by omega)) Try.call57 rfl rfl rfl (fun _ s => s) (fun _ _ _ hF _ w s => (s.mono hF).bare) ?_)
          rintro _ F3 _ hF3 ⟨v3, rfl, hv3, rfl⟩
          refine aF hF3 ?_
          have n3 := numR_rest r2.2.1 r2.2.2 1
          generalize hr3 : numR r2.2.1 r2.2.2 1 = r3 at *
          refine aT 8 rfl (ev_conv rfl rfl rfl (iN_wrap _)) rfl rfl ?_ ?_ ?_ ?_; kernel_rfl; kernel_rfl; kernel_rfl
          refine aB2 (i := 10) (i' := 22) (by kernel_rfl) ?_ ?_
          · refine (aC (Hc := [Rdr br v3 r3.2.1]) (Hr := blk b4 52 zCr :: X) rfl (RRow_spec br v3 r3.2.1 1048576 r3.2.2 F3 hv3 (by omega) (by decide)) Try.call65 rfl rfl rfl (fun _ s => s) (fun _ _ _ hF _ w s => (s.mono hF).bare) ?_)
            rintro u4 F4 _ hF4 ⟨v4, hu4, hv4, rfl⟩
            refine aF hF4 ?_
            have n4 := rowR_rest' r3.2.1 r3.2.2 1048576
            generalize hr4 : rowR r3.2.1 r3.2.2 1048576 = r4 at *
            obtain ⟨a4, c4, rfl, hc4⟩ := hu4.form
            have l4 : r4.1.length ≤ bs.length := by rw [← hr4]; exact Nat.le_trans (rowR_short _ _ _) (by omega)
            refine aT 11 rfl (eb_string rfl (hu4.rds)) rfl rfl ?_ ?_ ?_ ?_; kernel_rfl; kernel_rfl; kernel_rfl
            refine aB2 (i := 13) (i' := 22) (by kernel_rfl) ?_ ?_
            · refine (aC (Hc := [Rdr br v4 r4.2.1]) (Hr := blk b4 52 zCr :: X) rfl (Number_spec br v4 r4.2.1 8 r4.2.2 F4 hv4 (by omega)) Try.call57 rfl rfl rfl (fun _ s => s) (fun _ _ _ hF _ w s => (s.mono hF).bare) ?_)
              rintro _ F5 _ hF5 ⟨v5, rfl, hv5, rfl⟩
              refine aF hF5 ?_
              have n5 := numR_rest r4.2.1 r4.2.2 8
              generalize hr5 : numR r4.2.1 r4.2.2 8 = r5 at *
              refine aT 14 rfl (ev_conv rfl rfl rfl (iN_wrap _)) rfl rfl ?_ ?_ ?_ ?_; kernel_rfl; kernel_rfl; kernel_rfl
              refine aB2 (i := 16) (i' := 22) (by kernel_rfl) ?_ ?_
              · refine (aC (Hc := [Rdr br v5 r5.2.1]) (Hr := blk b4 52 zCr :: X) rfl (Number_spec br v5 r5.2.1 8 r5.2.2 F5 hv5 (by omega)) Try.call57 rfl rfl rfl (fun _ s => s) (fun _ _ _ hF _ w s => (s.mono hF).bare) ?_)
                rintro _ F6 _ hF6 ⟨v6, rfl, hv6, rfl⟩
                refine aF hF6 ?_
                have n6 := numR_rest r5.2.1 r5.2.2 8
                generalize hr6 : numR r5.2.1 r5.2.2 8 = r6 at *
                refine aT 17 rfl (ev_conv rfl rfl rfl (iN_wrap _)) rfl rfl ?_ ?_ ?_ ?_; kernel_rfl; kernel_rfl; kernel_rfl
                refine aB2 (i := 19) (i' := 22) (by kernel_rfl) ?_ ?_
                · refine (aC (Hc := [Rdr br v6 r6.2.1]) (Hr := blk b4 52 zCr :: X) rfl (RRow_spec br v6 r6.2.1 1048576 r6.2.2 F6 hv6 (by omega) (by decide)) Try.call65 rfl rfl rfl (fun _ s => s) (fun _ _ _ hF _ w s => (s.mono hF).bare) ?_)
                  rintro u7 F7 _ hF7 ⟨v7, hu7, hv7, rfl⟩
                  refine aF hF7 ?_
                  have n7 := rowR_rest' r6.2.1 r6.2.2 1048576
                  generalize hr7 : rowR r6.2.1 r6.2.2 1048576 = r7 at *
                  obtain ⟨a7, c7, rfl, hc7⟩ := hu7.form
                  have l7 : r7.1.length ≤ bs.length := by rw [← hr7]; exact Nat.le_trans (rowR_short _ _ _) (by omega)
                  refine aT 20 rfl (eb_string rfl (hu7.rds)) rfl rfl ?_ ?_ ?_ ?_; kernel_rfl; kernel_rfl; kernel_rfl
                  refine aT 21 rfl (ev_build (t := Cr.cells ⟨iN r1.1, iN r2.1, iN r3.1, r4.1, iN r5.1, iN r6.1, r7.1⟩) rfl rfl hpl (hfl ⟨iN r1.1, iN r2.1, iN r3.1, r4.1, iN r5.1, iN r6.1, r7.1⟩)) rfl rfl ?_ ?_ ?_ ?_; kernel_rfl; kernel_rfl; kernel_rfl
                  refine aB (i := 22) (by kernel_rfl) ?_
                  refine aE rfl (ev_alloc (cs := zCr) rfl) rfl rfl (fun _ _ _ _ ⟨e, _, _, e2⟩ w s => by subst e; subst e2; exact s.bare) ?_
                  rintro _ _ _ _ ⟨rfl, b7, rfl, rfl⟩
                  have hh : coreR 1048576 bs = (⟨iN r1.1, iN r2.1, iN r3.1, r4.1, iN r5.1, iN r6.1, r7.1⟩, r7.2) := by
                    unfold coreR; dsimp only; rw [hr1, hr2, hr3, hr4, hr5, hr6, hr7]
                  refine aB (i := 23) (by kernel_rfl) (aN rfl (ev_store (b := b7) rfl rfl .agg rfl rfl (lay_all (zs := zCr) rfl) (Cr.ones _) (.here)) rfl (fun _ _ _ _ ⟨e, _, e2⟩ w s => by subst e; exact s.bare) ?_)
                  rintro _ _ _ _ ⟨rfl, _, rfl⟩
                  refine aD (by kernel_rfl) ?_
                  refine J_joined (F7, v7, b7) ⟨hF1.trans (hF2.trans (hF3.trans (hF4.trans (hF5.trans (hF6.trans hF7))))), by rw [hh]; exact hv7, by rw [hh]; dsimp only; omega, by rw [hh]; dsimp only; omega⟩ ⟨⟨rfl, rfl, rfl, rfl, trivial⟩, fun w s => ?_⟩
                  rw [hh]
                  exact s.pick (.there .here)
                · refine aE rfl (ev_alloc (cs := zCr) rfl) rfl rfl (fun _ _ _ _ ⟨e, _, _, e2⟩ w s => by subst e; subst e2; exact s.bare) ?_
                  rintro _ _ _ _ ⟨rfl, b7, rfl, rfl⟩
                  refine aB (i := 19) (by kernel_rfl) (aC (Hc := [Rdr br v6 r6.2.1]) (Hr := blk b7 52 zCr :: blk b4 52 zCr :: X) rfl (RRow_spec br v6 r6.2.1 1048576 r6.2.2 F6 hv6 (by omega) (by decide)) Try.call65 rfl rfl rfl (fun _ s => s.pick (.there .here)) (fun _ _ _ hF _ w s => (s.mono hF).bare) ?_)
                  rintro u7 F7 _ hF7 ⟨v7, hu7, hv7, rfl⟩
                  refine aF hF7 ?_
                  have n7 := rowR_rest' r6.2.1 r6.2.2 1048576
                  generalize hr7 : rowR r6.2.1 r6.2.2 1048576 = r7 at *
                  obtain ⟨a7, c7, rfl, hc7⟩ := hu7.form
                  have l7 : r7.1.length ≤ bs.length := by rw [← hr7]; exact Nat.le_trans (rowR_short _ _ _) (by omega)
                  refine aT 20 rfl (eb_string rfl (hu7.rds)) rfl rfl ?_ ?_ ?_ ?_; kernel_rfl; kernel_rfl; kernel_rfl
                  refine aT 21 rfl (ev_build (t := Cr.cells ⟨iN r1.1, iN r2.1, iN r3.1, r4.1, iN r5.1, iN r6.1, r7.1⟩) rfl rfl hpl (hfl ⟨iN r1.1, iN r2.1, iN r3.1, r4.1, iN r5.1, iN r6.1, r7.1⟩)) rfl rfl ?_ ?_ ?_ ?_; kernel_rfl; kernel_rfl; kernel_rfl
                  have hh : coreR 1048576 bs = (⟨iN r1.1, iN r2.1, iN r3.1, r4.1, iN r5.1, iN r6.1, r7.1⟩, r7.2) := by
                    unfold coreR; dsimp only; rw [hr1, hr2, hr3, hr4, hr5, hr6, hr7]
                  refine aB (i := 23) (by kernel_rfl) (aN rfl (ev_store (b := b7) rfl rfl .agg rfl rfl (lay_all (zs := zCr) rfl) (Cr.ones _) (.there .here)) rfl (fun _ _ _ _ ⟨e, _, e2⟩ w s => by subst e; exact s.bare) ?_)
                  rintro _ _ _ _ ⟨rfl, _, rfl⟩
                  refine aD (by kernel_rfl) ?_
                  refine J_joined (F7, v7, b7) ⟨hF1.trans (hF2.trans (hF3.trans (hF4.trans (hF5.trans (hF6.trans hF7))))), by rw [hh]; exact hv7, by rw [hh]; dsimp only; omega, by rw [hh]; dsimp only; omega⟩ ⟨⟨rfl, rfl, rfl, rfl, trivial⟩, fun w s => ?_⟩
                  rw [hh]
                  exact s
              · refine aE rfl (ev_alloc (cs := zCr) rfl) rfl rfl (fun _ _ _ _ ⟨e, _, _, e2⟩ w s => by subst e; subst e2; exact s.bare) ?_
                rintro _ _ _ _ ⟨rfl, b7, rfl, rfl⟩
                refine aB (i := 16) (by kernel_rfl) (aC (Hc := [Rdr br v5 r5.2.1]) (Hr := blk b7 52 zCr :: blk b4 52 zCr :: X) rfl (Number_spec br v5 r5.2.1 8 r5.2.2 F5 hv5 (by omega)) Try.call57 rfl rfl rfl (fun _ s => s.pick (.there .here)) (fun _ _ _ hF _ w s => (s.mono hF).bare) ?_)
                rintro _ F6 _ hF6 ⟨v6, rfl, hv6, rfl⟩
                refine aF hF6 ?_
                have n6 := numR_rest r5.2.1 r5.2.2 8
                generalize hr6 : numR r5.2.1 r5.2.2 8 = r6 at *
                refine aT 17 rfl (ev_conv rfl rfl rfl (iN_wrap _)) rfl rfl ?_ ?_ ?_ ?_; kernel_rfl; kernel_rfl; kernel_rfl
                refine aB (i := 19) (by kernel_rfl) (aC (Hc := [Rdr br v6 r6.2.1]) (Hr := blk b7 52 zCr :: blk b4 52 zCr :: X) rfl (RRow_spec br v6 r6.2.1 1048576 r6.2.2 F6 hv6 (by omega) (by decide)) Try.call65 rfl rfl rfl (fun _ s => s) (fun _ _ _ hF _ w s => (s.mono hF).bare) ?_)
                rintro u7 F7 _ hF7 ⟨v7, hu7, hv7, rfl⟩
                refine aF hF7 ?_
                have n7 := rowR_rest' r6.2.1 r6.2.2 1048576
                generalize hr7 : rowR r6.2.1 r6.2.2 1048576 = r7 at *
                obtain ⟨a7, c7, rfl, hc7⟩ := hu7.form
                have l7 : r7.1.length ≤ bs.length := by rw [← hr7]; exact Nat.le_trans (rowR_short _ _ _) (by omega)
                refine aT 20 rfl (eb_string rfl (hu7.rds)) rfl rfl ?_ ?_ ?_ ?_; kernel_rfl; kernel_rfl; kernel_rfl
                refine aT 21 rfl (ev_build (t := Cr.cells ⟨iN r1.1, iN r2.1, iN r3.1, r4.1, iN r5.1, iN r6.1, r7.1⟩) rfl rfl hpl (hfl ⟨iN r1.1, iN r2.1, iN r3.1, r4.1, iN r5.1, iN r6.1, r7.1⟩)) rfl rfl ?_ ?_ ?_ ?_; kernel_rfl; kernel_rfl; kernel_rfl
                have hh : coreR 1048576 bs = (⟨iN r1.1, iN r2.1, iN r3.1, r4.1, iN r5.1, iN r6.1, r7.1⟩, r7.2) := by
                  unfold coreR; dsimp only; rw [hr1, hr2, hr3, hr4, hr5, hr6, hr7]
                refine aB (i := 23) (by kernel_rfl) (aN rfl (ev_store (b := b7) rfl rfl .agg rfl rfl (lay_all (zs := zCr) rfl) (Cr.ones _) (.there .here)) rfl (fun _ _ _ _ ⟨e, _, e2⟩ w s => by subst e; exact s.bare) ?_)
                rintro _ _ _ _ ⟨rfl, _, rfl⟩
                refine aD (by kernel_rfl) ?_
                refine J_joined (F7, v7, b7) ⟨hF1.trans (hF2.trans (hF3.trans (hF4.trans (hF5.trans (hF6.trans hF7))))), by rw [hh]; exact hv7, by rw [hh]; dsimp only; omega, by rw [hh]; dsimp only; omega⟩ ⟨⟨rfl, rfl, rfl, rfl, trivial⟩, fun w s => ?_⟩
                rw [hh]
                exact s
            · refine aE rfl (ev_alloc (cs := zCr) rfl) rfl rfl (fun _ _ _ _ ⟨e, _, _, e2⟩ w s => by subst e; subst e2; exact s.bare) ?_
              rintro _ _ _ _ ⟨rfl, b7, rfl, rfl⟩
              refine aB (i := 13) (by kernel_rfl) (aC (Hc := [Rdr br v4 r4.2.1]) (Hr := blk b7 52 zCr :: blk b4 52 zCr :: X) rfl (Number_spec br v4 r4.2.1 8 r4.2.2 F4 hv4 (by omega)) Try.call57 rfl rfl rfl (fun _ s => s.pick (.there .here)) (fun _ _ _ hF _ w s => (s.mono hF).bare) ?_)
              rintro _ F5 _ hF5 ⟨v5, rfl, hv5, rfl⟩
              refine aF hF5 ?_
              have n5 := numR_rest r4.2.1 r4.2.2 8
              generalize hr5 : numR r4.2.1 r4.2.2 8 = r5 at *
              refine aT 14 rfl (ev_conv rfl rfl rfl (iN_wrap _)) rfl rfl ?_ ?_ ?_ ?_; kernel_rfl; kernel_rfl; kernel_rfl
              refine aB (i := 16) (by kernel_rfl) (aC (Hc := [Rdr br v5 r5.2.1]) (Hr := blk b7 52 zCr :: blk b4 52 zCr :: X) rfl (Number_spec br v5 r5.2.1 8 r5.2.2 F5 hv5 (by omega)) Try.call57 rfl rfl rfl (fun _ s => s) (fun _ _ _ hF _ w s => (s.mono hF).bare) ?_)
              rintro _ F6 _ hF6 ⟨v6, rfl, hv6, rfl⟩
              refine aF hF6 ?_
              have n6 := numR_rest r5.2.1 r5.2.2 8
              generalize hr6 : numR r5.2.1 r5.2.2 8 = r6 at *
              refine aT 17 rfl (ev_conv rfl rfl rfl (iN_wrap _)) rfl rfl ?_ ?_ ?_ ?_; kernel_rfl; kernel_rfl; kernel_rfl
              refine aB (i := 19) (by kernel_rfl) (aC (Hc := [Rdr br v6 r6.2.1]) (Hr := blk b7 52 zCr :: blk b4 52 zCr :: X) rfl (RRow_spec br v6 r6.2.1 1048576 r6.2.2 F6 hv6 (by omega) (by decide)) Try.call65 rfl rfl rfl (fun _ s => s) (fun _ _ _ hF _ w s => (s.mono hF).bare) ?_)
              rintro u7 F7 _ hF7 ⟨v7, hu7, hv7, rfl⟩
              refine aF hF7 ?_
              have n7 := rowR_rest' r6.2.1 r6.2.2 1048576
              generalize hr7 : rowR r6.2.1 r6.2.2 1048576 = r7 at *
              obtain ⟨a7, c7, rfl, hc7⟩ := hu7.form
              have l7 : r7.1.length ≤ bs.length := by rw [← hr7]; exact Nat.le_trans (rowR_short _ _ _) (by omega)
              refine aT 20 rfl (eb_string rfl (hu7.rds)) rfl rfl ?_ ?_ ?_ ?_; kernel_rfl; kernel_rfl; kernel_rfl
              refine aT 21 rfl (ev_build (t := Cr.cells ⟨iN r1.1, iN r2.1, iN r3.1, r4.1, iN r5.1, iN r6.1, r7.1⟩) rfl rfl hpl (hfl ⟨iN r1.1, iN r2.1, iN r3.1, r4.1, iN r5.1, iN r6.1, r7.1⟩)) rfl rfl ?_ ?_ ?_ ?_; kernel_rfl; kernel_rfl; kernel_rfl
              have hh : coreR 1048576 bs = (⟨iN r1.1, iN r2.1, iN r3.1, r4.1, iN r5.1, iN r6.1, r7.1⟩, r7.2) := by
                unfold coreR; dsimp only; rw [hr1, hr2, hr3, hr4, hr5, hr6, hr7]
              refine aB (i := 23) (by kernel_rfl) (aN rfl (ev_store (b := b7) rfl rfl .agg rfl rfl (lay_all (zs := zCr) rfl) (Cr.ones _) (.there .here)) rfl (fun _ _ _ _ ⟨e, _, e2⟩ w s => by subst e; exact s.bare) ?_)
              rintro _ _ _ _ ⟨rfl, _, rfl⟩
              refine aD (by kernel_rfl) ?_
              refine J_joined (F7, v7, b7) ⟨hF1.trans (hF2.trans (hF3.trans (hF4.trans (hF5.trans (hF6.trans hF7))))), by rw [hh]; exact hv7, by rw [hh]; dsimp only; omega, by rw [hh]; dsimp only; omega⟩ ⟨⟨rfl, rfl, rfl, rfl, trivial⟩, fun w s => ?_⟩
              rw [hh]
              exact s
          · refine aE rfl (ev_alloc (cs := zCr) rfl) rfl rfl (fun _ _ _ _ ⟨e, _, _, e2⟩ w s => by subst e; subst e2; exact s.bare) ?_
            rintro _ _ _ _ ⟨rfl, b7, rfl, rfl⟩
            refine aB (i := 10) (by kernel_rfl) (aC (Hc := [Rdr br v3 r3.2.1]) (Hr := blk b7 52 zCr :: blk b4 52 zCr :: X) rfl (RRow_spec br v3 r3.2.1 1048576 r3.2.2 F3 hv3 (by omega) (by decide)) Try.call65 rfl rfl rfl (fun _ s => s.pick (.there .here)) (fun _ _ _ hF _ w s => (s.mono hF).bare) ?_)
            rintro u4 F4 _ hF4 ⟨v4, hu4, hv4, rfl⟩
            refine aF hF4 ?_
            have n4 := rowR_rest' r3.2.1 r3.2.2 1048576
            generalize hr4 : rowR r3.2.1 r3.2.2 1048576 = r4 at *
            obtain ⟨a4, c4, rfl, hc4⟩ := hu4.form
            have l4 : r4.1.length ≤ bs.length := by rw [← hr4]; exact Nat.le_trans (rowR_short _ _ _) (by omega)
            refine aT 11 rfl (eb_string rfl (hu4.rds)) rfl rfl ?_ ?_ ?_ ?_; kernel_rfl; kernel_rfl; kernel_rfl
            refine aB (i := 13) (by kernel_rfl) (aC (Hc := [Rdr br v4 r4.2.1]) (Hr := blk b7 52 zCr :: blk b4 52 zCr :: X) rfl (Number_spec br v4 r4.2.1 8 r4.2.2 F4 hv4 (by omega)) Try.call57 rfl rfl rfl (fun _ s => s) (fun _ _ _ hF _ w s => (s.mono hF).bare) ?_)
            rintro _ F5 _ hF5 ⟨v5, rfl, hv5, rfl⟩
            refine aF hF5 ?_
            have n5 := numR_rest r4.2.1 r4.2.2 8
            generalize hr5 : numR r4.2.1 r4.2.2 8 = r5 at *
            refine aT 14 rfl (ev_conv rfl rfl rfl (iN_wrap _)) rfl rfl ?_ ?_ ?_ ?_; kernel_rfl; kernel_rfl; kernel_rfl
            refine aB (i := 16) (by kernel_rfl) (aC (Hc := [Rdr br v5 r5.2.1]) (Hr := blk b7 52 zCr :: blk b4 52 zCr :: X) rfl (Number_spec br v5 r5.2.1 8 r5.2.2 F5 hv5 (by omega)) Try.call57 rfl rfl rfl (fun _ s => s) (fun _ _ _ hF _ w s => (s.mono hF).bare) ?_)
            rintro _ F6 _ hF6 ⟨v6, rfl, hv6, rfl⟩
            refine aF hF6 ?_
            have n6 := numR_rest r5.2.1 r5.2.2 8
            generalize hr6 : numR r5.2.1 r5.2.2 8 = r6 at *
            refine aT 17 rfl (ev_conv rfl rfl rfl (iN_wrap _)) rfl rfl ?_ ?_ ?_ ?_; kernel_rfl; kernel_rfl; kernel_rfl
            refine aB (i := 19) (by kernel_rfl) (aC (Hc := [Rdr br v6 r6.2.1]) (Hr := blk b7 52 zCr :: blk b4 52 zCr :: X) rfl (RRow_spec br v6 r6.2.1 1048576 r6.2.2 F6 hv6 (by omega) (by decide)) Try.call65 rfl rfl rfl (fun _ s => s) (fun _ _ _ hF _ w s => (s.mono hF).bare) ?_)
            rintro u7 F7 _ hF7 ⟨v7, hu7, hv7, rfl⟩
            refine aF hF7 ?_
            have n7 := rowR_rest' r6.2.1 r6.2.2 1048576
            generalize hr7 : rowR r6.2.1 r6.2.2 1048576 = r7 at *
            obtain ⟨a7, c7, rfl, hc7⟩ := hu7.form
            have l7 : r7.1.length ≤ bs.length := by rw [← hr7]; exact Nat.le_trans (rowR_short _ _ _) (by omega)
            refine aT 20 rfl (eb_string rfl (hu7.rds)) rfl rfl ?_ ?_ ?_ ?_; kernel_rfl; kernel_rfl; kernel_rfl
            refine aT 21 rfl (ev_build (t := Cr.cells ⟨iN r1.1, iN r2.1, iN r3.1, r4.1, iN r5.1, iN r6.1, r7.1⟩) rfl rfl hpl (hfl ⟨iN r1.1, iN r2.1, iN r3.1, r4.1, iN r5.1, iN r6.1, r7.1⟩)) rfl rfl ?_ ?_ ?_ ?_; kernel_rfl; kernel_rfl; kernel_rfl
            have hh : coreR 1048576 bs = (⟨iN r1.1, iN r2.1, iN r3.1, r4.1, iN r5.1, iN r6.1, r7.1⟩, r7.2) := by
              unfold coreR; dsimp only; rw [hr1, hr2, hr3, hr4, hr5, hr6, hr7]
            refine aB (i := 23) (by kernel_rfl) (aN rfl (ev_store (b := b7) rfl rfl .agg rfl rfl (lay_all (zs := zCr) rfl) (Cr.ones _) (.there .here)) rfl (fun _ _ _ _ ⟨e, _, e2⟩ w s => by subst e; exact s.bare) ?_)
            rintro _ _ _ _ ⟨rfl, _, rfl⟩
            refine aD (by kernel_rfl) ?_
            refine J_joined (F7, v7, b7) ⟨hF1.trans (hF2.trans (hF3.trans (hF4.trans (hF5.trans (hF6.trans hF7))))), by rw [hh]; exact hv7, by rw [hh]; dsimp only; omega, by rw [hh]; dsimp only; omega⟩ ⟨⟨rfl, rfl, rfl, rfl, trivial⟩, fun w s => ?_⟩
            rw [hh]
            exact s
        · refine aE rfl (ev_alloc (cs := zCr) rfl) rfl rfl (fun _ _ _ _ ⟨e, _, _, e2⟩ w s => by subst e; subst e2; exact s.bare) ?_
          rintro _ _ _ _ ⟨rfl, b7, rfl, rfl⟩
          refine aB (i := 7) (by kernel_rfl) (aC (Hc := [Rdr br v2 r2.2.1]) (Hr := blk b7 52 zCr :: blk b4 52 zCr :: X) rfl (Number_spec br v2 r2.2.1 1 r2.2.2 F2 hv2 (by omega)) Try.call57 rfl rfl rfl (fun _ s => s.pick (.there .here)) (fun _ _ _ hF _ w s => (s.mono hF).bare) ?_)
          rintro _ F3 _ hF3 ⟨v3, rfl, hv3, rfl⟩
          refine aF hF3 ?_
          have n3 := numR_rest r2.2.1 r2.2.2 1
          generalize hr3 : numR r2.2.1 r2.2.2 1 = r3 at *
          refine aT 8 rfl (ev_conv rfl rfl rfl (iN_wrap _)) rfl rfl ?_ ?_ ?_ ?_; kernel_rfl; kernel_rfl; kernel_rfl
          refine aB (i := 10) (by kernel_rfl) (aC (Hc := [Rdr br v3 r3.2.1]) (Hr := blk b7 52 zCr :: blk b4 52 zCr :: X) rfl (RRow_spec br v3 r3.2.1 1048576 r3.2.2 F3 hv3 (by omega) (by decide)) Try.call65 rfl rfl rfl (fun _ s => s) (fun _ _ _ hF _ w s => (s.mono hF).bare) ?_)
          rintro u4 F4 _ hF4 ⟨v4, hu4, hv4, rfl⟩
          refine aF hF4 ?_
          have n4 := rowR_rest' r3.2.1 r3.2.2 1048576
          generalize hr4 : rowR r3.2.1 r3.2.2 1048576 = r4 at *
          obtain ⟨a4, c4, rfl, hc4⟩ := hu4.form
          have l4 : r4.1.length ≤ bs.length := by rw [← hr4]; exact Nat.le_trans (rowR_short _ _ _) (by omega)
          refine aT 11 rfl (eb_string rfl (hu4.rds)) rfl rfl ?_ ?_ ?_ ?_; kernel_rfl; kernel_rfl; kernel_rfl
          refine aB (i := 13) (by kernel_rfl) (aC (Hc := [Rdr br v4 r4.2.1]) (Hr := blk b7 52 zCr :: blk b4 52 zCr :: X) rfl (Number_spec br v4 r4.2.1 8 r4.2.2 F4 hv4 (by omega)) Try.call57 rfl rfl rfl (fun _ s => s) (fun _ _ _ hF _ w s => (s.mono hF).bare) ?_)
          rintro _ F5 _ hF5 ⟨v5, rfl, hv5, rfl⟩
          refine aF hF5 ?_
          have n5 := numR_rest r4.2.1 r4.2.2 8
          generalize hr5 : numR r4.2.1 r4.2.2 8 = r5 at *
          refine aT 14 rfl (ev_conv rfl rfl rfl (iN_wrap _)) rfl rfl ?_ ?_ ?_ ?_; kernel_rfl; kernel_rfl; kernel_rfl
          refine aB (i := 16) (by kernel_rfl) (aC (Hc := [Rdr br v5 r5.2.1]) (Hr := blk b7 52 zCr :: blk b4 52 zCr :: X) rfl (Number_spec br v5 r5.2.1 8 r5.2.2 F5 hv5 (by omega)) Try.call57 rfl rfl rfl (fun _ s => s) (fun _ _ _ hF _ w s => (s.mono hF).bare) ?_)
          rintro _ F6 _ hF6 ⟨v6, rfl, hv6, rfl⟩
          refine aF hF6 ?_
          have n6 := numR_rest r5.2.1 r5.2.2 8
          generalize hr6 : numR r5.2.1 r5.2.2 8 = r6 at *
          refine aT 17 rfl (ev_conv rfl rfl rfl (iN_wrap _)) rfl rfl ?_ ?_ ?_ ?_; kernel_rfl; kernel_rfl; kernel_rfl
          refine aB (i := 19) (by kernel_rfl) (aC (Hc := [Rdr br v6 r6.2.1]) (Hr := blk b7 52 zCr :: blk b4 52 zCr :: X) rfl (RRow_spec br v6 r6.2.1 1048576 r6.2.2 F6 hv6 (by omega) (by decide)) Try.call65 rfl rfl rfl (fun _ s => s) (fun _ _ _ hF _ w s => (s.mono hF).bare) ?_)
          rintro u7 F7 _ hF7 ⟨v7, hu7, hv7, rfl⟩
          refine aF hF7 ?_
          have n7 := rowR_rest' r6.2.1 r6.2.2 1048576
          generalize hr7 : rowR r6.2.1 r6.2.2 1048576 = r7 at *
          obtain ⟨a7, c7, rfl, hc7⟩ := hu7.form
          have l7 : r7.1.length ≤ bs.length := by rw [← hr7]; exact Nat.le_trans (rowR_short _ _ _) (by omega)
          refine aT 20 rfl (eb_string rfl (hu7.rds)) rfl rfl ?_ ?_ ?_ ?_; kernel_rfl; kernel_rfl; kernel_rfl
          refine aT 21 rfl (ev_build (t := Cr.cells ⟨iN r1.1, iN r2.1, iN r3.1, r4.1, iN r5.1, iN r6.1, r7.1⟩) rfl rfl hpl (hfl ⟨iN r1.1, iN r2.1, iN r3.1, r4.1, iN r5.1, iN r6.1, r7.1⟩)) rfl rfl ?_ ?_ ?_ ?_; kernel_rfl; kernel_rfl; kernel_rfl
          have hh : coreR 1048576 bs = (⟨iN r1.1, iN r2.1, iN r3.1, r4.1, iN r5.1, iN r6.1, r7.1⟩, r7.2) := by
            unfold coreR; dsimp only; rw [hr1, hr2, hr3, hr4, hr5, hr6, hr7]
          refine aB (i := 23) (by kernel_rfl) (aN rfl (ev_store (b := b7) rfl rfl .agg rfl rfl (lay_all (zs := zCr) rfl) (Cr.ones _) (.there .here)) rfl (fun _ _ _ _ ⟨e, _, e2⟩ w s => by subst e; exact s.bare) ?_)
          rintro _ _ _ _ ⟨rfl, _, rfl⟩
          refine aD (by kernel_rfl) ?_
          refine J_joined (F7, v7, b7) ⟨hF1.trans (hF2.trans (hF3.trans (hF4.trans (hF5.trans (hF6.trans hF7))))), by rw [hh]; exact hv7, by rw [hh]; dsimp only; omega, by rw [hh]; dsimp only; omega⟩ ⟨⟨rfl, rfl, rfl, rfl, trivial⟩, fun w s => ?_⟩
          rw [hh]
          exact s
      · refine aE rfl (ev_alloc (cs := zCr) rfl) rfl rfl (fun _ _ _ _ ⟨e, _, _, e2⟩ w s => by subst e; subst e2; exact s.bare) ?_
        rintro _ _ _ _ ⟨rfl, b7, rfl, rfl⟩
        refine aB (i := 4) (by kernel_rfl) (aC (Hc := [Rdr br v1 r1.2.1]) (Hr := blk b7 52 zCr :: blk b4 52 zCr :: X) rfl (Number_spec br v1 r1.2.1 8 r1.2.2 F1 hv1 (by omega)) Try.call57 rfl rfl rfl (fun _ s => s.pick (.there .here)) (fun _ _ _ hF _ w s => (s.mono hF).bare) ?_)
        rintro _ F2 _ hF2 ⟨v2, rfl, hv2, rfl⟩
        refine aF hF2 ?_
        have n2 := numR_rest r1.2.1 r1.2.2 8
        generalize hr2 : numR r1.2.1 r1.2.2 8 = r2 at *
        refine aT 5 rfl (ev_conv rfl rfl rfl (iN_wrap _)) rfl rfl ?_ ?_ ?_ ?_; kernel_rfl; kernel_rfl; kernel_rfl
        refine aB (i := 7) (by kernel_rfl) (aC (Hc := [Rdr br v2 r2.2.1]) (Hr := blk b7 52 zCr :: blk b4 52 zCr :: X) rfl (Number_spec br v2 r2.2.1 1 r2.2.2 F2 hv2 (by omega)) Try.call57 rfl rfl rfl (fun _ s => s) (fun _ _ _ hF _ w s => (s.mono hF).bare) ?_)
        rintro _ F3 _ hF3 ⟨v3, rfl, hv3, rfl⟩
        refine aF hF3 ?_
        have n3 := numR_rest r2.2.1 r2.2.2 1
        generalize hr3 : numR r2.2.1 r2.2.2 1 = r3 at *
        refine aT 8 rfl (ev_conv rfl rfl rfl (iN_wrap _)) rfl rfl ?_ ?_ ?_ ?_; kernel_rfl; kernel_rfl; kernel_rfl
        refine aB (i := 10) (by kernel_rfl) (aC (Hc := [Rdr br v3 r3.2.1]) (Hr := blk b7 52 zCr :: blk b4 52 zCr :: X) rfl (RRow_spec br v3 r3.2.1 1048576 r3.2.2 F3 hv3 (by omega) (by decide)) Try.call65 rfl rfl rfl (fun _ s => s) (fun _ _ _ hF _ w s => (s.mono hF).bare) ?_)
        rintro u4 F4 _ hF4 ⟨v4, hu4, hv4, rfl⟩
        refine aF hF4 ?_
        have n4 := rowR_rest' r3.2.1 r3.2.2 1048576
        generalize hr4 : rowR r3.2.1 r3.2.2 1048576 = r4 at *
        obtain ⟨a4, c4, rfl, hc4⟩ := hu4.form
        have l4 : r4.1.length ≤ bs.length := by rw [← hr4]; exact Nat.le_trans (rowR_short _ _ _) (by omega)
        refine aT 11 rfl (eb_string rfl (hu4.rds)) rfl rfl ?_ ?_ ?_ ?_; kernel_rfl; kernel_rfl; kernel_rfl
        refine aB (i := 13) (by kernel_rfl) (aC (Hc := [Rdr br v4 r4.2.1]) (Hr := blk b7 52 zCr :: blk b4 52 zCr :: X) rfl (Number_spec br v4 r4.2.1 8 r4.2.2 F4 hv4 (by omega)) Try.call57 rfl rfl rfl (fun _ s => s) (fun _ _ _ hF _ w s => (s.mono hF).bare) ?_)
        rintro _ F5 _ hF5 ⟨v5, rfl, hv5, rfl⟩
        refine aF hF5 ?_
        have n5 := numR_rest r4.2.1 r4.2.2 8
        generalize hr5 : numR r4.2.1 r4.2.2 8 = r5 at *
        refine aT 14 rfl (ev_conv rfl rfl rfl (iN_wrap _)) rfl rfl ?_ ?_ ?_ ?_; kernel_rfl; kernel_rfl; kernel_rfl
        refine aB (i := 16) (by kernel_rfl) (aC (Hc := [Rdr br v5 r5.2.1]) (Hr := blk b7 52 zCr :: blk b4 52 zCr :: X) rfl (Number_spec br v5 r5.2.1 8 r5.2.2 F5 hv5 (by omega)) Try.call57 rfl rfl rfl (fun _ s => s) (fun _ _ _ hF _ w s => (s.mono hF).bare) ?_)
        rintro _ F6 _ hF6 ⟨v6, rfl, hv6, rfl⟩
        refine aF hF6 ?_
        have n6 := numR_rest r5.2.1 r5.2.2 8
        generalize hr6 : numR r5.2.1 r5.2.2 8 = r6 at *
        refine aT 17 rfl (ev_conv rfl rfl rfl (iN_wrap _)) rfl rfl ?_ ?_ ?_ ?_; kernel_rfl; kernel_rfl; kernel_rfl
        refine aB (i := 19) (by kernel_rfl) (aC (Hc := [Rdr br v6 r6.2.1]) (Hr := blk b7 52 zCr :: blk b4 52 zCr :: X) rfl (RRow_spec br v6 r6.2.1 1048576 r6.2.2 F6 hv6 (by omega) (by decide)) Try.call65 rfl rfl rfl (fun _ s => s) (fun _ _ _ hF _ w s => (s.mono hF).bare) ?_)
        rintro u7 F7 _ hF7 ⟨v7, hu7, hv7, rfl⟩
        refine aF hF7 ?_
        have n7 := rowR_rest' r6.2.1 r6.2.2 1048576
        generalize hr7 : rowR r6.2.1 r6.2.2 1048576 = r7 at *
        obtain ⟨a7, c7, rfl, hc7⟩ := hu7.form
        have l7 : r7.1.length ≤ bs.length := by rw [← hr7]; exact Nat.le_trans (rowR_short _ _ _) (by omega)
        refine aT 20 rfl (eb_string rfl (hu7.rds)) rfl rfl ?_ ?_ ?_ ?_; kernel_rfl; kernel_rfl; kernel_rfl
        refine aT 21 rfl (ev_build (t := Cr.cells ⟨iN r1.1, iN r2.1, iN r3.1, r4.1, iN r5.1, iN r6.1, r7.1⟩) rfl rfl hpl (hfl ⟨iN r1.1, iN r2.1, iN r3.1, r4.1, iN r5.1, iN r6.1, r7.1⟩)) rfl rfl ?_ ?_ ?_ ?_; kernel_rfl; kernel_rfl; kernel_rfl
        have hh : coreR 1048576 bs = (⟨iN r1.1, iN r2.1, iN r3.1, r4.1, iN r5.1, iN r6.1, r7.1⟩, r7.2) := by
          unfold coreR; dsimp only; rw [hr1, hr2, hr3, hr4, hr5, hr6, hr7]
        refine aB (i := 23) (by kernel_rfl) (aN rfl (ev_store (b := b7) rfl rfl .agg rfl rfl (lay_all (zs := zCr) rfl) (Cr.ones _) (.there .here)) rfl (fun _ _ _ _ ⟨e, _, e2⟩ w s => by subst e; exact s.bare) ?_)
        rintro _ _ _ _ ⟨rfl, _, rfl⟩
        refine aD (by kernel_rfl) ?_
        refine J_joined (F7, v7, b7) ⟨hF1.trans (hF2.trans (hF3.trans (hF4.trans (hF5.trans (hF6.trans hF7))))), by rw [hh]; exact hv7, by rw [hh]; dsimp only; omega, by rw [hh]; dsimp only; omega⟩ ⟨⟨rfl, rfl, rfl, rfl, trivial⟩, fun w s => ?_⟩
        rw [hh]
        exact s
    · refine aE rfl (ev_alloc (cs := zCr) rfl) rfl rfl (fun _ _ _ _ ⟨e, _, _, e2⟩ w s => by subst e; subst e2; exact s.bare) ?_
      rintro _ _ _ _ ⟨rfl, b7, rfl, rfl⟩
      refine aB (i := 1) (by kernel_rfl) (aC (Hc := [Rdr br (.slice a bs.length c) 0]) (Hr := blk b7 52 zCr :: blk b4 52 zCr :: X) rfl (Number_spec br (.slice a bs.length c) 0 1 bs F h (by omega)) Try.call57 rfl rfl rfl (fun _ s => s.pick (.there .here)) (fun _ _ _ hF _ w s => (s.mono hF).bare) ?_)
      rintro _ F1 _ hF1 ⟨v1, rfl, hv1, rfl⟩
      refine aF hF1 ?_
      have n1 := numR_rest 0 bs 1
      generalize hr1 : numR 0 bs 1 = r1 at *
      refine aT 2 rfl (ev_conv rfl rfl rfl (iN_wrap _)) rfl rfl ?_ ?_ ?_ ?_; kernel_rfl; kernel_rfl; kernel_rfl
      refine aB (i := 4) (by kernel_rfl) (aC (Hc := [Rdr br v1 r1.2.1]) (Hr := blk b7 52 zCr :: blk b4 52 zCr :: X) rfl (Number_spec br v1 r1.2.1 8 r1.2.2 F1 hv1 (by omega)) Try.call57 rfl rfl rfl (fun _ s => s) (fun _ _ _ hF _ w s => (s.mono hF).bare) ?_)
      rintro _ F2 _ hF2 ⟨v2, rfl, hv2, rfl⟩
      refine aF hF2 ?_
      have n2 := numR_rest r1.2.1 r1.2.2 8
      generalize hr2 : numR r1.2.1 r1.2.2 8 = r2 at *
      refine aT 5 rfl (ev_conv rfl rfl rfl (iN_wrap _)) rfl rfl ?_ ?_ ?_ ?_; kernel_rfl; kernel_rfl; kernel_rfl
      refine aB (i := 7) (by kernel_rfl) (aC (Hc := [Rdr br v2 r2.2.1]) (Hr := blk b7 52 zCr :: blk b4 52 zCr :: X) rfl (Number_spec br v2 r2.2.1 1 r2.2.2 F2 hv2 (by omega)) Try.call57 rfl rfl rfl (fun _ s => s) (fun _ _ _ hF _ w s => (s.mono hF).bare) ?_)
      rintro _ F3 _ hF3 ⟨v3, rfl, hv3, rfl⟩
      refine aF hF3 ?_
      have n3 := numR_rest r2.2.1 r2.2.2 1
      generalize hr3 : numR r2.2.1 r2.2.2 1 = r3 at *
      refine aT 8 rfl (ev_conv rfl rfl rfl (iN_wrap _)) rfl rfl ?_ ?_ ?_ ?_; kernel_rfl; kernel_rfl; kernel_rfl
      refine aB (i := 10) (by kernel_rfl) (aC (Hc := [Rdr br v3 r3.2.1]) (Hr := blk b7 52 zCr :: blk b4 52 zCr :: X) rfl (RRow_spec br v3 r3.2.1 1048576 r3.2.2 F3 hv3 (by omega) (by decide)) Try.call65 rfl rfl rfl (fun _ s => s) (fun _ _ _ hF _ w s => (s.mono hF).bare) ?_)
      rintro u4 F4 _ hF4 ⟨v4, hu4, hv4, rfl⟩
      refine aF hF4 ?_
      have n4 := rowR_rest' r3.2.1 r3.2.2 1048576
      generalize hr4 : rowR r3.2.1 r3.2.2 1048576 = r4 at *
      obtain ⟨a4, c4, rfl, hc4⟩ := hu4.form
      have l4 : r4.1.length ≤ bs.length := by rw [← hr4]; exact Nat.le_trans (rowR_short _ _ _) (by omega)
      refine aT 11 rfl (eb_string rfl (hu4.rds)) rfl rfl ?_ ?_ ?_ ?_; kernel_rfl; kernel_rfl; kernel_rfl
      refine aB (i := 13) (by kernel_rfl) (aC (Hc := [Rdr br v4 r4.2.1]) (Hr := blk b7 52 zCr :: blk b4 52 zCr :: X) rfl (Number_spec br v4 r4.2.1 8 r4.2.2 F4 hv4 (by omega)) Try.call57 rfl rfl rfl (fun _ s => s) (fun _ _ _ hF _ w s => (s.mono hF).bare) ?_)
      rintro _ F5 _ hF5 ⟨v5, rfl, hv5, rfl⟩
      refine aF hF5 ?_
      have n5 := numR_rest r4.2.1 r4.2.2 8
      generalize hr5 : numR r4.2.1 r4.2.2 8 = r5 at *
      refine aT 14 rfl (ev_conv rfl rfl rfl (iN_wrap _)) rfl rfl ?_ ?_ ?_ ?_; kernel_rfl; kernel_rfl; kernel_rfl
      refine aB (i := 16) (by kernel_rfl) (aC (Hc := [Rdr br v5 r5.2.1]) (Hr := blk b7 52 zCr :: blk b4 52 zCr :: X) rfl (Number_spec br v5 r5.2.1 8 r5.2.2 F5 hv5 (by omega)) Try.call57 rfl rfl rfl (fun _ s => s) (fun _ _ _ hF _ w s => (s.mono hF).bare) ?_)
      rintro _ F6 _ hF6 ⟨v6, rfl, hv6, rfl⟩
      refine aF hF6 ?_
      have n6 := numR_rest r5.2.1 r5.2.2 8
      generalize hr6 : numR r5.2.1 r5.2.2 8 = r6 at *
      refine aT 17 rfl (ev_conv rfl rfl rfl (iN_wrap _)) rfl rfl ?_ ?_ ?_ ?_; kernel_rfl; kernel_rfl; kernel_rfl
      refine aB (i := 19) (by kernel_rfl) (aC (Hc := [Rdr br v6 r6.2.1]) (Hr := blk b7 52 zCr :: blk b4 52 zCr :: X) rfl (RRow_spec br v6 r6.2.1 1048576 r6.2.2 F6 hv6 (by omega) (by decide)) Try.call65 rfl rfl rfl (fun _ s => s) (fun _ _ _ hF _ w s => (s.mono hF).bare) ?_)
      rintro u7 F7 _ hF7 ⟨v7, hu7, hv7, rfl⟩
      refine aF hF7 ?_
      have n7 := rowR_rest' r6.2.1 r6.2.2 1048576
      generalize hr7 : rowR r6.2.1 r6.2.2 1048576 = r7 at *
      obtain ⟨a7, c7, rfl, hc7⟩ := hu7.form
      have l7 : r7.1.length ≤ bs.length := by rw [← hr7]; exact Nat.le_trans (rowR_short _ _ _) (by omega)
      refine aT 20 rfl (eb_string rfl (hu7.rds)) rfl rfl ?_ ?_ ?_ ?_; kernel_rfl; kernel_rfl; kernel_rfl
      refine aT 21 rfl (ev_build (t := Cr.cells ⟨iN r1.1, iN r2.1, iN r3.1, r4.1, iN r5.1, iN r6.1, r7.1⟩) rfl rfl hpl (hfl ⟨iN r1.1, iN r2.1, iN r3.1, r4.1, iN r5.1, iN r6.1, r7.1⟩)) rfl rfl ?_ ?_ ?_ ?_; kernel_rfl; kernel_rfl; kernel_rfl
      have hh : coreR 1048576 bs = (⟨iN r1.1, iN r2.1, iN r3.1, r4.1, iN r5.1, iN r6.1, r7.1⟩, r7.2) := by
        unfold coreR; dsimp only; rw [hr1, hr2, hr3, hr4, hr5, hr6, hr7]
      refine aB (i := 23) (by kernel_rfl) (aN rfl (ev_store (b := b7) rfl rfl .agg rfl rfl (lay_all (zs := zCr) rfl) (Cr.ones _) (.there .here)) rfl (fun _ _ _ _ ⟨e, _, e2⟩ w s => by subst e; exact s.bare) ?_)
      rintro _ _ _ _ ⟨rfl, _, rfl⟩
      refine aD (by kernel_rfl) ?_
      refine J_joined (F7, v7, b7) ⟨hF1.trans (hF2.trans (hF3.trans (hF4.trans (hF5.trans (hF6.trans hF7))))), by rw [hh]; exact hv7, by rw [hh]; dsimp only; omega, by rw [hh]; dsimp only; omega⟩ ⟨⟨rfl, rfl, rfl, rfl, trivial⟩, fun w s => ?_⟩
      rw [hh]
      exact s
  rintro ⟨F7, v7, b7⟩ ⟨hFF, hv7, hcl, hct⟩
  dsimp only at hFF hv7 hcl hct
  generalize coreR 1048576 bs = r at *
  obtain ⟨cr, r7⟩ := r
  dsimp only at *
  generalize hr7 : ((0 : Nat), r7) = r8 at *
  obtain rfl : r7 = r8.2 := by rw [← hr7]
  clear hr7
  repeat (first|refine zJ rfl rfl ?_|refine jr rfl ?_|refine jn ?_|refine zM rfl rfl ?_|(refine zC rfl rfl ?_ rfl ?_;omega)|(refine zD rfl rfl ?_ rfl ?_;omega)|(refine zP rfl ?_ rfl ?_;omega)|refine zG rfl rfl rfl rfl ?_|(refine jdq rfl rfl ?_ ?_ ?_;kernel_rfl;kernel_rfl)|refine zB rfl rfl rfl (by repeat constructor) rfl ?_|refine zH .here rfl rfl rfl rfl ?_|refine zH (.there .here) rfl rfl rfl rfl ?_|refine zH (.there (.there .here)) rfl rfl rfl rfl ?_)
  refine oC (Hc := [Rdr br v7 r8.2.1]) (Hr := blk b7 52  cr.cells :: blk b4 52 zCr :: X) (End_spec br v7 r8.2.1 r8.2.2 F7 hv7) Try.call59 rfl rfl (fun _ s => s) ?_
  rintro _ _ _ _ ⟨rfl, rfl, rfl⟩
  by_cases he : endR r8.2.1 r8.2.2 = 0
  · rw [if_neg (fun h => h he)]
    repeat (first|refine zJ rfl rfl ?_|refine jr rfl ?_|refine jn ?_|refine zM rfl rfl ?_|(refine zC rfl rfl ?_ rfl ?_;omega)|(refine zD rfl rfl ?_ rfl ?_;omega)|(refine zP rfl ?_ rfl ?_;omega)|refine zG rfl rfl rfl rfl ?_|(refine jdq rfl rfl ?_ ?_ ?_;kernel_rfl;kernel_rfl)|refine zB rfl rfl rfl (by repeat constructor) rfl ?_|refine zH .here rfl rfl rfl rfl ?_|refine zH (.there .here) rfl rfl rfl rfl ?_|refine zH (.there (.there .here)) rfl rfl rfl rfl ?_)
    refine oS (ev_load_agg (cs := cr.cells) rfl rfl (Rdb.ofB (n := 0) (.there .here) rfl) cr.len) rfl ?_
    repeat (first|refine zJ rfl rfl ?_|refine jr rfl ?_|refine jn ?_|refine zM rfl rfl ?_|(refine zC rfl rfl ?_ rfl ?_;omega)|(refine zD rfl rfl ?_ rfl ?_;omega)|(refine zP rfl ?_ rfl ?_;omega)|refine zG rfl rfl rfl rfl ?_|(refine jdq rfl rfl ?_ ?_ ?_;kernel_rfl;kernel_rfl)|refine zB rfl rfl rfl (by repeat constructor) rfl ?_|refine zH .here rfl rfl rfl rfl ?_|refine zH (.there .here) rfl rfl rfl rfl ?_|refine zH (.there (.there .here)) rfl rfl rfl rfl ?_)
    refine oP (Check_spec cr n _ (by omega) (by omega)) Try.call33 rfl rfl ?_
    by_cases hk : cr.err n = 0
    · rw [if_neg (fun h => h hk), hk]
      repeat (first|refine zJ rfl rfl ?_|refine jr rfl ?_|refine jn ?_|refine zM rfl rfl ?_|(refine zC rfl rfl ?_ rfl ?_;omega)|(refine zD rfl rfl ?_ rfl ?_;omega)|(refine zP rfl ?_ rfl ?_;omega)|refine zG rfl rfl rfl rfl ?_|(refine jdq rfl rfl ?_ ?_ ?_;kernel_rfl;kernel_rfl)|refine zB rfl rfl rfl (by repeat constructor) rfl ?_|refine zH .here rfl rfl rfl rfl ?_|refine zH (.there .here) rfl rfl rfl rfl ?_|refine zH (.there (.there .here)) rfl rfl rfl rfl ?_)
      refine oS (ev_load_agg (cs := cr.cells) rfl rfl (Rdb.ofB (n := 0) (.there .here) rfl) cr.len) rfl ?_
      refine oN (ev_store (b := b4) rfl rfl .agg rfl cr.len (lay_all (zs := zCr) cr.len) cr.ones (.there (.there .here))) rfl ?_
      rintro _ _ _ _ ⟨rfl, _, rfl⟩
      repeat (first|refine zJ rfl rfl ?_|refine jr rfl ?_|refine jn ?_|refine zM rfl rfl ?_|(refine zC rfl rfl ?_ rfl ?_;omega)|(refine zD rfl rfl ?_ rfl ?_;omega)|(refine zP rfl ?_ rfl ?_;omega)|refine zG rfl rfl rfl rfl ?_|(refine jdq rfl rfl ?_ ?_ ?_;kernel_rfl;kernel_rfl)|refine zB rfl rfl rfl (by repeat constructor) rfl ?_|refine zH .here rfl rfl rfl rfl ?_|refine zH (.there .here) rfl rfl rfl rfl ?_|refine zH (.there (.there .here)) rfl rfl rfl rfl ?_)
      exact J_retv rfl (.agg rfl rfl (Rdb.ofB (n := 0) (.there (.there .here)) rfl) cr.len (.tmp rfl .nil)) [] (fun w s => s.drop.drop.drop) hFF ⟨rfl, rfl⟩
    · rw [if_pos hk]
      repeat (first|refine zJ rfl rfl ?_|refine jr rfl ?_|refine jn ?_|refine zM rfl rfl ?_|(refine zC rfl rfl ?_ rfl ?_;omega)|(refine zD rfl rfl ?_ rfl ?_;omega)|(refine zP rfl ?_ rfl ?_;omega)|refine zG rfl rfl rfl rfl ?_|(refine jdq rfl rfl ?_ ?_ ?_;kernel_rfl;kernel_rfl)|refine zB rfl rfl rfl (by repeat constructor) rfl ?_|refine zH .here rfl rfl rfl rfl ?_|refine zH (.there .here) rfl rfl rfl rfl ?_|refine zH (.there (.there .here)) rfl rfl rfl rfl ?_)
      refine oN (ev_store (b := b4) rfl rfl .agg rfl rfl (lay_all (zs := zCr) rfl) ones_zCr (.there (.there .here))) rfl ?_
      rintro _ _ _ _ ⟨rfl, _, rfl⟩
      repeat (first|refine zJ rfl rfl ?_|refine jr rfl ?_|refine jn ?_|refine zM rfl rfl ?_|(refine zC rfl rfl ?_ rfl ?_;omega)|(refine zD rfl rfl ?_ rfl ?_;omega)|(refine zP rfl ?_ rfl ?_;omega)|refine zG rfl rfl rfl rfl ?_|(refine jdq rfl rfl ?_ ?_ ?_;kernel_rfl;kernel_rfl)|refine zB rfl rfl rfl (by repeat constructor) rfl ?_|refine zH .here rfl rfl rfl rfl ?_|refine zH (.there .here) rfl rfl rfl rfl ?_|refine zH (.there (.there .here)) rfl rfl rfl rfl ?_)
      exact J_retv rfl (.agg rfl rfl (Rdb.ofB (n := 0) (.there (.there .here)) rfl) rfl (.tmp rfl .nil)) [] (fun w s => s.drop.drop.drop) hFF ⟨rfl, rfl⟩
  · rw [if_pos he]
    repeat (first|refine zJ rfl rfl ?_|refine jr rfl ?_|refine jn ?_|refine zM rfl rfl ?_|(refine zC rfl rfl ?_ rfl ?_;omega)|(refine zD rfl rfl ?_ rfl ?_;omega)|(refine zP rfl ?_ rfl ?_;omega)|refine zG rfl rfl rfl rfl ?_|(refine jdq rfl rfl ?_ ?_ ?_;kernel_rfl;kernel_rfl)|refine zB rfl rfl rfl (by repeat constructor) rfl ?_|refine zH .here rfl rfl rfl rfl ?_|refine zH (.there .here) rfl rfl rfl rfl ?_|refine zH (.there (.there .here)) rfl rfl rfl rfl ?_)
    refine oN (ev_store (b := b4) rfl rfl .agg rfl rfl (lay_all (zs := zCr) rfl) ones_zCr (.there (.there .here))) rfl ?_
    rintro _ _ _ _ ⟨rfl, _, rfl⟩
    repeat (first|refine zJ rfl rfl ?_|refine jr rfl ?_|refine jn ?_|refine zM rfl rfl ?_|(refine zC rfl rfl ?_ rfl ?_;omega)|(refine zD rfl rfl ?_ rfl ?_;omega)|(refine zP rfl ?_ rfl ?_;omega)|refine zG rfl rfl rfl rfl ?_|(refine jdq rfl rfl ?_ ?_ ?_;kernel_rfl;kernel_rfl)|refine zB rfl rfl rfl (by repeat constructor) rfl ?_|refine zH .here rfl rfl rfl rfl ?_|refine zH (.there .here) rfl rfl rfl rfl ?_|refine zH (.there (.there .here)) rfl rfl rfl rfl ?_)
    exact J_retv rfl (.agg rfl rfl (Rdb.ofB (n := 0) (.there (.there .here)) rfl) rfl (.tmp rfl .nil)) [] (fun w s => s.drop.drop.drop) hFF ⟨rfl, rfl⟩
end Go.Proofs.Ytaggonhgafggkaa
