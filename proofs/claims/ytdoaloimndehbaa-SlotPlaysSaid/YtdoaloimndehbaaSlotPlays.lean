/-
  Whatever is proposed and voted, one behind the other, each answer is the document's (SlotPlays). No condition.
-/
import Derived.Test.YtdoaloimndehbaaTm
namespace Go.Proofs.Ytdoaloimndehbaa
open Go.RowKit
set_option maxRecDepth 100000
/-- Both slots, after some acts. -/
structure St where
  G : PH
  p : Value
  o : Option Pr
  ps : Vts
  cs : Vts
  has : Bool
  d : Dg
  bv : Value
  pv : Value
  cv : Value
def StOk (F : PH) (i : Nat) (t : St) : Prop := F.le t.G ∧ PrV t.G t.p t.o ∧ EntO t.o ∧ DO t.G t.o t.has t.d t.bv ∧ Wrd t.G t.pv t.ps ∧ Wrd t.G t.cv t.cs ∧ Uq t.ps ∧ t.ps.length ≤ i ∧ t.cs.length ≤ i
set_option maxHeartbeats 16000000 in
theorem SlotPlays_walk (n primary : Int) (a : Option Addr) (c : Nat) (xs : List ActX) (F : PH) (h : RowV tyAct F (.slice a xs.length c) xs) (hn : InK .i64 n) :
    Pure Try.prog 4 [.int .i64 n, .slice a xs.length c, .int .i64 primary] F (.bool true) := by
  refine Spec.of3 Try.func4 rfl rfl fun X w0 => ?_
  repeat (first|refine zJ rfl rfl ?_|refine jr rfl ?_|refine jn ?_|refine zM rfl rfl ?_|(refine zC rfl rfl ?_ rfl ?_;omega)|(refine zD rfl rfl ?_ rfl ?_;omega)|(refine zP rfl ?_ rfl ?_;omega)|refine zG rfl rfl rfl rfl ?_|(refine jdq rfl rfl ?_ ?_ ?_;kernel_rfl;kernel_rfl)|refine zB rfl rfl rfl (by repeat constructor) rfl ?_|refine zH .here rfl rfl rfl rfl ?_|refine zH (.there .here) rfl rfl rfl rfl ?_|refine zH (.there (.there .here)) rfl rfl rfl rfl ?_|refine zH (.there (.there (.there .here))) rfl rfl rfl rfl ?_|refine zH (.there (.there (.there (.there .here)))) rfl rfl rfl rfl ?_)
  refine oC (Hc := []) (Hr := X) (fixed21_true F) Try.call9 rfl rfl (fun _ s => s) ?_
  rintro _ F1 _ hF1 ⟨rfl, rfl⟩
  repeat (first|refine zJ rfl rfl ?_|refine jr rfl ?_|refine jn ?_|refine zM rfl rfl ?_|(refine zC rfl rfl ?_ rfl ?_;omega)|(refine zD rfl rfl ?_ rfl ?_;omega)|(refine zP rfl ?_ rfl ?_;omega)|refine zG rfl rfl rfl rfl ?_|(refine jdq rfl rfl ?_ ?_ ?_;kernel_rfl;kernel_rfl)|refine zB rfl rfl rfl (by repeat constructor) rfl ?_|refine zH .here rfl rfl rfl rfl ?_|refine zH (.there .here) rfl rfl rfl rfl ?_|refine zH (.there (.there .here)) rfl rfl rfl rfl ?_|refine zH (.there (.there (.there .here))) rfl rfl rfl rfl ?_|refine zH (.there (.there (.there (.there .here)))) rfl rfl rfl rfl ?_)
  by_cases hl : 100 < xs.length
  · rw [decide_eq_true (show (100 : Int) < (xs.length : Int) by omega)]
    repeat (first|refine zJ rfl rfl ?_|refine jr rfl ?_|refine jn ?_|refine zM rfl rfl ?_|(refine zC rfl rfl ?_ rfl ?_;omega)|(refine zD rfl rfl ?_ rfl ?_;omega)|(refine zP rfl ?_ rfl ?_;omega)|refine zG rfl rfl rfl rfl ?_|(refine jdq rfl rfl ?_ ?_ ?_;kernel_rfl;kernel_rfl)|refine zB rfl rfl rfl (by repeat constructor) rfl ?_|refine zH .here rfl rfl rfl rfl ?_|refine zH (.there .here) rfl rfl rfl rfl ?_|refine zH (.there (.there .here)) rfl rfl rfl rfl ?_|refine zH (.there (.there (.there .here))) rfl rfl rfl rfl ?_|refine zH (.there (.there (.there (.there .here)))) rfl rfl rfl rfl ?_)
    exact J_retv rfl (.tmp rfl .nil) [] (fun w s => s) hF1 ⟨rfl, rfl⟩
  rw [decide_eq_false (show ¬ (100 : Int) < (xs.length : Int) by omega)]
  repeat (first|refine zJ rfl rfl ?_|refine jr rfl ?_|refine jn ?_|refine zM rfl rfl ?_|(refine zC rfl rfl ?_ rfl ?_;omega)|(refine zD rfl rfl ?_ rfl ?_;omega)|(refine zP rfl ?_ rfl ?_;omega)|refine zG rfl rfl rfl rfl ?_|(refine jdq rfl rfl ?_ ?_ ?_;kernel_rfl;kernel_rfl)|refine zB rfl rfl rfl (by repeat constructor) rfl ?_|refine zH .here rfl rfl rfl rfl ?_|refine zH (.there .here) rfl rfl rfl rfl ?_|refine zH (.there (.there .here)) rfl rfl rfl rfl ?_|refine zH (.there (.there (.there .here))) rfl rfl rfl rfl ?_|refine zH (.there (.there (.there (.there .here)))) rfl rfl rfl rfl ?_)
  by_cases hr : n < 1 ∨ 7 < n
  · refine oP (snew_nil n hr F1) Try.call10 rfl rfl ?_
    by_cases hr1 : n < 1
    · repeat (first|refine zJ rfl rfl ?_|refine jr rfl ?_|refine jn ?_|refine zM rfl rfl ?_|(refine zC rfl rfl ?_ rfl ?_;omega)|(refine zD rfl rfl ?_ rfl ?_;omega)|(refine zP rfl ?_ rfl ?_;omega)|refine zG rfl rfl rfl rfl ?_|(refine jdq rfl rfl ?_ ?_ ?_;kernel_rfl;kernel_rfl)|refine zB rfl rfl rfl (by repeat constructor) rfl ?_|refine zH .here rfl rfl rfl rfl ?_|refine zH (.there .here) rfl rfl rfl rfl ?_|refine zH (.there (.there .here)) rfl rfl rfl rfl ?_|refine zH (.there (.there (.there .here))) rfl rfl rfl rfl ?_|refine zH (.there (.there (.there (.there .here)))) rfl rfl rfl rfl ?_)
      try rw [decide_eq_true hr1]
      repeat (first|refine zJ rfl rfl ?_|refine jr rfl ?_|refine jn ?_|refine zM rfl rfl ?_|(refine zC rfl rfl ?_ rfl ?_;omega)|(refine zD rfl rfl ?_ rfl ?_;omega)|(refine zP rfl ?_ rfl ?_;omega)|refine zG rfl rfl rfl rfl ?_|(refine jdq rfl rfl ?_ ?_ ?_;kernel_rfl;kernel_rfl)|refine zB rfl rfl rfl (by repeat constructor) rfl ?_|refine zH .here rfl rfl rfl rfl ?_|refine zH (.there .here) rfl rfl rfl rfl ?_|refine zH (.there (.there .here)) rfl rfl rfl rfl ?_|refine zH (.there (.there (.there .here))) rfl rfl rfl rfl ?_|refine zH (.there (.there (.there (.there .here)))) rfl rfl rfl rfl ?_)
      refine oP (proposal_nil F1) Try.call14 rfl rfl ?_
      repeat (first|refine zJ rfl rfl ?_|refine jr rfl ?_|refine jn ?_|refine zM rfl rfl ?_|(refine zC rfl rfl ?_ rfl ?_;omega)|(refine zD rfl rfl ?_ rfl ?_;omega)|(refine zP rfl ?_ rfl ?_;omega)|refine zG rfl rfl rfl rfl ?_|(refine jdq rfl rfl ?_ ?_ ?_;kernel_rfl;kernel_rfl)|refine zB rfl rfl rfl (by repeat constructor) rfl ?_|refine zH .here rfl rfl rfl rfl ?_|refine zH (.there .here) rfl rfl rfl rfl ?_|refine zH (.there (.there .here)) rfl rfl rfl rfl ?_|refine zH (.there (.there (.there .here))) rfl rfl rfl rfl ?_|refine zH (.there (.there (.there (.there .here)))) rfl rfl rfl rfl ?_)
      refine oE (ev_alloc (cs := u8s zDg.1) rfl) rfl ?_; rintro _ _ _ _ ⟨rfl, b8, rfl, rfl⟩
      refine oN (ev_store rfl rfl .agg rfl (dig_len (zDg)) (lay_D (zDg) zDg) (dig_ones (zDg)) (.here)) rfl ?_; rintro _ _ _ _ ⟨rfl, _, rfl⟩
      repeat (first|refine zJ rfl rfl ?_|refine jr rfl ?_|refine jn ?_|refine zM rfl rfl ?_|(refine zC rfl rfl ?_ rfl ?_;omega)|(refine zD rfl rfl ?_ rfl ?_;omega)|(refine zP rfl ?_ rfl ?_;omega)|refine zG rfl rfl rfl rfl ?_|(refine jdq rfl rfl ?_ ?_ ?_;kernel_rfl;kernel_rfl)|refine zB rfl rfl rfl (by repeat constructor) rfl ?_|refine zH .here rfl rfl rfl rfl ?_|refine zH (.there .here) rfl rfl rfl rfl ?_|refine zH (.there (.there .here)) rfl rfl rfl rfl ?_|refine zH (.there (.there (.there .here))) rfl rfl rfl rfl ?_|refine zH (.there (.there (.there (.there .here)))) rfl rfl rfl rfl ?_)
      refine oP (votes_nil F1) Try.call15 rfl rfl ?_
      repeat (first|refine zJ rfl rfl ?_|refine jr rfl ?_|refine jn ?_|refine zM rfl rfl ?_|(refine zC rfl rfl ?_ rfl ?_;omega)|(refine zD rfl rfl ?_ rfl ?_;omega)|(refine zP rfl ?_ rfl ?_;omega)|refine zG rfl rfl rfl rfl ?_|(refine jdq rfl rfl ?_ ?_ ?_;kernel_rfl;kernel_rfl)|refine zB rfl rfl rfl (by repeat constructor) rfl ?_|refine zH .here rfl rfl rfl rfl ?_|refine zH (.there .here) rfl rfl rfl rfl ?_|refine zH (.there (.there .here)) rfl rfl rfl rfl ?_|refine zH (.there (.there (.there .here))) rfl rfl rfl rfl ?_|refine zH (.there (.there (.there (.there .here)))) rfl rfl rfl rfl ?_)
      refine oS (ev_build_arr (t := u8s zDg.1) (zs := u8s zDg.1) rfl rfl rfl .nil) rfl ?_
      refine oP (propose_nil F1) Try.call11 rfl rfl ?_
      repeat (first|refine zJ rfl rfl ?_|refine jr rfl ?_|refine jn ?_|refine zM rfl rfl ?_|(refine zC rfl rfl ?_ rfl ?_;omega)|(refine zD rfl rfl ?_ rfl ?_;omega)|(refine zP rfl ?_ rfl ?_;omega)|refine zG rfl rfl rfl rfl ?_|(refine jdq rfl rfl ?_ ?_ ?_;kernel_rfl;kernel_rfl)|refine zB rfl rfl rfl (by repeat constructor) rfl ?_|refine zH .here rfl rfl rfl rfl ?_|refine zH (.there .here) rfl rfl rfl rfl ?_|refine zH (.there (.there .here)) rfl rfl rfl rfl ?_|refine zH (.there (.there (.there .here))) rfl rfl rfl rfl ?_|refine zH (.there (.there (.there (.there .here)))) rfl rfl rfl rfl ?_)
      refine oS (ev_build_arr (t := u8s zDg.1) (zs := u8s zDg.1) rfl rfl rfl .nil) rfl ?_
      refine oP (prepare_nil F1) Try.call16 rfl rfl ?_
      repeat (first|refine zJ rfl rfl ?_|refine jr rfl ?_|refine jn ?_|refine zM rfl rfl ?_|(refine zC rfl rfl ?_ rfl ?_;omega)|(refine zD rfl rfl ?_ rfl ?_;omega)|(refine zP rfl ?_ rfl ?_;omega)|refine zG rfl rfl rfl rfl ?_|(refine jdq rfl rfl ?_ ?_ ?_;kernel_rfl;kernel_rfl)|refine zB rfl rfl rfl (by repeat constructor) rfl ?_|refine zH .here rfl rfl rfl rfl ?_|refine zH (.there .here) rfl rfl rfl rfl ?_|refine zH (.there (.there .here)) rfl rfl rfl rfl ?_|refine zH (.there (.there (.there .here))) rfl rfl rfl rfl ?_|refine zH (.there (.there (.there (.there .here)))) rfl rfl rfl rfl ?_)
      refine oS (ev_build_arr (t := u8s zDg.1) (zs := u8s zDg.1) rfl rfl rfl .nil) rfl ?_
      refine oP (commit_nil F1) Try.call12 rfl rfl ?_
      repeat (first|refine zJ rfl rfl ?_|refine jr rfl ?_|refine jn ?_|refine zM rfl rfl ?_|(refine zC rfl rfl ?_ rfl ?_;omega)|(refine zD rfl rfl ?_ rfl ?_;omega)|(refine zP rfl ?_ rfl ?_;omega)|refine zG rfl rfl rfl rfl ?_|(refine jdq rfl rfl ?_ ?_ ?_;kernel_rfl;kernel_rfl)|refine zB rfl rfl rfl (by repeat constructor) rfl ?_|refine zH .here rfl rfl rfl rfl ?_|refine zH (.there .here) rfl rfl rfl rfl ?_|refine zH (.there (.there .here)) rfl rfl rfl rfl ?_|refine zH (.there (.there (.there .here))) rfl rfl rfl rfl ?_|refine zH (.there (.there (.there (.there .here)))) rfl rfl rfl rfl ?_)
      refine oP (prepared_nil F1) Try.call17 rfl rfl ?_
      repeat (first|refine zJ rfl rfl ?_|refine jr rfl ?_|refine jn ?_|refine zM rfl rfl ?_|(refine zC rfl rfl ?_ rfl ?_;omega)|(refine zD rfl rfl ?_ rfl ?_;omega)|(refine zP rfl ?_ rfl ?_;omega)|refine zG rfl rfl rfl rfl ?_|(refine jdq rfl rfl ?_ ?_ ?_;kernel_rfl;kernel_rfl)|refine zB rfl rfl rfl (by repeat constructor) rfl ?_|refine zH .here rfl rfl rfl rfl ?_|refine zH (.there .here) rfl rfl rfl rfl ?_|refine zH (.there (.there .here)) rfl rfl rfl rfl ?_|refine zH (.there (.there (.there .here))) rfl rfl rfl rfl ?_|refine zH (.there (.there (.there (.there .here)))) rfl rfl rfl rfl ?_)
      refine oP (committed_nil F1) Try.call13 rfl rfl ?_
      repeat (first|refine zJ rfl rfl ?_|refine jr rfl ?_|refine jn ?_|refine zM rfl rfl ?_|(refine zC rfl rfl ?_ rfl ?_;omega)|(refine zD rfl rfl ?_ rfl ?_;omega)|(refine zP rfl ?_ rfl ?_;omega)|refine zG rfl rfl rfl rfl ?_|(refine jdq rfl rfl ?_ ?_ ?_;kernel_rfl;kernel_rfl)|refine zB rfl rfl rfl (by repeat constructor) rfl ?_|refine zH .here rfl rfl rfl rfl ?_|refine zH (.there .here) rfl rfl rfl rfl ?_|refine zH (.there (.there .here)) rfl rfl rfl rfl ?_|refine zH (.there (.there (.there .here))) rfl rfl rfl rfl ?_|refine zH (.there (.there (.there (.there .here)))) rfl rfl rfl rfl ?_)
      exact J_retv rfl (.tmp rfl .nil) [] (fun w s => s.drop) hF1 ⟨rfl, rfl⟩
    · repeat (first|refine zJ rfl rfl ?_|refine jr rfl ?_|refine jn ?_|refine zM rfl rfl ?_|(refine zC rfl rfl ?_ rfl ?_;omega)|(refine zD rfl rfl ?_ rfl ?_;omega)|(refine zP rfl ?_ rfl ?_;omega)|refine zG rfl rfl rfl rfl ?_|(refine jdq rfl rfl ?_ ?_ ?_;kernel_rfl;kernel_rfl)|refine zB rfl rfl rfl (by repeat constructor) rfl ?_|refine zH .here rfl rfl rfl rfl ?_|refine zH (.there .here) rfl rfl rfl rfl ?_|refine zH (.there (.there .here)) rfl rfl rfl rfl ?_|refine zH (.there (.there (.there .here))) rfl rfl rfl rfl ?_|refine zH (.there (.there (.there (.there .here)))) rfl rfl rfl rfl ?_)
      try rw [decide_eq_false hr1]
      repeat (first|refine zJ rfl rfl ?_|refine jr rfl ?_|refine jn ?_|refine zM rfl rfl ?_|(refine zC rfl rfl ?_ rfl ?_;omega)|(refine zD rfl rfl ?_ rfl ?_;omega)|(refine zP rfl ?_ rfl ?_;omega)|refine zG rfl rfl rfl rfl ?_|(refine jdq rfl rfl ?_ ?_ ?_;kernel_rfl;kernel_rfl)|refine zB rfl rfl rfl (by repeat constructor) rfl ?_|refine zH .here rfl rfl rfl rfl ?_|refine zH (.there .here) rfl rfl rfl rfl ?_|refine zH (.there (.there .here)) rfl rfl rfl rfl ?_|refine zH (.there (.there (.there .here))) rfl rfl rfl rfl ?_|refine zH (.there (.there (.there (.there .here)))) rfl rfl rfl rfl ?_)
      try rw [decide_eq_true (show (7 : Int) < n by omega)]
      repeat (first|refine zJ rfl rfl ?_|refine jr rfl ?_|refine jn ?_|refine zM rfl rfl ?_|(refine zC rfl rfl ?_ rfl ?_;omega)|(refine zD rfl rfl ?_ rfl ?_;omega)|(refine zP rfl ?_ rfl ?_;omega)|refine zG rfl rfl rfl rfl ?_|(refine jdq rfl rfl ?_ ?_ ?_;kernel_rfl;kernel_rfl)|refine zB rfl rfl rfl (by repeat constructor) rfl ?_|refine zH .here rfl rfl rfl rfl ?_|refine zH (.there .here) rfl rfl rfl rfl ?_|refine zH (.there (.there .here)) rfl rfl rfl rfl ?_|refine zH (.there (.there (.there .here))) rfl rfl rfl rfl ?_|refine zH (.there (.there (.there (.there .here)))) rfl rfl rfl rfl ?_)
      refine oP (proposal_nil F1) Try.call14 rfl rfl ?_
      repeat (first|refine zJ rfl rfl ?_|refine jr rfl ?_|refine jn ?_|refine zM rfl rfl ?_|(refine zC rfl rfl ?_ rfl ?_;omega)|(refine zD rfl rfl ?_ rfl ?_;omega)|(refine zP rfl ?_ rfl ?_;omega)|refine zG rfl rfl rfl rfl ?_|(refine jdq rfl rfl ?_ ?_ ?_;kernel_rfl;kernel_rfl)|refine zB rfl rfl rfl (by repeat constructor) rfl ?_|refine zH .here rfl rfl rfl rfl ?_|refine zH (.there .here) rfl rfl rfl rfl ?_|refine zH (.there (.there .here)) rfl rfl rfl rfl ?_|refine zH (.there (.there (.there .here))) rfl rfl rfl rfl ?_|refine zH (.there (.there (.there (.there .here)))) rfl rfl rfl rfl ?_)
      refine oE (ev_alloc (cs := u8s zDg.1) rfl) rfl ?_; rintro _ _ _ _ ⟨rfl, b8, rfl, rfl⟩
      refine oN (ev_store rfl rfl .agg rfl (dig_len (zDg)) (lay_D (zDg) zDg) (dig_ones (zDg)) (.here)) rfl ?_; rintro _ _ _ _ ⟨rfl, _, rfl⟩
      repeat (first|refine zJ rfl rfl ?_|refine jr rfl ?_|refine jn ?_|refine zM rfl rfl ?_|(refine zC rfl rfl ?_ rfl ?_;omega)|(refine zD rfl rfl ?_ rfl ?_;omega)|(refine zP rfl ?_ rfl ?_;omega)|refine zG rfl rfl rfl rfl ?_|(refine jdq rfl rfl ?_ ?_ ?_;kernel_rfl;kernel_rfl)|refine zB rfl rfl rfl (by repeat constructor) rfl ?_|refine zH .here rfl rfl rfl rfl ?_|refine zH (.there .here) rfl rfl rfl rfl ?_|refine zH (.there (.there .here)) rfl rfl rfl rfl ?_|refine zH (.there (.there (.there .here))) rfl rfl rfl rfl ?_|refine zH (.there (.there (.there (.there .here)))) rfl rfl rfl rfl ?_)
      refine oP (votes_nil F1) Try.call15 rfl rfl ?_
      repeat (first|refine zJ rfl rfl ?_|refine jr rfl ?_|refine jn ?_|refine zM rfl rfl ?_|(refine zC rfl rfl ?_ rfl ?_;omega)|(refine zD rfl rfl ?_ rfl ?_;omega)|(refine zP rfl ?_ rfl ?_;omega)|refine zG rfl rfl rfl rfl ?_|(refine jdq rfl rfl ?_ ?_ ?_;kernel_rfl;kernel_rfl)|refine zB rfl rfl rfl (by repeat constructor) rfl ?_|refine zH .here rfl rfl rfl rfl ?_|refine zH (.there .here) rfl rfl rfl rfl ?_|refine zH (.there (.there .here)) rfl rfl rfl rfl ?_|refine zH (.there (.there (.there .here))) rfl rfl rfl rfl ?_|refine zH (.there (.there (.there (.there .here)))) rfl rfl rfl rfl ?_)
      refine oS (ev_build_arr (t := u8s zDg.1) (zs := u8s zDg.1) rfl rfl rfl .nil) rfl ?_
      refine oP (propose_nil F1) Try.call11 rfl rfl ?_
      repeat (first|refine zJ rfl rfl ?_|refine jr rfl ?_|refine jn ?_|refine zM rfl rfl ?_|(refine zC rfl rfl ?_ rfl ?_;omega)|(refine zD rfl rfl ?_ rfl ?_;omega)|(refine zP rfl ?_ rfl ?_;omega)|refine zG rfl rfl rfl rfl ?_|(refine jdq rfl rfl ?_ ?_ ?_;kernel_rfl;kernel_rfl)|refine zB rfl rfl rfl (by repeat constructor) rfl ?_|refine zH .here rfl rfl rfl rfl ?_|refine zH (.there .here) rfl rfl rfl rfl ?_|refine zH (.there (.there .here)) rfl rfl rfl rfl ?_|refine zH (.there (.there (.there .here))) rfl rfl rfl rfl ?_|refine zH (.there (.there (.there (.there .here)))) rfl rfl rfl rfl ?_)
      refine oS (ev_build_arr (t := u8s zDg.1) (zs := u8s zDg.1) rfl rfl rfl .nil) rfl ?_
      refine oP (prepare_nil F1) Try.call16 rfl rfl ?_
      repeat (first|refine zJ rfl rfl ?_|refine jr rfl ?_|refine jn ?_|refine zM rfl rfl ?_|(refine zC rfl rfl ?_ rfl ?_;omega)|(refine zD rfl rfl ?_ rfl ?_;omega)|(refine zP rfl ?_ rfl ?_;omega)|refine zG rfl rfl rfl rfl ?_|(refine jdq rfl rfl ?_ ?_ ?_;kernel_rfl;kernel_rfl)|refine zB rfl rfl rfl (by repeat constructor) rfl ?_|refine zH .here rfl rfl rfl rfl ?_|refine zH (.there .here) rfl rfl rfl rfl ?_|refine zH (.there (.there .here)) rfl rfl rfl rfl ?_|refine zH (.there (.there (.there .here))) rfl rfl rfl rfl ?_|refine zH (.there (.there (.there (.there .here)))) rfl rfl rfl rfl ?_)
      refine oS (ev_build_arr (t := u8s zDg.1) (zs := u8s zDg.1) rfl rfl rfl .nil) rfl ?_
      refine oP (commit_nil F1) Try.call12 rfl rfl ?_
      repeat (first|refine zJ rfl rfl ?_|refine jr rfl ?_|refine jn ?_|refine zM rfl rfl ?_|(refine zC rfl rfl ?_ rfl ?_;omega)|(refine zD rfl rfl ?_ rfl ?_;omega)|(refine zP rfl ?_ rfl ?_;omega)|refine zG rfl rfl rfl rfl ?_|(refine jdq rfl rfl ?_ ?_ ?_;kernel_rfl;kernel_rfl)|refine zB rfl rfl rfl (by repeat constructor) rfl ?_|refine zH .here rfl rfl rfl rfl ?_|refine zH (.there .here) rfl rfl rfl rfl ?_|refine zH (.there (.there .here)) rfl rfl rfl rfl ?_|refine zH (.there (.there (.there .here))) rfl rfl rfl rfl ?_|refine zH (.there (.there (.there (.there .here)))) rfl rfl rfl rfl ?_)
      refine oP (prepared_nil F1) Try.call17 rfl rfl ?_
      repeat (first|refine zJ rfl rfl ?_|refine jr rfl ?_|refine jn ?_|refine zM rfl rfl ?_|(refine zC rfl rfl ?_ rfl ?_;omega)|(refine zD rfl rfl ?_ rfl ?_;omega)|(refine zP rfl ?_ rfl ?_;omega)|refine zG rfl rfl rfl rfl ?_|(refine jdq rfl rfl ?_ ?_ ?_;kernel_rfl;kernel_rfl)|refine zB rfl rfl rfl (by repeat constructor) rfl ?_|refine zH .here rfl rfl rfl rfl ?_|refine zH (.there .here) rfl rfl rfl rfl ?_|refine zH (.there (.there .here)) rfl rfl rfl rfl ?_|refine zH (.there (.there (.there .here))) rfl rfl rfl rfl ?_|refine zH (.there (.there (.there (.there .here)))) rfl rfl rfl rfl ?_)
      refine oP (committed_nil F1) Try.call13 rfl rfl ?_
      repeat (first|refine zJ rfl rfl ?_|refine jr rfl ?_|refine jn ?_|refine zM rfl rfl ?_|(refine zC rfl rfl ?_ rfl ?_;omega)|(refine zD rfl rfl ?_ rfl ?_;omega)|(refine zP rfl ?_ rfl ?_;omega)|refine zG rfl rfl rfl rfl ?_|(refine jdq rfl rfl ?_ ?_ ?_;kernel_rfl;kernel_rfl)|refine zB rfl rfl rfl (by repeat constructor) rfl ?_|refine zH .here rfl rfl rfl rfl ?_|refine zH (.there .here) rfl rfl rfl rfl ?_|refine zH (.there (.there .here)) rfl rfl rfl rfl ?_|refine zH (.there (.there (.there .here))) rfl rfl rfl rfl ?_|refine zH (.there (.there (.there (.there .here)))) rfl rfl rfl rfl ?_)
      exact J_retv rfl (.tmp rfl .nil) [] (fun w s => s.drop) hF1 ⟨rfl, rfl⟩
  refine oC (Hc := []) (Hr := X) (snew_spec n (by omega) (by omega) F1) Try.call10 rfl rfl (fun w s => s) ?_
  rintro _ F2 _ hF2 ⟨A, rfl, rfl⟩
  repeat (first|refine zJ rfl rfl ?_|refine jr rfl ?_|refine jn ?_|refine zM rfl rfl ?_|(refine zC rfl rfl ?_ rfl ?_;omega)|(refine zD rfl rfl ?_ rfl ?_;omega)|(refine zP rfl ?_ rfl ?_;omega)|refine zG rfl rfl rfl rfl ?_|(refine jdq rfl rfl ?_ ?_ ?_;kernel_rfl;kernel_rfl)|refine zB rfl rfl rfl (by repeat constructor) rfl ?_|refine zH .here rfl rfl rfl rfl ?_|refine zH (.there .here) rfl rfl rfl rfl ?_|refine zH (.there (.there .here)) rfl rfl rfl rfl ?_|refine zH (.there (.there (.there .here))) rfl rfl rfl rfl ?_|refine zH (.there (.there (.there (.there .here)))) rfl rfl rfl rfl ?_)
  try rw [decide_eq_false (show ¬ n < 1 by omega)]
  repeat (first|refine zJ rfl rfl ?_|refine jr rfl ?_|refine jn ?_|refine zM rfl rfl ?_|(refine zC rfl rfl ?_ rfl ?_;omega)|(refine zD rfl rfl ?_ rfl ?_;omega)|(refine zP rfl ?_ rfl ?_;omega)|refine zG rfl rfl rfl rfl ?_|(refine jdq rfl rfl ?_ ?_ ?_;kernel_rfl;kernel_rfl)|refine zB rfl rfl rfl (by repeat constructor) rfl ?_|refine zH .here rfl rfl rfl rfl ?_|refine zH (.there .here) rfl rfl rfl rfl ?_|refine zH (.there (.there .here)) rfl rfl rfl rfl ?_|refine zH (.there (.there (.there .here))) rfl rfl rfl rfl ?_|refine zH (.there (.there (.there (.there .here)))) rfl rfl rfl rfl ?_)
  try rw [decide_eq_false (show ¬ (7 : Int) < n by omega)]
  repeat (first|refine zJ rfl rfl ?_|refine jr rfl ?_|refine jn ?_|refine zM rfl rfl ?_|(refine zC rfl rfl ?_ rfl ?_;omega)|(refine zD rfl rfl ?_ rfl ?_;omega)|(refine zP rfl ?_ rfl ?_;omega)|refine zG rfl rfl rfl rfl ?_|(refine jdq rfl rfl ?_ ?_ ?_;kernel_rfl;kernel_rfl)|refine zB rfl rfl rfl (by repeat constructor) rfl ?_|refine zH .here rfl rfl rfl rfl ?_|refine zH (.there .here) rfl rfl rfl rfl ?_|refine zH (.there (.there .here)) rfl rfl rfl rfl ?_|refine zH (.there (.there (.there .here))) rfl rfl rfl rfl ?_|refine zH (.there (.there (.there (.there .here)))) rfl rfl rfl rfl ?_)
  refine oE (ev_box rfl .agg) rfl ?_; rintro _ _ _ _ ⟨rfl, r, rfl, rfl⟩
  repeat (first|refine zJ rfl rfl ?_|refine jr rfl ?_|refine jn ?_|refine zM rfl rfl ?_|(refine zC rfl rfl ?_ rfl ?_;omega)|(refine zD rfl rfl ?_ rfl ?_;omega)|(refine zP rfl ?_ rfl ?_;omega)|refine zG rfl rfl rfl rfl ?_|(refine jdq rfl rfl ?_ ?_ ?_;kernel_rfl;kernel_rfl)|refine zB rfl rfl rfl (by repeat constructor) rfl ?_|refine zH .here rfl rfl rfl rfl ?_|refine zH (.there .here) rfl rfl rfl rfl ?_|refine zH (.there (.there .here)) rfl rfl rfl rfl ?_|refine zH (.there (.there (.there .here))) rfl rfl rfl rfl ?_|refine zH (.there (.there (.there (.there .here)))) rfl rfl rfl rfl ?_)
  refine J_loop2 (fun (i : Nat) (t : St) => i ≤ xs.length ∧ StOk F i t) (fun i _ => xs.length - i) (fun i _ => [(0, .int .i64 n), (2, .int .i64 primary), (6, .bool false), (7, pT A.s), (13, pT r), (89, .slice a xs.length c), (90, .int .i64 xs.length), (91, .int .i64 i)]) (fun _ t => t.G) (fun _ t => SL A n t.p t.ps t.cs ++ (RS r n t.has t.d t.bv t.pv t.cv :: X)) 0 ⟨F2, .pointer none, none, [], [], false, zDg, .slice none 0 0, .slice none 0 0, .slice none 0 0⟩ ⟨Nat.zero_le _, hF1.trans hF2, rfl, fun q hq => (by cases hq), ⟨rfl, rfl, rfl⟩, SliceV.nil _ _, SliceV.nil _ _, List.nodup_nil, Nat.le_refl _, Nat.le_refl _⟩ ⟨⟨rfl, rfl, rfl, rfl, rfl, rfl, rfl, rfl, trivial⟩, fun w t => t.pm 8 [1, 2, 3, 4, 5, 6, 7, 0] rfl rfl⟩ ?_
  rintro i ⟨G, p, o, ps, cs, has, d, bv, pv, cv⟩ ⟨hi, hG, hp, hq, hdo, hpv, hcv, hu, hlp, hlc⟩
  dsimp only at hG hp hq hdo hpv hcv hu hlp hlc ⊢
  by_cases hlt : i < xs.length
  · have hg : xs[i]? = some xs[i] := List.getElem?_eq_getElem hlt
    obtain ⟨b, off, acs, rfl, hcc, hrep, _⟩ := (h.mono hG).at hg
    obtain ⟨y, v, rfl, hk, hes⟩ := ac_of hrep
    clear hrep hg
    obtain ⟨_, av, vc, rfl, _, _⟩ := id hes
    have hyl := ac_len y (.slice av y.es.length vc)
    have hyo := @ac_ones y av y.es.length vc
    have hat := ac_at y (.slice av y.es.length vc)
    repeat (first|refine zJ rfl rfl ?_|refine jr rfl ?_|refine jn ?_|refine zM rfl rfl ?_|(refine zC rfl rfl ?_ rfl ?_;omega)|(refine zD rfl rfl ?_ rfl ?_;omega)|(refine zP rfl ?_ rfl ?_;omega)|refine zG rfl rfl rfl rfl ?_|(refine jdq rfl rfl ?_ ?_ ?_;kernel_rfl;kernel_rfl)|refine zB rfl rfl rfl (by repeat constructor) rfl ?_|refine zH .here rfl rfl rfl rfl ?_|refine zH (.there .here) rfl rfl rfl rfl ?_|refine zH (.there (.there .here)) rfl rfl rfl rfl ?_|refine zH (.there (.there (.there .here))) rfl rfl rfl rfl ?_|refine zH (.there (.there (.there (.there .here)))) rfl rfl rfl rfl ?_)
    refine oS (ev_indexAddr (i := i) rfl rfl rfl hlt) rfl ?_
    refine oS (ev_load_agg (cs := acC y (.slice av y.es.length vc)) rfl rfl (Rdb.ofF hcc) hyl) rfl ?_
    refine oE (ev_alloc (cs := acC ⟨0, 0, zDg, []⟩ (.slice none 0 0)) rfl) rfl ?_
    rintro _ _ _ _ ⟨rfl, b15, rfl, rfl⟩
    refine oN (ev_store rfl rfl .agg rfl hyl (lay_all (by rw [hyl, ac_len])) hyo .here) rfl ?_
    rintro _ _ _ _ ⟨rfl, _, rfl⟩
    repeat (first|refine zJ rfl rfl ?_|refine jr rfl ?_|refine jn ?_|refine zM rfl rfl ?_|(refine zC rfl rfl ?_ rfl ?_;omega)|(refine zD rfl rfl ?_ rfl ?_;omega)|(refine zP rfl ?_ rfl ?_;omega)|refine zG rfl rfl rfl rfl ?_|(refine jdq rfl rfl ?_ ?_ ?_;kernel_rfl;kernel_rfl)|refine zB rfl rfl rfl (by repeat constructor) rfl ?_|refine zH .here rfl rfl rfl rfl ?_|refine zH (.there .here) rfl rfl rfl rfl ?_|refine zH (.there (.there .here)) rfl rfl rfl rfl ?_|refine zH (.there (.there (.there .here))) rfl rfl rfl rfl ?_|refine zH (.there (.there (.there (.there .here)))) rfl rfl rfl rfl ?_)
    refine oS (ev_load (v := .slice av y.es.length vc) rfl rfl (Rdb.ofB (n := 0) .here hat.1)) rfl ?_
    repeat (first|refine zJ rfl rfl ?_|refine jr rfl ?_|refine jn ?_|refine zM rfl rfl ?_|(refine zC rfl rfl ?_ rfl ?_;omega)|(refine zD rfl rfl ?_ rfl ?_;omega)|(refine zP rfl ?_ rfl ?_;omega)|refine zG rfl rfl rfl rfl ?_|(refine jdq rfl rfl ?_ ?_ ?_;kernel_rfl;kernel_rfl)|refine zB rfl rfl rfl (by repeat constructor) rfl ?_|refine zH .here rfl rfl rfl rfl ?_|refine zH (.there .here) rfl rfl rfl rfl ?_|refine zH (.there (.there .here)) rfl rfl rfl rfl ?_|refine zH (.there (.there (.there .here))) rfl rfl rfl rfl ?_|refine zH (.there (.there (.there (.there .here)))) rfl rfl rfl rfl ?_)
    by_cases h10 : 10 < y.es.length
    · try rw [decide_eq_true (show (10 : Int) < (y.es.length : Int) by omega)]
      repeat (first|refine zJ rfl rfl ?_|refine jr rfl ?_|refine jn ?_|refine zM rfl rfl ?_|(refine zC rfl rfl ?_ rfl ?_;omega)|(refine zD rfl rfl ?_ rfl ?_;omega)|(refine zP rfl ?_ rfl ?_;omega)|refine zG rfl rfl rfl rfl ?_|(refine jdq rfl rfl ?_ ?_ ?_;kernel_rfl;kernel_rfl)|refine zB rfl rfl rfl (by repeat constructor) rfl ?_|refine zH .here rfl rfl rfl rfl ?_|refine zH (.there .here) rfl rfl rfl rfl ?_|refine zH (.there (.there .here)) rfl rfl rfl rfl ?_|refine zH (.there (.there (.there .here))) rfl rfl rfl rfl ?_|refine zH (.there (.there (.there (.there .here)))) rfl rfl rfl rfl ?_)
      exact J_retv rfl (.tmp rfl .nil) [] (fun w t => (dr7 _ t.drop).drop) hG ⟨rfl, rfl⟩
    try rw [decide_eq_false (show ¬ (10 : Int) < (y.es.length : Int) by omega)]
    -- join
    refine J_cond_f rfl ?_
    refine J_skip ?_
    refine J_seq ?_
    refine jr rfl ?_
    refine zM rfl rfl ?_
    refine jn ?_
    refine J_seq ?_
    refine J_join [_] (fun t : St => StOk F (i + 1) t) (fun _ => [(0, .int .i64 n), (2, .int .i64 primary), (6, .bool false), (7, pT A.s), (13, pT r), (16, .bool true), (89, .slice (some ⟨b, off, none⟩) xs.length c), (90, .int .i64 xs.length), (91, .int .i64 i)]) (fun t => t.G) (fun t => SL A n t.p t.ps t.cs ++ (blk b15 44 (acC y (.slice av y.es.length vc)) :: RS r n t.has t.d t.bv t.pv t.cv :: X)) ?_ ?_
    · dsimp only [InK] at hk
      by_cases hk0 : y.k % 3 = 0
      · repeat (first|refine zJ rfl rfl ?_|refine jr rfl ?_|refine jn ?_|refine zM rfl rfl ?_|(refine zC rfl rfl ?_ rfl ?_;omega)|(refine zD rfl rfl ?_ rfl ?_;omega)|(refine zP rfl ?_ rfl ?_;omega)|refine zG rfl rfl rfl rfl ?_|(refine jdq rfl rfl ?_ ?_ ?_;kernel_rfl;kernel_rfl)|refine zB rfl rfl rfl (by repeat constructor) rfl ?_|refine zH .here rfl rfl rfl rfl ?_|refine zH (.there .here) rfl rfl rfl rfl ?_|refine zH (.there (.there .here)) rfl rfl rfl rfl ?_|refine zH (.there (.there (.there .here))) rfl rfl rfl rfl ?_|refine zH (.there (.there (.there (.there .here)))) rfl rfl rfl rfl ?_)
        refine ja G [blk b15 44 (acC y (.slice av y.es.length vc))] ?_ (fun w t => t.head) ?_; kernel_rfl
        refine aT 0 rfl (ev_qe rfl) rfl rfl ?_ ?_ ?_ ?_; kernel_rfl; kernel_rfl; kernel_rfl
        refine aT 1 rfl (ev_qe rfl) rfl rfl ?_ ?_ ?_ ?_; kernel_rfl; kernel_rfl; kernel_rfl
        refine aT 2 rfl (ev_ldD (d := y.d) .here rfl hat.2) rfl rfl ?_ ?_ ?_ ?_; kernel_rfl; kernel_rfl; kernel_rfl
        refine aT 3 rfl (ev_qe rfl) rfl rfl ?_ ?_ ?_ ?_; kernel_rfl; kernel_rfl; kernel_rfl
        refine aT 4 rfl (ev_load (v := .slice av y.es.length vc) rfl rfl (Rdb.ofB (n := 0) .here hat.1)) rfl rfl ?_ ?_ ?_ ?_; kernel_rfl; kernel_rfl; kernel_rfl
        refine aT 6 rfl (ev_qe rfl) rfl rfl ?_ ?_ ?_ ?_; kernel_rfl; kernel_rfl; kernel_rfl
        refine aT 7 rfl (ev_qe rfl) rfl rfl ?_ ?_ ?_ ?_; kernel_rfl; kernel_rfl; kernel_rfl
        refine aT 8 rfl (ev_ldD (d := y.d) .here rfl hat.2) rfl rfl ?_ ?_ ?_ ?_; kernel_rfl; kernel_rfl; kernel_rfl
        refine aT 9 rfl (ev_qe rfl) rfl rfl ?_ ?_ ?_ ?_; kernel_rfl; kernel_rfl; kernel_rfl
        refine aT 10 rfl (ev_load (v := .slice av y.es.length vc) rfl rfl (Rdb.ofB (n := 0) .here hat.1)) rfl rfl ?_ ?_ ?_ ?_; kernel_rfl; kernel_rfl; kernel_rfl
        refine aB (i := 5) (by kernel_rfl) (aC (Hc := SL A n p ps cs) (Hr := blk b15 44 (acC y (.slice av y.es.length vc)) :: RS r n has d bv pv cv :: X) rfl (propose_spec A n p o ps cs y.d (.slice av y.es.length vc) y.es.length (eCs y.es) G hp hes (eCs_ones _) (by omega)) Try.call11 rfl rfl rfl (fun w t => t.pm 8 [1, 2, 3, 4, 5, 6, 7, 0] rfl rfl) (fun _ _ _ hF hq w t => by obtain ⟨_, _, _, rfl, rfl⟩ := hq; exact (t.pm 8 [7, 0, 1, 2, 3, 4, 5, 6] rfl rfl).head.mono hF) ?_)
        rintro _ G1 _ hG1 ⟨p', u', hp', rfl, rfl⟩
        refine aB (i := 11) (by kernel_rfl) (aC (Hc := [RS r n has d bv pv cv]) (Hr := SL A n p' ps cs ++ (blk b15 44 (acC y (.slice av y.es.length vc)) :: X)) rfl (Propose_spec r n o has d bv pv cv y.d (.slice av y.es.length vc) u' y.es.length (eCs y.es) G1 (hdo.mono hG1) (hes.mono hG1) (eCs_ones _) (by omega)) Try.call18 rfl rfl rfl (fun w t => t.pm 9 [8, 0, 1, 2, 3, 4, 5, 6, 7] rfl rfl) (fun _ _ _ hF hq w t => by obtain ⟨_, _, _, rfl, _, rfl⟩ := hq; exact (t.pm 9 [8, 0, 1, 2, 3, 4, 5, 6, 7] rfl rfl).head.mono (hG1.trans hF)) ?_)
        rintro _ G2 _ hG2 ⟨has', d', bv', rfl, hdo', rfl⟩
        refine aT 12 rfl (ev_cmp_t rfl rfl (by dsimp only [cmpP])) rfl rfl ?_ ?_ ?_ ?_; kernel_rfl; kernel_rfl; kernel_rfl
        refine aT 13 rfl (ev_qe rfl) rfl rfl ?_ ?_ ?_ ?_; kernel_rfl; kernel_rfl; kernel_rfl
        refine aD (by kernel_rfl) ?_
        have hp2 := hp'.mono hG2
        have hpv2 := SliceV.mono hpv (hG1.trans hG2)
        have hcv2 := SliceV.mono hcv (hG1.trans hG2)
        have hq2 := ent_next (o := o) y.d u' y.es hq (by omega)
        repeat (first|refine zJ rfl rfl ?_|refine jr rfl ?_|refine jn ?_|refine zM rfl rfl ?_|(refine zC rfl rfl ?_ rfl ?_;omega)|(refine zD rfl rfl ?_ rfl ?_;omega)|(refine zP rfl ?_ rfl ?_;omega)|refine zG rfl rfl rfl rfl ?_|(refine jdq rfl rfl ?_ ?_ ?_;kernel_rfl;kernel_rfl)|refine zB rfl rfl rfl (by repeat constructor) rfl ?_|refine zH .here rfl rfl rfl rfl ?_|refine zH (.there .here) rfl rfl rfl rfl ?_|refine zH (.there (.there .here)) rfl rfl rfl rfl ?_|refine zH (.there (.there (.there .here))) rfl rfl rfl rfl ?_|refine zH (.there (.there (.there (.there .here)))) rfl rfl rfl rfl ?_)
        refine J_joined ⟨G2, p', (propO o y.d u' y.es.length (eCs y.es)), ps, cs, has', d', bv', pv, cv⟩ ⟨hG.trans (hG1.trans hG2), hp2, hq2, hdo', hpv2, hcv2, hu, by dsimp only; omega, by dsimp only; omega⟩ ⟨⟨rfl, rfl, rfl, rfl, rfl, rfl, rfl, rfl, rfl, trivial⟩, fun w t => t.pm 9 [1, 2, 3, 4, 5, 6, 7, 8, 0] rfl rfl⟩

      by_cases hk1 : y.k % 3 = 1
      · repeat (first|refine zJ rfl rfl ?_|refine jr rfl ?_|refine jn ?_|refine zM rfl rfl ?_|(refine zC rfl rfl ?_ rfl ?_;omega)|(refine zD rfl rfl ?_ rfl ?_;omega)|(refine zP rfl ?_ rfl ?_;omega)|refine zG rfl rfl rfl rfl ?_|(refine jdq rfl rfl ?_ ?_ ?_;kernel_rfl;kernel_rfl)|refine zB rfl rfl rfl (by repeat constructor) rfl ?_|refine zH .here rfl rfl rfl rfl ?_|refine zH (.there .here) rfl rfl rfl rfl ?_|refine zH (.there (.there .here)) rfl rfl rfl rfl ?_|refine zH (.there (.there (.there .here))) rfl rfl rfl rfl ?_|refine zH (.there (.there (.there (.there .here)))) rfl rfl rfl rfl ?_)
        refine ja G [blk b15 44 (acC y (.slice av y.es.length vc))] ?_ (fun w t => t.head) ?_; kernel_rfl
        refine aT 0 rfl (ev_qe rfl) rfl rfl ?_ ?_ ?_ ?_; kernel_rfl; kernel_rfl; kernel_rfl
        refine aT 1 rfl (ev_qe rfl) rfl rfl ?_ ?_ ?_ ?_; kernel_rfl; kernel_rfl; kernel_rfl
        refine aT 2 rfl (ev_load (v := .int .i64 y.who) rfl rfl (Rdb.ofB (n := 0) .here rfl)) rfl rfl ?_ ?_ ?_ ?_; kernel_rfl; kernel_rfl; kernel_rfl
        refine aT 3 rfl (ev_qe rfl) rfl rfl ?_ ?_ ?_ ?_; kernel_rfl; kernel_rfl; kernel_rfl
        refine aT 4 rfl (ev_ldD (d := y.d) .here rfl hat.2) rfl rfl ?_ ?_ ?_ ?_; kernel_rfl; kernel_rfl; kernel_rfl
        refine aT 6 rfl (ev_qe rfl) rfl rfl ?_ ?_ ?_ ?_; kernel_rfl; kernel_rfl; kernel_rfl
        refine aT 7 rfl (ev_qe rfl) rfl rfl ?_ ?_ ?_ ?_; kernel_rfl; kernel_rfl; kernel_rfl
        refine aT 8 rfl (ev_load (v := .int .i64 y.who) rfl rfl (Rdb.ofB (n := 0) .here rfl)) rfl rfl ?_ ?_ ?_ ?_; kernel_rfl; kernel_rfl; kernel_rfl
        refine aT 9 rfl (ev_qe rfl) rfl rfl ?_ ?_ ?_ ?_; kernel_rfl; kernel_rfl; kernel_rfl
        refine aT 10 rfl (ev_ldD (d := y.d) .here rfl hat.2) rfl rfl ?_ ?_ ?_ ?_; kernel_rfl; kernel_rfl; kernel_rfl
        refine aB (i := 5) (by kernel_rfl) (aC (Hc := SL A n p ps cs) (Hr := blk b15 44 (acC y (.slice av y.es.length vc)) :: RS r n has d bv pv cv :: X) rfl (prepare_spec A n p ps cs y.who y.d G (by omega)) Try.call16 rfl rfl rfl (fun w t => t.pm 8 [1, 2, 3, 4, 5, 6, 7, 0] rfl rfl) (fun _ _ _ hF hq w t => by obtain ⟨rfl, rfl⟩ := hq; exact (t.pm 8 [7, 0, 1, 2, 3, 4, 5, 6] rfl rfl).head.mono hF) ?_)
        rintro _ G1 _ hG1 ⟨rfl, rfl⟩
        refine aB (i := 11) (by kernel_rfl) (aC (Hc := [RS r n has d bv pv cv]) (Hr := SL A n p (voteP n ps y.who y.d).2 cs ++ (blk b15 44 (acC y (.slice av y.es.length vc)) :: X)) rfl (Prepare_spec r n has d bv pv cv ps y.who y.d G1 (SliceV.mono hpv hG1) (by omega)) Try.call19 rfl rfl rfl (fun w t => t.pm 9 [8, 0, 1, 2, 3, 4, 5, 6, 7] rfl rfl) (fun _ _ _ hF hq w t => by obtain ⟨_, rfl, _, rfl⟩ := hq; exact (t.pm 9 [8, 0, 1, 2, 3, 4, 5, 6, 7] rfl rfl).head.mono (hG1.trans hF)) ?_)
        rintro _ G2 _ hG2 ⟨v', rfl, hv', rfl⟩
        refine aT 12 rfl (ev_cmp_t rfl rfl (by dsimp only [cmpP])) rfl rfl ?_ ?_ ?_ ?_; kernel_rfl; kernel_rfl; kernel_rfl
        refine aT 13 rfl (ev_qe rfl) rfl rfl ?_ ?_ ?_ ?_; kernel_rfl; kernel_rfl; kernel_rfl
        refine aD (by kernel_rfl) ?_
        have hp2 := hp.mono (hG1.trans hG2)
        have hdo2 := hdo.mono (hG1.trans hG2)
        have hpv2 := hv'
        have hcv2 := SliceV.mono hcv (hG1.trans hG2)
        have hvl := vote_len n ps y.who y.d
        repeat (first|refine zJ rfl rfl ?_|refine jr rfl ?_|refine jn ?_|refine zM rfl rfl ?_|(refine zC rfl rfl ?_ rfl ?_;omega)|(refine zD rfl rfl ?_ rfl ?_;omega)|(refine zP rfl ?_ rfl ?_;omega)|refine zG rfl rfl rfl rfl ?_|(refine jdq rfl rfl ?_ ?_ ?_;kernel_rfl;kernel_rfl)|refine zB rfl rfl rfl (by repeat constructor) rfl ?_|refine zH .here rfl rfl rfl rfl ?_|refine zH (.there .here) rfl rfl rfl rfl ?_|refine zH (.there (.there .here)) rfl rfl rfl rfl ?_|refine zH (.there (.there (.there .here))) rfl rfl rfl rfl ?_|refine zH (.there (.there (.there (.there .here)))) rfl rfl rfl rfl ?_)
        refine J_joined ⟨G2, p, o, (voteP n ps y.who y.d).2, cs, has, d, bv, v', cv⟩ ⟨hG.trans (hG1.trans hG2), hp2, hq, hdo2, hpv2, hcv2, (hu.vote n y.who y.d), by dsimp only; omega, by dsimp only; omega⟩ ⟨⟨rfl, rfl, rfl, rfl, rfl, rfl, rfl, rfl, rfl, trivial⟩, fun w t => t.pm 9 [1, 2, 3, 4, 5, 6, 7, 8, 0] rfl rfl⟩

      have hk2 : y.k % 3 = 2 := by omega
      repeat (first|refine zJ rfl rfl ?_|refine jr rfl ?_|refine jn ?_|refine zM rfl rfl ?_|(refine zC rfl rfl ?_ rfl ?_;omega)|(refine zD rfl rfl ?_ rfl ?_;omega)|(refine zP rfl ?_ rfl ?_;omega)|refine zG rfl rfl rfl rfl ?_|(refine jdq rfl rfl ?_ ?_ ?_;kernel_rfl;kernel_rfl)|refine zB rfl rfl rfl (by repeat constructor) rfl ?_|refine zH .here rfl rfl rfl rfl ?_|refine zH (.there .here) rfl rfl rfl rfl ?_|refine zH (.there (.there .here)) rfl rfl rfl rfl ?_|refine zH (.there (.there (.there .here))) rfl rfl rfl rfl ?_|refine zH (.there (.there (.there (.there .here)))) rfl rfl rfl rfl ?_)
      refine ja G [blk b15 44 (acC y (.slice av y.es.length vc))] ?_ (fun w t => t.head) ?_; kernel_rfl
      refine aT 0 rfl (ev_qe rfl) rfl rfl ?_ ?_ ?_ ?_; kernel_rfl; kernel_rfl; kernel_rfl
      refine aT 1 rfl (ev_qe rfl) rfl rfl ?_ ?_ ?_ ?_; kernel_rfl; kernel_rfl; kernel_rfl
      refine aT 2 rfl (ev_load (v := .int .i64 y.who) rfl rfl (Rdb.ofB (n := 0) .here rfl)) rfl rfl ?_ ?_ ?_ ?_; kernel_rfl; kernel_rfl; kernel_rfl
      refine aT 3 rfl (ev_qe rfl) rfl rfl ?_ ?_ ?_ ?_; kernel_rfl; kernel_rfl; kernel_rfl
      refine aT 4 rfl (ev_ldD (d := y.d) .here rfl hat.2) rfl rfl ?_ ?_ ?_ ?_; kernel_rfl; kernel_rfl; kernel_rfl
      refine aT 6 rfl (ev_qe rfl) rfl rfl ?_ ?_ ?_ ?_; kernel_rfl; kernel_rfl; kernel_rfl
      refine aT 7 rfl (ev_qe rfl) rfl rfl ?_ ?_ ?_ ?_; kernel_rfl; kernel_rfl; kernel_rfl
      refine aT 8 rfl (ev_load (v := .int .i64 y.who) rfl rfl (Rdb.ofB (n := 0) .here rfl)) rfl rfl ?_ ?_ ?_ ?_; kernel_rfl; kernel_rfl; kernel_rfl
      refine aT 9 rfl (ev_qe rfl) rfl rfl ?_ ?_ ?_ ?_; kernel_rfl; kernel_rfl; kernel_rfl
      refine aT 10 rfl (ev_ldD (d := y.d) .here rfl hat.2) rfl rfl ?_ ?_ ?_ ?_; kernel_rfl; kernel_rfl; kernel_rfl
      refine aB (i := 5) (by kernel_rfl) (aC (Hc := SL A n p ps cs) (Hr := blk b15 44 (acC y (.slice av y.es.length vc)) :: RS r n has d bv pv cv :: X) rfl (commit_spec A n p ps cs y.who y.d G (by omega)) Try.call12 rfl rfl rfl (fun w t => t.pm 8 [1, 2, 3, 4, 5, 6, 7, 0] rfl rfl) (fun _ _ _ hF hq w t => by obtain ⟨rfl, rfl⟩ := hq; exact (t.pm 8 [7, 0, 1, 2, 3, 4, 5, 6] rfl rfl).head.mono hF) ?_)
      rintro _ G1 _ hG1 ⟨rfl, rfl⟩
      refine aB (i := 11) (by kernel_rfl) (aC (Hc := [RS r n has d bv pv cv]) (Hr := SL A n p ps (voteP n cs y.who y.d).2 ++ (blk b15 44 (acC y (.slice av y.es.length vc)) :: X)) rfl (Commit_spec r n has d bv pv cv cs y.who y.d G1 (SliceV.mono hcv hG1) (by omega)) Try.call20 rfl rfl rfl (fun w t => t.pm 9 [8, 0, 1, 2, 3, 4, 5, 6, 7] rfl rfl) (fun _ _ _ hF hq w t => by obtain ⟨_, rfl, _, rfl⟩ := hq; exact (t.pm 9 [8, 0, 1, 2, 3, 4, 5, 6, 7] rfl rfl).head.mono (hG1.trans hF)) ?_)
      rintro _ G2 _ hG2 ⟨v', rfl, hv', rfl⟩
      refine aT 12 rfl (ev_cmp_t rfl rfl (by dsimp only [cmpP])) rfl rfl ?_ ?_ ?_ ?_; kernel_rfl; kernel_rfl; kernel_rfl
      refine aT 13 rfl (ev_qe rfl) rfl rfl ?_ ?_ ?_ ?_; kernel_rfl; kernel_rfl; kernel_rfl
      refine aD (by kernel_rfl) ?_
      have hp2 := hp.mono (hG1.trans hG2)
      have hdo2 := hdo.mono (hG1.trans hG2)
      have hpv2 := SliceV.mono hpv (hG1.trans hG2)
      have hcv2 := hv'
      have hvl := vote_len n cs y.who y.d
      repeat (first|refine zJ rfl rfl ?_|refine jr rfl ?_|refine jn ?_|refine zM rfl rfl ?_|(refine zC rfl rfl ?_ rfl ?_;omega)|(refine zD rfl rfl ?_ rfl ?_;omega)|(refine zP rfl ?_ rfl ?_;omega)|refine zG rfl rfl rfl rfl ?_|(refine jdq rfl rfl ?_ ?_ ?_;kernel_rfl;kernel_rfl)|refine zB rfl rfl rfl (by repeat constructor) rfl ?_|refine zH .here rfl rfl rfl rfl ?_|refine zH (.there .here) rfl rfl rfl rfl ?_|refine zH (.there (.there .here)) rfl rfl rfl rfl ?_|refine zH (.there (.there (.there .here))) rfl rfl rfl rfl ?_|refine zH (.there (.there (.there (.there .here)))) rfl rfl rfl rfl ?_)
      refine J_joined ⟨G2, p, o, ps, (voteP n cs y.who y.d).2, has, d, bv, pv, v'⟩ ⟨hG.trans (hG1.trans hG2), hp2, hq, hdo2, hpv2, hcv2, hu, by dsimp only; omega, by dsimp only; omega⟩ ⟨⟨rfl, rfl, rfl, rfl, rfl, rfl, rfl, rfl, rfl, trivial⟩, fun w t => t.pm 9 [1, 2, 3, 4, 5, 6, 7, 8, 0] rfl rfl⟩

    clear hp hq hdo hpv hcv hu hlp hlc hG
    rintro ⟨G, p, o, ps, cs, has, d, bv, pv, cv⟩ ⟨hG, hp, hq, hdo, hpv, hcv, hu, hlp, hlc⟩
    dsimp only at hG hp hq hdo hpv hcv hu hlp hlc ⊢
    obtain ⟨_, a1, k1, rfl, _, _⟩ := id hpv
    obtain ⟨_, a2, k2, rfl, _, _⟩ := id hcv
    repeat (first|refine zJ rfl rfl ?_|refine jr rfl ?_|refine jn ?_|refine zM rfl rfl ?_|(refine zC rfl rfl ?_ rfl ?_;omega)|(refine zD rfl rfl ?_ rfl ?_;omega)|(refine zP rfl ?_ rfl ?_;omega)|refine zG rfl rfl rfl rfl ?_|(refine jdq rfl rfl ?_ ?_ ?_;kernel_rfl;kernel_rfl)|refine zB rfl rfl rfl (by repeat constructor) rfl ?_|refine zH .here rfl rfl rfl rfl ?_|refine zH (.there .here) rfl rfl rfl rfl ?_|refine zH (.there (.there .here)) rfl rfl rfl rfl ?_|refine zH (.there (.there (.there .here))) rfl rfl rfl rfl ?_|refine zH (.there (.there (.there (.there .here)))) rfl rfl rfl rfl ?_)
    refine oC (Hc := SL A n p ps cs) (Hr := blk b15 44 (acC y (.slice av y.es.length vc)) :: RS r n has d bv (.slice a1 ps.length k1) (.slice a2 cs.length k2) :: X) (votes_spec A n p ps cs G) Try.call15 rfl rfl (fun w t => t) ?_
    rintro _ G4 _ hG4 ⟨rfl, rfl⟩
    repeat (first|refine zJ rfl rfl ?_|refine jr rfl ?_|refine jn ?_|refine zM rfl rfl ?_|(refine zC rfl rfl ?_ rfl ?_;omega)|(refine zD rfl rfl ?_ rfl ?_;omega)|(refine zP rfl ?_ rfl ?_;omega)|refine zG rfl rfl rfl rfl ?_|(refine jdq rfl rfl ?_ ?_ ?_;kernel_rfl;kernel_rfl)|refine zB rfl rfl rfl (by repeat constructor) rfl ?_|refine zH .here rfl rfl rfl rfl ?_|refine zH (.there .here) rfl rfl rfl rfl ?_|refine zH (.there (.there .here)) rfl rfl rfl rfl ?_|refine zH (.there (.there (.there .here))) rfl rfl rfl rfl ?_|refine zH (.there (.there (.there (.there .here)))) rfl rfl rfl rfl ?_)
    refine oC (Hc := SL A n p ps cs) (Hr := blk b15 44 (acC y (.slice av y.es.length vc)) :: RS r n has d bv (.slice a1 ps.length k1) (.slice a2 cs.length k2) :: X) (proposal_spec A n p o ps cs G4 (hp.mono hG4) (fun q e => by obtain ⟨es, h1, h2, h3⟩ := hq q e; rw [h1]; exact ⟨eCs_ones _, h3⟩)) Try.call14 rfl rfl (fun w t => t) ?_
    rintro u G5 _ hG5 ⟨hpr, rfl⟩
    have hle5 := hG4.trans hG5
    have hp5 := hp.mono hle5
    have hdo5 := hdo.mono hle5
    have hpv5 := SliceV.mono hpv hle5
    have hcv5 := SliceV.mono hcv hle5
    clear hp hdo hpv hcv
    cases o with
    | none =>
      cases hpr
      obtain ⟨rfl, rfl, rfl⟩ := id hdo5
      repeat (first|refine zJ rfl rfl ?_|refine jr rfl ?_|refine jn ?_|refine zM rfl rfl ?_|(refine zC rfl rfl ?_ rfl ?_;omega)|(refine zD rfl rfl ?_ rfl ?_;omega)|(refine zP rfl ?_ rfl ?_;omega)|refine zG rfl rfl rfl rfl ?_|(refine jdq rfl rfl ?_ ?_ ?_;kernel_rfl;kernel_rfl)|refine zB rfl rfl rfl (by repeat constructor) rfl ?_|refine zH .here rfl rfl rfl rfl ?_|refine zH (.there .here) rfl rfl rfl rfl ?_|refine zH (.there (.there .here)) rfl rfl rfl rfl ?_|refine zH (.there (.there (.there .here))) rfl rfl rfl rfl ?_|refine zH (.there (.there (.there (.there .here)))) rfl rfl rfl rfl ?_)
      refine oE (ev_alloc (cs := u8s zDg.1) rfl) rfl ?_; rintro _ _ _ _ ⟨rfl, b19, rfl, rfl⟩
      refine oN (ev_store rfl rfl .agg rfl (dig_len (zDg)) (lay_D (zDg) zDg) (dig_ones (zDg)) (.here)) rfl ?_; rintro _ _ _ _ ⟨rfl, _, rfl⟩
      repeat (first|refine zJ rfl rfl ?_|refine jr rfl ?_|refine jn ?_|refine zM rfl rfl ?_|(refine zC rfl rfl ?_ rfl ?_;omega)|(refine zD rfl rfl ?_ rfl ?_;omega)|(refine zP rfl ?_ rfl ?_;omega)|refine zG rfl rfl rfl rfl ?_|(refine jdq rfl rfl ?_ ?_ ?_;kernel_rfl;kernel_rfl)|refine zB rfl rfl rfl (by repeat constructor) rfl ?_|refine zH .here rfl rfl rfl rfl ?_|refine zH (.there .here) rfl rfl rfl rfl ?_|refine zH (.there (.there .here)) rfl rfl rfl rfl ?_|refine zH (.there (.there (.there .here))) rfl rfl rfl rfl ?_|refine zH (.there (.there (.there (.there .here)))) rfl rfl rfl rfl ?_)
      refine J_weak (H' := RS r n false zDg (.slice none 0 0) (.slice a1 ps.length k1) (.slice a2 cs.length k2) :: blk b19 29 (u8s zDg.1) :: (SL A n p ps cs ++ (blk b15 44 (acC y (.slice av y.es.length vc)) :: X))) ?_ (fun w t => t.pm 10 [9, 0, 1, 2, 3, 4, 5, 6, 7, 8] rfl rfl)
      refine ja G5 [RS r n false zDg (.slice none 0 0) (.slice a1 ps.length k1) (.slice a2 cs.length k2), blk b19 29 (u8s zDg.1)] ?_ (fun w t => two t) ?_; kernel_rfl
      refine aT 0 rfl (ev_qe rfl) rfl rfl ?_ ?_ ?_ ?_; kernel_rfl; kernel_rfl; kernel_rfl
      refine aT 1 rfl (ev_qe rfl) rfl rfl ?_ ?_ ?_ ?_; kernel_rfl; kernel_rfl; kernel_rfl
      refine aT 2 rfl (ev_qe rfl) rfl rfl ?_ ?_ ?_ ?_; kernel_rfl; kernel_rfl; kernel_rfl
      refine aT 3 rfl (ev_qe rfl) rfl rfl ?_ ?_ ?_ ?_; kernel_rfl; kernel_rfl; kernel_rfl
      refine aT 4 rfl (ev_qe rfl) rfl rfl ?_ ?_ ?_ ?_; kernel_rfl; kernel_rfl; kernel_rfl
      refine aT 5 rfl (ev_qe rfl) rfl rfl ?_ ?_ ?_ ?_; kernel_rfl; kernel_rfl; kernel_rfl
      refine aT 6 rfl (ev_qe rfl) rfl rfl ?_ ?_ ?_ ?_; kernel_rfl; kernel_rfl; kernel_rfl
      refine aT 7 rfl (ev_load (v := .slice a1 ps.length k1) rfl rfl (Rdb.ofB (n := 0) .here (rs_at n false zDg (.slice none 0 0) (.slice a1 ps.length k1) (.slice a2 cs.length k2)).2.1)) rfl rfl ?_ ?_ ?_ ?_; kernel_rfl; kernel_rfl; kernel_rfl
      refine aT 8 rfl (ev_qe rfl) rfl rfl ?_ ?_ ?_ ?_; kernel_rfl; kernel_rfl; kernel_rfl
      refine aT 9 rfl (ev_cmp_f rfl rfl (by dsimp only [cmpN])) rfl rfl ?_ ?_ ?_ ?_; kernel_rfl; kernel_rfl; kernel_rfl
      refine aT 10 rfl (ev_qe rfl) rfl rfl ?_ ?_ ?_ ?_; kernel_rfl; kernel_rfl; kernel_rfl
      refine aT 11 rfl (ev_qe rfl) rfl rfl ?_ ?_ ?_ ?_; kernel_rfl; kernel_rfl; kernel_rfl
      refine aT 12 rfl (ev_qe rfl) rfl rfl ?_ ?_ ?_ ?_; kernel_rfl; kernel_rfl; kernel_rfl
      refine aT 13 rfl (ev_qe rfl) rfl rfl ?_ ?_ ?_ ?_; kernel_rfl; kernel_rfl; kernel_rfl
      refine aT 14 rfl (ev_qe rfl) rfl rfl ?_ ?_ ?_ ?_; kernel_rfl; kernel_rfl; kernel_rfl
      refine aT 15 rfl (ev_qe rfl) rfl rfl ?_ ?_ ?_ ?_; kernel_rfl; kernel_rfl; kernel_rfl
      refine aT 16 rfl (ev_load (v := .slice a2 cs.length k2) rfl rfl (Rdb.ofB (n := 0) .here (rs_at n false zDg (.slice none 0 0) (.slice a1 ps.length k1) (.slice a2 cs.length k2)).2.2.1)) rfl rfl ?_ ?_ ?_ ?_; kernel_rfl; kernel_rfl; kernel_rfl
      refine aT 17 rfl (ev_qe rfl) rfl rfl ?_ ?_ ?_ ?_; kernel_rfl; kernel_rfl; kernel_rfl
      refine aT 18 rfl (ev_cmp_f rfl rfl (by dsimp only [cmpN])) rfl rfl ?_ ?_ ?_ ?_; kernel_rfl; kernel_rfl; kernel_rfl
      refine aT 19 rfl (ev_qe rfl) rfl rfl ?_ ?_ ?_ ?_; kernel_rfl; kernel_rfl; kernel_rfl
      refine aT 20 rfl (ev_qe rfl) rfl rfl ?_ ?_ ?_ ?_; kernel_rfl; kernel_rfl; kernel_rfl
      refine aT 21 rfl (ev_qe rfl) rfl rfl ?_ ?_ ?_ ?_; kernel_rfl; kernel_rfl; kernel_rfl
      refine aT 22 rfl (ev_qe rfl) rfl rfl ?_ ?_ ?_ ?_; kernel_rfl; kernel_rfl; kernel_rfl
      refine aT 23 rfl (ev_qe rfl) rfl rfl ?_ ?_ ?_ ?_; kernel_rfl; kernel_rfl; kernel_rfl
      refine aT 24 rfl (ev_qe rfl) rfl rfl ?_ ?_ ?_ ?_; kernel_rfl; kernel_rfl; kernel_rfl
      refine aT 25 rfl (ev_load (v := .bool false) rfl rfl (Rdb.ofB (n := 0) .here rfl)) rfl rfl ?_ ?_ ?_ ?_; kernel_rfl; kernel_rfl; kernel_rfl
      refine aT 26 rfl (ev_bool_ne_same rfl rfl rfl) rfl rfl ?_ ?_ ?_ ?_; kernel_rfl; kernel_rfl; kernel_rfl
      refine aT 27 rfl (ev_qe rfl) rfl rfl ?_ ?_ ?_ ?_; kernel_rfl; kernel_rfl; kernel_rfl
      refine aT 28 rfl (ev_qe rfl) rfl rfl ?_ ?_ ?_ ?_; kernel_rfl; kernel_rfl; kernel_rfl
      refine aT 29 rfl (ev_qe rfl) rfl rfl ?_ ?_ ?_ ?_; kernel_rfl; kernel_rfl; kernel_rfl
      refine aT 30 rfl (ev_qe rfl) rfl rfl ?_ ?_ ?_ ?_; kernel_rfl; kernel_rfl; kernel_rfl
      refine aX 31 rfl rfl rfl ?_ ?_ ?_ ?_; kernel_rfl; kernel_rfl; kernel_rfl
      refine aX 32 rfl rfl rfl ?_ ?_ ?_ ?_; kernel_rfl; kernel_rfl; kernel_rfl
      refine aX 33 rfl rfl rfl ?_ ?_ ?_ ?_; kernel_rfl; kernel_rfl; kernel_rfl
      refine aX 34 rfl rfl rfl ?_ ?_ ?_ ?_; kernel_rfl; kernel_rfl; kernel_rfl
      refine aX 35 rfl rfl rfl ?_ ?_ ?_ ?_; kernel_rfl; kernel_rfl; kernel_rfl
      refine aX 36 rfl rfl rfl ?_ ?_ ?_ ?_; kernel_rfl; kernel_rfl; kernel_rfl
      refine aX 37 rfl rfl rfl ?_ ?_ ?_ ?_; kernel_rfl; kernel_rfl; kernel_rfl
      refine aX 38 rfl rfl rfl ?_ ?_ ?_ ?_; kernel_rfl; kernel_rfl; kernel_rfl
      refine aX 39 rfl rfl rfl ?_ ?_ ?_ ?_; kernel_rfl; kernel_rfl; kernel_rfl
      refine aX 40 rfl rfl rfl ?_ ?_ ?_ ?_; kernel_rfl; kernel_rfl; kernel_rfl
      refine aX 41 rfl rfl rfl ?_ ?_ ?_ ?_; kernel_rfl; kernel_rfl; kernel_rfl
      refine aX 42 rfl rfl rfl ?_ ?_ ?_ ?_; kernel_rfl; kernel_rfl; kernel_rfl
      refine aB (i := 43) (by kernel_rfl) (aXB rfl rfl rfl ?_)
      refine aX 44 rfl rfl rfl ?_ ?_ ?_ ?_; kernel_rfl; kernel_rfl; kernel_rfl
      refine aX 45 rfl rfl rfl ?_ ?_ ?_ ?_; kernel_rfl; kernel_rfl; kernel_rfl
      refine aT 46 rfl (ev_qe rfl) rfl rfl ?_ ?_ ?_ ?_; kernel_rfl; kernel_rfl; kernel_rfl
      refine aT 47 rfl (ev_qe rfl) rfl rfl ?_ ?_ ?_ ?_; kernel_rfl; kernel_rfl; kernel_rfl
      refine aT 48 rfl (ev_qe rfl) rfl rfl ?_ ?_ ?_ ?_; kernel_rfl; kernel_rfl; kernel_rfl
      refine aT 49 rfl (ev_qe rfl) rfl rfl ?_ ?_ ?_ ?_; kernel_rfl; kernel_rfl; kernel_rfl
      refine aT 50 rfl (ev_qe rfl) rfl rfl ?_ ?_ ?_ ?_; kernel_rfl; kernel_rfl; kernel_rfl
      refine aT 52 rfl (ev_qe rfl) rfl rfl ?_ ?_ ?_ ?_; kernel_rfl; kernel_rfl; kernel_rfl
      refine aT 53 rfl (ev_qe rfl) rfl rfl ?_ ?_ ?_ ?_; kernel_rfl; kernel_rfl; kernel_rfl
      refine aB (i := 51) (by kernel_rfl) (aC (Hc := SL A n p ps cs) (Hr := RS r n false zDg (.slice none 0 0) (.slice a1 ps.length k1) (.slice a2 cs.length k2) :: blk b19 29 (u8s zDg.1) :: blk b15 44 (acC y (.slice av y.es.length vc)) :: X) rfl (prepared_spec A n p none ps cs primary G5 hp5 (by omega) (by omega) (by omega)) Try.call17 rfl rfl rfl (fun w t => t.pm 9 [2, 3, 4, 5, 6, 7, 8, 0, 1] rfl rfl) (fun _ _ _ hF hq w t => by obtain ⟨rfl, rfl⟩ := hq; exact (two (t.pm 9 [7, 8, 0, 1, 2, 3, 4, 5, 6] rfl rfl)).mono (hF)) ?_)
      rintro _ G6 _ hG6 ⟨rfl, rfl⟩
      refine aB (i := 54) (by kernel_rfl) (aC (Hc := [RS r n false zDg (.slice none 0 0) (.slice a1 ps.length k1) (.slice a2 cs.length k2)]) (Hr := SL A n p ps cs ++ (blk b19 29 (u8s zDg.1) :: blk b15 44 (acC y (.slice av y.es.length vc)) :: X)) rfl (Prepared_spec r n false zDg (.slice none 0 0) (.slice a1 ps.length k1) (.slice a2 cs.length k2) ps primary G6 (SliceV.mono hpv5 hG6) (by omega) (by omega) (by omega)) Try.call22 rfl rfl rfl (fun w t => t.pm 8 [7, 0, 1, 2, 3, 4, 5, 6] rfl rfl) (fun _ _ _ hF hq w t => by obtain ⟨rfl, rfl⟩ := hq; exact (two (t.pm 9 [0, 8, 1, 2, 3, 4, 5, 6, 7] rfl rfl)).mono (hG6.trans hF)) ?_)
      rintro _ G7 _ hG7 ⟨rfl, rfl⟩
      rw [prepared_eq hdo5 (by omega) hu primary]
      refine aT 55 rfl (ev_bool_ne_same rfl rfl rfl) rfl rfl ?_ ?_ ?_ ?_; kernel_rfl; kernel_rfl; kernel_rfl
      refine aT 56 rfl (ev_qe rfl) rfl rfl ?_ ?_ ?_ ?_; kernel_rfl; kernel_rfl; kernel_rfl
      refine aT 57 rfl (ev_qe rfl) rfl rfl ?_ ?_ ?_ ?_; kernel_rfl; kernel_rfl; kernel_rfl
      refine aT 58 rfl (ev_qe rfl) rfl rfl ?_ ?_ ?_ ?_; kernel_rfl; kernel_rfl; kernel_rfl
      refine aT 60 rfl (ev_qe rfl) rfl rfl ?_ ?_ ?_ ?_; kernel_rfl; kernel_rfl; kernel_rfl
      refine aB (i := 59) (by kernel_rfl) (aC (Hc := SL A n p ps cs) (Hr := RS r n false zDg (.slice none 0 0) (.slice a1 ps.length k1) (.slice a2 cs.length k2) :: blk b19 29 (u8s zDg.1) :: blk b15 44 (acC y (.slice av y.es.length vc)) :: X) rfl (committed_spec A n p none ps cs G7 (hp5.mono (hG6.trans hG7)) (by omega) (by omega)) Try.call13 rfl rfl rfl (fun w t => t.pm 9 [1, 2, 3, 4, 5, 6, 7, 0, 8] rfl rfl) (fun _ _ _ hF hq w t => by obtain ⟨rfl, rfl⟩ := hq; exact (two (t.pm 9 [7, 8, 0, 1, 2, 3, 4, 5, 6] rfl rfl)).mono (hG6.trans (hG7.trans hF))) ?_)
      rintro _ G8 _ hG8 ⟨rfl, rfl⟩
      refine aB (i := 61) (by kernel_rfl) (aC (Hc := [RS r n false zDg (.slice none 0 0) (.slice a1 ps.length k1) (.slice a2 cs.length k2)]) (Hr := SL A n p ps cs ++ (blk b19 29 (u8s zDg.1) :: blk b15 44 (acC y (.slice av y.es.length vc)) :: X)) rfl (Committed_spec r n false zDg (.slice none 0 0) (.slice a1 ps.length k1) (.slice a2 cs.length k2) cs G8 (SliceV.mono hcv5 (hG6.trans (hG7.trans hG8))) (by omega) (by omega) (by omega)) Try.call23 rfl rfl rfl (fun w t => t.pm 8 [7, 0, 1, 2, 3, 4, 5, 6] rfl rfl) (fun _ _ _ hF hq w t => by obtain ⟨rfl, rfl⟩ := hq; exact (two (t.pm 9 [0, 8, 1, 2, 3, 4, 5, 6, 7] rfl rfl)).mono (hG6.trans (hG7.trans (hG8.trans hF)))) ?_)
      rintro _ G9 _ hG9 ⟨rfl, rfl⟩
      rw [committed_eq hdo5 (by omega) cs]
      refine aT 62 rfl (ev_bool_ne_same rfl rfl rfl) rfl rfl ?_ ?_ ?_ ?_; kernel_rfl; kernel_rfl; kernel_rfl
      refine aT 63 rfl (ev_qe rfl) rfl rfl ?_ ?_ ?_ ?_; kernel_rfl; kernel_rfl; kernel_rfl
      refine aD (by kernel_rfl) ?_
      have hle := hG6.trans (hG7.trans (hG8.trans hG9))
      repeat (first|refine zJ rfl rfl ?_|refine jr rfl ?_|refine jn ?_|refine zM rfl rfl ?_|(refine zC rfl rfl ?_ rfl ?_;omega)|(refine zD rfl rfl ?_ rfl ?_;omega)|(refine zP rfl ?_ rfl ?_;omega)|refine zG rfl rfl rfl rfl ?_|(refine jdq rfl rfl ?_ ?_ ?_;kernel_rfl;kernel_rfl)|refine zB rfl rfl rfl (by repeat constructor) rfl ?_|refine zH .here rfl rfl rfl rfl ?_|refine zH (.there .here) rfl rfl rfl rfl ?_|refine zH (.there (.there .here)) rfl rfl rfl rfl ?_|refine zH (.there (.there (.there .here))) rfl rfl rfl rfl ?_|refine zH (.there (.there (.there (.there .here)))) rfl rfl rfl rfl ?_)
      refine J_again2 (i + 1) ⟨G9, p, none, ps, cs, false, zDg, (.slice none 0 0), .slice a1 ps.length k1, .slice a2 cs.length k2⟩ ⟨hlt, hG.trans (hle5.trans hle), hp5.mono hle, hq, hdo5.mono hle, SliceV.mono hpv5 hle, SliceV.mono hcv5 hle, hu, hlp, hlc⟩ (by omega) ⟨⟨rfl, rfl, rfl, rfl, rfl, rfl, rfl, rfl, trivial⟩, fun w t => (t.pm 10 [8, 9, 1, 2, 3, 4, 5, 6, 7, 0] rfl rfl).drop.drop⟩

    | some q =>
      obtain ⟨es, e1, e2, e3⟩ := hq q rfl
      obtain ⟨v', rfl, hv1⟩ := hpr
      obtain ⟨rfl, rfl, hv2⟩ := id hdo5
      rw [e1, ← e2] at hv1 hv2
      obtain ⟨_, a3, k3, rfl, _, _⟩ := id hv1
      repeat (first|refine zJ rfl rfl ?_|refine jr rfl ?_|refine jn ?_|refine zM rfl rfl ?_|(refine zC rfl rfl ?_ rfl ?_;omega)|(refine zD rfl rfl ?_ rfl ?_;omega)|(refine zP rfl ?_ rfl ?_;omega)|refine zG rfl rfl rfl rfl ?_|(refine jdq rfl rfl ?_ ?_ ?_;kernel_rfl;kernel_rfl)|refine zB rfl rfl rfl (by repeat constructor) rfl ?_|refine zH .here rfl rfl rfl rfl ?_|refine zH (.there .here) rfl rfl rfl rfl ?_|refine zH (.there (.there .here)) rfl rfl rfl rfl ?_|refine zH (.there (.there (.there .here))) rfl rfl rfl rfl ?_|refine zH (.there (.there (.there (.there .here)))) rfl rfl rfl rfl ?_)
      refine oE (ev_alloc (cs := u8s zDg.1) rfl) rfl ?_; rintro _ _ _ _ ⟨rfl, b19, rfl, rfl⟩
      refine oN (ev_store rfl rfl .agg rfl (dig_len (q.d)) (lay_D (q.d) zDg) (dig_ones (q.d)) (.here)) rfl ?_; rintro _ _ _ _ ⟨rfl, _, rfl⟩
      repeat (first|refine zJ rfl rfl ?_|refine jr rfl ?_|refine jn ?_|refine zM rfl rfl ?_|(refine zC rfl rfl ?_ rfl ?_;omega)|(refine zD rfl rfl ?_ rfl ?_;omega)|(refine zP rfl ?_ rfl ?_;omega)|refine zG rfl rfl rfl rfl ?_|(refine jdq rfl rfl ?_ ?_ ?_;kernel_rfl;kernel_rfl)|refine zB rfl rfl rfl (by repeat constructor) rfl ?_|refine zH .here rfl rfl rfl rfl ?_|refine zH (.there .here) rfl rfl rfl rfl ?_|refine zH (.there (.there .here)) rfl rfl rfl rfl ?_|refine zH (.there (.there (.there .here))) rfl rfl rfl rfl ?_|refine zH (.there (.there (.there (.there .here)))) rfl rfl rfl rfl ?_)
      refine J_weak (H' := RS r n true q.d bv (.slice a1 ps.length k1) (.slice a2 cs.length k2) :: blk b19 29 (u8s q.d.1) :: (SL A n p ps cs ++ (blk b15 44 (acC y (.slice av y.es.length vc)) :: X))) ?_ (fun w t => t.pm 10 [9, 0, 1, 2, 3, 4, 5, 6, 7, 8] rfl rfl)
      refine ja G5 [RS r n true q.d bv (.slice a1 ps.length k1) (.slice a2 cs.length k2), blk b19 29 (u8s q.d.1)] ?_ (fun w t => two t) ?_; kernel_rfl
      refine aT 0 rfl (ev_qe rfl) rfl rfl ?_ ?_ ?_ ?_; kernel_rfl; kernel_rfl; kernel_rfl
      refine aT 1 rfl (ev_qe rfl) rfl rfl ?_ ?_ ?_ ?_; kernel_rfl; kernel_rfl; kernel_rfl
      refine aT 2 rfl (ev_qe rfl) rfl rfl ?_ ?_ ?_ ?_; kernel_rfl; kernel_rfl; kernel_rfl
      refine aT 3 rfl (ev_qe rfl) rfl rfl ?_ ?_ ?_ ?_; kernel_rfl; kernel_rfl; kernel_rfl
      refine aT 4 rfl (ev_qe rfl) rfl rfl ?_ ?_ ?_ ?_; kernel_rfl; kernel_rfl; kernel_rfl
      refine aT 5 rfl (ev_qe rfl) rfl rfl ?_ ?_ ?_ ?_; kernel_rfl; kernel_rfl; kernel_rfl
      refine aT 6 rfl (ev_qe rfl) rfl rfl ?_ ?_ ?_ ?_; kernel_rfl; kernel_rfl; kernel_rfl
      refine aT 7 rfl (ev_load (v := .slice a1 ps.length k1) rfl rfl (Rdb.ofB (n := 0) .here (rs_at n true q.d bv (.slice a1 ps.length k1) (.slice a2 cs.length k2)).2.1)) rfl rfl ?_ ?_ ?_ ?_; kernel_rfl; kernel_rfl; kernel_rfl
      refine aT 8 rfl (ev_qe rfl) rfl rfl ?_ ?_ ?_ ?_; kernel_rfl; kernel_rfl; kernel_rfl
      refine aT 9 rfl (ev_cmp_f rfl rfl (by dsimp only [cmpN])) rfl rfl ?_ ?_ ?_ ?_; kernel_rfl; kernel_rfl; kernel_rfl
      refine aT 10 rfl (ev_qe rfl) rfl rfl ?_ ?_ ?_ ?_; kernel_rfl; kernel_rfl; kernel_rfl
      refine aT 11 rfl (ev_qe rfl) rfl rfl ?_ ?_ ?_ ?_; kernel_rfl; kernel_rfl; kernel_rfl
      refine aT 12 rfl (ev_qe rfl) rfl rfl ?_ ?_ ?_ ?_; kernel_rfl; kernel_rfl; kernel_rfl
      refine aT 13 rfl (ev_qe rfl) rfl rfl ?_ ?_ ?_ ?_; kernel_rfl; kernel_rfl; kernel_rfl
      refine aT 14 rfl (ev_qe rfl) rfl rfl ?_ ?_ ?_ ?_; kernel_rfl; kernel_rfl; kernel_rfl
      refine aT 15 rfl (ev_qe rfl) rfl rfl ?_ ?_ ?_ ?_; kernel_rfl; kernel_rfl; kernel_rfl
      refine aT 16 rfl (ev_load (v := .slice a2 cs.length k2) rfl rfl (Rdb.ofB (n := 0) .here (rs_at n true q.d bv (.slice a1 ps.length k1) (.slice a2 cs.length k2)).2.2.1)) rfl rfl ?_ ?_ ?_ ?_; kernel_rfl; kernel_rfl; kernel_rfl
      refine aT 17 rfl (ev_qe rfl) rfl rfl ?_ ?_ ?_ ?_; kernel_rfl; kernel_rfl; kernel_rfl
      refine aT 18 rfl (ev_cmp_f rfl rfl (by dsimp only [cmpN])) rfl rfl ?_ ?_ ?_ ?_; kernel_rfl; kernel_rfl; kernel_rfl
      refine aT 19 rfl (ev_qe rfl) rfl rfl ?_ ?_ ?_ ?_; kernel_rfl; kernel_rfl; kernel_rfl
      refine aT 20 rfl (ev_qe rfl) rfl rfl ?_ ?_ ?_ ?_; kernel_rfl; kernel_rfl; kernel_rfl
      refine aT 21 rfl (ev_qe rfl) rfl rfl ?_ ?_ ?_ ?_; kernel_rfl; kernel_rfl; kernel_rfl
      refine aT 22 rfl (ev_qe rfl) rfl rfl ?_ ?_ ?_ ?_; kernel_rfl; kernel_rfl; kernel_rfl
      refine aT 23 rfl (ev_qe rfl) rfl rfl ?_ ?_ ?_ ?_; kernel_rfl; kernel_rfl; kernel_rfl
      refine aT 24 rfl (ev_qe rfl) rfl rfl ?_ ?_ ?_ ?_; kernel_rfl; kernel_rfl; kernel_rfl
      refine aT 25 rfl (ev_load (v := .bool true) rfl rfl (Rdb.ofB (n := 0) .here rfl)) rfl rfl ?_ ?_ ?_ ?_; kernel_rfl; kernel_rfl; kernel_rfl
      refine aT 26 rfl (ev_bool_ne_same rfl rfl rfl) rfl rfl ?_ ?_ ?_ ?_; kernel_rfl; kernel_rfl; kernel_rfl
      refine aT 27 rfl (ev_qe rfl) rfl rfl ?_ ?_ ?_ ?_; kernel_rfl; kernel_rfl; kernel_rfl
      refine aT 28 rfl (ev_qe rfl) rfl rfl ?_ ?_ ?_ ?_; kernel_rfl; kernel_rfl; kernel_rfl
      refine aT 29 rfl (ev_qe rfl) rfl rfl ?_ ?_ ?_ ?_; kernel_rfl; kernel_rfl; kernel_rfl
      refine aT 30 rfl (ev_qe rfl) rfl rfl ?_ ?_ ?_ ?_; kernel_rfl; kernel_rfl; kernel_rfl
      refine aT 31 rfl (ev_ldD (d := q.d) (.there .here) rfl (dig_all q.d)) rfl rfl ?_ ?_ ?_ ?_; kernel_rfl; kernel_rfl; kernel_rfl
      refine aT 32 rfl (ev_qe rfl) rfl rfl ?_ ?_ ?_ ?_; kernel_rfl; kernel_rfl; kernel_rfl
      refine aT 33 rfl (ev_qe rfl) rfl rfl ?_ ?_ ?_ ?_; kernel_rfl; kernel_rfl; kernel_rfl
      refine aT 34 rfl (ev_qe rfl) rfl rfl ?_ ?_ ?_ ?_; kernel_rfl; kernel_rfl; kernel_rfl
      refine aT 35 rfl (ev_ldD (d := q.d) .here rfl (rs_at n true q.d bv (.slice a1 ps.length k1) (.slice a2 cs.length k2)).2.2.2) rfl rfl ?_ ?_ ?_ ?_; kernel_rfl; kernel_rfl; kernel_rfl
      refine aT 36 rfl (ev_neD_same (e := q.d) rfl rfl) rfl rfl ?_ ?_ ?_ ?_; kernel_rfl; kernel_rfl; kernel_rfl
      refine aT 37 rfl (ev_qe rfl) rfl rfl ?_ ?_ ?_ ?_; kernel_rfl; kernel_rfl; kernel_rfl
      refine aT 38 rfl (ev_qe rfl) rfl rfl ?_ ?_ ?_ ?_; kernel_rfl; kernel_rfl; kernel_rfl
      refine aT 39 rfl (ev_qe rfl) rfl rfl ?_ ?_ ?_ ?_; kernel_rfl; kernel_rfl; kernel_rfl
      refine aT 40 rfl (ev_qe rfl) rfl rfl ?_ ?_ ?_ ?_; kernel_rfl; kernel_rfl; kernel_rfl
      refine aT 41 rfl (ev_qe rfl) rfl rfl ?_ ?_ ?_ ?_; kernel_rfl; kernel_rfl; kernel_rfl
      refine aT 42 rfl (ev_load (v := bv) rfl rfl (Rdb.ofB (n := 0) .here (rs_at n true q.d bv (.slice a1 ps.length k1) (.slice a2 cs.length k2)).1)) rfl rfl ?_ ?_ ?_ ?_; kernel_rfl; kernel_rfl; kernel_rfl
      refine aB (i := 43) (by kernel_rfl) (aP rfl (Same_spec (.slice a3 es.length k3) bv es G5 hv1 hv2 (by omega)) Try.call21 rfl rfl rfl (fun w t => two t) ?_)
      refine aT 44 rfl (ev_qe rfl) rfl rfl ?_ ?_ ?_ ?_; kernel_rfl; kernel_rfl; kernel_rfl
      refine aT 45 rfl (ev_qe rfl) rfl rfl ?_ ?_ ?_ ?_; kernel_rfl; kernel_rfl; kernel_rfl
      refine aT 46 rfl (ev_qe rfl) rfl rfl ?_ ?_ ?_ ?_; kernel_rfl; kernel_rfl; kernel_rfl
      refine aT 47 rfl (ev_qe rfl) rfl rfl ?_ ?_ ?_ ?_; kernel_rfl; kernel_rfl; kernel_rfl
      refine aT 48 rfl (ev_qe rfl) rfl rfl ?_ ?_ ?_ ?_; kernel_rfl; kernel_rfl; kernel_rfl
      refine aT 49 rfl (ev_qe rfl) rfl rfl ?_ ?_ ?_ ?_; kernel_rfl; kernel_rfl; kernel_rfl
      refine aT 50 rfl (ev_qe rfl) rfl rfl ?_ ?_ ?_ ?_; kernel_rfl; kernel_rfl; kernel_rfl
      refine aT 52 rfl (ev_qe rfl) rfl rfl ?_ ?_ ?_ ?_; kernel_rfl; kernel_rfl; kernel_rfl
      refine aT 53 rfl (ev_qe rfl) rfl rfl ?_ ?_ ?_ ?_; kernel_rfl; kernel_rfl; kernel_rfl
      refine aB (i := 51) (by kernel_rfl) (aC (Hc := SL A n p ps cs) (Hr := RS r n true q.d bv (.slice a1 ps.length k1) (.slice a2 cs.length k2) :: blk b19 29 (u8s q.d.1) :: blk b15 44 (acC y (.slice av y.es.length vc)) :: X) rfl (prepared_spec A n p (some q) ps cs primary G5 hp5 (by omega) (by omega) (by omega)) Try.call17 rfl rfl rfl (fun w t => t.pm 9 [2, 3, 4, 5, 6, 7, 8, 0, 1] rfl rfl) (fun _ _ _ hF hq w t => by obtain ⟨rfl, rfl⟩ := hq; exact (two (t.pm 9 [7, 8, 0, 1, 2, 3, 4, 5, 6] rfl rfl)).mono (hF)) ?_)
      rintro _ G6 _ hG6 ⟨rfl, rfl⟩
      refine aB (i := 54) (by kernel_rfl) (aC (Hc := [RS r n true q.d bv (.slice a1 ps.length k1) (.slice a2 cs.length k2)]) (Hr := SL A n p ps cs ++ (blk b19 29 (u8s q.d.1) :: blk b15 44 (acC y (.slice av y.es.length vc)) :: X)) rfl (Prepared_spec r n true q.d bv (.slice a1 ps.length k1) (.slice a2 cs.length k2) ps primary G6 (SliceV.mono hpv5 hG6) (by omega) (by omega) (by omega)) Try.call22 rfl rfl rfl (fun w t => t.pm 8 [7, 0, 1, 2, 3, 4, 5, 6] rfl rfl) (fun _ _ _ hF hq w t => by obtain ⟨rfl, rfl⟩ := hq; exact (two (t.pm 9 [0, 8, 1, 2, 3, 4, 5, 6, 7] rfl rfl)).mono (hG6.trans hF)) ?_)
      rintro _ G7 _ hG7 ⟨rfl, rfl⟩
      rw [prepared_eq hdo5 (by omega) hu primary]
      refine aT 55 rfl (ev_bool_ne_same rfl rfl rfl) rfl rfl ?_ ?_ ?_ ?_; kernel_rfl; kernel_rfl; kernel_rfl
      refine aT 56 rfl (ev_qe rfl) rfl rfl ?_ ?_ ?_ ?_; kernel_rfl; kernel_rfl; kernel_rfl
      refine aT 57 rfl (ev_qe rfl) rfl rfl ?_ ?_ ?_ ?_; kernel_rfl; kernel_rfl; kernel_rfl
      refine aT 58 rfl (ev_qe rfl) rfl rfl ?_ ?_ ?_ ?_; kernel_rfl; kernel_rfl; kernel_rfl
      refine aT 60 rfl (ev_qe rfl) rfl rfl ?_ ?_ ?_ ?_; kernel_rfl; kernel_rfl; kernel_rfl
      refine aB (i := 59) (by kernel_rfl) (aC (Hc := SL A n p ps cs) (Hr := RS r n true q.d bv (.slice a1 ps.length k1) (.slice a2 cs.length k2) :: blk b19 29 (u8s q.d.1) :: blk b15 44 (acC y (.slice av y.es.length vc)) :: X) rfl (committed_spec A n p (some q) ps cs G7 (hp5.mono (hG6.trans hG7)) (by omega) (by omega)) Try.call13 rfl rfl rfl (fun w t => t.pm 9 [1, 2, 3, 4, 5, 6, 7, 0, 8] rfl rfl) (fun _ _ _ hF hq w t => by obtain ⟨rfl, rfl⟩ := hq; exact (two (t.pm 9 [7, 8, 0, 1, 2, 3, 4, 5, 6] rfl rfl)).mono (hG6.trans (hG7.trans hF))) ?_)
      rintro _ G8 _ hG8 ⟨rfl, rfl⟩
      refine aB (i := 61) (by kernel_rfl) (aC (Hc := [RS r n true q.d bv (.slice a1 ps.length k1) (.slice a2 cs.length k2)]) (Hr := SL A n p ps cs ++ (blk b19 29 (u8s q.d.1) :: blk b15 44 (acC y (.slice av y.es.length vc)) :: X)) rfl (Committed_spec r n true q.d bv (.slice a1 ps.length k1) (.slice a2 cs.length k2) cs G8 (SliceV.mono hcv5 (hG6.trans (hG7.trans hG8))) (by omega) (by omega) (by omega)) Try.call23 rfl rfl rfl (fun w t => t.pm 8 [7, 0, 1, 2, 3, 4, 5, 6] rfl rfl) (fun _ _ _ hF hq w t => by obtain ⟨rfl, rfl⟩ := hq; exact (two (t.pm 9 [0, 8, 1, 2, 3, 4, 5, 6, 7] rfl rfl)).mono (hG6.trans (hG7.trans (hG8.trans hF)))) ?_)
      rintro _ G9 _ hG9 ⟨rfl, rfl⟩
      rw [committed_eq hdo5 (by omega) cs]
      refine aT 62 rfl (ev_bool_ne_same rfl rfl rfl) rfl rfl ?_ ?_ ?_ ?_; kernel_rfl; kernel_rfl; kernel_rfl
      refine aT 63 rfl (ev_qe rfl) rfl rfl ?_ ?_ ?_ ?_; kernel_rfl; kernel_rfl; kernel_rfl
      refine aD (by kernel_rfl) ?_
      have hle := hG6.trans (hG7.trans (hG8.trans hG9))
      repeat (first|refine zJ rfl rfl ?_|refine jr rfl ?_|refine jn ?_|refine zM rfl rfl ?_|(refine zC rfl rfl ?_ rfl ?_;omega)|(refine zD rfl rfl ?_ rfl ?_;omega)|(refine zP rfl ?_ rfl ?_;omega)|refine zG rfl rfl rfl rfl ?_|(refine jdq rfl rfl ?_ ?_ ?_;kernel_rfl;kernel_rfl)|refine zB rfl rfl rfl (by repeat constructor) rfl ?_|refine zH .here rfl rfl rfl rfl ?_|refine zH (.there .here) rfl rfl rfl rfl ?_|refine zH (.there (.there .here)) rfl rfl rfl rfl ?_|refine zH (.there (.there (.there .here))) rfl rfl rfl rfl ?_|refine zH (.there (.there (.there (.there .here)))) rfl rfl rfl rfl ?_)
      refine J_again2 (i + 1) ⟨G9, p, (some q), ps, cs, true, q.d, bv, .slice a1 ps.length k1, .slice a2 cs.length k2⟩ ⟨hlt, hG.trans (hle5.trans hle), hp5.mono hle, hq, hdo5.mono hle, SliceV.mono hpv5 hle, SliceV.mono hcv5 hle, hu, hlp, hlc⟩ (by omega) ⟨⟨rfl, rfl, rfl, rfl, rfl, rfl, rfl, rfl, trivial⟩, fun w t => (t.pm 10 [8, 9, 1, 2, 3, 4, 5, 6, 7, 0] rfl rfl).drop.drop⟩

  obtain rfl : i = xs.length := by omega
  repeat (first|refine zJ rfl rfl ?_|refine jr rfl ?_|refine jn ?_|refine zM rfl rfl ?_|(refine zC rfl rfl ?_ rfl ?_;omega)|(refine zD rfl rfl ?_ rfl ?_;omega)|(refine zP rfl ?_ rfl ?_;omega)|refine zG rfl rfl rfl rfl ?_|(refine jdq rfl rfl ?_ ?_ ?_;kernel_rfl;kernel_rfl)|refine zB rfl rfl rfl (by repeat constructor) rfl ?_|refine zH .here rfl rfl rfl rfl ?_|refine zH (.there .here) rfl rfl rfl rfl ?_|refine zH (.there (.there .here)) rfl rfl rfl rfl ?_|refine zH (.there (.there (.there .here))) rfl rfl rfl rfl ?_|refine zH (.there (.there (.there (.there .here)))) rfl rfl rfl rfl ?_)
  exact J_retv rfl (.tmp rfl .nil) [] (fun w t => (dr7 _ t).drop) hG ⟨rfl, rfl⟩
open Go.ChangeShapes Go.WideShapes Go.ChangeAt
set_option maxRecDepth 100000 in theorem SlotPlays_lifted (os : Os) (started : os.Started) (H : Type) (enc : TypeId × Value → H) : ReturnsInHanded {} Try.checked os 4 .any (Rows.slotPlaysSpec.pre6 enc Try.prog Try.f4 Rows.slotPlaysRow.domain false) (Rows.slotPlaysSpec.post enc Try.prog Try.f4 false true false false) := by
  refine returnsInHanded_of_change (C := Try.checked) own_knob started (by kernel_rfl) Try.func4 (ChangeSpec.witness6 (enc := enc) (C := Try.checked) false ⟨#[], #[.int .i64 0, .slice none 0 0, .int .i64 0], []⟩ 8 (by kernel_rfl) (by kernel_rfl) (by kernel_rfl) (by kernel_rfl)) ?_; intro W base args ds gs before hval0 hW hcnd _; have hval : ∀ (j : Nat) t v, Try.f4.params[j]? = some t → args[j]? = some v → Value.okWide Try.prog W .any base t v := hval0; have hW' := hW; obtain ⟨p, q, hA0, hV, hp, hfz, hnd⟩ := hW; have hA : DataW.TrodAll enc Try.prog W 0 (fun _ => true) true Try.f4.params.toList args.toList ds p := hA0; obtain ⟨rfl, rfl⟩ := trodVars_none hV; rw [List.append_nil] at hp; have hA' := hA; rw [Try.params4] at hA hval
  obtain ⟨v0, vs0, d0, ds0, p0, q0, hargs, rfl, rfl, h0, r0⟩ := trodAll_cons hA; obtain ⟨v1, vs1, d1, ds1, p1, q1, rfl, rfl, rfl, h1, r1⟩ := trodAll_cons r0; obtain ⟨v2, vs2, d2, ds2, p2, q2, rfl, rfl, rfl, h2, r2⟩ := trodAll_cons r1; obtain ⟨rfl, rfl, rfl⟩ := trodAll_nil r2; obtain rfl : args = #[v0, v1, v2] := by cases args; simp_all
  obtain ⟨n, rfl, rfl, rfl, w0⟩ := open_int Try.underlying3 (hval 0 3 v0 rfl rfl) h0
  obtain ⟨xs, hx⟩ := open_row tyAct Try.underlying32 (by kernel_rfl) (by decide) (hval 1 32 v1 rfl rfl) h1
  obtain ⟨m, rfl, rfl, rfl, w2⟩ := open_int Try.underlying3 (hval 2 3 v2 rfl rfl) h2
  obtain ⟨a, c, rfl, _⟩ := hx.form
  refine (law_walk (SlotPlays_walk n m a c xs (ph W) hx (inK_i64 w0))).mono fun e W' ⟨he, hb⟩ => ?_
  subst he
  exact ⟨_, rfl, law_post laid_out (by kernel_rfl) rfl rfl Try.underlying4 hW' hA' hp rfl hb⟩
theorem SlotPlays_holds : Rows.SlotPlaysSaid := OpenClaim.holds_of_wide 4 Try.f4 rfl rfl rfl rfl rfl rfl rfl ⟨rfl, rfl, rfl, rfl, rfl⟩ rfl rfl rfl rfl rfl (by kernel_rfl) Try.func4 (by kernel_rfl) (of_decide_eq_true (by kernel_rfl)) (by unfold Func.isWrapper; first | (rw [if_pos (by decide +kernel)]; kernel_rfl) | (rw [if_neg (by decide +kernel)]; exact ⟨rfl, rfl⟩)) (fun os started H enc _ => SlotPlays_lifted os started H enc)
#print axioms SlotPlays_holds
end Go.Proofs.Ytdoaloimndehbaa
