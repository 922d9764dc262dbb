/-
  The slot's calls whose answers are fixed; two slots of one number. Conditions are typed with each.
-/
import Derived.Test.YtdoaloimndehbaaTe
import Derived.Test.YtdoaloimndehbaaRows
import Derived.Test.YtdoaloimndehbaaKs
namespace Go.Proofs.Ytdoaloimndehbaa
open Go.RowKit
set_option maxRecDepth 100000
theorem own_knob : ownKnob Try.prog.godebug = none := by kernel_rfl
theorem laid_out : laidOutB Try.prog = true := by kernel_rfl
/-- The digest that begins with c. -/
def dgB (c : UInt8) : Dg := ⟨c :: List.replicate 31 0, by simp⟩
theorem dgB_inj {c e : UInt8} (h : dgB c = dgB e) : c = e := by
  have := congrArg Subtype.val h
  simp only [dgB, List.cons.injEq] at this
  exact this.1
theorem pk_slot (A : SA) (n : Int) (p : Value) (ps cs : Vts) (B : Asrt) (X : List Asrt) : Pick B (SL A n p ps cs ++ B :: X) (SL A n p ps cs ++ X) := by
  obtain ⟨s, b1, v1, c1, b2, v2, c2⟩ := A
  dsimp only [SL, TA, List.cons_append, List.nil_append]
  exact .there (.there (.there (.there (.there (.there (.there .here))))))
theorem dr7 {A : SA} {n : Int} {p : Value} {ps cs : Vts} {X : List Asrt} {F : PH} (w : World) (t : Sat F (SL A n p ps cs ++ X) w) : Sat F X w := t.drop.drop.drop.drop.drop.drop.drop
set_option maxHeartbeats 8000000 in
theorem fixed21_true (F : PH) : Spec Try.prog 9 [] F [] fun u _ H' => u = .bool true ∧ H' = [] := by
  refine Spec.of0 Try.func9 rfl fun X w0 => ?_
  repeat (first|refine zJ rfl rfl ?_|refine jr rfl ?_|refine jn ?_|refine zM rfl rfl ?_|(refine zC rfl rfl ?_ rfl ?_;omega)|(refine zD rfl rfl ?_ rfl ?_;omega)|(refine zP rfl ?_ rfl ?_;omega)|refine zG rfl rfl rfl rfl ?_|(refine jdq rfl rfl ?_ ?_ ?_;kernel_rfl;kernel_rfl)|refine zB rfl rfl rfl (by repeat constructor) rfl ?_|refine zH .here rfl rfl rfl rfl ?_|refine zH (.there .here) rfl rfl rfl rfl ?_|refine zH (.there (.there .here)) rfl rfl rfl rfl ?_|refine zH (.there (.there (.there .here))) rfl rfl rfl rfl ?_|refine zH (.there (.there (.there (.there .here)))) rfl rfl rfl rfl ?_)
  refine oC (Hc := []) (Hr := X) (snew_spec 4 (by decide) (by decide) F) Try.call10 rfl rfl (fun w s => s) ?_
  rintro _ F1 _ hF1 ⟨A, rfl, rfl⟩
  repeat (first|refine zJ rfl rfl ?_|refine jr rfl ?_|refine jn ?_|refine zM rfl rfl ?_|(refine zC rfl rfl ?_ rfl ?_;omega)|(refine zD rfl rfl ?_ rfl ?_;omega)|(refine zP rfl ?_ rfl ?_;omega)|refine zG rfl rfl rfl rfl ?_|(refine jdq rfl rfl ?_ ?_ ?_;kernel_rfl;kernel_rfl)|refine zB rfl rfl rfl (by repeat constructor) rfl ?_|refine zH .here rfl rfl rfl rfl ?_|refine zH (.there .here) rfl rfl rfl rfl ?_|refine zH (.there (.there .here)) rfl rfl rfl rfl ?_|refine zH (.there (.there (.there .here))) rfl rfl rfl rfl ?_|refine zH (.there (.there (.there (.there .here)))) rfl rfl rfl rfl ?_)
  refine oS (ev_build_arr (t := u8s (dgB 1).1) (zs := u8s zDg.1) rfl rfl rfl (.cons (vs := [.int .u8 1]) .int rfl (.put .nil) .nil)) rfl ?_
  refine oE (ev_alloc (cs := u8s zDg.1) rfl) rfl ?_; rintro _ _ _ _ ⟨rfl, b2, rfl, rfl⟩
  refine oN (ev_store rfl rfl .agg rfl (dig_len (dgB 1)) (lay_D (dgB 1) zDg) (dig_ones (dgB 1)) (.here)) rfl ?_; rintro _ _ _ _ ⟨rfl, _, rfl⟩
  repeat (first|refine zJ rfl rfl ?_|refine jr rfl ?_|refine jn ?_|refine zM rfl rfl ?_|(refine zC rfl rfl ?_ rfl ?_;omega)|(refine zD rfl rfl ?_ rfl ?_;omega)|(refine zP rfl ?_ rfl ?_;omega)|refine zG rfl rfl rfl rfl ?_|(refine jdq rfl rfl ?_ ?_ ?_;kernel_rfl;kernel_rfl)|refine zB rfl rfl rfl (by repeat constructor) rfl ?_|refine zH .here rfl rfl rfl rfl ?_|refine zH (.there .here) rfl rfl rfl rfl ?_|refine zH (.there (.there .here)) rfl rfl rfl rfl ?_|refine zH (.there (.there (.there .here))) rfl rfl rfl rfl ?_|refine zH (.there (.there (.there (.there .here)))) rfl rfl rfl rfl ?_)
  refine ja F1 [blk b2 29 (u8s (dgB 1).1)] ?_ (fun w t => t.head) ?_; kernel_rfl
  refine aT 0 rfl (ev_qe rfl) rfl rfl ?_ ?_ ?_ ?_; kernel_rfl; kernel_rfl; kernel_rfl
  refine aT 1 rfl (ev_ldD .here rfl (dig_all (dgB 1))) rfl rfl ?_ ?_ ?_ ?_; kernel_rfl; kernel_rfl; kernel_rfl
  refine aT 3 rfl (ev_qe rfl) rfl rfl ?_ ?_ ?_ ?_; kernel_rfl; kernel_rfl; kernel_rfl
  refine aT 4 rfl (ev_ldD .here rfl (dig_all (dgB 1))) rfl rfl ?_ ?_ ?_ ?_; kernel_rfl; kernel_rfl; kernel_rfl
  refine aB (i := 2) (by kernel_rfl) (aC (Hc := SL A 4 (.pointer none) [] []) (Hr := blk b2 29 (u8s (dgB 1).1) :: X) rfl (prepare_spec A 4 (.pointer none) [] [] 1 (dgB 1) F1 (by simp)) Try.call16 rfl rfl rfl (fun w t => t.pm 8 [1, 2, 3, 4, 5, 6, 7, 0] rfl rfl) (fun _ _ _ hF hq w t => by obtain ⟨rfl, rfl⟩ := hq; exact (t.pm 8 [7, 0, 1, 2, 3, 4, 5, 6] rfl rfl).head.mono hF) ?_)
  rintro _ F2 _ hF2 ⟨rfl, rfl⟩
  rw [show voteP 4 [] 1 (dgB 1) = (0, [(1, dgB 1)]) from rfl]
  dsimp only
  refine aB (i := 5) (by kernel_rfl) (aC (Hc := SL A 4 (.pointer none) [(1, dgB 1)] []) (Hr := blk b2 29 (u8s (dgB 1).1) :: X) rfl (propose_spec A 4 (.pointer none) none [(1, dgB 1)] [] (dgB 1) (.slice none 0 0) 0 [] F2 rfl (SliceV.nil _ _) ones_nil (by simp)) Try.call11 rfl rfl rfl (fun w t => t) (fun _ _ _ hF hq w t => by obtain ⟨p', u', _, rfl, rfl⟩ := hq; exact (t.pm 8 [7, 0, 1, 2, 3, 4, 5, 6] rfl rfl).head.mono (hF2.trans hF)) ?_)
  rintro _ F3 _ hF3 ⟨p', u', hp3, rfl, rfl⟩
  rw [show propC none (dgB 1) = 0 from rfl]
  refine aT 6 rfl (ev_qe rfl) rfl rfl ?_ ?_ ?_ ?_; kernel_rfl; kernel_rfl; kernel_rfl
  refine aT 7 rfl (ev_qe rfl) rfl rfl ?_ ?_ ?_ ?_; kernel_rfl; kernel_rfl; kernel_rfl
  refine aD (by kernel_rfl) ?_
  repeat (first|refine zJ rfl rfl ?_|refine jr rfl ?_|refine jn ?_|refine zM rfl rfl ?_|(refine zC rfl rfl ?_ rfl ?_;omega)|(refine zD rfl rfl ?_ rfl ?_;omega)|(refine zP rfl ?_ rfl ?_;omega)|refine zG rfl rfl rfl rfl ?_|(refine jdq rfl rfl ?_ ?_ ?_;kernel_rfl;kernel_rfl)|refine zB rfl rfl rfl (by repeat constructor) rfl ?_|refine zH .here rfl rfl rfl rfl ?_|refine zH (.there .here) rfl rfl rfl rfl ?_|refine zH (.there (.there .here)) rfl rfl rfl rfl ?_|refine zH (.there (.there (.there .here))) rfl rfl rfl rfl ?_|refine zH (.there (.there (.there (.there .here)))) rfl rfl rfl rfl ?_)
  refine oS (ev_ldD (pk_slot A 4 p' _ _ _ X) rfl (dig_all _)) rfl ?_
  refine oC (Hc := SL A 4 p' [(1, dgB 1)] []) (Hr := blk b2 29 (u8s (dgB 1).1) :: X) (prepare_spec A 4 p' [(1, dgB 1)] [] 0 (dgB 1) F3 (by simp)) Try.call16 rfl rfl (fun w t => t) ?_
  rintro _ F4 _ hF4 ⟨rfl, rfl⟩
  rw [show voteP 4 [(1, dgB 1)] 0 (dgB 1) = (0, [(1, dgB 1), (0, dgB 1)]) from rfl]
  dsimp only
  repeat (first|refine zJ rfl rfl ?_|refine jr rfl ?_|refine jn ?_|refine zM rfl rfl ?_|(refine zC rfl rfl ?_ rfl ?_;omega)|(refine zD rfl rfl ?_ rfl ?_;omega)|(refine zP rfl ?_ rfl ?_;omega)|refine zG rfl rfl rfl rfl ?_|(refine jdq rfl rfl ?_ ?_ ?_;kernel_rfl;kernel_rfl)|refine zB rfl rfl rfl (by repeat constructor) rfl ?_|refine zH .here rfl rfl rfl rfl ?_|refine zH (.there .here) rfl rfl rfl rfl ?_|refine zH (.there (.there .here)) rfl rfl rfl rfl ?_|refine zH (.there (.there (.there .here))) rfl rfl rfl rfl ?_|refine zH (.there (.there (.there (.there .here)))) rfl rfl rfl rfl ?_)
  refine oC (Hc := SL A 4 p' [(1, dgB 1), (0, dgB 1)] []) (Hr := blk b2 29 (u8s (dgB 1).1) :: X) (prepared_spec A 4 p' _ [(1, dgB 1), (0, dgB 1)] [] 0 F4 (hp3.mono hF4) (by decide) (by decide) (by simp)) Try.call17 rfl rfl (fun w t => t) ?_
  rintro _ F5 _ hF5 ⟨rfl, rfl⟩
  rw [show preparedP 4 (propO none (dgB 1) u' 0 []) [(1, dgB 1), (0, dgB 1)] 0 = false from rfl]
  repeat (first|refine zJ rfl rfl ?_|refine jr rfl ?_|refine jn ?_|refine zM rfl rfl ?_|(refine zC rfl rfl ?_ rfl ?_;omega)|(refine zD rfl rfl ?_ rfl ?_;omega)|(refine zP rfl ?_ rfl ?_;omega)|refine zG rfl rfl rfl rfl ?_|(refine jdq rfl rfl ?_ ?_ ?_;kernel_rfl;kernel_rfl)|refine zB rfl rfl rfl (by repeat constructor) rfl ?_|refine zH .here rfl rfl rfl rfl ?_|refine zH (.there .here) rfl rfl rfl rfl ?_|refine zH (.there (.there .here)) rfl rfl rfl rfl ?_|refine zH (.there (.there (.there .here))) rfl rfl rfl rfl ?_|refine zH (.there (.there (.there (.there .here)))) rfl rfl rfl rfl ?_)
  refine oS (ev_ldD (pk_slot A 4 p' _ _ _ X) rfl (dig_all _)) rfl ?_
  refine oC (Hc := SL A 4 p' [(1, dgB 1), (0, dgB 1)] []) (Hr := blk b2 29 (u8s (dgB 1).1) :: X) (prepare_spec A 4 p' [(1, dgB 1), (0, dgB 1)] [] 2 (dgB 1) F5 (by simp)) Try.call16 rfl rfl (fun w t => t) ?_
  rintro _ F6 _ hF6 ⟨rfl, rfl⟩
  rw [show voteP 4 [(1, dgB 1), (0, dgB 1)] 2 (dgB 1) = (0, [(1, dgB 1), (0, dgB 1), (2, dgB 1)]) from rfl]
  dsimp only
  repeat (first|refine zJ rfl rfl ?_|refine jr rfl ?_|refine jn ?_|refine zM rfl rfl ?_|(refine zC rfl rfl ?_ rfl ?_;omega)|(refine zD rfl rfl ?_ rfl ?_;omega)|(refine zP rfl ?_ rfl ?_;omega)|refine zG rfl rfl rfl rfl ?_|(refine jdq rfl rfl ?_ ?_ ?_;kernel_rfl;kernel_rfl)|refine zB rfl rfl rfl (by repeat constructor) rfl ?_|refine zH .here rfl rfl rfl rfl ?_|refine zH (.there .here) rfl rfl rfl rfl ?_|refine zH (.there (.there .here)) rfl rfl rfl rfl ?_|refine zH (.there (.there (.there .here))) rfl rfl rfl rfl ?_|refine zH (.there (.there (.there (.there .here)))) rfl rfl rfl rfl ?_)
  refine oC (Hc := SL A 4 p' [(1, dgB 1), (0, dgB 1), (2, dgB 1)] []) (Hr := blk b2 29 (u8s (dgB 1).1) :: X) (votes_spec A 4 p' [(1, dgB 1), (0, dgB 1), (2, dgB 1)] [] F6) Try.call15 rfl rfl (fun w t => t) ?_
  rintro _ F7 _ hF7 ⟨rfl, rfl⟩
  repeat (first|refine zJ rfl rfl ?_|refine jr rfl ?_|refine jn ?_|refine zM rfl rfl ?_|(refine zC rfl rfl ?_ rfl ?_;omega)|(refine zD rfl rfl ?_ rfl ?_;omega)|(refine zP rfl ?_ rfl ?_;omega)|refine zG rfl rfl rfl rfl ?_|(refine jdq rfl rfl ?_ ?_ ?_;kernel_rfl;kernel_rfl)|refine zB rfl rfl rfl (by repeat constructor) rfl ?_|refine zH .here rfl rfl rfl rfl ?_|refine zH (.there .here) rfl rfl rfl rfl ?_|refine zH (.there (.there .here)) rfl rfl rfl rfl ?_|refine zH (.there (.there (.there .here))) rfl rfl rfl rfl ?_|refine zH (.there (.there (.there (.there .here)))) rfl rfl rfl rfl ?_)
  have hle7 := hF4.trans (hF5.trans (hF6.trans hF7))
  refine oC (Hc := SL A 4 p' [(1, dgB 1), (0, dgB 1), (2, dgB 1)] []) (Hr := blk b2 29 (u8s (dgB 1).1) :: X) (prepared_spec A 4 p' _ [(1, dgB 1), (0, dgB 1), (2, dgB 1)] [] 0 F7 (hp3.mono hle7) (by decide) (by decide) (by simp)) Try.call17 rfl rfl (fun w t => t) ?_
  rintro _ F8 _ hF8 ⟨rfl, rfl⟩
  rw [show preparedP 4 (propO none (dgB 1) u' 0 []) [(1, dgB 1), (0, dgB 1), (2, dgB 1)] 0 = true from rfl]
  repeat (first|refine zJ rfl rfl ?_|refine jr rfl ?_|refine jn ?_|refine zM rfl rfl ?_|(refine zC rfl rfl ?_ rfl ?_;omega)|(refine zD rfl rfl ?_ rfl ?_;omega)|(refine zP rfl ?_ rfl ?_;omega)|refine zG rfl rfl rfl rfl ?_|(refine jdq rfl rfl ?_ ?_ ?_;kernel_rfl;kernel_rfl)|refine zB rfl rfl rfl (by repeat constructor) rfl ?_|refine zH .here rfl rfl rfl rfl ?_|refine zH (.there .here) rfl rfl rfl rfl ?_|refine zH (.there (.there .here)) rfl rfl rfl rfl ?_|refine zH (.there (.there (.there .here))) rfl rfl rfl rfl ?_|refine zH (.there (.there (.there (.there .here)))) rfl rfl rfl rfl ?_)
  refine oC (Hc := SL A 4 p' [(1, dgB 1), (0, dgB 1), (2, dgB 1)] []) (Hr := blk b2 29 (u8s (dgB 1).1) :: X) (committed_spec A 4 p' _ [(1, dgB 1), (0, dgB 1), (2, dgB 1)] [] F8 (hp3.mono (hle7.trans hF8)) (by decide) (by decide)) Try.call13 rfl rfl (fun w t => t) ?_
  rintro _ F9 _ hF9 ⟨rfl, rfl⟩
  rw [show committedP 4 (propO none (dgB 1) u' 0 []) [] = false from rfl]
  repeat (first|refine zJ rfl rfl ?_|refine jr rfl ?_|refine jn ?_|refine zM rfl rfl ?_|(refine zC rfl rfl ?_ rfl ?_;omega)|(refine zD rfl rfl ?_ rfl ?_;omega)|(refine zP rfl ?_ rfl ?_;omega)|refine zG rfl rfl rfl rfl ?_|(refine jdq rfl rfl ?_ ?_ ?_;kernel_rfl;kernel_rfl)|refine zB rfl rfl rfl (by repeat constructor) rfl ?_|refine zH .here rfl rfl rfl rfl ?_|refine zH (.there .here) rfl rfl rfl rfl ?_|refine zH (.there (.there .here)) rfl rfl rfl rfl ?_|refine zH (.there (.there (.there .here))) rfl rfl rfl rfl ?_|refine zH (.there (.there (.there (.there .here)))) rfl rfl rfl rfl ?_)
  refine oS (ev_build_arr (t := u8s zDg.1) (zs := u8s zDg.1) rfl rfl rfl .nil) rfl ?_
  refine oC (Hc := SL A 4 p' [(1, dgB 1), (0, dgB 1), (2, dgB 1)] []) (Hr := blk b2 29 (u8s (dgB 1).1) :: X) (prepare_spec A 4 p' [(1, dgB 1), (0, dgB 1), (2, dgB 1)] [] 2 zDg F9 (by simp)) Try.call16 rfl rfl (fun w t => t) ?_
  rintro _ F10 _ hF10 ⟨rfl, rfl⟩
  rw [show voteP 4 [(1, dgB 1), (0, dgB 1), (2, dgB 1)] 2 zDg = (2, [(1, dgB 1), (0, dgB 1), (2, dgB 1)]) from rfl]
  dsimp only
  repeat (first|refine zJ rfl rfl ?_|refine jr rfl ?_|refine jn ?_|refine zM rfl rfl ?_|(refine zC rfl rfl ?_ rfl ?_;omega)|(refine zD rfl rfl ?_ rfl ?_;omega)|(refine zP rfl ?_ rfl ?_;omega)|refine zG rfl rfl rfl rfl ?_|(refine jdq rfl rfl ?_ ?_ ?_;kernel_rfl;kernel_rfl)|refine zB rfl rfl rfl (by repeat constructor) rfl ?_|refine zH .here rfl rfl rfl rfl ?_|refine zH (.there .here) rfl rfl rfl rfl ?_|refine zH (.there (.there .here)) rfl rfl rfl rfl ?_|refine zH (.there (.there (.there .here))) rfl rfl rfl rfl ?_|refine zH (.there (.there (.there (.there .here)))) rfl rfl rfl rfl ?_)
  exact J_retv rfl (.tmp rfl .nil) [] (fun w t => t.pm 8 [0, 1, 2, 3, 4, 5, 6, 7] rfl rfl |>.drop.drop.drop.drop.drop.drop.drop.drop) (hF1.trans (hF2.trans (hF3.trans (hle7.trans (hF8.trans (hF9.trans hF10)))))) ⟨rfl, rfl⟩
end Go.Proofs.Ytdoaloimndehbaa
