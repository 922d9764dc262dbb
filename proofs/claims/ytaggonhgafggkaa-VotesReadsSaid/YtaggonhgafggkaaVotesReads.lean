/-
  Which vote, vouching, proposal or reply any bytes tell is what the document says, or why none (VotesReads). No condition.
-/
import Derived.Test.YtaggonhgafggkaaVf
import Derived.Test.YtaggonhgafggkaaEf
namespace Go.Proofs.Ytaggonhgafggkaa
open Go.RowKit
set_option maxRecDepth 100000
theorem full_at (cs : List Value) : (cs.drop 0).take cs.length = cs := by rw [List.drop_zero, List.take_length]
section
variable {l : Env} {F : PH} {H : List Asrt} {d : Option Nat} {T' U : TypeId} {pos : String} {af : Array Edge} {g : Option (Nat × Bool)} {y z : Operand}
theorem ev_vo_eql {x : Vo} (h : x.dig.length = 32) (hx : opv l y = some (.agg x.cells.toArray)) (hy : opv l z = some (.agg x.cells.toArray)) : Ev Try.prog ⟨d, .binOp .eql 28 y z T', U, pos, af, g⟩ l F H (.bool true) := ev_st_eql hx hy (by kernel_rfl) (by kernel_rfl) (by kernel_rfl) (vo_eq x h)
theorem ev_rp_eql {x : Rp} (hx : opv l y = some (.agg x.cells.toArray)) (hy : opv l z = some (.agg x.cells.toArray)) : Ev Try.prog ⟨d, .binOp .eql 31 y z T', U, pos, af, g⟩ l F H (.bool true) := ev_st_eql hx hy (by kernel_rfl) (by kernel_rfl) (by kernel_rfl) (rp_eq x)
end
set_option maxHeartbeats 16000000 in
theorem VotesReads_walk (v : Value) (bs : List UInt8) (n : Int) (F : PH) (h : Byt F v bs) : Pure Try.prog 4 [v, .int .i64 n] F (.bool true) := by
  obtain ⟨a, c, rfl, hc⟩ := h.form
  refine Spec.of2 Try.func4 rfl rfl fun X w0 => ?_
  repeat (first|refine zJ rfl rfl ?_|refine jr rfl ?_|refine jn ?_|refine zM rfl rfl ?_|(refine zC rfl rfl ?_ rfl ?_;omega)|(refine zD rfl rfl ?_ rfl ?_;omega)|(refine zP rfl ?_ rfl ?_;omega)|refine zG rfl rfl rfl rfl ?_|(refine jdq rfl rfl ?_ ?_ ?_;kernel_rfl;kernel_rfl)|refine zB rfl rfl rfl (by repeat constructor) rfl ?_|refine zH .here rfl rfl rfl rfl ?_|refine zH (.there .here) rfl rfl rfl rfl ?_|refine zH (.there (.there .here)) rfl rfl rfl rfl ?_)
  refine oC (Hc := []) (Hr := X) (fixed17_true F) Try.call9 rfl rfl (fun _ s => s) ?_
  rintro _ F0 _ hF0 ⟨rfl, rfl⟩
  replace h := h.mono hF0
  by_cases hlen : 2000 < bs.length
  · repeat (first|refine zJ rfl rfl ?_|refine jr rfl ?_|refine jn ?_|refine zM rfl rfl ?_|(refine zC rfl rfl ?_ rfl ?_;omega)|(refine zD rfl rfl ?_ rfl ?_;omega)|(refine zP rfl ?_ rfl ?_;omega)|refine zG rfl rfl rfl rfl ?_|(refine jdq rfl rfl ?_ ?_ ?_;kernel_rfl;kernel_rfl)|refine zB rfl rfl rfl (by repeat constructor) rfl ?_|refine zH .here rfl rfl rfl rfl ?_|refine zH (.there .here) rfl rfl rfl rfl ?_|refine zH (.there (.there .here)) rfl rfl rfl rfl ?_)
    exact J_retv rfl (.tmp rfl .nil) [] (fun w s => s) hF0 ⟨rfl, rfl⟩
  have hd1 := vtP_dig bs
  have hd2 := voP_dig bs n
  have hd4 := prP_len bs n
  repeat (first|refine zJ rfl rfl ?_|refine jr rfl ?_|refine jn ?_|refine zM rfl rfl ?_|(refine zC rfl rfl ?_ rfl ?_;omega)|(refine zD rfl rfl ?_ rfl ?_;omega)|(refine zP rfl ?_ rfl ?_;omega)|refine zG rfl rfl rfl rfl ?_|(refine jdq rfl rfl ?_ ?_ ?_;kernel_rfl;kernel_rfl)|refine zB rfl rfl rfl (by repeat constructor) rfl ?_|refine zH .here rfl rfl rfl rfl ?_|refine zH (.there .here) rfl rfl rfl rfl ?_|refine zH (.there (.there .here)) rfl rfl rfl rfl ?_)
  refine oC (Hc := []) (Hr := X) (parseVote_spec _ bs F0 h (by omega)) Try.call16 rfl rfl (fun _ s => s) ?_
  rintro _ F1 _ hF1 ⟨rfl, rfl⟩
  replace h := h.mono hF1
  generalize hp1 : vtP bs = r1 at *
  obtain ⟨x1, e1⟩ := r1
  dsimp only
  repeat (first|refine zJ rfl rfl ?_|refine jr rfl ?_|refine jn ?_|refine zM rfl rfl ?_|(refine zC rfl rfl ?_ rfl ?_;omega)|(refine zD rfl rfl ?_ rfl ?_;omega)|(refine zP rfl ?_ rfl ?_;omega)|refine zG rfl rfl rfl rfl ?_|(refine jdq rfl rfl ?_ ?_ ?_;kernel_rfl;kernel_rfl)|refine zB rfl rfl rfl (by repeat constructor) rfl ?_|refine zH .here rfl rfl rfl rfl ?_|refine zH (.there .here) rfl rfl rfl rfl ?_|refine zH (.there (.there .here)) rfl rfl rfl rfl ?_)
  refine oE (ev_alloc (cs := zVt) rfl) rfl ?_
  rintro _ _ _ _ ⟨rfl, b1, rfl, rfl⟩
  refine oN (ev_store (b := b1) rfl rfl .agg rfl (Vt.len hd1) (lay_all (zs := zVt) (Vt.len hd1)) x1.ones .here) rfl ?_
  rintro _ _ _ _ ⟨rfl, _, rfl⟩
  repeat (first|refine zJ rfl rfl ?_|refine jr rfl ?_|refine jn ?_|refine zM rfl rfl ?_|(refine zC rfl rfl ?_ rfl ?_;omega)|(refine zD rfl rfl ?_ rfl ?_;omega)|(refine zP rfl ?_ rfl ?_;omega)|refine zG rfl rfl rfl rfl ?_|(refine jdq rfl rfl ?_ ?_ ?_;kernel_rfl;kernel_rfl)|refine zB rfl rfl rfl (by repeat constructor) rfl ?_|refine zH .here rfl rfl rfl rfl ?_|refine zH (.there .here) rfl rfl rfl rfl ?_|refine zH (.there (.there .here)) rfl rfl rfl rfl ?_)
  refine oC (Hc := []) (Hr := blk b1 25 x1.cells :: X) (parseVouching_spec _ bs n F1 h (by omega)) Try.call17 rfl rfl (fun _ s => s) ?_
  rintro _ F2 _ hF2 ⟨rfl, rfl⟩
  replace h := h.mono hF2
  generalize hp2 : voP bs n = r2 at *
  obtain ⟨x2, e2⟩ := r2
  dsimp only
  repeat (first|refine zJ rfl rfl ?_|refine jr rfl ?_|refine jn ?_|refine zM rfl rfl ?_|(refine zC rfl rfl ?_ rfl ?_;omega)|(refine zD rfl rfl ?_ rfl ?_;omega)|(refine zP rfl ?_ rfl ?_;omega)|refine zG rfl rfl rfl rfl ?_|(refine jdq rfl rfl ?_ ?_ ?_;kernel_rfl;kernel_rfl)|refine zB rfl rfl rfl (by repeat constructor) rfl ?_|refine zH .here rfl rfl rfl rfl ?_|refine zH (.there .here) rfl rfl rfl rfl ?_|refine zH (.there (.there .here)) rfl rfl rfl rfl ?_)
  refine oE (ev_alloc (cs := zVo) rfl) rfl ?_
  rintro _ _ _ _ ⟨rfl, b2, rfl, rfl⟩
  refine oN (ev_store (b := b2) rfl rfl .agg rfl (Vo.len hd2) (lay_all (zs := zVo) (Vo.len hd2)) x2.ones .here) rfl ?_
  rintro _ _ _ _ ⟨rfl, _, rfl⟩
  repeat (first|refine zJ rfl rfl ?_|refine jr rfl ?_|refine jn ?_|refine zM rfl rfl ?_|(refine zC rfl rfl ?_ rfl ?_;omega)|(refine zD rfl rfl ?_ rfl ?_;omega)|(refine zP rfl ?_ rfl ?_;omega)|refine zG rfl rfl rfl rfl ?_|(refine jdq rfl rfl ?_ ?_ ?_;kernel_rfl;kernel_rfl)|refine zB rfl rfl rfl (by repeat constructor) rfl ?_|refine zH .here rfl rfl rfl rfl ?_|refine zH (.there .here) rfl rfl rfl rfl ?_|refine zH (.there (.there .here)) rfl rfl rfl rfl ?_)
  refine oC (Hc := []) (Hr := blk b2 28 x2.cells :: blk b1 25 x1.cells :: X) (parseReply_spec _ bs n F2 h (by omega)) Try.call18 rfl rfl (fun _ s => s) ?_
  rintro _ F3 _ hF3 ⟨rfl, rfl⟩
  replace h := h.mono hF3
  generalize hp3 : rpP bs n = r3 at *
  obtain ⟨x3, e3⟩ := r3
  dsimp only
  repeat (first|refine zJ rfl rfl ?_|refine jr rfl ?_|refine jn ?_|refine zM rfl rfl ?_|(refine zC rfl rfl ?_ rfl ?_;omega)|(refine zD rfl rfl ?_ rfl ?_;omega)|(refine zP rfl ?_ rfl ?_;omega)|refine zG rfl rfl rfl rfl ?_|(refine jdq rfl rfl ?_ ?_ ?_;kernel_rfl;kernel_rfl)|refine zB rfl rfl rfl (by repeat constructor) rfl ?_|refine zH .here rfl rfl rfl rfl ?_|refine zH (.there .here) rfl rfl rfl rfl ?_|refine zH (.there (.there .here)) rfl rfl rfl rfl ?_)
  refine oE (ev_alloc (cs := zRp) rfl) rfl ?_
  rintro _ _ _ _ ⟨rfl, b3, rfl, rfl⟩
  refine oN (ev_store (b := b3) rfl rfl .agg rfl (Rp.len x3) (lay_all (zs := zRp) (Rp.len x3)) x3.ones .here) rfl ?_
  rintro _ _ _ _ ⟨rfl, _, rfl⟩
  repeat (first|refine zJ rfl rfl ?_|refine jr rfl ?_|refine jn ?_|refine zM rfl rfl ?_|(refine zC rfl rfl ?_ rfl ?_;omega)|(refine zD rfl rfl ?_ rfl ?_;omega)|(refine zP rfl ?_ rfl ?_;omega)|refine zG rfl rfl rfl rfl ?_|(refine jdq rfl rfl ?_ ?_ ?_;kernel_rfl;kernel_rfl)|refine zB rfl rfl rfl (by repeat constructor) rfl ?_|refine zH .here rfl rfl rfl rfl ?_|refine zH (.there .here) rfl rfl rfl rfl ?_|refine zH (.there (.there .here)) rfl rfl rfl rfl ?_)
  refine oC (Hc := []) (Hr := blk b3 31 x3.cells :: blk b2 28 x2.cells :: blk b1 25 x1.cells :: X) (parseProposal_spec _ bs n F3 h (by omega)) Try.call22 rfl rfl (fun _ s => s) ?_
  rintro _ F4 _ hF4 ⟨rfl, vp, rfl, hvp⟩
  replace h := h.mono hF4
  generalize hp4 : prP bs n = r4 at *
  obtain ⟨x4, e4⟩ := r4
  dsimp only at *
  obtain ⟨ap, cp, rfl, _⟩ := hvp.form
  repeat (first|refine zJ rfl rfl ?_|refine jr rfl ?_|refine jn ?_|refine zM rfl rfl ?_|(refine zC rfl rfl ?_ rfl ?_;omega)|(refine zD rfl rfl ?_ rfl ?_;omega)|(refine zP rfl ?_ rfl ?_;omega)|refine zG rfl rfl rfl rfl ?_|(refine jdq rfl rfl ?_ ?_ ?_;kernel_rfl;kernel_rfl)|refine zB rfl rfl rfl (by repeat constructor) rfl ?_|refine zH .here rfl rfl rfl rfl ?_|refine zH (.there .here) rfl rfl rfl rfl ?_|refine zH (.there (.there .here)) rfl rfl rfl rfl ?_)
  refine oE (ev_alloc (cs := zPr) rfl) rfl ?_
  rintro _ _ _ _ ⟨rfl, b4, rfl, rfl⟩
  refine oN (ev_store (b := b4) rfl rfl .agg rfl rfl (lay_all (zs := zPr) rfl) (ones_pr _ _ _ _ _) .here) rfl ?_
  rintro _ _ _ _ ⟨rfl, _, rfl⟩
  repeat (first|refine zJ rfl rfl ?_|refine jr rfl ?_|refine jn ?_|refine zM rfl rfl ?_|(refine zC rfl rfl ?_ rfl ?_;omega)|(refine zD rfl rfl ?_ rfl ?_;omega)|(refine zP rfl ?_ rfl ?_;omega)|refine zG rfl rfl rfl rfl ?_|(refine jdq rfl rfl ?_ ?_ ?_;kernel_rfl;kernel_rfl)|refine zB rfl rfl rfl (by repeat constructor) rfl ?_|refine zH .here rfl rfl rfl rfl ?_|refine zH (.there .here) rfl rfl rfl rfl ?_|refine zH (.there (.there .here)) rfl rfl rfl rfl ?_)
  obtain ⟨Y, hY⟩ : ∃ Y, Y = blk b4 46 (prC x4.view x4.seq (.slice ap x4.es.length cp)) :: blk b3 31 x3.cells :: blk b2 28 x2.cells :: blk b1 25 x1.cells :: X := ⟨_, rfl⟩
  refine oW (H' := Y) ?_ (fun w s => by rw [hY]; exact s)
  have p4 : Pick (blk b4 46 (prC x4.view x4.seq (.slice ap x4.es.length cp))) Y (blk b3 31 x3.cells :: blk b2 28 x2.cells :: blk b1 25 x1.cells :: X) := by rw [hY]; exact .here
  have p3 : Pick (blk b3 31 x3.cells) Y (blk b4 46 (prC x4.view x4.seq (.slice ap x4.es.length cp)) :: blk b2 28 x2.cells :: blk b1 25 x1.cells :: X) := by rw [hY]; exact .there .here
  have p2 : Pick (blk b2 28 x2.cells) Y (blk b4 46 (prC x4.view x4.seq (.slice ap x4.es.length cp)) :: blk b3 31 x3.cells :: blk b1 25 x1.cells :: X) := by rw [hY]; exact .there (.there .here)
  have p1 : Pick (blk b1 25 x1.cells) Y (blk b4 46 (prC x4.view x4.seq (.slice ap x4.es.length cp)) :: blk b3 31 x3.cells :: blk b2 28 x2.cells :: X) := by rw [hY]; exact .there (.there (.there .here))
  have hdrop : ∀ F w, Sat F Y w → Sat F X w := fun F w s => by rw [hY] at s; exact s.drop.drop.drop.drop
  clear hY
  refine oC (Hc := []) (Hr := Y) (ParseVote_spec _ bs F4 h (by omega)) Try.call19 rfl rfl (fun _ s => s) ?_
  rintro _ F5 _ hF5 ⟨rfl, rfl⟩
  rw [hp1]
  dsimp only
  replace h := h.mono hF5
  repeat (first|refine zJ rfl rfl ?_|refine jr rfl ?_|refine jn ?_|refine zM rfl rfl ?_|(refine zC rfl rfl ?_ rfl ?_;omega)|(refine zD rfl rfl ?_ rfl ?_;omega)|(refine zP rfl ?_ rfl ?_;omega)|refine zG rfl rfl rfl rfl ?_|(refine jdq rfl rfl ?_ ?_ ?_;kernel_rfl;kernel_rfl)|refine zB rfl rfl rfl (by repeat constructor) rfl ?_|refine zH .here rfl rfl rfl rfl ?_|refine zH (.there .here) rfl rfl rfl rfl ?_|refine zH (.there (.there .here)) rfl rfl rfl rfl ?_)
  refine oE (ev_alloc (cs := zVt) rfl) rfl ?_
  rintro _ _ _ _ ⟨rfl, b5, rfl, rfl⟩
  refine oN (ev_store (b := b5) rfl rfl .agg rfl (Vt.len hd1) (lay_all (zs := zVt) (Vt.len hd1)) x1.ones .here) rfl ?_
  rintro _ _ _ _ ⟨rfl, _, rfl⟩
  repeat (first|refine zJ rfl rfl ?_|refine jr rfl ?_|refine jn ?_|refine zM rfl rfl ?_|(refine zC rfl rfl ?_ rfl ?_;omega)|(refine zD rfl rfl ?_ rfl ?_;omega)|(refine zP rfl ?_ rfl ?_;omega)|refine zG rfl rfl rfl rfl ?_|(refine jdq rfl rfl ?_ ?_ ?_;kernel_rfl;kernel_rfl)|refine zB rfl rfl rfl (by repeat constructor) rfl ?_|refine zH .here rfl rfl rfl rfl ?_|refine zH (.there .here) rfl rfl rfl rfl ?_|refine zH (.there (.there .here)) rfl rfl rfl rfl ?_)
  refine oC (Hc := []) (Hr := blk b5 25 x1.cells :: Y) (ParseVouching_spec _ bs n F5 h (by omega)) Try.call20 rfl rfl (fun _ s => s) ?_
  rintro _ F6 _ hF6 ⟨rfl, rfl⟩
  rw [hp2]
  dsimp only
  replace h := h.mono hF6
  repeat (first|refine zJ rfl rfl ?_|refine jr rfl ?_|refine jn ?_|refine zM rfl rfl ?_|(refine zC rfl rfl ?_ rfl ?_;omega)|(refine zD rfl rfl ?_ rfl ?_;omega)|(refine zP rfl ?_ rfl ?_;omega)|refine zG rfl rfl rfl rfl ?_|(refine jdq rfl rfl ?_ ?_ ?_;kernel_rfl;kernel_rfl)|refine zB rfl rfl rfl (by repeat constructor) rfl ?_|refine zH .here rfl rfl rfl rfl ?_|refine zH (.there .here) rfl rfl rfl rfl ?_|refine zH (.there (.there .here)) rfl rfl rfl rfl ?_)
  refine oE (ev_alloc (cs := zVo) rfl) rfl ?_
  rintro _ _ _ _ ⟨rfl, b6, rfl, rfl⟩
  refine oN (ev_store (b := b6) rfl rfl .agg rfl (Vo.len hd2) (lay_all (zs := zVo) (Vo.len hd2)) x2.ones .here) rfl ?_
  rintro _ _ _ _ ⟨rfl, _, rfl⟩
  repeat (first|refine zJ rfl rfl ?_|refine jr rfl ?_|refine jn ?_|refine zM rfl rfl ?_|(refine zC rfl rfl ?_ rfl ?_;omega)|(refine zD rfl rfl ?_ rfl ?_;omega)|(refine zP rfl ?_ rfl ?_;omega)|refine zG rfl rfl rfl rfl ?_|(refine jdq rfl rfl ?_ ?_ ?_;kernel_rfl;kernel_rfl)|refine zB rfl rfl rfl (by repeat constructor) rfl ?_|refine zH .here rfl rfl rfl rfl ?_|refine zH (.there .here) rfl rfl rfl rfl ?_|refine zH (.there (.there .here)) rfl rfl rfl rfl ?_)
  refine oC (Hc := []) (Hr := blk b6 28 x2.cells :: blk b5 25 x1.cells :: Y) (ParseReply_spec _ bs n F6 h (by omega)) Try.call21 rfl rfl (fun _ s => s) ?_
  rintro _ F7 _ hF7 ⟨rfl, rfl⟩
  rw [hp3]
  dsimp only
  replace h := h.mono hF7
  repeat (first|refine zJ rfl rfl ?_|refine jr rfl ?_|refine jn ?_|refine zM rfl rfl ?_|(refine zC rfl rfl ?_ rfl ?_;omega)|(refine zD rfl rfl ?_ rfl ?_;omega)|(refine zP rfl ?_ rfl ?_;omega)|refine zG rfl rfl rfl rfl ?_|(refine jdq rfl rfl ?_ ?_ ?_;kernel_rfl;kernel_rfl)|refine zB rfl rfl rfl (by repeat constructor) rfl ?_|refine zH .here rfl rfl rfl rfl ?_|refine zH (.there .here) rfl rfl rfl rfl ?_|refine zH (.there (.there .here)) rfl rfl rfl rfl ?_)
  refine oE (ev_alloc (cs := zRp) rfl) rfl ?_
  rintro _ _ _ _ ⟨rfl, b7, rfl, rfl⟩
  refine oN (ev_store (b := b7) rfl rfl .agg rfl (Rp.len x3) (lay_all (zs := zRp) (Rp.len x3)) x3.ones .here) rfl ?_
  rintro _ _ _ _ ⟨rfl, _, rfl⟩
  repeat (first|refine zJ rfl rfl ?_|refine jr rfl ?_|refine jn ?_|refine zM rfl rfl ?_|(refine zC rfl rfl ?_ rfl ?_;omega)|(refine zD rfl rfl ?_ rfl ?_;omega)|(refine zP rfl ?_ rfl ?_;omega)|refine zG rfl rfl rfl rfl ?_|(refine jdq rfl rfl ?_ ?_ ?_;kernel_rfl;kernel_rfl)|refine zB rfl rfl rfl (by repeat constructor) rfl ?_|refine zH .here rfl rfl rfl rfl ?_|refine zH (.there .here) rfl rfl rfl rfl ?_|refine zH (.there (.there .here)) rfl rfl rfl rfl ?_)
  refine oC (Hc := []) (Hr := blk b7 31 x3.cells :: blk b6 28 x2.cells :: blk b5 25 x1.cells :: Y) (ParseProposal_spec _ bs n F7 h (by omega)) Try.call23 rfl rfl (fun _ s => s) ?_
  rintro _ F8 _ hF8 ⟨rfl, vq, rfl, hvq⟩
  rw [hp4] at hvq ⊢
  dsimp only at hvq ⊢
  obtain ⟨aq, cq, rfl, _⟩ := hvq.form
  repeat (first|refine zJ rfl rfl ?_|refine jr rfl ?_|refine jn ?_|refine zM rfl rfl ?_|(refine zC rfl rfl ?_ rfl ?_;omega)|(refine zD rfl rfl ?_ rfl ?_;omega)|(refine zP rfl ?_ rfl ?_;omega)|refine zG rfl rfl rfl rfl ?_|(refine jdq rfl rfl ?_ ?_ ?_;kernel_rfl;kernel_rfl)|refine zB rfl rfl rfl (by repeat constructor) rfl ?_|refine zH .here rfl rfl rfl rfl ?_|refine zH (.there .here) rfl rfl rfl rfl ?_|refine zH (.there (.there .here)) rfl rfl rfl rfl ?_)
  refine oE (ev_alloc (cs := zPr) rfl) rfl ?_
  rintro _ _ _ _ ⟨rfl, b8, rfl, rfl⟩
  refine oN (ev_store (b := b8) rfl rfl .agg rfl rfl (lay_all (zs := zPr) rfl) (ones_pr _ _ _ _ _) .here) rfl ?_
  rintro _ _ _ _ ⟨rfl, _, rfl⟩
  have hFF := hF0.trans (hF1.trans (hF2.trans (hF3.trans (hF4.trans (hF5.trans (hF6.trans (hF7.trans hF8)))))))
  have hsm := BSame_spec _ _ x4.es F8 (hvp.mono (hF5.trans (hF6.trans (hF7.trans hF8)))) hvq (by omega)
  repeat (first|refine zJ rfl rfl ?_|refine jr rfl ?_|refine jn ?_|refine zM rfl rfl ?_|(refine zC rfl rfl ?_ rfl ?_;omega)|(refine zD rfl rfl ?_ rfl ?_;omega)|(refine zP rfl ?_ rfl ?_;omega)|refine zG rfl rfl rfl rfl ?_|(refine jdq rfl rfl ?_ ?_ ?_;kernel_rfl;kernel_rfl)|refine zB rfl rfl rfl (by repeat constructor) rfl ?_)
  refine oS (ev_load_agg (cs := x1.cells) rfl rfl (Rdb.ofB (n := 0) (.there (.there (.there (.there p1)))) (full_at _)) (Vt.len hd1)) rfl ?_
  refine oS (ev_load_agg (cs := x1.cells) rfl rfl (Rdb.ofB (n := 0) (.there (.there (.there .here))) (full_at _)) (Vt.len hd1)) rfl ?_
  refine oS (ev_vt_eql (x := x1) hd1 rfl rfl) rfl ?_
  repeat (first|refine zJ rfl rfl ?_|refine jr rfl ?_|refine jn ?_|refine zM rfl rfl ?_|(refine zC rfl rfl ?_ rfl ?_;omega)|(refine zD rfl rfl ?_ rfl ?_;omega)|(refine zP rfl ?_ rfl ?_;omega)|refine zG rfl rfl rfl rfl ?_|(refine jdq rfl rfl ?_ ?_ ?_;kernel_rfl;kernel_rfl)|refine zB rfl rfl rfl (by repeat constructor) rfl ?_)
  refine oS (ev_load_agg (cs := x2.cells) rfl rfl (Rdb.ofB (n := 0) (.there (.there (.there (.there p2)))) (full_at _)) (Vo.len hd2)) rfl ?_
  refine oS (ev_load_agg (cs := x2.cells) rfl rfl (Rdb.ofB (n := 0) (.there (.there .here)) (full_at _)) (Vo.len hd2)) rfl ?_
  refine oS (ev_vo_eql (x := x2) hd2 rfl rfl) rfl ?_
  repeat (first|refine zJ rfl rfl ?_|refine jr rfl ?_|refine jn ?_|refine zM rfl rfl ?_|(refine zC rfl rfl ?_ rfl ?_;omega)|(refine zD rfl rfl ?_ rfl ?_;omega)|(refine zP rfl ?_ rfl ?_;omega)|refine zG rfl rfl rfl rfl ?_|(refine jdq rfl rfl ?_ ?_ ?_;kernel_rfl;kernel_rfl)|refine zB rfl rfl rfl (by repeat constructor) rfl ?_)
  refine oS (ev_load_agg (cs := x3.cells) rfl rfl (Rdb.ofB (n := 0) (.there (.there (.there (.there p3)))) (full_at _)) (Rp.len x3)) rfl ?_
  refine oS (ev_load_agg (cs := x3.cells) rfl rfl (Rdb.ofB (n := 0) (.there .here) (full_at _)) (Rp.len x3)) rfl ?_
  refine oS (ev_rp_eql (x := x3) rfl rfl) rfl ?_
  repeat (first|refine zJ rfl rfl ?_|refine jr rfl ?_|refine jn ?_|refine zM rfl rfl ?_|(refine zC rfl rfl ?_ rfl ?_;omega)|(refine zD rfl rfl ?_ rfl ?_;omega)|(refine zP rfl ?_ rfl ?_;omega)|refine zG rfl rfl rfl rfl ?_|(refine jdq rfl rfl ?_ ?_ ?_;kernel_rfl;kernel_rfl)|refine zB rfl rfl rfl (by repeat constructor) rfl ?_)
  refine oS (ev_load (v := .int .i64 x4.view) rfl rfl (Rdb.ofB (n := 0) (.there (.there (.there (.there p4)))) rfl)) rfl ?_
  repeat (first|refine zJ rfl rfl ?_|refine jr rfl ?_|refine jn ?_|refine zM rfl rfl ?_|(refine zC rfl rfl ?_ rfl ?_;omega)|(refine zD rfl rfl ?_ rfl ?_;omega)|(refine zP rfl ?_ rfl ?_;omega)|refine zG rfl rfl rfl rfl ?_|(refine jdq rfl rfl ?_ ?_ ?_;kernel_rfl;kernel_rfl)|refine zB rfl rfl rfl (by repeat constructor) rfl ?_)
  refine oS (ev_load (v := .int .i64 x4.view) rfl rfl (Rdb.ofB (n := 0) .here rfl)) rfl ?_
  repeat (first|refine zJ rfl rfl ?_|refine jr rfl ?_|refine jn ?_|refine zM rfl rfl ?_|(refine zC rfl rfl ?_ rfl ?_;omega)|(refine zD rfl rfl ?_ rfl ?_;omega)|(refine zP rfl ?_ rfl ?_;omega)|refine zG rfl rfl rfl rfl ?_|(refine jdq rfl rfl ?_ ?_ ?_;kernel_rfl;kernel_rfl)|refine zB rfl rfl rfl (by repeat constructor) rfl ?_)
  refine oS (ev_load (v := .int .i64 x4.seq) rfl rfl (Rdb.ofB (n := 0) (.there (.there (.there (.there p4)))) rfl)) rfl ?_
  repeat (first|refine zJ rfl rfl ?_|refine jr rfl ?_|refine jn ?_|refine zM rfl rfl ?_|(refine zC rfl rfl ?_ rfl ?_;omega)|(refine zD rfl rfl ?_ rfl ?_;omega)|(refine zP rfl ?_ rfl ?_;omega)|refine zG rfl rfl rfl rfl ?_|(refine jdq rfl rfl ?_ ?_ ?_;kernel_rfl;kernel_rfl)|refine zB rfl rfl rfl (by repeat constructor) rfl ?_)
  refine oS (ev_load (v := .int .i64 x4.seq) rfl rfl (Rdb.ofB (n := 0) .here rfl)) rfl ?_
  repeat (first|refine zJ rfl rfl ?_|refine jr rfl ?_|refine jn ?_|refine zM rfl rfl ?_|(refine zC rfl rfl ?_ rfl ?_;omega)|(refine zD rfl rfl ?_ rfl ?_;omega)|(refine zP rfl ?_ rfl ?_;omega)|refine zG rfl rfl rfl rfl ?_|(refine jdq rfl rfl ?_ ?_ ?_;kernel_rfl;kernel_rfl)|refine zB rfl rfl rfl (by repeat constructor) rfl ?_)
  refine oS (ev_load (v := .slice ap x4.es.length cp) rfl rfl (Rdb.ofB (n := 0) (.there (.there (.there (.there p4)))) rfl)) rfl ?_
  repeat (first|refine zJ rfl rfl ?_|refine jr rfl ?_|refine jn ?_|refine zM rfl rfl ?_|(refine zC rfl rfl ?_ rfl ?_;omega)|(refine zD rfl rfl ?_ rfl ?_;omega)|(refine zP rfl ?_ rfl ?_;omega)|refine zG rfl rfl rfl rfl ?_|(refine jdq rfl rfl ?_ ?_ ?_;kernel_rfl;kernel_rfl)|refine zB rfl rfl rfl (by repeat constructor) rfl ?_)
  refine oS (ev_load (v := .slice aq x4.es.length cq) rfl rfl (Rdb.ofB (n := 0) .here rfl)) rfl ?_
  refine oP (hsm) Try.call24 rfl rfl ?_
  repeat (first|refine zJ rfl rfl ?_|refine jr rfl ?_|refine jn ?_|refine zM rfl rfl ?_|(refine zC rfl rfl ?_ rfl ?_;omega)|(refine zD rfl rfl ?_ rfl ?_;omega)|(refine zP rfl ?_ rfl ?_;omega)|refine zG rfl rfl rfl rfl ?_|(refine jdq rfl rfl ?_ ?_ ?_;kernel_rfl;kernel_rfl)|refine zB rfl rfl rfl (by repeat constructor) rfl ?_)
  exact J_retv rfl (.tmp rfl .nil) [] (fun w s => hdrop _ _ s.drop.drop.drop.drop) hFF ⟨rfl, rfl⟩
open Go.ChangeShapes Go.WideShapes Go.ChangeAt
set_option maxRecDepth 100000 in theorem VotesReads_lifted (os : Os) (started : os.Started) (H : Type) (enc : TypeId × Value → H) : ReturnsInHanded {} Try.checked os 4 .any (Rows.votesReadsSpec.pre6 enc Try.prog Try.f4 Rows.votesReadsRow.domain false) (Rows.votesReadsSpec.post enc Try.prog Try.f4 false true false false) := by
  refine returnsInHanded_of_change (C := Try.checked) own_knob started (by kernel_rfl) Try.func4 (ChangeSpec.witness6 (enc := enc) (C := Try.checked) false ⟨#[], #[.slice none 0 0, .int .i64 0], []⟩ 8 (by kernel_rfl) (by kernel_rfl) (by kernel_rfl) (by kernel_rfl)) ?_; intro W base args ds gs before hval0 hW hcnd _; have hval : ∀ (j : Nat) t v, Try.f4.params[j]? = some t → args[j]? = some v → Value.okWide Try.prog W .any base t v := hval0; have hW' := hW; obtain ⟨p, q, hA0, hV, hp, hfz, hnd⟩ := hW; have hA : DataW.TrodAll enc Try.prog W 0 (fun _ => true) true Try.f4.params.toList args.toList ds p := hA0; obtain ⟨rfl, rfl⟩ := trodVars_none hV; rw [List.append_nil] at hp; have hA' := hA; rw [Try.params4] at hA hval
  obtain ⟨v0, vs0, d0, ds0, p0, q0, hargs, rfl, rfl, h0, r0⟩ := trodAll_cons hA; obtain ⟨v1, vs1, d1, ds1, p1, q1, rfl, rfl, rfl, h1, r1⟩ := trodAll_cons r0; obtain ⟨rfl, rfl, rfl⟩ := trodAll_nil r1; obtain rfl : args = #[v0, v1] := by cases args; simp_all
  obtain ⟨ab, cb, bs, rfl, hcb, hcm, q0⟩ := open_byt Try.underlying33 Try.underlying5 (by kernel_rfl) (hval 0 33 v0 rfl rfl) h0
  obtain ⟨n, rfl, rfl, rfl, w1⟩ := open_int Try.underlying3 (hval 1 3 v1 rfl rfl) h1
  refine (law_walk (VotesReads_walk _ bs n (ph W) q0)).mono fun e W' ⟨he, hb⟩ => ?_
  subst he
  exact ⟨_, rfl, law_post laid_out (by kernel_rfl) rfl rfl Try.underlying4 hW' hA' hp rfl hb⟩
theorem VotesReads_holds : Rows.VotesReadsSaid := OpenClaim.holds_of_wide 4 Try.f4 rfl rfl rfl rfl rfl rfl rfl ⟨rfl, rfl, rfl, rfl, rfl⟩ rfl rfl rfl rfl rfl (by kernel_rfl) Try.func4 (by kernel_rfl) (of_decide_eq_true (by kernel_rfl)) (by unfold Func.isWrapper; first | (rw [if_pos (by decide +kernel)]; kernel_rfl) | (rw [if_neg (by decide +kernel)]; exact ⟨rfl, rfl⟩)) (fun os started H enc _ => VotesReads_lifted os started H enc)
#print axioms VotesReads_holds
end Go.Proofs.Ytaggonhgafggkaa
