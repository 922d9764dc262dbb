/-
  What replicas say has the document's bytes, and is told by them, if it may be (VotesBack). No condition.
-/
import Derived.Test.YtaggonhgafggkaaVf
namespace Go.Proofs.Ytaggonhgafggkaa
open Go.RowKit
set_option maxRecDepth 100000
theorem full_at (cs : List Value) : (cs.drop 0).take cs.length = cs := by rw [List.drop_zero, List.take_length]
set_option maxHeartbeats 16000000 in
theorem VotesBack_walk (x : Vt) (y : Vo) (z : Rp) (n : Int) (F : PH) (hx : x.dig.length = 32) (hy : y.dig.length = 32) (hm : y.mask < 4294967296) (k1 : InK .i64 x.view) (k2 : InK .i64 x.seq) :
    Pure Try.prog 3 [.agg x.cells.toArray, .agg y.cells.toArray, .agg z.cells.toArray, .int .i64 n] F (.bool true) := by
  have hxl := Vt.bytes_len hx
  have hyl := Vo.bytes_len hy
  have hzl := Rp.bytes_len z
  refine Spec.of4 Try.func3 rfl rfl fun X w0 => ?_
  refine jc rfl rfl ?_
  refine jr rfl ?_
  refine oE (ev_box rfl .agg) rfl ?_; rintro _ _ _ _ ⟨rfl, b1, rfl, rfl⟩
  refine oE (ev_box rfl .agg) rfl ?_; rintro _ _ _ _ ⟨rfl, b2, rfl, rfl⟩
  refine oE (ev_box rfl .agg) rfl ?_; rintro _ _ _ _ ⟨rfl, b3, rfl, rfl⟩
  repeat (first|refine zJ rfl rfl ?_|refine jr rfl ?_|refine jn ?_|refine zM rfl rfl ?_|(refine zC rfl rfl ?_ rfl ?_;omega)|(refine zD rfl rfl ?_ rfl ?_;omega)|(refine zP rfl ?_ rfl ?_;omega)|refine zG rfl rfl rfl rfl ?_|(refine jdq rfl rfl ?_ ?_ ?_;kernel_rfl;kernel_rfl)|refine zB rfl rfl rfl (by repeat constructor) rfl ?_|refine zH .here rfl rfl rfl rfl ?_|refine zH (.there .here) rfl rfl rfl rfl ?_|refine zH (.there (.there .here)) rfl rfl rfl rfl ?_)
  obtain ⟨Y, hY⟩ : ∃ Y, Y = blk b3 31 z.cells :: blk b2 28 y.cells :: blk b1 25 x.cells :: X := ⟨_, rfl⟩
  refine oW (H' := Y) ?_ (fun w s => by rw [hY]; exact s)
  have p1 : Pick (blk b1 25 x.cells) Y (blk b3 31 z.cells :: blk b2 28 y.cells :: X) := by rw [hY]; exact .there (.there .here)
  have p2 : Pick (blk b2 28 y.cells) Y (blk b3 31 z.cells :: blk b1 25 x.cells :: X) := by rw [hY]; exact .there .here
  have p3 : Pick (blk b3 31 z.cells) Y (blk b2 28 y.cells :: blk b1 25 x.cells :: X) := by rw [hY]; exact .here
  have hdrop : ∀ F w, Sat F Y w → Sat F X w := fun F w s => by rw [hY] at s; exact s.drop.drop.drop
  clear hY
  refine oC (Hc := []) (Hr := Y) (fixed17_true F) Try.call9 rfl rfl (fun _ s => s) ?_
  rintro _ F0 _ hF0 ⟨rfl, rfl⟩
  repeat (first|refine zJ rfl rfl ?_|refine jr rfl ?_|refine jn ?_|refine zM rfl rfl ?_|(refine zC rfl rfl ?_ rfl ?_;omega)|(refine zD rfl rfl ?_ rfl ?_;omega)|(refine zP rfl ?_ rfl ?_;omega)|refine zG rfl rfl rfl rfl ?_|(refine jdq rfl rfl ?_ ?_ ?_;kernel_rfl;kernel_rfl)|refine zB rfl rfl rfl (by repeat constructor) rfl ?_|refine zH .here rfl rfl rfl rfl ?_|refine zH (.there .here) rfl rfl rfl rfl ?_|refine zH (.there (.there .here)) rfl rfl rfl rfl ?_)
  refine J_join [_] (fun i : Value × Value × Value × PH => F0.le i.2.2.2 ∧ Byt i.2.2.2 i.1 x.bytes ∧ Byt i.2.2.2 i.2.1 y.bytes ∧ Byt i.2.2.2 i.2.2.1 z.bytes) (fun i => [(3, .int .i64 n), (4, .pointer (some ⟨b1, 0, none⟩)), (5, .pointer (some ⟨b2, 0, none⟩)), (6, .pointer (some ⟨b3, 0, none⟩)), (9, i.1), (10, i.2.1), (11, i.2.2.1)]) (fun i => i.2.2.2) (fun _ => Y) ?_ ?_
  · refine ja F0 Y ?_ ?_ ?_; kernel_rfl
    · exact fun w s => s
    refine aT 0 rfl (ev_load_agg (cs := x.cells) rfl rfl (Rdb.ofB (n := 0) p1 (full_at _)) (Vt.len hx)) rfl rfl ?_ ?_ ?_ ?_; kernel_rfl; kernel_rfl; kernel_rfl
    refine aT 2 rfl (ev_load_agg (cs := y.cells) rfl rfl (Rdb.ofB (n := 0) p2 (full_at _)) (Vo.len hy)) rfl rfl ?_ ?_ ?_ ?_; kernel_rfl; kernel_rfl; kernel_rfl
    refine aT 4 rfl (ev_load_agg (cs := z.cells) rfl rfl (Rdb.ofB (n := 0) p3 (full_at _)) (Rp.len z)) rfl rfl ?_ ?_ ?_ ?_; kernel_rfl; kernel_rfl; kernel_rfl
    refine aB (i := 1) (by kernel_rfl) ?_
    refine aC (Hc := []) (Hr := Y) rfl (vote_spec x F0 hx) Try.call10 rfl rfl rfl (fun _ s => s) (fun _ _ _ hF hq w s => by obtain ⟨e, _⟩ := hq; subst e; exact s.mono hF) ?_; rintro u1 F1 _ hF1 ⟨rfl, h1⟩; refine aFH hF1 ?_
    refine aB (i := 3) (by kernel_rfl) ?_
    refine aC (Hc := []) (Hr := Y) rfl (vouching_spec y F1 hy hm) Try.call11 rfl rfl rfl (fun _ s => s) (fun _ _ _ hF hq w s => by obtain ⟨e, _⟩ := hq; subst e; exact s.mono hF) ?_; rintro u2 F2 _ hF2 ⟨rfl, h2⟩; refine aFH hF2 ?_
    refine aB (i := 5) (by kernel_rfl) ?_
    refine aC (Hc := []) (Hr := Y) rfl (reply_spec z F2) Try.call12 rfl rfl rfl (fun _ s => s) (fun _ _ _ hF hq w s => by obtain ⟨e, _⟩ := hq; subst e; exact s.mono hF) ?_; rintro u3 F3 _ hF3 ⟨rfl, h3⟩; refine aFH hF3 ?_
    refine aT 6 rfl (ev_pv rfl) rfl rfl ?_ ?_ ?_ ?_; kernel_rfl; kernel_rfl; kernel_rfl
    refine aT 7 rfl (ev_pv rfl) rfl rfl ?_ ?_ ?_ ?_; kernel_rfl; kernel_rfl; kernel_rfl
    refine aT 8 rfl (ev_pv rfl) rfl rfl ?_ ?_ ?_ ?_; kernel_rfl; kernel_rfl; kernel_rfl
    refine aD (by kernel_rfl) ?_
    exact J_joined (u1, u2, u3, F3) ⟨hF1.trans (hF2.trans hF3), h1.mono (hF2.trans hF3), h2.mono hF3, h3⟩ ⟨⟨rfl, rfl, rfl, rfl, rfl, rfl, rfl, trivial⟩, fun w s => s⟩
  rintro ⟨u1, u2, u3, F3⟩ ⟨hF3, h1, h2, h3⟩
  dsimp only at hF3 h1 h2 h3 ⊢
  repeat (first|refine zJ rfl rfl ?_|refine jr rfl ?_|refine jn ?_|refine zM rfl rfl ?_|(refine zC rfl rfl ?_ rfl ?_;omega)|(refine zD rfl rfl ?_ rfl ?_;omega)|(refine zP rfl ?_ rfl ?_;omega)|refine zG rfl rfl rfl rfl ?_|(refine jdq rfl rfl ?_ ?_ ?_;kernel_rfl;kernel_rfl)|refine zB rfl rfl rfl (by repeat constructor) rfl ?_|refine zH .here rfl rfl rfl rfl ?_|refine zH (.there .here) rfl rfl rfl rfl ?_|refine zH (.there (.there .here)) rfl rfl rfl rfl ?_)
  refine J_join [_] (fun i : PH => F3.le i) (fun i => [(3, .int .i64 n), (4, .pointer (some ⟨b1, 0, none⟩)), (9, u1), (10, u2), (11, u3), (53, .bool false)]) (fun i => i) (fun _ => Y) ?_ ?_
  · refine ja F3 Y ?_ ?_ ?_; kernel_rfl
    · exact fun w s => s
    refine aT 0 rfl (ev_pv rfl) rfl rfl ?_ ?_ ?_ ?_; kernel_rfl; kernel_rfl; kernel_rfl
    refine aT 1 rfl (eb_string rfl h1.rds) rfl rfl ?_ ?_ ?_ ?_; kernel_rfl; kernel_rfl; kernel_rfl
    refine aT 2 rfl (ev_load_agg (cs := x.cells) rfl rfl (Rdb.ofB (n := 0) p1 (full_at _)) (Vt.len hx)) rfl rfl ?_ ?_ ?_ ?_; kernel_rfl; kernel_rfl; kernel_rfl
    refine aB (i := 3) (by kernel_rfl) ?_
    refine aC (Hc := []) (Hr := Y) rfl (Vote_spec x F3 hx) Try.call13 rfl rfl rfl (fun _ s => s) (fun _ _ _ hF hq w s => by obtain ⟨e, _⟩ := hq; subst e; exact s.mono hF) ?_; rintro u4 F4 _ hF4 ⟨rfl, h4⟩; refine aFH hF4 ?_
    replace h1 := h1.mono hF4
    replace h2 := h2.mono hF4
    replace h3 := h3.mono hF4
    refine aT 4 rfl (eb_string rfl h4.rds) rfl rfl ?_ ?_ ?_ ?_; kernel_rfl; kernel_rfl; kernel_rfl
    refine aT 5 rfl (ev_sneq (bs := x.bytes) (cs := x.bytes) (r := false) rfl rfl (by simp)) rfl rfl ?_ ?_ ?_ ?_; kernel_rfl; kernel_rfl; kernel_rfl
    refine aT 6 rfl (ev_pv rfl) rfl rfl ?_ ?_ ?_ ?_; kernel_rfl; kernel_rfl; kernel_rfl
    refine aT 7 rfl (ev_pv rfl) rfl rfl ?_ ?_ ?_ ?_; kernel_rfl; kernel_rfl; kernel_rfl
    refine aT 8 rfl (eb_string rfl h2.rds) rfl rfl ?_ ?_ ?_ ?_; kernel_rfl; kernel_rfl; kernel_rfl
    refine aT 9 rfl (ev_load_agg (cs := y.cells) rfl rfl (Rdb.ofB (n := 0) p2 (full_at _)) (Vo.len hy)) rfl rfl ?_ ?_ ?_ ?_; kernel_rfl; kernel_rfl; kernel_rfl
    refine aB (i := 10) (by kernel_rfl) ?_
    refine aC (Hc := []) (Hr := Y) rfl (Vouching_spec y F4 hy hm) Try.call14 rfl rfl rfl (fun _ s => s) (fun _ _ _ hF hq w s => by obtain ⟨e, _⟩ := hq; subst e; exact s.mono hF) ?_; rintro u5 F5 _ hF5 ⟨rfl, h5⟩; refine aFH hF5 ?_
    replace h3 := h3.mono hF5
    refine aT 11 rfl (eb_string rfl h5.rds) rfl rfl ?_ ?_ ?_ ?_; kernel_rfl; kernel_rfl; kernel_rfl
    refine aT 12 rfl (ev_sneq (bs := y.bytes) (cs := y.bytes) (r := false) rfl rfl (by simp)) rfl rfl ?_ ?_ ?_ ?_; kernel_rfl; kernel_rfl; kernel_rfl
    refine aT 13 rfl (ev_pv rfl) rfl rfl ?_ ?_ ?_ ?_; kernel_rfl; kernel_rfl; kernel_rfl
    refine aT 14 rfl (ev_pv rfl) rfl rfl ?_ ?_ ?_ ?_; kernel_rfl; kernel_rfl; kernel_rfl
    refine aT 15 rfl (ev_pv rfl) rfl rfl ?_ ?_ ?_ ?_; kernel_rfl; kernel_rfl; kernel_rfl
    refine aT 16 rfl (eb_string rfl h3.rds) rfl rfl ?_ ?_ ?_ ?_; kernel_rfl; kernel_rfl; kernel_rfl
    refine aT 17 rfl (ev_load_agg (cs := z.cells) rfl rfl (Rdb.ofB (n := 0) p3 (full_at _)) (Rp.len z)) rfl rfl ?_ ?_ ?_ ?_; kernel_rfl; kernel_rfl; kernel_rfl
    refine aB (i := 18) (by kernel_rfl) ?_
    refine aC (Hc := []) (Hr := Y) rfl (Reply_spec z F5) Try.call15 rfl rfl rfl (fun _ s => s) (fun _ _ _ hF hq w s => by obtain ⟨e, _⟩ := hq; subst e; exact s.mono hF) ?_; rintro u6 F6 _ hF6 ⟨rfl, h6⟩; refine aFH hF6 ?_
    refine aT 19 rfl (eb_string rfl h6.rds) rfl rfl ?_ ?_ ?_ ?_; kernel_rfl; kernel_rfl; kernel_rfl
    refine aT 20 rfl (ev_sneq (bs := z.bytes) (cs := z.bytes) (r := false) rfl rfl (by simp)) rfl rfl ?_ ?_ ?_ ?_; kernel_rfl; kernel_rfl; kernel_rfl
    refine aT 21 rfl (ev_pv rfl) rfl rfl ?_ ?_ ?_ ?_; kernel_rfl; kernel_rfl; kernel_rfl
    refine aD (by kernel_rfl) ?_
    exact J_joined F6 (hF4.trans (hF5.trans hF6)) ⟨⟨rfl, rfl, rfl, rfl, rfl, rfl, trivial⟩, fun w s => s⟩
  rintro F6 hF6
  replace h1 := h1.mono hF6
  replace h2 := h2.mono hF6
  replace h3 := h3.mono hF6
  have hd1 := vtP_dig x.bytes
  have hd2 := voP_dig y.bytes n
  have hvb := vtP_bytes hx k1 k2
  repeat (first|refine zJ rfl rfl ?_|refine jr rfl ?_|refine jn ?_|refine zM rfl rfl ?_|(refine zC rfl rfl ?_ rfl ?_;omega)|(refine zD rfl rfl ?_ rfl ?_;omega)|(refine zP rfl ?_ rfl ?_;omega)|refine zG rfl rfl rfl rfl ?_|(refine jdq rfl rfl ?_ ?_ ?_;kernel_rfl;kernel_rfl)|refine zB rfl rfl rfl (by repeat constructor) rfl ?_|refine zH .here rfl rfl rfl rfl ?_|refine zH (.there .here) rfl rfl rfl rfl ?_|refine zH (.there (.there .here)) rfl rfl rfl rfl ?_)
  refine oC (Hc := []) (Hr := Y) (parseVote_spec _ x.bytes F6 h1 (by omega)) Try.call16 rfl rfl (fun _ s => s) ?_
  rintro _ F7 _ hF7 ⟨rfl, rfl⟩
  generalize hp1 : vtP x.bytes = r1 at *
  obtain ⟨x1, e1⟩ := r1
  dsimp only
  repeat (first|refine zJ rfl rfl ?_|refine jr rfl ?_|refine jn ?_|refine zM rfl rfl ?_|(refine zC rfl rfl ?_ rfl ?_;omega)|(refine zD rfl rfl ?_ rfl ?_;omega)|(refine zP rfl ?_ rfl ?_;omega)|refine zG rfl rfl rfl rfl ?_|(refine jdq rfl rfl ?_ ?_ ?_;kernel_rfl;kernel_rfl)|refine zB rfl rfl rfl (by repeat constructor) rfl ?_|refine zH .here rfl rfl rfl rfl ?_|refine zH (.there .here) rfl rfl rfl rfl ?_|refine zH (.there (.there .here)) rfl rfl rfl rfl ?_)
  refine oE (ev_alloc (cs := zVt) rfl) rfl ?_
  rintro _ _ _ _ ⟨rfl, b4, rfl, rfl⟩
  refine oN (ev_store (b := b4) rfl rfl .agg rfl (Vt.len hd1) (lay_all (zs := zVt) (Vt.len hd1)) x1.ones .here) rfl ?_
  rintro _ _ _ _ ⟨rfl, _, rfl⟩
  repeat (first|refine zJ rfl rfl ?_|refine jr rfl ?_|refine jn ?_|refine zM rfl rfl ?_|(refine zC rfl rfl ?_ rfl ?_;omega)|(refine zD rfl rfl ?_ rfl ?_;omega)|(refine zP rfl ?_ rfl ?_;omega)|refine zG rfl rfl rfl rfl ?_|(refine jdq rfl rfl ?_ ?_ ?_;kernel_rfl;kernel_rfl)|refine zB rfl rfl rfl (by repeat constructor) rfl ?_|refine zH .here rfl rfl rfl rfl ?_|refine zH (.there .here) rfl rfl rfl rfl ?_|refine zH (.there (.there .here)) rfl rfl rfl rfl ?_)
  refine oC (Hc := []) (Hr := blk b4 25 x1.cells :: Y) (parseVouching_spec _ y.bytes n F7 (h2.mono hF7) (by omega)) Try.call17 rfl rfl (fun _ s => s) ?_
  rintro _ F8 _ hF8 ⟨rfl, rfl⟩
  generalize hp2 : voP y.bytes n = r2 at *
  obtain ⟨x2, e2⟩ := r2
  dsimp only
  repeat (first|refine zJ rfl rfl ?_|refine jr rfl ?_|refine jn ?_|refine zM rfl rfl ?_|(refine zC rfl rfl ?_ rfl ?_;omega)|(refine zD rfl rfl ?_ rfl ?_;omega)|(refine zP rfl ?_ rfl ?_;omega)|refine zG rfl rfl rfl rfl ?_|(refine jdq rfl rfl ?_ ?_ ?_;kernel_rfl;kernel_rfl)|refine zB rfl rfl rfl (by repeat constructor) rfl ?_|refine zH .here rfl rfl rfl rfl ?_|refine zH (.there .here) rfl rfl rfl rfl ?_|refine zH (.there (.there .here)) rfl rfl rfl rfl ?_)
  refine oE (ev_alloc (cs := zVo) rfl) rfl ?_
  rintro _ _ _ _ ⟨rfl, b5, rfl, rfl⟩
  refine oN (ev_store (b := b5) rfl rfl .agg rfl (Vo.len hd2) (lay_all (zs := zVo) (Vo.len hd2)) x2.ones .here) rfl ?_
  rintro _ _ _ _ ⟨rfl, _, rfl⟩
  repeat (first|refine zJ rfl rfl ?_|refine jr rfl ?_|refine jn ?_|refine zM rfl rfl ?_|(refine zC rfl rfl ?_ rfl ?_;omega)|(refine zD rfl rfl ?_ rfl ?_;omega)|(refine zP rfl ?_ rfl ?_;omega)|refine zG rfl rfl rfl rfl ?_|(refine jdq rfl rfl ?_ ?_ ?_;kernel_rfl;kernel_rfl)|refine zB rfl rfl rfl (by repeat constructor) rfl ?_|refine zH .here rfl rfl rfl rfl ?_|refine zH (.there .here) rfl rfl rfl rfl ?_|refine zH (.there (.there .here)) rfl rfl rfl rfl ?_)
  refine oC (Hc := []) (Hr := blk b5 28 x2.cells :: blk b4 25 x1.cells :: Y) (parseReply_spec _ z.bytes n F8 (h3.mono (hF7.trans hF8)) (by omega)) Try.call18 rfl rfl (fun _ s => s) ?_
  rintro _ F9 _ hF9 ⟨rfl, rfl⟩
  generalize hp3 : rpP z.bytes n = r3 at *
  obtain ⟨x3, e3⟩ := r3
  dsimp only
  repeat (first|refine zJ rfl rfl ?_|refine jr rfl ?_|refine jn ?_|refine zM rfl rfl ?_|(refine zC rfl rfl ?_ rfl ?_;omega)|(refine zD rfl rfl ?_ rfl ?_;omega)|(refine zP rfl ?_ rfl ?_;omega)|refine zG rfl rfl rfl rfl ?_|(refine jdq rfl rfl ?_ ?_ ?_;kernel_rfl;kernel_rfl)|refine zB rfl rfl rfl (by repeat constructor) rfl ?_|refine zH .here rfl rfl rfl rfl ?_|refine zH (.there .here) rfl rfl rfl rfl ?_|refine zH (.there (.there .here)) rfl rfl rfl rfl ?_)
  refine oE (ev_alloc (cs := zRp) rfl) rfl ?_
  rintro _ _ _ _ ⟨rfl, b6, rfl, rfl⟩
  refine oN (ev_store (b := b6) rfl rfl .agg rfl (Rp.len x3) (lay_all (zs := zRp) (Rp.len x3)) x3.ones .here) rfl ?_
  rintro _ _ _ _ ⟨rfl, _, rfl⟩
  repeat (first|refine zJ rfl rfl ?_|refine jr rfl ?_|refine jn ?_|refine zM rfl rfl ?_|(refine zC rfl rfl ?_ rfl ?_;omega)|(refine zD rfl rfl ?_ rfl ?_;omega)|(refine zP rfl ?_ rfl ?_;omega)|refine zG rfl rfl rfl rfl ?_|(refine jdq rfl rfl ?_ ?_ ?_;kernel_rfl;kernel_rfl)|refine zB rfl rfl rfl (by repeat constructor) rfl ?_|refine zH .here rfl rfl rfl rfl ?_|refine zH (.there .here) rfl rfl rfl rfl ?_|refine zH (.there (.there .here)) rfl rfl rfl rfl ?_)
  refine oC (Hc := []) (Hr := blk b6 31 x3.cells :: blk b5 28 x2.cells :: blk b4 25 x1.cells :: Y) (ParseVote_spec _ x.bytes F9 (h1.mono (hF7.trans (hF8.trans hF9))) (by omega)) Try.call19 rfl rfl (fun _ s => s) ?_
  rintro _ F10 _ hF10 ⟨rfl, rfl⟩
  rw [hp1]
  dsimp only
  repeat (first|refine zJ rfl rfl ?_|refine jr rfl ?_|refine jn ?_|refine zM rfl rfl ?_|(refine zC rfl rfl ?_ rfl ?_;omega)|(refine zD rfl rfl ?_ rfl ?_;omega)|(refine zP rfl ?_ rfl ?_;omega)|refine zG rfl rfl rfl rfl ?_|(refine jdq rfl rfl ?_ ?_ ?_;kernel_rfl;kernel_rfl)|refine zB rfl rfl rfl (by repeat constructor) rfl ?_|refine zH .here rfl rfl rfl rfl ?_|refine zH (.there .here) rfl rfl rfl rfl ?_|refine zH (.there (.there .here)) rfl rfl rfl rfl ?_)
  refine oE (ev_alloc (cs := zVt) rfl) rfl ?_
  rintro _ _ _ _ ⟨rfl, b7, rfl, rfl⟩
  refine oN (ev_store (b := b7) rfl rfl .agg rfl (Vt.len hd1) (lay_all (zs := zVt) (Vt.len hd1)) x1.ones .here) rfl ?_
  rintro _ _ _ _ ⟨rfl, _, rfl⟩
  repeat (first|refine zJ rfl rfl ?_|refine jr rfl ?_|refine jn ?_|refine zM rfl rfl ?_|(refine zC rfl rfl ?_ rfl ?_;omega)|(refine zD rfl rfl ?_ rfl ?_;omega)|(refine zP rfl ?_ rfl ?_;omega)|refine zG rfl rfl rfl rfl ?_|(refine jdq rfl rfl ?_ ?_ ?_;kernel_rfl;kernel_rfl)|refine zB rfl rfl rfl (by repeat constructor) rfl ?_|refine zH .here rfl rfl rfl rfl ?_|refine zH (.there .here) rfl rfl rfl rfl ?_|refine zH (.there (.there .here)) rfl rfl rfl rfl ?_)
  refine oC (Hc := []) (Hr := blk b7 25 x1.cells :: blk b6 31 x3.cells :: blk b5 28 x2.cells :: blk b4 25 x1.cells :: Y) (ParseVouching_spec _ y.bytes n F10 (h2.mono (hF7.trans (hF8.trans (hF9.trans hF10)))) (by omega)) Try.call20 rfl rfl (fun _ s => s) ?_
  rintro _ F11 _ hF11 ⟨rfl, rfl⟩
  rw [hp2]
  dsimp only
  repeat (first|refine zJ rfl rfl ?_|refine jr rfl ?_|refine jn ?_|refine zM rfl rfl ?_|(refine zC rfl rfl ?_ rfl ?_;omega)|(refine zD rfl rfl ?_ rfl ?_;omega)|(refine zP rfl ?_ rfl ?_;omega)|refine zG rfl rfl rfl rfl ?_|(refine jdq rfl rfl ?_ ?_ ?_;kernel_rfl;kernel_rfl)|refine zB rfl rfl rfl (by repeat constructor) rfl ?_|refine zH .here rfl rfl rfl rfl ?_|refine zH (.there .here) rfl rfl rfl rfl ?_|refine zH (.there (.there .here)) rfl rfl rfl rfl ?_)
  refine oE (ev_alloc (cs := zVo) rfl) rfl ?_
  rintro _ _ _ _ ⟨rfl, b8, rfl, rfl⟩
  refine oN (ev_store (b := b8) rfl rfl .agg rfl (Vo.len hd2) (lay_all (zs := zVo) (Vo.len hd2)) x2.ones .here) rfl ?_
  rintro _ _ _ _ ⟨rfl, _, rfl⟩
  repeat (first|refine zJ rfl rfl ?_|refine jr rfl ?_|refine jn ?_|refine zM rfl rfl ?_|(refine zC rfl rfl ?_ rfl ?_;omega)|(refine zD rfl rfl ?_ rfl ?_;omega)|(refine zP rfl ?_ rfl ?_;omega)|refine zG rfl rfl rfl rfl ?_|(refine jdq rfl rfl ?_ ?_ ?_;kernel_rfl;kernel_rfl)|refine zB rfl rfl rfl (by repeat constructor) rfl ?_|refine zH .here rfl rfl rfl rfl ?_|refine zH (.there .here) rfl rfl rfl rfl ?_|refine zH (.there (.there .here)) rfl rfl rfl rfl ?_)
  refine oC (Hc := []) (Hr := blk b8 28 x2.cells :: blk b7 25 x1.cells :: blk b6 31 x3.cells :: blk b5 28 x2.cells :: blk b4 25 x1.cells :: Y) (ParseReply_spec _ z.bytes n F11 (h3.mono (hF7.trans (hF8.trans (hF9.trans (hF10.trans hF11))))) (by omega)) Try.call21 rfl rfl (fun _ s => s) ?_
  rintro _ F12 _ hF12 ⟨rfl, rfl⟩
  rw [hp3]
  dsimp only
  repeat (first|refine zJ rfl rfl ?_|refine jr rfl ?_|refine jn ?_|refine zM rfl rfl ?_|(refine zC rfl rfl ?_ rfl ?_;omega)|(refine zD rfl rfl ?_ rfl ?_;omega)|(refine zP rfl ?_ rfl ?_;omega)|refine zG rfl rfl rfl rfl ?_|(refine jdq rfl rfl ?_ ?_ ?_;kernel_rfl;kernel_rfl)|refine zB rfl rfl rfl (by repeat constructor) rfl ?_|refine zH .here rfl rfl rfl rfl ?_|refine zH (.there .here) rfl rfl rfl rfl ?_|refine zH (.there (.there .here)) rfl rfl rfl rfl ?_)
  refine oE (ev_alloc (cs := zRp) rfl) rfl ?_
  rintro _ _ _ _ ⟨rfl, b9, rfl, rfl⟩
  refine oN (ev_store (b := b9) rfl rfl .agg rfl (Rp.len x3) (lay_all (zs := zRp) (Rp.len x3)) x3.ones .here) rfl ?_
  rintro _ _ _ _ ⟨rfl, _, rfl⟩
  have hFF := hF0.trans (hF3.trans (hF6.trans (hF7.trans (hF8.trans (hF9.trans (hF10.trans (hF11.trans hF12)))))))
  repeat (first|refine zJ rfl rfl ?_|refine jr rfl ?_|refine jn ?_|refine zM rfl rfl ?_|(refine zC rfl rfl ?_ rfl ?_;omega)|(refine zD rfl rfl ?_ rfl ?_;omega)|(refine zP rfl ?_ rfl ?_;omega)|refine zG rfl rfl rfl rfl ?_|(refine jdq rfl rfl ?_ ?_ ?_;kernel_rfl;kernel_rfl)|refine zB rfl rfl rfl (by repeat constructor) rfl ?_|refine zH .here rfl rfl rfl rfl ?_|refine zH (.there .here) rfl rfl rfl rfl ?_|refine zH (.there (.there .here)) rfl rfl rfl rfl ?_)
  refine oS (ev_load_agg (cs := x1.cells) rfl rfl (Rdb.ofB (n := 0) (.there (.there (.there (.there (.there .here))))) (full_at _)) (Vt.len hd1)) rfl ?_
  refine oS (ev_load_agg (cs := x1.cells) rfl rfl (Rdb.ofB (n := 0) (.there (.there .here)) (full_at _)) (Vt.len hd1)) rfl ?_
  refine oS (ev_vt_neq (x := x1) hd1 rfl rfl) rfl ?_
  repeat (first|refine zJ rfl rfl ?_|refine jr rfl ?_|refine jn ?_|refine zM rfl rfl ?_|(refine zC rfl rfl ?_ rfl ?_;omega)|(refine zD rfl rfl ?_ rfl ?_;omega)|(refine zP rfl ?_ rfl ?_;omega)|refine zG rfl rfl rfl rfl ?_|(refine jdq rfl rfl ?_ ?_ ?_;kernel_rfl;kernel_rfl)|refine zB rfl rfl rfl (by repeat constructor) rfl ?_)
  refine oS (ev_load_agg (cs := x2.cells) rfl rfl (Rdb.ofB (n := 0) (.there (.there (.there (.there .here)))) (full_at _)) (Vo.len hd2)) rfl ?_
  refine oS (ev_load_agg (cs := x2.cells) rfl rfl (Rdb.ofB (n := 0) (.there .here) (full_at _)) (Vo.len hd2)) rfl ?_
  refine oS (ev_vo_neq (x := x2) hd2 rfl rfl) rfl ?_
  repeat (first|refine zJ rfl rfl ?_|refine jr rfl ?_|refine jn ?_|refine zM rfl rfl ?_|(refine zC rfl rfl ?_ rfl ?_;omega)|(refine zD rfl rfl ?_ rfl ?_;omega)|(refine zP rfl ?_ rfl ?_;omega)|refine zG rfl rfl rfl rfl ?_|(refine jdq rfl rfl ?_ ?_ ?_;kernel_rfl;kernel_rfl)|refine zB rfl rfl rfl (by repeat constructor) rfl ?_)
  refine oS (ev_load_agg (cs := x3.cells) rfl rfl (Rdb.ofB (n := 0) (.there (.there (.there .here))) (full_at _)) (Rp.len x3)) rfl ?_
  refine oS (ev_load_agg (cs := x3.cells) rfl rfl (Rdb.ofB (n := 0) .here (full_at _)) (Rp.len x3)) rfl ?_
  refine oS (ev_rp_neq (x := x3) rfl rfl) rfl ?_
  by_cases he : e1 = 0
  · have hxx : x1 = x := by
      by_cases ho : x.ok = false
      · rw [if_pos ho] at hvb; cases hvb; cases he
      · rw [if_neg ho] at hvb; cases hvb; rfl
    subst hxx
    repeat (first|refine zJ rfl rfl ?_|refine jr rfl ?_|refine jn ?_|refine zM rfl rfl ?_|(refine zC rfl rfl ?_ rfl ?_;omega)|(refine zD rfl rfl ?_ rfl ?_;omega)|(refine zP rfl ?_ rfl ?_;omega)|refine zG rfl rfl rfl rfl ?_|(refine jdq rfl rfl ?_ ?_ ?_;kernel_rfl;kernel_rfl)|refine zB rfl rfl rfl (by repeat constructor) rfl ?_)
    refine oS (ev_load_agg (cs := x1.cells) rfl rfl (Rdb.ofB (n := 0) (.there (.there (.there (.there (.there .here))))) (full_at _)) (Vt.len hd1)) rfl ?_
    refine oS (ev_load_agg (cs := x1.cells) rfl rfl (Rdb.ofB (n := 0) (.there (.there (.there (.there (.there (.there p1)))))) (full_at _)) (Vt.len hd1)) rfl ?_
    refine oS (ev_vt_eql (x := x1) hd1 rfl rfl) rfl ?_
    repeat (first|refine zJ rfl rfl ?_|refine jr rfl ?_|refine jn ?_|refine zM rfl rfl ?_|(refine zC rfl rfl ?_ rfl ?_;omega)|(refine zD rfl rfl ?_ rfl ?_;omega)|(refine zP rfl ?_ rfl ?_;omega)|refine zG rfl rfl rfl rfl ?_|(refine jdq rfl rfl ?_ ?_ ?_;kernel_rfl;kernel_rfl)|refine zB rfl rfl rfl (by repeat constructor) rfl ?_)
    exact J_retv rfl (.tmp rfl .nil) [] (fun w s => hdrop _ _ s.drop.drop.drop.drop.drop.drop) hFF ⟨rfl, rfl⟩
  · repeat (first|refine zJ rfl rfl ?_|refine jr rfl ?_|refine jn ?_|refine zM rfl rfl ?_|(refine zC rfl rfl ?_ rfl ?_;omega)|(refine zD rfl rfl ?_ rfl ?_;omega)|(refine zP rfl ?_ rfl ?_;omega)|refine zG rfl rfl rfl rfl ?_|(refine jdq rfl rfl ?_ ?_ ?_;kernel_rfl;kernel_rfl)|refine zB rfl rfl rfl (by repeat constructor) rfl ?_)
    exact J_retv rfl (.tmp rfl .nil) [] (fun w s => hdrop _ _ s.drop.drop.drop.drop.drop.drop) hFF ⟨rfl, rfl⟩
open Go.ChangeShapes Go.WideShapes Go.ChangeAt
set_option maxRecDepth 100000 in theorem VotesBack_lifted (os : Os) (started : os.Started) (H : Type) (enc : TypeId × Value → H) : ReturnsInHanded {} Try.checked os 3 .any (Rows.votesBackSpec.pre6 enc Try.prog Try.f3 Rows.votesBackRow.domain false) (Rows.votesBackSpec.post enc Try.prog Try.f3 false true false false) := by
  refine returnsInHanded_of_change (C := Try.checked) own_knob started (by kernel_rfl) Try.func3 (ChangeSpec.witness6 (enc := enc) (C := Try.checked) false ⟨#[], #[.agg ((.int .i64 0 :: .int .i64 0 :: List.replicate 32 (.int .u8 0)).toArray), .agg ((.int .i64 0 :: .int .i64 0 :: (List.replicate 32 (.int .u8 0) ++ [.int .u32 0])).toArray), .agg #[.int .i64 0, .int .i64 0, .int .i64 0, .int .i64 0], .int .i64 0], []⟩ 8 (by kernel_rfl) (by kernel_rfl) (by kernel_rfl) (by kernel_rfl)) ?_; intro W base args ds gs before hval0 hW hcnd _; have hval : ∀ (j : Nat) t v, Try.f3.params[j]? = some t → args[j]? = some v → Value.okWide Try.prog W .any base t v := hval0; have hW' := hW; obtain ⟨p, q, hA0, hV, hp, hfz, hnd⟩ := hW; have hA : DataW.TrodAll enc Try.prog W 0 (fun _ => true) true Try.f3.params.toList args.toList ds p := hA0; obtain ⟨rfl, rfl⟩ := trodVars_none hV; rw [List.append_nil] at hp; have hA' := hA; rw [Try.params3] at hA hval
  obtain ⟨v0, vs0, d0, ds0, p0, q0, hargs, rfl, rfl, h0, r0⟩ := trodAll_cons hA; obtain ⟨v1, vs1, d1, ds1, p1, q1, rfl, rfl, rfl, h1, r1⟩ := trodAll_cons r0; obtain ⟨v2, vs2, d2, ds2, p2, q2, rfl, rfl, rfl, h2, r2⟩ := trodAll_cons r1; obtain ⟨v3, vs3, d3, ds3, p3, q3, rfl, rfl, rfl, h3, r3⟩ := trodAll_cons r2; obtain ⟨rfl, rfl, rfl⟩ := trodAll_nil r3; obtain rfl : args = #[v0, v1, v2, v3] := by cases args; simp_all
  obtain ⟨x0, cs0, rfl, q0⟩ := open_struct tyVt Try.underlying25 (hval 0 25 v0 rfl rfl) h0
  obtain ⟨x1, cs1, rfl, q1⟩ := open_struct tyVo Try.underlying28 (hval 1 28 v1 rfl rfl) h1
  obtain ⟨x2, cs2, rfl, q2⟩ := open_struct tyRp Try.underlying31 (hval 2 31 v2 rfl rfl) h2
  obtain ⟨n, rfl, rfl, rfl, w1⟩ := open_int Try.underlying3 (hval 3 3 v3 rfl rfl) h3
  obtain ⟨y0, rfl, k1, k2, hd0⟩ := vt_of q0
  obtain ⟨y1, rfl, hm1, hd1⟩ := vo_of q1
  obtain ⟨y2, rfl⟩ := rp_of q2
  refine (law_walk (VotesBack_walk y0 y1 y2 n (ph W) hd0 hd1 hm1 k1 k2)).mono fun e W' ⟨he, hb⟩ => ?_
  subst he
  exact ⟨_, rfl, law_post laid_out (by kernel_rfl) rfl rfl Try.underlying4 hW' hA' hp rfl hb⟩
theorem VotesBack_holds : Rows.VotesBackSaid := OpenClaim.holds_of_wide 3 Try.f3 rfl rfl rfl rfl rfl rfl rfl ⟨rfl, rfl, rfl, rfl, rfl⟩ rfl rfl rfl rfl rfl (by kernel_rfl) Try.func3 (by kernel_rfl) (of_decide_eq_true (by kernel_rfl)) (by unfold Func.isWrapper; first | (rw [if_pos (by decide +kernel)]; kernel_rfl) | (rw [if_neg (by decide +kernel)]; exact ⟨rfl, rfl⟩)) (fun os started H enc _ => VotesBack_lifted os started H enc)
#print axioms VotesBack_holds
end Go.Proofs.Ytaggonhgafggkaa
