/-
  A core's bytes, the program's and the document's. Conditions are typed with each.
-/
import Derived.Test.YtohlmhoacjodjaaRb
import Derived.Test.YtohlmhoacjodjaaLc
namespace Go.Proofs.Ytohlmhoacjodjaa
open Go.RowKit
set_option maxRecDepth 100000
theorem pl1 (v : Nat) : (putB v 1).length = 1 := putB_len (m := 1) rfl
theorem pl2 (v : Nat) : (putB v 2).length = 2 := putB_len (m := 2) rfl
theorem pl4 (v : Nat) : (putB v 4).length = 4 := putB_len (m := 4) rfl
theorem pl8 (v : Nat) : (putB v 8).length = 8 := putB_len (m := 8) rfl
theorem rowB_len (r : List UInt8) : (rowB r).length = 4 + r.length := by unfold rowB; rw [List.length_append, pl4]
def Cr.pre3 (c : Cr) : List UInt8 := putB (uN c.client) 1 ++ putB (uN c.stamp) 8 ++ putB (uN c.op) 1
def Cr.pre (c : Cr) : List UInt8 := c.pre3 ++ rowB c.letter
def Cr.mid (c : Cr) : Nat → List UInt8
  | 0 => c.pre
  | 1 => c.pre ++ putB (uN c.a) 8
  | _ => c.pre ++ putB (uN c.a) 8 ++ putB (uN c.b) 8
def Cr.bytes (c : Cr) : List UInt8 := c.mid 2 ++ rowB c.text
theorem Cr.pre_len (c : Cr) : c.pre.length = 14 + c.letter.length := by unfold Cr.pre Cr.pre3; exact (by simp only [List.length_append, pl1, pl2, pl4, pl8, rowB_len, List.length_nil]; omega)
theorem Cr.mid_len (c : Cr) (i : Nat) : (c.mid i).length ≤ 30 + c.letter.length := by
  have := c.pre_len
  match i with
  | 0 => show c.pre.length ≤ _; omega
  | 1 => show (c.pre ++ putB (uN c.a) 8).length ≤ _; simp only [List.length_append, pl8]; omega
  | n + 2 => show (c.pre ++ putB (uN c.a) 8 ++ putB (uN c.b) 8).length ≤ _; simp only [List.length_append, pl8]; omega
theorem Cr.bytes_len (c : Cr) : c.bytes.length = 34 + c.letter.length + c.text.length := by
  have := c.pre_len
  unfold Cr.bytes Cr.mid
  simp only [List.length_append, pl8, rowB_len]
  omega
set_option maxHeartbeats 16000000 in
theorem CoreBytes_spec (c : Cr) (F : PH) (hl : c.letter.length ≤ 1048576) (ht : c.text.length ≤ 1048576) : Spec Try.prog 43 [.agg c.cells.toArray] F [] fun u F' H' => H' = [] ∧ Byt F' u c.bytes := by
  have hp := c.pre_len
  have hm := c.mid_len 2
  refine Spec.of1 Try.func43 rfl rfl fun X w0 => ?_
  refine jc rfl rfl ?_
  refine jr rfl ?_
  refine oE (ev_box rfl .agg) rfl ?_; rintro _ _ _ _ ⟨rfl, b, rfl, rfl⟩
  repeat (first|refine zJ rfl rfl ?_|refine jr rfl ?_|refine jn ?_|refine zM rfl rfl ?_|(refine zC rfl rfl ?_ rfl ?_;omega)|(refine zD rfl rfl ?_ rfl ?_;omega)|(refine zP rfl ?_ rfl ?_;omega)|refine zG rfl rfl rfl rfl ?_|(refine jdq rfl rfl ?_ ?_ ?_;kernel_rfl;kernel_rfl)|refine zB rfl rfl rfl (by repeat constructor) rfl ?_|refine zH .here rfl rfl rfl rfl ?_|refine zH (.there .here) rfl rfl rfl rfl ?_|refine zH (.there (.there .here)) rfl rfl rfl rfl ?_)
  refine ja F (blk b 53 c.cells :: X) ?_ ?_ ?_; kernel_rfl
  · exact fun w s => s
  refine aT 0 rfl (ev_fieldAddr rfl rfl) rfl rfl ?_ ?_ ?_ ?_; kernel_rfl; kernel_rfl; kernel_rfl
  refine aT 1 rfl (ev_load rfl rfl (Rdb.ofB (n := 0) .here rfl)) rfl rfl ?_ ?_ ?_ ?_; kernel_rfl; kernel_rfl; kernel_rfl
  refine aT 2 rfl (ev_conv rfl rfl rfl (uN_wrap _)) rfl rfl ?_ ?_ ?_ ?_; kernel_rfl; kernel_rfl; kernel_rfl
  refine aT 4 rfl (ev_fieldAddr rfl rfl) rfl rfl ?_ ?_ ?_ ?_; kernel_rfl; kernel_rfl; kernel_rfl
  refine aT 5 rfl (ev_load rfl rfl (Rdb.ofB (n := 0) .here rfl)) rfl rfl ?_ ?_ ?_ ?_; kernel_rfl; kernel_rfl; kernel_rfl
  refine aT 6 rfl (ev_conv rfl rfl rfl (uN_wrap _)) rfl rfl ?_ ?_ ?_ ?_; kernel_rfl; kernel_rfl; kernel_rfl
  refine aT 8 rfl (ev_fieldAddr rfl rfl) rfl rfl ?_ ?_ ?_ ?_; kernel_rfl; kernel_rfl; kernel_rfl
  refine aT 9 rfl (ev_load rfl rfl (Rdb.ofB (n := 0) .here rfl)) rfl rfl ?_ ?_ ?_ ?_; kernel_rfl; kernel_rfl; kernel_rfl
  refine aT 10 rfl (ev_conv rfl rfl rfl (uN_wrap _)) rfl rfl ?_ ?_ ?_ ?_; kernel_rfl; kernel_rfl; kernel_rfl
  refine aB (i := 3) (by kernel_rfl) ?_
  refine aC (Hc := []) (Hr := blk b 53 c.cells :: X) rfl (Put_p _ _ _ [] F (Byt.nil F) (uN_lt _) (by simp)) Try.call35 rfl rfl rfl (fun _ s => s) (fun _ _ _ hF hq w s => by obtain ⟨e, _⟩ := hq; subst e; exact s.mono hF) ?_; rintro u1 F1 _ hF1 ⟨rfl, h1⟩; refine aFH hF1 ?_
  refine aB (i := 7) (by kernel_rfl) ?_
  refine aC (Hc := []) (Hr := blk b 53 c.cells :: X) rfl (Put_p _ _ _ _ F1 h1 (uN_lt _) (by simp only [List.length_append, pl1, pl2, pl4, pl8, rowB_len, List.length_nil]; omega)) Try.call35 rfl rfl rfl (fun _ s => s) (fun _ _ _ hF hq w s => by obtain ⟨e, _⟩ := hq; subst e; exact s.mono hF) ?_; rintro u2 F2 _ hF2 ⟨rfl, h2⟩; refine aFH hF2 ?_
  refine aB (i := 11) (by kernel_rfl) ?_
  refine aC (Hc := []) (Hr := blk b 53 c.cells :: X) rfl (Put_p _ _ _ _ F2 h2 (uN_lt _) (by simp only [List.length_append, pl1, pl2, pl4, pl8, rowB_len, List.length_nil]; omega)) Try.call35 rfl rfl rfl (fun _ s => s) (fun _ _ _ hF hq w s => by obtain ⟨e, _⟩ := hq; subst e; exact s.mono hF) ?_; rintro u3 F3 _ hF3 ⟨rfl, h3⟩; refine aFH hF3 ?_
  refine aT 12 rfl (ev_pv rfl) rfl rfl ?_ ?_ ?_ ?_; kernel_rfl; kernel_rfl; kernel_rfl
  refine aD (by kernel_rfl) ?_
  repeat (first|refine zJ rfl rfl ?_|refine jr rfl ?_|refine jn ?_|refine zM rfl rfl ?_|(refine zC rfl rfl ?_ rfl ?_;omega)|(refine zD rfl rfl ?_ rfl ?_;omega)|(refine zP rfl ?_ rfl ?_;omega)|refine zG rfl rfl rfl rfl ?_|(refine jdq rfl rfl ?_ ?_ ?_;kernel_rfl;kernel_rfl)|refine zB rfl rfl rfl (by repeat constructor) rfl ?_|refine zH .here rfl rfl rfl rfl ?_|refine zH (.there .here) rfl rfl rfl rfl ?_|refine zH (.there (.there .here)) rfl rfl rfl rfl ?_)
  refine oE (eb_bytes rfl) rfl ?_; rintro u4 F4 _ hF4 ⟨h4, rfl⟩
  repeat (first|refine zJ rfl rfl ?_|refine jr rfl ?_|refine jn ?_|refine zM rfl rfl ?_|(refine zC rfl rfl ?_ rfl ?_;omega)|(refine zD rfl rfl ?_ rfl ?_;omega)|(refine zP rfl ?_ rfl ?_;omega)|refine zG rfl rfl rfl rfl ?_|(refine jdq rfl rfl ?_ ?_ ?_;kernel_rfl;kernel_rfl)|refine zB rfl rfl rfl (by repeat constructor) rfl ?_|refine zH .here rfl rfl rfl rfl ?_|refine zH (.there .here) rfl rfl rfl rfl ?_|refine zH (.there (.there .here)) rfl rfl rfl rfl ?_)
  refine oC (Hc := []) (Hr := blk b 53 c.cells :: X) (Row_p _ _ _ _ F4 (SliceV.mono h3 hF4) h4 (by simp only [List.length_append, pl1, pl2, pl4, pl8, rowB_len, List.length_nil]; omega) (by omega)) Try.call36 rfl rfl (fun _ s => s) ?_; rintro u5 F5 _ hF5 ⟨rfl, h5⟩
  replace h5 : Byt F5 u5 c.pre := h5
  have hF15 := hF1.trans (hF2.trans (hF3.trans (hF4.trans hF5)))
  clear h1 h2 h3 h4
  repeat (first|refine zJ rfl rfl ?_|refine jr rfl ?_|refine jn ?_|refine zM rfl rfl ?_|(refine zC rfl rfl ?_ rfl ?_;omega)|(refine zD rfl rfl ?_ rfl ?_;omega)|(refine zP rfl ?_ rfl ?_;omega)|refine zG rfl rfl rfl rfl ?_|(refine jdq rfl rfl ?_ ?_ ?_;kernel_rfl;kernel_rfl)|refine zB rfl rfl rfl (by repeat constructor) rfl ?_|refine zH .here rfl rfl rfl rfl ?_|refine zH (.there .here) rfl rfl rfl rfl ?_|refine zH (.there (.there .here)) rfl rfl rfl rfl ?_)
  refine ja F5 (blk b 53 c.cells :: X) ?_ ?_ ?_; kernel_rfl
  · exact fun w s => s
  refine aT 0 rfl (ev_pv rfl) rfl rfl ?_ ?_ ?_ ?_; kernel_rfl; kernel_rfl; kernel_rfl
  refine aT 1 rfl (ev_fieldAddr rfl rfl) rfl rfl ?_ ?_ ?_ ?_; kernel_rfl; kernel_rfl; kernel_rfl
  refine aT 2 rfl (ev_load rfl rfl (Rdb.ofB (n := 0) .here rfl)) rfl rfl ?_ ?_ ?_ ?_; kernel_rfl; kernel_rfl; kernel_rfl
  refine aT 3 rfl (ev_conv rfl rfl rfl (uN_wrap _)) rfl rfl ?_ ?_ ?_ ?_; kernel_rfl; kernel_rfl; kernel_rfl
  refine aT 5 rfl (ev_fieldAddr rfl rfl) rfl rfl ?_ ?_ ?_ ?_; kernel_rfl; kernel_rfl; kernel_rfl
  refine aT 6 rfl (ev_load rfl rfl (Rdb.ofB (n := 0) .here rfl)) rfl rfl ?_ ?_ ?_ ?_; kernel_rfl; kernel_rfl; kernel_rfl
  refine aT 7 rfl (ev_conv rfl rfl rfl (uN_wrap _)) rfl rfl ?_ ?_ ?_ ?_; kernel_rfl; kernel_rfl; kernel_rfl
  refine aB (i := 4) (by kernel_rfl) ?_
  refine aC (Hc := []) (Hr := blk b 53 c.cells :: X) rfl (Put_p _ _ _ _ F5 h5 (uN_lt _) (by omega)) Try.call35 rfl rfl rfl (fun _ s => s) (fun _ _ _ hF hq w s => by obtain ⟨e, _⟩ := hq; subst e; exact s.mono hF) ?_; rintro u6 F6 _ hF6 ⟨rfl, h6⟩; refine aFH hF6 ?_
  refine aB (i := 8) (by kernel_rfl) ?_
  refine aC (Hc := []) (Hr := blk b 53 c.cells :: X) rfl (Put_p _ _ _ _ F6 h6 (uN_lt _) (by rw [List.length_append, pl8]; omega)) Try.call35 rfl rfl rfl (fun _ s => s) (fun _ _ _ hF hq w s => by obtain ⟨e, _⟩ := hq; subst e; exact s.mono hF) ?_; rintro u7 F7 _ hF7 ⟨rfl, h7⟩; refine aFH hF7 ?_
  refine aT 9 rfl (ev_pv rfl) rfl rfl ?_ ?_ ?_ ?_; kernel_rfl; kernel_rfl; kernel_rfl
  refine aD (by kernel_rfl) ?_
  replace h7 : Byt F7 u7 (c.mid 2) := h7
  repeat (first|refine zJ rfl rfl ?_|refine jr rfl ?_|refine jn ?_|refine zM rfl rfl ?_|(refine zC rfl rfl ?_ rfl ?_;omega)|(refine zD rfl rfl ?_ rfl ?_;omega)|(refine zP rfl ?_ rfl ?_;omega)|refine zG rfl rfl rfl rfl ?_|(refine jdq rfl rfl ?_ ?_ ?_;kernel_rfl;kernel_rfl)|refine zB rfl rfl rfl (by repeat constructor) rfl ?_|refine zH .here rfl rfl rfl rfl ?_|refine zH (.there .here) rfl rfl rfl rfl ?_|refine zH (.there (.there .here)) rfl rfl rfl rfl ?_)
  refine oE (eb_bytes rfl) rfl ?_; rintro u8 F8 _ hF8 ⟨h8, rfl⟩
  repeat (first|refine zJ rfl rfl ?_|refine jr rfl ?_|refine jn ?_|refine zM rfl rfl ?_|(refine zC rfl rfl ?_ rfl ?_;omega)|(refine zD rfl rfl ?_ rfl ?_;omega)|(refine zP rfl ?_ rfl ?_;omega)|refine zG rfl rfl rfl rfl ?_|(refine jdq rfl rfl ?_ ?_ ?_;kernel_rfl;kernel_rfl)|refine zB rfl rfl rfl (by repeat constructor) rfl ?_|refine zH .here rfl rfl rfl rfl ?_|refine zH (.there .here) rfl rfl rfl rfl ?_|refine zH (.there (.there .here)) rfl rfl rfl rfl ?_)
  refine oC (Hc := []) (Hr := blk b 53 c.cells :: X) (Row_p _ _ _ _ F8 (SliceV.mono h7 hF8) h8 (by omega) (by omega)) Try.call36 rfl rfl (fun _ s => s) ?_; rintro u9 F9 _ hF9 ⟨rfl, h9⟩
  repeat (first|refine zJ rfl rfl ?_|refine jr rfl ?_|refine jn ?_|refine zM rfl rfl ?_|(refine zC rfl rfl ?_ rfl ?_;omega)|(refine zD rfl rfl ?_ rfl ?_;omega)|(refine zP rfl ?_ rfl ?_;omega)|refine zG rfl rfl rfl rfl ?_|(refine jdq rfl rfl ?_ ?_ ?_;kernel_rfl;kernel_rfl)|refine zB rfl rfl rfl (by repeat constructor) rfl ?_|refine zH .here rfl rfl rfl rfl ?_|refine zH (.there .here) rfl rfl rfl rfl ?_|refine zH (.there (.there .here)) rfl rfl rfl rfl ?_)
  exact J_retv rfl (.tmp rfl .nil) [] (fun w s => s.drop) (hF15.trans (hF6.trans (hF7.trans (hF8.trans hF9)))) ⟨rfl, h9⟩
set_option maxHeartbeats 16000000 in
theorem coreBytes_spec (c : Cr) (F : PH) (hl : c.letter.length ≤ 1048576) (ht : c.text.length ≤ 1048576) : Spec Try.prog 41 [.agg c.cells.toArray] F [] fun u F' H' => H' = [] ∧ Byt F' u c.bytes := by
  have hp := c.pre_len
  have hm := c.mid_len 2
  refine Spec.of1 Try.func41 rfl rfl fun X w0 => ?_
  refine jc rfl rfl ?_
  refine jr rfl ?_
  refine oE (ev_box rfl .agg) rfl ?_; rintro _ _ _ _ ⟨rfl, b, rfl, rfl⟩
  repeat (first|refine zJ rfl rfl ?_|refine jr rfl ?_|refine jn ?_|refine zM rfl rfl ?_|(refine zC rfl rfl ?_ rfl ?_;omega)|(refine zD rfl rfl ?_ rfl ?_;omega)|(refine zP rfl ?_ rfl ?_;omega)|refine zG rfl rfl rfl rfl ?_|(refine jdq rfl rfl ?_ ?_ ?_;kernel_rfl;kernel_rfl)|refine zB rfl rfl rfl (by repeat constructor) rfl ?_|refine zH .here rfl rfl rfl rfl ?_|refine zH (.there .here) rfl rfl rfl rfl ?_|refine zH (.there (.there .here)) rfl rfl rfl rfl ?_)
  refine oS (ev_conv rfl rfl rfl (uN_wrap _)) rfl ?_
  refine oC (Hc := []) (Hr := blk b 53 c.cells :: X) (put_p _ _ _ [] F (Byt.nil F) (uN_lt _) (by simp)) Try.call32 rfl rfl (fun _ s => s) ?_; rintro u1 F1 _ hF1 ⟨rfl, h1⟩
  repeat (first|refine zJ rfl rfl ?_|refine jr rfl ?_|refine jn ?_|refine zM rfl rfl ?_|(refine zC rfl rfl ?_ rfl ?_;omega)|(refine zD rfl rfl ?_ rfl ?_;omega)|(refine zP rfl ?_ rfl ?_;omega)|refine zG rfl rfl rfl rfl ?_|(refine jdq rfl rfl ?_ ?_ ?_;kernel_rfl;kernel_rfl)|refine zB rfl rfl rfl (by repeat constructor) rfl ?_|refine zH .here rfl rfl rfl rfl ?_|refine zH (.there .here) rfl rfl rfl rfl ?_|refine zH (.there (.there .here)) rfl rfl rfl rfl ?_)
  refine oS (ev_conv rfl rfl rfl (uN_wrap _)) rfl ?_
  refine oC (Hc := []) (Hr := blk b 53 c.cells :: X) (put_p _ _ _ _ F1 h1 (uN_lt _) (by simp only [List.length_append, pl1, pl2, pl4, pl8, rowB_len, List.length_nil]; omega)) Try.call32 rfl rfl (fun _ s => s) ?_; rintro u2 F2 _ hF2 ⟨rfl, h2⟩
  repeat (first|refine zJ rfl rfl ?_|refine jr rfl ?_|refine jn ?_|refine zM rfl rfl ?_|(refine zC rfl rfl ?_ rfl ?_;omega)|(refine zD rfl rfl ?_ rfl ?_;omega)|(refine zP rfl ?_ rfl ?_;omega)|refine zG rfl rfl rfl rfl ?_|(refine jdq rfl rfl ?_ ?_ ?_;kernel_rfl;kernel_rfl)|refine zB rfl rfl rfl (by repeat constructor) rfl ?_|refine zH .here rfl rfl rfl rfl ?_|refine zH (.there .here) rfl rfl rfl rfl ?_|refine zH (.there (.there .here)) rfl rfl rfl rfl ?_)
  refine J_join [_] (fun i : Value × PH => F2.le i.2 ∧ Byt i.2 i.1 c.pre) (fun i => [(1, .pointer (some ⟨b, 0, none⟩)), (3, i.1)]) (fun i => i.2) (fun _ => blk b 53 c.cells :: X) ?_ ?_
  · refine ja F2 (blk b 53 c.cells :: X) ?_ ?_ ?_; kernel_rfl
    · exact fun w s => s
    refine aT 0 rfl (ev_pv rfl) rfl rfl ?_ ?_ ?_ ?_; kernel_rfl; kernel_rfl; kernel_rfl
    refine aT 1 rfl (ev_fieldAddr rfl rfl) rfl rfl ?_ ?_ ?_ ?_; kernel_rfl; kernel_rfl; kernel_rfl
    refine aT 2 rfl (ev_load rfl rfl (Rdb.ofB (n := 0) .here rfl)) rfl rfl ?_ ?_ ?_ ?_; kernel_rfl; kernel_rfl; kernel_rfl
    refine aT 3 rfl (ev_conv rfl rfl rfl (uN_wrap _)) rfl rfl ?_ ?_ ?_ ?_; kernel_rfl; kernel_rfl; kernel_rfl
    refine aT 5 rfl (ev_fieldAddr rfl rfl) rfl rfl ?_ ?_ ?_ ?_; kernel_rfl; kernel_rfl; kernel_rfl
    refine aT 6 rfl (ev_load rfl rfl (Rdb.ofB (n := 0) .here rfl)) rfl rfl ?_ ?_ ?_ ?_; kernel_rfl; kernel_rfl; kernel_rfl
    refine aB2 (i := 4) (i' := 7) (by kernel_rfl) ?_ ?_
    · refine aC (Hc := []) (Hr := blk b 53 c.cells :: X) rfl (put_p _ _ _ _ F2 h2 (uN_lt _) (by simp only [List.length_append, pl1, pl2, pl4, pl8, rowB_len, List.length_nil]; omega)) Try.call32 rfl rfl rfl (fun _ s => s) (fun _ _ _ hF hq w s => by obtain ⟨e, _⟩ := hq; subst e; exact s.mono hF) ?_; rintro u3 F3 _ hF3 ⟨rfl, h3⟩; refine aFH hF3 ?_
      refine aB (i := 7) (by kernel_rfl) ?_
      refine aE rfl (eb_bytes rfl) rfl rfl (fun _ _ _ hF hq w s => by obtain ⟨_, e⟩ := hq; subst e; exact s.mono hF) ?_; rintro u4 F4 _ hF4 ⟨h4, rfl⟩; refine aFH hF4 ?_
      refine aB (i := 8) (by kernel_rfl) ?_
      refine aC (Hc := []) (Hr := blk b 53 c.cells :: X) rfl (row_p _ _ _ _ F4 (SliceV.mono h3 hF4) h4 (by simp only [List.length_append, pl1, pl2, pl4, pl8, rowB_len, List.length_nil]; omega) (by omega)) Try.call33 rfl rfl rfl (fun _ s => s) (fun _ _ _ hF hq w s => by obtain ⟨e, _⟩ := hq; subst e; exact s.mono hF) ?_; rintro u5 F5 _ hF5 ⟨rfl, h5⟩; refine aFH hF5 ?_
      refine aT 9 rfl (ev_pv rfl) rfl rfl ?_ ?_ ?_ ?_; kernel_rfl; kernel_rfl; kernel_rfl
      refine aD (by kernel_rfl) ?_
      exact J_joined (u5, F5) ⟨hF3.trans (hF4.trans hF5), h5⟩ ⟨⟨rfl, rfl, trivial⟩, fun w s => s⟩
    · refine aE rfl (eb_bytes rfl) rfl rfl (fun _ _ _ hF hq w s => by obtain ⟨_, e⟩ := hq; subst e; exact s.mono hF) ?_; rintro u4 F4 _ hF4 ⟨h4, rfl⟩; refine aFH hF4 ?_
      refine aB (i := 4) (by kernel_rfl) ?_
      refine aC (Hc := []) (Hr := blk b 53 c.cells :: X) rfl (put_p _ _ _ _ F4 (SliceV.mono h2 hF4) (uN_lt _) (by simp only [List.length_append, pl1, pl2, pl4, pl8, rowB_len, List.length_nil]; omega)) Try.call32 rfl rfl rfl (fun _ s => s) (fun _ _ _ hF hq w s => by obtain ⟨e, _⟩ := hq; subst e; exact s.mono hF) ?_; rintro u3 F3 _ hF3 ⟨rfl, h3⟩; refine aFH hF3 ?_
      refine aB (i := 8) (by kernel_rfl) ?_
      refine aC (Hc := []) (Hr := blk b 53 c.cells :: X) rfl (row_p _ _ _ _ F3 h3 (SliceV.mono h4 hF3) (by simp only [List.length_append, pl1, pl2, pl4, pl8, rowB_len, List.length_nil]; omega) (by omega)) Try.call33 rfl rfl rfl (fun _ s => s) (fun _ _ _ hF hq w s => by obtain ⟨e, _⟩ := hq; subst e; exact s.mono hF) ?_; rintro u5 F5 _ hF5 ⟨rfl, h5⟩; refine aFH hF5 ?_
      refine aT 9 rfl (ev_pv rfl) rfl rfl ?_ ?_ ?_ ?_; kernel_rfl; kernel_rfl; kernel_rfl
      refine aD (by kernel_rfl) ?_
      exact J_joined (u5, F5) ⟨hF4.trans (hF3.trans hF5), h5⟩ ⟨⟨rfl, rfl, trivial⟩, fun w s => s⟩
  rintro ⟨u5, F5⟩ ⟨hF5, h5⟩
  dsimp only at hF5 h5
  repeat (first|refine zJ rfl rfl ?_|refine jr rfl ?_|refine jn ?_|refine zM rfl rfl ?_|(refine zC rfl rfl ?_ rfl ?_;omega)|(refine zD rfl rfl ?_ rfl ?_;omega)|(refine zP rfl ?_ rfl ?_;omega)|refine zG rfl rfl rfl rfl ?_|(refine jdq rfl rfl ?_ ?_ ?_;kernel_rfl;kernel_rfl)|refine zB rfl rfl rfl (by repeat constructor) rfl ?_|refine zH .here rfl rfl rfl rfl ?_|refine zH (.there .here) rfl rfl rfl rfl ?_|refine zH (.there (.there .here)) rfl rfl rfl rfl ?_)
  refine oS (ev_build_arr (t := [.int .i64 c.a, .int .i64 c.b]) rfl rfl rfl (.cons (by constructor) rfl (by repeat constructor) (.cons (by constructor) rfl (by repeat constructor) .nil))) rfl ?_
  repeat (first|refine zJ rfl rfl ?_|refine jr rfl ?_|refine jn ?_|refine zM rfl rfl ?_|(refine zC rfl rfl ?_ rfl ?_;omega)|(refine zD rfl rfl ?_ rfl ?_;omega)|(refine zP rfl ?_ rfl ?_;omega)|refine zG rfl rfl rfl rfl ?_|(refine jdq rfl rfl ?_ ?_ ?_;kernel_rfl;kernel_rfl)|refine zB rfl rfl rfl (by repeat constructor) rfl ?_|refine zH .here rfl rfl rfl rfl ?_|refine zH (.there .here) rfl rfl rfl rfl ?_|refine zH (.there (.there .here)) rfl rfl rfl rfl ?_)
  refine J_loop (ι := Nat × Value × PH) (fun i => i.1 ≤ 2 ∧ F5.le i.2.2 ∧ Byt i.2.2 i.2.1 (c.mid i.1)) (fun i => 2 - i.1) (fun i => [(1, .pointer (some ⟨b, 0, none⟩)), (28, .agg #[.int .i64 c.a, .int .i64 c.b]), (3, i.2.1), (29, .int .i64 i.1)]) (fun i => i.2.2) (fun _ => blk b 53 c.cells :: X) (0, u5, F5) ⟨by omega, PH.ler _, h5⟩ ⟨⟨rfl, rfl, rfl, rfl, trivial⟩, fun _ s => s⟩ ?_
  rintro ⟨i, u6, F6⟩ ⟨hi, hF6, h6⟩
  dsimp only at hi hF6 h6
  have hmi := c.mid_len i
  match i, hi with
  | 0, _ =>
    repeat (first|refine zJ rfl rfl ?_|refine jr rfl ?_|refine jn ?_|refine zM rfl rfl ?_|(refine zC rfl rfl ?_ rfl ?_;omega)|(refine zD rfl rfl ?_ rfl ?_;omega)|(refine zP rfl ?_ rfl ?_;omega)|refine zG rfl rfl rfl rfl ?_|(refine jdq rfl rfl ?_ ?_ ?_;kernel_rfl;kernel_rfl)|refine zB rfl rfl rfl (by repeat constructor) rfl ?_|refine zH .here rfl rfl rfl rfl ?_|refine zH (.there .here) rfl rfl rfl rfl ?_|refine zH (.there (.there .here)) rfl rfl rfl rfl ?_)
    refine oS (ev_index_agg (i := 0) (cs := [.int .i64 c.a, .int .i64 c.b]) rfl rfl rfl rfl rfl rfl) rfl ?_
    repeat (first|refine zJ rfl rfl ?_|refine jr rfl ?_|refine jn ?_|refine zM rfl rfl ?_|(refine zC rfl rfl ?_ rfl ?_;omega)|(refine zD rfl rfl ?_ rfl ?_;omega)|(refine zP rfl ?_ rfl ?_;omega)|refine zG rfl rfl rfl rfl ?_|(refine jdq rfl rfl ?_ ?_ ?_;kernel_rfl;kernel_rfl)|refine zB rfl rfl rfl (by repeat constructor) rfl ?_|refine zH .here rfl rfl rfl rfl ?_|refine zH (.there .here) rfl rfl rfl rfl ?_|refine zH (.there (.there .here)) rfl rfl rfl rfl ?_)
    refine oS (ev_conv rfl rfl rfl (uN_wrap _)) rfl ?_
    refine oC (Hc := []) (Hr := blk b 53 c.cells :: X) (put_p _ _ _ _ F6 h6 (uN_lt _) (by omega)) Try.call32 rfl rfl (fun _ s => s) ?_; rintro u7 F7 _ hF7 ⟨rfl, h7⟩
    repeat (first|refine zJ rfl rfl ?_|refine jr rfl ?_|refine jn ?_|refine zM rfl rfl ?_|(refine zC rfl rfl ?_ rfl ?_;omega)|(refine zD rfl rfl ?_ rfl ?_;omega)|(refine zP rfl ?_ rfl ?_;omega)|refine zG rfl rfl rfl rfl ?_|(refine jdq rfl rfl ?_ ?_ ?_;kernel_rfl;kernel_rfl)|refine zB rfl rfl rfl (by repeat constructor) rfl ?_|refine zH .here rfl rfl rfl rfl ?_|refine zH (.there .here) rfl rfl rfl rfl ?_|refine zH (.there (.there .here)) rfl rfl rfl rfl ?_)
    exact J_again (1, u7, F7) ⟨by omega, hF6.trans hF7, h7⟩ (by dsimp only; omega) ⟨⟨rfl, rfl, rfl, rfl, trivial⟩, fun w s => s⟩
  | 1, _ =>
    repeat (first|refine zJ rfl rfl ?_|refine jr rfl ?_|refine jn ?_|refine zM rfl rfl ?_|(refine zC rfl rfl ?_ rfl ?_;omega)|(refine zD rfl rfl ?_ rfl ?_;omega)|(refine zP rfl ?_ rfl ?_;omega)|refine zG rfl rfl rfl rfl ?_|(refine jdq rfl rfl ?_ ?_ ?_;kernel_rfl;kernel_rfl)|refine zB rfl rfl rfl (by repeat constructor) rfl ?_|refine zH .here rfl rfl rfl rfl ?_|refine zH (.there .here) rfl rfl rfl rfl ?_|refine zH (.there (.there .here)) rfl rfl rfl rfl ?_)
    refine oS (ev_index_agg (i := 1) (cs := [.int .i64 c.a, .int .i64 c.b]) rfl rfl rfl rfl rfl rfl) rfl ?_
    repeat (first|refine zJ rfl rfl ?_|refine jr rfl ?_|refine jn ?_|refine zM rfl rfl ?_|(refine zC rfl rfl ?_ rfl ?_;omega)|(refine zD rfl rfl ?_ rfl ?_;omega)|(refine zP rfl ?_ rfl ?_;omega)|refine zG rfl rfl rfl rfl ?_|(refine jdq rfl rfl ?_ ?_ ?_;kernel_rfl;kernel_rfl)|refine zB rfl rfl rfl (by repeat constructor) rfl ?_|refine zH .here rfl rfl rfl rfl ?_|refine zH (.there .here) rfl rfl rfl rfl ?_|refine zH (.there (.there .here)) rfl rfl rfl rfl ?_)
    refine oS (ev_conv rfl rfl rfl (uN_wrap _)) rfl ?_
    refine oC (Hc := []) (Hr := blk b 53 c.cells :: X) (put_p _ _ _ _ F6 h6 (uN_lt _) (by omega)) Try.call32 rfl rfl (fun _ s => s) ?_; rintro u7 F7 _ hF7 ⟨rfl, h7⟩
    repeat (first|refine zJ rfl rfl ?_|refine jr rfl ?_|refine jn ?_|refine zM rfl rfl ?_|(refine zC rfl rfl ?_ rfl ?_;omega)|(refine zD rfl rfl ?_ rfl ?_;omega)|(refine zP rfl ?_ rfl ?_;omega)|refine zG rfl rfl rfl rfl ?_|(refine jdq rfl rfl ?_ ?_ ?_;kernel_rfl;kernel_rfl)|refine zB rfl rfl rfl (by repeat constructor) rfl ?_|refine zH .here rfl rfl rfl rfl ?_|refine zH (.there .here) rfl rfl rfl rfl ?_|refine zH (.there (.there .here)) rfl rfl rfl rfl ?_)
    exact J_again (2, u7, F7) ⟨by omega, hF6.trans hF7, h7⟩ (by dsimp only; omega) ⟨⟨rfl, rfl, rfl, rfl, trivial⟩, fun w s => s⟩
  | 2, _ =>
    repeat (first|refine zJ rfl rfl ?_|refine jr rfl ?_|refine jn ?_|refine zM rfl rfl ?_|(refine zC rfl rfl ?_ rfl ?_;omega)|(refine zD rfl rfl ?_ rfl ?_;omega)|(refine zP rfl ?_ rfl ?_;omega)|refine zG rfl rfl rfl rfl ?_|(refine jdq rfl rfl ?_ ?_ ?_;kernel_rfl;kernel_rfl)|refine zB rfl rfl rfl (by repeat constructor) rfl ?_|refine zH .here rfl rfl rfl rfl ?_|refine zH (.there .here) rfl rfl rfl rfl ?_|refine zH (.there (.there .here)) rfl rfl rfl rfl ?_)
    refine oE (eb_bytes rfl) rfl ?_; rintro u8 F8 _ hF8 ⟨h8, rfl⟩
    repeat (first|refine zJ rfl rfl ?_|refine jr rfl ?_|refine jn ?_|refine zM rfl rfl ?_|(refine zC rfl rfl ?_ rfl ?_;omega)|(refine zD rfl rfl ?_ rfl ?_;omega)|(refine zP rfl ?_ rfl ?_;omega)|refine zG rfl rfl rfl rfl ?_|(refine jdq rfl rfl ?_ ?_ ?_;kernel_rfl;kernel_rfl)|refine zB rfl rfl rfl (by repeat constructor) rfl ?_|refine zH .here rfl rfl rfl rfl ?_|refine zH (.there .here) rfl rfl rfl rfl ?_|refine zH (.there (.there .here)) rfl rfl rfl rfl ?_)
    refine oC (Hc := []) (Hr := blk b 53 c.cells :: X) (row_p _ _ _ _ F8 (SliceV.mono h6 hF8) h8 (by omega) (by omega)) Try.call33 rfl rfl (fun _ s => s) ?_; rintro u9 F9 _ hF9 ⟨rfl, h9⟩
    repeat (first|refine zJ rfl rfl ?_|refine jr rfl ?_|refine jn ?_|refine zM rfl rfl ?_|(refine zC rfl rfl ?_ rfl ?_;omega)|(refine zD rfl rfl ?_ rfl ?_;omega)|(refine zP rfl ?_ rfl ?_;omega)|refine zG rfl rfl rfl rfl ?_|(refine jdq rfl rfl ?_ ?_ ?_;kernel_rfl;kernel_rfl)|refine zB rfl rfl rfl (by repeat constructor) rfl ?_|refine zH .here rfl rfl rfl rfl ?_|refine zH (.there .here) rfl rfl rfl rfl ?_|refine zH (.there (.there .here)) rfl rfl rfl rfl ?_)
    exact J_retv rfl (.tmp rfl .nil) [] (fun w s => s.drop) (hF1.trans (hF2.trans (hF5.trans (hF6.trans (hF8.trans hF9))))) ⟨rfl, h9⟩
end Go.Proofs.Ytohlmhoacjodjaa
