/-
  Deeds' bytes, the program's and the document's. Conditions are typed with each.
-/
import Derived.Test.YtohlmhoacjodjaaAh
import Derived.Test.YtohlmhoacjodjaaKv
namespace Go.Proofs.Ytohlmhoacjodjaa
open Go.RowKit
set_option maxRecDepth 100000
/-- A deed: its number, its batch, whether it was adopted. -/
structure De where
  seq : Int
  es : List Et
  ad : Bool
def De.cells (v : Value) (d : De) : List Value := [.int .i64 d.seq, v, .bool d.ad]
def deedB (d : De) : List UInt8 := putB (uN d.seq) 8 ++ [if d.ad then 1 else 0] ++ rowB (batB d.es)
set_option maxHeartbeats 8000000 in
theorem deed_spec (d : De) (v : Value) (F : PH) (h : Ents F v d.es) (hn : d.es.length ≤ 1024) : Spec Try.prog 21 [.agg (d.cells v).toArray] F [] fun u F' H' => H' = [] ∧ Byt F' u (deedB d) := by
  have hbl := batB_len h.2 hn
  obtain ⟨a, c, rfl, hc⟩ := h.form
  have hl8 := pl8 (uN d.seq)
  refine Spec.of1 Try.func21 rfl rfl fun X w0 => ?_
  unfold De.cells
  repeat (first|refine zJ rfl rfl ?_|refine jr rfl ?_|refine jn ?_|refine zM rfl rfl ?_|(refine zC rfl rfl ?_ rfl ?_;omega)|(refine zD rfl rfl ?_ rfl ?_;omega)|(refine zP rfl ?_ rfl ?_;omega)|refine zG rfl rfl rfl rfl ?_|(refine jdq rfl rfl ?_ ?_ ?_;kernel_rfl;kernel_rfl)|refine zB rfl rfl rfl (by repeat constructor) rfl ?_|refine zH .here rfl rfl rfl rfl ?_|refine zH (.there .here) rfl rfl rfl rfl ?_|refine zH (.there (.there .here)) rfl rfl rfl rfl ?_)
  refine oE (ev_box rfl .agg) rfl ?_; rintro _ _ _ _ ⟨rfl, b, rfl, rfl⟩
  repeat (first|refine zJ rfl rfl ?_|refine jr rfl ?_|refine jn ?_|refine zM rfl rfl ?_|(refine zC rfl rfl ?_ rfl ?_;omega)|(refine zD rfl rfl ?_ rfl ?_;omega)|(refine zP rfl ?_ rfl ?_;omega)|refine zG rfl rfl rfl rfl ?_|(refine jdq rfl rfl ?_ ?_ ?_;kernel_rfl;kernel_rfl)|refine zB rfl rfl rfl (by repeat constructor) rfl ?_|refine zH .here rfl rfl rfl rfl ?_|refine zH (.there .here) rfl rfl rfl rfl ?_|refine zH (.there (.there .here)) rfl rfl rfl rfl ?_)
  refine oS (ev_conv rfl rfl rfl (uN_wrap _)) rfl ?_
  refine oC (Hc := []) (Hr := blk b 51 [.int .i64 d.seq, .slice a d.es.length c, .bool d.ad] :: X) (put_spec none 0 (uN d.seq) 8 [] F (Byt.nil F) (Nat.le_refl _) (uN_lt _) (by decide)) Try.call32 rfl rfl (fun _ s => s) ?_
  rintro u _ _ _ ⟨rfl, rfl⟩
  rw [List.nil_append]
  have hcl : putB (uN d.seq) 8 ++ [if d.ad = true then 1 else 0] ++ rowB (batB d.es) = deedB d := rfl
  cases hd : d.ad with
  | true =>
    rw [hd, if_pos rfl] at hcl
    repeat (first|refine zJ rfl rfl ?_|refine jr rfl ?_|refine jn ?_|refine zM rfl rfl ?_|(refine zC rfl rfl ?_ rfl ?_;omega)|(refine zD rfl rfl ?_ rfl ?_;omega)|(refine zP rfl ?_ rfl ?_;omega)|refine zG rfl rfl rfl rfl ?_|(refine jdq rfl rfl ?_ ?_ ?_;kernel_rfl;kernel_rfl)|refine zB rfl rfl rfl (by repeat constructor) rfl ?_|refine zH .here rfl rfl rfl rfl ?_|refine zH (.there .here) rfl rfl rfl rfl ?_|refine zH (.there (.there .here)) rfl rfl rfl rfl ?_)
    refine oA (vs := [.int .u8 1]) (K := fun v' => own v' 5 1 ((putB (uN d.seq) 8).length + 1) (u8s (putB (uN d.seq) 8) ++ [.int .u8 1]) :: blk b 51 [.int .i64 d.seq, .slice a d.es.length c, .bool true] :: X) (fun _ => rfl) rfl .int rfl elB (ones_cons rfl ones_nil) (by omega) (fun _ => .here) rfl (fun _ => rfl) fun u1 _ => ?_
    repeat (first|refine zJ rfl rfl ?_|refine jr rfl ?_|refine jn ?_|refine zM rfl rfl ?_|(refine zC rfl rfl ?_ rfl ?_;omega)|(refine zD rfl rfl ?_ rfl ?_;omega)|(refine zP rfl ?_ rfl ?_;omega)|refine zG rfl rfl rfl rfl ?_|(refine jdq rfl rfl ?_ ?_ ?_;kernel_rfl;kernel_rfl)|refine zB rfl rfl rfl (by repeat constructor) rfl ?_|refine zH .here rfl rfl rfl rfl ?_|refine zH (.there .here) rfl rfl rfl rfl ?_|refine zH (.there (.there .here)) rfl rfl rfl rfl ?_)
    refine oPersist fun hh hA hdj => ?_
    have hb1 : Byt (F.un hh) u1 (putB (uN d.seq) 8 ++ [1]) := by
      have := own_slice hA hdj
      unfold Byt
      rw [u8s_append, List.length_append]
      exact this
    have hF1 := PH.le_l F hh
    generalize F.un hh = F1 at *
    repeat (first|refine zJ rfl rfl ?_|refine jr rfl ?_|refine jn ?_|refine zM rfl rfl ?_|(refine zC rfl rfl ?_ rfl ?_;omega)|(refine zD rfl rfl ?_ rfl ?_;omega)|(refine zP rfl ?_ rfl ?_;omega)|refine zG rfl rfl rfl rfl ?_|(refine jdq rfl rfl ?_ ?_ ?_;kernel_rfl;kernel_rfl)|refine zB rfl rfl rfl (by repeat constructor) rfl ?_|refine zH .here rfl rfl rfl rfl ?_|refine zH (.there .here) rfl rfl rfl rfl ?_|refine zH (.there (.there .here)) rfl rfl rfl rfl ?_)
    refine oC (Hc := []) (Hr := blk b 51 [.int .i64 d.seq, .slice a d.es.length c, .bool true] :: X) (bbytes_spec _ d.es F1 (h.mono hF1) hn) Try.call34 rfl rfl (fun _ s => s) ?_; rintro u2 F2 _ hF2 ⟨rfl, h2⟩
    repeat (first|refine zJ rfl rfl ?_|refine jr rfl ?_|refine jn ?_|refine zM rfl rfl ?_|(refine zC rfl rfl ?_ rfl ?_;omega)|(refine zD rfl rfl ?_ rfl ?_;omega)|(refine zP rfl ?_ rfl ?_;omega)|refine zG rfl rfl rfl rfl ?_|(refine jdq rfl rfl ?_ ?_ ?_;kernel_rfl;kernel_rfl)|refine zB rfl rfl rfl (by repeat constructor) rfl ?_|refine zH .here rfl rfl rfl rfl ?_|refine zH (.there .here) rfl rfl rfl rfl ?_|refine zH (.there (.there .here)) rfl rfl rfl rfl ?_)
    refine oC (Hc := []) (Hr := blk b 51 [.int .i64 d.seq, .slice a d.es.length c, .bool true] :: X) (row_p _ _ _ _ F2 (SliceV.mono hb1 hF2) h2 (by rw [List.length_append, hl8]; decide) (by omega)) Try.call33 rfl rfl (fun _ s => s) ?_; rintro u3 F3 _ hF3 ⟨rfl, h3⟩
    rw [hcl] at h3
    repeat (first|refine zJ rfl rfl ?_|refine jr rfl ?_|refine jn ?_|refine zM rfl rfl ?_|(refine zC rfl rfl ?_ rfl ?_;omega)|(refine zD rfl rfl ?_ rfl ?_;omega)|(refine zP rfl ?_ rfl ?_;omega)|refine zG rfl rfl rfl rfl ?_|(refine jdq rfl rfl ?_ ?_ ?_;kernel_rfl;kernel_rfl)|refine zB rfl rfl rfl (by repeat constructor) rfl ?_|refine zH .here rfl rfl rfl rfl ?_|refine zH (.there .here) rfl rfl rfl rfl ?_|refine zH (.there (.there .here)) rfl rfl rfl rfl ?_)
    exact J_retv rfl (.tmp rfl .nil) [] (fun w s => s.drop) (hF1.trans (hF2.trans hF3)) ⟨rfl, h3⟩
  | false =>
    rw [hd, if_neg (by decide)] at hcl
    repeat (first|refine zJ rfl rfl ?_|refine jr rfl ?_|refine jn ?_|refine zM rfl rfl ?_|(refine zC rfl rfl ?_ rfl ?_;omega)|(refine zD rfl rfl ?_ rfl ?_;omega)|(refine zP rfl ?_ rfl ?_;omega)|refine zG rfl rfl rfl rfl ?_|(refine jdq rfl rfl ?_ ?_ ?_;kernel_rfl;kernel_rfl)|refine zB rfl rfl rfl (by repeat constructor) rfl ?_|refine zH .here rfl rfl rfl rfl ?_|refine zH (.there .here) rfl rfl rfl rfl ?_|refine zH (.there (.there .here)) rfl rfl rfl rfl ?_)
    refine oA (vs := [.int .u8 0]) (K := fun v' => own v' 5 1 ((putB (uN d.seq) 8).length + 1) (u8s (putB (uN d.seq) 8) ++ [.int .u8 0]) :: blk b 51 [.int .i64 d.seq, .slice a d.es.length c, .bool false] :: X) (fun _ => rfl) rfl .int rfl elB (ones_cons rfl ones_nil) (by omega) (fun _ => .here) rfl (fun _ => rfl) fun u1 _ => ?_
    repeat (first|refine zJ rfl rfl ?_|refine jr rfl ?_|refine jn ?_|refine zM rfl rfl ?_|(refine zC rfl rfl ?_ rfl ?_;omega)|(refine zD rfl rfl ?_ rfl ?_;omega)|(refine zP rfl ?_ rfl ?_;omega)|refine zG rfl rfl rfl rfl ?_|(refine jdq rfl rfl ?_ ?_ ?_;kernel_rfl;kernel_rfl)|refine zB rfl rfl rfl (by repeat constructor) rfl ?_|refine zH .here rfl rfl rfl rfl ?_|refine zH (.there .here) rfl rfl rfl rfl ?_|refine zH (.there (.there .here)) rfl rfl rfl rfl ?_)
    refine oPersist fun hh hA hdj => ?_
    have hb1 : Byt (F.un hh) u1 (putB (uN d.seq) 8 ++ [0]) := by
      have := own_slice hA hdj
      unfold Byt
      rw [u8s_append, List.length_append]
      exact this
    have hF1 := PH.le_l F hh
    generalize F.un hh = F1 at *
    repeat (first|refine zJ rfl rfl ?_|refine jr rfl ?_|refine jn ?_|refine zM rfl rfl ?_|(refine zC rfl rfl ?_ rfl ?_;omega)|(refine zD rfl rfl ?_ rfl ?_;omega)|(refine zP rfl ?_ rfl ?_;omega)|refine zG rfl rfl rfl rfl ?_|(refine jdq rfl rfl ?_ ?_ ?_;kernel_rfl;kernel_rfl)|refine zB rfl rfl rfl (by repeat constructor) rfl ?_|refine zH .here rfl rfl rfl rfl ?_|refine zH (.there .here) rfl rfl rfl rfl ?_|refine zH (.there (.there .here)) rfl rfl rfl rfl ?_)
    refine oC (Hc := []) (Hr := blk b 51 [.int .i64 d.seq, .slice a d.es.length c, .bool false] :: X) (bbytes_spec _ d.es F1 (h.mono hF1) hn) Try.call34 rfl rfl (fun _ s => s) ?_; rintro u2 F2 _ hF2 ⟨rfl, h2⟩
    repeat (first|refine zJ rfl rfl ?_|refine jr rfl ?_|refine jn ?_|refine zM rfl rfl ?_|(refine zC rfl rfl ?_ rfl ?_;omega)|(refine zD rfl rfl ?_ rfl ?_;omega)|(refine zP rfl ?_ rfl ?_;omega)|refine zG rfl rfl rfl rfl ?_|(refine jdq rfl rfl ?_ ?_ ?_;kernel_rfl;kernel_rfl)|refine zB rfl rfl rfl (by repeat constructor) rfl ?_|refine zH .here rfl rfl rfl rfl ?_|refine zH (.there .here) rfl rfl rfl rfl ?_|refine zH (.there (.there .here)) rfl rfl rfl rfl ?_)
    refine oC (Hc := []) (Hr := blk b 51 [.int .i64 d.seq, .slice a d.es.length c, .bool false] :: X) (row_p _ _ _ _ F2 (SliceV.mono hb1 hF2) h2 (by rw [List.length_append, hl8]; decide) (by omega)) Try.call33 rfl rfl (fun _ s => s) ?_; rintro u3 F3 _ hF3 ⟨rfl, h3⟩
    rw [hcl] at h3
    repeat (first|refine zJ rfl rfl ?_|refine jr rfl ?_|refine jn ?_|refine zM rfl rfl ?_|(refine zC rfl rfl ?_ rfl ?_;omega)|(refine zD rfl rfl ?_ rfl ?_;omega)|(refine zP rfl ?_ rfl ?_;omega)|refine zG rfl rfl rfl rfl ?_|(refine jdq rfl rfl ?_ ?_ ?_;kernel_rfl;kernel_rfl)|refine zB rfl rfl rfl (by repeat constructor) rfl ?_|refine zH .here rfl rfl rfl rfl ?_|refine zH (.there .here) rfl rfl rfl rfl ?_|refine zH (.there (.there .here)) rfl rfl rfl rfl ?_)
    exact J_retv rfl (.tmp rfl .nil) [] (fun w s => s.drop) (hF1.trans (hF2.trans hF3)) ⟨rfl, h3⟩
set_option maxHeartbeats 8000000 in
theorem Deed_spec (d : De) (v : Value) (F : PH) (h : Ents F v d.es) (hn : d.es.length ≤ 1024) : Spec Try.prog 22 [.agg (d.cells v).toArray] F [] fun u F' H' => H' = [] ∧ Byt F' u (deedB d) := by
  have hbl := batB_len h.2 hn
  obtain ⟨a, c, rfl, hc⟩ := h.form
  have hl8 := pl8 (uN d.seq)
  refine Spec.of1 Try.func22 rfl rfl fun X w0 => ?_
  unfold De.cells
  repeat (first|refine zJ rfl rfl ?_|refine jr rfl ?_|refine jn ?_|refine zM rfl rfl ?_|(refine zC rfl rfl ?_ rfl ?_;omega)|(refine zD rfl rfl ?_ rfl ?_;omega)|(refine zP rfl ?_ rfl ?_;omega)|refine zG rfl rfl rfl rfl ?_|(refine jdq rfl rfl ?_ ?_ ?_;kernel_rfl;kernel_rfl)|refine zB rfl rfl rfl (by repeat constructor) rfl ?_|refine zH .here rfl rfl rfl rfl ?_|refine zH (.there .here) rfl rfl rfl rfl ?_|refine zH (.there (.there .here)) rfl rfl rfl rfl ?_)
  refine oE (ev_box rfl .agg) rfl ?_; rintro _ _ _ _ ⟨rfl, b, rfl, rfl⟩
  repeat (first|refine zJ rfl rfl ?_|refine jr rfl ?_|refine jn ?_|refine zM rfl rfl ?_|(refine zC rfl rfl ?_ rfl ?_;omega)|(refine zD rfl rfl ?_ rfl ?_;omega)|(refine zP rfl ?_ rfl ?_;omega)|refine zG rfl rfl rfl rfl ?_|(refine jdq rfl rfl ?_ ?_ ?_;kernel_rfl;kernel_rfl)|refine zB rfl rfl rfl (by repeat constructor) rfl ?_|refine zH .here rfl rfl rfl rfl ?_|refine zH (.there .here) rfl rfl rfl rfl ?_|refine zH (.there (.there .here)) rfl rfl rfl rfl ?_)
  refine oS (ev_conv rfl rfl rfl (uN_wrap _)) rfl ?_
  refine oC (Hc := []) (Hr := blk b 51 [.int .i64 d.seq, .slice a d.es.length c, .bool d.ad] :: X) (Put_p _ (uN d.seq) 8 [] F (Byt.nil F) (uN_lt _) (by decide)) Try.call35 rfl rfl (fun _ s => s) ?_; rintro u1 F1 _ hF1 ⟨rfl, h1⟩
  rw [List.nil_append] at h1
  have hcl : putB (uN d.seq) 8 ++ putB (if d.ad = true then 1 else 0) 1 ++ rowB (batB d.es) = deedB d := by unfold deedB; cases d.ad <;> rfl
  cases hd : d.ad with
  | true =>
    rw [hd, if_pos rfl] at hcl
    repeat (first|refine zJ rfl rfl ?_|refine jr rfl ?_|refine jn ?_|refine zM rfl rfl ?_|(refine zC rfl rfl ?_ rfl ?_;omega)|(refine zD rfl rfl ?_ rfl ?_;omega)|(refine zP rfl ?_ rfl ?_;omega)|refine zG rfl rfl rfl rfl ?_|(refine jdq rfl rfl ?_ ?_ ?_;kernel_rfl;kernel_rfl)|refine zB rfl rfl rfl (by repeat constructor) rfl ?_|refine zH .here rfl rfl rfl rfl ?_|refine zH (.there .here) rfl rfl rfl rfl ?_|refine zH (.there (.there .here)) rfl rfl rfl rfl ?_)
    refine ja F1 (blk b 51 [.int .i64 d.seq, .slice a d.es.length c, .bool true] :: X) ?_ ?_ ?_; kernel_rfl
    · exact fun w s => s
    refine aT 0 rfl (ev_pv rfl) rfl rfl ?_ ?_ ?_ ?_; kernel_rfl; kernel_rfl; kernel_rfl
    refine aT 1 rfl (ev_pv rfl) rfl rfl ?_ ?_ ?_ ?_; kernel_rfl; kernel_rfl; kernel_rfl
    refine aT 3 rfl (ev_fieldAddr rfl rfl) rfl rfl ?_ ?_ ?_ ?_; kernel_rfl; kernel_rfl; kernel_rfl
    refine aT 4 rfl (ev_load (v := .slice a d.es.length c) rfl rfl (Rdb.ofB (n := 0) .here rfl)) rfl rfl ?_ ?_ ?_ ?_; kernel_rfl; kernel_rfl; kernel_rfl
    refine aB (i := 2) (by kernel_rfl) ?_
    refine aC (Hc := []) (Hr := blk b 51 [.int .i64 d.seq, .slice a d.es.length c, .bool true] :: X) rfl (Put_p _ 1 1 _ F1 h1 (by decide) (by rw [hl8]; decide)) Try.call35 rfl rfl rfl (fun _ s => s) (fun _ _ _ hF hq w s => by obtain ⟨e, _⟩ := hq; subst e; exact s.mono hF) ?_; rintro u2 F2 _ hF2 ⟨rfl, h2⟩; refine aFH hF2 ?_
    refine aB (i := 5) (by kernel_rfl) ?_
    refine aC (Hc := []) (Hr := blk b 51 [.int .i64 d.seq, .slice a d.es.length c, .bool true] :: X) rfl (BBytes_spec _ d.es F2 (h.mono (hF1.trans hF2)) hn) Try.call37 rfl rfl rfl (fun _ s => s) (fun _ _ _ hF hq w s => by obtain ⟨e, _⟩ := hq; subst e; exact s.mono hF) ?_; rintro u3 F3 _ hF3 ⟨rfl, h3⟩; refine aFH hF3 ?_
    refine aB (i := 6) (by kernel_rfl) ?_
    refine aC (Hc := []) (Hr := blk b 51 [.int .i64 d.seq, .slice a d.es.length c, .bool true] :: X) rfl (Row_p _ _ _ _ F3 (SliceV.mono h2 hF3) h3 (by rw [List.length_append, hl8, pl1]; decide) (by omega)) Try.call36 rfl rfl rfl (fun _ s => s) (fun _ _ _ hF hq w s => by obtain ⟨e, _⟩ := hq; subst e; exact s.mono hF) ?_; rintro u4 F4 _ hF4 ⟨rfl, h4⟩; refine aFH hF4 ?_
    refine aT 7 rfl (ev_pv rfl) rfl rfl ?_ ?_ ?_ ?_; kernel_rfl; kernel_rfl; kernel_rfl
    refine aD (by kernel_rfl) ?_
    rw [hcl] at h4
    repeat (first|refine zJ rfl rfl ?_|refine jr rfl ?_|refine jn ?_|refine zM rfl rfl ?_|(refine zC rfl rfl ?_ rfl ?_;omega)|(refine zD rfl rfl ?_ rfl ?_;omega)|(refine zP rfl ?_ rfl ?_;omega)|refine zG rfl rfl rfl rfl ?_|(refine jdq rfl rfl ?_ ?_ ?_;kernel_rfl;kernel_rfl)|refine zB rfl rfl rfl (by repeat constructor) rfl ?_|refine zH .here rfl rfl rfl rfl ?_|refine zH (.there .here) rfl rfl rfl rfl ?_|refine zH (.there (.there .here)) rfl rfl rfl rfl ?_)
    exact J_retv rfl (.tmp rfl .nil) [] (fun w s => s.drop) (hF1.trans (hF2.trans (hF3.trans hF4))) ⟨rfl, h4⟩
  | false =>
    rw [hd, if_neg (by decide)] at hcl
    repeat (first|refine zJ rfl rfl ?_|refine jr rfl ?_|refine jn ?_|refine zM rfl rfl ?_|(refine zC rfl rfl ?_ rfl ?_;omega)|(refine zD rfl rfl ?_ rfl ?_;omega)|(refine zP rfl ?_ rfl ?_;omega)|refine zG rfl rfl rfl rfl ?_|(refine jdq rfl rfl ?_ ?_ ?_;kernel_rfl;kernel_rfl)|refine zB rfl rfl rfl (by repeat constructor) rfl ?_|refine zH .here rfl rfl rfl rfl ?_|refine zH (.there .here) rfl rfl rfl rfl ?_|refine zH (.there (.there .here)) rfl rfl rfl rfl ?_)
    refine ja F1 (blk b 51 [.int .i64 d.seq, .slice a d.es.length c, .bool false] :: X) ?_ ?_ ?_; kernel_rfl
    · exact fun w s => s
    refine aT 0 rfl (ev_pv rfl) rfl rfl ?_ ?_ ?_ ?_; kernel_rfl; kernel_rfl; kernel_rfl
    refine aT 1 rfl (ev_pv rfl) rfl rfl ?_ ?_ ?_ ?_; kernel_rfl; kernel_rfl; kernel_rfl
    refine aT 3 rfl (ev_fieldAddr rfl rfl) rfl rfl ?_ ?_ ?_ ?_; kernel_rfl; kernel_rfl; kernel_rfl
    refine aT 4 rfl (ev_load (v := .slice a d.es.length c) rfl rfl (Rdb.ofB (n := 0) .here rfl)) rfl rfl ?_ ?_ ?_ ?_; kernel_rfl; kernel_rfl; kernel_rfl
    refine aB (i := 2) (by kernel_rfl) ?_
    refine aC (Hc := []) (Hr := blk b 51 [.int .i64 d.seq, .slice a d.es.length c, .bool false] :: X) rfl (Put_p _ 0 1 _ F1 h1 (by decide) (by rw [hl8]; decide)) Try.call35 rfl rfl rfl (fun _ s => s) (fun _ _ _ hF hq w s => by obtain ⟨e, _⟩ := hq; subst e; exact s.mono hF) ?_; rintro u2 F2 _ hF2 ⟨rfl, h2⟩; refine aFH hF2 ?_
    refine aB (i := 5) (by kernel_rfl) ?_
    refine aC (Hc := []) (Hr := blk b 51 [.int .i64 d.seq, .slice a d.es.length c, .bool false] :: X) rfl (BBytes_spec _ d.es F2 (h.mono (hF1.trans hF2)) hn) Try.call37 rfl rfl rfl (fun _ s => s) (fun _ _ _ hF hq w s => by obtain ⟨e, _⟩ := hq; subst e; exact s.mono hF) ?_; rintro u3 F3 _ hF3 ⟨rfl, h3⟩; refine aFH hF3 ?_
    refine aB (i := 6) (by kernel_rfl) ?_
    refine aC (Hc := []) (Hr := blk b 51 [.int .i64 d.seq, .slice a d.es.length c, .bool false] :: X) rfl (Row_p _ _ _ _ F3 (SliceV.mono h2 hF3) h3 (by rw [List.length_append, hl8, pl1]; decide) (by omega)) Try.call36 rfl rfl rfl (fun _ s => s) (fun _ _ _ hF hq w s => by obtain ⟨e, _⟩ := hq; subst e; exact s.mono hF) ?_; rintro u4 F4 _ hF4 ⟨rfl, h4⟩; refine aFH hF4 ?_
    refine aT 7 rfl (ev_pv rfl) rfl rfl ?_ ?_ ?_ ?_; kernel_rfl; kernel_rfl; kernel_rfl
    refine aD (by kernel_rfl) ?_
    rw [hcl] at h4
    repeat (first|refine zJ rfl rfl ?_|refine jr rfl ?_|refine jn ?_|refine zM rfl rfl ?_|(refine zC rfl rfl ?_ rfl ?_;omega)|(refine zD rfl rfl ?_ rfl ?_;omega)|(refine zP rfl ?_ rfl ?_;omega)|refine zG rfl rfl rfl rfl ?_|(refine jdq rfl rfl ?_ ?_ ?_;kernel_rfl;kernel_rfl)|refine zB rfl rfl rfl (by repeat constructor) rfl ?_|refine zH .here rfl rfl rfl rfl ?_|refine zH (.there .here) rfl rfl rfl rfl ?_|refine zH (.there (.there .here)) rfl rfl rfl rfl ?_)
    exact J_retv rfl (.tmp rfl .nil) [] (fun w s => s.drop) (hF1.trans (hF2.trans (hF3.trans hF4))) ⟨rfl, h4⟩
end Go.Proofs.Ytohlmhoacjodjaa
