/-
  Votes, vouchings and replies read, by the program and by the document. Conditions are typed with each.
  Vouchings and replies read, by the program and by the document. Conditions are typed with each.
-/
import Derived.Test.YtaggonhgafggkaaVa
namespace Go.Proofs.Ytaggonhgafggkaa
open Go.RowKit
set_option maxRecDepth 100000
theorem lay_pre : ∀ (p : List Value) {i : Nat} {vs r s : List Value}, Lay i vs r s → Lay (p.length + i) vs (p ++ r) (p ++ s)
  | [], i, vs, r, s, h => by simpa using h
  | x :: p, i, vs, r, s, h => by
    have := lay_pre p h
    rw [List.length_cons, show p.length + 1 + i = p.length + i + 1 from by omega]
    exact .skip this
theorem lay_mid : ∀ {vs zs : List Value} (r : List Value), vs.length = zs.length → Lay 0 vs (zs ++ r) (vs ++ r)
  | [], [], _, _ => .nil
  | v :: vs, z :: zs, r, h => .put (lay_mid r (by simpa using h))
abbrev zVt : List Value := .int .i64 0 :: .int .i64 0 :: z32
abbrev zVo : List Value := .int .i64 0 :: .int .i64 0 :: (z32 ++ [Value.int .u32 0])
abbrev zRp : List Value := [.int .i64 0, .int .i64 0, .int .i64 0, .int .i64 0]
theorem zVt_eq : Vt.zero.cells = zVt := rfl
theorem zVo_eq : Vo.zero.cells = zVo := rfl
theorem zRp_eq : Rp.zero.cells = zRp := rfl
theorem ones_zVt : Ones zVt := Vt.zero.ones
theorem ones_zVo : Ones zVo := Vo.zero.ones
theorem ones_zRp : Ones zRp := Rp.zero.ones
def VtR (bs : List UInt8) : Vt × Int × List UInt8 :=
  let r1 := numR 0 bs 8
  let r2 := numR r1.2.1 r1.2.2 8
  let r3 := fixR r2.2.1 r2.2.2 32
  (⟨iN r1.1, iN r2.1, pad32 r3.1⟩, r3.2)
def Vt.ok (x : Vt) : Bool := viewB x.view && viewB x.seq
def vtP (bs : List UInt8) : Vt × Int := if endR (VtR bs).2.1 (VtR bs).2.2 ≠ 0 then (Vt.zero, 2) else if (VtR bs).1.ok = false then (Vt.zero, 5) else ((VtR bs).1, 0)
def VoR (bs : List UInt8) : Vo × Int × List UInt8 :=
  let r1 := numR 0 bs 1
  let r2 := numR r1.2.1 r1.2.2 8
  let r3 := fixR r2.2.1 r2.2.2 32
  let r4 := numR r3.2.1 r3.2.2 1
  (⟨iN r1.1, iN r2.1, pad32 r3.1, r4.1⟩, r4.2)
def Vo.ok (x : Vo) (n : Int) : Bool := clB n x.client && stampB x.stamp && decide (x.mask >>> n.toNat = 0)
def voP (bs : List UInt8) (n : Int) : Vo × Int := if n < 1 ∨ 7 < n then (Vo.zero, 1) else if endR (VoR bs).2.1 (VoR bs).2.2 ≠ 0 then (Vo.zero, 2) else if (VoR bs).1.ok n = false then (Vo.zero, 5) else ((VoR bs).1, 0)
def RpR (bs : List UInt8) : Rp × Int × List UInt8 :=
  let r1 := numR 0 bs 8
  let r2 := numR r1.2.1 r1.2.2 1
  let r3 := numR r2.2.1 r2.2.2 8
  let r4 := numR r3.2.1 r3.2.2 1
  (⟨iN r1.1, iN r2.1, iN r3.1, iN r4.1⟩, r4.2)
def Rp.ok (x : Rp) (n : Int) : Bool := viewB x.view && clB n x.client && stampB x.stamp && decide (x.result ≤ 99)
def rpP (bs : List UInt8) (n : Int) : Rp × Int := if n < 1 ∨ 7 < n then (Rp.zero, 1) else if endR (RpR bs).2.1 (RpR bs).2.2 ≠ 0 then (Rp.zero, 2) else if (RpR bs).1.ok n = false then (Rp.zero, 5) else ((RpR bs).1, 0)
def TupQ (cs : List Value) (e : Int) (u : Value) (_ : PH) (H' : List Asrt) : Prop := H' = [] ∧ u = .tuple #[.agg cs.toArray, .int .i64 e]
theorem VtR_dig (bs : List UInt8) : (VtR bs).1.dig.length = 32 := pad32_len (fixR_le32 _ _)
theorem VoR_dig (bs : List UInt8) : (VoR bs).1.dig.length = 32 := pad32_len (fixR_le32 _ _)
theorem VoR_mask (bs : List UInt8) : (VoR bs).1.mask < 256 := numR_lt _ _ 1
theorem fill_vt : ∃ pl, placesOf Try.prog 25 = some pl ∧ ∀ x : Vt, x.dig.length = 32 → FillF pl [(0, .int .i64 x.view), (1, .int .i64 x.seq), (2, .agg (u8s x.dig).toArray)] zVt x.cells := ⟨_, rfl, fun x h =>
  .cons .int rfl rfl (.put .nil) (.cons .int rfl rfl (.skip (.put .nil)) (.cons .agg rfl (by rw [u8s_len]; exact h) (.skip (.skip (lay_all (by rw [u8s_len, h]; rfl)))) .nil))⟩
theorem fill_vo : ∃ pl, placesOf Try.prog 28 = some pl ∧ ∀ x : Vo, x.dig.length = 32 → FillF pl [(0, .int .i64 x.client), (1, .int .i64 x.stamp), (2, .agg (u8s x.dig).toArray), (3, .int .u32 x.mask)] zVo x.cells := ⟨_, rfl, fun x h =>
  .cons .int rfl rfl (.put .nil) (.cons .int rfl rfl (.skip (.put .nil)) (.cons .agg rfl (by rw [u8s_len]; exact h) (.skip (.skip (lay_mid _ (by rw [u8s_len, h]; rfl)))) (.cons .int rfl rfl (by
    have := lay_pre (.int .i64 x.client :: .int .i64 x.stamp :: u8s x.dig) (i := 0) (vs := [Value.int .u32 (x.mask : Int)]) (r := [Value.int .u32 0]) (.put .nil)
    rw [List.length_cons, List.length_cons, u8s_len, h] at this
    exact this) .nil)))⟩
theorem lay_dig_vt {x : Vt} (h : x.dig.length = 32) : Lay 2 (u8s x.dig) (.int .i64 x.view :: .int .i64 x.seq :: z32) x.cells := .skip (.skip (lay_all (by rw [u8s_len, h]; rfl)))
theorem lay_dig_vo {x : Vo} (h : x.dig.length = 32) : Lay 2 (u8s x.dig) (.int .i64 x.client :: .int .i64 x.stamp :: (z32 ++ [Value.int .u32 0])) (.int .i64 x.client :: .int .i64 x.stamp :: (u8s x.dig ++ [Value.int .u32 0])) := .skip (.skip (lay_mid _ (by rw [u8s_len, h]; rfl)))
theorem lay_mask_vo {x : Vo} (h : x.dig.length = 32) : Lay 34 [Value.int .u32 (x.mask : Int)] (.int .i64 x.client :: .int .i64 x.stamp :: (u8s x.dig ++ [Value.int .u32 0])) x.cells := by
  have := lay_pre (.int .i64 x.client :: .int .i64 x.stamp :: u8s x.dig) (i := 0) (vs := [Value.int .u32 (x.mask : Int)]) (r := [Value.int .u32 0]) (.put .nil)
  rw [List.length_cons, List.length_cons, u8s_len, h] at this
  exact this
set_option maxHeartbeats 16000000 in
theorem parseVote_spec (v : Value) (bs : List UInt8) (F : PH) (h : Byt F v bs) (hl : bs.length ≤ 1048576) :
    Spec Try.prog 16 [v] F [] (TupQ (vtP bs).1.cells (vtP bs).2) := by
  obtain ⟨a, c, rfl, hc⟩ := h.form
  refine Spec.of1 Try.func16 rfl rfl fun X w0 => ?_
  refine jc rfl rfl ?_
  refine jr rfl ?_
  refine oE (ev_alloc (cs := zVt) rfl) rfl ?_
  rintro _ _ _ _ ⟨rfl, b4, rfl, rfl⟩
  repeat (first|refine zJ rfl rfl ?_|refine jr rfl ?_|refine jn ?_|refine zM rfl rfl ?_|(refine zC rfl rfl ?_ rfl ?_;omega)|(refine zD rfl rfl ?_ rfl ?_;omega)|(refine zP rfl ?_ rfl ?_;omega)|refine zG rfl rfl rfl rfl ?_|(refine jdq rfl rfl ?_ ?_ ?_;kernel_rfl;kernel_rfl)|refine zB rfl rfl rfl (by repeat constructor) rfl ?_|refine zH .here rfl rfl rfl rfl ?_|refine zH (.there .here) rfl rfl rfl rfl ?_|refine zH (.there (.there .here)) rfl rfl rfl rfl ?_)
  refine oC (Hc := []) (Hr := blk b4 25 zVt :: X) (read_spec _ bs F h (by omega)) Try.call47 rfl rfl (fun _ s => s) ?_
  rintro _ F0 _ hF0 ⟨br, v0, rfl, hv0, rfl⟩
  repeat (first|refine zJ rfl rfl ?_|refine jr rfl ?_|refine jn ?_|refine zM rfl rfl ?_|(refine zC rfl rfl ?_ rfl ?_;omega)|(refine zD rfl rfl ?_ rfl ?_;omega)|(refine zP rfl ?_ rfl ?_;omega)|refine zG rfl rfl rfl rfl ?_|(refine jdq rfl rfl ?_ ?_ ?_;kernel_rfl;kernel_rfl)|refine zB rfl rfl rfl (by repeat constructor) rfl ?_|refine zH .here rfl rfl rfl rfl ?_|refine zH (.there .here) rfl rfl rfl rfl ?_|refine zH (.there (.there .here)) rfl rfl rfl rfl ?_)
  refine oC (Hc := [rdr br (v0) (0)]) (Hr := blk b4 25 zVt :: X) (num_spec br (v0) (0) (bs) F0 hv0 (by omega)) Try.call48 rfl rfl (fun _ s => s) ?_; rintro _ F1 _ hF1 ⟨v1, rfl, hv1, rfl⟩; have n1 := numR_rest (0) (bs) 8; generalize hr1 : numR (0) (bs) 8 = r1 at *
  repeat (first|refine zJ rfl rfl ?_|refine jr rfl ?_|refine jn ?_|refine zM rfl rfl ?_|(refine zC rfl rfl ?_ rfl ?_;omega)|(refine zD rfl rfl ?_ rfl ?_;omega)|(refine zP rfl ?_ rfl ?_;omega)|refine zG rfl rfl rfl rfl ?_|(refine jdq rfl rfl ?_ ?_ ?_;kernel_rfl;kernel_rfl)|refine zB rfl rfl rfl (by repeat constructor) rfl ?_|refine zH .here rfl rfl rfl rfl ?_|refine zH (.there .here) rfl rfl rfl rfl ?_|refine zH (.there (.there .here)) rfl rfl rfl rfl ?_)
  refine oC (Hc := [rdr br (v1) (r1.2.1)]) (Hr := blk b4 25 zVt :: X) (num_spec br (v1) (r1.2.1) (r1.2.2) F1 hv1 (by omega)) Try.call48 rfl rfl (fun _ s => s) ?_; rintro _ F2 _ hF2 ⟨v2, rfl, hv2, rfl⟩; have n2 := numR_rest (r1.2.1) (r1.2.2) 8; generalize hr2 : numR (r1.2.1) (r1.2.2) 8 = r2 at *
  repeat (first|refine zJ rfl rfl ?_|refine jr rfl ?_|refine jn ?_|refine zM rfl rfl ?_|(refine zC rfl rfl ?_ rfl ?_;omega)|(refine zD rfl rfl ?_ rfl ?_;omega)|(refine zP rfl ?_ rfl ?_;omega)|refine zG rfl rfl rfl rfl ?_|(refine jdq rfl rfl ?_ ?_ ?_;kernel_rfl;kernel_rfl)|refine zB rfl rfl rfl (by repeat constructor) rfl ?_|refine zH .here rfl rfl rfl rfl ?_|refine zH (.there .here) rfl rfl rfl rfl ?_|refine zH (.there (.there .here)) rfl rfl rfl rfl ?_)
  refine oE (ev_alloc (cs := zVt) rfl) rfl ?_
  rintro _ _ _ _ ⟨rfl, b5, rfl, rfl⟩
  refine oN (ev_store (b := b5) rfl rfl .agg rfl rfl (lay_all (zs := zVt) rfl) (ones_cons rfl (ones_cons rfl (ones_tail (ones_tail ones_zVt)))) .here) rfl ?_
  rintro _ _ _ _ ⟨rfl, _, rfl⟩
  repeat (first|refine zJ rfl rfl ?_|refine jr rfl ?_|refine jn ?_|refine zM rfl rfl ?_|(refine zC rfl rfl ?_ rfl ?_;omega)|(refine zD rfl rfl ?_ rfl ?_;omega)|(refine zP rfl ?_ rfl ?_;omega)|refine zG rfl rfl rfl rfl ?_|(refine jdq rfl rfl ?_ ?_ ?_;kernel_rfl;kernel_rfl)|refine zB rfl rfl rfl (by repeat constructor) rfl ?_|refine zH .here rfl rfl rfl rfl ?_|refine zH (.there .here) rfl rfl rfl rfl ?_|refine zH (.there (.there .here)) rfl rfl rfl rfl ?_)
  refine oC (Hc := [rdr br v2 r2.2.1]) (Hr := blk b5 25 (.int .i64 (iN r1.1) :: .int .i64 (iN r2.1) :: z32) :: blk b4 25 zVt :: X) (digest_spec br v2 r2.2.1 r2.2.2 F2 hv2 (by omega)) Try.call49 rfl rfl (fun _ s => s.pick (.there .here)) ?_
  rintro _ F3 _ hF3 ⟨v3, rfl, hv3, rfl⟩
  have hdg := VtR_dig bs
  have hx : VtR bs = (⟨iN r1.1, iN r2.1, pad32 (fixR r2.2.1 r2.2.2 32).1⟩, (fixR r2.2.1 r2.2.2 32).2) := by unfold VtR; dsimp only; rw [hr1, hr2]
  generalize hr3 : fixR r2.2.1 r2.2.2 32 = r3 at *
  have hFF := hF0.trans (hF1.trans (hF2.trans hF3))
  unfold vtP
  rw [hx] at hdg ⊢
  dsimp only at hdg ⊢
  repeat (first|refine zJ rfl rfl ?_|refine jr rfl ?_|refine jn ?_|refine zM rfl rfl ?_|(refine zC rfl rfl ?_ rfl ?_;omega)|(refine zD rfl rfl ?_ rfl ?_;omega)|(refine zP rfl ?_ rfl ?_;omega)|refine zG rfl rfl rfl rfl ?_|(refine jdq rfl rfl ?_ ?_ ?_;kernel_rfl;kernel_rfl)|refine zB rfl rfl rfl (by repeat constructor) rfl ?_|refine zH .here rfl rfl rfl rfl ?_|refine zH (.there .here) rfl rfl rfl rfl ?_|refine zH (.there (.there .here)) rfl rfl rfl rfl ?_)
  refine oN (ev_store (b := b5) rfl rfl .agg rfl (by rw [u8s_len]; exact hdg) (lay_dig_vt (x := ⟨iN r1.1, iN r2.1, pad32 r3.1⟩) hdg) (u8s_ones _) (.there .here)) rfl ?_
  rintro _ _ _ _ ⟨rfl, _, rfl⟩
  repeat (first|refine zJ rfl rfl ?_|refine jr rfl ?_|refine jn ?_|refine zM rfl rfl ?_|(refine zC rfl rfl ?_ rfl ?_;omega)|(refine zD rfl rfl ?_ rfl ?_;omega)|(refine zP rfl ?_ rfl ?_;omega)|refine zG rfl rfl rfl rfl ?_|(refine jdq rfl rfl ?_ ?_ ?_;kernel_rfl;kernel_rfl)|refine zB rfl rfl rfl (by repeat constructor) rfl ?_|refine zH .here rfl rfl rfl rfl ?_|refine zH (.there .here) rfl rfl rfl rfl ?_|refine zH (.there (.there .here)) rfl rfl rfl rfl ?_)
  generalize hxx : (⟨iN r1.1, iN r2.1, pad32 r3.1⟩ : Vt) = x at *
  replace hdg : x.dig.length = 32 := by rw [← hxx]; exact hdg
  refine oC (Hc := [rdr br v3 r3.2.1]) (Hr := blk b5 25 x.cells :: blk b4 25 zVt :: X) (end_spec br v3 r3.2.1 r3.2.2 F3 hv3) Try.call50 rfl rfl (fun _ s => s) ?_
  rintro _ _ _ _ ⟨rfl, rfl, rfl⟩
  by_cases he : endR r3.2.1 r3.2.2 = 0 
  · rw [if_neg (fun h => h he)] 
    have hs1 := view_spec x.view F3 
    have hs2 := seq_spec x.seq F3 
    by_cases ho : x.ok = true 
    · have ho' := ho 
      unfold Vt.ok at ho' 
      rw [Bool.and_eq_true] at ho' 
      rw [ho'.1] at hs1 
      rw [ho'.2] at hs2 
      rw [if_neg (by rw [ho]; simp)] 
      repeat (first|refine zJ rfl rfl ?_|refine jr rfl ?_|refine jn ?_|refine zM rfl rfl ?_|(refine zC rfl rfl ?_ rfl ?_;omega)|(refine zD rfl rfl ?_ rfl ?_;omega)|(refine zP rfl ?_ rfl ?_;omega)|refine zG rfl rfl rfl rfl ?_|(refine jdq rfl rfl ?_ ?_ ?_;kernel_rfl;kernel_rfl)|refine zB rfl rfl rfl (by repeat constructor) rfl ?_|refine zH .here rfl rfl rfl rfl ?_|refine zH (.there .here) rfl rfl rfl rfl ?_|refine zH (.there (.there .here)) rfl rfl rfl rfl ?_) 
      refine oP (hs1) Try.call51 rfl rfl ?_ 
      repeat (first|refine zJ rfl rfl ?_|refine jr rfl ?_|refine jn ?_|refine zM rfl rfl ?_|(refine zC rfl rfl ?_ rfl ?_;omega)|(refine zD rfl rfl ?_ rfl ?_;omega)|(refine zP rfl ?_ rfl ?_;omega)|refine zG rfl rfl rfl rfl ?_|(refine jdq rfl rfl ?_ ?_ ?_;kernel_rfl;kernel_rfl)|refine zB rfl rfl rfl (by repeat constructor) rfl ?_|refine zH .here rfl rfl rfl rfl ?_|refine zH (.there .here) rfl rfl rfl rfl ?_|refine zH (.there (.there .here)) rfl rfl rfl rfl ?_) 
      refine oP (hs2) Try.call52 rfl rfl ?_ 
      repeat (first|refine zJ rfl rfl ?_|refine jr rfl ?_|refine jn ?_|refine zM rfl rfl ?_|(refine zC rfl rfl ?_ rfl ?_;omega)|(refine zD rfl rfl ?_ rfl ?_;omega)|(refine zP rfl ?_ rfl ?_;omega)|refine zG rfl rfl rfl rfl ?_|(refine jdq rfl rfl ?_ ?_ ?_;kernel_rfl;kernel_rfl)|refine zB rfl rfl rfl (by repeat constructor) rfl ?_|refine zH .here rfl rfl rfl rfl ?_|refine zH (.there .here) rfl rfl rfl rfl ?_|refine zH (.there (.there .here)) rfl rfl rfl rfl ?_) 
      refine oS (ev_load_agg (cs := x.cells) rfl rfl (Rdb.ofB (n := 0) (.there .here) (by rw [List.drop_zero, List.take_length])) (Vt.len hdg)) rfl ?_ 
      refine oN (ev_store (b := b4) rfl rfl .agg rfl (Vt.len hdg) (lay_all (zs := zVt) (Vt.len hdg)) x.ones (.there (.there .here))) rfl ?_ 
      rintro _ _ _ _ ⟨rfl, _, rfl⟩ 
      repeat (first|refine zJ rfl rfl ?_|refine jr rfl ?_|refine jn ?_|refine zM rfl rfl ?_|(refine zC rfl rfl ?_ rfl ?_;omega)|(refine zD rfl rfl ?_ rfl ?_;omega)|(refine zP rfl ?_ rfl ?_;omega)|refine zG rfl rfl rfl rfl ?_|(refine jdq rfl rfl ?_ ?_ ?_;kernel_rfl;kernel_rfl)|refine zB rfl rfl rfl (by repeat constructor) rfl ?_|refine zH .here rfl rfl rfl rfl ?_|refine zH (.there .here) rfl rfl rfl rfl ?_|refine zH (.there (.there .here)) rfl rfl rfl rfl ?_) 
      exact J_retv (vs := [.agg x.cells.toArray, .int .i64 0]) rfl (.agg rfl rfl (Rdb.ofB (n := 0) (.there (.there .here)) (by rw [List.drop_zero, List.take_length])) (Vt.len hdg) (.tmp rfl .nil)) [] (fun w s => s.drop.drop.drop) hFF ⟨rfl, rfl⟩ 
    · have ho0 : x.ok = false := by simpa using ho 
      rw [if_pos ho0] 
      unfold Vt.ok at ho0 
      cases hb1 : viewB x.view with 
      | false => 
        rw [hb1] at hs1 
        repeat (first|refine zJ rfl rfl ?_|refine jr rfl ?_|refine jn ?_|refine zM rfl rfl ?_|(refine zC rfl rfl ?_ rfl ?_;omega)|(refine zD rfl rfl ?_ rfl ?_;omega)|(refine zP rfl ?_ rfl ?_;omega)|refine zG rfl rfl rfl rfl ?_|(refine jdq rfl rfl ?_ ?_ ?_;kernel_rfl;kernel_rfl)|refine zB rfl rfl rfl (by repeat constructor) rfl ?_|refine zH .here rfl rfl rfl rfl ?_|refine zH (.there .here) rfl rfl rfl rfl ?_|refine zH (.there (.there .here)) rfl rfl rfl rfl ?_) 
        refine oP (hs1) Try.call51 rfl rfl ?_ 
        repeat (first|refine zJ rfl rfl ?_|refine jr rfl ?_|refine jn ?_|refine zM rfl rfl ?_|(refine zC rfl rfl ?_ rfl ?_;omega)|(refine zD rfl rfl ?_ rfl ?_;omega)|(refine zP rfl ?_ rfl ?_;omega)|refine zG rfl rfl rfl rfl ?_|(refine jdq rfl rfl ?_ ?_ ?_;kernel_rfl;kernel_rfl)|refine zB rfl rfl rfl (by repeat constructor) rfl ?_|refine zH .here rfl rfl rfl rfl ?_|refine zH (.there .here) rfl rfl rfl rfl ?_|refine zH (.there (.there .here)) rfl rfl rfl rfl ?_) 
        refine oN (ev_store (b := b4) rfl rfl .agg rfl rfl (lay_all (zs := zVt) rfl) ones_zVt (.there (.there .here))) rfl ?_; rintro _ _ _ _ ⟨rfl, _, rfl⟩; (repeat (first|refine zJ rfl rfl ?_|refine jr rfl ?_|refine jn ?_|refine zM rfl rfl ?_|(refine zC rfl rfl ?_ rfl ?_;omega)|(refine zD rfl rfl ?_ rfl ?_;omega)|(refine zP rfl ?_ rfl ?_;omega)|refine zG rfl rfl rfl rfl ?_|(refine jdq rfl rfl ?_ ?_ ?_;kernel_rfl;kernel_rfl)|refine zB rfl rfl rfl (by repeat constructor) rfl ?_|refine zH .here rfl rfl rfl rfl ?_|refine zH (.there .here) rfl rfl rfl rfl ?_|refine zH (.there (.there .here)) rfl rfl rfl rfl ?_)); exact J_retv (vs := [.agg (zVt).toArray, .int .i64 5]) rfl (.agg rfl rfl (Rdb.ofB (n := 0) (.there (.there .here)) rfl) rfl (.tmp rfl .nil)) [] (fun w s => s.drop.drop.drop) hFF ⟨rfl, rfl⟩ 
      | true => 
        rw [hb1] at hs1 
        rw [hb1, Bool.true_and] at ho0 
        rw [ho0] at hs2 
        repeat (first|refine zJ rfl rfl ?_|refine jr rfl ?_|refine jn ?_|refine zM rfl rfl ?_|(refine zC rfl rfl ?_ rfl ?_;omega)|(refine zD rfl rfl ?_ rfl ?_;omega)|(refine zP rfl ?_ rfl ?_;omega)|refine zG rfl rfl rfl rfl ?_|(refine jdq rfl rfl ?_ ?_ ?_;kernel_rfl;kernel_rfl)|refine zB rfl rfl rfl (by repeat constructor) rfl ?_|refine zH .here rfl rfl rfl rfl ?_|refine zH (.there .here) rfl rfl rfl rfl ?_|refine zH (.there (.there .here)) rfl rfl rfl rfl ?_) 
        refine oP (hs1) Try.call51 rfl rfl ?_ 
        repeat (first|refine zJ rfl rfl ?_|refine jr rfl ?_|refine jn ?_|refine zM rfl rfl ?_|(refine zC rfl rfl ?_ rfl ?_;omega)|(refine zD rfl rfl ?_ rfl ?_;omega)|(refine zP rfl ?_ rfl ?_;omega)|refine zG rfl rfl rfl rfl ?_|(refine jdq rfl rfl ?_ ?_ ?_;kernel_rfl;kernel_rfl)|refine zB rfl rfl rfl (by repeat constructor) rfl ?_|refine zH .here rfl rfl rfl rfl ?_|refine zH (.there .here) rfl rfl rfl rfl ?_|refine zH (.there (.there .here)) rfl rfl rfl rfl ?_) 
        refine oP (hs2) Try.call52 rfl rfl ?_ 
        repeat (first|refine zJ rfl rfl ?_|refine jr rfl ?_|refine jn ?_|refine zM rfl rfl ?_|(refine zC rfl rfl ?_ rfl ?_;omega)|(refine zD rfl rfl ?_ rfl ?_;omega)|(refine zP rfl ?_ rfl ?_;omega)|refine zG rfl rfl rfl rfl ?_|(refine jdq rfl rfl ?_ ?_ ?_;kernel_rfl;kernel_rfl)|refine zB rfl rfl rfl (by repeat constructor) rfl ?_|refine zH .here rfl rfl rfl rfl ?_|refine zH (.there .here) rfl rfl rfl rfl ?_|refine zH (.there (.there .here)) rfl rfl rfl rfl ?_) 
        refine oN (ev_store (b := b4) rfl rfl .agg rfl rfl (lay_all (zs := zVt) rfl) ones_zVt (.there (.there .here))) rfl ?_; rintro _ _ _ _ ⟨rfl, _, rfl⟩; (repeat (first|refine zJ rfl rfl ?_|refine jr rfl ?_|refine jn ?_|refine zM rfl rfl ?_|(refine zC rfl rfl ?_ rfl ?_;omega)|(refine zD rfl rfl ?_ rfl ?_;omega)|(refine zP rfl ?_ rfl ?_;omega)|refine zG rfl rfl rfl rfl ?_|(refine jdq rfl rfl ?_ ?_ ?_;kernel_rfl;kernel_rfl)|refine zB rfl rfl rfl (by repeat constructor) rfl ?_|refine zH .here rfl rfl rfl rfl ?_|refine zH (.there .here) rfl rfl rfl rfl ?_|refine zH (.there (.there .here)) rfl rfl rfl rfl ?_)); exact J_retv (vs := [.agg (zVt).toArray, .int .i64 5]) rfl (.agg rfl rfl (Rdb.ofB (n := 0) (.there (.there .here)) rfl) rfl (.tmp rfl .nil)) [] (fun w s => s.drop.drop.drop) hFF ⟨rfl, rfl⟩ 
  · rw [if_pos he] 
    repeat (first|refine zJ rfl rfl ?_|refine jr rfl ?_|refine jn ?_|refine zM rfl rfl ?_|(refine zC rfl rfl ?_ rfl ?_;omega)|(refine zD rfl rfl ?_ rfl ?_;omega)|(refine zP rfl ?_ rfl ?_;omega)|refine zG rfl rfl rfl rfl ?_|(refine jdq rfl rfl ?_ ?_ ?_;kernel_rfl;kernel_rfl)|refine zB rfl rfl rfl (by repeat constructor) rfl ?_|refine zH .here rfl rfl rfl rfl ?_|refine zH (.there .here) rfl rfl rfl rfl ?_|refine zH (.there (.there .here)) rfl rfl rfl rfl ?_) 
    refine oN (ev_store (b := b4) rfl rfl .agg rfl rfl (lay_all (zs := zVt) rfl) ones_zVt (.there (.there .here))) rfl ?_; rintro _ _ _ _ ⟨rfl, _, rfl⟩; (repeat (first|refine zJ rfl rfl ?_|refine jr rfl ?_|refine jn ?_|refine zM rfl rfl ?_|(refine zC rfl rfl ?_ rfl ?_;omega)|(refine zD rfl rfl ?_ rfl ?_;omega)|(refine zP rfl ?_ rfl ?_;omega)|refine zG rfl rfl rfl rfl ?_|(refine jdq rfl rfl ?_ ?_ ?_;kernel_rfl;kernel_rfl)|refine zB rfl rfl rfl (by repeat constructor) rfl ?_|refine zH .here rfl rfl rfl rfl ?_|refine zH (.there .here) rfl rfl rfl rfl ?_|refine zH (.there (.there .here)) rfl rfl rfl rfl ?_)); exact J_retv (vs := [.agg (zVt).toArray, .int .i64 2]) rfl (.agg rfl rfl (Rdb.ofB (n := 0) (.there (.there .here)) rfl) rfl (.tmp rfl .nil)) [] (fun w s => s.drop.drop.drop) hFF ⟨rfl, rfl⟩
set_option maxHeartbeats 16000000 in
theorem ParseVote_spec (v : Value) (bs : List UInt8) (F : PH) (h : Byt F v bs) (hl : bs.length ≤ 1048576) :
    Spec Try.prog 19 [v] F [] (TupQ (vtP bs).1.cells (vtP bs).2) := by
  obtain ⟨a, c, rfl, hc⟩ := h.form
  obtain ⟨pl, hpl, hfill⟩ := fill_vt
  refine Spec.of1 Try.func19 rfl rfl fun X w0 => ?_
  refine jc rfl rfl ?_
  refine jr rfl ?_
  refine oE (ev_alloc (cs := zVt) rfl) rfl ?_
  rintro _ _ _ _ ⟨rfl, b4, rfl, rfl⟩
  repeat (first|refine zJ rfl rfl ?_|refine jr rfl ?_|refine jn ?_|refine zM rfl rfl ?_|(refine zC rfl rfl ?_ rfl ?_;omega)|(refine zD rfl rfl ?_ rfl ?_;omega)|(refine zP rfl ?_ rfl ?_;omega)|refine zG rfl rfl rfl rfl ?_|(refine jdq rfl rfl ?_ ?_ ?_;kernel_rfl;kernel_rfl)|refine zB rfl rfl rfl (by repeat constructor) rfl ?_|refine zH .here rfl rfl rfl rfl ?_|refine zH (.there .here) rfl rfl rfl rfl ?_|refine zH (.there (.there .here)) rfl rfl rfl rfl ?_)
  refine oE (ev_box rfl .agg) rfl ?_
  rintro _ _ _ _ ⟨rfl, br, rfl, rfl⟩
  repeat (first|refine zJ rfl rfl ?_|refine jr rfl ?_|refine jn ?_|refine zM rfl rfl ?_|(refine zC rfl rfl ?_ rfl ?_;omega)|(refine zD rfl rfl ?_ rfl ?_;omega)|(refine zP rfl ?_ rfl ?_;omega)|refine zG rfl rfl rfl rfl ?_|(refine jdq rfl rfl ?_ ?_ ?_;kernel_rfl;kernel_rfl)|refine zB rfl rfl rfl (by repeat constructor) rfl ?_|refine zH .here rfl rfl rfl rfl ?_|refine zH (.there .here) rfl rfl rfl rfl ?_|refine zH (.there (.there .here)) rfl rfl rfl rfl ?_)
  refine oC (Hc := [Rdr br (.slice a bs.length c) (0)]) (Hr := blk b4 25 zVt :: X) (Number_spec br (.slice a bs.length c) (0) 8 (bs) F h (by omega)) Try.call57 rfl rfl (fun _ s => s) ?_; rintro _ F1 _ hF1 ⟨v1, rfl, hv1, rfl⟩; have n1 := numR_rest (0) (bs) 8; generalize hr1 : numR (0) (bs) 8 = r1 at * 
  repeat (first|refine zJ rfl rfl ?_|refine jr rfl ?_|refine jn ?_|refine zM rfl rfl ?_|(refine zC rfl rfl ?_ rfl ?_;omega)|(refine zD rfl rfl ?_ rfl ?_;omega)|(refine zP rfl ?_ rfl ?_;omega)|refine zG rfl rfl rfl rfl ?_|(refine jdq rfl rfl ?_ ?_ ?_;kernel_rfl;kernel_rfl)|refine zB rfl rfl rfl (by repeat constructor) rfl ?_|refine zH .here rfl rfl rfl rfl ?_|refine zH (.there .here) rfl rfl rfl rfl ?_|refine zH (.there (.there .here)) rfl rfl rfl rfl ?_) 
  refine oS (ev_conv rfl rfl rfl (iN_wrap _)) rfl ?_
  repeat (first|refine zJ rfl rfl ?_|refine jr rfl ?_|refine jn ?_|refine zM rfl rfl ?_|(refine zC rfl rfl ?_ rfl ?_;omega)|(refine zD rfl rfl ?_ rfl ?_;omega)|(refine zP rfl ?_ rfl ?_;omega)|refine zG rfl rfl rfl rfl ?_|(refine jdq rfl rfl ?_ ?_ ?_;kernel_rfl;kernel_rfl)|refine zB rfl rfl rfl (by repeat constructor) rfl ?_|refine zH .here rfl rfl rfl rfl ?_|refine zH (.there .here) rfl rfl rfl rfl ?_|refine zH (.there (.there .here)) rfl rfl rfl rfl ?_)
  refine oC (Hc := [Rdr br (v1) (r1.2.1)]) (Hr := blk b4 25 zVt :: X) (Number_spec br (v1) (r1.2.1) 8 (r1.2.2) F1 hv1 (by omega)) Try.call57 rfl rfl (fun _ s => s) ?_; rintro _ F2 _ hF2 ⟨v2, rfl, hv2, rfl⟩; have n2 := numR_rest (r1.2.1) (r1.2.2) 8; generalize hr2 : numR (r1.2.1) (r1.2.2) 8 = r2 at * 
  repeat (first|refine zJ rfl rfl ?_|refine jr rfl ?_|refine jn ?_|refine zM rfl rfl ?_|(refine zC rfl rfl ?_ rfl ?_;omega)|(refine zD rfl rfl ?_ rfl ?_;omega)|(refine zP rfl ?_ rfl ?_;omega)|refine zG rfl rfl rfl rfl ?_|(refine jdq rfl rfl ?_ ?_ ?_;kernel_rfl;kernel_rfl)|refine zB rfl rfl rfl (by repeat constructor) rfl ?_|refine zH .here rfl rfl rfl rfl ?_|refine zH (.there .here) rfl rfl rfl rfl ?_|refine zH (.there (.there .here)) rfl rfl rfl rfl ?_) 
  refine oS (ev_conv rfl rfl rfl (iN_wrap _)) rfl ?_
  repeat (first|refine zJ rfl rfl ?_|refine jr rfl ?_|refine jn ?_|refine zM rfl rfl ?_|(refine zC rfl rfl ?_ rfl ?_;omega)|(refine zD rfl rfl ?_ rfl ?_;omega)|(refine zP rfl ?_ rfl ?_;omega)|refine zG rfl rfl rfl rfl ?_|(refine jdq rfl rfl ?_ ?_ ?_;kernel_rfl;kernel_rfl)|refine zB rfl rfl rfl (by repeat constructor) rfl ?_|refine zH .here rfl rfl rfl rfl ?_|refine zH (.there .here) rfl rfl rfl rfl ?_|refine zH (.there (.there .here)) rfl rfl rfl rfl ?_)
  refine oC (Hc := [Rdr br v2 r2.2.1]) (Hr := blk b4 25 zVt :: X) (ReadDigest_spec br v2 r2.2.1 r2.2.2 F2 hv2 (by omega)) Try.call58 rfl rfl (fun _ s => s) ?_
  rintro _ F3 _ hF3 ⟨v3, rfl, hv3, rfl⟩
  have hdg := VtR_dig bs
  have hx : VtR bs = (⟨iN r1.1, iN r2.1, pad32 (fixR r2.2.1 r2.2.2 32).1⟩, (fixR r2.2.1 r2.2.2 32).2) := by unfold VtR; dsimp only; rw [hr1, hr2]
  generalize hr3 : fixR r2.2.1 r2.2.2 32 = r3 at *
  have hFF := hF1.trans (hF2.trans hF3)
  unfold vtP
  rw [hx] at hdg ⊢
  dsimp only at hdg ⊢
  refine oS (ev_build (t := (⟨iN r1.1, iN r2.1, pad32 r3.1⟩ : Vt).cells) rfl rfl hpl (hfill ⟨iN r1.1, iN r2.1, pad32 r3.1⟩ hdg)) rfl ?_
  generalize hxx : (⟨iN r1.1, iN r2.1, pad32 r3.1⟩ : Vt) = x at *
  replace hdg : x.dig.length = 32 := by rw [← hxx]; exact hdg
  refine oE (ev_alloc (cs := zVt) rfl) rfl ?_
  rintro _ _ _ _ ⟨rfl, b5, rfl, rfl⟩
  refine oN (ev_store (b := b5) rfl rfl .agg rfl (Vt.len hdg) (lay_all (zs := zVt) (Vt.len hdg)) x.ones .here) rfl ?_
  rintro _ _ _ _ ⟨rfl, _, rfl⟩
  repeat (first|refine zJ rfl rfl ?_|refine jr rfl ?_|refine jn ?_|refine zM rfl rfl ?_|(refine zC rfl rfl ?_ rfl ?_;omega)|(refine zD rfl rfl ?_ rfl ?_;omega)|(refine zP rfl ?_ rfl ?_;omega)|refine zG rfl rfl rfl rfl ?_|(refine jdq rfl rfl ?_ ?_ ?_;kernel_rfl;kernel_rfl)|refine zB rfl rfl rfl (by repeat constructor) rfl ?_|refine zH .here rfl rfl rfl rfl ?_|refine zH (.there .here) rfl rfl rfl rfl ?_|refine zH (.there (.there .here)) rfl rfl rfl rfl ?_)
  refine oC (Hc := [Rdr br v3 r3.2.1]) (Hr := blk b5 25 x.cells :: blk b4 25 zVt :: X) (End_spec br v3 r3.2.1 r3.2.2 F3 hv3) Try.call59 rfl rfl (fun _ s => s.pick (.there .here)) ?_
  rintro _ _ _ _ ⟨rfl, rfl, rfl⟩
  by_cases he : endR r3.2.1 r3.2.2 = 0 
  · rw [if_neg (fun h => h he)] 
    have hs1 := View_spec x.view F3 
    have hs2 := Seq_spec x.seq F3 
    by_cases ho : x.ok = true 
    · have ho' := ho 
      unfold Vt.ok at ho' 
      rw [Bool.and_eq_true] at ho' 
      rw [ho'.1] at hs1 
      rw [ho'.2] at hs2 
      rw [if_neg (by rw [ho]; simp)] 
      repeat (first|refine zJ rfl rfl ?_|refine jr rfl ?_|refine jn ?_|refine zM rfl rfl ?_|(refine zC rfl rfl ?_ rfl ?_;omega)|(refine zD rfl rfl ?_ rfl ?_;omega)|(refine zP rfl ?_ rfl ?_;omega)|refine zG rfl rfl rfl rfl ?_|(refine jdq rfl rfl ?_ ?_ ?_;kernel_rfl;kernel_rfl)|refine zB rfl rfl rfl (by repeat constructor) rfl ?_|refine zH .here rfl rfl rfl rfl ?_|refine zH (.there .here) rfl rfl rfl rfl ?_|refine zH (.there (.there .here)) rfl rfl rfl rfl ?_) 
      refine oP (hs1) Try.call28 rfl rfl ?_ 
      repeat (first|refine zJ rfl rfl ?_|refine jr rfl ?_|refine jn ?_|refine zM rfl rfl ?_|(refine zC rfl rfl ?_ rfl ?_;omega)|(refine zD rfl rfl ?_ rfl ?_;omega)|(refine zP rfl ?_ rfl ?_;omega)|refine zG rfl rfl rfl rfl ?_|(refine jdq rfl rfl ?_ ?_ ?_;kernel_rfl;kernel_rfl)|refine zB rfl rfl rfl (by repeat constructor) rfl ?_|refine zH .here rfl rfl rfl rfl ?_|refine zH (.there .here) rfl rfl rfl rfl ?_|refine zH (.there (.there .here)) rfl rfl rfl rfl ?_) 
      refine oP (hs2) Try.call29 rfl rfl ?_ 
      repeat (first|refine zJ rfl rfl ?_|refine jr rfl ?_|refine jn ?_|refine zM rfl rfl ?_|(refine zC rfl rfl ?_ rfl ?_;omega)|(refine zD rfl rfl ?_ rfl ?_;omega)|(refine zP rfl ?_ rfl ?_;omega)|refine zG rfl rfl rfl rfl ?_|(refine jdq rfl rfl ?_ ?_ ?_;kernel_rfl;kernel_rfl)|refine zB rfl rfl rfl (by repeat constructor) rfl ?_|refine zH .here rfl rfl rfl rfl ?_|refine zH (.there .here) rfl rfl rfl rfl ?_|refine zH (.there (.there .here)) rfl rfl rfl rfl ?_) 
      refine oS (ev_load_agg (cs := x.cells) rfl rfl (Rdb.ofB (n := 0) (.there .here) (by rw [List.drop_zero, List.take_length])) (Vt.len hdg)) rfl ?_ 
      refine oN (ev_store (b := b4) rfl rfl .agg rfl (Vt.len hdg) (lay_all (zs := zVt) (Vt.len hdg)) x.ones (.there (.there .here))) rfl ?_ 
      rintro _ _ _ _ ⟨rfl, _, rfl⟩ 
      repeat (first|refine zJ rfl rfl ?_|refine jr rfl ?_|refine jn ?_|refine zM rfl rfl ?_|(refine zC rfl rfl ?_ rfl ?_;omega)|(refine zD rfl rfl ?_ rfl ?_;omega)|(refine zP rfl ?_ rfl ?_;omega)|refine zG rfl rfl rfl rfl ?_|(refine jdq rfl rfl ?_ ?_ ?_;kernel_rfl;kernel_rfl)|refine zB rfl rfl rfl (by repeat constructor) rfl ?_|refine zH .here rfl rfl rfl rfl ?_|refine zH (.there .here) rfl rfl rfl rfl ?_|refine zH (.there (.there .here)) rfl rfl rfl rfl ?_) 
      exact J_retv (vs := [.agg x.cells.toArray, .int .i64 0]) rfl (.agg rfl rfl (Rdb.ofB (n := 0) (.there (.there .here)) (by rw [List.drop_zero, List.take_length])) (Vt.len hdg) (.tmp rfl .nil)) [] (fun w s => s.drop.drop.drop) hFF ⟨rfl, rfl⟩ 
    · have ho0 : x.ok = false := by simpa using ho 
      rw [if_pos ho0] 
      unfold Vt.ok at ho0 
      cases hb1 : viewB x.view with 
      | false => 
        rw [hb1] at hs1 
        repeat (first|refine zJ rfl rfl ?_|refine jr rfl ?_|refine jn ?_|refine zM rfl rfl ?_|(refine zC rfl rfl ?_ rfl ?_;omega)|(refine zD rfl rfl ?_ rfl ?_;omega)|(refine zP rfl ?_ rfl ?_;omega)|refine zG rfl rfl rfl rfl ?_|(refine jdq rfl rfl ?_ ?_ ?_;kernel_rfl;kernel_rfl)|refine zB rfl rfl rfl (by repeat constructor) rfl ?_|refine zH .here rfl rfl rfl rfl ?_|refine zH (.there .here) rfl rfl rfl rfl ?_|refine zH (.there (.there .here)) rfl rfl rfl rfl ?_) 
        refine oP (hs1) Try.call28 rfl rfl ?_ 
        repeat (first|refine zJ rfl rfl ?_|refine jr rfl ?_|refine jn ?_|refine zM rfl rfl ?_|(refine zC rfl rfl ?_ rfl ?_;omega)|(refine zD rfl rfl ?_ rfl ?_;omega)|(refine zP rfl ?_ rfl ?_;omega)|refine zG rfl rfl rfl rfl ?_|(refine jdq rfl rfl ?_ ?_ ?_;kernel_rfl;kernel_rfl)|refine zB rfl rfl rfl (by repeat constructor) rfl ?_|refine zH .here rfl rfl rfl rfl ?_|refine zH (.there .here) rfl rfl rfl rfl ?_|refine zH (.there (.there .here)) rfl rfl rfl rfl ?_) 
        refine oN (ev_store (b := b4) rfl rfl .agg rfl rfl (lay_all (zs := zVt) rfl) ones_zVt (.there (.there .here))) rfl ?_; rintro _ _ _ _ ⟨rfl, _, rfl⟩; (repeat (first|refine zJ rfl rfl ?_|refine jr rfl ?_|refine jn ?_|refine zM rfl rfl ?_|(refine zC rfl rfl ?_ rfl ?_;omega)|(refine zD rfl rfl ?_ rfl ?_;omega)|(refine zP rfl ?_ rfl ?_;omega)|refine zG rfl rfl rfl rfl ?_|(refine jdq rfl rfl ?_ ?_ ?_;kernel_rfl;kernel_rfl)|refine zB rfl rfl rfl (by repeat constructor) rfl ?_|refine zH .here rfl rfl rfl rfl ?_|refine zH (.there .here) rfl rfl rfl rfl ?_|refine zH (.there (.there .here)) rfl rfl rfl rfl ?_)); exact J_retv (vs := [.agg (zVt).toArray, .int .i64 5]) rfl (.agg rfl rfl (Rdb.ofB (n := 0) (.there (.there .here)) rfl) rfl (.tmp rfl .nil)) [] (fun w s => s.drop.drop.drop) hFF ⟨rfl, rfl⟩ 
      | true => 
        rw [hb1] at hs1 
        rw [hb1, Bool.true_and] at ho0 
        rw [ho0] at hs2 
        repeat (first|refine zJ rfl rfl ?_|refine jr rfl ?_|refine jn ?_|refine zM rfl rfl ?_|(refine zC rfl rfl ?_ rfl ?_;omega)|(refine zD rfl rfl ?_ rfl ?_;omega)|(refine zP rfl ?_ rfl ?_;omega)|refine zG rfl rfl rfl rfl ?_|(refine jdq rfl rfl ?_ ?_ ?_;kernel_rfl;kernel_rfl)|refine zB rfl rfl rfl (by repeat constructor) rfl ?_|refine zH .here rfl rfl rfl rfl ?_|refine zH (.there .here) rfl rfl rfl rfl ?_|refine zH (.there (.there .here)) rfl rfl rfl rfl ?_) 
        refine oP (hs1) Try.call28 rfl rfl ?_ 
        repeat (first|refine zJ rfl rfl ?_|refine jr rfl ?_|refine jn ?_|refine zM rfl rfl ?_|(refine zC rfl rfl ?_ rfl ?_;omega)|(refine zD rfl rfl ?_ rfl ?_;omega)|(refine zP rfl ?_ rfl ?_;omega)|refine zG rfl rfl rfl rfl ?_|(refine jdq rfl rfl ?_ ?_ ?_;kernel_rfl;kernel_rfl)|refine zB rfl rfl rfl (by repeat constructor) rfl ?_|refine zH .here rfl rfl rfl rfl ?_|refine zH (.there .here) rfl rfl rfl rfl ?_|refine zH (.there (.there .here)) rfl rfl rfl rfl ?_) 
        refine oP (hs2) Try.call29 rfl rfl ?_ 
        repeat (first|refine zJ rfl rfl ?_|refine jr rfl ?_|refine jn ?_|refine zM rfl rfl ?_|(refine zC rfl rfl ?_ rfl ?_;omega)|(refine zD rfl rfl ?_ rfl ?_;omega)|(refine zP rfl ?_ rfl ?_;omega)|refine zG rfl rfl rfl rfl ?_|(refine jdq rfl rfl ?_ ?_ ?_;kernel_rfl;kernel_rfl)|refine zB rfl rfl rfl (by repeat constructor) rfl ?_|refine zH .here rfl rfl rfl rfl ?_|refine zH (.there .here) rfl rfl rfl rfl ?_|refine zH (.there (.there .here)) rfl rfl rfl rfl ?_) 
        refine oN (ev_store (b := b4) rfl rfl .agg rfl rfl (lay_all (zs := zVt) rfl) ones_zVt (.there (.there .here))) rfl ?_; rintro _ _ _ _ ⟨rfl, _, rfl⟩; (repeat (first|refine zJ rfl rfl ?_|refine jr rfl ?_|refine jn ?_|refine zM rfl rfl ?_|(refine zC rfl rfl ?_ rfl ?_;omega)|(refine zD rfl rfl ?_ rfl ?_;omega)|(refine zP rfl ?_ rfl ?_;omega)|refine zG rfl rfl rfl rfl ?_|(refine jdq rfl rfl ?_ ?_ ?_;kernel_rfl;kernel_rfl)|refine zB rfl rfl rfl (by repeat constructor) rfl ?_|refine zH .here rfl rfl rfl rfl ?_|refine zH (.there .here) rfl rfl rfl rfl ?_|refine zH (.there (.there .here)) rfl rfl rfl rfl ?_)); exact J_retv (vs := [.agg (zVt).toArray, .int .i64 5]) rfl (.agg rfl rfl (Rdb.ofB (n := 0) (.there (.there .here)) rfl) rfl (.tmp rfl .nil)) [] (fun w s => s.drop.drop.drop) hFF ⟨rfl, rfl⟩ 
  · rw [if_pos he] 
    repeat (first|refine zJ rfl rfl ?_|refine jr rfl ?_|refine jn ?_|refine zM rfl rfl ?_|(refine zC rfl rfl ?_ rfl ?_;omega)|(refine zD rfl rfl ?_ rfl ?_;omega)|(refine zP rfl ?_ rfl ?_;omega)|refine zG rfl rfl rfl rfl ?_|(refine jdq rfl rfl ?_ ?_ ?_;kernel_rfl;kernel_rfl)|refine zB rfl rfl rfl (by repeat constructor) rfl ?_|refine zH .here rfl rfl rfl rfl ?_|refine zH (.there .here) rfl rfl rfl rfl ?_|refine zH (.there (.there .here)) rfl rfl rfl rfl ?_) 
    refine oN (ev_store (b := b4) rfl rfl .agg rfl rfl (lay_all (zs := zVt) rfl) ones_zVt (.there (.there .here))) rfl ?_; rintro _ _ _ _ ⟨rfl, _, rfl⟩; (repeat (first|refine zJ rfl rfl ?_|refine jr rfl ?_|refine jn ?_|refine zM rfl rfl ?_|(refine zC rfl rfl ?_ rfl ?_;omega)|(refine zD rfl rfl ?_ rfl ?_;omega)|(refine zP rfl ?_ rfl ?_;omega)|refine zG rfl rfl rfl rfl ?_|(refine jdq rfl rfl ?_ ?_ ?_;kernel_rfl;kernel_rfl)|refine zB rfl rfl rfl (by repeat constructor) rfl ?_|refine zH .here rfl rfl rfl rfl ?_|refine zH (.there .here) rfl rfl rfl rfl ?_|refine zH (.there (.there .here)) rfl rfl rfl rfl ?_)); exact J_retv (vs := [.agg (zVt).toArray, .int .i64 2]) rfl (.agg rfl rfl (Rdb.ofB (n := 0) (.there (.there .here)) rfl) rfl (.tmp rfl .nil)) [] (fun w s => s.drop.drop.drop) hFF ⟨rfl, rfl⟩
end Go.Proofs.Ytaggonhgafggkaa
namespace Go.Proofs.Ytaggonhgafggkaa
open Go.RowKit
set_option maxRecDepth 100000
theorem iN_small {n : Nat} (h : n < 9223372036854775808) : iN n = n := by
  have e : (2 : Int) ^ 64 = 18446744073709551616 := by decide
  unfold iN
  simp only [IntKind.wrap, IntKind.bits, IntKind.signed]
  simp [e]
  omega
theorem u32_small {n : Nat} (h : n < 256) : IntKind.u32.wrap (iN n) = (n : Int) := by
  rw [iN_small (by omega)]
  exact wrap_in (by dsimp only [InK]; omega)
theorem Vo.ok_nat (x : Vo) (m : Nat) : x.ok m = (clB m x.client && stampB x.stamp && decide (x.mask >>> m = 0)) := by unfold Vo.ok; rw [Int.toNat_natCast]

set_option maxHeartbeats 32000000 in
theorem parseVouching_spec (v : Value) (bs : List UInt8) (n : Int) (F : PH) (h : Byt F v bs) (hl : bs.length ≤ 1048576) :
    Spec Try.prog 17 [v, .int .i64 n] F [] (TupQ (voP bs n).1.cells (voP bs n).2) := by
  obtain ⟨a, c, rfl, hc⟩ := h.form
  refine Spec.of2 Try.func17 rfl rfl fun X w0 => ?_
  have hFF := PH.ler F
  refine jc rfl rfl ?_
  refine jr rfl ?_
  refine oE (ev_alloc (cs := zVo) rfl) rfl ?_
  rintro _ _ _ _ ⟨rfl, b4, rfl, rfl⟩
  unfold voP
  repeat (first|refine zJ rfl rfl ?_|refine jr rfl ?_|refine jn ?_|refine zM rfl rfl ?_|(refine zC rfl rfl ?_ rfl ?_;omega)|(refine zD rfl rfl ?_ rfl ?_;omega)|(refine zP rfl ?_ rfl ?_;omega)|refine zG rfl rfl rfl rfl ?_|(refine jdq rfl rfl ?_ ?_ ?_;kernel_rfl;kernel_rfl)|refine zB rfl rfl rfl (by repeat constructor) rfl ?_|refine zH .here rfl rfl rfl rfl ?_|refine zH (.there .here) rfl rfl rfl rfl ?_|refine zH (.there (.there .here)) rfl rfl rfl rfl ?_)
  refine oE (ev_alloc (cs := [.int .i64 0]) rfl) rfl ?_
  rintro _ _ _ _ ⟨rfl, b6, rfl, rfl⟩
  refine oN (ev_store (b := b6) rfl rfl .agg rfl rfl (lay_all (zs := [.int .i64 0]) rfl) (ones_cons rfl ones_nil) .here) rfl ?_
  rintro _ _ _ _ ⟨rfl, _, rfl⟩
  repeat (first|refine zJ rfl rfl ?_|refine jr rfl ?_|refine jn ?_|refine zM rfl rfl ?_|(refine zC rfl rfl ?_ rfl ?_;omega)|(refine zD rfl rfl ?_ rfl ?_;omega)|(refine zP rfl ?_ rfl ?_;omega)|refine zG rfl rfl rfl rfl ?_|(refine jdq rfl rfl ?_ ?_ ?_;kernel_rfl;kernel_rfl)|refine zB rfl rfl rfl (by repeat constructor) rfl ?_|refine zH .here rfl rfl rfl rfl ?_|refine zH (.there .here) rfl rfl rfl rfl ?_|refine zH (.there (.there .here)) rfl rfl rfl rfl ?_)
  refine oS (ev_load_agg (cs := [.int .i64 n]) rfl rfl (Rdb.ofB (n := 0) .here rfl) rfl) rfl ?_
  have hod := odd_spec n F
  by_cases hn : n < 1 ∨ 7 < n
  · rw [if_pos hn]
    rw [decide_eq_true hn] at hod
    refine oP (hod) Try.call53 rfl rfl ?_
    repeat (first|refine zJ rfl rfl ?_|refine jr rfl ?_|refine jn ?_|refine zM rfl rfl ?_|(refine zC rfl rfl ?_ rfl ?_;omega)|(refine zD rfl rfl ?_ rfl ?_;omega)|(refine zP rfl ?_ rfl ?_;omega)|refine zG rfl rfl rfl rfl ?_|(refine jdq rfl rfl ?_ ?_ ?_;kernel_rfl;kernel_rfl)|refine zB rfl rfl rfl (by repeat constructor) rfl ?_|refine zH .here rfl rfl rfl rfl ?_|refine zH (.there .here) rfl rfl rfl rfl ?_|refine zH (.there (.there .here)) rfl rfl rfl rfl ?_)
    refine oN (ev_store (b := b4) rfl rfl .agg rfl rfl (lay_all (zs := zVo) rfl) ones_zVo (.there .here)) rfl ?_
    rintro _ _ _ _ ⟨rfl, _, rfl⟩
    repeat (first|refine zJ rfl rfl ?_|refine jr rfl ?_|refine jn ?_|refine zM rfl rfl ?_|(refine zC rfl rfl ?_ rfl ?_;omega)|(refine zD rfl rfl ?_ rfl ?_;omega)|(refine zP rfl ?_ rfl ?_;omega)|refine zG rfl rfl rfl rfl ?_|(refine jdq rfl rfl ?_ ?_ ?_;kernel_rfl;kernel_rfl)|refine zB rfl rfl rfl (by repeat constructor) rfl ?_|refine zH .here rfl rfl rfl rfl ?_|refine zH (.there .here) rfl rfl rfl rfl ?_|refine zH (.there (.there .here)) rfl rfl rfl rfl ?_)
    exact J_retv (vs := [.agg (zVo).toArray, .int .i64 1]) rfl (.agg rfl rfl (Rdb.ofB (n := 0) (.there .here) rfl) rfl (.tmp rfl .nil)) [] (fun w s => s.drop.drop) hFF ⟨rfl, rfl⟩
  rw [if_neg hn]
  have hn1 : ¬ n < 1 := fun h => hn (.inl h)
  have hn7 : ¬ 7 < n := fun h => hn (.inr h)
  obtain ⟨m, rfl⟩ : ∃ m : Nat, n = m := ⟨n.toNat, by omega⟩
  rw [decide_eq_false hn] at hod
  refine oP (hod) Try.call53 rfl rfl ?_
  repeat (first|refine zJ rfl rfl ?_|refine jr rfl ?_|refine jn ?_|refine zM rfl rfl ?_|(refine zC rfl rfl ?_ rfl ?_;omega)|(refine zD rfl rfl ?_ rfl ?_;omega)|(refine zP rfl ?_ rfl ?_;omega)|refine zG rfl rfl rfl rfl ?_|(refine jdq rfl rfl ?_ ?_ ?_;kernel_rfl;kernel_rfl)|refine zB rfl rfl rfl (by repeat constructor) rfl ?_|refine zH .here rfl rfl rfl rfl ?_|refine zH (.there .here) rfl rfl rfl rfl ?_|refine zH (.there (.there .here)) rfl rfl rfl rfl ?_)
  refine oC (Hc := []) (Hr := blk b6 86 [.int .i64 (m : Int)] :: blk b4 28 zVo :: X) (read_spec _ bs F h (by omega)) Try.call47 rfl rfl (fun _ s => s) ?_
  rintro _ F0 _ hF0 ⟨br, v0, rfl, hv0, rfl⟩
  repeat (first|refine zJ rfl rfl ?_|refine jr rfl ?_|refine jn ?_|refine zM rfl rfl ?_|(refine zC rfl rfl ?_ rfl ?_;omega)|(refine zD rfl rfl ?_ rfl ?_;omega)|(refine zP rfl ?_ rfl ?_;omega)|refine zG rfl rfl rfl rfl ?_|(refine jdq rfl rfl ?_ ?_ ?_;kernel_rfl;kernel_rfl)|refine zB rfl rfl rfl (by repeat constructor) rfl ?_|refine zH .here rfl rfl rfl rfl ?_|refine zH (.there .here) rfl rfl rfl rfl ?_|refine zH (.there (.there .here)) rfl rfl rfl rfl ?_)
  refine oC (Hc := [rdr br (v0) (0)]) (Hr := blk b6 86 [.int .i64 (m : Int)] :: blk b4 28 zVo :: X) (small_spec br (v0) (0) (bs) F0 hv0 (by omega)) Try.call54 rfl rfl (fun _ s => s) ?_; rintro _ F1 _ hF1 ⟨v1, rfl, hv1, rfl⟩; have n1 := numR_rest (0) (bs) 1; generalize hr1 : numR (0) (bs) 1 = r1 at *
  repeat (first|refine zJ rfl rfl ?_|refine jr rfl ?_|refine jn ?_|refine zM rfl rfl ?_|(refine zC rfl rfl ?_ rfl ?_;omega)|(refine zD rfl rfl ?_ rfl ?_;omega)|(refine zP rfl ?_ rfl ?_;omega)|refine zG rfl rfl rfl rfl ?_|(refine jdq rfl rfl ?_ ?_ ?_;kernel_rfl;kernel_rfl)|refine zB rfl rfl rfl (by repeat constructor) rfl ?_|refine zH .here rfl rfl rfl rfl ?_|refine zH (.there .here) rfl rfl rfl rfl ?_|refine zH (.there (.there .here)) rfl rfl rfl rfl ?_)
  refine oC (Hc := [rdr br (v1) (r1.2.1)]) (Hr := blk b6 86 [.int .i64 (m : Int)] :: blk b4 28 zVo :: X) (num_spec br (v1) (r1.2.1) (r1.2.2) F1 hv1 (by omega)) Try.call48 rfl rfl (fun _ s => s) ?_; rintro _ F2 _ hF2 ⟨v2, rfl, hv2, rfl⟩; have n2 := numR_rest (r1.2.1) (r1.2.2) 8; generalize hr2 : numR (r1.2.1) (r1.2.2) 8 = r2 at *
  repeat (first|refine zJ rfl rfl ?_|refine jr rfl ?_|refine jn ?_|refine zM rfl rfl ?_|(refine zC rfl rfl ?_ rfl ?_;omega)|(refine zD rfl rfl ?_ rfl ?_;omega)|(refine zP rfl ?_ rfl ?_;omega)|refine zG rfl rfl rfl rfl ?_|(refine jdq rfl rfl ?_ ?_ ?_;kernel_rfl;kernel_rfl)|refine zB rfl rfl rfl (by repeat constructor) rfl ?_|refine zH .here rfl rfl rfl rfl ?_|refine zH (.there .here) rfl rfl rfl rfl ?_|refine zH (.there (.there .here)) rfl rfl rfl rfl ?_)
  refine oE (ev_alloc (cs := zVo) rfl) rfl ?_
  rintro _ _ _ _ ⟨rfl, b5, rfl, rfl⟩
  refine oN (ev_store (b := b5) rfl rfl .agg rfl rfl (lay_all (zs := zVo) rfl) (ones_cons rfl (ones_cons rfl (ones_tail (ones_tail ones_zVo)))) .here) rfl ?_
  rintro _ _ _ _ ⟨rfl, _, rfl⟩
  repeat (first|refine zJ rfl rfl ?_|refine jr rfl ?_|refine jn ?_|refine zM rfl rfl ?_|(refine zC rfl rfl ?_ rfl ?_;omega)|(refine zD rfl rfl ?_ rfl ?_;omega)|(refine zP rfl ?_ rfl ?_;omega)|refine zG rfl rfl rfl rfl ?_|(refine jdq rfl rfl ?_ ?_ ?_;kernel_rfl;kernel_rfl)|refine zB rfl rfl rfl (by repeat constructor) rfl ?_|refine zH .here rfl rfl rfl rfl ?_|refine zH (.there .here) rfl rfl rfl rfl ?_|refine zH (.there (.there .here)) rfl rfl rfl rfl ?_)
  refine oC (Hc := [rdr br v2 r2.2.1]) (Hr := blk b5 28 (.int .i64 (iN r1.1) :: .int .i64 (iN r2.1) :: (z32 ++ [Value.int .u32 0])) :: blk b6 86 [.int .i64 (m : Int)] :: blk b4 28 zVo :: X) (digest_spec br v2 r2.2.1 r2.2.2 F2 hv2 (by omega)) Try.call49 rfl rfl (fun _ s => s.pick (.there .here)) ?_
  rintro _ F3 _ hF3 ⟨v3, rfl, hv3, rfl⟩
  have n3 := fixR_rest r2.2.1 r2.2.2 32
  have h32 := fixR_le32 r2.2.1 r2.2.2
  generalize hr3 : fixR r2.2.1 r2.2.2 32 = r3 at *
  have hdg : (pad32 r3.1).length = 32 := pad32_len h32
  repeat (first|refine zJ rfl rfl ?_|refine jr rfl ?_|refine jn ?_|refine zM rfl rfl ?_|(refine zC rfl rfl ?_ rfl ?_;omega)|(refine zD rfl rfl ?_ rfl ?_;omega)|(refine zP rfl ?_ rfl ?_;omega)|refine zG rfl rfl rfl rfl ?_|(refine jdq rfl rfl ?_ ?_ ?_;kernel_rfl;kernel_rfl)|refine zB rfl rfl rfl (by repeat constructor) rfl ?_|refine zH .here rfl rfl rfl rfl ?_|refine zH (.there .here) rfl rfl rfl rfl ?_|refine zH (.there (.there .here)) rfl rfl rfl rfl ?_)
  refine oN (ev_store (b := b5) rfl rfl .agg rfl (by rw [u8s_len]; exact hdg) (lay_dig_vo (x := ⟨iN r1.1, iN r2.1, pad32 r3.1, 0⟩) hdg) (u8s_ones _) (.there .here)) rfl ?_
  rintro _ _ _ _ ⟨rfl, _, rfl⟩
  have m4 := numR_lt r3.2.1 r3.2.2 1
  repeat (first|refine zJ rfl rfl ?_|refine jr rfl ?_|refine jn ?_|refine zM rfl rfl ?_|(refine zC rfl rfl ?_ rfl ?_;omega)|(refine zD rfl rfl ?_ rfl ?_;omega)|(refine zP rfl ?_ rfl ?_;omega)|refine zG rfl rfl rfl rfl ?_|(refine jdq rfl rfl ?_ ?_ ?_;kernel_rfl;kernel_rfl)|refine zB rfl rfl rfl (by repeat constructor) rfl ?_|refine zH .here rfl rfl rfl rfl ?_|refine zH (.there .here) rfl rfl rfl rfl ?_|refine zH (.there (.there .here)) rfl rfl rfl rfl ?_)
  refine oC (Hc := [rdr br (v3) (r3.2.1)]) (Hr := blk b5 28 (.int .i64 (iN r1.1) :: .int .i64 (iN r2.1) :: (u8s (pad32 r3.1) ++ [Value.int .u32 0])) :: blk b6 86 [.int .i64 (m : Int)] :: blk b4 28 zVo :: X) (small_spec br (v3) (r3.2.1) (r3.2.2) F3 hv3 (by omega)) Try.call54 rfl rfl (fun _ s => s) ?_; rintro _ F4 _ hF4 ⟨v4, rfl, hv4, rfl⟩; have n4 := numR_rest (r3.2.1) (r3.2.2) 1; generalize hr4 : numR (r3.2.1) (r3.2.2) 1 = r4 at *
  repeat (first|refine zJ rfl rfl ?_|refine jr rfl ?_|refine jn ?_|refine zM rfl rfl ?_|(refine zC rfl rfl ?_ rfl ?_;omega)|(refine zD rfl rfl ?_ rfl ?_;omega)|(refine zP rfl ?_ rfl ?_;omega)|refine zG rfl rfl rfl rfl ?_|(refine jdq rfl rfl ?_ ?_ ?_;kernel_rfl;kernel_rfl)|refine zB rfl rfl rfl (by repeat constructor) rfl ?_|refine zH .here rfl rfl rfl rfl ?_|refine zH (.there .here) rfl rfl rfl rfl ?_|refine zH (.there (.there .here)) rfl rfl rfl rfl ?_)
  replace m4 : r4.1 < 256 := m4
  refine oS (ev_conv rfl rfl rfl (u32_small m4)) rfl ?_
  repeat (first|refine zJ rfl rfl ?_|refine jr rfl ?_|refine jn ?_|refine zM rfl rfl ?_|(refine zC rfl rfl ?_ rfl ?_;omega)|(refine zD rfl rfl ?_ rfl ?_;omega)|(refine zP rfl ?_ rfl ?_;omega)|refine zG rfl rfl rfl rfl ?_|(refine jdq rfl rfl ?_ ?_ ?_;kernel_rfl;kernel_rfl)|refine zB rfl rfl rfl (by repeat constructor) rfl ?_|refine zH .here rfl rfl rfl rfl ?_|refine zH (.there .here) rfl rfl rfl rfl ?_|refine zH (.there (.there .here)) rfl rfl rfl rfl ?_)
  refine oN (ev_store (b := b5) rfl rfl .int rfl rfl (lay_mask_vo (x := ⟨iN r1.1, iN r2.1, pad32 r3.1, r4.1⟩) hdg) (ones_cons rfl ones_nil) (.there .here)) rfl ?_
  rintro _ _ _ _ ⟨rfl, _, rfl⟩
  repeat (first|refine zJ rfl rfl ?_|refine jr rfl ?_|refine jn ?_|refine zM rfl rfl ?_|(refine zC rfl rfl ?_ rfl ?_;omega)|(refine zD rfl rfl ?_ rfl ?_;omega)|(refine zP rfl ?_ rfl ?_;omega)|refine zG rfl rfl rfl rfl ?_|(refine jdq rfl rfl ?_ ?_ ?_;kernel_rfl;kernel_rfl)|refine zB rfl rfl rfl (by repeat constructor) rfl ?_|refine zH .here rfl rfl rfl rfl ?_|refine zH (.there .here) rfl rfl rfl rfl ?_|refine zH (.there (.there .here)) rfl rfl rfl rfl ?_)
  replace hFF := hF0.trans (hF1.trans (hF2.trans (hF3.trans (hF4))))
  have hx : VoR bs = (⟨iN r1.1, iN r2.1, pad32 r3.1, r4.1⟩, r4.2) := by unfold VoR; dsimp only; rw [hr1, hr2, hr3, hr4]
  rw [hx]
  dsimp only
  have hmk : (⟨iN r1.1, iN r2.1, pad32 r3.1, r4.1⟩ : Vo).mask < 256 := m4
  replace hdg : (⟨iN r1.1, iN r2.1, pad32 r3.1, r4.1⟩ : Vo).dig.length = 32 := hdg
  generalize (⟨iN r1.1, iN r2.1, pad32 r3.1, r4.1⟩ : Vo) = x at *
  refine oC (Hc := [rdr br v4 r4.2.1]) (Hr := blk b5 28 x.cells :: blk b6 86 [.int .i64 (m : Int)] :: blk b4 28 zVo :: X) (end_spec br v4 r4.2.1 r4.2.2 F4 hv4) Try.call50 rfl rfl (fun _ s => s) ?_
  rintro _ _ _ _ ⟨rfl, rfl, rfl⟩
  by_cases he : endR r4.2.1 r4.2.2 = 0
  · rw [if_neg (fun h => h he), Vo.ok_nat]
    have hs1 := client_spec m x.client F4 ⟨by omega, by omega⟩
    have hs2 := stamp_spec x.stamp F4
    have hm1 := hmk
    cases hb1 : clB m x.client with
    | false =>
      rw [hb1] at hs1
      rw [if_pos (by simp)]
      repeat (first|refine zJ rfl rfl ?_|refine jr rfl ?_|refine jn ?_|refine zM rfl rfl ?_|(refine zC rfl rfl ?_ rfl ?_;omega)|(refine zD rfl rfl ?_ rfl ?_;omega)|(refine zP rfl ?_ rfl ?_;omega)|refine zG rfl rfl rfl rfl ?_|(refine jdq rfl rfl ?_ ?_ ?_;kernel_rfl;kernel_rfl)|refine zB rfl rfl rfl (by repeat constructor) rfl ?_|refine zH .here rfl rfl rfl rfl ?_|refine zH (.there .here) rfl rfl rfl rfl ?_|refine zH (.there (.there .here)) rfl rfl rfl rfl ?_)
      refine oS (ev_load_agg (cs := [.int .i64 (m : Int)]) rfl rfl (Rdb.ofB (n := 0) (.there (.there .here)) rfl) rfl) rfl ?_
      repeat (first|refine zJ rfl rfl ?_|refine jr rfl ?_|refine jn ?_|refine zM rfl rfl ?_|(refine zC rfl rfl ?_ rfl ?_;omega)|(refine zD rfl rfl ?_ rfl ?_;omega)|(refine zP rfl ?_ rfl ?_;omega)|refine zG rfl rfl rfl rfl ?_|(refine jdq rfl rfl ?_ ?_ ?_;kernel_rfl;kernel_rfl)|refine zB rfl rfl rfl (by repeat constructor) rfl ?_|refine zH .here rfl rfl rfl rfl ?_|refine zH (.there .here) rfl rfl rfl rfl ?_|refine zH (.there (.there .here)) rfl rfl rfl rfl ?_)
      refine oP (hs1) Try.call55 rfl rfl ?_
      repeat (first|refine zJ rfl rfl ?_|refine jr rfl ?_|refine jn ?_|refine zM rfl rfl ?_|(refine zC rfl rfl ?_ rfl ?_;omega)|(refine zD rfl rfl ?_ rfl ?_;omega)|(refine zP rfl ?_ rfl ?_;omega)|refine zG rfl rfl rfl rfl ?_|(refine jdq rfl rfl ?_ ?_ ?_;kernel_rfl;kernel_rfl)|refine zB rfl rfl rfl (by repeat constructor) rfl ?_|refine zH .here rfl rfl rfl rfl ?_|refine zH (.there .here) rfl rfl rfl rfl ?_|refine zH (.there (.there .here)) rfl rfl rfl rfl ?_)
      refine oN (ev_store (b := b4) rfl rfl .agg rfl rfl (lay_all (zs := zVo) rfl) ones_zVo (.there (.there (.there .here)))) rfl ?_
      rintro _ _ _ _ ⟨rfl, _, rfl⟩
      repeat (first|refine zJ rfl rfl ?_|refine jr rfl ?_|refine jn ?_|refine zM rfl rfl ?_|(refine zC rfl rfl ?_ rfl ?_;omega)|(refine zD rfl rfl ?_ rfl ?_;omega)|(refine zP rfl ?_ rfl ?_;omega)|refine zG rfl rfl rfl rfl ?_|(refine jdq rfl rfl ?_ ?_ ?_;kernel_rfl;kernel_rfl)|refine zB rfl rfl rfl (by repeat constructor) rfl ?_|refine zH .here rfl rfl rfl rfl ?_|refine zH (.there .here) rfl rfl rfl rfl ?_|refine zH (.there (.there .here)) rfl rfl rfl rfl ?_)
      exact J_retv (vs := [.agg (zVo).toArray, .int .i64 5]) rfl (.agg rfl rfl (Rdb.ofB (n := 0) (.there (.there (.there .here))) rfl) rfl (.tmp rfl .nil)) [] (fun w s => s.drop.drop.drop.drop) hFF ⟨rfl, rfl⟩
    | true =>
      rw [hb1] at hs1
      cases hb2 : stampB x.stamp with
      | false =>
        rw [hb2] at hs2
        rw [if_pos (by simp)]
        repeat (first|refine zJ rfl rfl ?_|refine jr rfl ?_|refine jn ?_|refine zM rfl rfl ?_|(refine zC rfl rfl ?_ rfl ?_;omega)|(refine zD rfl rfl ?_ rfl ?_;omega)|(refine zP rfl ?_ rfl ?_;omega)|refine zG rfl rfl rfl rfl ?_|(refine jdq rfl rfl ?_ ?_ ?_;kernel_rfl;kernel_rfl)|refine zB rfl rfl rfl (by repeat constructor) rfl ?_|refine zH .here rfl rfl rfl rfl ?_|refine zH (.there .here) rfl rfl rfl rfl ?_|refine zH (.there (.there .here)) rfl rfl rfl rfl ?_)
        refine oS (ev_load_agg (cs := [.int .i64 (m : Int)]) rfl rfl (Rdb.ofB (n := 0) (.there (.there .here)) rfl) rfl) rfl ?_
        repeat (first|refine zJ rfl rfl ?_|refine jr rfl ?_|refine jn ?_|refine zM rfl rfl ?_|(refine zC rfl rfl ?_ rfl ?_;omega)|(refine zD rfl rfl ?_ rfl ?_;omega)|(refine zP rfl ?_ rfl ?_;omega)|refine zG rfl rfl rfl rfl ?_|(refine jdq rfl rfl ?_ ?_ ?_;kernel_rfl;kernel_rfl)|refine zB rfl rfl rfl (by repeat constructor) rfl ?_|refine zH .here rfl rfl rfl rfl ?_|refine zH (.there .here) rfl rfl rfl rfl ?_|refine zH (.there (.there .here)) rfl rfl rfl rfl ?_)
        refine oP (hs1) Try.call55 rfl rfl ?_
        repeat (first|refine zJ rfl rfl ?_|refine jr rfl ?_|refine jn ?_|refine zM rfl rfl ?_|(refine zC rfl rfl ?_ rfl ?_;omega)|(refine zD rfl rfl ?_ rfl ?_;omega)|(refine zP rfl ?_ rfl ?_;omega)|refine zG rfl rfl rfl rfl ?_|(refine jdq rfl rfl ?_ ?_ ?_;kernel_rfl;kernel_rfl)|refine zB rfl rfl rfl (by repeat constructor) rfl ?_|refine zH .here rfl rfl rfl rfl ?_|refine zH (.there .here) rfl rfl rfl rfl ?_|refine zH (.there (.there .here)) rfl rfl rfl rfl ?_)
        refine oP (hs2) Try.call56 rfl rfl ?_
        repeat (first|refine zJ rfl rfl ?_|refine jr rfl ?_|refine jn ?_|refine zM rfl rfl ?_|(refine zC rfl rfl ?_ rfl ?_;omega)|(refine zD rfl rfl ?_ rfl ?_;omega)|(refine zP rfl ?_ rfl ?_;omega)|refine zG rfl rfl rfl rfl ?_|(refine jdq rfl rfl ?_ ?_ ?_;kernel_rfl;kernel_rfl)|refine zB rfl rfl rfl (by repeat constructor) rfl ?_|refine zH .here rfl rfl rfl rfl ?_|refine zH (.there .here) rfl rfl rfl rfl ?_|refine zH (.there (.there .here)) rfl rfl rfl rfl ?_)
        refine oN (ev_store (b := b4) rfl rfl .agg rfl rfl (lay_all (zs := zVo) rfl) ones_zVo (.there (.there (.there .here)))) rfl ?_
        rintro _ _ _ _ ⟨rfl, _, rfl⟩
        repeat (first|refine zJ rfl rfl ?_|refine jr rfl ?_|refine jn ?_|refine zM rfl rfl ?_|(refine zC rfl rfl ?_ rfl ?_;omega)|(refine zD rfl rfl ?_ rfl ?_;omega)|(refine zP rfl ?_ rfl ?_;omega)|refine zG rfl rfl rfl rfl ?_|(refine jdq rfl rfl ?_ ?_ ?_;kernel_rfl;kernel_rfl)|refine zB rfl rfl rfl (by repeat constructor) rfl ?_|refine zH .here rfl rfl rfl rfl ?_|refine zH (.there .here) rfl rfl rfl rfl ?_|refine zH (.there (.there .here)) rfl rfl rfl rfl ?_)
        exact J_retv (vs := [.agg (zVo).toArray, .int .i64 5]) rfl (.agg rfl rfl (Rdb.ofB (n := 0) (.there (.there (.there .here))) rfl) rfl (.tmp rfl .nil)) [] (fun w s => s.drop.drop.drop.drop) hFF ⟨rfl, rfl⟩
      | true =>
        rw [hb2] at hs2
        by_cases hq : x.mask >>> m = 0
        · rw [if_neg (by simp [hq])]
          repeat (first|refine zJ rfl rfl ?_|refine jr rfl ?_|refine jn ?_|refine zM rfl rfl ?_|(refine zC rfl rfl ?_ rfl ?_;omega)|(refine zD rfl rfl ?_ rfl ?_;omega)|(refine zP rfl ?_ rfl ?_;omega)|refine zG rfl rfl rfl rfl ?_|(refine jdq rfl rfl ?_ ?_ ?_;kernel_rfl;kernel_rfl)|refine zB rfl rfl rfl (by repeat constructor) rfl ?_|refine zH .here rfl rfl rfl rfl ?_|refine zH (.there .here) rfl rfl rfl rfl ?_|refine zH (.there (.there .here)) rfl rfl rfl rfl ?_)
          refine oS (ev_load_agg (cs := [.int .i64 (m : Int)]) rfl rfl (Rdb.ofB (n := 0) (.there (.there .here)) rfl) rfl) rfl ?_
          repeat (first|refine zJ rfl rfl ?_|refine jr rfl ?_|refine jn ?_|refine zM rfl rfl ?_|(refine zC rfl rfl ?_ rfl ?_;omega)|(refine zD rfl rfl ?_ rfl ?_;omega)|(refine zP rfl ?_ rfl ?_;omega)|refine zG rfl rfl rfl rfl ?_|(refine jdq rfl rfl ?_ ?_ ?_;kernel_rfl;kernel_rfl)|refine zB rfl rfl rfl (by repeat constructor) rfl ?_|refine zH .here rfl rfl rfl rfl ?_|refine zH (.there .here) rfl rfl rfl rfl ?_|refine zH (.there (.there .here)) rfl rfl rfl rfl ?_)
          refine oP (hs1) Try.call55 rfl rfl ?_
          repeat (first|refine zJ rfl rfl ?_|refine jr rfl ?_|refine jn ?_|refine zM rfl rfl ?_|(refine zC rfl rfl ?_ rfl ?_;omega)|(refine zD rfl rfl ?_ rfl ?_;omega)|(refine zP rfl ?_ rfl ?_;omega)|refine zG rfl rfl rfl rfl ?_|(refine jdq rfl rfl ?_ ?_ ?_;kernel_rfl;kernel_rfl)|refine zB rfl rfl rfl (by repeat constructor) rfl ?_|refine zH .here rfl rfl rfl rfl ?_|refine zH (.there .here) rfl rfl rfl rfl ?_|refine zH (.there (.there .here)) rfl rfl rfl rfl ?_)
          refine oP (hs2) Try.call56 rfl rfl ?_
          repeat (first|refine zJ rfl rfl ?_|refine jr rfl ?_|refine jn ?_|refine zM rfl rfl ?_|(refine zC rfl rfl ?_ rfl ?_;omega)|(refine zD rfl rfl ?_ rfl ?_;omega)|(refine zP rfl ?_ rfl ?_;omega)|refine zG rfl rfl rfl rfl ?_|(refine jdq rfl rfl ?_ ?_ ?_;kernel_rfl;kernel_rfl)|refine zB rfl rfl rfl (by repeat constructor) rfl ?_|refine zH .here rfl rfl rfl rfl ?_|refine zH (.there .here) rfl rfl rfl rfl ?_|refine zH (.there (.there .here)) rfl rfl rfl rfl ?_)
          refine oS (ev_load rfl rfl (Rdb.ofB (n := 0) (.there .here) (Vo.mask_at hdg))) rfl ?_
          repeat (first|refine zJ rfl rfl ?_|refine jr rfl ?_|refine jn ?_|refine zM rfl rfl ?_|(refine zC rfl rfl ?_ rfl ?_;omega)|(refine zD rfl rfl ?_ rfl ?_;omega)|(refine zP rfl ?_ rfl ?_;omega)|refine zG rfl rfl rfl rfl ?_|(refine jdq rfl rfl ?_ ?_ ?_;kernel_rfl;kernel_rfl)|refine zB rfl rfl rfl (by repeat constructor) rfl ?_|refine zH .here rfl rfl rfl rfl ?_|refine zH (.there .here) rfl rfl rfl rfl ?_|refine zH (.there (.there .here)) rfl rfl rfl rfl ?_)
          refine oS (ev_shr rfl rfl (show x.mask < 4294967296 by omega)) rfl ?_
          generalize x.mask >>> m = q at *
          repeat (first|refine zJ rfl rfl ?_|refine jr rfl ?_|refine jn ?_|refine zM rfl rfl ?_|(refine zC rfl rfl ?_ rfl ?_;omega)|(refine zD rfl rfl ?_ rfl ?_;omega)|(refine zP rfl ?_ rfl ?_;omega)|refine zG rfl rfl rfl rfl ?_|(refine jdq rfl rfl ?_ ?_ ?_;kernel_rfl;kernel_rfl)|refine zB rfl rfl rfl (by repeat constructor) rfl ?_|refine zH .here rfl rfl rfl rfl ?_|refine zH (.there .here) rfl rfl rfl rfl ?_|refine zH (.there (.there .here)) rfl rfl rfl rfl ?_)
          refine oS (ev_load_agg (cs := x.cells) rfl rfl (Rdb.ofB (n := 0) (.there .here) (by rw [List.drop_zero, List.take_length])) (Vo.len hdg)) rfl ?_
          refine oN (ev_store (b := b4) rfl rfl .agg rfl (Vo.len hdg) (lay_all (zs := zVo) (Vo.len hdg)) x.ones (.there (.there (.there .here)))) rfl ?_
          rintro _ _ _ _ ⟨rfl, _, rfl⟩
          repeat (first|refine zJ rfl rfl ?_|refine jr rfl ?_|refine jn ?_|refine zM rfl rfl ?_|(refine zC rfl rfl ?_ rfl ?_;omega)|(refine zD rfl rfl ?_ rfl ?_;omega)|(refine zP rfl ?_ rfl ?_;omega)|refine zG rfl rfl rfl rfl ?_|(refine jdq rfl rfl ?_ ?_ ?_;kernel_rfl;kernel_rfl)|refine zB rfl rfl rfl (by repeat constructor) rfl ?_|refine zH .here rfl rfl rfl rfl ?_|refine zH (.there .here) rfl rfl rfl rfl ?_|refine zH (.there (.there .here)) rfl rfl rfl rfl ?_)
          exact J_retv (vs := [.agg x.cells.toArray, .int .i64 0]) rfl (.agg rfl rfl (Rdb.ofB (n := 0) (.there (.there (.there .here))) (by rw [List.drop_zero, List.take_length])) (Vo.len hdg) (.tmp rfl .nil)) [] (fun w s => s.drop.drop.drop.drop) hFF ⟨rfl, rfl⟩
        · rw [if_pos (by simp [hq])]
          repeat (first|refine zJ rfl rfl ?_|refine jr rfl ?_|refine jn ?_|refine zM rfl rfl ?_|(refine zC rfl rfl ?_ rfl ?_;omega)|(refine zD rfl rfl ?_ rfl ?_;omega)|(refine zP rfl ?_ rfl ?_;omega)|refine zG rfl rfl rfl rfl ?_|(refine jdq rfl rfl ?_ ?_ ?_;kernel_rfl;kernel_rfl)|refine zB rfl rfl rfl (by repeat constructor) rfl ?_|refine zH .here rfl rfl rfl rfl ?_|refine zH (.there .here) rfl rfl rfl rfl ?_|refine zH (.there (.there .here)) rfl rfl rfl rfl ?_)
          refine oS (ev_load_agg (cs := [.int .i64 (m : Int)]) rfl rfl (Rdb.ofB (n := 0) (.there (.there .here)) rfl) rfl) rfl ?_
          repeat (first|refine zJ rfl rfl ?_|refine jr rfl ?_|refine jn ?_|refine zM rfl rfl ?_|(refine zC rfl rfl ?_ rfl ?_;omega)|(refine zD rfl rfl ?_ rfl ?_;omega)|(refine zP rfl ?_ rfl ?_;omega)|refine zG rfl rfl rfl rfl ?_|(refine jdq rfl rfl ?_ ?_ ?_;kernel_rfl;kernel_rfl)|refine zB rfl rfl rfl (by repeat constructor) rfl ?_|refine zH .here rfl rfl rfl rfl ?_|refine zH (.there .here) rfl rfl rfl rfl ?_|refine zH (.there (.there .here)) rfl rfl rfl rfl ?_)
          refine oP (hs1) Try.call55 rfl rfl ?_
          repeat (first|refine zJ rfl rfl ?_|refine jr rfl ?_|refine jn ?_|refine zM rfl rfl ?_|(refine zC rfl rfl ?_ rfl ?_;omega)|(refine zD rfl rfl ?_ rfl ?_;omega)|(refine zP rfl ?_ rfl ?_;omega)|refine zG rfl rfl rfl rfl ?_|(refine jdq rfl rfl ?_ ?_ ?_;kernel_rfl;kernel_rfl)|refine zB rfl rfl rfl (by repeat constructor) rfl ?_|refine zH .here rfl rfl rfl rfl ?_|refine zH (.there .here) rfl rfl rfl rfl ?_|refine zH (.there (.there .here)) rfl rfl rfl rfl ?_)
          refine oP (hs2) Try.call56 rfl rfl ?_
          repeat (first|refine zJ rfl rfl ?_|refine jr rfl ?_|refine jn ?_|refine zM rfl rfl ?_|(refine zC rfl rfl ?_ rfl ?_;omega)|(refine zD rfl rfl ?_ rfl ?_;omega)|(refine zP rfl ?_ rfl ?_;omega)|refine zG rfl rfl rfl rfl ?_|(refine jdq rfl rfl ?_ ?_ ?_;kernel_rfl;kernel_rfl)|refine zB rfl rfl rfl (by repeat constructor) rfl ?_|refine zH .here rfl rfl rfl rfl ?_|refine zH (.there .here) rfl rfl rfl rfl ?_|refine zH (.there (.there .here)) rfl rfl rfl rfl ?_)
          refine oS (ev_load rfl rfl (Rdb.ofB (n := 0) (.there .here) (Vo.mask_at hdg))) rfl ?_
          repeat (first|refine zJ rfl rfl ?_|refine jr rfl ?_|refine jn ?_|refine zM rfl rfl ?_|(refine zC rfl rfl ?_ rfl ?_;omega)|(refine zD rfl rfl ?_ rfl ?_;omega)|(refine zP rfl ?_ rfl ?_;omega)|refine zG rfl rfl rfl rfl ?_|(refine jdq rfl rfl ?_ ?_ ?_;kernel_rfl;kernel_rfl)|refine zB rfl rfl rfl (by repeat constructor) rfl ?_|refine zH .here rfl rfl rfl rfl ?_|refine zH (.there .here) rfl rfl rfl rfl ?_|refine zH (.there (.there .here)) rfl rfl rfl rfl ?_)
          refine oS (ev_shr rfl rfl (show x.mask < 4294967296 by omega)) rfl ?_
          generalize x.mask >>> m = q at *
          repeat (first|refine zJ rfl rfl ?_|refine jr rfl ?_|refine jn ?_|refine zM rfl rfl ?_|(refine zC rfl rfl ?_ rfl ?_;omega)|(refine zD rfl rfl ?_ rfl ?_;omega)|(refine zP rfl ?_ rfl ?_;omega)|refine zG rfl rfl rfl rfl ?_|(refine jdq rfl rfl ?_ ?_ ?_;kernel_rfl;kernel_rfl)|refine zB rfl rfl rfl (by repeat constructor) rfl ?_|refine zH .here rfl rfl rfl rfl ?_|refine zH (.there .here) rfl rfl rfl rfl ?_|refine zH (.there (.there .here)) rfl rfl rfl rfl ?_)
          refine oN (ev_store (b := b4) rfl rfl .agg rfl rfl (lay_all (zs := zVo) rfl) ones_zVo (.there (.there (.there .here)))) rfl ?_
          rintro _ _ _ _ ⟨rfl, _, rfl⟩
          repeat (first|refine zJ rfl rfl ?_|refine jr rfl ?_|refine jn ?_|refine zM rfl rfl ?_|(refine zC rfl rfl ?_ rfl ?_;omega)|(refine zD rfl rfl ?_ rfl ?_;omega)|(refine zP rfl ?_ rfl ?_;omega)|refine zG rfl rfl rfl rfl ?_|(refine jdq rfl rfl ?_ ?_ ?_;kernel_rfl;kernel_rfl)|refine zB rfl rfl rfl (by repeat constructor) rfl ?_|refine zH .here rfl rfl rfl rfl ?_|refine zH (.there .here) rfl rfl rfl rfl ?_|refine zH (.there (.there .here)) rfl rfl rfl rfl ?_)
          exact J_retv (vs := [.agg (zVo).toArray, .int .i64 5]) rfl (.agg rfl rfl (Rdb.ofB (n := 0) (.there (.there (.there .here))) rfl) rfl (.tmp rfl .nil)) [] (fun w s => s.drop.drop.drop.drop) hFF ⟨rfl, rfl⟩
  · rw [if_pos he]
    repeat (first|refine zJ rfl rfl ?_|refine jr rfl ?_|refine jn ?_|refine zM rfl rfl ?_|(refine zC rfl rfl ?_ rfl ?_;omega)|(refine zD rfl rfl ?_ rfl ?_;omega)|(refine zP rfl ?_ rfl ?_;omega)|refine zG rfl rfl rfl rfl ?_|(refine jdq rfl rfl ?_ ?_ ?_;kernel_rfl;kernel_rfl)|refine zB rfl rfl rfl (by repeat constructor) rfl ?_|refine zH .here rfl rfl rfl rfl ?_|refine zH (.there .here) rfl rfl rfl rfl ?_|refine zH (.there (.there .here)) rfl rfl rfl rfl ?_)
    refine oN (ev_store (b := b4) rfl rfl .agg rfl rfl (lay_all (zs := zVo) rfl) ones_zVo (.there (.there (.there .here)))) rfl ?_
    rintro _ _ _ _ ⟨rfl, _, rfl⟩
    repeat (first|refine zJ rfl rfl ?_|refine jr rfl ?_|refine jn ?_|refine zM rfl rfl ?_|(refine zC rfl rfl ?_ rfl ?_;omega)|(refine zD rfl rfl ?_ rfl ?_;omega)|(refine zP rfl ?_ rfl ?_;omega)|refine zG rfl rfl rfl rfl ?_|(refine jdq rfl rfl ?_ ?_ ?_;kernel_rfl;kernel_rfl)|refine zB rfl rfl rfl (by repeat constructor) rfl ?_|refine zH .here rfl rfl rfl rfl ?_|refine zH (.there .here) rfl rfl rfl rfl ?_|refine zH (.there (.there .here)) rfl rfl rfl rfl ?_)
    exact J_retv (vs := [.agg (zVo).toArray, .int .i64 2]) rfl (.agg rfl rfl (Rdb.ofB (n := 0) (.there (.there (.there .here))) rfl) rfl (.tmp rfl .nil)) [] (fun w s => s.drop.drop.drop.drop) hFF ⟨rfl, rfl⟩
set_option maxHeartbeats 32000000 in
theorem ParseVouching_spec (v : Value) (bs : List UInt8) (n : Int) (F : PH) (h : Byt F v bs) (hl : bs.length ≤ 1048576) :
    Spec Try.prog 20 [v, .int .i64 n] F [] (TupQ (voP bs n).1.cells (voP bs n).2) := by
  obtain ⟨a, c, rfl, hc⟩ := h.form
  obtain ⟨pl, hpl, hfill⟩ := fill_vo
  refine Spec.of2 Try.func20 rfl rfl fun X w0 => ?_
  have hFF := PH.ler F
  refine jc rfl rfl ?_
  refine jr rfl ?_
  refine oE (ev_alloc (cs := zVo) rfl) rfl ?_
  rintro _ _ _ _ ⟨rfl, b4, rfl, rfl⟩
  unfold voP
  by_cases hn : n < 1 ∨ 7 < n
  · rw [if_pos hn]
    by_cases h1 : n < 1
    · repeat (first|refine zJ rfl rfl ?_|refine jr rfl ?_|refine jn ?_|refine zM rfl rfl ?_|(refine zC rfl rfl ?_ rfl ?_;omega)|(refine zD rfl rfl ?_ rfl ?_;omega)|(refine zP rfl ?_ rfl ?_;omega)|refine zG rfl rfl rfl rfl ?_|(refine jdq rfl rfl ?_ ?_ ?_;kernel_rfl;kernel_rfl)|refine zB rfl rfl rfl (by repeat constructor) rfl ?_|refine zH .here rfl rfl rfl rfl ?_|refine zH (.there .here) rfl rfl rfl rfl ?_|refine zH (.there (.there .here)) rfl rfl rfl rfl ?_)
      refine oN (ev_store (b := b4) rfl rfl .agg rfl rfl (lay_all (zs := zVo) rfl) ones_zVo .here) rfl ?_
      rintro _ _ _ _ ⟨rfl, _, rfl⟩
      repeat (first|refine zJ rfl rfl ?_|refine jr rfl ?_|refine jn ?_|refine zM rfl rfl ?_|(refine zC rfl rfl ?_ rfl ?_;omega)|(refine zD rfl rfl ?_ rfl ?_;omega)|(refine zP rfl ?_ rfl ?_;omega)|refine zG rfl rfl rfl rfl ?_|(refine jdq rfl rfl ?_ ?_ ?_;kernel_rfl;kernel_rfl)|refine zB rfl rfl rfl (by repeat constructor) rfl ?_|refine zH .here rfl rfl rfl rfl ?_|refine zH (.there .here) rfl rfl rfl rfl ?_|refine zH (.there (.there .here)) rfl rfl rfl rfl ?_)
      exact J_retv (vs := [.agg (zVo).toArray, .int .i64 1]) rfl (.agg rfl rfl (Rdb.ofB (n := 0) .here rfl) rfl (.tmp rfl .nil)) [] (fun w s => s.drop) hFF ⟨rfl, rfl⟩
    · have h7 : 7 < n := hn.resolve_left h1
      repeat (first|refine zJ rfl rfl ?_|refine jr rfl ?_|refine jn ?_|refine zM rfl rfl ?_|(refine zC rfl rfl ?_ rfl ?_;omega)|(refine zD rfl rfl ?_ rfl ?_;omega)|(refine zP rfl ?_ rfl ?_;omega)|refine zG rfl rfl rfl rfl ?_|(refine jdq rfl rfl ?_ ?_ ?_;kernel_rfl;kernel_rfl)|refine zB rfl rfl rfl (by repeat constructor) rfl ?_|refine zH .here rfl rfl rfl rfl ?_|refine zH (.there .here) rfl rfl rfl rfl ?_|refine zH (.there (.there .here)) rfl rfl rfl rfl ?_)
      refine oN (ev_store (b := b4) rfl rfl .agg rfl rfl (lay_all (zs := zVo) rfl) ones_zVo .here) rfl ?_
      rintro _ _ _ _ ⟨rfl, _, rfl⟩
      repeat (first|refine zJ rfl rfl ?_|refine jr rfl ?_|refine jn ?_|refine zM rfl rfl ?_|(refine zC rfl rfl ?_ rfl ?_;omega)|(refine zD rfl rfl ?_ rfl ?_;omega)|(refine zP rfl ?_ rfl ?_;omega)|refine zG rfl rfl rfl rfl ?_|(refine jdq rfl rfl ?_ ?_ ?_;kernel_rfl;kernel_rfl)|refine zB rfl rfl rfl (by repeat constructor) rfl ?_|refine zH .here rfl rfl rfl rfl ?_|refine zH (.there .here) rfl rfl rfl rfl ?_|refine zH (.there (.there .here)) rfl rfl rfl rfl ?_)
      exact J_retv (vs := [.agg (zVo).toArray, .int .i64 1]) rfl (.agg rfl rfl (Rdb.ofB (n := 0) .here rfl) rfl (.tmp rfl .nil)) [] (fun w s => s.drop) hFF ⟨rfl, rfl⟩
  rw [if_neg hn]
  have hn1 : ¬ n < 1 := fun h => hn (.inl h)
  have hn7 : ¬ 7 < n := fun h => hn (.inr h)
  obtain ⟨m, rfl⟩ : ∃ m : Nat, n = m := ⟨n.toNat, by omega⟩
  repeat (first|refine zJ rfl rfl ?_|refine jr rfl ?_|refine jn ?_|refine zM rfl rfl ?_|(refine zC rfl rfl ?_ rfl ?_;omega)|(refine zD rfl rfl ?_ rfl ?_;omega)|(refine zP rfl ?_ rfl ?_;omega)|refine zG rfl rfl rfl rfl ?_|(refine jdq rfl rfl ?_ ?_ ?_;kernel_rfl;kernel_rfl)|refine zB rfl rfl rfl (by repeat constructor) rfl ?_|refine zH .here rfl rfl rfl rfl ?_|refine zH (.there .here) rfl rfl rfl rfl ?_|refine zH (.there (.there .here)) rfl rfl rfl rfl ?_)
  refine oE (ev_box rfl .agg) rfl ?_
  rintro _ _ _ _ ⟨rfl, br, rfl, rfl⟩
  repeat (first|refine zJ rfl rfl ?_|refine jr rfl ?_|refine jn ?_|refine zM rfl rfl ?_|(refine zC rfl rfl ?_ rfl ?_;omega)|(refine zD rfl rfl ?_ rfl ?_;omega)|(refine zP rfl ?_ rfl ?_;omega)|refine zG rfl rfl rfl rfl ?_|(refine jdq rfl rfl ?_ ?_ ?_;kernel_rfl;kernel_rfl)|refine zB rfl rfl rfl (by repeat constructor) rfl ?_|refine zH .here rfl rfl rfl rfl ?_|refine zH (.there .here) rfl rfl rfl rfl ?_|refine zH (.there (.there .here)) rfl rfl rfl rfl ?_)
  refine oC (Hc := [Rdr br (.slice a bs.length c) (0)]) (Hr := blk b4 28 zVo :: X) (Number_spec br (.slice a bs.length c) (0) 1 (bs) F h (by omega)) Try.call57 rfl rfl (fun _ s => s) ?_
  rintro _ F1 _ hF1 ⟨v1, rfl, hv1, rfl⟩
  have n1 := numR_rest (0) (bs) 1
  have m1 := numR_lt (0) (bs) 1
  generalize hr1 : numR (0) (bs) 1 = r1 at *
  repeat (first|refine zJ rfl rfl ?_|refine jr rfl ?_|refine jn ?_|refine zM rfl rfl ?_|(refine zC rfl rfl ?_ rfl ?_;omega)|(refine zD rfl rfl ?_ rfl ?_;omega)|(refine zP rfl ?_ rfl ?_;omega)|refine zG rfl rfl rfl rfl ?_|(refine jdq rfl rfl ?_ ?_ ?_;kernel_rfl;kernel_rfl)|refine zB rfl rfl rfl (by repeat constructor) rfl ?_|refine zH .here rfl rfl rfl rfl ?_|refine zH (.there .here) rfl rfl rfl rfl ?_|refine zH (.there (.there .here)) rfl rfl rfl rfl ?_)
  refine oS (ev_conv rfl rfl rfl (iN_wrap _)) rfl ?_
  repeat (first|refine zJ rfl rfl ?_|refine jr rfl ?_|refine jn ?_|refine zM rfl rfl ?_|(refine zC rfl rfl ?_ rfl ?_;omega)|(refine zD rfl rfl ?_ rfl ?_;omega)|(refine zP rfl ?_ rfl ?_;omega)|refine zG rfl rfl rfl rfl ?_|(refine jdq rfl rfl ?_ ?_ ?_;kernel_rfl;kernel_rfl)|refine zB rfl rfl rfl (by repeat constructor) rfl ?_|refine zH .here rfl rfl rfl rfl ?_|refine zH (.there .here) rfl rfl rfl rfl ?_|refine zH (.there (.there .here)) rfl rfl rfl rfl ?_)
  refine oC (Hc := [Rdr br (v1) (r1.2.1)]) (Hr := blk b4 28 zVo :: X) (Number_spec br (v1) (r1.2.1) 8 (r1.2.2) F1 hv1 (by omega)) Try.call57 rfl rfl (fun _ s => s) ?_
  rintro _ F2 _ hF2 ⟨v2, rfl, hv2, rfl⟩
  have n2 := numR_rest (r1.2.1) (r1.2.2) 8
  have m2 := numR_lt (r1.2.1) (r1.2.2) 8
  generalize hr2 : numR (r1.2.1) (r1.2.2) 8 = r2 at *
  repeat (first|refine zJ rfl rfl ?_|refine jr rfl ?_|refine jn ?_|refine zM rfl rfl ?_|(refine zC rfl rfl ?_ rfl ?_;omega)|(refine zD rfl rfl ?_ rfl ?_;omega)|(refine zP rfl ?_ rfl ?_;omega)|refine zG rfl rfl rfl rfl ?_|(refine jdq rfl rfl ?_ ?_ ?_;kernel_rfl;kernel_rfl)|refine zB rfl rfl rfl (by repeat constructor) rfl ?_|refine zH .here rfl rfl rfl rfl ?_|refine zH (.there .here) rfl rfl rfl rfl ?_|refine zH (.there (.there .here)) rfl rfl rfl rfl ?_)
  refine oS (ev_conv rfl rfl rfl (iN_wrap _)) rfl ?_
  repeat (first|refine zJ rfl rfl ?_|refine jr rfl ?_|refine jn ?_|refine zM rfl rfl ?_|(refine zC rfl rfl ?_ rfl ?_;omega)|(refine zD rfl rfl ?_ rfl ?_;omega)|(refine zP rfl ?_ rfl ?_;omega)|refine zG rfl rfl rfl rfl ?_|(refine jdq rfl rfl ?_ ?_ ?_;kernel_rfl;kernel_rfl)|refine zB rfl rfl rfl (by repeat constructor) rfl ?_|refine zH .here rfl rfl rfl rfl ?_|refine zH (.there .here) rfl rfl rfl rfl ?_|refine zH (.there (.there .here)) rfl rfl rfl rfl ?_)
  refine oC (Hc := [Rdr br v2 r2.2.1]) (Hr := blk b4 28 zVo :: X) (ReadDigest_spec br v2 r2.2.1 r2.2.2 F2 hv2 (by omega)) Try.call58 rfl rfl (fun _ s => s) ?_
  rintro _ F3 _ hF3 ⟨v3, rfl, hv3, rfl⟩
  have n3 := fixR_rest r2.2.1 r2.2.2 32
  have h32 := fixR_le32 r2.2.1 r2.2.2
  generalize hr3 : fixR r2.2.1 r2.2.2 32 = r3 at *
  have hdg : (pad32 r3.1).length = 32 := pad32_len h32
  repeat (first|refine zJ rfl rfl ?_|refine jr rfl ?_|refine jn ?_|refine zM rfl rfl ?_|(refine zC rfl rfl ?_ rfl ?_;omega)|(refine zD rfl rfl ?_ rfl ?_;omega)|(refine zP rfl ?_ rfl ?_;omega)|refine zG rfl rfl rfl rfl ?_|(refine jdq rfl rfl ?_ ?_ ?_;kernel_rfl;kernel_rfl)|refine zB rfl rfl rfl (by repeat constructor) rfl ?_|refine zH .here rfl rfl rfl rfl ?_|refine zH (.there .here) rfl rfl rfl rfl ?_|refine zH (.there (.there .here)) rfl rfl rfl rfl ?_)
  refine oC (Hc := [Rdr br (v3) (r3.2.1)]) (Hr := blk b4 28 zVo :: X) (Number_spec br (v3) (r3.2.1) 1 (r3.2.2) F3 hv3 (by omega)) Try.call57 rfl rfl (fun _ s => s) ?_
  rintro _ F4 _ hF4 ⟨v4, rfl, hv4, rfl⟩
  have n4 := numR_rest (r3.2.1) (r3.2.2) 1
  have m4 := numR_lt (r3.2.1) (r3.2.2) 1
  generalize hr4 : numR (r3.2.1) (r3.2.2) 1 = r4 at *
  repeat (first|refine zJ rfl rfl ?_|refine jr rfl ?_|refine jn ?_|refine zM rfl rfl ?_|(refine zC rfl rfl ?_ rfl ?_;omega)|(refine zD rfl rfl ?_ rfl ?_;omega)|(refine zP rfl ?_ rfl ?_;omega)|refine zG rfl rfl rfl rfl ?_|(refine jdq rfl rfl ?_ ?_ ?_;kernel_rfl;kernel_rfl)|refine zB rfl rfl rfl (by repeat constructor) rfl ?_|refine zH .here rfl rfl rfl rfl ?_|refine zH (.there .here) rfl rfl rfl rfl ?_|refine zH (.there (.there .here)) rfl rfl rfl rfl ?_)
  replace m4 : r4.1 < 256 := m4
  refine oS (ev_conv rfl rfl rfl (wrap_in (show InK .u32 (r4.1 : Int) by dsimp only [InK]; omega))) rfl ?_
  refine oS (ev_build (t := (⟨iN r1.1, iN r2.1, pad32 r3.1, r4.1⟩ : Vo).cells) rfl rfl hpl (hfill ⟨iN r1.1, iN r2.1, pad32 r3.1, r4.1⟩ hdg)) rfl ?_
  refine oE (ev_alloc (cs := zVo) rfl) rfl ?_
  rintro _ _ _ _ ⟨rfl, b5, rfl, rfl⟩
  refine oN (ev_store (b := b5) rfl rfl .agg rfl (Vo.len hdg) (lay_all (zs := zVo) (Vo.len hdg)) (Vo.ones _) .here) rfl ?_
  rintro _ _ _ _ ⟨rfl, _, rfl⟩
  repeat (first|refine zJ rfl rfl ?_|refine jr rfl ?_|refine jn ?_|refine zM rfl rfl ?_|(refine zC rfl rfl ?_ rfl ?_;omega)|(refine zD rfl rfl ?_ rfl ?_;omega)|(refine zP rfl ?_ rfl ?_;omega)|refine zG rfl rfl rfl rfl ?_|(refine jdq rfl rfl ?_ ?_ ?_;kernel_rfl;kernel_rfl)|refine zB rfl rfl rfl (by repeat constructor) rfl ?_|refine zH .here rfl rfl rfl rfl ?_|refine zH (.there .here) rfl rfl rfl rfl ?_|refine zH (.there (.there .here)) rfl rfl rfl rfl ?_)
  replace hFF := hF1.trans (hF2.trans (hF3.trans (hF4)))
  have hx : VoR bs = (⟨iN r1.1, iN r2.1, pad32 r3.1, r4.1⟩, r4.2) := by unfold VoR; dsimp only; rw [hr1, hr2, hr3, hr4]
  rw [hx]
  dsimp only
  have hmk : (⟨iN r1.1, iN r2.1, pad32 r3.1, r4.1⟩ : Vo).mask < 256 := m4
  replace hdg : (⟨iN r1.1, iN r2.1, pad32 r3.1, r4.1⟩ : Vo).dig.length = 32 := hdg
  generalize (⟨iN r1.1, iN r2.1, pad32 r3.1, r4.1⟩ : Vo) = x at *
  refine oC (Hc := [Rdr br v4 r4.2.1]) (Hr := blk b5 28 x.cells :: blk b4 28 zVo :: X) (End_spec br v4 r4.2.1 r4.2.2 F4 hv4) Try.call59 rfl rfl (fun _ s => s.pick (.there .here)) ?_
  rintro _ _ _ _ ⟨rfl, rfl, rfl⟩
  by_cases he : endR r4.2.1 r4.2.2 = 0
  · rw [if_neg (fun h => h he), Vo.ok_nat]
    have hs1 := Client_spec m x.client F4 ⟨by omega, by omega⟩
    have hs2 := Stamp_spec x.stamp F4
    have hm1 := hmk
    have hs3 := low_spec x.mask m F4 (by omega) (by omega)
    cases hb1 : clB m x.client with
    | false =>
      rw [hb1] at hs1
      rw [if_pos (by simp)]
      repeat (first|refine zJ rfl rfl ?_|refine jr rfl ?_|refine jn ?_|refine zM rfl rfl ?_|(refine zC rfl rfl ?_ rfl ?_;omega)|(refine zD rfl rfl ?_ rfl ?_;omega)|(refine zP rfl ?_ rfl ?_;omega)|refine zG rfl rfl rfl rfl ?_|(refine jdq rfl rfl ?_ ?_ ?_;kernel_rfl;kernel_rfl)|refine zB rfl rfl rfl (by repeat constructor) rfl ?_|refine zH .here rfl rfl rfl rfl ?_|refine zH (.there .here) rfl rfl rfl rfl ?_|refine zH (.there (.there .here)) rfl rfl rfl rfl ?_)
      refine oP (hs1) Try.call60 rfl rfl ?_
      repeat (first|refine zJ rfl rfl ?_|refine jr rfl ?_|refine jn ?_|refine zM rfl rfl ?_|(refine zC rfl rfl ?_ rfl ?_;omega)|(refine zD rfl rfl ?_ rfl ?_;omega)|(refine zP rfl ?_ rfl ?_;omega)|refine zG rfl rfl rfl rfl ?_|(refine jdq rfl rfl ?_ ?_ ?_;kernel_rfl;kernel_rfl)|refine zB rfl rfl rfl (by repeat constructor) rfl ?_|refine zH .here rfl rfl rfl rfl ?_|refine zH (.there .here) rfl rfl rfl rfl ?_|refine zH (.there (.there .here)) rfl rfl rfl rfl ?_)
      refine oN (ev_store (b := b4) rfl rfl .agg rfl rfl (lay_all (zs := zVo) rfl) ones_zVo (.there (.there .here))) rfl ?_
      rintro _ _ _ _ ⟨rfl, _, rfl⟩
      repeat (first|refine zJ rfl rfl ?_|refine jr rfl ?_|refine jn ?_|refine zM rfl rfl ?_|(refine zC rfl rfl ?_ rfl ?_;omega)|(refine zD rfl rfl ?_ rfl ?_;omega)|(refine zP rfl ?_ rfl ?_;omega)|refine zG rfl rfl rfl rfl ?_|(refine jdq rfl rfl ?_ ?_ ?_;kernel_rfl;kernel_rfl)|refine zB rfl rfl rfl (by repeat constructor) rfl ?_|refine zH .here rfl rfl rfl rfl ?_|refine zH (.there .here) rfl rfl rfl rfl ?_|refine zH (.there (.there .here)) rfl rfl rfl rfl ?_)
      exact J_retv (vs := [.agg (zVo).toArray, .int .i64 5]) rfl (.agg rfl rfl (Rdb.ofB (n := 0) (.there (.there .here)) rfl) rfl (.tmp rfl .nil)) [] (fun w s => s.drop.drop.drop) hFF ⟨rfl, rfl⟩
    | true =>
      rw [hb1] at hs1
      cases hb2 : stampB x.stamp with
      | false =>
        rw [hb2] at hs2
        rw [if_pos (by simp)]
        repeat (first|refine zJ rfl rfl ?_|refine jr rfl ?_|refine jn ?_|refine zM rfl rfl ?_|(refine zC rfl rfl ?_ rfl ?_;omega)|(refine zD rfl rfl ?_ rfl ?_;omega)|(refine zP rfl ?_ rfl ?_;omega)|refine zG rfl rfl rfl rfl ?_|(refine jdq rfl rfl ?_ ?_ ?_;kernel_rfl;kernel_rfl)|refine zB rfl rfl rfl (by repeat constructor) rfl ?_|refine zH .here rfl rfl rfl rfl ?_|refine zH (.there .here) rfl rfl rfl rfl ?_|refine zH (.there (.there .here)) rfl rfl rfl rfl ?_)
        refine oP (hs1) Try.call60 rfl rfl ?_
        repeat (first|refine zJ rfl rfl ?_|refine jr rfl ?_|refine jn ?_|refine zM rfl rfl ?_|(refine zC rfl rfl ?_ rfl ?_;omega)|(refine zD rfl rfl ?_ rfl ?_;omega)|(refine zP rfl ?_ rfl ?_;omega)|refine zG rfl rfl rfl rfl ?_|(refine jdq rfl rfl ?_ ?_ ?_;kernel_rfl;kernel_rfl)|refine zB rfl rfl rfl (by repeat constructor) rfl ?_|refine zH .here rfl rfl rfl rfl ?_|refine zH (.there .here) rfl rfl rfl rfl ?_|refine zH (.there (.there .here)) rfl rfl rfl rfl ?_)
        refine oP (hs2) Try.call61 rfl rfl ?_
        repeat (first|refine zJ rfl rfl ?_|refine jr rfl ?_|refine jn ?_|refine zM rfl rfl ?_|(refine zC rfl rfl ?_ rfl ?_;omega)|(refine zD rfl rfl ?_ rfl ?_;omega)|(refine zP rfl ?_ rfl ?_;omega)|refine zG rfl rfl rfl rfl ?_|(refine jdq rfl rfl ?_ ?_ ?_;kernel_rfl;kernel_rfl)|refine zB rfl rfl rfl (by repeat constructor) rfl ?_|refine zH .here rfl rfl rfl rfl ?_|refine zH (.there .here) rfl rfl rfl rfl ?_|refine zH (.there (.there .here)) rfl rfl rfl rfl ?_)
        refine oN (ev_store (b := b4) rfl rfl .agg rfl rfl (lay_all (zs := zVo) rfl) ones_zVo (.there (.there .here))) rfl ?_
        rintro _ _ _ _ ⟨rfl, _, rfl⟩
        repeat (first|refine zJ rfl rfl ?_|refine jr rfl ?_|refine jn ?_|refine zM rfl rfl ?_|(refine zC rfl rfl ?_ rfl ?_;omega)|(refine zD rfl rfl ?_ rfl ?_;omega)|(refine zP rfl ?_ rfl ?_;omega)|refine zG rfl rfl rfl rfl ?_|(refine jdq rfl rfl ?_ ?_ ?_;kernel_rfl;kernel_rfl)|refine zB rfl rfl rfl (by repeat constructor) rfl ?_|refine zH .here rfl rfl rfl rfl ?_|refine zH (.there .here) rfl rfl rfl rfl ?_|refine zH (.there (.there .here)) rfl rfl rfl rfl ?_)
        exact J_retv (vs := [.agg (zVo).toArray, .int .i64 5]) rfl (.agg rfl rfl (Rdb.ofB (n := 0) (.there (.there .here)) rfl) rfl (.tmp rfl .nil)) [] (fun w s => s.drop.drop.drop) hFF ⟨rfl, rfl⟩
      | true =>
        rw [hb2] at hs2
        by_cases hq : x.mask >>> m = 0
        · rw [if_neg (by simp [hq])]
          rw [decide_eq_true hq] at hs3
          repeat (first|refine zJ rfl rfl ?_|refine jr rfl ?_|refine jn ?_|refine zM rfl rfl ?_|(refine zC rfl rfl ?_ rfl ?_;omega)|(refine zD rfl rfl ?_ rfl ?_;omega)|(refine zP rfl ?_ rfl ?_;omega)|refine zG rfl rfl rfl rfl ?_|(refine jdq rfl rfl ?_ ?_ ?_;kernel_rfl;kernel_rfl)|refine zB rfl rfl rfl (by repeat constructor) rfl ?_|refine zH .here rfl rfl rfl rfl ?_|refine zH (.there .here) rfl rfl rfl rfl ?_|refine zH (.there (.there .here)) rfl rfl rfl rfl ?_)
          refine oP (hs1) Try.call60 rfl rfl ?_
          repeat (first|refine zJ rfl rfl ?_|refine jr rfl ?_|refine jn ?_|refine zM rfl rfl ?_|(refine zC rfl rfl ?_ rfl ?_;omega)|(refine zD rfl rfl ?_ rfl ?_;omega)|(refine zP rfl ?_ rfl ?_;omega)|refine zG rfl rfl rfl rfl ?_|(refine jdq rfl rfl ?_ ?_ ?_;kernel_rfl;kernel_rfl)|refine zB rfl rfl rfl (by repeat constructor) rfl ?_|refine zH .here rfl rfl rfl rfl ?_|refine zH (.there .here) rfl rfl rfl rfl ?_|refine zH (.there (.there .here)) rfl rfl rfl rfl ?_)
          refine oP (hs2) Try.call61 rfl rfl ?_
          repeat (first|refine zJ rfl rfl ?_|refine jr rfl ?_|refine jn ?_|refine zM rfl rfl ?_|(refine zC rfl rfl ?_ rfl ?_;omega)|(refine zD rfl rfl ?_ rfl ?_;omega)|(refine zP rfl ?_ rfl ?_;omega)|refine zG rfl rfl rfl rfl ?_|(refine jdq rfl rfl ?_ ?_ ?_;kernel_rfl;kernel_rfl)|refine zB rfl rfl rfl (by repeat constructor) rfl ?_|refine zH .here rfl rfl rfl rfl ?_|refine zH (.there .here) rfl rfl rfl rfl ?_|refine zH (.there (.there .here)) rfl rfl rfl rfl ?_)
          refine oS (ev_load rfl rfl (Rdb.ofB (n := 0) (.there .here) (Vo.mask_at hdg))) rfl ?_
          repeat (first|refine zJ rfl rfl ?_|refine jr rfl ?_|refine jn ?_|refine zM rfl rfl ?_|(refine zC rfl rfl ?_ rfl ?_;omega)|(refine zD rfl rfl ?_ rfl ?_;omega)|(refine zP rfl ?_ rfl ?_;omega)|refine zG rfl rfl rfl rfl ?_|(refine jdq rfl rfl ?_ ?_ ?_;kernel_rfl;kernel_rfl)|refine zB rfl rfl rfl (by repeat constructor) rfl ?_|refine zH .here rfl rfl rfl rfl ?_|refine zH (.there .here) rfl rfl rfl rfl ?_|refine zH (.there (.there .here)) rfl rfl rfl rfl ?_)
          refine oP (hs3) Try.call62 rfl rfl ?_
          repeat (first|refine zJ rfl rfl ?_|refine jr rfl ?_|refine jn ?_|refine zM rfl rfl ?_|(refine zC rfl rfl ?_ rfl ?_;omega)|(refine zD rfl rfl ?_ rfl ?_;omega)|(refine zP rfl ?_ rfl ?_;omega)|refine zG rfl rfl rfl rfl ?_|(refine jdq rfl rfl ?_ ?_ ?_;kernel_rfl;kernel_rfl)|refine zB rfl rfl rfl (by repeat constructor) rfl ?_|refine zH .here rfl rfl rfl rfl ?_|refine zH (.there .here) rfl rfl rfl rfl ?_|refine zH (.there (.there .here)) rfl rfl rfl rfl ?_)
          refine oS (ev_load_agg (cs := x.cells) rfl rfl (Rdb.ofB (n := 0) (.there .here) (by rw [List.drop_zero, List.take_length])) (Vo.len hdg)) rfl ?_
          refine oN (ev_store (b := b4) rfl rfl .agg rfl (Vo.len hdg) (lay_all (zs := zVo) (Vo.len hdg)) x.ones (.there (.there .here))) rfl ?_
          rintro _ _ _ _ ⟨rfl, _, rfl⟩
          repeat (first|refine zJ rfl rfl ?_|refine jr rfl ?_|refine jn ?_|refine zM rfl rfl ?_|(refine zC rfl rfl ?_ rfl ?_;omega)|(refine zD rfl rfl ?_ rfl ?_;omega)|(refine zP rfl ?_ rfl ?_;omega)|refine zG rfl rfl rfl rfl ?_|(refine jdq rfl rfl ?_ ?_ ?_;kernel_rfl;kernel_rfl)|refine zB rfl rfl rfl (by repeat constructor) rfl ?_|refine zH .here rfl rfl rfl rfl ?_|refine zH (.there .here) rfl rfl rfl rfl ?_|refine zH (.there (.there .here)) rfl rfl rfl rfl ?_)
          exact J_retv (vs := [.agg x.cells.toArray, .int .i64 0]) rfl (.agg rfl rfl (Rdb.ofB (n := 0) (.there (.there .here)) (by rw [List.drop_zero, List.take_length])) (Vo.len hdg) (.tmp rfl .nil)) [] (fun w s => s.drop.drop.drop) hFF ⟨rfl, rfl⟩
        · rw [if_pos (by simp [hq])]
          rw [decide_eq_false hq] at hs3
          repeat (first|refine zJ rfl rfl ?_|refine jr rfl ?_|refine jn ?_|refine zM rfl rfl ?_|(refine zC rfl rfl ?_ rfl ?_;omega)|(refine zD rfl rfl ?_ rfl ?_;omega)|(refine zP rfl ?_ rfl ?_;omega)|refine zG rfl rfl rfl rfl ?_|(refine jdq rfl rfl ?_ ?_ ?_;kernel_rfl;kernel_rfl)|refine zB rfl rfl rfl (by repeat constructor) rfl ?_|refine zH .here rfl rfl rfl rfl ?_|refine zH (.there .here) rfl rfl rfl rfl ?_|refine zH (.there (.there .here)) rfl rfl rfl rfl ?_)
          refine oP (hs1) Try.call60 rfl rfl ?_
          repeat (first|refine zJ rfl rfl ?_|refine jr rfl ?_|refine jn ?_|refine zM rfl rfl ?_|(refine zC rfl rfl ?_ rfl ?_;omega)|(refine zD rfl rfl ?_ rfl ?_;omega)|(refine zP rfl ?_ rfl ?_;omega)|refine zG rfl rfl rfl rfl ?_|(refine jdq rfl rfl ?_ ?_ ?_;kernel_rfl;kernel_rfl)|refine zB rfl rfl rfl (by repeat constructor) rfl ?_|refine zH .here rfl rfl rfl rfl ?_|refine zH (.there .here) rfl rfl rfl rfl ?_|refine zH (.there (.there .here)) rfl rfl rfl rfl ?_)
          refine oP (hs2) Try.call61 rfl rfl ?_
          repeat (first|refine zJ rfl rfl ?_|refine jr rfl ?_|refine jn ?_|refine zM rfl rfl ?_|(refine zC rfl rfl ?_ rfl ?_;omega)|(refine zD rfl rfl ?_ rfl ?_;omega)|(refine zP rfl ?_ rfl ?_;omega)|refine zG rfl rfl rfl rfl ?_|(refine jdq rfl rfl ?_ ?_ ?_;kernel_rfl;kernel_rfl)|refine zB rfl rfl rfl (by repeat constructor) rfl ?_|refine zH .here rfl rfl rfl rfl ?_|refine zH (.there .here) rfl rfl rfl rfl ?_|refine zH (.there (.there .here)) rfl rfl rfl rfl ?_)
          refine oS (ev_load rfl rfl (Rdb.ofB (n := 0) (.there .here) (Vo.mask_at hdg))) rfl ?_
          repeat (first|refine zJ rfl rfl ?_|refine jr rfl ?_|refine jn ?_|refine zM rfl rfl ?_|(refine zC rfl rfl ?_ rfl ?_;omega)|(refine zD rfl rfl ?_ rfl ?_;omega)|(refine zP rfl ?_ rfl ?_;omega)|refine zG rfl rfl rfl rfl ?_|(refine jdq rfl rfl ?_ ?_ ?_;kernel_rfl;kernel_rfl)|refine zB rfl rfl rfl (by repeat constructor) rfl ?_|refine zH .here rfl rfl rfl rfl ?_|refine zH (.there .here) rfl rfl rfl rfl ?_|refine zH (.there (.there .here)) rfl rfl rfl rfl ?_)
          refine oP (hs3) Try.call62 rfl rfl ?_
          repeat (first|refine zJ rfl rfl ?_|refine jr rfl ?_|refine jn ?_|refine zM rfl rfl ?_|(refine zC rfl rfl ?_ rfl ?_;omega)|(refine zD rfl rfl ?_ rfl ?_;omega)|(refine zP rfl ?_ rfl ?_;omega)|refine zG rfl rfl rfl rfl ?_|(refine jdq rfl rfl ?_ ?_ ?_;kernel_rfl;kernel_rfl)|refine zB rfl rfl rfl (by repeat constructor) rfl ?_|refine zH .here rfl rfl rfl rfl ?_|refine zH (.there .here) rfl rfl rfl rfl ?_|refine zH (.there (.there .here)) rfl rfl rfl rfl ?_)
          refine oN (ev_store (b := b4) rfl rfl .agg rfl rfl (lay_all (zs := zVo) rfl) ones_zVo (.there (.there .here))) rfl ?_
          rintro _ _ _ _ ⟨rfl, _, rfl⟩
          repeat (first|refine zJ rfl rfl ?_|refine jr rfl ?_|refine jn ?_|refine zM rfl rfl ?_|(refine zC rfl rfl ?_ rfl ?_;omega)|(refine zD rfl rfl ?_ rfl ?_;omega)|(refine zP rfl ?_ rfl ?_;omega)|refine zG rfl rfl rfl rfl ?_|(refine jdq rfl rfl ?_ ?_ ?_;kernel_rfl;kernel_rfl)|refine zB rfl rfl rfl (by repeat constructor) rfl ?_|refine zH .here rfl rfl rfl rfl ?_|refine zH (.there .here) rfl rfl rfl rfl ?_|refine zH (.there (.there .here)) rfl rfl rfl rfl ?_)
          exact J_retv (vs := [.agg (zVo).toArray, .int .i64 5]) rfl (.agg rfl rfl (Rdb.ofB (n := 0) (.there (.there .here)) rfl) rfl (.tmp rfl .nil)) [] (fun w s => s.drop.drop.drop) hFF ⟨rfl, rfl⟩
  · rw [if_pos he]
    repeat (first|refine zJ rfl rfl ?_|refine jr rfl ?_|refine jn ?_|refine zM rfl rfl ?_|(refine zC rfl rfl ?_ rfl ?_;omega)|(refine zD rfl rfl ?_ rfl ?_;omega)|(refine zP rfl ?_ rfl ?_;omega)|refine zG rfl rfl rfl rfl ?_|(refine jdq rfl rfl ?_ ?_ ?_;kernel_rfl;kernel_rfl)|refine zB rfl rfl rfl (by repeat constructor) rfl ?_|refine zH .here rfl rfl rfl rfl ?_|refine zH (.there .here) rfl rfl rfl rfl ?_|refine zH (.there (.there .here)) rfl rfl rfl rfl ?_)
    refine oN (ev_store (b := b4) rfl rfl .agg rfl rfl (lay_all (zs := zVo) rfl) ones_zVo (.there (.there .here))) rfl ?_
    rintro _ _ _ _ ⟨rfl, _, rfl⟩
    repeat (first|refine zJ rfl rfl ?_|refine jr rfl ?_|refine jn ?_|refine zM rfl rfl ?_|(refine zC rfl rfl ?_ rfl ?_;omega)|(refine zD rfl rfl ?_ rfl ?_;omega)|(refine zP rfl ?_ rfl ?_;omega)|refine zG rfl rfl rfl rfl ?_|(refine jdq rfl rfl ?_ ?_ ?_;kernel_rfl;kernel_rfl)|refine zB rfl rfl rfl (by repeat constructor) rfl ?_|refine zH .here rfl rfl rfl rfl ?_|refine zH (.there .here) rfl rfl rfl rfl ?_|refine zH (.there (.there .here)) rfl rfl rfl rfl ?_)
    exact J_retv (vs := [.agg (zVo).toArray, .int .i64 2]) rfl (.agg rfl rfl (Rdb.ofB (n := 0) (.there (.there .here)) rfl) rfl (.tmp rfl .nil)) [] (fun w s => s.drop.drop.drop) hFF ⟨rfl, rfl⟩
set_option maxHeartbeats 32000000 in
theorem parseReply_spec (v : Value) (bs : List UInt8) (n : Int) (F : PH) (h : Byt F v bs) (hl : bs.length ≤ 1048576) :
    Spec Try.prog 18 [v, .int .i64 n] F [] (TupQ (rpP bs n).1.cells (rpP bs n).2) := by
  obtain ⟨a, c, rfl, hc⟩ := h.form
  refine Spec.of2 Try.func18 rfl rfl fun X w0 => ?_
  have hFF := PH.ler F
  refine jc rfl rfl ?_
  refine jr rfl ?_
  refine oE (ev_alloc (cs := zRp) rfl) rfl ?_
  rintro _ _ _ _ ⟨rfl, b4, rfl, rfl⟩
  unfold rpP
  repeat (first|refine zJ rfl rfl ?_|refine jr rfl ?_|refine jn ?_|refine zM rfl rfl ?_|(refine zC rfl rfl ?_ rfl ?_;omega)|(refine zD rfl rfl ?_ rfl ?_;omega)|(refine zP rfl ?_ rfl ?_;omega)|refine zG rfl rfl rfl rfl ?_|(refine jdq rfl rfl ?_ ?_ ?_;kernel_rfl;kernel_rfl)|refine zB rfl rfl rfl (by repeat constructor) rfl ?_|refine zH .here rfl rfl rfl rfl ?_|refine zH (.there .here) rfl rfl rfl rfl ?_|refine zH (.there (.there .here)) rfl rfl rfl rfl ?_)
  refine oE (ev_alloc (cs := [.int .i64 0]) rfl) rfl ?_
  rintro _ _ _ _ ⟨rfl, b6, rfl, rfl⟩
  refine oN (ev_store (b := b6) rfl rfl .agg rfl rfl (lay_all (zs := [.int .i64 0]) rfl) (ones_cons rfl ones_nil) .here) rfl ?_
  rintro _ _ _ _ ⟨rfl, _, rfl⟩
  repeat (first|refine zJ rfl rfl ?_|refine jr rfl ?_|refine jn ?_|refine zM rfl rfl ?_|(refine zC rfl rfl ?_ rfl ?_;omega)|(refine zD rfl rfl ?_ rfl ?_;omega)|(refine zP rfl ?_ rfl ?_;omega)|refine zG rfl rfl rfl rfl ?_|(refine jdq rfl rfl ?_ ?_ ?_;kernel_rfl;kernel_rfl)|refine zB rfl rfl rfl (by repeat constructor) rfl ?_|refine zH .here rfl rfl rfl rfl ?_|refine zH (.there .here) rfl rfl rfl rfl ?_|refine zH (.there (.there .here)) rfl rfl rfl rfl ?_)
  refine oS (ev_load_agg (cs := [.int .i64 n]) rfl rfl (Rdb.ofB (n := 0) .here rfl) rfl) rfl ?_
  have hod := odd_spec n F
  by_cases hn : n < 1 ∨ 7 < n
  · rw [if_pos hn]
    rw [decide_eq_true hn] at hod
    refine oP (hod) Try.call53 rfl rfl ?_
    repeat (first|refine zJ rfl rfl ?_|refine jr rfl ?_|refine jn ?_|refine zM rfl rfl ?_|(refine zC rfl rfl ?_ rfl ?_;omega)|(refine zD rfl rfl ?_ rfl ?_;omega)|(refine zP rfl ?_ rfl ?_;omega)|refine zG rfl rfl rfl rfl ?_|(refine jdq rfl rfl ?_ ?_ ?_;kernel_rfl;kernel_rfl)|refine zB rfl rfl rfl (by repeat constructor) rfl ?_|refine zH .here rfl rfl rfl rfl ?_|refine zH (.there .here) rfl rfl rfl rfl ?_|refine zH (.there (.there .here)) rfl rfl rfl rfl ?_)
    refine oN (ev_store (b := b4) rfl rfl .agg rfl rfl (lay_all (zs := zRp) rfl) ones_zRp (.there .here)) rfl ?_
    rintro _ _ _ _ ⟨rfl, _, rfl⟩
    repeat (first|refine zJ rfl rfl ?_|refine jr rfl ?_|refine jn ?_|refine zM rfl rfl ?_|(refine zC rfl rfl ?_ rfl ?_;omega)|(refine zD rfl rfl ?_ rfl ?_;omega)|(refine zP rfl ?_ rfl ?_;omega)|refine zG rfl rfl rfl rfl ?_|(refine jdq rfl rfl ?_ ?_ ?_;kernel_rfl;kernel_rfl)|refine zB rfl rfl rfl (by repeat constructor) rfl ?_|refine zH .here rfl rfl rfl rfl ?_|refine zH (.there .here) rfl rfl rfl rfl ?_|refine zH (.there (.there .here)) rfl rfl rfl rfl ?_)
    exact J_retv (vs := [.agg (zRp).toArray, .int .i64 1]) rfl (.agg rfl rfl (Rdb.ofB (n := 0) (.there .here) rfl) rfl (.tmp rfl .nil)) [] (fun w s => s.drop.drop) hFF ⟨rfl, rfl⟩
  rw [if_neg hn]
  have hn1 : ¬ n < 1 := fun h => hn (.inl h)
  have hn7 : ¬ 7 < n := fun h => hn (.inr h)
  obtain ⟨m, rfl⟩ : ∃ m : Nat, n = m := ⟨n.toNat, by omega⟩
  rw [decide_eq_false hn] at hod
  refine oP (hod) Try.call53 rfl rfl ?_
  repeat (first|refine zJ rfl rfl ?_|refine jr rfl ?_|refine jn ?_|refine zM rfl rfl ?_|(refine zC rfl rfl ?_ rfl ?_;omega)|(refine zD rfl rfl ?_ rfl ?_;omega)|(refine zP rfl ?_ rfl ?_;omega)|refine zG rfl rfl rfl rfl ?_|(refine jdq rfl rfl ?_ ?_ ?_;kernel_rfl;kernel_rfl)|refine zB rfl rfl rfl (by repeat constructor) rfl ?_|refine zH .here rfl rfl rfl rfl ?_|refine zH (.there .here) rfl rfl rfl rfl ?_|refine zH (.there (.there .here)) rfl rfl rfl rfl ?_)
  refine oC (Hc := []) (Hr := blk b6 86 [.int .i64 (m : Int)] :: blk b4 31 zRp :: X) (read_spec _ bs F h (by omega)) Try.call47 rfl rfl (fun _ s => s) ?_
  rintro _ F0 _ hF0 ⟨br, v0, rfl, hv0, rfl⟩
  repeat (first|refine zJ rfl rfl ?_|refine jr rfl ?_|refine jn ?_|refine zM rfl rfl ?_|(refine zC rfl rfl ?_ rfl ?_;omega)|(refine zD rfl rfl ?_ rfl ?_;omega)|(refine zP rfl ?_ rfl ?_;omega)|refine zG rfl rfl rfl rfl ?_|(refine jdq rfl rfl ?_ ?_ ?_;kernel_rfl;kernel_rfl)|refine zB rfl rfl rfl (by repeat constructor) rfl ?_|refine zH .here rfl rfl rfl rfl ?_|refine zH (.there .here) rfl rfl rfl rfl ?_|refine zH (.there (.there .here)) rfl rfl rfl rfl ?_)
  refine oC (Hc := [rdr br (v0) (0)]) (Hr := blk b6 86 [.int .i64 (m : Int)] :: blk b4 31 zRp :: X) (num_spec br (v0) (0) (bs) F0 hv0 (by omega)) Try.call48 rfl rfl (fun _ s => s) ?_; rintro _ F1 _ hF1 ⟨v1, rfl, hv1, rfl⟩; have n1 := numR_rest (0) (bs) 8; generalize hr1 : numR (0) (bs) 8 = r1 at *
  repeat (first|refine zJ rfl rfl ?_|refine jr rfl ?_|refine jn ?_|refine zM rfl rfl ?_|(refine zC rfl rfl ?_ rfl ?_;omega)|(refine zD rfl rfl ?_ rfl ?_;omega)|(refine zP rfl ?_ rfl ?_;omega)|refine zG rfl rfl rfl rfl ?_|(refine jdq rfl rfl ?_ ?_ ?_;kernel_rfl;kernel_rfl)|refine zB rfl rfl rfl (by repeat constructor) rfl ?_|refine zH .here rfl rfl rfl rfl ?_|refine zH (.there .here) rfl rfl rfl rfl ?_|refine zH (.there (.there .here)) rfl rfl rfl rfl ?_)
  refine oC (Hc := [rdr br (v1) (r1.2.1)]) (Hr := blk b6 86 [.int .i64 (m : Int)] :: blk b4 31 zRp :: X) (small_spec br (v1) (r1.2.1) (r1.2.2) F1 hv1 (by omega)) Try.call54 rfl rfl (fun _ s => s) ?_; rintro _ F2 _ hF2 ⟨v2, rfl, hv2, rfl⟩; have n2 := numR_rest (r1.2.1) (r1.2.2) 1; generalize hr2 : numR (r1.2.1) (r1.2.2) 1 = r2 at *
  repeat (first|refine zJ rfl rfl ?_|refine jr rfl ?_|refine jn ?_|refine zM rfl rfl ?_|(refine zC rfl rfl ?_ rfl ?_;omega)|(refine zD rfl rfl ?_ rfl ?_;omega)|(refine zP rfl ?_ rfl ?_;omega)|refine zG rfl rfl rfl rfl ?_|(refine jdq rfl rfl ?_ ?_ ?_;kernel_rfl;kernel_rfl)|refine zB rfl rfl rfl (by repeat constructor) rfl ?_|refine zH .here rfl rfl rfl rfl ?_|refine zH (.there .here) rfl rfl rfl rfl ?_|refine zH (.there (.there .here)) rfl rfl rfl rfl ?_)
  refine oC (Hc := [rdr br (v2) (r2.2.1)]) (Hr := blk b6 86 [.int .i64 (m : Int)] :: blk b4 31 zRp :: X) (num_spec br (v2) (r2.2.1) (r2.2.2) F2 hv2 (by omega)) Try.call48 rfl rfl (fun _ s => s) ?_; rintro _ F3 _ hF3 ⟨v3, rfl, hv3, rfl⟩; have n3 := numR_rest (r2.2.1) (r2.2.2) 8; generalize hr3 : numR (r2.2.1) (r2.2.2) 8 = r3 at *
  repeat (first|refine zJ rfl rfl ?_|refine jr rfl ?_|refine jn ?_|refine zM rfl rfl ?_|(refine zC rfl rfl ?_ rfl ?_;omega)|(refine zD rfl rfl ?_ rfl ?_;omega)|(refine zP rfl ?_ rfl ?_;omega)|refine zG rfl rfl rfl rfl ?_|(refine jdq rfl rfl ?_ ?_ ?_;kernel_rfl;kernel_rfl)|refine zB rfl rfl rfl (by repeat constructor) rfl ?_|refine zH .here rfl rfl rfl rfl ?_|refine zH (.there .here) rfl rfl rfl rfl ?_|refine zH (.there (.there .here)) rfl rfl rfl rfl ?_)
  refine oC (Hc := [rdr br (v3) (r3.2.1)]) (Hr := blk b6 86 [.int .i64 (m : Int)] :: blk b4 31 zRp :: X) (small_spec br (v3) (r3.2.1) (r3.2.2) F3 hv3 (by omega)) Try.call54 rfl rfl (fun _ s => s) ?_; rintro _ F4 _ hF4 ⟨v4, rfl, hv4, rfl⟩; have n4 := numR_rest (r3.2.1) (r3.2.2) 1; generalize hr4 : numR (r3.2.1) (r3.2.2) 1 = r4 at *
  repeat (first|refine zJ rfl rfl ?_|refine jr rfl ?_|refine jn ?_|refine zM rfl rfl ?_|(refine zC rfl rfl ?_ rfl ?_;omega)|(refine zD rfl rfl ?_ rfl ?_;omega)|(refine zP rfl ?_ rfl ?_;omega)|refine zG rfl rfl rfl rfl ?_|(refine jdq rfl rfl ?_ ?_ ?_;kernel_rfl;kernel_rfl)|refine zB rfl rfl rfl (by repeat constructor) rfl ?_|refine zH .here rfl rfl rfl rfl ?_|refine zH (.there .here) rfl rfl rfl rfl ?_|refine zH (.there (.there .here)) rfl rfl rfl rfl ?_)
  refine oE (ev_alloc (cs := zRp) rfl) rfl ?_
  rintro _ _ _ _ ⟨rfl, b5, rfl, rfl⟩
  refine oN (ev_store (b := b5) rfl rfl .agg rfl rfl (lay_all (zs := zRp) rfl) (Rp.ones ⟨iN r1.1, iN r2.1, iN r3.1, iN r4.1⟩) .here) rfl ?_
  rintro _ _ _ _ ⟨rfl, _, rfl⟩
  repeat (first|refine zJ rfl rfl ?_|refine jr rfl ?_|refine jn ?_|refine zM rfl rfl ?_|(refine zC rfl rfl ?_ rfl ?_;omega)|(refine zD rfl rfl ?_ rfl ?_;omega)|(refine zP rfl ?_ rfl ?_;omega)|refine zG rfl rfl rfl rfl ?_|(refine jdq rfl rfl ?_ ?_ ?_;kernel_rfl;kernel_rfl)|refine zB rfl rfl rfl (by repeat constructor) rfl ?_|refine zH .here rfl rfl rfl rfl ?_|refine zH (.there .here) rfl rfl rfl rfl ?_|refine zH (.there (.there .here)) rfl rfl rfl rfl ?_)
  replace hFF := hF0.trans (hF1.trans (hF2.trans (hF3.trans (hF4))))
  have hx : RpR bs = (⟨iN r1.1, iN r2.1, iN r3.1, iN r4.1⟩, r4.2) := by unfold RpR; dsimp only; rw [hr1, hr2, hr3, hr4]
  rw [hx]
  dsimp only
  obtain ⟨x, hxx⟩ : ∃ x : Rp, x = ⟨iN r1.1, iN r2.1, iN r3.1, iN r4.1⟩ := ⟨_, rfl⟩
  have hxc : [.int .i64 (iN r1.1), .int .i64 (iN r2.1), .int .i64 (iN r3.1), .int .i64 (iN r4.1)] = x.cells := by rw [hxx]; rfl
  rw [hxc, ← hxx]
  clear hxc hxx hx
  refine oC (Hc := [rdr br v4 r4.2.1]) (Hr := blk b5 31 x.cells :: blk b6 86 [.int .i64 (m : Int)] :: blk b4 31 zRp :: X) (end_spec br v4 r4.2.1 r4.2.2 F4 hv4) Try.call50 rfl rfl (fun _ s => s.pick (.there .here)) ?_
  rintro _ _ _ _ ⟨rfl, rfl, rfl⟩
  by_cases he : endR r4.2.1 r4.2.2 = 0
  · rw [if_neg (fun h => h he)]
    unfold Rp.ok
    have hs0 := view_spec x.view F4
    have hs1 := client_spec m x.client F4 ⟨by omega, by omega⟩
    have hs2 := stamp_spec x.stamp F4
    cases hb0 : viewB x.view with
    | false =>
      rw [hb0] at hs0
      rw [if_pos (by simp)]
      repeat (first|refine zJ rfl rfl ?_|refine jr rfl ?_|refine jn ?_|refine zM rfl rfl ?_|(refine zC rfl rfl ?_ rfl ?_;omega)|(refine zD rfl rfl ?_ rfl ?_;omega)|(refine zP rfl ?_ rfl ?_;omega)|refine zG rfl rfl rfl rfl ?_|(refine jdq rfl rfl ?_ ?_ ?_;kernel_rfl;kernel_rfl)|refine zB rfl rfl rfl (by repeat constructor) rfl ?_|refine zH .here rfl rfl rfl rfl ?_|refine zH (.there .here) rfl rfl rfl rfl ?_|refine zH (.there (.there .here)) rfl rfl rfl rfl ?_)
      refine oP (hs0) Try.call51 rfl rfl ?_
      repeat (first|refine zJ rfl rfl ?_|refine jr rfl ?_|refine jn ?_|refine zM rfl rfl ?_|(refine zC rfl rfl ?_ rfl ?_;omega)|(refine zD rfl rfl ?_ rfl ?_;omega)|(refine zP rfl ?_ rfl ?_;omega)|refine zG rfl rfl rfl rfl ?_|(refine jdq rfl rfl ?_ ?_ ?_;kernel_rfl;kernel_rfl)|refine zB rfl rfl rfl (by repeat constructor) rfl ?_|refine zH .here rfl rfl rfl rfl ?_|refine zH (.there .here) rfl rfl rfl rfl ?_|refine zH (.there (.there .here)) rfl rfl rfl rfl ?_)
      refine oN (ev_store (b := b4) rfl rfl .agg rfl rfl (lay_all (zs := zRp) rfl) ones_zRp (.there (.there (.there .here)))) rfl ?_
      rintro _ _ _ _ ⟨rfl, _, rfl⟩
      repeat (first|refine zJ rfl rfl ?_|refine jr rfl ?_|refine jn ?_|refine zM rfl rfl ?_|(refine zC rfl rfl ?_ rfl ?_;omega)|(refine zD rfl rfl ?_ rfl ?_;omega)|(refine zP rfl ?_ rfl ?_;omega)|refine zG rfl rfl rfl rfl ?_|(refine jdq rfl rfl ?_ ?_ ?_;kernel_rfl;kernel_rfl)|refine zB rfl rfl rfl (by repeat constructor) rfl ?_|refine zH .here rfl rfl rfl rfl ?_|refine zH (.there .here) rfl rfl rfl rfl ?_|refine zH (.there (.there .here)) rfl rfl rfl rfl ?_)
      exact J_retv (vs := [.agg (zRp).toArray, .int .i64 5]) rfl (.agg rfl rfl (Rdb.ofB (n := 0) (.there (.there (.there .here))) rfl) rfl (.tmp rfl .nil)) [] (fun w s => s.drop.drop.drop.drop) hFF ⟨rfl, rfl⟩
    | true =>
      rw [hb0] at hs0
      cases hb1 : clB m x.client with
      | false =>
        rw [hb1] at hs1
        rw [if_pos (by simp)]
        repeat (first|refine zJ rfl rfl ?_|refine jr rfl ?_|refine jn ?_|refine zM rfl rfl ?_|(refine zC rfl rfl ?_ rfl ?_;omega)|(refine zD rfl rfl ?_ rfl ?_;omega)|(refine zP rfl ?_ rfl ?_;omega)|refine zG rfl rfl rfl rfl ?_|(refine jdq rfl rfl ?_ ?_ ?_;kernel_rfl;kernel_rfl)|refine zB rfl rfl rfl (by repeat constructor) rfl ?_|refine zH .here rfl rfl rfl rfl ?_|refine zH (.there .here) rfl rfl rfl rfl ?_|refine zH (.there (.there .here)) rfl rfl rfl rfl ?_)
        refine oP (hs0) Try.call51 rfl rfl ?_
        repeat (first|refine zJ rfl rfl ?_|refine jr rfl ?_|refine jn ?_|refine zM rfl rfl ?_|(refine zC rfl rfl ?_ rfl ?_;omega)|(refine zD rfl rfl ?_ rfl ?_;omega)|(refine zP rfl ?_ rfl ?_;omega)|refine zG rfl rfl rfl rfl ?_|(refine jdq rfl rfl ?_ ?_ ?_;kernel_rfl;kernel_rfl)|refine zB rfl rfl rfl (by repeat constructor) rfl ?_|refine zH .here rfl rfl rfl rfl ?_|refine zH (.there .here) rfl rfl rfl rfl ?_|refine zH (.there (.there .here)) rfl rfl rfl rfl ?_)
        refine oS (ev_load_agg (cs := [.int .i64 (m : Int)]) rfl rfl (Rdb.ofB (n := 0) (.there (.there .here)) rfl) rfl) rfl ?_
        repeat (first|refine zJ rfl rfl ?_|refine jr rfl ?_|refine jn ?_|refine zM rfl rfl ?_|(refine zC rfl rfl ?_ rfl ?_;omega)|(refine zD rfl rfl ?_ rfl ?_;omega)|(refine zP rfl ?_ rfl ?_;omega)|refine zG rfl rfl rfl rfl ?_|(refine jdq rfl rfl ?_ ?_ ?_;kernel_rfl;kernel_rfl)|refine zB rfl rfl rfl (by repeat constructor) rfl ?_|refine zH .here rfl rfl rfl rfl ?_|refine zH (.there .here) rfl rfl rfl rfl ?_|refine zH (.there (.there .here)) rfl rfl rfl rfl ?_)
        refine oP (hs1) Try.call55 rfl rfl ?_
        repeat (first|refine zJ rfl rfl ?_|refine jr rfl ?_|refine jn ?_|refine zM rfl rfl ?_|(refine zC rfl rfl ?_ rfl ?_;omega)|(refine zD rfl rfl ?_ rfl ?_;omega)|(refine zP rfl ?_ rfl ?_;omega)|refine zG rfl rfl rfl rfl ?_|(refine jdq rfl rfl ?_ ?_ ?_;kernel_rfl;kernel_rfl)|refine zB rfl rfl rfl (by repeat constructor) rfl ?_|refine zH .here rfl rfl rfl rfl ?_|refine zH (.there .here) rfl rfl rfl rfl ?_|refine zH (.there (.there .here)) rfl rfl rfl rfl ?_)
        refine oN (ev_store (b := b4) rfl rfl .agg rfl rfl (lay_all (zs := zRp) rfl) ones_zRp (.there (.there (.there .here)))) rfl ?_
        rintro _ _ _ _ ⟨rfl, _, rfl⟩
        repeat (first|refine zJ rfl rfl ?_|refine jr rfl ?_|refine jn ?_|refine zM rfl rfl ?_|(refine zC rfl rfl ?_ rfl ?_;omega)|(refine zD rfl rfl ?_ rfl ?_;omega)|(refine zP rfl ?_ rfl ?_;omega)|refine zG rfl rfl rfl rfl ?_|(refine jdq rfl rfl ?_ ?_ ?_;kernel_rfl;kernel_rfl)|refine zB rfl rfl rfl (by repeat constructor) rfl ?_|refine zH .here rfl rfl rfl rfl ?_|refine zH (.there .here) rfl rfl rfl rfl ?_|refine zH (.there (.there .here)) rfl rfl rfl rfl ?_)
        exact J_retv (vs := [.agg (zRp).toArray, .int .i64 5]) rfl (.agg rfl rfl (Rdb.ofB (n := 0) (.there (.there (.there .here))) rfl) rfl (.tmp rfl .nil)) [] (fun w s => s.drop.drop.drop.drop) hFF ⟨rfl, rfl⟩
      | true =>
        rw [hb1] at hs1
        cases hb2 : stampB x.stamp with
        | false =>
          rw [hb2] at hs2
          rw [if_pos (by simp)]
          repeat (first|refine zJ rfl rfl ?_|refine jr rfl ?_|refine jn ?_|refine zM rfl rfl ?_|(refine zC rfl rfl ?_ rfl ?_;omega)|(refine zD rfl rfl ?_ rfl ?_;omega)|(refine zP rfl ?_ rfl ?_;omega)|refine zG rfl rfl rfl rfl ?_|(refine jdq rfl rfl ?_ ?_ ?_;kernel_rfl;kernel_rfl)|refine zB rfl rfl rfl (by repeat constructor) rfl ?_|refine zH .here rfl rfl rfl rfl ?_|refine zH (.there .here) rfl rfl rfl rfl ?_|refine zH (.there (.there .here)) rfl rfl rfl rfl ?_)
          refine oP (hs0) Try.call51 rfl rfl ?_
          repeat (first|refine zJ rfl rfl ?_|refine jr rfl ?_|refine jn ?_|refine zM rfl rfl ?_|(refine zC rfl rfl ?_ rfl ?_;omega)|(refine zD rfl rfl ?_ rfl ?_;omega)|(refine zP rfl ?_ rfl ?_;omega)|refine zG rfl rfl rfl rfl ?_|(refine jdq rfl rfl ?_ ?_ ?_;kernel_rfl;kernel_rfl)|refine zB rfl rfl rfl (by repeat constructor) rfl ?_|refine zH .here rfl rfl rfl rfl ?_|refine zH (.there .here) rfl rfl rfl rfl ?_|refine zH (.there (.there .here)) rfl rfl rfl rfl ?_)
          refine oS (ev_load_agg (cs := [.int .i64 (m : Int)]) rfl rfl (Rdb.ofB (n := 0) (.there (.there .here)) rfl) rfl) rfl ?_
          repeat (first|refine zJ rfl rfl ?_|refine jr rfl ?_|refine jn ?_|refine zM rfl rfl ?_|(refine zC rfl rfl ?_ rfl ?_;omega)|(refine zD rfl rfl ?_ rfl ?_;omega)|(refine zP rfl ?_ rfl ?_;omega)|refine zG rfl rfl rfl rfl ?_|(refine jdq rfl rfl ?_ ?_ ?_;kernel_rfl;kernel_rfl)|refine zB rfl rfl rfl (by repeat constructor) rfl ?_|refine zH .here rfl rfl rfl rfl ?_|refine zH (.there .here) rfl rfl rfl rfl ?_|refine zH (.there (.there .here)) rfl rfl rfl rfl ?_)
          refine oP (hs1) Try.call55 rfl rfl ?_
          repeat (first|refine zJ rfl rfl ?_|refine jr rfl ?_|refine jn ?_|refine zM rfl rfl ?_|(refine zC rfl rfl ?_ rfl ?_;omega)|(refine zD rfl rfl ?_ rfl ?_;omega)|(refine zP rfl ?_ rfl ?_;omega)|refine zG rfl rfl rfl rfl ?_|(refine jdq rfl rfl ?_ ?_ ?_;kernel_rfl;kernel_rfl)|refine zB rfl rfl rfl (by repeat constructor) rfl ?_|refine zH .here rfl rfl rfl rfl ?_|refine zH (.there .here) rfl rfl rfl rfl ?_|refine zH (.there (.there .here)) rfl rfl rfl rfl ?_)
          refine oP (hs2) Try.call56 rfl rfl ?_
          repeat (first|refine zJ rfl rfl ?_|refine jr rfl ?_|refine jn ?_|refine zM rfl rfl ?_|(refine zC rfl rfl ?_ rfl ?_;omega)|(refine zD rfl rfl ?_ rfl ?_;omega)|(refine zP rfl ?_ rfl ?_;omega)|refine zG rfl rfl rfl rfl ?_|(refine jdq rfl rfl ?_ ?_ ?_;kernel_rfl;kernel_rfl)|refine zB rfl rfl rfl (by repeat constructor) rfl ?_|refine zH .here rfl rfl rfl rfl ?_|refine zH (.there .here) rfl rfl rfl rfl ?_|refine zH (.there (.there .here)) rfl rfl rfl rfl ?_)
          refine oN (ev_store (b := b4) rfl rfl .agg rfl rfl (lay_all (zs := zRp) rfl) ones_zRp (.there (.there (.there .here)))) rfl ?_
          rintro _ _ _ _ ⟨rfl, _, rfl⟩
          repeat (first|refine zJ rfl rfl ?_|refine jr rfl ?_|refine jn ?_|refine zM rfl rfl ?_|(refine zC rfl rfl ?_ rfl ?_;omega)|(refine zD rfl rfl ?_ rfl ?_;omega)|(refine zP rfl ?_ rfl ?_;omega)|refine zG rfl rfl rfl rfl ?_|(refine jdq rfl rfl ?_ ?_ ?_;kernel_rfl;kernel_rfl)|refine zB rfl rfl rfl (by repeat constructor) rfl ?_|refine zH .here rfl rfl rfl rfl ?_|refine zH (.there .here) rfl rfl rfl rfl ?_|refine zH (.there (.there .here)) rfl rfl rfl rfl ?_)
          exact J_retv (vs := [.agg (zRp).toArray, .int .i64 5]) rfl (.agg rfl rfl (Rdb.ofB (n := 0) (.there (.there (.there .here))) rfl) rfl (.tmp rfl .nil)) [] (fun w s => s.drop.drop.drop.drop) hFF ⟨rfl, rfl⟩
        | true =>
          rw [hb2] at hs2
          by_cases hq : x.result ≤ 99
          · rw [if_neg (by simp [hq])]
            repeat (first|refine zJ rfl rfl ?_|refine jr rfl ?_|refine jn ?_|refine zM rfl rfl ?_|(refine zC rfl rfl ?_ rfl ?_;omega)|(refine zD rfl rfl ?_ rfl ?_;omega)|(refine zP rfl ?_ rfl ?_;omega)|refine zG rfl rfl rfl rfl ?_|(refine jdq rfl rfl ?_ ?_ ?_;kernel_rfl;kernel_rfl)|refine zB rfl rfl rfl (by repeat constructor) rfl ?_|refine zH .here rfl rfl rfl rfl ?_|refine zH (.there .here) rfl rfl rfl rfl ?_|refine zH (.there (.there .here)) rfl rfl rfl rfl ?_)
            refine oP (hs0) Try.call51 rfl rfl ?_
            repeat (first|refine zJ rfl rfl ?_|refine jr rfl ?_|refine jn ?_|refine zM rfl rfl ?_|(refine zC rfl rfl ?_ rfl ?_;omega)|(refine zD rfl rfl ?_ rfl ?_;omega)|(refine zP rfl ?_ rfl ?_;omega)|refine zG rfl rfl rfl rfl ?_|(refine jdq rfl rfl ?_ ?_ ?_;kernel_rfl;kernel_rfl)|refine zB rfl rfl rfl (by repeat constructor) rfl ?_|refine zH .here rfl rfl rfl rfl ?_|refine zH (.there .here) rfl rfl rfl rfl ?_|refine zH (.there (.there .here)) rfl rfl rfl rfl ?_)
            refine oS (ev_load_agg (cs := [.int .i64 (m : Int)]) rfl rfl (Rdb.ofB (n := 0) (.there (.there .here)) rfl) rfl) rfl ?_
            repeat (first|refine zJ rfl rfl ?_|refine jr rfl ?_|refine jn ?_|refine zM rfl rfl ?_|(refine zC rfl rfl ?_ rfl ?_;omega)|(refine zD rfl rfl ?_ rfl ?_;omega)|(refine zP rfl ?_ rfl ?_;omega)|refine zG rfl rfl rfl rfl ?_|(refine jdq rfl rfl ?_ ?_ ?_;kernel_rfl;kernel_rfl)|refine zB rfl rfl rfl (by repeat constructor) rfl ?_|refine zH .here rfl rfl rfl rfl ?_|refine zH (.there .here) rfl rfl rfl rfl ?_|refine zH (.there (.there .here)) rfl rfl rfl rfl ?_)
            refine oP (hs1) Try.call55 rfl rfl ?_
            repeat (first|refine zJ rfl rfl ?_|refine jr rfl ?_|refine jn ?_|refine zM rfl rfl ?_|(refine zC rfl rfl ?_ rfl ?_;omega)|(refine zD rfl rfl ?_ rfl ?_;omega)|(refine zP rfl ?_ rfl ?_;omega)|refine zG rfl rfl rfl rfl ?_|(refine jdq rfl rfl ?_ ?_ ?_;kernel_rfl;kernel_rfl)|refine zB rfl rfl rfl (by repeat constructor) rfl ?_|refine zH .here rfl rfl rfl rfl ?_|refine zH (.there .here) rfl rfl rfl rfl ?_|refine zH (.there (.there .here)) rfl rfl rfl rfl ?_)
            refine oP (hs2) Try.call56 rfl rfl ?_
            repeat (first|refine zJ rfl rfl ?_|refine jr rfl ?_|refine jn ?_|refine zM rfl rfl ?_|(refine zC rfl rfl ?_ rfl ?_;omega)|(refine zD rfl rfl ?_ rfl ?_;omega)|(refine zP rfl ?_ rfl ?_;omega)|refine zG rfl rfl rfl rfl ?_|(refine jdq rfl rfl ?_ ?_ ?_;kernel_rfl;kernel_rfl)|refine zB rfl rfl rfl (by repeat constructor) rfl ?_|refine zH .here rfl rfl rfl rfl ?_|refine zH (.there .here) rfl rfl rfl rfl ?_|refine zH (.there (.there .here)) rfl rfl rfl rfl ?_)
            refine oS (ev_load_agg (cs := x.cells) rfl rfl (Rdb.ofB (n := 0) (.there .here) (by rw [List.drop_zero, List.take_length])) rfl) rfl ?_
            refine oN (ev_store (b := b4) rfl rfl .agg rfl rfl (lay_all (zs := zRp) rfl) x.ones (.there (.there (.there .here)))) rfl ?_
            rintro _ _ _ _ ⟨rfl, _, rfl⟩
            repeat (first|refine zJ rfl rfl ?_|refine jr rfl ?_|refine jn ?_|refine zM rfl rfl ?_|(refine zC rfl rfl ?_ rfl ?_;omega)|(refine zD rfl rfl ?_ rfl ?_;omega)|(refine zP rfl ?_ rfl ?_;omega)|refine zG rfl rfl rfl rfl ?_|(refine jdq rfl rfl ?_ ?_ ?_;kernel_rfl;kernel_rfl)|refine zB rfl rfl rfl (by repeat constructor) rfl ?_|refine zH .here rfl rfl rfl rfl ?_|refine zH (.there .here) rfl rfl rfl rfl ?_|refine zH (.there (.there .here)) rfl rfl rfl rfl ?_)
            exact J_retv (vs := [.agg x.cells.toArray, .int .i64 0]) rfl (.agg rfl rfl (Rdb.ofB (n := 0) (.there (.there (.there .here))) (by rw [List.drop_zero, List.take_length])) rfl (.tmp rfl .nil)) [] (fun w s => s.drop.drop.drop.drop) hFF ⟨rfl, rfl⟩
          · rw [if_pos (by simp [hq])]
            repeat (first|refine zJ rfl rfl ?_|refine jr rfl ?_|refine jn ?_|refine zM rfl rfl ?_|(refine zC rfl rfl ?_ rfl ?_;omega)|(refine zD rfl rfl ?_ rfl ?_;omega)|(refine zP rfl ?_ rfl ?_;omega)|refine zG rfl rfl rfl rfl ?_|(refine jdq rfl rfl ?_ ?_ ?_;kernel_rfl;kernel_rfl)|refine zB rfl rfl rfl (by repeat constructor) rfl ?_|refine zH .here rfl rfl rfl rfl ?_|refine zH (.there .here) rfl rfl rfl rfl ?_|refine zH (.there (.there .here)) rfl rfl rfl rfl ?_)
            refine oP (hs0) Try.call51 rfl rfl ?_
            repeat (first|refine zJ rfl rfl ?_|refine jr rfl ?_|refine jn ?_|refine zM rfl rfl ?_|(refine zC rfl rfl ?_ rfl ?_;omega)|(refine zD rfl rfl ?_ rfl ?_;omega)|(refine zP rfl ?_ rfl ?_;omega)|refine zG rfl rfl rfl rfl ?_|(refine jdq rfl rfl ?_ ?_ ?_;kernel_rfl;kernel_rfl)|refine zB rfl rfl rfl (by repeat constructor) rfl ?_|refine zH .here rfl rfl rfl rfl ?_|refine zH (.there .here) rfl rfl rfl rfl ?_|refine zH (.there (.there .here)) rfl rfl rfl rfl ?_)
            refine oS (ev_load_agg (cs := [.int .i64 (m : Int)]) rfl rfl (Rdb.ofB (n := 0) (.there (.there .here)) rfl) rfl) rfl ?_
            repeat (first|refine zJ rfl rfl ?_|refine jr rfl ?_|refine jn ?_|refine zM rfl rfl ?_|(refine zC rfl rfl ?_ rfl ?_;omega)|(refine zD rfl rfl ?_ rfl ?_;omega)|(refine zP rfl ?_ rfl ?_;omega)|refine zG rfl rfl rfl rfl ?_|(refine jdq rfl rfl ?_ ?_ ?_;kernel_rfl;kernel_rfl)|refine zB rfl rfl rfl (by repeat constructor) rfl ?_|refine zH .here rfl rfl rfl rfl ?_|refine zH (.there .here) rfl rfl rfl rfl ?_|refine zH (.there (.there .here)) rfl rfl rfl rfl ?_)
            refine oP (hs1) Try.call55 rfl rfl ?_
            repeat (first|refine zJ rfl rfl ?_|refine jr rfl ?_|refine jn ?_|refine zM rfl rfl ?_|(refine zC rfl rfl ?_ rfl ?_;omega)|(refine zD rfl rfl ?_ rfl ?_;omega)|(refine zP rfl ?_ rfl ?_;omega)|refine zG rfl rfl rfl rfl ?_|(refine jdq rfl rfl ?_ ?_ ?_;kernel_rfl;kernel_rfl)|refine zB rfl rfl rfl (by repeat constructor) rfl ?_|refine zH .here rfl rfl rfl rfl ?_|refine zH (.there .here) rfl rfl rfl rfl ?_|refine zH (.there (.there .here)) rfl rfl rfl rfl ?_)
            refine oP (hs2) Try.call56 rfl rfl ?_
            repeat (first|refine zJ rfl rfl ?_|refine jr rfl ?_|refine jn ?_|refine zM rfl rfl ?_|(refine zC rfl rfl ?_ rfl ?_;omega)|(refine zD rfl rfl ?_ rfl ?_;omega)|(refine zP rfl ?_ rfl ?_;omega)|refine zG rfl rfl rfl rfl ?_|(refine jdq rfl rfl ?_ ?_ ?_;kernel_rfl;kernel_rfl)|refine zB rfl rfl rfl (by repeat constructor) rfl ?_|refine zH .here rfl rfl rfl rfl ?_|refine zH (.there .here) rfl rfl rfl rfl ?_|refine zH (.there (.there .here)) rfl rfl rfl rfl ?_)
            refine oN (ev_store (b := b4) rfl rfl .agg rfl rfl (lay_all (zs := zRp) rfl) ones_zRp (.there (.there (.there .here)))) rfl ?_
            rintro _ _ _ _ ⟨rfl, _, rfl⟩
            repeat (first|refine zJ rfl rfl ?_|refine jr rfl ?_|refine jn ?_|refine zM rfl rfl ?_|(refine zC rfl rfl ?_ rfl ?_;omega)|(refine zD rfl rfl ?_ rfl ?_;omega)|(refine zP rfl ?_ rfl ?_;omega)|refine zG rfl rfl rfl rfl ?_|(refine jdq rfl rfl ?_ ?_ ?_;kernel_rfl;kernel_rfl)|refine zB rfl rfl rfl (by repeat constructor) rfl ?_|refine zH .here rfl rfl rfl rfl ?_|refine zH (.there .here) rfl rfl rfl rfl ?_|refine zH (.there (.there .here)) rfl rfl rfl rfl ?_)
            exact J_retv (vs := [.agg (zRp).toArray, .int .i64 5]) rfl (.agg rfl rfl (Rdb.ofB (n := 0) (.there (.there (.there .here))) rfl) rfl (.tmp rfl .nil)) [] (fun w s => s.drop.drop.drop.drop) hFF ⟨rfl, rfl⟩
  · rw [if_pos he]
    repeat (first|refine zJ rfl rfl ?_|refine jr rfl ?_|refine jn ?_|refine zM rfl rfl ?_|(refine zC rfl rfl ?_ rfl ?_;omega)|(refine zD rfl rfl ?_ rfl ?_;omega)|(refine zP rfl ?_ rfl ?_;omega)|refine zG rfl rfl rfl rfl ?_|(refine jdq rfl rfl ?_ ?_ ?_;kernel_rfl;kernel_rfl)|refine zB rfl rfl rfl (by repeat constructor) rfl ?_|refine zH .here rfl rfl rfl rfl ?_|refine zH (.there .here) rfl rfl rfl rfl ?_|refine zH (.there (.there .here)) rfl rfl rfl rfl ?_)
    refine oN (ev_store (b := b4) rfl rfl .agg rfl rfl (lay_all (zs := zRp) rfl) ones_zRp (.there (.there (.there .here)))) rfl ?_
    rintro _ _ _ _ ⟨rfl, _, rfl⟩
    repeat (first|refine zJ rfl rfl ?_|refine jr rfl ?_|refine jn ?_|refine zM rfl rfl ?_|(refine zC rfl rfl ?_ rfl ?_;omega)|(refine zD rfl rfl ?_ rfl ?_;omega)|(refine zP rfl ?_ rfl ?_;omega)|refine zG rfl rfl rfl rfl ?_|(refine jdq rfl rfl ?_ ?_ ?_;kernel_rfl;kernel_rfl)|refine zB rfl rfl rfl (by repeat constructor) rfl ?_|refine zH .here rfl rfl rfl rfl ?_|refine zH (.there .here) rfl rfl rfl rfl ?_|refine zH (.there (.there .here)) rfl rfl rfl rfl ?_)
    exact J_retv (vs := [.agg (zRp).toArray, .int .i64 2]) rfl (.agg rfl rfl (Rdb.ofB (n := 0) (.there (.there (.there .here))) rfl) rfl (.tmp rfl .nil)) [] (fun w s => s.drop.drop.drop.drop) hFF ⟨rfl, rfl⟩
set_option maxHeartbeats 32000000 in
theorem ParseReply_spec (v : Value) (bs : List UInt8) (n : Int) (F : PH) (h : Byt F v bs) (hl : bs.length ≤ 1048576) :
    Spec Try.prog 21 [v, .int .i64 n] F [] (TupQ (rpP bs n).1.cells (rpP bs n).2) := by
  obtain ⟨a, c, rfl, hc⟩ := h.form
  refine Spec.of2 Try.func21 rfl rfl fun X w0 => ?_
  have hFF := PH.ler F
  refine jc rfl rfl ?_
  refine jr rfl ?_
  refine oE (ev_alloc (cs := zRp) rfl) rfl ?_
  rintro _ _ _ _ ⟨rfl, b4, rfl, rfl⟩
  unfold rpP
  by_cases hn : n < 1 ∨ 7 < n
  · rw [if_pos hn]
    by_cases h1 : n < 1
    · repeat (first|refine zJ rfl rfl ?_|refine jr rfl ?_|refine jn ?_|refine zM rfl rfl ?_|(refine zC rfl rfl ?_ rfl ?_;omega)|(refine zD rfl rfl ?_ rfl ?_;omega)|(refine zP rfl ?_ rfl ?_;omega)|refine zG rfl rfl rfl rfl ?_|(refine jdq rfl rfl ?_ ?_ ?_;kernel_rfl;kernel_rfl)|refine zB rfl rfl rfl (by repeat constructor) rfl ?_|refine zH .here rfl rfl rfl rfl ?_|refine zH (.there .here) rfl rfl rfl rfl ?_|refine zH (.there (.there .here)) rfl rfl rfl rfl ?_)
      refine oN (ev_store (b := b4) rfl rfl .agg rfl rfl (lay_all (zs := zRp) rfl) ones_zRp .here) rfl ?_
      rintro _ _ _ _ ⟨rfl, _, rfl⟩
      repeat (first|refine zJ rfl rfl ?_|refine jr rfl ?_|refine jn ?_|refine zM rfl rfl ?_|(refine zC rfl rfl ?_ rfl ?_;omega)|(refine zD rfl rfl ?_ rfl ?_;omega)|(refine zP rfl ?_ rfl ?_;omega)|refine zG rfl rfl rfl rfl ?_|(refine jdq rfl rfl ?_ ?_ ?_;kernel_rfl;kernel_rfl)|refine zB rfl rfl rfl (by repeat constructor) rfl ?_|refine zH .here rfl rfl rfl rfl ?_|refine zH (.there .here) rfl rfl rfl rfl ?_|refine zH (.there (.there .here)) rfl rfl rfl rfl ?_)
      exact J_retv (vs := [.agg (zRp).toArray, .int .i64 1]) rfl (.agg rfl rfl (Rdb.ofB (n := 0) .here rfl) rfl (.tmp rfl .nil)) [] (fun w s => s.drop) hFF ⟨rfl, rfl⟩
    · have h7 : 7 < n := hn.resolve_left h1
      repeat (first|refine zJ rfl rfl ?_|refine jr rfl ?_|refine jn ?_|refine zM rfl rfl ?_|(refine zC rfl rfl ?_ rfl ?_;omega)|(refine zD rfl rfl ?_ rfl ?_;omega)|(refine zP rfl ?_ rfl ?_;omega)|refine zG rfl rfl rfl rfl ?_|(refine jdq rfl rfl ?_ ?_ ?_;kernel_rfl;kernel_rfl)|refine zB rfl rfl rfl (by repeat constructor) rfl ?_|refine zH .here rfl rfl rfl rfl ?_|refine zH (.there .here) rfl rfl rfl rfl ?_|refine zH (.there (.there .here)) rfl rfl rfl rfl ?_)
      refine oN (ev_store (b := b4) rfl rfl .agg rfl rfl (lay_all (zs := zRp) rfl) ones_zRp .here) rfl ?_
      rintro _ _ _ _ ⟨rfl, _, rfl⟩
      repeat (first|refine zJ rfl rfl ?_|refine jr rfl ?_|refine jn ?_|refine zM rfl rfl ?_|(refine zC rfl rfl ?_ rfl ?_;omega)|(refine zD rfl rfl ?_ rfl ?_;omega)|(refine zP rfl ?_ rfl ?_;omega)|refine zG rfl rfl rfl rfl ?_|(refine jdq rfl rfl ?_ ?_ ?_;kernel_rfl;kernel_rfl)|refine zB rfl rfl rfl (by repeat constructor) rfl ?_|refine zH .here rfl rfl rfl rfl ?_|refine zH (.there .here) rfl rfl rfl rfl ?_|refine zH (.there (.there .here)) rfl rfl rfl rfl ?_)
      exact J_retv (vs := [.agg (zRp).toArray, .int .i64 1]) rfl (.agg rfl rfl (Rdb.ofB (n := 0) .here rfl) rfl (.tmp rfl .nil)) [] (fun w s => s.drop) hFF ⟨rfl, rfl⟩
  rw [if_neg hn]
  have hn1 : ¬ n < 1 := fun h => hn (.inl h)
  have hn7 : ¬ 7 < n := fun h => hn (.inr h)
  obtain ⟨m, rfl⟩ : ∃ m : Nat, n = m := ⟨n.toNat, by omega⟩
  repeat (first|refine zJ rfl rfl ?_|refine jr rfl ?_|refine jn ?_|refine zM rfl rfl ?_|(refine zC rfl rfl ?_ rfl ?_;omega)|(refine zD rfl rfl ?_ rfl ?_;omega)|(refine zP rfl ?_ rfl ?_;omega)|refine zG rfl rfl rfl rfl ?_|(refine jdq rfl rfl ?_ ?_ ?_;kernel_rfl;kernel_rfl)|refine zB rfl rfl rfl (by repeat constructor) rfl ?_|refine zH .here rfl rfl rfl rfl ?_|refine zH (.there .here) rfl rfl rfl rfl ?_|refine zH (.there (.there .here)) rfl rfl rfl rfl ?_)
  refine oE (ev_box rfl .agg) rfl ?_
  rintro _ _ _ _ ⟨rfl, br, rfl, rfl⟩
  repeat (first|refine zJ rfl rfl ?_|refine jr rfl ?_|refine jn ?_|refine zM rfl rfl ?_|(refine zC rfl rfl ?_ rfl ?_;omega)|(refine zD rfl rfl ?_ rfl ?_;omega)|(refine zP rfl ?_ rfl ?_;omega)|refine zG rfl rfl rfl rfl ?_|(refine jdq rfl rfl ?_ ?_ ?_;kernel_rfl;kernel_rfl)|refine zB rfl rfl rfl (by repeat constructor) rfl ?_|refine zH .here rfl rfl rfl rfl ?_|refine zH (.there .here) rfl rfl rfl rfl ?_|refine zH (.there (.there .here)) rfl rfl rfl rfl ?_)
  refine oC (Hc := [Rdr br (.slice a bs.length c) (0)]) (Hr := blk b4 31 zRp :: X) (Number_spec br (.slice a bs.length c) (0) 8 (bs) F h (by omega)) Try.call57 rfl rfl (fun _ s => s) ?_
  rintro _ F1 _ hF1 ⟨v1, rfl, hv1, rfl⟩
  have n1 := numR_rest (0) (bs) 8
  have m1 := numR_lt (0) (bs) 8
  generalize hr1 : numR (0) (bs) 8 = r1 at *
  repeat (first|refine zJ rfl rfl ?_|refine jr rfl ?_|refine jn ?_|refine zM rfl rfl ?_|(refine zC rfl rfl ?_ rfl ?_;omega)|(refine zD rfl rfl ?_ rfl ?_;omega)|(refine zP rfl ?_ rfl ?_;omega)|refine zG rfl rfl rfl rfl ?_|(refine jdq rfl rfl ?_ ?_ ?_;kernel_rfl;kernel_rfl)|refine zB rfl rfl rfl (by repeat constructor) rfl ?_|refine zH .here rfl rfl rfl rfl ?_|refine zH (.there .here) rfl rfl rfl rfl ?_|refine zH (.there (.there .here)) rfl rfl rfl rfl ?_)
  refine oS (ev_conv rfl rfl rfl (iN_wrap _)) rfl ?_
  repeat (first|refine zJ rfl rfl ?_|refine jr rfl ?_|refine jn ?_|refine zM rfl rfl ?_|(refine zC rfl rfl ?_ rfl ?_;omega)|(refine zD rfl rfl ?_ rfl ?_;omega)|(refine zP rfl ?_ rfl ?_;omega)|refine zG rfl rfl rfl rfl ?_|(refine jdq rfl rfl ?_ ?_ ?_;kernel_rfl;kernel_rfl)|refine zB rfl rfl rfl (by repeat constructor) rfl ?_|refine zH .here rfl rfl rfl rfl ?_|refine zH (.there .here) rfl rfl rfl rfl ?_|refine zH (.there (.there .here)) rfl rfl rfl rfl ?_)
  refine oC (Hc := [Rdr br (v1) (r1.2.1)]) (Hr := blk b4 31 zRp :: X) (Number_spec br (v1) (r1.2.1) 1 (r1.2.2) F1 hv1 (by omega)) Try.call57 rfl rfl (fun _ s => s) ?_
  rintro _ F2 _ hF2 ⟨v2, rfl, hv2, rfl⟩
  have n2 := numR_rest (r1.2.1) (r1.2.2) 1
  have m2 := numR_lt (r1.2.1) (r1.2.2) 1
  generalize hr2 : numR (r1.2.1) (r1.2.2) 1 = r2 at *
  repeat (first|refine zJ rfl rfl ?_|refine jr rfl ?_|refine jn ?_|refine zM rfl rfl ?_|(refine zC rfl rfl ?_ rfl ?_;omega)|(refine zD rfl rfl ?_ rfl ?_;omega)|(refine zP rfl ?_ rfl ?_;omega)|refine zG rfl rfl rfl rfl ?_|(refine jdq rfl rfl ?_ ?_ ?_;kernel_rfl;kernel_rfl)|refine zB rfl rfl rfl (by repeat constructor) rfl ?_|refine zH .here rfl rfl rfl rfl ?_|refine zH (.there .here) rfl rfl rfl rfl ?_|refine zH (.there (.there .here)) rfl rfl rfl rfl ?_)
  refine oS (ev_conv rfl rfl rfl (iN_wrap _)) rfl ?_
  repeat (first|refine zJ rfl rfl ?_|refine jr rfl ?_|refine jn ?_|refine zM rfl rfl ?_|(refine zC rfl rfl ?_ rfl ?_;omega)|(refine zD rfl rfl ?_ rfl ?_;omega)|(refine zP rfl ?_ rfl ?_;omega)|refine zG rfl rfl rfl rfl ?_|(refine jdq rfl rfl ?_ ?_ ?_;kernel_rfl;kernel_rfl)|refine zB rfl rfl rfl (by repeat constructor) rfl ?_|refine zH .here rfl rfl rfl rfl ?_|refine zH (.there .here) rfl rfl rfl rfl ?_|refine zH (.there (.there .here)) rfl rfl rfl rfl ?_)
  refine oC (Hc := [Rdr br (v2) (r2.2.1)]) (Hr := blk b4 31 zRp :: X) (Number_spec br (v2) (r2.2.1) 8 (r2.2.2) F2 hv2 (by omega)) Try.call57 rfl rfl (fun _ s => s) ?_
  rintro _ F3 _ hF3 ⟨v3, rfl, hv3, rfl⟩
  have n3 := numR_rest (r2.2.1) (r2.2.2) 8
  have m3 := numR_lt (r2.2.1) (r2.2.2) 8
  generalize hr3 : numR (r2.2.1) (r2.2.2) 8 = r3 at *
  repeat (first|refine zJ rfl rfl ?_|refine jr rfl ?_|refine jn ?_|refine zM rfl rfl ?_|(refine zC rfl rfl ?_ rfl ?_;omega)|(refine zD rfl rfl ?_ rfl ?_;omega)|(refine zP rfl ?_ rfl ?_;omega)|refine zG rfl rfl rfl rfl ?_|(refine jdq rfl rfl ?_ ?_ ?_;kernel_rfl;kernel_rfl)|refine zB rfl rfl rfl (by repeat constructor) rfl ?_|refine zH .here rfl rfl rfl rfl ?_|refine zH (.there .here) rfl rfl rfl rfl ?_|refine zH (.there (.there .here)) rfl rfl rfl rfl ?_)
  refine oS (ev_conv rfl rfl rfl (iN_wrap _)) rfl ?_
  repeat (first|refine zJ rfl rfl ?_|refine jr rfl ?_|refine jn ?_|refine zM rfl rfl ?_|(refine zC rfl rfl ?_ rfl ?_;omega)|(refine zD rfl rfl ?_ rfl ?_;omega)|(refine zP rfl ?_ rfl ?_;omega)|refine zG rfl rfl rfl rfl ?_|(refine jdq rfl rfl ?_ ?_ ?_;kernel_rfl;kernel_rfl)|refine zB rfl rfl rfl (by repeat constructor) rfl ?_|refine zH .here rfl rfl rfl rfl ?_|refine zH (.there .here) rfl rfl rfl rfl ?_|refine zH (.there (.there .here)) rfl rfl rfl rfl ?_)
  refine oC (Hc := [Rdr br (v3) (r3.2.1)]) (Hr := blk b4 31 zRp :: X) (Number_spec br (v3) (r3.2.1) 1 (r3.2.2) F3 hv3 (by omega)) Try.call57 rfl rfl (fun _ s => s) ?_
  rintro _ F4 _ hF4 ⟨v4, rfl, hv4, rfl⟩
  have n4 := numR_rest (r3.2.1) (r3.2.2) 1
  have m4 := numR_lt (r3.2.1) (r3.2.2) 1
  generalize hr4 : numR (r3.2.1) (r3.2.2) 1 = r4 at *
  repeat (first|refine zJ rfl rfl ?_|refine jr rfl ?_|refine jn ?_|refine zM rfl rfl ?_|(refine zC rfl rfl ?_ rfl ?_;omega)|(refine zD rfl rfl ?_ rfl ?_;omega)|(refine zP rfl ?_ rfl ?_;omega)|refine zG rfl rfl rfl rfl ?_|(refine jdq rfl rfl ?_ ?_ ?_;kernel_rfl;kernel_rfl)|refine zB rfl rfl rfl (by repeat constructor) rfl ?_|refine zH .here rfl rfl rfl rfl ?_|refine zH (.there .here) rfl rfl rfl rfl ?_|refine zH (.there (.there .here)) rfl rfl rfl rfl ?_)
  refine oS (ev_conv rfl rfl rfl (iN_wrap _)) rfl ?_
  repeat (first|refine zJ rfl rfl ?_|refine jr rfl ?_|refine jn ?_|refine zM rfl rfl ?_|(refine zC rfl rfl ?_ rfl ?_;omega)|(refine zD rfl rfl ?_ rfl ?_;omega)|(refine zP rfl ?_ rfl ?_;omega)|refine zG rfl rfl rfl rfl ?_|(refine jdq rfl rfl ?_ ?_ ?_;kernel_rfl;kernel_rfl)|refine zB rfl rfl rfl (by repeat constructor) rfl ?_|refine zH .here rfl rfl rfl rfl ?_|refine zH (.there .here) rfl rfl rfl rfl ?_|refine zH (.there (.there .here)) rfl rfl rfl rfl ?_)
  refine oE (ev_alloc (cs := zRp) rfl) rfl ?_
  rintro _ _ _ _ ⟨rfl, b5, rfl, rfl⟩
  refine oN (ev_store (b := b5) rfl rfl .agg rfl rfl (lay_all (zs := zRp) rfl) (Rp.ones ⟨iN r1.1, iN r2.1, iN r3.1, iN r4.1⟩) .here) rfl ?_
  rintro _ _ _ _ ⟨rfl, _, rfl⟩
  repeat (first|refine zJ rfl rfl ?_|refine jr rfl ?_|refine jn ?_|refine zM rfl rfl ?_|(refine zC rfl rfl ?_ rfl ?_;omega)|(refine zD rfl rfl ?_ rfl ?_;omega)|(refine zP rfl ?_ rfl ?_;omega)|refine zG rfl rfl rfl rfl ?_|(refine jdq rfl rfl ?_ ?_ ?_;kernel_rfl;kernel_rfl)|refine zB rfl rfl rfl (by repeat constructor) rfl ?_|refine zH .here rfl rfl rfl rfl ?_|refine zH (.there .here) rfl rfl rfl rfl ?_|refine zH (.there (.there .here)) rfl rfl rfl rfl ?_)
  replace hFF := hF1.trans (hF2.trans (hF3.trans (hF4)))
  have hx : RpR bs = (⟨iN r1.1, iN r2.1, iN r3.1, iN r4.1⟩, r4.2) := by unfold RpR; dsimp only; rw [hr1, hr2, hr3, hr4]
  rw [hx]
  dsimp only
  obtain ⟨x, hxx⟩ : ∃ x : Rp, x = ⟨iN r1.1, iN r2.1, iN r3.1, iN r4.1⟩ := ⟨_, rfl⟩
  have hxc : [.int .i64 (iN r1.1), .int .i64 (iN r2.1), .int .i64 (iN r3.1), .int .i64 (iN r4.1)] = x.cells := by rw [hxx]; rfl
  rw [hxc, ← hxx]
  clear hxc hxx hx
  refine oC (Hc := [Rdr br v4 r4.2.1]) (Hr := blk b5 31 x.cells :: blk b4 31 zRp :: X) (End_spec br v4 r4.2.1 r4.2.2 F4 hv4) Try.call59 rfl rfl (fun _ s => s.pick (.there .here)) ?_
  rintro _ _ _ _ ⟨rfl, rfl, rfl⟩
  by_cases he : endR r4.2.1 r4.2.2 = 0
  · rw [if_neg (fun h => h he)]
    unfold Rp.ok
    have hs0 := View_spec x.view F4
    have hs1 := Client_spec m x.client F4 ⟨by omega, by omega⟩
    have hs2 := Stamp_spec x.stamp F4
    cases hb0 : viewB x.view with
    | false =>
      rw [hb0] at hs0
      rw [if_pos (by simp)]
      repeat (first|refine zJ rfl rfl ?_|refine jr rfl ?_|refine jn ?_|refine zM rfl rfl ?_|(refine zC rfl rfl ?_ rfl ?_;omega)|(refine zD rfl rfl ?_ rfl ?_;omega)|(refine zP rfl ?_ rfl ?_;omega)|refine zG rfl rfl rfl rfl ?_|(refine jdq rfl rfl ?_ ?_ ?_;kernel_rfl;kernel_rfl)|refine zB rfl rfl rfl (by repeat constructor) rfl ?_|refine zH .here rfl rfl rfl rfl ?_|refine zH (.there .here) rfl rfl rfl rfl ?_|refine zH (.there (.there .here)) rfl rfl rfl rfl ?_)
      refine oP (hs0) Try.call28 rfl rfl ?_
      repeat (first|refine zJ rfl rfl ?_|refine jr rfl ?_|refine jn ?_|refine zM rfl rfl ?_|(refine zC rfl rfl ?_ rfl ?_;omega)|(refine zD rfl rfl ?_ rfl ?_;omega)|(refine zP rfl ?_ rfl ?_;omega)|refine zG rfl rfl rfl rfl ?_|(refine jdq rfl rfl ?_ ?_ ?_;kernel_rfl;kernel_rfl)|refine zB rfl rfl rfl (by repeat constructor) rfl ?_|refine zH .here rfl rfl rfl rfl ?_|refine zH (.there .here) rfl rfl rfl rfl ?_|refine zH (.there (.there .here)) rfl rfl rfl rfl ?_)
      refine oN (ev_store (b := b4) rfl rfl .agg rfl rfl (lay_all (zs := zRp) rfl) ones_zRp (.there (.there .here))) rfl ?_
      rintro _ _ _ _ ⟨rfl, _, rfl⟩
      repeat (first|refine zJ rfl rfl ?_|refine jr rfl ?_|refine jn ?_|refine zM rfl rfl ?_|(refine zC rfl rfl ?_ rfl ?_;omega)|(refine zD rfl rfl ?_ rfl ?_;omega)|(refine zP rfl ?_ rfl ?_;omega)|refine zG rfl rfl rfl rfl ?_|(refine jdq rfl rfl ?_ ?_ ?_;kernel_rfl;kernel_rfl)|refine zB rfl rfl rfl (by repeat constructor) rfl ?_|refine zH .here rfl rfl rfl rfl ?_|refine zH (.there .here) rfl rfl rfl rfl ?_|refine zH (.there (.there .here)) rfl rfl rfl rfl ?_)
      exact J_retv (vs := [.agg (zRp).toArray, .int .i64 5]) rfl (.agg rfl rfl (Rdb.ofB (n := 0) (.there (.there .here)) rfl) rfl (.tmp rfl .nil)) [] (fun w s => s.drop.drop.drop) hFF ⟨rfl, rfl⟩
    | true =>
      rw [hb0] at hs0
      cases hb1 : clB m x.client with
      | false =>
        rw [hb1] at hs1
        rw [if_pos (by simp)]
        repeat (first|refine zJ rfl rfl ?_|refine jr rfl ?_|refine jn ?_|refine zM rfl rfl ?_|(refine zC rfl rfl ?_ rfl ?_;omega)|(refine zD rfl rfl ?_ rfl ?_;omega)|(refine zP rfl ?_ rfl ?_;omega)|refine zG rfl rfl rfl rfl ?_|(refine jdq rfl rfl ?_ ?_ ?_;kernel_rfl;kernel_rfl)|refine zB rfl rfl rfl (by repeat constructor) rfl ?_|refine zH .here rfl rfl rfl rfl ?_|refine zH (.there .here) rfl rfl rfl rfl ?_|refine zH (.there (.there .here)) rfl rfl rfl rfl ?_)
        refine oP (hs0) Try.call28 rfl rfl ?_
        repeat (first|refine zJ rfl rfl ?_|refine jr rfl ?_|refine jn ?_|refine zM rfl rfl ?_|(refine zC rfl rfl ?_ rfl ?_;omega)|(refine zD rfl rfl ?_ rfl ?_;omega)|(refine zP rfl ?_ rfl ?_;omega)|refine zG rfl rfl rfl rfl ?_|(refine jdq rfl rfl ?_ ?_ ?_;kernel_rfl;kernel_rfl)|refine zB rfl rfl rfl (by repeat constructor) rfl ?_|refine zH .here rfl rfl rfl rfl ?_|refine zH (.there .here) rfl rfl rfl rfl ?_|refine zH (.there (.there .here)) rfl rfl rfl rfl ?_)
        refine oP (hs1) Try.call60 rfl rfl ?_
        repeat (first|refine zJ rfl rfl ?_|refine jr rfl ?_|refine jn ?_|refine zM rfl rfl ?_|(refine zC rfl rfl ?_ rfl ?_;omega)|(refine zD rfl rfl ?_ rfl ?_;omega)|(refine zP rfl ?_ rfl ?_;omega)|refine zG rfl rfl rfl rfl ?_|(refine jdq rfl rfl ?_ ?_ ?_;kernel_rfl;kernel_rfl)|refine zB rfl rfl rfl (by repeat constructor) rfl ?_|refine zH .here rfl rfl rfl rfl ?_|refine zH (.there .here) rfl rfl rfl rfl ?_|refine zH (.there (.there .here)) rfl rfl rfl rfl ?_)
        refine oN (ev_store (b := b4) rfl rfl .agg rfl rfl (lay_all (zs := zRp) rfl) ones_zRp (.there (.there .here))) rfl ?_
        rintro _ _ _ _ ⟨rfl, _, rfl⟩
        repeat (first|refine zJ rfl rfl ?_|refine jr rfl ?_|refine jn ?_|refine zM rfl rfl ?_|(refine zC rfl rfl ?_ rfl ?_;omega)|(refine zD rfl rfl ?_ rfl ?_;omega)|(refine zP rfl ?_ rfl ?_;omega)|refine zG rfl rfl rfl rfl ?_|(refine jdq rfl rfl ?_ ?_ ?_;kernel_rfl;kernel_rfl)|refine zB rfl rfl rfl (by repeat constructor) rfl ?_|refine zH .here rfl rfl rfl rfl ?_|refine zH (.there .here) rfl rfl rfl rfl ?_|refine zH (.there (.there .here)) rfl rfl rfl rfl ?_)
        exact J_retv (vs := [.agg (zRp).toArray, .int .i64 5]) rfl (.agg rfl rfl (Rdb.ofB (n := 0) (.there (.there .here)) rfl) rfl (.tmp rfl .nil)) [] (fun w s => s.drop.drop.drop) hFF ⟨rfl, rfl⟩
      | true =>
        rw [hb1] at hs1
        cases hb2 : stampB x.stamp with
        | false =>
          rw [hb2] at hs2
          rw [if_pos (by simp)]
          repeat (first|refine zJ rfl rfl ?_|refine jr rfl ?_|refine jn ?_|refine zM rfl rfl ?_|(refine zC rfl rfl ?_ rfl ?_;omega)|(refine zD rfl rfl ?_ rfl ?_;omega)|(refine zP rfl ?_ rfl ?_;omega)|refine zG rfl rfl rfl rfl ?_|(refine jdq rfl rfl ?_ ?_ ?_;kernel_rfl;kernel_rfl)|refine zB rfl rfl rfl (by repeat constructor) rfl ?_|refine zH .here rfl rfl rfl rfl ?_|refine zH (.there .here) rfl rfl rfl rfl ?_|refine zH (.there (.there .here)) rfl rfl rfl rfl ?_)
          refine oP (hs0) Try.call28 rfl rfl ?_
          repeat (first|refine zJ rfl rfl ?_|refine jr rfl ?_|refine jn ?_|refine zM rfl rfl ?_|(refine zC rfl rfl ?_ rfl ?_;omega)|(refine zD rfl rfl ?_ rfl ?_;omega)|(refine zP rfl ?_ rfl ?_;omega)|refine zG rfl rfl rfl rfl ?_|(refine jdq rfl rfl ?_ ?_ ?_;kernel_rfl;kernel_rfl)|refine zB rfl rfl rfl (by repeat constructor) rfl ?_|refine zH .here rfl rfl rfl rfl ?_|refine zH (.there .here) rfl rfl rfl rfl ?_|refine zH (.there (.there .here)) rfl rfl rfl rfl ?_)
          refine oP (hs1) Try.call60 rfl rfl ?_
          repeat (first|refine zJ rfl rfl ?_|refine jr rfl ?_|refine jn ?_|refine zM rfl rfl ?_|(refine zC rfl rfl ?_ rfl ?_;omega)|(refine zD rfl rfl ?_ rfl ?_;omega)|(refine zP rfl ?_ rfl ?_;omega)|refine zG rfl rfl rfl rfl ?_|(refine jdq rfl rfl ?_ ?_ ?_;kernel_rfl;kernel_rfl)|refine zB rfl rfl rfl (by repeat constructor) rfl ?_|refine zH .here rfl rfl rfl rfl ?_|refine zH (.there .here) rfl rfl rfl rfl ?_|refine zH (.there (.there .here)) rfl rfl rfl rfl ?_)
          refine oP (hs2) Try.call61 rfl rfl ?_
          repeat (first|refine zJ rfl rfl ?_|refine jr rfl ?_|refine jn ?_|refine zM rfl rfl ?_|(refine zC rfl rfl ?_ rfl ?_;omega)|(refine zD rfl rfl ?_ rfl ?_;omega)|(refine zP rfl ?_ rfl ?_;omega)|refine zG rfl rfl rfl rfl ?_|(refine jdq rfl rfl ?_ ?_ ?_;kernel_rfl;kernel_rfl)|refine zB rfl rfl rfl (by repeat constructor) rfl ?_|refine zH .here rfl rfl rfl rfl ?_|refine zH (.there .here) rfl rfl rfl rfl ?_|refine zH (.there (.there .here)) rfl rfl rfl rfl ?_)
          refine oN (ev_store (b := b4) rfl rfl .agg rfl rfl (lay_all (zs := zRp) rfl) ones_zRp (.there (.there .here))) rfl ?_
          rintro _ _ _ _ ⟨rfl, _, rfl⟩
          repeat (first|refine zJ rfl rfl ?_|refine jr rfl ?_|refine jn ?_|refine zM rfl rfl ?_|(refine zC rfl rfl ?_ rfl ?_;omega)|(refine zD rfl rfl ?_ rfl ?_;omega)|(refine zP rfl ?_ rfl ?_;omega)|refine zG rfl rfl rfl rfl ?_|(refine jdq rfl rfl ?_ ?_ ?_;kernel_rfl;kernel_rfl)|refine zB rfl rfl rfl (by repeat constructor) rfl ?_|refine zH .here rfl rfl rfl rfl ?_|refine zH (.there .here) rfl rfl rfl rfl ?_|refine zH (.there (.there .here)) rfl rfl rfl rfl ?_)
          exact J_retv (vs := [.agg (zRp).toArray, .int .i64 5]) rfl (.agg rfl rfl (Rdb.ofB (n := 0) (.there (.there .here)) rfl) rfl (.tmp rfl .nil)) [] (fun w s => s.drop.drop.drop) hFF ⟨rfl, rfl⟩
        | true =>
          rw [hb2] at hs2
          by_cases hq : x.result ≤ 99
          · rw [if_neg (by simp [hq])]
            repeat (first|refine zJ rfl rfl ?_|refine jr rfl ?_|refine jn ?_|refine zM rfl rfl ?_|(refine zC rfl rfl ?_ rfl ?_;omega)|(refine zD rfl rfl ?_ rfl ?_;omega)|(refine zP rfl ?_ rfl ?_;omega)|refine zG rfl rfl rfl rfl ?_|(refine jdq rfl rfl ?_ ?_ ?_;kernel_rfl;kernel_rfl)|refine zB rfl rfl rfl (by repeat constructor) rfl ?_|refine zH .here rfl rfl rfl rfl ?_|refine zH (.there .here) rfl rfl rfl rfl ?_|refine zH (.there (.there .here)) rfl rfl rfl rfl ?_)
            refine oP (hs0) Try.call28 rfl rfl ?_
            repeat (first|refine zJ rfl rfl ?_|refine jr rfl ?_|refine jn ?_|refine zM rfl rfl ?_|(refine zC rfl rfl ?_ rfl ?_;omega)|(refine zD rfl rfl ?_ rfl ?_;omega)|(refine zP rfl ?_ rfl ?_;omega)|refine zG rfl rfl rfl rfl ?_|(refine jdq rfl rfl ?_ ?_ ?_;kernel_rfl;kernel_rfl)|refine zB rfl rfl rfl (by repeat constructor) rfl ?_|refine zH .here rfl rfl rfl rfl ?_|refine zH (.there .here) rfl rfl rfl rfl ?_|refine zH (.there (.there .here)) rfl rfl rfl rfl ?_)
            refine oP (hs1) Try.call60 rfl rfl ?_
            repeat (first|refine zJ rfl rfl ?_|refine jr rfl ?_|refine jn ?_|refine zM rfl rfl ?_|(refine zC rfl rfl ?_ rfl ?_;omega)|(refine zD rfl rfl ?_ rfl ?_;omega)|(refine zP rfl ?_ rfl ?_;omega)|refine zG rfl rfl rfl rfl ?_|(refine jdq rfl rfl ?_ ?_ ?_;kernel_rfl;kernel_rfl)|refine zB rfl rfl rfl (by repeat constructor) rfl ?_|refine zH .here rfl rfl rfl rfl ?_|refine zH (.there .here) rfl rfl rfl rfl ?_|refine zH (.there (.there .here)) rfl rfl rfl rfl ?_)
            refine oP (hs2) Try.call61 rfl rfl ?_
            repeat (first|refine zJ rfl rfl ?_|refine jr rfl ?_|refine jn ?_|refine zM rfl rfl ?_|(refine zC rfl rfl ?_ rfl ?_;omega)|(refine zD rfl rfl ?_ rfl ?_;omega)|(refine zP rfl ?_ rfl ?_;omega)|refine zG rfl rfl rfl rfl ?_|(refine jdq rfl rfl ?_ ?_ ?_;kernel_rfl;kernel_rfl)|refine zB rfl rfl rfl (by repeat constructor) rfl ?_|refine zH .here rfl rfl rfl rfl ?_|refine zH (.there .here) rfl rfl rfl rfl ?_|refine zH (.there (.there .here)) rfl rfl rfl rfl ?_)
            refine oS (ev_load_agg (cs := x.cells) rfl rfl (Rdb.ofB (n := 0) (.there .here) (by rw [List.drop_zero, List.take_length])) rfl) rfl ?_
            refine oN (ev_store (b := b4) rfl rfl .agg rfl rfl (lay_all (zs := zRp) rfl) x.ones (.there (.there .here))) rfl ?_
            rintro _ _ _ _ ⟨rfl, _, rfl⟩
            repeat (first|refine zJ rfl rfl ?_|refine jr rfl ?_|refine jn ?_|refine zM rfl rfl ?_|(refine zC rfl rfl ?_ rfl ?_;omega)|(refine zD rfl rfl ?_ rfl ?_;omega)|(refine zP rfl ?_ rfl ?_;omega)|refine zG rfl rfl rfl rfl ?_|(refine jdq rfl rfl ?_ ?_ ?_;kernel_rfl;kernel_rfl)|refine zB rfl rfl rfl (by repeat constructor) rfl ?_|refine zH .here rfl rfl rfl rfl ?_|refine zH (.there .here) rfl rfl rfl rfl ?_|refine zH (.there (.there .here)) rfl rfl rfl rfl ?_)
            exact J_retv (vs := [.agg x.cells.toArray, .int .i64 0]) rfl (.agg rfl rfl (Rdb.ofB (n := 0) (.there (.there .here)) (by rw [List.drop_zero, List.take_length])) rfl (.tmp rfl .nil)) [] (fun w s => s.drop.drop.drop) hFF ⟨rfl, rfl⟩
          · rw [if_pos (by simp [hq])]
            repeat (first|refine zJ rfl rfl ?_|refine jr rfl ?_|refine jn ?_|refine zM rfl rfl ?_|(refine zC rfl rfl ?_ rfl ?_;omega)|(refine zD rfl rfl ?_ rfl ?_;omega)|(refine zP rfl ?_ rfl ?_;omega)|refine zG rfl rfl rfl rfl ?_|(refine jdq rfl rfl ?_ ?_ ?_;kernel_rfl;kernel_rfl)|refine zB rfl rfl rfl (by repeat constructor) rfl ?_|refine zH .here rfl rfl rfl rfl ?_|refine zH (.there .here) rfl rfl rfl rfl ?_|refine zH (.there (.there .here)) rfl rfl rfl rfl ?_)
            refine oP (hs0) Try.call28 rfl rfl ?_
            repeat (first|refine zJ rfl rfl ?_|refine jr rfl ?_|refine jn ?_|refine zM rfl rfl ?_|(refine zC rfl rfl ?_ rfl ?_;omega)|(refine zD rfl rfl ?_ rfl ?_;omega)|(refine zP rfl ?_ rfl ?_;omega)|refine zG rfl rfl rfl rfl ?_|(refine jdq rfl rfl ?_ ?_ ?_;kernel_rfl;kernel_rfl)|refine zB rfl rfl rfl (by repeat constructor) rfl ?_|refine zH .here rfl rfl rfl rfl ?_|refine zH (.there .here) rfl rfl rfl rfl ?_|refine zH (.there (.there .here)) rfl rfl rfl rfl ?_)
            refine oP (hs1) Try.call60 rfl rfl ?_
            repeat (first|refine zJ rfl rfl ?_|refine jr rfl ?_|refine jn ?_|refine zM rfl rfl ?_|(refine zC rfl rfl ?_ rfl ?_;omega)|(refine zD rfl rfl ?_ rfl ?_;omega)|(refine zP rfl ?_ rfl ?_;omega)|refine zG rfl rfl rfl rfl ?_|(refine jdq rfl rfl ?_ ?_ ?_;kernel_rfl;kernel_rfl)|refine zB rfl rfl rfl (by repeat constructor) rfl ?_|refine zH .here rfl rfl rfl rfl ?_|refine zH (.there .here) rfl rfl rfl rfl ?_|refine zH (.there (.there .here)) rfl rfl rfl rfl ?_)
            refine oP (hs2) Try.call61 rfl rfl ?_
            repeat (first|refine zJ rfl rfl ?_|refine jr rfl ?_|refine jn ?_|refine zM rfl rfl ?_|(refine zC rfl rfl ?_ rfl ?_;omega)|(refine zD rfl rfl ?_ rfl ?_;omega)|(refine zP rfl ?_ rfl ?_;omega)|refine zG rfl rfl rfl rfl ?_|(refine jdq rfl rfl ?_ ?_ ?_;kernel_rfl;kernel_rfl)|refine zB rfl rfl rfl (by repeat constructor) rfl ?_|refine zH .here rfl rfl rfl rfl ?_|refine zH (.there .here) rfl rfl rfl rfl ?_|refine zH (.there (.there .here)) rfl rfl rfl rfl ?_)
            refine oN (ev_store (b := b4) rfl rfl .agg rfl rfl (lay_all (zs := zRp) rfl) ones_zRp (.there (.there .here))) rfl ?_
            rintro _ _ _ _ ⟨rfl, _, rfl⟩
            repeat (first|refine zJ rfl rfl ?_|refine jr rfl ?_|refine jn ?_|refine zM rfl rfl ?_|(refine zC rfl rfl ?_ rfl ?_;omega)|(refine zD rfl rfl ?_ rfl ?_;omega)|(refine zP rfl ?_ rfl ?_;omega)|refine zG rfl rfl rfl rfl ?_|(refine jdq rfl rfl ?_ ?_ ?_;kernel_rfl;kernel_rfl)|refine zB rfl rfl rfl (by repeat constructor) rfl ?_|refine zH .here rfl rfl rfl rfl ?_|refine zH (.there .here) rfl rfl rfl rfl ?_|refine zH (.there (.there .here)) rfl rfl rfl rfl ?_)
            exact J_retv (vs := [.agg (zRp).toArray, .int .i64 5]) rfl (.agg rfl rfl (Rdb.ofB (n := 0) (.there (.there .here)) rfl) rfl (.tmp rfl .nil)) [] (fun w s => s.drop.drop.drop) hFF ⟨rfl, rfl⟩
  · rw [if_pos he]
    repeat (first|refine zJ rfl rfl ?_|refine jr rfl ?_|refine jn ?_|refine zM rfl rfl ?_|(refine zC rfl rfl ?_ rfl ?_;omega)|(refine zD rfl rfl ?_ rfl ?_;omega)|(refine zP rfl ?_ rfl ?_;omega)|refine zG rfl rfl rfl rfl ?_|(refine jdq rfl rfl ?_ ?_ ?_;kernel_rfl;kernel_rfl)|refine zB rfl rfl rfl (by repeat constructor) rfl ?_|refine zH .here rfl rfl rfl rfl ?_|refine zH (.there .here) rfl rfl rfl rfl ?_|refine zH (.there (.there .here)) rfl rfl rfl rfl ?_)
    refine oN (ev_store (b := b4) rfl rfl .agg rfl rfl (lay_all (zs := zRp) rfl) ones_zRp (.there (.there .here))) rfl ?_
    rintro _ _ _ _ ⟨rfl, _, rfl⟩
    repeat (first|refine zJ rfl rfl ?_|refine jr rfl ?_|refine jn ?_|refine zM rfl rfl ?_|(refine zC rfl rfl ?_ rfl ?_;omega)|(refine zD rfl rfl ?_ rfl ?_;omega)|(refine zP rfl ?_ rfl ?_;omega)|refine zG rfl rfl rfl rfl ?_|(refine jdq rfl rfl ?_ ?_ ?_;kernel_rfl;kernel_rfl)|refine zB rfl rfl rfl (by repeat constructor) rfl ?_|refine zH .here rfl rfl rfl rfl ?_|refine zH (.there .here) rfl rfl rfl rfl ?_|refine zH (.there (.there .here)) rfl rfl rfl rfl ?_)
    exact J_retv (vs := [.agg (zRp).toArray, .int .i64 2]) rfl (.agg rfl rfl (Rdb.ofB (n := 0) (.there (.there .here)) rfl) rfl (.tmp rfl .nil)) [] (fun w s => s.drop.drop.drop) hFF ⟨rfl, rfl⟩
end Go.Proofs.Ytaggonhgafggkaa
