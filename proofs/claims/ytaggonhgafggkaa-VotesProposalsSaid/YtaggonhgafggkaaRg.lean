/-
  A core's bytes tell it: plain laws; the calls whose answers are fixed. Conditions are typed with each.
-/
import Derived.Test.YtaggonhgafggkaaRf
import Derived.Test.YtaggonhgafggkaaOk
namespace Go.Proofs.Ytaggonhgafggkaa
open Go.RowKit
set_option maxRecDepth 100000
theorem iN_uN {x : Int} (h : InK .i64 x) : iN (uN x) = x := by
  dsimp only [InK] at h
  have e : (2 : Int) ^ 64 = 18446744073709551616 := by decide
  unfold iN uN
  simp only [IntKind.wrap, IntKind.bits, IntKind.signed]
  simp [e]
  omega
theorem iN_byte {x : Int} (h0 : 0 ≤ x) (h1 : x < 256) : iN (uN x % 256) = x := by
  have : uN x % 256 = uN x := Nat.mod_eq_of_lt (by unfold uN; omega)
  rw [this]
  exact iN_uN (by dsimp only [InK]; omega)
/-- Fields that their bytes hold. -/
structure Cr.fits (c : Cr) : Prop where
  client : 0 ≤ c.client ∧ c.client < 256
  stamp : InK .i64 c.stamp
  op : 0 ≤ c.op ∧ c.op < 256
  a : InK .i64 c.a
  b : InK .i64 c.b
  letter : c.letter.length ≤ 1048576
  text : c.text.length ≤ 1048576
theorem coreR_bytes {c : Cr} (h : c.fits) {m : Int} (hl : (c.letter.length : Int) ≤ m) (ht : (c.text.length : Int) ≤ m) (more : List UInt8) : coreR m (c.bytes ++ more) = (c, 0, more) := by
  have e : c.bytes ++ more = putB (uN c.client) 1 ++ (putB (uN c.stamp) 8 ++ (putB (uN c.op) 1 ++ (putB c.letter.length 4 ++ (c.letter ++ (putB (uN c.a) 8 ++ (putB (uN c.b) 8 ++ (putB c.text.length 4 ++ (c.text ++ more)))))))) := by
    show (c.pre ++ putB (uN c.a) 8 ++ putB (uN c.b) 8 ++ rowB c.text) ++ more = _
    unfold Cr.pre Cr.pre3 rowB
    simp only [List.append_assoc]
  have l1 := h.letter
  have l2 := h.text
  rw [e]
  unfold coreR
  dsimp only
  rw [num1 (uN_lt _)]
  dsimp only
  rw [num8 (uN_lt _)]
  dsimp only
  rw [num1 (uN_lt _)]
  dsimp only
  rw [rowR_put (by omega) m hl]
  dsimp only
  rw [num8 (uN_lt _)]
  dsimp only
  rw [num8 (uN_lt _)]
  dsimp only
  rw [rowR_put (by omega) m ht]
  dsimp only
  rw [iN_byte h.client.1 h.client.2, iN_byte h.op.1 h.op.2, iN_uN h.stamp, iN_uN h.a, iN_uN h.b]
theorem coreP_bytes {c : Cr} (h : c.fits) (n : Int) : coreP c.bytes n = if c.err n ≠ 0 then (Cr.zero, c.err n) else (c, 0) := by
  have hb := c.bytes_len
  have := coreR_bytes h (m := (c.bytes.length : Int)) (by omega) (by omega) []
  rw [List.append_nil] at this
  unfold coreP
  rw [this]
  dsimp only
  rw [if_neg (by unfold endR; simp)]
theorem Cr.fits_of {c : Cr} {n : Int} (h : c.err n = 0) (ha : InK .i64 c.a) (hb : InK .i64 c.b) (hl : c.letter.length ≤ 1048576) : c.fits := by
  obtain ⟨h1, h2, h3, h4, h5, h6, h7, h8, h9, h10⟩ := Cr.err_ok h
  exact ⟨by omega, by dsimp only [InK]; omega, by omega, ha, hb, hl, by omega⟩
theorem core_eq (c : Cr) : EqC Try.prog 9999 0 c.cells c.cells (Try.prog.fieldsOf 52).toList true := by
  have h : EqC Try.prog 9999 0 c.cells c.cells (Try.prog.fieldsOf 52).toList _ := .int (by decide) rfl rfl (.int (by decide) rfl rfl (.int (by decide) rfl rfl (.str (by decide) rfl rfl (.int (by decide) rfl rfl (.int (by decide) rfl rfl (.str (by decide) rfl rfl .nil))))))
  simpa using h
theorem ev_core_eql {l : Env} {F : PH} {H : List Asrt} {d : Option Nat} {T' U : TypeId} {pos : String} {af : Array Edge} {g : Option (Nat × Bool)} {x y : Operand} {c : Cr} (hx : opv l x = some (.agg c.cells.toArray)) (hy : opv l y = some (.agg c.cells.toArray)) : Ev Try.prog ⟨d, .binOp .eql 52 x y T', U, pos, af, g⟩ l F H (.bool true) :=
  ev_st_eql hx hy (by kernel_rfl) (by kernel_rfl) (by kernel_rfl) (core_eq c)
theorem ev_core_neq {l : Env} {F : PH} {H : List Asrt} {d : Option Nat} {T' U : TypeId} {pos : String} {af : Array Edge} {g : Option (Nat × Bool)} {x y : Operand} {c : Cr} (hx : opv l x = some (.agg c.cells.toArray)) (hy : opv l y = some (.agg c.cells.toArray)) : Ev Try.prog ⟨d, .binOp .neq 52 x y T', U, pos, af, g⟩ l F H (.bool false) :=
  ev_st_neq hx hy (by kernel_rfl) (by kernel_rfl) (by kernel_rfl) (core_eq c)
def c0 : Cr := ⟨4, 1, 2, [97], 0, 0, []⟩
theorem reqP_nil : reqP [] 4 = ((Cr.zero, []), 2) := rfl
theorem c0_fits : c0.fits := ⟨by decide, by decide, by decide, by decide, by decide, by decide, by decide⟩
set_option maxHeartbeats 16000000 in
theorem fixed12_true (F : PH) : Spec Try.prog 30 [] F [] fun u F' H' => u = .bool true ∧ H' = [] := by
  have hP5 := coreP_bytes c0_fits 5
  have hP4 := coreP_bytes c0_fits 4
  rw [show c0.err 5 = 17 from by decide] at hP5
  rw [show c0.err 4 = 0 from by decide] at hP4
  rw [if_pos (by decide)] at hP5
  rw [if_neg (by decide)] at hP4
  have hlb : c0.bytes.length = 35 := c0.bytes_len
  have hck := fun F => check_spec c0 4 F (by decide) (by decide)
  rw [show c0.err 4 = 0 from by decide] at hck
  refine Spec.of0 Try.func30 rfl fun X w0 => ?_
  refine jc rfl rfl ?_
  repeat (first|refine zJ rfl rfl ?_|refine jr rfl ?_|refine jn ?_|refine zM rfl rfl ?_|(refine zC rfl rfl ?_ rfl ?_;omega)|(refine zD rfl rfl ?_ rfl ?_;omega)|(refine zP rfl ?_ rfl ?_;omega)|refine zG rfl rfl rfl rfl ?_|(refine jdq rfl rfl ?_ ?_ ?_;kernel_rfl;kernel_rfl)|refine zB rfl rfl rfl (by repeat constructor) rfl ?_|refine zH .here rfl rfl rfl rfl ?_|refine zH (.there .here) rfl rfl rfl rfl ?_|refine zH (.there (.there .here)) rfl rfl rfl rfl ?_)
  refine oE (ev_alloc (cs := zCr) rfl) rfl ?_
  rintro _ _ _ _ ⟨rfl, b1, rfl, rfl⟩
  refine oN (ev_store (b := b1) rfl rfl (.agg (cs := c0.cells)) rfl rfl (lay_all (zs := zCr) rfl) c0.ones .here) rfl ?_
  rintro _ _ _ _ ⟨rfl, _, rfl⟩
  repeat (first|refine zJ rfl rfl ?_|refine jr rfl ?_|refine jn ?_|refine zM rfl rfl ?_|(refine zC rfl rfl ?_ rfl ?_;omega)|(refine zD rfl rfl ?_ rfl ?_;omega)|(refine zP rfl ?_ rfl ?_;omega)|refine zG rfl rfl rfl rfl ?_|(refine jdq rfl rfl ?_ ?_ ?_;kernel_rfl;kernel_rfl)|refine zB rfl rfl rfl (by repeat constructor) rfl ?_|refine zH .here rfl rfl rfl rfl ?_|refine zH (.there .here) rfl rfl rfl rfl ?_|refine zH (.there (.there .here)) rfl rfl rfl rfl ?_)
  refine oS (ev_load_agg (cs := c0.cells) rfl rfl (Rdb.ofB (n := 0) .here rfl) rfl) rfl ?_
  refine oC (Hc := []) (Hr := blk b1 52 c0.cells :: X) (coreBytes_spec c0 F (by decide) (by decide)) Try.call31 rfl rfl (fun _ s => s) ?_; rintro u1 F1 _ hF1 ⟨rfl, h1⟩
  obtain ⟨ab, cb, rfl, hcb⟩ := h1.form
  repeat (first|refine zJ rfl rfl ?_|refine jr rfl ?_|refine jn ?_|refine zM rfl rfl ?_|(refine zC rfl rfl ?_ rfl ?_;omega)|(refine zD rfl rfl ?_ rfl ?_;omega)|(refine zP rfl ?_ rfl ?_;omega)|refine zG rfl rfl rfl rfl ?_|(refine jdq rfl rfl ?_ ?_ ?_;kernel_rfl;kernel_rfl)|refine zB rfl rfl rfl (by repeat constructor) rfl ?_|refine zH .here rfl rfl rfl rfl ?_|refine zH (.there .here) rfl rfl rfl rfl ?_|refine zH (.there (.there .here)) rfl rfl rfl rfl ?_)
  refine oC (Hc := []) (Hr := blk b1 52 c0.cells :: X) (parseCore_spec _ c0.bytes 4 F1 h1 (by omega)) Try.call35 rfl rfl (fun _ s => s) ?_
  rintro _ F2 _ hF2 ⟨rfl, rfl⟩
  rw [hP4]
  repeat (first|refine zJ rfl rfl ?_|refine jr rfl ?_|refine jn ?_|refine zM rfl rfl ?_|(refine zC rfl rfl ?_ rfl ?_;omega)|(refine zD rfl rfl ?_ rfl ?_;omega)|(refine zP rfl ?_ rfl ?_;omega)|refine zG rfl rfl rfl rfl ?_|(refine jdq rfl rfl ?_ ?_ ?_;kernel_rfl;kernel_rfl)|refine zB rfl rfl rfl (by repeat constructor) rfl ?_|refine zH .here rfl rfl rfl rfl ?_|refine zH (.there .here) rfl rfl rfl rfl ?_|refine zH (.there (.there .here)) rfl rfl rfl rfl ?_)
  refine oE (ev_alloc rfl) rfl ?_; rintro _ _ _ _ ⟨rfl, b3, rfl, rfl⟩; refine oN (ev_store rfl rfl .agg rfl rfl (lay_all ?_) ?_ .here) rfl ?_; rfl; rotate_left; rintro _ _ _ _ ⟨rfl, rfl, rfl⟩; rotate_left
  · exact c0.ones
  repeat (first|refine zJ rfl rfl ?_|refine jr rfl ?_|refine jn ?_|refine zM rfl rfl ?_|(refine zC rfl rfl ?_ rfl ?_;omega)|(refine zD rfl rfl ?_ rfl ?_;omega)|(refine zP rfl ?_ rfl ?_;omega)|refine zG rfl rfl rfl rfl ?_|(refine jdq rfl rfl ?_ ?_ ?_;kernel_rfl;kernel_rfl)|refine zB rfl rfl rfl (by repeat constructor) rfl ?_|refine zH .here rfl rfl rfl rfl ?_|refine zH (.there .here) rfl rfl rfl rfl ?_|refine zH (.there (.there .here)) rfl rfl rfl rfl ?_)
  refine oC (Hc := []) (Hr := blk b3 52 c0.cells :: blk b1 52 c0.cells :: X) (parseCore_spec _ c0.bytes 5 F2 (h1.mono hF2) (by omega)) Try.call35 rfl rfl (fun _ s => s) ?_
  rintro _ F3 _ hF3 ⟨rfl, rfl⟩
  rw [hP5]
  repeat (first|refine zJ rfl rfl ?_|refine jr rfl ?_|refine jn ?_|refine zM rfl rfl ?_|(refine zC rfl rfl ?_ rfl ?_;omega)|(refine zD rfl rfl ?_ rfl ?_;omega)|(refine zP rfl ?_ rfl ?_;omega)|refine zG rfl rfl rfl rfl ?_|(refine jdq rfl rfl ?_ ?_ ?_;kernel_rfl;kernel_rfl)|refine zB rfl rfl rfl (by repeat constructor) rfl ?_|refine zH .here rfl rfl rfl rfl ?_|refine zH (.there .here) rfl rfl rfl rfl ?_|refine zH (.there (.there .here)) rfl rfl rfl rfl ?_)
  refine oE (ev_alloc rfl) rfl ?_; rintro _ _ _ _ ⟨rfl, b5, rfl, rfl⟩; refine oN (ev_store rfl rfl .agg rfl rfl (lay_all ?_) ?_ .here) rfl ?_; rfl; rotate_left; rintro _ _ _ _ ⟨rfl, rfl, rfl⟩; rotate_left
  · exact Cr.zero.ones
  repeat (first|refine zJ rfl rfl ?_|refine jr rfl ?_|refine jn ?_|refine zM rfl rfl ?_|(refine zC rfl rfl ?_ rfl ?_;omega)|(refine zD rfl rfl ?_ rfl ?_;omega)|(refine zP rfl ?_ rfl ?_;omega)|refine zG rfl rfl rfl rfl ?_|(refine jdq rfl rfl ?_ ?_ ?_;kernel_rfl;kernel_rfl)|refine zB rfl rfl rfl (by repeat constructor) rfl ?_|refine zH .here rfl rfl rfl rfl ?_|refine zH (.there .here) rfl rfl rfl rfl ?_|refine zH (.there (.there .here)) rfl rfl rfl rfl ?_)
  refine oC (Hc := []) (Hr := blk b5 52 Cr.zero.cells :: blk b3 52 c0.cells :: blk b1 52 c0.cells :: X) (parse_spec _ [] 4 F3 (Byt.nil F3) (by decide)) Try.call37 rfl rfl (fun _ s => s) ?_
  rintro _ F4 _ hF4 ⟨rfl, vE, rfl, hvE⟩
  rw [reqP_nil]
  rw [reqP_nil] at hvE
  obtain ⟨aE, cE, rfl, hcE⟩ := hvE.form
  repeat (first|refine zJ rfl rfl ?_|refine jr rfl ?_|refine jn ?_|refine zM rfl rfl ?_|(refine zC rfl rfl ?_ rfl ?_;omega)|(refine zD rfl rfl ?_ rfl ?_;omega)|(refine zP rfl ?_ rfl ?_;omega)|refine zG rfl rfl rfl rfl ?_|(refine jdq rfl rfl ?_ ?_ ?_;kernel_rfl;kernel_rfl)|refine zB rfl rfl rfl (by repeat constructor) rfl ?_|refine zH .here rfl rfl rfl rfl ?_|refine zH (.there .here) rfl rfl rfl rfl ?_|refine zH (.there (.there .here)) rfl rfl rfl rfl ?_)
  refine oE (ev_alloc rfl) rfl ?_; rintro _ _ _ _ ⟨rfl, b7, rfl, rfl⟩; refine oN (ev_store rfl rfl .agg rfl rfl (lay_all ?_) ?_ .here) rfl ?_; rfl; rotate_left; rintro _ _ _ _ ⟨rfl, rfl, rfl⟩; rotate_left
  · exact ones_req _ _ _ _
  repeat (first|refine zJ rfl rfl ?_|refine jr rfl ?_|refine jn ?_|refine zM rfl rfl ?_|(refine zC rfl rfl ?_ rfl ?_;omega)|(refine zD rfl rfl ?_ rfl ?_;omega)|(refine zP rfl ?_ rfl ?_;omega)|refine zG rfl rfl rfl rfl ?_|(refine jdq rfl rfl ?_ ?_ ?_;kernel_rfl;kernel_rfl)|refine zB rfl rfl rfl (by repeat constructor) rfl ?_|refine zH .here rfl rfl rfl rfl ?_|refine zH (.there .here) rfl rfl rfl rfl ?_|refine zH (.there (.there .here)) rfl rfl rfl rfl ?_)
  refine oS (ev_load_agg (cs := c0.cells) rfl rfl (Rdb.ofB (n := 0) (.there (.there .here)) rfl) rfl) rfl ?_
  refine oS (ev_load_agg (cs := c0.cells) rfl rfl (Rdb.ofB (n := 0) (.there (.there (.there .here))) rfl) rfl) rfl ?_
  refine oS (ev_core_eql (c := c0) rfl rfl) rfl ?_
  repeat (first|refine zJ rfl rfl ?_|refine jr rfl ?_|refine jn ?_|refine zM rfl rfl ?_|(refine zC rfl rfl ?_ rfl ?_;omega)|(refine zD rfl rfl ?_ rfl ?_;omega)|(refine zP rfl ?_ rfl ?_;omega)|refine zG rfl rfl rfl rfl ?_|(refine jdq rfl rfl ?_ ?_ ?_;kernel_rfl;kernel_rfl)|refine zB rfl rfl rfl (by repeat constructor) rfl ?_|refine zH .here rfl rfl rfl rfl ?_|refine zH (.there .here) rfl rfl rfl rfl ?_|refine zH (.there (.there .here)) rfl rfl rfl rfl ?_)
  refine oS (ev_load_agg (cs := c0.cells) rfl rfl (Rdb.ofB (n := 0) (.there (.there (.there .here))) rfl) rfl) rfl ?_
  refine oP (hck F4) Try.call32 rfl rfl ?_
  repeat (first|refine zJ rfl rfl ?_|refine jr rfl ?_|refine jn ?_|refine zM rfl rfl ?_|(refine zC rfl rfl ?_ rfl ?_;omega)|(refine zD rfl rfl ?_ rfl ?_;omega)|(refine zP rfl ?_ rfl ?_;omega)|refine zG rfl rfl rfl rfl ?_|(refine jdq rfl rfl ?_ ?_ ?_;kernel_rfl;kernel_rfl)|refine zB rfl rfl rfl (by repeat constructor) rfl ?_|refine zH .here rfl rfl rfl rfl ?_|refine zH (.there .here) rfl rfl rfl rfl ?_|refine zH (.there (.there .here)) rfl rfl rfl rfl ?_)
  exact J_retv rfl (.tmp rfl .nil) [] (fun w s => s.drop.drop.drop.drop) (hF1.trans (hF2.trans (hF3.trans hF4))) ⟨rfl, rfl⟩
end Go.Proofs.Ytaggonhgafggkaa
