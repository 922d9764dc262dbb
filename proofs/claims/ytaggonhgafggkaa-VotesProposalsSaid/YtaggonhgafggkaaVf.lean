/-
  Votes' bytes tell them: plain laws; the calls whose answers are fixed; what comes in. Conditions are typed with each.
-/
import Derived.Test.YtaggonhgafggkaaVa
import Derived.Test.YtaggonhgafggkaaVd
import Derived.Test.YtaggonhgafggkaaRh
namespace Go.Proofs.Ytaggonhgafggkaa
open Go.RowKit
set_option maxRecDepth 100000
theorem VtR_bytes {x : Vt} (hd : x.dig.length = 32) (h1 : InK .i64 x.view) (h2 : InK .i64 x.seq) : VtR x.bytes = (x, 0, []) := by
  have e : x.bytes = putB (uN x.view) 8 ++ (putB (uN x.seq) 8 ++ (x.dig ++ [])) := by unfold Vt.bytes; simp
  have hf := fixR_app (bs := x.dig) (rest := [])
  rw [hd] at hf
  replace hf : fixR 0 (x.dig ++ []) 32 = (x.dig, 0, []) := hf
  rw [e]
  unfold VtR
  dsimp only
  rw [num8 (uN_lt _)]
  dsimp only
  rw [num8 (uN_lt _)]
  dsimp only
  rw [hf]
  dsimp only
  rw [iN_uN h1, iN_uN h2]
  have hp : pad32 x.dig = x.dig := by unfold pad32; rw [hd]; simp
  rw [hp]
theorem vtP_bytes {x : Vt} (hd : x.dig.length = 32) (h1 : InK .i64 x.view) (h2 : InK .i64 x.seq) : vtP x.bytes = if x.ok = false then (Vt.zero, 5) else (x, 0) := by
  unfold vtP
  rw [VtR_bytes hd h1 h2]
  rw [if_neg (by unfold endR; simp)]
theorem vt_eq (x : Vt) (h : x.dig.length = 32) : EqC Try.prog 9999 0 x.cells x.cells (Try.prog.fieldsOf 25).toList true := by
  have h : EqC Try.prog 9999 0 (.int .i64 x.view :: .int .i64 x.seq :: (u8s x.dig ++ [])) (.int .i64 x.view :: .int .i64 x.seq :: (u8s x.dig ++ [])) (Try.prog.fieldsOf 25).toList _ := .int (by decide) rfl rfl (.int (by decide) rfl rfl (.arr (by decide) rfl rfl rfl rfl h h .nil))
  simpa [Vt.cells] using h
theorem vo_eq (x : Vo) (h : x.dig.length = 32) : EqC Try.prog 9999 0 x.cells x.cells (Try.prog.fieldsOf 28).toList true := by
  have h : EqC Try.prog 9999 0 x.cells x.cells (Try.prog.fieldsOf 28).toList _ := .int (by decide) rfl rfl (.int (by decide) rfl rfl (.arr (by decide) rfl rfl rfl rfl h h (.int (by decide) rfl rfl .nil)))
  simpa using h
theorem rp_eq (x : Rp) : EqC Try.prog 9999 0 x.cells x.cells (Try.prog.fieldsOf 31).toList true := by
  have h : EqC Try.prog 9999 0 x.cells x.cells (Try.prog.fieldsOf 31).toList _ := .int (by decide) rfl rfl (.int (by decide) rfl rfl (.int (by decide) rfl rfl (.int (by decide) rfl rfl .nil)))
  simpa using h
section
variable {l : Env} {F : PH} {H : List Asrt} {d : Option Nat} {T' U : TypeId} {pos : String} {af : Array Edge} {g : Option (Nat × Bool)} {y z : Operand}
theorem ev_vt_eql {x : Vt} (h : x.dig.length = 32) (hx : opv l y = some (.agg x.cells.toArray)) (hy : opv l z = some (.agg x.cells.toArray)) : Ev Try.prog ⟨d, .binOp .eql 25 y z T', U, pos, af, g⟩ l F H (.bool true) := ev_st_eql hx hy (by kernel_rfl) (by kernel_rfl) (by kernel_rfl) (vt_eq x h)
theorem ev_vt_neq {x : Vt} (h : x.dig.length = 32) (hx : opv l y = some (.agg x.cells.toArray)) (hy : opv l z = some (.agg x.cells.toArray)) : Ev Try.prog ⟨d, .binOp .neq 25 y z T', U, pos, af, g⟩ l F H (.bool false) := ev_st_neq hx hy (by kernel_rfl) (by kernel_rfl) (by kernel_rfl) (vt_eq x h)
theorem ev_vo_neq {x : Vo} (h : x.dig.length = 32) (hx : opv l y = some (.agg x.cells.toArray)) (hy : opv l z = some (.agg x.cells.toArray)) : Ev Try.prog ⟨d, .binOp .neq 28 y z T', U, pos, af, g⟩ l F H (.bool false) := ev_st_neq hx hy (by kernel_rfl) (by kernel_rfl) (by kernel_rfl) (vo_eq x h)
theorem ev_rp_neq {x : Rp} (hx : opv l y = some (.agg x.cells.toArray)) (hy : opv l z = some (.agg x.cells.toArray)) : Ev Try.prog ⟨d, .binOp .neq 31 y z T', U, pos, af, g⟩ l F H (.bool false) := ev_st_neq hx hy (by kernel_rfl) (by kernel_rfl) (by kernel_rfl) (rp_eq x)
end
/-! how much there is -/
theorem vtP_dig (bs : List UInt8) : (vtP bs).1.dig.length = 32 := by
  unfold vtP
  split
  · rfl
  · split
    · rfl
    · exact VtR_dig bs
theorem voP_dig (bs : List UInt8) (n : Int) : (voP bs n).1.dig.length = 32 := by
  unfold voP
  split
  · rfl
  · split
    · rfl
    · split
      · rfl
      · exact VoR_dig bs
theorem Vt.bytes_len {x : Vt} (h : x.dig.length = 32) : x.bytes.length = 48 := by unfold Vt.bytes; simp [pl8, h]
theorem Vo.bytes_len {x : Vo} (h : x.dig.length = 32) : x.bytes.length = 42 := by unfold Vo.bytes; simp [pl8, pl1, h]
theorem Rp.bytes_len (x : Rp) : x.bytes.length = 18 := by unfold Rp.bytes; simp [pl8, pl1]
def vt0 : Vt := ⟨1, 2, 3 :: List.replicate 31 0⟩
def rp0 : Rp := ⟨0, 9, 1, 0⟩
theorem vtP_0 : vtP vt0.bytes = (vt0, 0) := by
  rw [vtP_bytes rfl (by decide) (by decide)]
  exact if_neg (by decide)
theorem vtP_nil : vtP [] = (Vt.zero, 2) := rfl
theorem rpP_0 : rpP rp0.bytes 4 = (Rp.zero, 5) := by kernel_rfl
set_option maxHeartbeats 16000000 in
theorem fixed17_true (F : PH) : Spec Try.prog 9 [] F [] fun u F' H' => u = .bool true ∧ H' = [] := by
  have hv0 : vt0.dig.length = 32 := rfl
  refine Spec.of0 Try.func9 rfl fun X w0 => ?_
  refine jc rfl rfl ?_
  repeat (first|refine zJ rfl rfl ?_|refine jr rfl ?_|refine jn ?_|refine zM rfl rfl ?_|(refine zC rfl rfl ?_ rfl ?_;omega)|(refine zD rfl rfl ?_ rfl ?_;omega)|(refine zP rfl ?_ rfl ?_;omega)|refine zG rfl rfl rfl rfl ?_|(refine jdq rfl rfl ?_ ?_ ?_;kernel_rfl;kernel_rfl)|refine zB rfl rfl rfl (by repeat constructor) rfl ?_|refine zH .here rfl rfl rfl rfl ?_|refine zH (.there .here) rfl rfl rfl rfl ?_|refine zH (.there (.there .here)) rfl rfl rfl rfl ?_)
  refine oS (ev_build_arr (n := 32) (E := 5) (size := 1) (zs := z32) (t := u8s vt0.dig) rfl rfl rfl (.cons .int rfl (.put .nil) .nil)) rfl ?_
  obtain ⟨pl, hpl, hfill⟩ := fill_vt
  refine oS (ev_build (t := vt0.cells) rfl rfl hpl (hfill vt0 rfl)) rfl ?_
  refine oE (ev_alloc (cs := zVt) rfl) rfl ?_
  rintro _ _ _ _ ⟨rfl, b1, rfl, rfl⟩
  refine oN (ev_store (b := b1) rfl rfl .agg rfl rfl (lay_all (zs := zVt) rfl) vt0.ones .here) rfl ?_
  rintro _ _ _ _ ⟨rfl, _, rfl⟩
  repeat (first|refine zJ rfl rfl ?_|refine jr rfl ?_|refine jn ?_|refine zM rfl rfl ?_|(refine zC rfl rfl ?_ rfl ?_;omega)|(refine zD rfl rfl ?_ rfl ?_;omega)|(refine zP rfl ?_ rfl ?_;omega)|refine zG rfl rfl rfl rfl ?_|(refine jdq rfl rfl ?_ ?_ ?_;kernel_rfl;kernel_rfl)|refine zB rfl rfl rfl (by repeat constructor) rfl ?_|refine zH .here rfl rfl rfl rfl ?_|refine zH (.there .here) rfl rfl rfl rfl ?_|refine zH (.there (.there .here)) rfl rfl rfl rfl ?_)
  refine oS (ev_load_agg (cs := vt0.cells) rfl rfl (Rdb.ofB (n := 0) .here rfl) rfl) rfl ?_
  refine oC (Hc := []) (Hr := blk b1 25 vt0.cells :: X) (vote_spec vt0 F rfl) Try.call10 rfl rfl (fun _ s => s) ?_; rintro u1 F1 _ hF1 ⟨rfl, h1⟩
  have hl1 : vt0.bytes.length = 48 := Vt.bytes_len rfl
  obtain ⟨ab, cb, rfl, hcb⟩ := h1.form
  repeat (first|refine zJ rfl rfl ?_|refine jr rfl ?_|refine jn ?_|refine zM rfl rfl ?_|(refine zC rfl rfl ?_ rfl ?_;omega)|(refine zD rfl rfl ?_ rfl ?_;omega)|(refine zP rfl ?_ rfl ?_;omega)|refine zG rfl rfl rfl rfl ?_|(refine jdq rfl rfl ?_ ?_ ?_;kernel_rfl;kernel_rfl)|refine zB rfl rfl rfl (by repeat constructor) rfl ?_|refine zH .here rfl rfl rfl rfl ?_|refine zH (.there .here) rfl rfl rfl rfl ?_|refine zH (.there (.there .here)) rfl rfl rfl rfl ?_)
  refine oC (Hc := []) (Hr := blk b1 25 vt0.cells :: X) (parseVote_spec _ vt0.bytes F1 h1 (by omega)) Try.call16 rfl rfl (fun _ s => s) ?_
  rintro _ F2 _ hF2 ⟨rfl, rfl⟩
  rw [vtP_0]
  repeat (first|refine zJ rfl rfl ?_|refine jr rfl ?_|refine jn ?_|refine zM rfl rfl ?_|(refine zC rfl rfl ?_ rfl ?_;omega)|(refine zD rfl rfl ?_ rfl ?_;omega)|(refine zP rfl ?_ rfl ?_;omega)|refine zG rfl rfl rfl rfl ?_|(refine jdq rfl rfl ?_ ?_ ?_;kernel_rfl;kernel_rfl)|refine zB rfl rfl rfl (by repeat constructor) rfl ?_|refine zH .here rfl rfl rfl rfl ?_|refine zH (.there .here) rfl rfl rfl rfl ?_|refine zH (.there (.there .here)) rfl rfl rfl rfl ?_)
  refine oE (ev_alloc rfl) rfl ?_; rintro _ _ _ _ ⟨rfl, b3, rfl, rfl⟩; refine oN (ev_store rfl rfl .agg rfl rfl (lay_all ?_) ?_ .here) rfl ?_; rfl; rotate_left; rintro _ _ _ _ ⟨rfl, rfl, rfl⟩; rotate_left
  · exact vt0.ones
  repeat (first|refine zJ rfl rfl ?_|refine jr rfl ?_|refine jn ?_|refine zM rfl rfl ?_|(refine zC rfl rfl ?_ rfl ?_;omega)|(refine zD rfl rfl ?_ rfl ?_;omega)|(refine zP rfl ?_ rfl ?_;omega)|refine zG rfl rfl rfl rfl ?_|(refine jdq rfl rfl ?_ ?_ ?_;kernel_rfl;kernel_rfl)|refine zB rfl rfl rfl (by repeat constructor) rfl ?_|refine zH .here rfl rfl rfl rfl ?_|refine zH (.there .here) rfl rfl rfl rfl ?_|refine zH (.there (.there .here)) rfl rfl rfl rfl ?_)
  refine oC (Hc := []) (Hr := blk b3 25 vt0.cells :: blk b1 25 vt0.cells :: X) (parseVote_spec _ [] F2 (Byt.nil F2) (by decide)) Try.call16 rfl rfl (fun _ s => s) ?_
  rintro _ F3 _ hF3 ⟨rfl, rfl⟩
  rw [vtP_nil]
  repeat (first|refine zJ rfl rfl ?_|refine jr rfl ?_|refine jn ?_|refine zM rfl rfl ?_|(refine zC rfl rfl ?_ rfl ?_;omega)|(refine zD rfl rfl ?_ rfl ?_;omega)|(refine zP rfl ?_ rfl ?_;omega)|refine zG rfl rfl rfl rfl ?_|(refine jdq rfl rfl ?_ ?_ ?_;kernel_rfl;kernel_rfl)|refine zB rfl rfl rfl (by repeat constructor) rfl ?_|refine zH .here rfl rfl rfl rfl ?_|refine zH (.there .here) rfl rfl rfl rfl ?_|refine zH (.there (.there .here)) rfl rfl rfl rfl ?_)
  refine oE (ev_alloc rfl) rfl ?_; rintro _ _ _ _ ⟨rfl, b5, rfl, rfl⟩; refine oN (ev_store rfl rfl .agg rfl rfl (lay_all ?_) ?_ .here) rfl ?_; rfl; rotate_left; rintro _ _ _ _ ⟨rfl, rfl, rfl⟩; rotate_left
  · exact Vt.zero.ones
  repeat (first|refine zJ rfl rfl ?_|refine jr rfl ?_|refine jn ?_|refine zM rfl rfl ?_|(refine zC rfl rfl ?_ rfl ?_;omega)|(refine zD rfl rfl ?_ rfl ?_;omega)|(refine zP rfl ?_ rfl ?_;omega)|refine zG rfl rfl rfl rfl ?_|(refine jdq rfl rfl ?_ ?_ ?_;kernel_rfl;kernel_rfl)|refine zB rfl rfl rfl (by repeat constructor) rfl ?_|refine zH .here rfl rfl rfl rfl ?_|refine zH (.there .here) rfl rfl rfl rfl ?_|refine zH (.there (.there .here)) rfl rfl rfl rfl ?_)
  refine oC (Hc := []) (Hr := blk b5 25 zVt :: blk b3 25 vt0.cells :: blk b1 25 vt0.cells :: X) (reply_spec rp0 F3) Try.call12 rfl rfl (fun _ s => s) ?_; rintro u4 F4 _ hF4 ⟨rfl, h4⟩
  refine oC (Hc := []) (Hr := blk b5 25 zVt :: blk b3 25 vt0.cells :: blk b1 25 vt0.cells :: X) (parseReply_spec _ rp0.bytes 4 F4 h4 (by rw [Rp.bytes_len]; decide)) Try.call18 rfl rfl (fun _ s => s) ?_
  rintro _ F5 _ hF5 ⟨rfl, rfl⟩
  rw [rpP_0]
  repeat (first|refine zJ rfl rfl ?_|refine jr rfl ?_|refine jn ?_|refine zM rfl rfl ?_|(refine zC rfl rfl ?_ rfl ?_;omega)|(refine zD rfl rfl ?_ rfl ?_;omega)|(refine zP rfl ?_ rfl ?_;omega)|refine zG rfl rfl rfl rfl ?_|(refine jdq rfl rfl ?_ ?_ ?_;kernel_rfl;kernel_rfl)|refine zB rfl rfl rfl (by repeat constructor) rfl ?_|refine zH .here rfl rfl rfl rfl ?_|refine zH (.there .here) rfl rfl rfl rfl ?_|refine zH (.there (.there .here)) rfl rfl rfl rfl ?_)
  refine oE (ev_alloc rfl) rfl ?_; rintro _ _ _ _ ⟨rfl, b7, rfl, rfl⟩; refine oN (ev_store rfl rfl .agg rfl rfl (lay_all ?_) ?_ .here) rfl ?_; rfl; rotate_left; rintro _ _ _ _ ⟨rfl, rfl, rfl⟩; rotate_left
  · exact Rp.zero.ones
  rw [hl1]
  repeat (first|refine zJ rfl rfl ?_|refine jr rfl ?_|refine jn ?_|refine zM rfl rfl ?_|(refine zC rfl rfl ?_ rfl ?_;omega)|(refine zD rfl rfl ?_ rfl ?_;omega)|(refine zP rfl ?_ rfl ?_;omega)|refine zG rfl rfl rfl rfl ?_|(refine jdq rfl rfl ?_ ?_ ?_;kernel_rfl;kernel_rfl)|refine zB rfl rfl rfl (by repeat constructor) rfl ?_|refine zH .here rfl rfl rfl rfl ?_|refine zH (.there .here) rfl rfl rfl rfl ?_|refine zH (.there (.there .here)) rfl rfl rfl rfl ?_)
  refine oS (ev_load_agg (cs := vt0.cells) rfl rfl (Rdb.ofB (n := 0) (.there (.there .here)) rfl) rfl) rfl ?_
  refine oS (ev_load_agg (cs := vt0.cells) rfl rfl (Rdb.ofB (n := 0) (.there (.there (.there .here))) rfl) rfl) rfl ?_
  refine oS (ev_vt_eql (x := vt0) rfl rfl rfl) rfl ?_
  repeat (first|refine zJ rfl rfl ?_|refine jr rfl ?_|refine jn ?_|refine zM rfl rfl ?_|(refine zC rfl rfl ?_ rfl ?_;omega)|(refine zD rfl rfl ?_ rfl ?_;omega)|(refine zP rfl ?_ rfl ?_;omega)|refine zG rfl rfl rfl rfl ?_|(refine jdq rfl rfl ?_ ?_ ?_;kernel_rfl;kernel_rfl)|refine zB rfl rfl rfl (by repeat constructor) rfl ?_|refine zH .here rfl rfl rfl rfl ?_|refine zH (.there .here) rfl rfl rfl rfl ?_|refine zH (.there (.there .here)) rfl rfl rfl rfl ?_)
  exact J_retv rfl (.tmp rfl .nil) [] (fun w s => s.drop.drop.drop.drop) (hF1.trans (hF2.trans (hF3.trans (hF4.trans hF5)))) ⟨rfl, rfl⟩
def tyDig : Ty Try.prog 23 (List UInt8) := tyArr Try.underlying23 Try.underlying5 (by kernel_rfl) (by kernel_rfl)
def tyU32 : Ty Try.prog 26 Int := tyInt Try.underlying26
def tyErr : Ty Try.prog 29 Int := tyInt Try.underlying29
def tyVt : Ty Try.prog 25 (Int × Int × List UInt8 × Unit) := tyStruct Try.underlying25 (fsCons tyS64 (fsCons tyS64 (fsCons tyDig (fsNil _) rfl (by kernel_rfl)) rfl (by kernel_rfl)) rfl (by kernel_rfl)) (by kernel_rfl)
def tyVo : Ty Try.prog 28 (Int × Int × List UInt8 × Int × Unit) := tyStruct Try.underlying28 (fsCons tyI64 (fsCons tyS64 (fsCons tyDig (fsCons tyU32 (fsNil _) rfl (by kernel_rfl)) rfl (by kernel_rfl)) rfl (by kernel_rfl)) rfl (by kernel_rfl)) (by kernel_rfl)
def tyRp : Ty Try.prog 31 (Int × Int × Int × Int × Unit) := tyStruct Try.underlying31 (fsCons tyS64 (fsCons tyI64 (fsCons tyS64 (fsCons tyErr (fsNil _) rfl (by kernel_rfl)) rfl (by kernel_rfl)) rfl (by kernel_rfl)) rfl (by kernel_rfl)) (by kernel_rfl)
theorem vt_of {F : PH} {x : Int × Int × List UInt8 × Unit} {cs : List Value} (h : tyVt.rep F x cs) : ∃ y : Vt, cs = y.cells ∧ InK .i64 y.view ∧ InK .i64 y.seq ∧ y.dig.length = 32 := by
  obtain ⟨_, _, rfl, ⟨rfl, k1⟩, _, _, rfl, ⟨rfl, k2⟩, _, _, rfl, ⟨rfl, k3⟩, rfl⟩ := h
  exact ⟨⟨x.1, x.2.1, x.2.2.1⟩, by simp [Vt.cells], k1, k2, k3⟩
theorem vo_of {F : PH} {x : Int × Int × List UInt8 × Int × Unit} {cs : List Value} (h : tyVo.rep F x cs) : ∃ y : Vo, cs = y.cells ∧ y.mask < 4294967296 ∧ y.dig.length = 32 := by
  obtain ⟨_, _, rfl, ⟨rfl, k1⟩, _, _, rfl, ⟨rfl, k2⟩, _, _, rfl, ⟨rfl, k3⟩, _, _, rfl, ⟨rfl, k4⟩, rfl⟩ := h
  dsimp only [InK] at k4
  refine ⟨⟨x.1, x.2.1, x.2.2.1, x.2.2.2.1.toNat⟩, ?_, by dsimp only; omega, k3⟩
  have : ((x.2.2.2.1.toNat : Nat) : Int) = x.2.2.2.1 := by omega
  simp [Vo.cells, this]
theorem rp_of {F : PH} {x : Int × Int × Int × Int × Unit} {cs : List Value} (h : tyRp.rep F x cs) : ∃ y : Rp, cs = y.cells := by
  obtain ⟨_, _, rfl, ⟨rfl, k1⟩, _, _, rfl, ⟨rfl, k2⟩, _, _, rfl, ⟨rfl, k3⟩, _, _, rfl, ⟨rfl, k4⟩, rfl⟩ := h
  exact ⟨⟨x.1, x.2.1, x.2.2.1, x.2.2.2.1⟩, rfl⟩
end Go.Proofs.Ytaggonhgafggkaa
