/-
  A replica alone refuses: Receive. Conditions are typed with each.
-/
import Derived.Test.YtjjjckmpkldgnaaGreatDoorUaj
namespace Go.Proofs.YtjjjckmpkldgnaaGreatDoor
open Go.RowKit
set_option maxRecDepth 100000
theorem ev_bound {P : Program} {l : Env} {F : PH} {H : List Asrt} {d : Option Nat} {T : TypeId} {pos : String} {af : Array Edge} {g : Option (Nat × Bool)} {f : FuncId} {args : List Operand} {vs : List Value} (hv : opvs l args = some vs) : Ev P ⟨d, .makeFunc (.func f) args.toArray #[], T, pos, af, g⟩ l F H (.func (.func f) vs.toArray #[]) := by
  unfold Ev
  intro N a w ha _
  have he : args.toArray.map a.eval = vs.toArray := by rw [← ha.opvs hv]; simp
  unfold execOp
  simp only [Instr.makeFunc, he]
  simp
/-- zT, but no region of open order is entered. -/
theorem zS {p q : Prop} (h : q) (k : Bx q → p := by intro h; (repeat (first|refine zJ rfl rfl ?_|refine jr rfl ?_|refine jn ?_|refine zM rfl rfl ?_|(refine zC rfl rfl ?_ rfl ?_;omega)|(refine zD rfl rfl ?_ rfl ?_;omega)|(refine zP rfl ?_ rfl ?_;omega)|refine zG rfl rfl rfl rfl ?_|refine zB rfl rfl rfl (by repeat constructor) rfl ?_|refine oLd ?_|refine oSt ?_|refine jL rfl ?_)); exact h.out) : p := k ⟨h⟩
theorem vcheck_none (m : Msg) (place who : Int) : vcheck Rk.kN m place who = 12 := by
  unfold vcheck
  split
  · rfl
  · split
    · rfl
    · rfl
set_option maxHeartbeats 4000000 in
theorem handler_spec (b : Nat) (kind : Int) (F : PH) : Spec Tryz.prog 48 [ptr b, .int .i64 kind] F [] fun u _ H' => H' = [] ∧ (u = .nilFunc ∨ ∃ g us, u = .func (.func g) us #[]) := by
  refine Spec.of2 Tryz.func48 rfl rfl fun X w0 => ?_
  by_cases h2 : kind = 2
  · subst h2; refine zT ?_; refine oS (ev_bound rfl) rfl ?_; refine zF ?_; exact ⟨rfl, .inr ⟨_, _, rfl⟩⟩
  by_cases h3 : kind = 3
  · subst h3; refine zT ?_; refine oS (ev_bound rfl) rfl ?_; refine zF ?_; exact ⟨rfl, .inr ⟨_, _, rfl⟩⟩
  by_cases h4 : kind = 4
  · subst h4; refine zT ?_; refine oS (ev_bound rfl) rfl ?_; refine zF ?_; exact ⟨rfl, .inr ⟨_, _, rfl⟩⟩
  by_cases h5 : kind = 5
  · subst h5; refine zT ?_; refine oS (ev_bound rfl) rfl ?_; refine zF ?_; exact ⟨rfl, .inr ⟨_, _, rfl⟩⟩
  by_cases h6 : kind = 6
  · subst h6; refine zT ?_; refine oS (ev_bound rfl) rfl ?_; refine zF ?_; exact ⟨rfl, .inr ⟨_, _, rfl⟩⟩
  by_cases h7 : kind = 7
  · subst h7; refine zT ?_; refine oS (ev_bound rfl) rfl ?_; refine zF ?_; exact ⟨rfl, .inr ⟨_, _, rfl⟩⟩
  by_cases h8 : kind = 8
  · subst h8; refine zT ?_; refine oS (ev_bound rfl) rfl ?_; refine zF ?_; exact ⟨rfl, .inr ⟨_, _, rfl⟩⟩
  by_cases h9 : kind = 9
  · subst h9; refine zT ?_; refine oS (ev_bound rfl) rfl ?_; refine zF ?_; exact ⟨rfl, .inr ⟨_, _, rfl⟩⟩
  by_cases h10 : kind = 10
  · subst h10; refine zT ?_; refine oS (ev_bound rfl) rfl ?_; refine zF ?_; exact ⟨rfl, .inr ⟨_, _, rfl⟩⟩
  by_cases h11 : kind = 11
  · subst h11; refine zT ?_; refine oS (ev_bound rfl) rfl ?_; refine zF ?_; exact ⟨rfl, .inr ⟨_, _, rfl⟩⟩
  refine zF ?_
  exact ⟨rfl, .inl rfl⟩
section
variable (b kb : Nat) (d : Int) (a0 a1 a2 a3 a4 a5 a6 a7 : Value) (m : Msg) (cs : List Value) (F : PH)
set_option maxHeartbeats 4000000 in
theorem req_spec (h : Rp.rep F m cs) (hl : m.body.length ≤ 1000000000) :
    Spec Tryz.prog 47 [ptr b, .agg cs.toArray] F [blk b 77 (Rk.repC kb d a0 a1 a2 a3 a4 a5 a6 a7), bkA kb Rk.kN] fun u _ H' => (∃ e, u = .int .i64 e ∧ e ≠ 0) ∧ H' = [blk b 77 (Rk.repC kb d a0 a1 a2 a3 a4 a5 a6 a7), bkA kb Rk.kN] := by
  obtain ⟨ab, nb, cb, vt, rfl, hb, ht⟩ := id h
  obtain ⟨ta, tc, rfl, _⟩ := ht.val
  refine Spec.of2 Tryz.func47 rfl rfl fun X w0 => ?_
  refine zT ?_
  refine oBx (cs := msgC m.kind m.frm (.slice ab nb cb) (.slice ta m.tags.length tc)) fun b5 => ?_
  refine zS ?_
  refine jA' [blk b5 _ _, blk b _ _] ?_
  by_cases h4 : m.frm < 4
  · refine zRe ?_
    refine jRs [blk b _ _, bkA _ _] ?_
    exact ⟨⟨_, rfl, by decide⟩, rfl⟩
  by_cases h8 : 8 ≤ m.frm
  · refine zR ?_
    refine aTv 14 rfl (ev_add (k := .i64) (m := 4) (n := 4) rfl rfl (by decide)) ?_
    refine aTv 15 rfl (ev_cmp_t (op := .geq) (m := m.frm) (n := 4 + 4) rfl rfl (show cmpR .geq m.frm (4 + 4) from by omega).in) ?_
    refine zRe ?_
    refine jRs [blk b _ _, bkA _ _] ?_
    exact ⟨⟨_, rfl, by decide⟩, rfl⟩
  refine zR ?_
  refine aTv 14 rfl (ev_add (k := .i64) (m := 4) (n := 4) rfl rfl (by decide)) ?_
  refine aTv 15 rfl (ev_cmp_f (op := .geq) (m := m.frm) (n := 4 + 4) rfl rfl (show cmpS .geq m.frm (4 + 4) from by omega).in) ?_
  refine zR ?_
  refine aD (by kernel_rfl) ?_
  refine zS ?_
  refine jA' [blk b5 _ _, blk b _ _] ?_
  refine zR ?_
  refine aTv 4 rfl (ev_load_agg (cs := msgC m.kind m.frm (.slice ab nb cb) (.slice ta m.tags.length tc)) rfl rfl (Rdb.ofB (n := 0) .here rfl) rfl) ?_
  refine aL' (i := 13) (by kernel_rfl) (vcheck_spec kb Rk.kN m _ 1 1 F h hl (by decide)) Tryz.call49 ?_
  rintro u _ _ _ ⟨rfl, rfl⟩
  rw [vcheck_none]
  refine zRe ?_
  refine jRs [blk b _ _, bkA _ _] ?_
  exact ⟨⟨_, rfl, by decide⟩, rfl⟩
set_option maxHeartbeats 4000000 in
theorem take_spec (h : Rp.rep F m cs) (hl : m.body.length ≤ 1000000000) :
    Spec Tryz.prog 25 [ptr b, .agg cs.toArray] F [blk b 77 (Rk.repC kb d a0 a1 a2 a3 a4 a5 a6 a7), bkA kb Rk.kN] fun u _ H' => (∃ e, u = .int .i64 e ∧ e ≠ 0) ∧ H' = [blk b 77 (Rk.repC kb d a0 a1 a2 a3 a4 a5 a6 a7), bkA kb Rk.kN] := by
  obtain ⟨ab, nb, cb, vt, rfl, hb, ht⟩ := id h
  obtain ⟨ta, tc, rfl, _⟩ := ht.val
  refine Spec.of2 Tryz.func25 rfl rfl fun X w0 => ?_
  refine zS ?_
  refine oBx (cs := msgC m.kind m.frm (.slice ab nb cb) (.slice ta m.tags.length tc)) fun b3 => ?_
  by_cases hk : m.kind = 1
  · refine zS ?_
    refine oS (ev_load_agg (cs := msgC m.kind m.frm (.slice ab nb cb) (.slice ta m.tags.length tc)) rfl rfl (Rdb.ofB (n := 0) .here rfl) rfl) rfl ?_
    refine oL (req_spec b kb d a0 a1 a2 a3 a4 a5 a6 a7 m _ F h hl) Tryz.call47 ?_
    rintro u G _ hG ⟨⟨e, rfl, he⟩, rfl⟩
    refine zS ?_
    refine jRs [blk b _ _, bkA _ _] ?_
    exact ⟨⟨e, rfl, he⟩, rfl⟩
  refine zS ?_
  refine oL (handler_spec b m.kind F) Tryz.call48 ?_
  rintro u G _ hG ⟨rfl, hu⟩
  rcases hu with rfl | ⟨g, us, rfl⟩
  · refine zS ?_
    refine jA' [blk b3 _ _, blk b _ _] ?_
    refine zR ?_
    refine aTv 1 rfl (ev_fn_eql_nil rfl rfl rfl) ?_
    refine zRe ?_
    refine jRs [blk b _ _, bkA _ _] ?_
    exact ⟨⟨_, rfl, by decide⟩, rfl⟩
  refine zS ?_
  refine jA' [blk b3 _ _, blk b _ _] ?_
  refine zR ?_
  refine aTv 1 rfl (ev_fn_eql_some rfl rfl rfl) ?_
  by_cases h0 : m.frm < 0
  · refine zRe ?_
    refine jRs [blk b _ _, bkA _ _] ?_
    exact ⟨⟨_, rfl, by decide⟩, rfl⟩
  by_cases h4 : 4 ≤ m.frm
  · refine zRe ?_
    refine jRs [blk b _ _, bkA _ _] ?_
    exact ⟨⟨_, rfl, by decide⟩, rfl⟩
  by_cases h1 : m.frm = 1
  · refine zRe ?_
    refine jRs [blk b _ _, bkA _ _] ?_
    exact ⟨⟨_, rfl, by decide⟩, rfl⟩
  refine zR ?_
  refine aD (by kernel_rfl) ?_
  refine zS ?_
  refine jA' [blk b3 _ _, blk b _ _] ?_
  refine zR ?_
  refine aTv 4 rfl (ev_load_agg (cs := msgC m.kind m.frm (.slice ab nb cb) (.slice ta m.tags.length tc)) rfl rfl (Rdb.ofB (n := 0) .here rfl) rfl) ?_
  refine aL' (i := 13) (by kernel_rfl) (vcheck_spec kb Rk.kN m _ 1 1 G (Rp.mono hG h) hl (by decide)) Tryz.call49 ?_
  rintro u _ _ _ ⟨rfl, rfl⟩
  rw [vcheck_none]
  refine zRe ?_
  refine jRs [blk b _ _, bkA _ _] ?_
  exact ⟨⟨_, rfl, by decide⟩, rfl⟩
set_option maxHeartbeats 4000000 in
theorem recv_spec (h : Rp.rep F m cs) (hl : m.body.length ≤ 1000000000) (hd : 0 ≤ d ∧ d ≤ 1000) :
    Spec Tryz.prog 7 [ptr b, .agg cs.toArray] F [blk b 77 (Rk.repC kb d a0 a1 a2 a3 a4 a5 a6 a7), bkA kb Rk.kN] fun u _ H' => (∃ e, u = .tuple #[.slice none 0 0, .int .i64 e] ∧ e ≠ 0) ∧ H' = [blk b 77 (Rk.repC kb (d + 1) a0 a1 a2 a3 a4 a5 a6 a7), bkA kb Rk.kN] := by
  obtain ⟨ab, nb, cb, vt, rfl, hb, ht⟩ := id h
  obtain ⟨ta, tc, rfl, _⟩ := ht.val
  refine Spec.of2 Tryz.func7 rfl rfl fun X w0 => ?_
  refine zS ?_
  refine oBx (cs := msgC m.kind m.frm (.slice ab nb cb) (.slice ta m.tags.length tc)) fun b3 => ?_
  refine zS ?_
  refine oS (ev_load_agg (cs := msgC m.kind m.frm (.slice ab nb cb) (.slice ta m.tags.length tc)) rfl rfl (Rdb.ofB (n := 0) .here rfl) rfl) rfl ?_
  refine oL (take_spec b kb d a0 a1 a2 a3 a4 a5 a6 a7 m _ F h hl) Tryz.call25 ?_
  rintro u G _ hG ⟨⟨e, rfl, he⟩, rfl⟩
  refine zS ?_
  rw [show min (d + 1) 65536 = d + 1 from by omega]
  refine jRs [blk b _ _, bkA _ _] ?_
  exact ⟨⟨_, rfl, he⟩, rfl⟩
set_option maxHeartbeats 4000000 in
theorem drops_spec : Spec Tryz.prog 8 [ptr b] F [blk b 77 (Rk.repC kb d a0 a1 a2 a3 a4 a5 a6 a7)] fun u _ H' => u = .int .i64 d ∧ H' = [blk b 77 (Rk.repC kb d a0 a1 a2 a3 a4 a5 a6 a7)] := by
  refine Spec.of1 Tryz.func8 rfl rfl fun X w0 => ?_
  refine zT ?_
  refine jRs [blk b _ _] ?_
  exact ⟨rfl, rfl⟩
set_option maxHeartbeats 4000000 in
theorem view_spec : Spec Tryz.prog 10 [ptr b] F [blk b 77 (Rk.repC kb d a0 a1 a2 a3 a4 a5 a6 a7)] fun u _ H' => u = .tuple #[.int .i64 0, .bool true] ∧ H' = [blk b 77 (Rk.repC kb d a0 a1 a2 a3 a4 a5 a6 a7)] := by
  refine Spec.of1 Tryz.func10 rfl rfl fun X w0 => ?_
  refine zS ?_
  refine jA' [blk b _ _] ?_
  refine zRe ?_
  refine jRs [blk b _ _] ?_
  exact ⟨rfl, rfl⟩
end
end Go.Proofs.YtjjjckmpkldgnaaGreatDoor
