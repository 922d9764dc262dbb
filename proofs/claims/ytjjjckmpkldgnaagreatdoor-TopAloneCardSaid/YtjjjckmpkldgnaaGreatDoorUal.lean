/-
  A replica alone: the law's walk. Conditions are typed with each.
-/
import Derived.Test.YtjjjckmpkldgnaaGreatDoorUak
import Derived.Test.YtjjjckmpkldgnaaGreatDoorPs1
namespace Go.Proofs.YtjjjckmpkldgnaaGreatDoor
open Go.RowKit
set_option maxRecDepth 100000
theorem settled_spec (F : PH) : Pure Tryz.prog 4 [] F (.bool true) :=
  Rk.says_true (fn := Tryz.f4) (by kernel_rfl) rfl Rk.Run.g0 F
theorem msg_form {F : PH} {m : Msg} {cs : List Value} (h : Rp.rep F m cs) : ∃ ab cb ta tc, cs = msgC m.kind m.frm (.slice ab m.body.length cb) (.slice ta m.tags.length tc) := by
  obtain ⟨ab, nb, cb, vt, rfl, hb, ht⟩ := h
  obtain ⟨ta, tc, rfl, _⟩ := ht.val
  obtain ⟨_, a, c, e, _⟩ := id hb
  cases e
  exact ⟨ab, cb, ta, tc, rfl⟩
set_option maxHeartbeats 16000000 in
theorem TopAlone_walk (v vt : Value) (ms : List Msg) (ts : B8) (F : PH) (hm : Row F v ms) (ht : Byt F vt ts) : Pure Tryz.prog 3 [v, vt] F (.bool true) := by
  obtain ⟨va, vc, rfl, _⟩ := hm.val
  obtain ⟨_, ta, tc, rfl, _⟩ := id ht
  refine Spec.of2 Tryz.func3 rfl rfl fun X w0 => ?_
  refine zS ?_
  refine oL (settled_spec F) Tryz.call4 ?_
  rintro _ G0 _ hG0 ⟨rfl, rfl⟩
  by_cases hl : 100 < ms.length
  · refine zT ?_
    refine jRs [] ?_
    exact ⟨rfl, rfl⟩
  by_cases hl2 : 100 < ts.length
  · refine zT ?_
    refine jRs [] ?_
    exact ⟨rfl, rfl⟩
  refine zT ?_
  refine oL (Rk.repbook_spec G0) Tryz.call6 ?_
  rintro _ G1 _ hG1 ⟨hFF, φ, kb, κ, h2, hi, rfl, rfl⟩
  cases hFF
  refine zT ?_
  refine oS (ev_makeInterface rfl (by kernel_rfl)) rfl ?_
  refine zT ?_
  refine oL (Rk.repnew_spec φ kb κ h2 hi G0) Tryz.call5 ?_
  rintro _ G1 _ hG1 ⟨hFF, ψ, b, a0, a1, a2, a3, a4, a5, a6, a7, R, rfl, rfl⟩
  cases hFF
  refine zT ?_
  refine J_loop (ι := Nat) (fun i => i ≤ ms.length) (fun i => ms.length - i) (fun i => [(1, .slice ta ts.length tc), (5, ptr b), (25, .slice va ms.length vc), (26, .int .i64 ms.length), (27, .int .i64 i)]) (fun _ => G0) (fun i => blk b 77 (Rk.repC kb i a0 a1 a2 a3 a4 a5 a6 a7) :: bkA kb Rk.kN :: Rk.Obs ψ (Rk.hpT Rk.Run.repR).get :: X) 0 (Nat.zero_le _) ⟨⟨rfl, rfl, rfl, rfl, rfl, trivial⟩, fun w s => s⟩ ?_
  intro i hi
  by_cases hlt : i < ms.length
  · have hgi : ms[i]? = some ms[i] := List.getElem?_eq_getElem hlt
    generalize ms[i] = m at *
    obtain ⟨eb, eo, cs, rfl, hc1, hrep, _⟩ := (hm.mono hG0).at hgi
    obtain ⟨ab, cb, tb, td, rfl⟩ := msg_form hrep
    refine zT ?_
    refine oS (ev_indexAddr rfl rfl rfl hlt) rfl ?_
    refine oS (ev_load_agg (cs := msgC m.kind m.frm (.slice ab m.body.length cb) (.slice tb m.tags.length td)) rfl rfl (Rdb.ofF hc1) rfl) rfl ?_
    refine oAl fun b7 => ?_
    by_cases hb : 2000 < m.body.length
    · refine zT ?_
      refine jRs [] ?_
      exact ⟨rfl, rfl⟩
    by_cases htg : 10 < m.tags.length
    · refine zT ?_
      refine jRs [] ?_
      exact ⟨rfl, rfl⟩
    refine zT ?_
    refine oS (ev_load_agg (cs := msgC m.kind m.frm (.slice ab m.body.length cb) (.slice tb m.tags.length td)) rfl rfl (Rdb.ofB (n := 0) .here rfl) rfl) rfl ?_
    refine oL (recv_spec b kb i a0 a1 a2 a3 a4 a5 a6 a7 m _ G0 hrep (by omega) (by omega)) Tryz.call7 ?_
    rintro _ G _ hG ⟨⟨e, rfl, he⟩, rfl⟩
    refine zT ?_
    refine oL (drops_spec b kb (i + 1) a0 a1 a2 a3 a4 a5 a6 a7 G) Tryz.call8 ?_
    rintro _ G2 _ hG2 ⟨rfl, rfl⟩
    have hG3 := hG.trans hG2
    by_cases hlt2 : i < ts.length
    · have ht2 : Byt G2 (.slice ta ts.length tc) ts := ht.mono (hG0.trans hG3)
      obtain ⟨tb', toff, rfl, hcc⟩ := ht2.at hlt2
      generalize ts[i] = c at *
      refine zT ?_
      refine oS (ev_indexAddr rfl rfl rfl hlt2) rfl ?_
      refine oS (ev_load rfl rfl (Rdb.ofF hcc)) rfl ?_
      refine zT ?_
      refine oS (ev_rem (m := (c.toNat : Int)) (n := 50) rfl rfl (by omega) (by omega)) rfl ?_
      obtain ⟨r, hr, hr50⟩ : ∃ r : Nat, c.toNat % 50 = r ∧ r < 50 := ⟨_, rfl, Nat.mod_lt _ (by omega)⟩
      have hri : (c.toNat : Int) % 50 = (r : Int) := by omega
      rw [hri]
      refine zT ?_
      refine J_loop (ι := Nat) (fun j => j ≤ r) (fun j => r - j) (fun j => [(1, .slice (some ⟨tb', toff, none⟩) ts.length tc), (5, ptr b), (25, .slice (some ⟨eb, eo, none⟩) ms.length vc), (26, .int .i64 ms.length), (27, .int .i64 i), (70, .int .u8 r), (71, .int .u8 j)]) (fun _ => G0) (fun _ => blk b 77 (Rk.repC kb (i + 1) a0 a1 a2 a3 a4 a5 a6 a7) :: bkA kb Rk.kN :: Rk.Obs ψ (Rk.hpT Rk.Run.repR).get :: X) 0 (Nat.zero_le _) ⟨⟨rfl, rfl, rfl, rfl, rfl, rfl, rfl, trivial⟩, fun w s => (Tak.sat (Hc := [blk b7 _ _]) (by repeat (first | exact Tak.nil | exact Pick.here | apply Pick.there | apply Tak.cons)) s).right.mono hG3⟩ ?_
      intro j hj
      by_cases hjr : j < r
      · refine zT ?_
        refine oL (Rk.reptick_spec R (i + 1) G0) Tryz.call9 ?_
        rintro _ G4 _ _ ⟨hFF, rfl, rfl⟩
        cases hFF
        refine zT ?_
        exact J_again (j + 1) (by omega) (by omega) ⟨⟨rfl, rfl, rfl, rfl, rfl, rfl, rfl, trivial⟩, fun w s => s.prm⟩
      · obtain rfl : j = r := by omega
        refine zT ?_
        exact J_again (i + 1) (by omega) (by omega) ⟨⟨rfl, rfl, rfl, rfl, rfl, trivial⟩, fun w s => s⟩
    · refine zT ?_
      exact J_again (i + 1) (by omega) (by omega) ⟨⟨rfl, rfl, rfl, rfl, rfl, trivial⟩, fun w s => (Tak.sat (Hc := [blk b7 _ _]) (by repeat (first | exact Tak.nil | exact Pick.here | apply Pick.there | apply Tak.cons)) s).right.mono hG3⟩
  · obtain rfl : i = ms.length := by omega
    refine zT ?_
    refine oL (view_spec b kb ms.length a0 a1 a2 a3 a4 a5 a6 a7 G0) Tryz.call10 ?_
    rintro _ G _ hG ⟨rfl, rfl⟩
    refine zT ?_
    have hall : Spec Tryz.prog 11 [.int .i64 4] G [] fun u G H' => H' = [] ∧ Row G u (allN 4) := all_spec 4 G (by omega)
    refine oL hall Tryz.call11 ?_
    rintro u G2 _ hG2 ⟨rfl, hu⟩
    obtain ⟨ua, uc, rfl, _⟩ := hu.val
    refine zT ?_
    refine jRs [] ?_
    exact ⟨rfl, rfl⟩
end Go.Proofs.YtjjjckmpkldgnaaGreatDoor
