/-
  What f + 1 prove was seen by an honest replica (VouchHonest). No condition.
-/
import Derived.Test.YtdoaloimndehbaaBl
namespace Go.Proofs.Ytdoaloimndehbaa
open Go.RowKit
set_option maxRecDepth 100000
set_option maxHeartbeats 32000000 in
theorem VouchHonest_walk (f : Int) (hon : List Ax) (ws : List UInt8) (lies : List Ax) (x : Vo) (a1 a2 a3 : Option Addr) (c1 c2 c3 : Nat) (F : PH) (hf : 0 ≤ f ∧ f ≤ 255) (h1 : OR F (.slice a1 hon.length c1) hon) (h2 : SliceV F 1 (.slice a2 ws.length c2) ws.length (u8s ws)) (h3 : OR F (.slice a3 lies.length c3) lies) :
    Spec Try.prog 7 [.int .u8 f, .slice a1 hon.length c1, .slice a2 ws.length c2, .slice a3 lies.length c3, .agg x.cs.toArray] F [] fun u _ H' => u = .bool true ∧ H' = [] := by
  refine Spec.of5 Try.func7 rfl rfl fun X w0 => ?_
  refine jc rfl rfl ?_
  refine jr rfl ?_
  refine oE (ev_box rfl .agg) rfl ?_; rintro _ _ _ _ ⟨rfl, b9, rfl, rfl⟩
  repeat (first|refine zJ rfl rfl ?_|refine jr rfl ?_|refine jn ?_|refine zM rfl rfl ?_|(refine zC rfl rfl ?_ rfl ?_;omega)|(refine zD rfl rfl ?_ rfl ?_;omega)|(refine zP rfl ?_ rfl ?_;omega)|refine zG rfl rfl rfl rfl ?_|(refine jdq rfl rfl ?_ ?_ ?_;kernel_rfl;kernel_rfl)|refine zB rfl rfl rfl (by repeat constructor) rfl ?_|refine zH .here rfl rfl rfl rfl ?_|refine zH (.there .here) rfl rfl rfl rfl ?_|refine zH (.there (.there .here)) rfl rfl rfl rfl ?_)
  refine oC (Hc := []) (Hr := blk b9 72 x.cs :: X) (fixed24_true F) Try.call28 rfl rfl (fun _ s => s) ?_
  rintro _ F0 _ hF0 ⟨rfl, rfl⟩
  replace h1 := h1.mono hF0
  replace h2 := SliceV.mono h2 hF0
  replace h3 := h3.mono hF0
  obtain ⟨k, hk⟩ : ∃ k : Nat, 1 + f % 2 = k := ⟨(1 + f % 2).toNat, by omega⟩
  have hk1 : 1 ≤ k ∧ k ≤ 2 := by omega
  by_cases g1 : 60 < hon.length
  · repeat (first|refine zJ rfl rfl ?_|refine jr rfl ?_|refine jn ?_|refine zM rfl rfl ?_|(refine zC rfl rfl ?_ rfl ?_;omega)|(refine zD rfl rfl ?_ rfl ?_;omega)|(refine zP rfl ?_ rfl ?_;omega)|refine zG rfl rfl rfl rfl ?_|(refine jdq rfl rfl ?_ ?_ ?_;kernel_rfl;kernel_rfl)|refine zB rfl rfl rfl (by repeat constructor) rfl ?_|refine zH .here rfl rfl rfl rfl ?_|refine zH (.there .here) rfl rfl rfl rfl ?_|refine zH (.there (.there .here)) rfl rfl rfl rfl ?_)
    exact J_retv rfl (.tmp rfl .nil) [] (fun w s => s.drop) hF0 ⟨rfl, rfl⟩
  by_cases g2 : 60 < lies.length
  · repeat (first|refine zJ rfl rfl ?_|refine jr rfl ?_|refine jn ?_|refine zM rfl rfl ?_|(refine zC rfl rfl ?_ rfl ?_;omega)|(refine zD rfl rfl ?_ rfl ?_;omega)|(refine zP rfl ?_ rfl ?_;omega)|refine zG rfl rfl rfl rfl ?_|(refine jdq rfl rfl ?_ ?_ ?_;kernel_rfl;kernel_rfl)|refine zB rfl rfl rfl (by repeat constructor) rfl ?_|refine zH .here rfl rfl rfl rfl ?_|refine zH (.there .here) rfl rfl rfl rfl ?_|refine zH (.there (.there .here)) rfl rfl rfl rfl ?_)
    exact J_retv rfl (.tmp rfl .nil) [] (fun w s => s.drop) hF0 ⟨rfl, rfl⟩
  by_cases g3 : k < ws.length
  · repeat (first|refine zJ rfl rfl ?_|refine jr rfl ?_|refine jn ?_|refine zM rfl rfl ?_|(refine zC rfl rfl ?_ rfl ?_;omega)|(refine zD rfl rfl ?_ rfl ?_;omega)|(refine zP rfl ?_ rfl ?_;omega)|refine zG rfl rfl rfl rfl ?_|(refine jdq rfl rfl ?_ ?_ ?_;kernel_rfl;kernel_rfl)|refine zB rfl rfl rfl (by repeat constructor) rfl ?_|refine zH .here rfl rfl rfl rfl ?_|refine zH (.there .here) rfl rfl rfl rfl ?_|refine zH (.there (.there .here)) rfl rfl rfl rfl ?_)
    exact J_retv rfl (.tmp rfl .nil) [] (fun w s => s.drop) hF0 ⟨rfl, rfl⟩
  repeat (first|refine zJ rfl rfl ?_|refine jr rfl ?_|refine jn ?_|refine zM rfl rfl ?_|(refine zC rfl rfl ?_ rfl ?_;omega)|(refine zD rfl rfl ?_ rfl ?_;omega)|(refine zP rfl ?_ rfl ?_;omega)|refine zG rfl rfl rfl rfl ?_|(refine jdq rfl rfl ?_ ?_ ?_;kernel_rfl;kernel_rfl)|refine zB rfl rfl rfl (by repeat constructor) rfl ?_|refine zH .here rfl rfl rfl rfl ?_|refine zH (.there .here) rfl rfl rfl rfl ?_|refine zH (.there (.there .here)) rfl rfl rfl rfl ?_)
  rw [hk]
  obtain ⟨n, hn⟩ : ∃ n : Nat, 3 * (k : Int) + 1 = n := ⟨3 * k + 1, by omega⟩
  rw [hn]
  have hnb : 1 ≤ (n : Int) ∧ (n : Int) ≤ 7 := by omega
  refine oE (ev_makeMap (K := keyI)) rfl ?_
  rintro _ _ _ _ ⟨rfl, bl, rfl, rfl⟩
  obtain ⟨_, a2', c2', e2, _, hat2⟩ := slice1 (xs := ws) (f := fun x => .int .u8 x.toNat) h2
  cases e2
  repeat (first|refine zJ rfl rfl ?_|refine jr rfl ?_|refine jn ?_|refine zM rfl rfl ?_|(refine zC rfl rfl ?_ rfl ?_;omega)|(refine zD rfl rfl ?_ rfl ?_;omega)|(refine zP rfl ?_ rfl ?_;omega)|refine zG rfl rfl rfl rfl ?_|(refine jdq rfl rfl ?_ ?_ ?_;kernel_rfl;kernel_rfl)|refine zB rfl rfl rfl (by repeat constructor) rfl ?_|refine zH .here rfl rfl rfl rfl ?_|refine zH (.there .here) rfl rfl rfl rfl ?_|refine zH (.there (.there .here)) rfl rfl rfl rfl ?_)
  refine J_loop (ι := Nat) (fun j => j ≤ ws.length) (fun j => ws.length - j) (fun j => [(1, .slice a1 hon.length c1), (3, .slice a3 lies.length c3), (9, .pointer (some ⟨b9, 0, none⟩)), (11, .int .i64 k), (12, .int .i64 n), (13, .map (some bl)), (46, .slice a2 ws.length c2), (47, .int .i64 ws.length), (48, .int .i64 j)]) (fun _ => F0) (fun j => mp keyI bl (lyM n (ws.take j)) :: blk b9 72 x.cs :: X) 0 (Nat.zero_le _) ⟨⟨rfl, rfl, rfl, rfl, rfl, rfl, rfl, rfl, rfl, trivial⟩, fun _ s => s⟩ ?_
  intro j hj
  by_cases hlt : j < ws.length
  · have hg : ws[j]? = some ws[j] := List.getElem?_eq_getElem hlt
    obtain ⟨b1, o1, rfl, hc1⟩ := hat2 j _ hg
    have htk : ws.take (j + 1) = ws.take j ++ [ws[j]] := by rw [List.take_add_one, hg]; rfl
    generalize ws[j] = w at *
    have hw : w.toNat < 256 := UInt8.toNat_lt w
    repeat (first|refine zJ rfl rfl ?_|refine jr rfl ?_|refine jn ?_|refine zM rfl rfl ?_|(refine zC rfl rfl ?_ rfl ?_;omega)|(refine zD rfl rfl ?_ rfl ?_;omega)|(refine zP rfl ?_ rfl ?_;omega)|refine zG rfl rfl rfl rfl ?_|(refine jdq rfl rfl ?_ ?_ ?_;kernel_rfl;kernel_rfl)|refine zB rfl rfl rfl (by repeat constructor) rfl ?_|refine zH .here rfl rfl rfl rfl ?_|refine zH (.there .here) rfl rfl rfl rfl ?_|refine zH (.there (.there .here)) rfl rfl rfl rfl ?_)
    refine oS (ev_indexAddr rfl rfl rfl hlt) rfl ?_
    refine oS (ev_load rfl rfl (Rdb.ofF hc1)) rfl ?_
    repeat (first|refine zJ rfl rfl ?_|refine jr rfl ?_|refine jn ?_|refine zM rfl rfl ?_|(refine zC rfl rfl ?_ rfl ?_;omega)|(refine zD rfl rfl ?_ rfl ?_;omega)|(refine zP rfl ?_ rfl ?_;omega)|refine zG rfl rfl rfl rfl ?_|(refine jdq rfl rfl ?_ ?_ ?_;kernel_rfl;kernel_rfl)|refine zB rfl rfl rfl (by repeat constructor) rfl ?_|refine zH .here rfl rfl rfl rfl ?_|refine zH (.there .here) rfl rfl rfl rfl ?_|refine zH (.there (.there .here)) rfl rfl rfl rfl ?_)
    refine oN (ev_mapUpdate (K := keyI) (M := lyM n (ws.take j)) (a := (w.toNat : Int) % n) rfl rfl rfl rfl .here) rfl ?_
    rintro _ _ _ _ ⟨rfl, _, rfl⟩
    repeat (first|refine zJ rfl rfl ?_|refine jr rfl ?_|refine jn ?_|refine zM rfl rfl ?_|(refine zC rfl rfl ?_ rfl ?_;omega)|(refine zD rfl rfl ?_ rfl ?_;omega)|(refine zP rfl ?_ rfl ?_;omega)|refine zG rfl rfl rfl rfl ?_|(refine jdq rfl rfl ?_ ?_ ?_;kernel_rfl;kernel_rfl)|refine zB rfl rfl rfl (by repeat constructor) rfl ?_|refine zH .here rfl rfl rfl rfl ?_|refine zH (.there .here) rfl rfl rfl rfl ?_|refine zH (.there (.there .here)) rfl rfl rfl rfl ?_)
    exact J_again (j + 1) hlt (by omega) ⟨⟨rfl, rfl, rfl, rfl, rfl, rfl, rfl, rfl, rfl, trivial⟩, fun w' s => by rw [htk, lyM_snoc]; exact s⟩
  obtain rfl : j = ws.length := by omega
  rw [List.take_length]
  repeat (first|refine zJ rfl rfl ?_|refine jr rfl ?_|refine jn ?_|refine zM rfl rfl ?_|(refine zC rfl rfl ?_ rfl ?_;omega)|(refine zD rfl rfl ?_ rfl ?_;omega)|(refine zP rfl ?_ rfl ?_;omega)|refine zG rfl rfl rfl rfl ?_|(refine jdq rfl rfl ?_ ?_ ?_;kernel_rfl;kernel_rfl)|refine zB rfl rfl rfl (by repeat constructor) rfl ?_|refine zH .here rfl rfl rfl rfl ?_|refine zH (.there .here) rfl rfl rfl rfl ?_|refine zH (.there (.there .here)) rfl rfl rfl rfl ?_)
  refine oC (Hc := []) (Hr := mp keyI bl (lyM n ws) :: blk b9 72 x.cs :: X) (vnew_spec n F0 hnb.1 hnb.2) Try.call29 rfl rfl (fun w s => s) ?_
  rintro _ F1 _ hF1 ⟨b, bm, rfl, rfl⟩
  replace h1 := h1.mono hF1
  replace h3 := h3.mono hF1
  refine oW (F' := F1) (H' := mp keyI bl (lyM n ws) :: blk b9 72 x.cs :: (VS b n bm [] ++ X)) ?_ (fun w s => Sat.front (A := VS b n bm []) (B := [_, _]) (C := X) s)
  repeat (first|refine zJ rfl rfl ?_|refine jr rfl ?_|refine jn ?_|refine zM rfl rfl ?_|(refine zC rfl rfl ?_ rfl ?_;omega)|(refine zD rfl rfl ?_ rfl ?_;omega)|(refine zP rfl ?_ rfl ?_;omega)|refine zG rfl rfl rfl rfl ?_|(refine jdq rfl rfl ?_ ?_ ?_;kernel_rfl;kernel_rfl)|refine zB rfl rfl rfl (by repeat constructor) rfl ?_|refine zH .here rfl rfl rfl rfl ?_|refine zH (.there .here) rfl rfl rfl rfl ?_|refine zH (.there (.there .here)) rfl rfl rfl rfl ?_)
  refine J_loop4 (fun (j : Nat) (G : PH) (L : List VE) (sn : Bool) => j ≤ hon.length ∧ F1.le G ∧ rowOf L = runA n (fun w => !lyB n ws w) (hon.take j) noneM ∧ sn = seenP (lyB n ws) (hon.take j) x) (fun j _ _ _ => hon.length - j) (fun j _ _ sn => [(3, .slice a3 lies.length c3), (9, .pointer (some ⟨b9, 0, none⟩)), (11, .int .i64 k), (13, .map (some bl)), (16, pT b), (17, .bool sn), (60, .slice a1 hon.length c1), (61, .int .i64 hon.length), (62, .int .i64 j)]) (fun _ G _ _ => G) (fun _ _ L _ => mp keyI bl (lyM n ws) :: blk b9 72 x.cs :: (VS b n bm L ++ X)) 0 F1 [] false
    ⟨Nat.zero_le _, PH.ler _, rfl, rfl⟩ ⟨⟨rfl, rfl, rfl, rfl, rfl, rfl, rfl, rfl, rfl, trivial⟩, fun _ s => s⟩ ?_
  rintro j G L sn ⟨hj, hG, hL, hsn⟩
  by_cases hlt : j < hon.length
  · have hg : hon[j]? = some hon[j] := List.getElem?_eq_getElem hlt
    obtain ⟨b1, o1, rfl, hc1, _⟩ := (h1.mono hG).at hg
    have htk : hon.take (j + 1) = hon.take j ++ [hon[j]] := by rw [List.take_add_one, hg]; rfl
    have hrun := runA_snoc n (fun w => !lyB n ws w) (hon.take j) hon[j] noneM
    rw [← htk] at hrun
    have hseen : seenP (lyB n ws) (hon.take (j + 1)) x = (seenP (lyB n ws) (hon.take j) x || (!lyB n ws hon[j].1 && matchB hon[j].2 x)) := by
      rw [htk]; unfold seenP; rw [List.any_append, List.any_cons, List.any_nil, Bool.or_false]
    have okM := runA_ok (n := n) (fun w => !lyB n ws w) (hon.take j) (noneM_ok n)
    rw [← hL] at okM hrun
    rw [← hsn] at hseen
    generalize hon[j] = o at *
    repeat (first|refine zJ rfl rfl ?_|refine jr rfl ?_|refine jn ?_|refine zM rfl rfl ?_|(refine zC rfl rfl ?_ rfl ?_;omega)|(refine zD rfl rfl ?_ rfl ?_;omega)|(refine zP rfl ?_ rfl ?_;omega)|refine zG rfl rfl rfl rfl ?_|(refine jdq rfl rfl ?_ ?_ ?_;kernel_rfl;kernel_rfl)|refine zB rfl rfl rfl (by repeat constructor) rfl ?_|refine zH .here rfl rfl rfl rfl ?_|refine zH (.there .here) rfl rfl rfl rfl ?_|refine zH (.there (.there .here)) rfl rfl rfl rfl ?_)
    refine oS (ev_indexAddr rfl rfl rfl hlt) rfl ?_
    refine oS (ev_load_agg (n := 36) rfl rfl (Rdb.ofF hc1) (oCs1_len o)) rfl ?_
    refine oE (ev_alloc (cs := oCs1 (0, ⟨0, 0, zDg, 0#32⟩)) rfl) rfl ?_
    rintro _ _ _ _ ⟨rfl, b19, rfl, rfl⟩
    refine oN (ev_store rfl rfl .agg rfl (oCs1_len o) (lay_all (zs := oCs1 (0, ⟨0, 0, zDg, 0#32⟩)) (by rw [oCs1_len]; rfl)) (oCs1_ones o) .here) rfl ?_
    rintro _ _ _ _ ⟨rfl, _, rfl⟩
    repeat (first|refine zJ rfl rfl ?_|refine jr rfl ?_|refine jn ?_|refine zM rfl rfl ?_|(refine zC rfl rfl ?_ rfl ?_;omega)|(refine zD rfl rfl ?_ rfl ?_;omega)|(refine zP rfl ?_ rfl ?_;omega)|refine zG rfl rfl rfl rfl ?_|(refine jdq rfl rfl ?_ ?_ ?_;kernel_rfl;kernel_rfl)|refine zB rfl rfl rfl (by repeat constructor) rfl ?_|refine zH .here rfl rfl rfl rfl ?_|refine zH (.there .here) rfl rfl rfl rfl ?_|refine zH (.there (.there .here)) rfl rfl rfl rfl ?_)
    refine oS (ev_lookup (K := keyI) (a := o.1) (M := lyM n ws) (zv := .bool false) (r := .bool (lyB n ws o.1)) rfl rfl rfl rfl (.there .here) (lyM_get n ws o.1).symm) rfl ?_
    cases hly : lyB n ws o.1 with
    | true =>
      rw [hly] at hrun hseen
      simp only [Bool.not_true, Bool.false_and, Bool.or_false, Bool.false_eq_true, if_false] at hrun hseen
      repeat (first|refine zJ rfl rfl ?_|refine jr rfl ?_|refine jn ?_|refine zM rfl rfl ?_|(refine zC rfl rfl ?_ rfl ?_;omega)|(refine zD rfl rfl ?_ rfl ?_;omega)|(refine zP rfl ?_ rfl ?_;omega)|refine zG rfl rfl rfl rfl ?_|(refine jdq rfl rfl ?_ ?_ ?_;kernel_rfl;kernel_rfl)|refine zB rfl rfl rfl (by repeat constructor) rfl ?_|refine zH .here rfl rfl rfl rfl ?_|refine zH (.there .here) rfl rfl rfl rfl ?_|refine zH (.there (.there .here)) rfl rfl rfl rfl ?_)
      exact J_again4 (j + 1) G L sn ⟨hlt, hG, hrun.symm, hseen.symm⟩ (by omega) ⟨⟨rfl, rfl, rfl, rfl, rfl, rfl, rfl, rfl, rfl, trivial⟩, fun w s => s.drop⟩
    | false =>
      rw [hly] at hrun hseen
      simp only [Bool.not_false, Bool.true_and, if_true] at hrun hseen
      repeat (first|refine zJ rfl rfl ?_|refine jr rfl ?_|refine jn ?_|refine zM rfl rfl ?_|(refine zC rfl rfl ?_ rfl ?_;omega)|(refine zD rfl rfl ?_ rfl ?_;omega)|(refine zP rfl ?_ rfl ?_;omega)|refine zG rfl rfl rfl rfl ?_|(refine jdq rfl rfl ?_ ?_ ?_;kernel_rfl;kernel_rfl)|refine zB rfl rfl rfl (by repeat constructor) rfl ?_|refine zH .here rfl rfl rfl rfl ?_|refine zH (.there .here) rfl rfl rfl rfl ?_|refine zH (.there (.there .here)) rfl rfl rfl rfl ?_)
      refine oS (ev_load_agg (cs := o.2.cs) rfl rfl (Rdb.ofB (n := 0) .here (vo_at1 o)) o.2.len) rfl ?_
      refine oC (Hc := VS b n bm L) (Hr := blk b19 77 (oCs1 o) :: mp keyI bl (lyM n ws) :: blk b9 72 x.cs :: X) (vadd_spec b bm n o.1 L o.2 G hnb.1 hnb.2 okM.rise okM.len) Try.call30 rfl rfl (fun w s => Sat.front (A := [_, _, _]) (B := VS b n bm L) (C := X) s) ?_
      rintro _ G2 _ hG2 ⟨rfl, L2, rfl, hL2⟩
      refine oW (F' := G2) (H' := blk b19 77 (oCs1 o) :: mp keyI bl (lyM n ws) :: blk b9 72 x.cs :: (VS b n bm L2 ++ X)) ?_ (fun w s => Sat.front (A := VS b n bm L2) (B := [_, _, _]) (C := X) s)
      cases sn with
      | true =>
        repeat (first|refine zJ rfl rfl ?_|refine jr rfl ?_|refine jn ?_|refine zM rfl rfl ?_|(refine zC rfl rfl ?_ rfl ?_;omega)|(refine zD rfl rfl ?_ rfl ?_;omega)|(refine zP rfl ?_ rfl ?_;omega)|refine zG rfl rfl rfl rfl ?_|(refine jdq rfl rfl ?_ ?_ ?_;kernel_rfl;kernel_rfl)|refine zB rfl rfl rfl (by repeat constructor) rfl ?_|refine zH .here rfl rfl rfl rfl ?_|refine zH (.there .here) rfl rfl rfl rfl ?_|refine zH (.there (.there .here)) rfl rfl rfl rfl ?_)
        exact J_again4 (j + 1) G2 L2 true ⟨hlt, hG.trans hG2, by rw [hL2]; exact hrun.symm, by rw [hseen]; rfl⟩ (by omega) ⟨⟨rfl, rfl, rfl, rfl, rfl, rfl, rfl, rfl, rfl, trivial⟩, fun w s => s.drop⟩
      | false =>
        rw [Bool.false_or] at hseen
        unfold matchB at hseen
        by_cases hc : o.2.c = x.c
        rotate_left
        · repeat (first|refine zJ rfl rfl ?_|refine jr rfl ?_|refine jn ?_|refine zM rfl rfl ?_|(refine zC rfl rfl ?_ rfl ?_;omega)|(refine zD rfl rfl ?_ rfl ?_;omega)|(refine zP rfl ?_ rfl ?_;omega)|refine zG rfl rfl rfl rfl ?_|(refine jdq rfl rfl ?_ ?_ ?_;kernel_rfl;kernel_rfl)|refine zB rfl rfl rfl (by repeat constructor) rfl ?_|refine zH .here rfl rfl rfl rfl ?_|refine zH (.there .here) rfl rfl rfl rfl ?_|refine zH (.there (.there .here)) rfl rfl rfl rfl ?_)
          exact J_again4 (j + 1) G2 L2 false ⟨hlt, hG.trans hG2, by rw [hL2]; exact hrun.symm, by rw [hseen, decide_eq_false hc]; rfl⟩ (by omega) ⟨⟨rfl, rfl, rfl, rfl, rfl, rfl, rfl, rfl, rfl, trivial⟩, fun w s => s.drop⟩
        by_cases hs : o.2.s = x.s
        rotate_left
        · repeat (first|refine zJ rfl rfl ?_|refine jr rfl ?_|refine jn ?_|refine zM rfl rfl ?_|(refine zC rfl rfl ?_ rfl ?_;omega)|(refine zD rfl rfl ?_ rfl ?_;omega)|(refine zP rfl ?_ rfl ?_;omega)|refine zG rfl rfl rfl rfl ?_|(refine jdq rfl rfl ?_ ?_ ?_;kernel_rfl;kernel_rfl)|refine zB rfl rfl rfl (by repeat constructor) rfl ?_|refine zH .here rfl rfl rfl rfl ?_|refine zH (.there .here) rfl rfl rfl rfl ?_|refine zH (.there (.there .here)) rfl rfl rfl rfl ?_)
          exact J_again4 (j + 1) G2 L2 false ⟨hlt, hG.trans hG2, by rw [hL2]; exact hrun.symm, by rw [hseen, decide_eq_false hs, Bool.false_and, Bool.and_false]⟩ (by omega) ⟨⟨rfl, rfl, rfl, rfl, rfl, rfl, rfl, rfl, rfl, trivial⟩, fun w s => s.drop⟩
        repeat (first|refine zJ rfl rfl ?_|refine jr rfl ?_|refine jn ?_|refine zM rfl rfl ?_|(refine zC rfl rfl ?_ rfl ?_;omega)|(refine zD rfl rfl ?_ rfl ?_;omega)|(refine zP rfl ?_ rfl ?_;omega)|refine zG rfl rfl rfl rfl ?_|(refine jdq rfl rfl ?_ ?_ ?_;kernel_rfl;kernel_rfl)|refine zB rfl rfl rfl (by repeat constructor) rfl ?_|refine zH .here rfl rfl rfl rfl ?_|refine zH (.there .here) rfl rfl rfl rfl ?_|refine zH (.there (.there .here)) rfl rfl rfl rfl ?_)
        refine oS (ev_ldD (d := o.2.d) .here rfl (dg_at3 _ _ _ _ _)) rfl ?_
        repeat (first|refine zJ rfl rfl ?_|refine jr rfl ?_|refine jn ?_|refine zM rfl rfl ?_|(refine zC rfl rfl ?_ rfl ?_;omega)|(refine zD rfl rfl ?_ rfl ?_;omega)|(refine zP rfl ?_ rfl ?_;omega)|refine zG rfl rfl rfl rfl ?_|(refine jdq rfl rfl ?_ ?_ ?_;kernel_rfl;kernel_rfl)|refine zB rfl rfl rfl (by repeat constructor) rfl ?_|refine zH .here rfl rfl rfl rfl ?_|refine zH (.there .here) rfl rfl rfl rfl ?_|refine zH (.there (.there .here)) rfl rfl rfl rfl ?_)
        refine oS (ev_ldD (d := x.d) (.there (.there .here)) rfl (dg_at2 _ _ _ _)) rfl ?_
        refine oS (ev_eqD rfl rfl) rfl ?_
        by_cases hd : o.2.d = x.d
        rotate_left
        · rw [decide_eq_false hd]
          repeat (first|refine zJ rfl rfl ?_|refine jr rfl ?_|refine jn ?_|refine zM rfl rfl ?_|(refine zC rfl rfl ?_ rfl ?_;omega)|(refine zD rfl rfl ?_ rfl ?_;omega)|(refine zP rfl ?_ rfl ?_;omega)|refine zG rfl rfl rfl rfl ?_|(refine jdq rfl rfl ?_ ?_ ?_;kernel_rfl;kernel_rfl)|refine zB rfl rfl rfl (by repeat constructor) rfl ?_|refine zH .here rfl rfl rfl rfl ?_|refine zH (.there .here) rfl rfl rfl rfl ?_|refine zH (.there (.there .here)) rfl rfl rfl rfl ?_)
          exact J_again4 (j + 1) G2 L2 false ⟨hlt, hG.trans hG2, by rw [hL2]; exact hrun.symm, by rw [hseen, decide_eq_false hd, Bool.false_and, Bool.and_false, Bool.and_false]⟩ (by omega) ⟨⟨rfl, rfl, rfl, rfl, rfl, rfl, rfl, rfl, rfl, trivial⟩, fun w s => s.drop⟩
        rw [decide_eq_true hd]
        rw [decide_eq_true hc, decide_eq_true hs, decide_eq_true hd, Bool.true_and, Bool.true_and, Bool.true_and] at hseen
        repeat (first|refine zJ rfl rfl ?_|refine jr rfl ?_|refine jn ?_|refine zM rfl rfl ?_|(refine zC rfl rfl ?_ rfl ?_;omega)|(refine zD rfl rfl ?_ rfl ?_;omega)|(refine zP rfl ?_ rfl ?_;omega)|refine zG rfl rfl rfl rfl ?_|(refine jdq rfl rfl ?_ ?_ ?_;kernel_rfl;kernel_rfl)|refine zB rfl rfl rfl (by repeat constructor) rfl ?_|refine zH .here rfl rfl rfl rfl ?_|refine zH (.there .here) rfl rfl rfl rfl ?_|refine zH (.there (.there .here)) rfl rfl rfl rfl ?_)
        refine oS (ev_load (v := w32 x.m) rfl rfl (Rdb.ofB (n := 0) (.there (.there .here)) (mk_at2 _ _ _ _))) rfl ?_
        by_cases hm : x.m = 0#32
        · refine oS (ev_eqW (b := 0#32) rfl rfl (decide_eq_true hm)) rfl ?_
          repeat (first|refine zJ rfl rfl ?_|refine jr rfl ?_|refine jn ?_|refine zM rfl rfl ?_|(refine zC rfl rfl ?_ rfl ?_;omega)|(refine zD rfl rfl ?_ rfl ?_;omega)|(refine zP rfl ?_ rfl ?_;omega)|refine zG rfl rfl rfl rfl ?_|(refine jdq rfl rfl ?_ ?_ ?_;kernel_rfl;kernel_rfl)|refine zB rfl rfl rfl (by repeat constructor) rfl ?_|refine zH .here rfl rfl rfl rfl ?_|refine zH (.there .here) rfl rfl rfl rfl ?_|refine zH (.there (.there .here)) rfl rfl rfl rfl ?_)
          exact J_again4 (j + 1) G2 L2 true ⟨hlt, hG.trans hG2, by rw [hL2]; exact hrun.symm, by rw [hseen, decide_eq_true hm]; rfl⟩ (by omega) ⟨⟨rfl, rfl, rfl, rfl, rfl, rfl, rfl, rfl, rfl, trivial⟩, fun w s => s.drop⟩
        refine oS (ev_eqW (b := 0#32) rfl rfl (decide_eq_false hm)) rfl ?_
        repeat (first|refine zJ rfl rfl ?_|refine jr rfl ?_|refine jn ?_|refine zM rfl rfl ?_|(refine zC rfl rfl ?_ rfl ?_;omega)|(refine zD rfl rfl ?_ rfl ?_;omega)|(refine zP rfl ?_ rfl ?_;omega)|refine zG rfl rfl rfl rfl ?_|(refine jdq rfl rfl ?_ ?_ ?_;kernel_rfl;kernel_rfl)|refine zB rfl rfl rfl (by repeat constructor) rfl ?_|refine zH .here rfl rfl rfl rfl ?_|refine zH (.there .here) rfl rfl rfl rfl ?_|refine zH (.there (.there .here)) rfl rfl rfl rfl ?_)
        refine oS (ev_load (v := w32 o.2.m) rfl rfl (Rdb.ofB (n := 0) .here (mk_at3 _ _ _ _ _))) rfl ?_
        repeat (first|refine zJ rfl rfl ?_|refine jr rfl ?_|refine jn ?_|refine zM rfl rfl ?_|(refine zC rfl rfl ?_ rfl ?_;omega)|(refine zD rfl rfl ?_ rfl ?_;omega)|(refine zP rfl ?_ rfl ?_;omega)|refine zG rfl rfl rfl rfl ?_|(refine jdq rfl rfl ?_ ?_ ?_;kernel_rfl;kernel_rfl)|refine zB rfl rfl rfl (by repeat constructor) rfl ?_|refine zH .here rfl rfl rfl rfl ?_|refine zH (.there .here) rfl rfl rfl rfl ?_|refine zH (.there (.there .here)) rfl rfl rfl rfl ?_)
        refine oS (ev_load (v := w32 x.m) rfl rfl (Rdb.ofB (n := 0) (.there (.there .here)) (mk_at2 _ _ _ _))) rfl ?_
        refine oS (eu rfl rfl rfl) rfl ?_
        refine oS (ev_neW (b := 0#32) rfl rfl rfl) rfl ?_
        rw [decide_eq_false hm, Bool.false_or] at hseen
        generalize (!decide (o.2.m &&& x.m = 0#32)) = r at *
        repeat (first|refine zJ rfl rfl ?_|refine jr rfl ?_|refine jn ?_|refine zM rfl rfl ?_|(refine zC rfl rfl ?_ rfl ?_;omega)|(refine zD rfl rfl ?_ rfl ?_;omega)|(refine zP rfl ?_ rfl ?_;omega)|refine zG rfl rfl rfl rfl ?_|(refine jdq rfl rfl ?_ ?_ ?_;kernel_rfl;kernel_rfl)|refine zB rfl rfl rfl (by repeat constructor) rfl ?_|refine zH .here rfl rfl rfl rfl ?_|refine zH (.there .here) rfl rfl rfl rfl ?_|refine zH (.there (.there .here)) rfl rfl rfl rfl ?_)
        exact J_again4 (j + 1) G2 L2 r ⟨hlt, hG.trans hG2, by rw [hL2]; exact hrun.symm, hseen.symm⟩ (by omega) ⟨⟨rfl, rfl, rfl, rfl, rfl, rfl, rfl, rfl, rfl, trivial⟩, fun w s => s.drop⟩
  obtain rfl : j = hon.length := by omega
  rw [List.take_length] at hL hsn
  have hinv := inv_run (hon := hon) (ly := lyB n ws) (n := n) (fun w => !lyB n ws w) hon (M := noneM) (fun a ha _ => .inr ha) (inv_none hon _ n)
  rw [← hL] at hinv
  replace h3 := h3.mono hG
  repeat (first|refine zJ rfl rfl ?_|refine jr rfl ?_|refine jn ?_|refine zM rfl rfl ?_|(refine zC rfl rfl ?_ rfl ?_;omega)|(refine zD rfl rfl ?_ rfl ?_;omega)|(refine zP rfl ?_ rfl ?_;omega)|refine zG rfl rfl rfl rfl ?_|(refine jdq rfl rfl ?_ ?_ ?_;kernel_rfl;kernel_rfl)|refine zB rfl rfl rfl (by repeat constructor) rfl ?_|refine zH .here rfl rfl rfl rfl ?_|refine zH (.there .here) rfl rfl rfl rfl ?_|refine zH (.there (.there .here)) rfl rfl rfl rfl ?_)
  refine J_loop3 (fun (j : Nat) (G' : PH) (L' : List VE) => j ≤ lies.length ∧ G.le G' ∧ rowOf L' = runA n (lyB n ws) (lies.take j) (rowOf L)) (fun j _ _ => lies.length - j) (fun j _ _ => [(9, .pointer (some ⟨b9, 0, none⟩)), (11, .int .i64 k), (13, .map (some bl)), (16, pT b), (17, .bool sn), (116, .slice a3 lies.length c3), (117, .int .i64 lies.length), (118, .int .i64 j)]) (fun _ G _ => G) (fun _ _ L => mp keyI bl (lyM n ws) :: blk b9 72 x.cs :: (VS b n bm L ++ X)) 0 G L
    ⟨Nat.zero_le _, PH.ler _, rfl⟩ ⟨⟨rfl, rfl, rfl, rfl, rfl, rfl, rfl, rfl, trivial⟩, fun _ s => s⟩ ?_
  rintro j G' L' ⟨hj, hG', hL'⟩
  have okM' := runA_ok (n := n) (lyB n ws) (lies.take j) hinv.ok
  rw [← hL'] at okM'
  by_cases hlt : j < lies.length
  · have hg : lies[j]? = some lies[j] := List.getElem?_eq_getElem hlt
    obtain ⟨b1, o1, rfl, hc1, _⟩ := (h3.mono hG').at hg
    have htk : lies.take (j + 1) = lies.take j ++ [lies[j]] := by rw [List.take_add_one, hg]; rfl
    have hrun := runA_snoc n (lyB n ws) (lies.take j) lies[j] (rowOf L)
    rw [← htk, ← hL'] at hrun
    generalize lies[j] = o at *
    repeat (first|refine zJ rfl rfl ?_|refine jr rfl ?_|refine jn ?_|refine zM rfl rfl ?_|(refine zC rfl rfl ?_ rfl ?_;omega)|(refine zD rfl rfl ?_ rfl ?_;omega)|(refine zP rfl ?_ rfl ?_;omega)|refine zG rfl rfl rfl rfl ?_|(refine jdq rfl rfl ?_ ?_ ?_;kernel_rfl;kernel_rfl)|refine zB rfl rfl rfl (by repeat constructor) rfl ?_|refine zH .here rfl rfl rfl rfl ?_|refine zH (.there .here) rfl rfl rfl rfl ?_|refine zH (.there (.there .here)) rfl rfl rfl rfl ?_)
    refine oS (ev_indexAddr rfl rfl rfl hlt) rfl ?_
    refine oS (ev_load_agg (n := 36) rfl rfl (Rdb.ofF hc1) (oCs1_len o)) rfl ?_
    refine oE (ev_alloc (cs := oCs1 (0, ⟨0, 0, zDg, 0#32⟩)) rfl) rfl ?_
    rintro _ _ _ _ ⟨rfl, b19, rfl, rfl⟩
    refine oN (ev_store rfl rfl .agg rfl (oCs1_len o) (lay_all (zs := oCs1 (0, ⟨0, 0, zDg, 0#32⟩)) (by rw [oCs1_len]; rfl)) (oCs1_ones o) .here) rfl ?_
    rintro _ _ _ _ ⟨rfl, _, rfl⟩
    repeat (first|refine zJ rfl rfl ?_|refine jr rfl ?_|refine jn ?_|refine zM rfl rfl ?_|(refine zC rfl rfl ?_ rfl ?_;omega)|(refine zD rfl rfl ?_ rfl ?_;omega)|(refine zP rfl ?_ rfl ?_;omega)|refine zG rfl rfl rfl rfl ?_|(refine jdq rfl rfl ?_ ?_ ?_;kernel_rfl;kernel_rfl)|refine zB rfl rfl rfl (by repeat constructor) rfl ?_|refine zH .here rfl rfl rfl rfl ?_|refine zH (.there .here) rfl rfl rfl rfl ?_|refine zH (.there (.there .here)) rfl rfl rfl rfl ?_)
    refine oS (ev_lookup (K := keyI) (a := o.1) (M := lyM n ws) (zv := .bool false) (r := .bool (lyB n ws o.1)) rfl rfl rfl rfl (.there .here) (lyM_get n ws o.1).symm) rfl ?_
    cases hly : lyB n ws o.1 with
    | false =>
      rw [hly] at hrun
      simp only [Bool.false_eq_true, if_false] at hrun
      repeat (first|refine zJ rfl rfl ?_|refine jr rfl ?_|refine jn ?_|refine zM rfl rfl ?_|(refine zC rfl rfl ?_ rfl ?_;omega)|(refine zD rfl rfl ?_ rfl ?_;omega)|(refine zP rfl ?_ rfl ?_;omega)|refine zG rfl rfl rfl rfl ?_|(refine jdq rfl rfl ?_ ?_ ?_;kernel_rfl;kernel_rfl)|refine zB rfl rfl rfl (by repeat constructor) rfl ?_|refine zH .here rfl rfl rfl rfl ?_|refine zH (.there .here) rfl rfl rfl rfl ?_|refine zH (.there (.there .here)) rfl rfl rfl rfl ?_)
      exact J_again3 (j + 1) G' L' ⟨hlt, hG', hrun.symm⟩ (by omega) ⟨⟨rfl, rfl, rfl, rfl, rfl, rfl, rfl, rfl, trivial⟩, fun w s => s.drop⟩
    | true =>
      rw [hly] at hrun
      simp only [if_true] at hrun
      repeat (first|refine zJ rfl rfl ?_|refine jr rfl ?_|refine jn ?_|refine zM rfl rfl ?_|(refine zC rfl rfl ?_ rfl ?_;omega)|(refine zD rfl rfl ?_ rfl ?_;omega)|(refine zP rfl ?_ rfl ?_;omega)|refine zG rfl rfl rfl rfl ?_|(refine jdq rfl rfl ?_ ?_ ?_;kernel_rfl;kernel_rfl)|refine zB rfl rfl rfl (by repeat constructor) rfl ?_|refine zH .here rfl rfl rfl rfl ?_|refine zH (.there .here) rfl rfl rfl rfl ?_|refine zH (.there (.there .here)) rfl rfl rfl rfl ?_)
      refine oS (ev_load_agg (cs := o.2.cs) rfl rfl (Rdb.ofB (n := 0) .here (vo_at1 o)) o.2.len) rfl ?_
      refine oC (Hc := VS b n bm L') (Hr := blk b19 77 (oCs1 o) :: mp keyI bl (lyM n ws) :: blk b9 72 x.cs :: X) (vadd_spec b bm n o.1 L' o.2 G' hnb.1 hnb.2 okM'.rise okM'.len) Try.call30 rfl rfl (fun w s => Sat.front (A := [_, _, _]) (B := VS b n bm L') (C := X) s) ?_
      rintro _ G2 _ hG2 ⟨rfl, L2, rfl, hL2⟩
      refine oW (F' := G2) (H' := blk b19 77 (oCs1 o) :: mp keyI bl (lyM n ws) :: blk b9 72 x.cs :: (VS b n bm L2 ++ X)) ?_ (fun w s => Sat.front (A := VS b n bm L2) (B := [_, _, _]) (C := X) s)
      repeat (first|refine zJ rfl rfl ?_|refine jr rfl ?_|refine jn ?_|refine zM rfl rfl ?_|(refine zC rfl rfl ?_ rfl ?_;omega)|(refine zD rfl rfl ?_ rfl ?_;omega)|(refine zP rfl ?_ rfl ?_;omega)|refine zG rfl rfl rfl rfl ?_|(refine jdq rfl rfl ?_ ?_ ?_;kernel_rfl;kernel_rfl)|refine zB rfl rfl rfl (by repeat constructor) rfl ?_|refine zH .here rfl rfl rfl rfl ?_|refine zH (.there .here) rfl rfl rfl rfl ?_|refine zH (.there (.there .here)) rfl rfl rfl rfl ?_)
      exact J_again3 (j + 1) G2 L2 ⟨hlt, hG'.trans hG2, by rw [hL2]; exact hrun.symm⟩ (by omega) ⟨⟨rfl, rfl, rfl, rfl, rfl, rfl, rfl, rfl, trivial⟩, fun w s => s.drop⟩
  obtain rfl : j = lies.length := by omega
  rw [List.take_length] at hL'
  have hinv2 := inv_run (hon := hon) (ly := lyB n ws) (n := n) (lyB n ws) lies (M := rowOf L) (fun a _ h => .inl h) hinv
  rw [← hL'] at hinv2
  have hlaw := honest_law (hon := hon) (ly := lyB n ws) (n := n) (M := rowOf L') (S := ws.map fun w => w.toNat % n) (k := k) (x := x) hinv2 (fun j _ h => lyB_list h) (by rw [List.length_map]; omega)
  rw [← hsn] at hlaw
  refine J_weak (F' := G') (H' := VS b n bm L' ++ (mp keyI bl (lyM n ws) :: blk b9 72 x.cs :: X)) ?_ (fun w s => Sat.front (A := [_, _]) (B := VS b n bm L') (C := X) s)
  refine J_lend fun hh hst hdj => ?_
  have hvf : VF (G'.un hh) b n bm L' := vf_of hst (PH.le_r hdj)
  have hF5 : F.le (G'.un hh) := hF0.trans (hF1.trans (hG.trans (hG'.trans (PH.le_l _ _))))
  generalize G'.un hh = G5 at *
  have hpr := proved_spec2 b bm n x.c x.s ((k : Int) + 1) x.d x.m L' G5 hnb.1 hnb.2 hvf okM'.len
  rw [Int.toNat_natCast] at hpr
  repeat (first|refine zJ rfl rfl ?_|refine jr rfl ?_|refine jn ?_|refine zM rfl rfl ?_|(refine zC rfl rfl ?_ rfl ?_;omega)|(refine zD rfl rfl ?_ rfl ?_;omega)|(refine zP rfl ?_ rfl ?_;omega)|refine zG rfl rfl rfl rfl ?_|(refine jdq rfl rfl ?_ ?_ ?_;kernel_rfl;kernel_rfl)|refine zB rfl rfl rfl (by repeat constructor) rfl ?_|refine zH .here rfl rfl rfl rfl ?_|refine zH (.there .here) rfl rfl rfl rfl ?_|refine zH (.there (.there .here)) rfl rfl rfl rfl ?_)
  refine oS (ev_ldD (d := x.d) (.there .here) rfl (dg_at2 _ _ _ _)) rfl ?_
  repeat (first|refine zJ rfl rfl ?_|refine jr rfl ?_|refine jn ?_|refine zM rfl rfl ?_|(refine zC rfl rfl ?_ rfl ?_;omega)|(refine zD rfl rfl ?_ rfl ?_;omega)|(refine zP rfl ?_ rfl ?_;omega)|refine zG rfl rfl rfl rfl ?_|(refine jdq rfl rfl ?_ ?_ ?_;kernel_rfl;kernel_rfl)|refine zB rfl rfl rfl (by repeat constructor) rfl ?_|refine zH .here rfl rfl rfl rfl ?_|refine zH (.there .here) rfl rfl rfl rfl ?_|refine zH (.there (.there .here)) rfl rfl rfl rfl ?_)
  refine oS (ev_load (v := w32 x.m) rfl rfl (Rdb.ofB (n := 0) (.there .here) (mk_at2 _ _ _ _))) rfl ?_
  repeat (first|refine zJ rfl rfl ?_|refine jr rfl ?_|refine jn ?_|refine zM rfl rfl ?_|(refine zC rfl rfl ?_ rfl ?_;omega)|(refine zD rfl rfl ?_ rfl ?_;omega)|(refine zP rfl ?_ rfl ?_;omega)|refine zG rfl rfl rfl rfl ?_|(refine jdq rfl rfl ?_ ?_ ?_;kernel_rfl;kernel_rfl)|refine zB rfl rfl rfl (by repeat constructor) rfl ?_|refine zH .here rfl rfl rfl rfl ?_|refine zH (.there .here) rfl rfl rfl rfl ?_|refine zH (.there (.there .here)) rfl rfl rfl rfl ?_)
  refine oP (hpr) Try.call31 rfl rfl ?_
  cases hp : provedP (rowOf L') x.c x.s x.d n x.m ((k : Int) + 1) with
  | true =>
    obtain rfl := hlaw hp
    repeat (first|refine zJ rfl rfl ?_|refine jr rfl ?_|refine jn ?_|refine zM rfl rfl ?_|(refine zC rfl rfl ?_ rfl ?_;omega)|(refine zD rfl rfl ?_ rfl ?_;omega)|(refine zP rfl ?_ rfl ?_;omega)|refine zG rfl rfl rfl rfl ?_|(refine jdq rfl rfl ?_ ?_ ?_;kernel_rfl;kernel_rfl)|refine zB rfl rfl rfl (by repeat constructor) rfl ?_|refine zH .here rfl rfl rfl rfl ?_|refine zH (.there .here) rfl rfl rfl rfl ?_|refine zH (.there (.there .here)) rfl rfl rfl rfl ?_)
    exact J_retv rfl (.tmp rfl .nil) [] (fun w s => s.drop.drop) hF5 ⟨rfl, rfl⟩
  | false =>
    repeat (first|refine zJ rfl rfl ?_|refine jr rfl ?_|refine jn ?_|refine zM rfl rfl ?_|(refine zC rfl rfl ?_ rfl ?_;omega)|(refine zD rfl rfl ?_ rfl ?_;omega)|(refine zP rfl ?_ rfl ?_;omega)|refine zG rfl rfl rfl rfl ?_|(refine jdq rfl rfl ?_ ?_ ?_;kernel_rfl;kernel_rfl)|refine zB rfl rfl rfl (by repeat constructor) rfl ?_|refine zH .here rfl rfl rfl rfl ?_|refine zH (.there .here) rfl rfl rfl rfl ?_|refine zH (.there (.there .here)) rfl rfl rfl rfl ?_)
    exact J_retv rfl (.tmp rfl .nil) [] (fun w s => s.drop.drop) hF5 ⟨rfl, rfl⟩
open Go.ChangeShapes Go.WideShapes Go.ChangeAt
set_option maxRecDepth 100000 in theorem VouchHonest_lifted (os : Os) (started : os.Started) (H : Type) (enc : TypeId × Value → H) : ReturnsInHanded {} Try.checked os 7 .any (Rows.vouchHonestSpec.pre6 enc Try.prog Try.f7 Rows.vouchHonestRow.domain false) (Rows.vouchHonestSpec.post enc Try.prog Try.f7 false true false false) := by
  refine returnsInHanded_of_change (C := Try.checked) own_knob started (by kernel_rfl) Try.func7 (ChangeSpec.witness6 (enc := enc) (C := Try.checked) false ⟨#[], #[.int .u8 0, .slice none 0 0, .slice none 0 0, .slice none 0 0, .agg zVoC.toArray], []⟩ 8 (by kernel_rfl) (by kernel_rfl) (by kernel_rfl) (by kernel_rfl)) ?_; intro W base args ds gs before hval0 hW hcnd _; have hval : ∀ (j : Nat) t v, Try.f7.params[j]? = some t → args[j]? = some v → Value.okWide Try.prog W .any base t v := hval0; have hW' := hW; obtain ⟨p, q, hA0, hV, hp, hfz, hnd⟩ := hW; have hA : DataW.TrodAll enc Try.prog W 0 (fun _ => true) true Try.f7.params.toList args.toList ds p := hA0; obtain ⟨rfl, rfl⟩ := trodVars_none hV; rw [List.append_nil] at hp; have hA' := hA; rw [Try.params7] at hA hval
  obtain ⟨v0, vs0, d0, ds0, p0, q0, hargs, rfl, rfl, h0, r0⟩ := trodAll_cons hA; obtain ⟨v1, vs1, d1, ds1, p1, q1, rfl, rfl, rfl, h1, r1⟩ := trodAll_cons r0; obtain ⟨v2, vs2, d2, ds2, p2, q2, rfl, rfl, rfl, h2, r2⟩ := trodAll_cons r1; obtain ⟨v3, vs3, d3, ds3, p3, q3, rfl, rfl, rfl, h3, r3⟩ := trodAll_cons r2; obtain ⟨v4, vs4, d4, ds4, p4, q4, rfl, rfl, rfl, h4, r4⟩ := trodAll_cons r3; obtain ⟨rfl, rfl, rfl⟩ := trodAll_nil r4; obtain rfl : args = #[v0, v1, v2, v3, v4] := by cases args; simp_all
  obtain ⟨f, rfl, rfl, rfl, w0⟩ := open_int Try.underlying5 (hval 0 5 v0 rfl rfl) h0
  obtain ⟨xs1, hx1⟩ := open_row tyAct Try.underlying69 (by kernel_rfl) (by decide) (hval 1 69 v1 rfl rfl) h1
  obtain ⟨l1, q1⟩ := acts_of hx1
  obtain ⟨ab, kb, bs, rfl, _, _, hbs⟩ := open_byt Try.underlying22 Try.underlying5 (by kernel_rfl) (hval 2 22 v2 rfl rfl) h2
  obtain ⟨xs3, hx3⟩ := open_row tyAct Try.underlying69 (by kernel_rfl) (by decide) (hval 3 69 v3 rfl rfl) h3
  obtain ⟨l3, q3⟩ := acts_of hx3
  obtain ⟨x4, cs4, rfl, r4⟩ := open_struct tyVo Try.underlying72 (hval 4 72 v4 rfl rfl) h4
  obtain ⟨x, rfl⟩ := vo_of r4
  obtain ⟨a1, c1, rfl, _⟩ := q1.form
  obtain ⟨a3, c3, rfl, _⟩ := q3.form
  have hf : InK .u8 f := wf_inK w0
  refine (law_walk (VouchHonest_walk f l1 bs l3 x a1 ab a3 c1 kb c3 (ph W) hf q1 hbs q3)).mono fun e W' ⟨he, hb⟩ => ?_
  subst he
  exact ⟨_, rfl, law_post laid_out (by kernel_rfl) rfl rfl Try.underlying4 hW' hA' hp rfl hb⟩
theorem VouchHonest_holds : Rows.VouchHonestSaid := OpenClaim.holds_of_wide 7 Try.f7 rfl rfl rfl rfl rfl rfl rfl ⟨rfl, rfl, rfl, rfl, rfl⟩ rfl rfl rfl rfl rfl (by kernel_rfl) Try.func7 (by kernel_rfl) (of_decide_eq_true (by kernel_rfl)) (by unfold Func.isWrapper; first | (rw [if_pos (by decide +kernel)]; kernel_rfl) | (rw [if_neg (by decide +kernel)]; exact ⟨rfl, rfl⟩)) (fun os started H enc _ => VouchHonest_lifted os started H enc)
#print axioms VouchHonest_holds
end Go.Proofs.Ytdoaloimndehbaa
