/-
  Two slots of one number and view, to which each honest replica says the same, aren't committed with two digests (SlotOne). No condition.
-/
import Derived.Test.YtdoaloimndehbaaTg
namespace Go.Proofs.Ytdoaloimndehbaa
open Go.RowKit
set_option maxRecDepth 100000
abbrev Bs (F : PH) (a : Option Addr) (c : Nat) (bs : List UInt8) : Prop := SliceV F 1 (.slice a bs.length c) bs.length (u8s bs)
set_option maxHeartbeats 16000000 in
theorem SlotOne_walk (f : Int) (a1 a2 a3 a4 : Option Addr) (c1 c2 c3 c4 : Nat) (says one two ls : List UInt8) (F : PH) (hf : InK .u8 f) (h1 : Bs F a1 c1 says) (h2 : Bs F a2 c2 one) (h3 : Bs F a3 c3 two) (h4 : Bs F a4 c4 ls) :
    Pure Try.prog 3 [.int .u8 f, .slice a1 says.length c1, .slice a2 one.length c2, .slice a3 two.length c3, .slice a4 ls.length c4] F (.bool true) := by
  refine Spec.of5 Try.func3 rfl rfl fun X w0 => ?_
  dsimp only [InK] at hf
  repeat (first|refine zJ rfl rfl ?_|refine jr rfl ?_|refine jn ?_|refine zM rfl rfl ?_|(refine zC rfl rfl ?_ rfl ?_;omega)|(refine zD rfl rfl ?_ rfl ?_;omega)|(refine zP rfl ?_ rfl ?_;omega)|refine zG rfl rfl rfl rfl ?_|(refine jdq rfl rfl ?_ ?_ ?_;kernel_rfl;kernel_rfl)|refine zB rfl rfl rfl (by repeat constructor) rfl ?_)
  refine oC (Hc := []) (Hr := X) (fixed21_true F) Try.call9 rfl rfl (fun _ s => s) ?_
  rintro _ F1 _ hF1 ⟨rfl, rfl⟩
  repeat (first|refine zJ rfl rfl ?_|refine jr rfl ?_|refine jn ?_|refine zM rfl rfl ?_|(refine zC rfl rfl ?_ rfl ?_;omega)|(refine zD rfl rfl ?_ rfl ?_;omega)|(refine zP rfl ?_ rfl ?_;omega)|refine zG rfl rfl rfl rfl ?_|(refine jdq rfl rfl ?_ ?_ ?_;kernel_rfl;kernel_rfl)|refine zB rfl rfl rfl (by repeat constructor) rfl ?_)
  obtain ⟨k, hk, hk1, hk2⟩ : ∃ k : Nat, 1 + f % 2 = (k : Int) ∧ 1 ≤ k ∧ k ≤ 2 := ⟨(1 + f % 2).toNat, by omega, by omega, by omega⟩
  obtain ⟨n, hn⟩ : ∃ n : Nat, n = 3 * k + 1 := ⟨_, rfl⟩
  have hni : 3 * (1 + f % 2) + 1 = (n : Int) := by omega
  by_cases hls : k < ls.length
  · rw [decide_eq_true (show (1 + f % 2 : Int) < (ls.length : Int) by omega)]
    repeat (first|refine zJ rfl rfl ?_|refine jr rfl ?_|refine jn ?_|refine zM rfl rfl ?_|(refine zC rfl rfl ?_ rfl ?_;omega)|(refine zD rfl rfl ?_ rfl ?_;omega)|(refine zP rfl ?_ rfl ?_;omega)|refine zG rfl rfl rfl rfl ?_|(refine jdq rfl rfl ?_ ?_ ?_;kernel_rfl;kernel_rfl)|refine zB rfl rfl rfl (by repeat constructor) rfl ?_)
    exact J_retv rfl (.tmp rfl .nil) [] (fun w s => s) hF1 ⟨rfl, rfl⟩
  rw [decide_eq_false (show ¬ (1 + f % 2 : Int) < (ls.length : Int) by omega)]
  repeat (first|refine zJ rfl rfl ?_|refine jr rfl ?_|refine jn ?_|refine zM rfl rfl ?_|(refine zC rfl rfl ?_ rfl ?_;omega)|(refine zD rfl rfl ?_ rfl ?_;omega)|(refine zP rfl ?_ rfl ?_;omega)|refine zG rfl rfl rfl rfl ?_|(refine jdq rfl rfl ?_ ?_ ?_;kernel_rfl;kernel_rfl)|refine zB rfl rfl rfl (by repeat constructor) rfl ?_)
  by_cases hsa : 20 < says.length
  · rw [decide_eq_true (show (20 : Int) < (says.length : Int) by omega)]
    repeat (first|refine zJ rfl rfl ?_|refine jr rfl ?_|refine jn ?_|refine zM rfl rfl ?_|(refine zC rfl rfl ?_ rfl ?_;omega)|(refine zD rfl rfl ?_ rfl ?_;omega)|(refine zP rfl ?_ rfl ?_;omega)|refine zG rfl rfl rfl rfl ?_|(refine jdq rfl rfl ?_ ?_ ?_;kernel_rfl;kernel_rfl)|refine zB rfl rfl rfl (by repeat constructor) rfl ?_)
    exact J_retv rfl (.tmp rfl .nil) [] (fun w s => s) hF1 ⟨rfl, rfl⟩
  rw [decide_eq_false (show ¬ (20 : Int) < (says.length : Int) by omega)]
  repeat (first|refine zJ rfl rfl ?_|refine jr rfl ?_|refine jn ?_|refine zM rfl rfl ?_|(refine zC rfl rfl ?_ rfl ?_;omega)|(refine zD rfl rfl ?_ rfl ?_;omega)|(refine zP rfl ?_ rfl ?_;omega)|refine zG rfl rfl rfl rfl ?_|(refine jdq rfl rfl ?_ ?_ ?_;kernel_rfl;kernel_rfl)|refine zB rfl rfl rfl (by repeat constructor) rfl ?_)
  by_cases hon : 20 < one.length
  · rw [decide_eq_true (show (20 : Int) < (one.length : Int) by omega)]
    repeat (first|refine zJ rfl rfl ?_|refine jr rfl ?_|refine jn ?_|refine zM rfl rfl ?_|(refine zC rfl rfl ?_ rfl ?_;omega)|(refine zD rfl rfl ?_ rfl ?_;omega)|(refine zP rfl ?_ rfl ?_;omega)|refine zG rfl rfl rfl rfl ?_|(refine jdq rfl rfl ?_ ?_ ?_;kernel_rfl;kernel_rfl)|refine zB rfl rfl rfl (by repeat constructor) rfl ?_)
    exact J_retv rfl (.tmp rfl .nil) [] (fun w s => s) hF1 ⟨rfl, rfl⟩
  rw [decide_eq_false (show ¬ (20 : Int) < (one.length : Int) by omega)]
  repeat (first|refine zJ rfl rfl ?_|refine jr rfl ?_|refine jn ?_|refine zM rfl rfl ?_|(refine zC rfl rfl ?_ rfl ?_;omega)|(refine zD rfl rfl ?_ rfl ?_;omega)|(refine zP rfl ?_ rfl ?_;omega)|refine zG rfl rfl rfl rfl ?_|(refine jdq rfl rfl ?_ ?_ ?_;kernel_rfl;kernel_rfl)|refine zB rfl rfl rfl (by repeat constructor) rfl ?_)
  by_cases htw : 20 < two.length
  · rw [decide_eq_true (show (20 : Int) < (two.length : Int) by omega)]
    repeat (first|refine zJ rfl rfl ?_|refine jr rfl ?_|refine jn ?_|refine zM rfl rfl ?_|(refine zC rfl rfl ?_ rfl ?_;omega)|(refine zD rfl rfl ?_ rfl ?_;omega)|(refine zP rfl ?_ rfl ?_;omega)|refine zG rfl rfl rfl rfl ?_|(refine jdq rfl rfl ?_ ?_ ?_;kernel_rfl;kernel_rfl)|refine zB rfl rfl rfl (by repeat constructor) rfl ?_)
    exact J_retv rfl (.tmp rfl .nil) [] (fun w s => s) hF1 ⟨rfl, rfl⟩
  rw [decide_eq_false (show ¬ (20 : Int) < (two.length : Int) by omega)]
  repeat (first|refine zJ rfl rfl ?_|refine jr rfl ?_|refine jn ?_|refine zM rfl rfl ?_|(refine zC rfl rfl ?_ rfl ?_;omega)|(refine zD rfl rfl ?_ rfl ?_;omega)|(refine zP rfl ?_ rfl ?_;omega)|refine zG rfl rfl rfl rfl ?_|(refine jdq rfl rfl ?_ ?_ ?_;kernel_rfl;kernel_rfl)|refine zB rfl rfl rfl (by repeat constructor) rfl ?_)
  refine oKeep [(0, .int .u8 f), (1, .slice a1 says.length c1), (2, .slice a2 one.length c2), (3, .slice a3 two.length c3), (4, .slice a4 ls.length c4), (10, .bool false), (11, .int .i64 k), (12, .int .i64 n), (49, .int .i64 n)] ?_ ⟨rfl, rfl, rfl, rfl, rfl, rfl, by rw [← hk]; rfl, by rw [← hni]; rfl, by rw [← hni]; rfl, trivial⟩
  refine oC (Hc := []) (Hr := X) (snew_spec n (by omega) (by omega) F1) Try.call10 rfl rfl (fun w s => s) ?_
  rintro _ F2 _ hF2 ⟨A, rfl, rfl⟩
  repeat (first|refine zJ rfl rfl ?_|refine jr rfl ?_|refine jn ?_|refine zM rfl rfl ?_|(refine zC rfl rfl ?_ rfl ?_;omega)|(refine zD rfl rfl ?_ rfl ?_;omega)|(refine zP rfl ?_ rfl ?_;omega)|refine zG rfl rfl rfl rfl ?_|(refine jdq rfl rfl ?_ ?_ ?_;kernel_rfl;kernel_rfl)|refine zB rfl rfl rfl (by repeat constructor) rfl ?_)
  refine oC (Hc := []) (Hr := SL A n (.pointer none) [] [] ++ X) (snew_spec n (by omega) (by omega) F2) Try.call10 rfl rfl (fun w s => s) ?_
  rintro _ F3 _ hF3 ⟨B, rfl, rfl⟩
  repeat (first|refine zJ rfl rfl ?_|refine jr rfl ?_|refine jn ?_|refine zM rfl rfl ?_|(refine zC rfl rfl ?_ rfl ?_;omega)|(refine zD rfl rfl ?_ rfl ?_;omega)|(refine zP rfl ?_ rfl ?_;omega)|refine zG rfl rfl rfl rfl ?_|(refine jdq rfl rfl ?_ ?_ ?_;kernel_rfl;kernel_rfl)|refine zB rfl rfl rfl (by repeat constructor) rfl ?_)
  refine oS (ev_build_arr (t := u8s (dgB 1).1) (zs := u8s zDg.1) rfl rfl rfl (.cons (vs := [.int .u8 1]) .int rfl (.put .nil) .nil)) rfl ?_
  refine oC (Hc := SL A n (.pointer none) [] []) (Hr := SL B n (.pointer none) [] [] ++ X) (propose_spec A n (.pointer none) none [] [] (dgB 1) (.slice none 0 0) 0 [] F3 rfl (SliceV.nil _ _) ones_nil (by simp)) Try.call11 rfl rfl (fun w t => t.front (A := SL B n (.pointer none) [] []) (B := SL A n (.pointer none) [] []) (C := X)) ?_
  rintro _ F4 _ hF4 ⟨pa, ua, hpa, rfl, rfl⟩
  repeat (first|refine zJ rfl rfl ?_|refine jr rfl ?_|refine jn ?_|refine zM rfl rfl ?_|(refine zC rfl rfl ?_ rfl ?_;omega)|(refine zD rfl rfl ?_ rfl ?_;omega)|(refine zP rfl ?_ rfl ?_;omega)|refine zG rfl rfl rfl rfl ?_|(refine jdq rfl rfl ?_ ?_ ?_;kernel_rfl;kernel_rfl)|refine zB rfl rfl rfl (by repeat constructor) rfl ?_)
  refine oS (ev_build_arr (t := u8s (dgB 2).1) (zs := u8s zDg.1) rfl rfl rfl (.cons (vs := [.int .u8 2]) .int rfl (.put .nil) .nil)) rfl ?_
  refine oC (Hc := SL B n (.pointer none) [] []) (Hr := SL A n pa [] [] ++ X) (propose_spec B n (.pointer none) none [] [] (dgB 2) (.slice none 0 0) 0 [] F4 rfl (SliceV.nil _ _) ones_nil (by simp)) Try.call11 rfl rfl (fun w t => t.front (A := SL A n pa [] []) (B := SL B n (.pointer none) [] []) (C := X)) ?_
  rintro _ F5 _ hF5 ⟨pb, ub, hpb, rfl, rfl⟩
  have hpa5 := hpa.mono hF5
  have hle5 := hF1.trans (hF2.trans (hF3.trans (hF4.trans hF5)))
  clear hpa hF1 hF2 hF3 hF4 hF5
  repeat (first|refine zJ rfl rfl ?_|refine jr rfl ?_|refine jn ?_|refine zM rfl rfl ?_|(refine zC rfl rfl ?_ rfl ?_;omega)|(refine zD rfl rfl ?_ rfl ?_;omega)|(refine zP rfl ?_ rfl ?_;omega)|refine zG rfl rfl rfl rfl ?_|(refine jdq rfl rfl ?_ ?_ ?_;kernel_rfl;kernel_rfl)|refine zB rfl rfl rfl (by repeat constructor) rfl ?_)
  -- loop
  refine J_loop2 (fun (i : Nat) (G : PH) => i ≤ n ∧ F5.le G) (fun i _ => n - i) (fun i _ => [(1, .slice a1 says.length c1), (2, .slice a2 one.length c2), (3, .slice a3 two.length c3), (4, .slice a4 ls.length c4), (10, .bool false), (12, .int .i64 n), (13, pT A.s), (14, pT B.s), (59, .int .i64 n), (60, .int .i64 i)]) (fun _ G => G) (fun i _ => SL A n pa [] (vo (saysA n says one ls) i) ++ (SL B n pb [] (vo (saysA n says two ls) i) ++ X)) 0 F5 ⟨Nat.zero_le _, PH.ler _⟩ ⟨⟨rfl, rfl, rfl, rfl, rfl, rfl, rfl, rfl, rfl, rfl, trivial⟩, fun w t => t.front (A := SL B n pb [] []) (B := SL A n pa [] []) (C := X)⟩ ?_
  rintro i G ⟨hi, hG⟩
  by_cases hlt : i < n
  · repeat (first|refine zJ rfl rfl ?_|refine jr rfl ?_|refine jn ?_|refine zM rfl rfl ?_|(refine zC rfl rfl ?_ rfl ?_;omega)|(refine zD rfl rfl ?_ rfl ?_;omega)|(refine zP rfl ?_ rfl ?_;omega)|refine zG rfl rfl rfl rfl ?_|(refine jdq rfl rfl ?_ ?_ ?_;kernel_rfl;kernel_rfl)|refine zB rfl rfl rfl (by repeat constructor) rfl ?_)
    refine J_loop (ι := Nat) (fun j => j ≤ ls.length) (fun j => ls.length - j) (fun j => [(1, .slice a1 says.length c1), (2, .slice a2 one.length c2), (3, .slice a3 two.length c3), (4, .slice a4 ls.length c4), (10, .bool false), (12, .int .i64 n), (13, pT A.s), (14, pT B.s), (15, .int .i64 i), (16, .bool (lieB n (ls.take j) i)), (59, .int .i64 n), (60, .int .i64 i), (63, .slice a4 ls.length c4), (64, .int .i64 ls.length), (65, .int .i64 j)]) (fun _ => G) (fun _ => SL A n pa [] (vo (saysA n says one ls) i) ++ (SL B n pb [] (vo (saysA n says two ls) i) ++ X)) 0 (Nat.zero_le _) ⟨⟨rfl, rfl, rfl, rfl, rfl, rfl, rfl, rfl, rfl, rfl, rfl, rfl, rfl, rfl, rfl, trivial⟩, fun w s => s⟩ ?_
    intro j hj
    by_cases hjl : j < ls.length
    · have hg : ls[j]? = some ls[j] := List.getElem?_eq_getElem hjl
      have htk := take_snc hg
      obtain ⟨b, off, hab, hcc, _⟩ := byt_at (h4.mono (hle5.trans hG)) hg
      subst hab
      have hul := ls[j].toNat_lt
      generalize ls[j] = l at *
      have hnx : lieB n (ls.take (j + 1)) i = (lieB n (ls.take j) i || l.toNat % n == i) := by
        rw [htk]
        unfold lieB
        rw [List.any_append]
        simp
      cases hb : lieB n (ls.take j) i with
      | true =>
        rw [hb, Bool.true_or] at hnx
        repeat (first|refine zJ rfl rfl ?_|refine jr rfl ?_|refine jn ?_|refine zM rfl rfl ?_|(refine zC rfl rfl ?_ rfl ?_;omega)|(refine zD rfl rfl ?_ rfl ?_;omega)|(refine zP rfl ?_ rfl ?_;omega)|refine zG rfl rfl rfl rfl ?_|(refine jdq rfl rfl ?_ ?_ ?_;kernel_rfl;kernel_rfl)|refine zB rfl rfl rfl (by repeat constructor) rfl ?_)
        refine oS (ev_indexAddr rfl rfl rfl hjl) rfl ?_
        refine oS (ev_load rfl rfl (Rdb.ofF hcc)) rfl ?_
        repeat (first|refine zJ rfl rfl ?_|refine jr rfl ?_|refine jn ?_|refine zM rfl rfl ?_|(refine zC rfl rfl ?_ rfl ?_;omega)|(refine zD rfl rfl ?_ rfl ?_;omega)|(refine zP rfl ?_ rfl ?_;omega)|refine zG rfl rfl rfl rfl ?_|(refine jdq rfl rfl ?_ ?_ ?_;kernel_rfl;kernel_rfl)|refine zB rfl rfl rfl (by repeat constructor) rfl ?_)
        refine J_again (j + 1) hjl (by omega) ⟨⟨rfl, rfl, rfl, rfl, rfl, rfl, rfl, rfl, rfl, by rw [hnx]; rfl, rfl, rfl, rfl, rfl, rfl, trivial⟩, fun w s => s⟩
      | false =>
        rw [hb, Bool.false_or] at hnx
        have hmod : (l.toNat : Int) % (n : Int) = ((l.toNat % n : Nat) : Int) := by push_cast; rfl
        repeat (first|refine zJ rfl rfl ?_|refine jr rfl ?_|refine jn ?_|refine zM rfl rfl ?_|(refine zC rfl rfl ?_ rfl ?_;omega)|(refine zD rfl rfl ?_ rfl ?_;omega)|(refine zP rfl ?_ rfl ?_;omega)|refine zG rfl rfl rfl rfl ?_|(refine jdq rfl rfl ?_ ?_ ?_;kernel_rfl;kernel_rfl)|refine zB rfl rfl rfl (by repeat constructor) rfl ?_)
        refine oS (ev_indexAddr rfl rfl rfl hjl) rfl ?_
        refine oS (ev_load rfl rfl (Rdb.ofF hcc)) rfl ?_
        by_cases he : l.toNat % n = i
        · rw [show (l.toNat % n == i) = true from by simpa using he] at hnx
          repeat (first|refine zJ rfl rfl ?_|refine jr rfl ?_|refine jn ?_|refine zM rfl rfl ?_|(refine zC rfl rfl ?_ rfl ?_;omega)|(refine zD rfl rfl ?_ rfl ?_;omega)|(refine zP rfl ?_ rfl ?_;omega)|refine zG rfl rfl rfl rfl ?_|(refine jdq rfl rfl ?_ ?_ ?_;kernel_rfl;kernel_rfl)|refine zB rfl rfl rfl (by repeat constructor) rfl ?_)
          refine J_again (j + 1) hjl (by omega) ⟨⟨rfl, rfl, rfl, rfl, rfl, rfl, rfl, rfl, rfl, by rw [hnx]; rfl, rfl, rfl, rfl, rfl, rfl, trivial⟩, fun w s => s⟩
        · rw [show (l.toNat % n == i) = false from by simpa using he] at hnx
          repeat (first|refine zJ rfl rfl ?_|refine jr rfl ?_|refine jn ?_|refine zM rfl rfl ?_|(refine zC rfl rfl ?_ rfl ?_;omega)|(refine zD rfl rfl ?_ rfl ?_;omega)|(refine zP rfl ?_ rfl ?_;omega)|refine zG rfl rfl rfl rfl ?_|(refine jdq rfl rfl ?_ ?_ ?_;kernel_rfl;kernel_rfl)|refine zB rfl rfl rfl (by repeat constructor) rfl ?_)
          refine J_again (j + 1) hjl (by omega) ⟨⟨rfl, rfl, rfl, rfl, rfl, rfl, rfl, rfl, rfl, by rw [hnx]; rfl, rfl, rfl, rfl, rfl, rfl, trivial⟩, fun w s => s⟩
    obtain rfl : j = ls.length := by omega
    rw [List.take_length]
    cases hl : lieB n ls i with
    | true =>
      have eA : saysA n says one ls i = one := if_pos hl
      have eB : saysA n says two ls i = two := if_pos hl
      repeat (first|refine zJ rfl rfl ?_|refine jr rfl ?_|refine jn ?_|refine zM rfl rfl ?_|(refine zC rfl rfl ?_ rfl ?_;omega)|(refine zD rfl rfl ?_ rfl ?_;omega)|(refine zP rfl ?_ rfl ?_;omega)|refine zG rfl rfl rfl rfl ?_|(refine jdq rfl rfl ?_ ?_ ?_;kernel_rfl;kernel_rfl)|refine zB rfl rfl rfl (by repeat constructor) rfl ?_)
      cases hcx : one[i]? with
      | none =>
        have hxl := List.getElem?_eq_none_iff.1 hcx
        have hA1 := vo_skip (L := saysA n says one ls) (i := i) (by rw [eA]; exact hcx)
        rw [hA1]
        rw [decide_eq_false (show ¬ (i : Int) < (one.length : Int) by omega)]
        repeat (first|refine zJ rfl rfl ?_|refine jr rfl ?_|refine jn ?_|refine zM rfl rfl ?_|(refine zC rfl rfl ?_ rfl ?_;omega)|(refine zD rfl rfl ?_ rfl ?_;omega)|(refine zP rfl ?_ rfl ?_;omega)|refine zG rfl rfl rfl rfl ?_|(refine jdq rfl rfl ?_ ?_ ?_;kernel_rfl;kernel_rfl)|refine zB rfl rfl rfl (by repeat constructor) rfl ?_)
        cases hcy : two[i]? with
        | none =>
          have hyl := List.getElem?_eq_none_iff.1 hcy
          have hB1 := vo_skip (L := saysA n says two ls) (i := i) (by rw [eB]; exact hcy)
          rw [hB1]
          try rw [decide_eq_false (show ¬ (i : Int) < (two.length : Int) by omega)]
          repeat (first|refine zJ rfl rfl ?_|refine jr rfl ?_|refine jn ?_|refine zM rfl rfl ?_|(refine zC rfl rfl ?_ rfl ?_;omega)|(refine zD rfl rfl ?_ rfl ?_;omega)|(refine zP rfl ?_ rfl ?_;omega)|refine zG rfl rfl rfl rfl ?_|(refine jdq rfl rfl ?_ ?_ ?_;kernel_rfl;kernel_rfl)|refine zB rfl rfl rfl (by repeat constructor) rfl ?_)
          refine J_again2 (i + 1) G ⟨hlt, hG⟩ (by omega) ⟨⟨rfl, rfl, rfl, rfl, rfl, rfl, rfl, rfl, rfl, rfl, trivial⟩, fun w t => t⟩
        | some y =>
          obtain ⟨bB, oB, habB, hccB, hltB⟩ := byt_at (h3.mono (hle5.trans (hG))) hcy
          cases habB
          have huB := y.toNat_lt
          try rw [decide_eq_true (show (i : Int) < (two.length : Int) by omega)]
          repeat (first|refine zJ rfl rfl ?_|refine jr rfl ?_|refine jn ?_|refine zM rfl rfl ?_|(refine zC rfl rfl ?_ rfl ?_;omega)|(refine zD rfl rfl ?_ rfl ?_;omega)|(refine zP rfl ?_ rfl ?_;omega)|refine zG rfl rfl rfl rfl ?_|(refine jdq rfl rfl ?_ ?_ ?_;kernel_rfl;kernel_rfl)|refine zB rfl rfl rfl (by repeat constructor) rfl ?_)
          refine oS (ev_indexAddr (i := i) rfl rfl rfl hltB) rfl ?_
          refine oS (ev_load rfl rfl (Rdb.ofF hccB)) rfl ?_
          repeat (first|refine zJ rfl rfl ?_|refine jr rfl ?_|refine jn ?_|refine zM rfl rfl ?_|(refine zC rfl rfl ?_ rfl ?_;omega)|(refine zD rfl rfl ?_ rfl ?_;omega)|(refine zP rfl ?_ rfl ?_;omega)|refine zG rfl rfl rfl rfl ?_|(refine jdq rfl rfl ?_ ?_ ?_;kernel_rfl;kernel_rfl)|refine zB rfl rfl rfl (by repeat constructor) rfl ?_)
          refine oS (ev_build_arr (vs := [(0, .int .u8 ((y % 2 + 1 : UInt8).toNat : Int))]) (t := u8s (dgOf y).1) (zs := u8s zDg.1) (by rw [dgOf_val]; rfl) rfl rfl (.cons (vs := [.int .u8 ((y % 2 + 1 : UInt8).toNat : Int)]) .int rfl (.put .nil) .nil)) rfl ?_
          refine oC (Hc := SL B n pb [] (vo (saysA n says two ls) i)) (Hr := SL A n pa [] (vo (saysA n says one ls) (i + 1)) ++ X) (commit_spec B n pb [] (vo (saysA n says two ls) i) i (dgOf y) G (by have := vo_len (saysA n says two ls) i; omega)) Try.call12 rfl rfl (fun w t => t.front (A := SL A n pa [] (vo (saysA n says one ls) (i + 1))) (B := SL B n pb [] (vo (saysA n says two ls) i)) (C := X)) ?_
          rintro _ G2 _ hG2 ⟨rfl, rfl⟩
          rw [vo_some (L := saysA n says two ls) (by rw [eB]; exact hcy) hlt]
          repeat (first|refine zJ rfl rfl ?_|refine jr rfl ?_|refine jn ?_|refine zM rfl rfl ?_|(refine zC rfl rfl ?_ rfl ?_;omega)|(refine zD rfl rfl ?_ rfl ?_;omega)|(refine zP rfl ?_ rfl ?_;omega)|refine zG rfl rfl rfl rfl ?_|(refine jdq rfl rfl ?_ ?_ ?_;kernel_rfl;kernel_rfl)|refine zB rfl rfl rfl (by repeat constructor) rfl ?_)
          refine J_again2 (i + 1) G2 ⟨hlt, (hG).trans hG2⟩ (by omega) ⟨⟨rfl, rfl, rfl, rfl, rfl, rfl, rfl, rfl, rfl, rfl, trivial⟩, fun w t => t.front (A := SL B n pb [] (vo (saysA n says two ls) (i + 1))) (B := SL A n pa [] (vo (saysA n says one ls) (i + 1))) (C := X)⟩
      | some x =>
        obtain ⟨bA, oA, habA, hccA, hltA⟩ := byt_at (h2.mono (hle5.trans hG)) hcx
        cases habA
        have huA := x.toNat_lt
        try rw [decide_eq_true (show (i : Int) < (one.length : Int) by omega)]
        repeat (first|refine zJ rfl rfl ?_|refine jr rfl ?_|refine jn ?_|refine zM rfl rfl ?_|(refine zC rfl rfl ?_ rfl ?_;omega)|(refine zD rfl rfl ?_ rfl ?_;omega)|(refine zP rfl ?_ rfl ?_;omega)|refine zG rfl rfl rfl rfl ?_|(refine jdq rfl rfl ?_ ?_ ?_;kernel_rfl;kernel_rfl)|refine zB rfl rfl rfl (by repeat constructor) rfl ?_)
        refine oS (ev_indexAddr (i := i) rfl rfl rfl hltA) rfl ?_
        refine oS (ev_load rfl rfl (Rdb.ofF hccA)) rfl ?_
        repeat (first|refine zJ rfl rfl ?_|refine jr rfl ?_|refine jn ?_|refine zM rfl rfl ?_|(refine zC rfl rfl ?_ rfl ?_;omega)|(refine zD rfl rfl ?_ rfl ?_;omega)|(refine zP rfl ?_ rfl ?_;omega)|refine zG rfl rfl rfl rfl ?_|(refine jdq rfl rfl ?_ ?_ ?_;kernel_rfl;kernel_rfl)|refine zB rfl rfl rfl (by repeat constructor) rfl ?_)
        refine oS (ev_build_arr (vs := [(0, .int .u8 ((x % 2 + 1 : UInt8).toNat : Int))]) (t := u8s (dgOf x).1) (zs := u8s zDg.1) (by rw [dgOf_val]; rfl) rfl rfl (.cons (vs := [.int .u8 ((x % 2 + 1 : UInt8).toNat : Int)]) .int rfl (.put .nil) .nil)) rfl ?_
        refine oC (Hc := SL A n pa [] (vo (saysA n says one ls) i)) (Hr := SL B n pb [] (vo (saysA n says two ls) i) ++ X) (commit_spec A n pa [] (vo (saysA n says one ls) i) i (dgOf x) G (by have := vo_len (saysA n says one ls) i; omega)) Try.call12 rfl rfl (fun w t => t) ?_
        rintro _ G1 _ hG1 ⟨rfl, rfl⟩
        rw [vo_some (L := saysA n says one ls) (by rw [eA]; exact hcx) hlt]
        repeat (first|refine zJ rfl rfl ?_|refine jr rfl ?_|refine jn ?_|refine zM rfl rfl ?_|(refine zC rfl rfl ?_ rfl ?_;omega)|(refine zD rfl rfl ?_ rfl ?_;omega)|(refine zP rfl ?_ rfl ?_;omega)|refine zG rfl rfl rfl rfl ?_|(refine jdq rfl rfl ?_ ?_ ?_;kernel_rfl;kernel_rfl)|refine zB rfl rfl rfl (by repeat constructor) rfl ?_)
        cases hcy : two[i]? with
        | none =>
          have hyl := List.getElem?_eq_none_iff.1 hcy
          have hB1 := vo_skip (L := saysA n says two ls) (i := i) (by rw [eB]; exact hcy)
          rw [hB1]
          try rw [decide_eq_false (show ¬ (i : Int) < (two.length : Int) by omega)]
          repeat (first|refine zJ rfl rfl ?_|refine jr rfl ?_|refine jn ?_|refine zM rfl rfl ?_|(refine zC rfl rfl ?_ rfl ?_;omega)|(refine zD rfl rfl ?_ rfl ?_;omega)|(refine zP rfl ?_ rfl ?_;omega)|refine zG rfl rfl rfl rfl ?_|(refine jdq rfl rfl ?_ ?_ ?_;kernel_rfl;kernel_rfl)|refine zB rfl rfl rfl (by repeat constructor) rfl ?_)
          refine J_again2 (i + 1) G1 ⟨hlt, hG.trans hG1⟩ (by omega) ⟨⟨rfl, rfl, rfl, rfl, rfl, rfl, rfl, rfl, rfl, rfl, trivial⟩, fun w t => t⟩
        | some y =>
          obtain ⟨bB, oB, habB, hccB, hltB⟩ := byt_at (h3.mono (hle5.trans (hG.trans hG1))) hcy
          cases habB
          have huB := y.toNat_lt
          try rw [decide_eq_true (show (i : Int) < (two.length : Int) by omega)]
          repeat (first|refine zJ rfl rfl ?_|refine jr rfl ?_|refine jn ?_|refine zM rfl rfl ?_|(refine zC rfl rfl ?_ rfl ?_;omega)|(refine zD rfl rfl ?_ rfl ?_;omega)|(refine zP rfl ?_ rfl ?_;omega)|refine zG rfl rfl rfl rfl ?_|(refine jdq rfl rfl ?_ ?_ ?_;kernel_rfl;kernel_rfl)|refine zB rfl rfl rfl (by repeat constructor) rfl ?_)
          refine oS (ev_indexAddr (i := i) rfl rfl rfl hltB) rfl ?_
          refine oS (ev_load rfl rfl (Rdb.ofF hccB)) rfl ?_
          repeat (first|refine zJ rfl rfl ?_|refine jr rfl ?_|refine jn ?_|refine zM rfl rfl ?_|(refine zC rfl rfl ?_ rfl ?_;omega)|(refine zD rfl rfl ?_ rfl ?_;omega)|(refine zP rfl ?_ rfl ?_;omega)|refine zG rfl rfl rfl rfl ?_|(refine jdq rfl rfl ?_ ?_ ?_;kernel_rfl;kernel_rfl)|refine zB rfl rfl rfl (by repeat constructor) rfl ?_)
          refine oS (ev_build_arr (vs := [(0, .int .u8 ((y % 2 + 1 : UInt8).toNat : Int))]) (t := u8s (dgOf y).1) (zs := u8s zDg.1) (by rw [dgOf_val]; rfl) rfl rfl (.cons (vs := [.int .u8 ((y % 2 + 1 : UInt8).toNat : Int)]) .int rfl (.put .nil) .nil)) rfl ?_
          refine oC (Hc := SL B n pb [] (vo (saysA n says two ls) i)) (Hr := SL A n pa [] (vo (saysA n says one ls) (i + 1)) ++ X) (commit_spec B n pb [] (vo (saysA n says two ls) i) i (dgOf y) G1 (by have := vo_len (saysA n says two ls) i; omega)) Try.call12 rfl rfl (fun w t => t.front (A := SL A n pa [] (vo (saysA n says one ls) (i + 1))) (B := SL B n pb [] (vo (saysA n says two ls) i)) (C := X)) ?_
          rintro _ G2 _ hG2 ⟨rfl, rfl⟩
          rw [vo_some (L := saysA n says two ls) (by rw [eB]; exact hcy) hlt]
          repeat (first|refine zJ rfl rfl ?_|refine jr rfl ?_|refine jn ?_|refine zM rfl rfl ?_|(refine zC rfl rfl ?_ rfl ?_;omega)|(refine zD rfl rfl ?_ rfl ?_;omega)|(refine zP rfl ?_ rfl ?_;omega)|refine zG rfl rfl rfl rfl ?_|(refine jdq rfl rfl ?_ ?_ ?_;kernel_rfl;kernel_rfl)|refine zB rfl rfl rfl (by repeat constructor) rfl ?_)
          refine J_again2 (i + 1) G2 ⟨hlt, (hG.trans hG1).trans hG2⟩ (by omega) ⟨⟨rfl, rfl, rfl, rfl, rfl, rfl, rfl, rfl, rfl, rfl, trivial⟩, fun w t => t.front (A := SL B n pb [] (vo (saysA n says two ls) (i + 1))) (B := SL A n pa [] (vo (saysA n says one ls) (i + 1))) (C := X)⟩
    | false =>
      have eA : saysA n says one ls i = says := if_neg (by rw [hl]; simp)
      have eB : saysA n says two ls i = says := if_neg (by rw [hl]; simp)
      repeat (first|refine zJ rfl rfl ?_|refine jr rfl ?_|refine jn ?_|refine zM rfl rfl ?_|(refine zC rfl rfl ?_ rfl ?_;omega)|(refine zD rfl rfl ?_ rfl ?_;omega)|(refine zP rfl ?_ rfl ?_;omega)|refine zG rfl rfl rfl rfl ?_|(refine jdq rfl rfl ?_ ?_ ?_;kernel_rfl;kernel_rfl)|refine zB rfl rfl rfl (by repeat constructor) rfl ?_)
      cases hcx : says[i]? with
      | none =>
        have hxl := List.getElem?_eq_none_iff.1 hcx
        have hA1 := vo_skip (L := saysA n says one ls) (i := i) (by rw [eA]; exact hcx)
        rw [hA1]
        rw [decide_eq_false (show ¬ (i : Int) < (says.length : Int) by omega)]
        repeat (first|refine zJ rfl rfl ?_|refine jr rfl ?_|refine jn ?_|refine zM rfl rfl ?_|(refine zC rfl rfl ?_ rfl ?_;omega)|(refine zD rfl rfl ?_ rfl ?_;omega)|(refine zP rfl ?_ rfl ?_;omega)|refine zG rfl rfl rfl rfl ?_|(refine jdq rfl rfl ?_ ?_ ?_;kernel_rfl;kernel_rfl)|refine zB rfl rfl rfl (by repeat constructor) rfl ?_)
        cases hcy : says[i]? with
        | none =>
          have hyl := List.getElem?_eq_none_iff.1 hcy
          have hB1 := vo_skip (L := saysA n says two ls) (i := i) (by rw [eB]; exact hcy)
          rw [hB1]
          try rw [decide_eq_false (show ¬ (i : Int) < (says.length : Int) by omega)]
          repeat (first|refine zJ rfl rfl ?_|refine jr rfl ?_|refine jn ?_|refine zM rfl rfl ?_|(refine zC rfl rfl ?_ rfl ?_;omega)|(refine zD rfl rfl ?_ rfl ?_;omega)|(refine zP rfl ?_ rfl ?_;omega)|refine zG rfl rfl rfl rfl ?_|(refine jdq rfl rfl ?_ ?_ ?_;kernel_rfl;kernel_rfl)|refine zB rfl rfl rfl (by repeat constructor) rfl ?_)
          refine J_again2 (i + 1) G ⟨hlt, hG⟩ (by omega) ⟨⟨rfl, rfl, rfl, rfl, rfl, rfl, rfl, rfl, rfl, rfl, trivial⟩, fun w t => t⟩
        | some y =>
          exact absurd (hcx.symm.trans hcy) (by simp)
      | some x =>
        obtain ⟨bA, oA, habA, hccA, hltA⟩ := byt_at (h1.mono (hle5.trans hG)) hcx
        cases habA
        have huA := x.toNat_lt
        try rw [decide_eq_true (show (i : Int) < (says.length : Int) by omega)]
        repeat (first|refine zJ rfl rfl ?_|refine jr rfl ?_|refine jn ?_|refine zM rfl rfl ?_|(refine zC rfl rfl ?_ rfl ?_;omega)|(refine zD rfl rfl ?_ rfl ?_;omega)|(refine zP rfl ?_ rfl ?_;omega)|refine zG rfl rfl rfl rfl ?_|(refine jdq rfl rfl ?_ ?_ ?_;kernel_rfl;kernel_rfl)|refine zB rfl rfl rfl (by repeat constructor) rfl ?_)
        refine oS (ev_indexAddr (i := i) rfl rfl rfl hltA) rfl ?_
        refine oS (ev_load rfl rfl (Rdb.ofF hccA)) rfl ?_
        repeat (first|refine zJ rfl rfl ?_|refine jr rfl ?_|refine jn ?_|refine zM rfl rfl ?_|(refine zC rfl rfl ?_ rfl ?_;omega)|(refine zD rfl rfl ?_ rfl ?_;omega)|(refine zP rfl ?_ rfl ?_;omega)|refine zG rfl rfl rfl rfl ?_|(refine jdq rfl rfl ?_ ?_ ?_;kernel_rfl;kernel_rfl)|refine zB rfl rfl rfl (by repeat constructor) rfl ?_)
        refine oS (ev_build_arr (vs := [(0, .int .u8 ((x % 2 + 1 : UInt8).toNat : Int))]) (t := u8s (dgOf x).1) (zs := u8s zDg.1) (by rw [dgOf_val]; rfl) rfl rfl (.cons (vs := [.int .u8 ((x % 2 + 1 : UInt8).toNat : Int)]) .int rfl (.put .nil) .nil)) rfl ?_
        refine oC (Hc := SL A n pa [] (vo (saysA n says one ls) i)) (Hr := SL B n pb [] (vo (saysA n says two ls) i) ++ X) (commit_spec A n pa [] (vo (saysA n says one ls) i) i (dgOf x) G (by have := vo_len (saysA n says one ls) i; omega)) Try.call12 rfl rfl (fun w t => t) ?_
        rintro _ G1 _ hG1 ⟨rfl, rfl⟩
        rw [vo_some (L := saysA n says one ls) (by rw [eA]; exact hcx) hlt]
        repeat (first|refine zJ rfl rfl ?_|refine jr rfl ?_|refine jn ?_|refine zM rfl rfl ?_|(refine zC rfl rfl ?_ rfl ?_;omega)|(refine zD rfl rfl ?_ rfl ?_;omega)|(refine zP rfl ?_ rfl ?_;omega)|refine zG rfl rfl rfl rfl ?_|(refine jdq rfl rfl ?_ ?_ ?_;kernel_rfl;kernel_rfl)|refine zB rfl rfl rfl (by repeat constructor) rfl ?_)
        cases hcy : says[i]? with
        | none =>
          exact absurd (hcx.symm.trans hcy) (by simp)
        | some y =>
          obtain ⟨bB, oB, habB, hccB, hltB⟩ := byt_at (h1.mono (hle5.trans (hG.trans hG1))) hcy
          cases habB
          have huB := y.toNat_lt
          try rw [decide_eq_true (show (i : Int) < (says.length : Int) by omega)]
          repeat (first|refine zJ rfl rfl ?_|refine jr rfl ?_|refine jn ?_|refine zM rfl rfl ?_|(refine zC rfl rfl ?_ rfl ?_;omega)|(refine zD rfl rfl ?_ rfl ?_;omega)|(refine zP rfl ?_ rfl ?_;omega)|refine zG rfl rfl rfl rfl ?_|(refine jdq rfl rfl ?_ ?_ ?_;kernel_rfl;kernel_rfl)|refine zB rfl rfl rfl (by repeat constructor) rfl ?_)
          refine oS (ev_indexAddr (i := i) rfl rfl rfl hltB) rfl ?_
          refine oS (ev_load rfl rfl (Rdb.ofF hccB)) rfl ?_
          repeat (first|refine zJ rfl rfl ?_|refine jr rfl ?_|refine jn ?_|refine zM rfl rfl ?_|(refine zC rfl rfl ?_ rfl ?_;omega)|(refine zD rfl rfl ?_ rfl ?_;omega)|(refine zP rfl ?_ rfl ?_;omega)|refine zG rfl rfl rfl rfl ?_|(refine jdq rfl rfl ?_ ?_ ?_;kernel_rfl;kernel_rfl)|refine zB rfl rfl rfl (by repeat constructor) rfl ?_)
          refine oS (ev_build_arr (vs := [(0, .int .u8 ((y % 2 + 1 : UInt8).toNat : Int))]) (t := u8s (dgOf y).1) (zs := u8s zDg.1) (by rw [dgOf_val]; rfl) rfl rfl (.cons (vs := [.int .u8 ((y % 2 + 1 : UInt8).toNat : Int)]) .int rfl (.put .nil) .nil)) rfl ?_
          refine oC (Hc := SL B n pb [] (vo (saysA n says two ls) i)) (Hr := SL A n pa [] (vo (saysA n says one ls) (i + 1)) ++ X) (commit_spec B n pb [] (vo (saysA n says two ls) i) i (dgOf y) G1 (by have := vo_len (saysA n says two ls) i; omega)) Try.call12 rfl rfl (fun w t => t.front (A := SL A n pa [] (vo (saysA n says one ls) (i + 1))) (B := SL B n pb [] (vo (saysA n says two ls) i)) (C := X)) ?_
          rintro _ G2 _ hG2 ⟨rfl, rfl⟩
          rw [vo_some (L := saysA n says two ls) (by rw [eB]; exact hcy) hlt]
          repeat (first|refine zJ rfl rfl ?_|refine jr rfl ?_|refine jn ?_|refine zM rfl rfl ?_|(refine zC rfl rfl ?_ rfl ?_;omega)|(refine zD rfl rfl ?_ rfl ?_;omega)|(refine zP rfl ?_ rfl ?_;omega)|refine zG rfl rfl rfl rfl ?_|(refine jdq rfl rfl ?_ ?_ ?_;kernel_rfl;kernel_rfl)|refine zB rfl rfl rfl (by repeat constructor) rfl ?_)
          refine J_again2 (i + 1) G2 ⟨hlt, (hG.trans hG1).trans hG2⟩ (by omega) ⟨⟨rfl, rfl, rfl, rfl, rfl, rfl, rfl, rfl, rfl, rfl, trivial⟩, fun w t => t.front (A := SL B n pb [] (vo (saysA n says two ls) (i + 1))) (B := SL A n pa [] (vo (saysA n says one ls) (i + 1))) (C := X)⟩
  obtain rfl : i = n := by omega
  repeat (first|refine zJ rfl rfl ?_|refine jr rfl ?_|refine jn ?_|refine zM rfl rfl ?_|(refine zC rfl rfl ?_ rfl ?_;omega)|(refine zD rfl rfl ?_ rfl ?_;omega)|(refine zP rfl ?_ rfl ?_;omega)|refine zG rfl rfl rfl rfl ?_|(refine jdq rfl rfl ?_ ?_ ?_;kernel_rfl;kernel_rfl)|refine zB rfl rfl rfl (by repeat constructor) rfl ?_)
  refine oC (Hc := SL A i pa [] (vo (saysA i says one ls) i)) (Hr := SL B i pb [] (vo (saysA i says two ls) i) ++ X) (committed_spec A i pa _ [] (vo (saysA i says one ls) i) G (hpa5.mono hG) (by omega) (by omega)) Try.call13 rfl rfl (fun w t => t) ?_
  rintro _ G1 _ hG1 ⟨rfl, rfl⟩
  cases hca : committedP i (propO none (dgB 1) ua 0 []) (vo (saysA i says one ls) i) with
  | false =>
    repeat (first|refine zJ rfl rfl ?_|refine jr rfl ?_|refine jn ?_|refine zM rfl rfl ?_|(refine zC rfl rfl ?_ rfl ?_;omega)|(refine zD rfl rfl ?_ rfl ?_;omega)|(refine zP rfl ?_ rfl ?_;omega)|refine zG rfl rfl rfl rfl ?_|(refine jdq rfl rfl ?_ ?_ ?_;kernel_rfl;kernel_rfl)|refine zB rfl rfl rfl (by repeat constructor) rfl ?_)
    exact J_retv rfl (.tmp rfl .nil) [] (fun w t => dr7 _ (dr7 _ t)) (hle5.trans (hG.trans hG1)) ⟨rfl, rfl⟩
  | true =>
    repeat (first|refine zJ rfl rfl ?_|refine jr rfl ?_|refine jn ?_|refine zM rfl rfl ?_|(refine zC rfl rfl ?_ rfl ?_;omega)|(refine zD rfl rfl ?_ rfl ?_;omega)|(refine zP rfl ?_ rfl ?_;omega)|refine zG rfl rfl rfl rfl ?_|(refine jdq rfl rfl ?_ ?_ ?_;kernel_rfl;kernel_rfl)|refine zB rfl rfl rfl (by repeat constructor) rfl ?_)
    refine oC (Hc := SL B i pb [] (vo (saysA i says two ls) i)) (Hr := SL A i pa [] (vo (saysA i says one ls) i) ++ X) (committed_spec B i pb _ [] (vo (saysA i says two ls) i) G1 (hpb.mono (hG.trans hG1)) (by omega) (by omega)) Try.call13 rfl rfl (fun w t => t.front (A := SL A i pa [] (vo (saysA i says one ls) i)) (B := SL B i pb [] (vo (saysA i says two ls) i)) (C := X)) ?_
    rintro _ G2 _ hG2 ⟨rfl, rfl⟩
    cases hcb : committedP i (propO none (dgB 2) ub 0 []) (vo (saysA i says two ls) i) with
    | false =>
      repeat (first|refine zJ rfl rfl ?_|refine jr rfl ?_|refine jn ?_|refine zM rfl rfl ?_|(refine zC rfl rfl ?_ rfl ?_;omega)|(refine zD rfl rfl ?_ rfl ?_;omega)|(refine zP rfl ?_ rfl ?_;omega)|refine zG rfl rfl rfl rfl ?_|(refine jdq rfl rfl ?_ ?_ ?_;kernel_rfl;kernel_rfl)|refine zB rfl rfl rfl (by repeat constructor) rfl ?_)
      exact J_retv rfl (.tmp rfl .nil) [] (fun w t => dr7 _ (dr7 _ t)) (hle5.trans (hG.trans (hG1.trans hG2))) ⟨rfl, rfl⟩
    | true => exact (one_law (q1 := ⟨dgB 1, ua, 0, []⟩) (q2 := ⟨dgB 2, ub, 0, []⟩) hn hk1 (by omega) rfl rfl hca hcb).elim
open Go.ChangeShapes Go.WideShapes Go.ChangeAt
set_option maxRecDepth 100000 in theorem SlotOne_lifted (os : Os) (started : os.Started) (H : Type) (enc : TypeId × Value → H) : ReturnsInHanded {} Try.checked os 3 .any (Rows.slotOneSpec.pre6 enc Try.prog Try.f3 Rows.slotOneRow.domain false) (Rows.slotOneSpec.post enc Try.prog Try.f3 false true false false) := by
  refine returnsInHanded_of_change (C := Try.checked) own_knob started (by kernel_rfl) Try.func3 (ChangeSpec.witness6 (enc := enc) (C := Try.checked) false ⟨#[], #[.int .u8 0, .slice none 0 0, .slice none 0 0, .slice none 0 0, .slice none 0 0], []⟩ 8 (by kernel_rfl) (by kernel_rfl) (by kernel_rfl) (by kernel_rfl)) ?_; intro W base args ds gs before hval0 hW hcnd _; have hval : ∀ (j : Nat) t v, Try.f3.params[j]? = some t → args[j]? = some v → Value.okWide Try.prog W .any base t v := hval0; have hW' := hW; obtain ⟨p, q, hA0, hV, hp, hfz, hnd⟩ := hW; have hA : DataW.TrodAll enc Try.prog W 0 (fun _ => true) true Try.f3.params.toList args.toList ds p := hA0; obtain ⟨rfl, rfl⟩ := trodVars_none hV; rw [List.append_nil] at hp; have hA' := hA; rw [Try.params3] at hA hval
  obtain ⟨v0, vs0, d0, ds0, p0, q0, hargs, rfl, rfl, h0, r0⟩ := trodAll_cons hA; obtain ⟨v1, vs1, d1, ds1, p1, q1, rfl, rfl, rfl, h1, r1⟩ := trodAll_cons r0; obtain ⟨v2, vs2, d2, ds2, p2, q2, rfl, rfl, rfl, h2, r2⟩ := trodAll_cons r1; obtain ⟨v3, vs3, d3, ds3, p3, q3, rfl, rfl, rfl, h3, r3⟩ := trodAll_cons r2; obtain ⟨v4, vs4, d4, ds4, p4, q4, rfl, rfl, rfl, h4, r4⟩ := trodAll_cons r3; obtain ⟨rfl, rfl, rfl⟩ := trodAll_nil r4; obtain rfl : args = #[v0, v1, v2, v3, v4] := by cases args; simp_all
  obtain ⟨f, rfl, rfl, rfl, w0⟩ := open_int Try.underlying5 (hval 0 5 v0 rfl rfl) h0
  obtain ⟨a1, c1, b1, rfl, _, _, hb1⟩ := open_byt Try.underlying22 Try.underlying5 (by kernel_rfl) (hval 1 22 v1 rfl rfl) h1
  obtain ⟨a2, c2, b2, rfl, _, _, hb2⟩ := open_byt Try.underlying22 Try.underlying5 (by kernel_rfl) (hval 2 22 v2 rfl rfl) h2
  obtain ⟨a3, c3, b3, rfl, _, _, hb3⟩ := open_byt Try.underlying22 Try.underlying5 (by kernel_rfl) (hval 3 22 v3 rfl rfl) h3
  obtain ⟨a4, c4, b4, rfl, _, _, hb4⟩ := open_byt Try.underlying22 Try.underlying5 (by kernel_rfl) (hval 4 22 v4 rfl rfl) h4
  refine (law_walk (SlotOne_walk f a1 a2 a3 a4 c1 c2 c3 c4 b1 b2 b3 b4 (ph W) (by have := bounds_u8 w0; dsimp only [InK]; omega) hb1 hb2 hb3 hb4)).mono fun e W' ⟨he, hb⟩ => ?_
  subst he
  exact ⟨_, rfl, law_post laid_out (by kernel_rfl) rfl rfl Try.underlying4 hW' hA' hp rfl hb⟩
theorem SlotOne_holds : Rows.SlotOneSaid := OpenClaim.holds_of_wide 3 Try.f3 rfl rfl rfl rfl rfl rfl rfl ⟨rfl, rfl, rfl, rfl, rfl⟩ rfl rfl rfl rfl rfl (by kernel_rfl) Try.func3 (by kernel_rfl) (of_decide_eq_true (by kernel_rfl)) (by unfold Func.isWrapper; first | (rw [if_pos (by decide +kernel)]; kernel_rfl) | (rw [if_neg (by decide +kernel)]; exact ⟨rfl, rfl⟩)) (fun os started H enc _ => SlotOne_lifted os started H enc)
#print axioms SlotOne_holds
end Go.Proofs.Ytdoaloimndehbaa
