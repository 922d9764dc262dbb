/-
  Which changes are few; what the document fixes of choices. Conditions are typed with each.
-/
import Derived.Test.YtdoaloimndehbaaHi
namespace Go.Proofs.Ytdoaloimndehbaa
open Go.RowKit
set_option maxRecDepth 100000
/-- A row of proofs that isn't too great. -/
def FewL (l : List PrX) : Prop := l.length ≤ 80 ∧ ∀ p ∈ l, p.2.2.1.length ≤ 10
def FewC (c : ChX) : Prop := FewL c.2.2.2.1 ∧ FewL c.2.2.2.2.1
theorem lists_at {α : Type} {a b : α} {k : Nat} (h : k < 2) : ∃ x, [a, b][k]? = some x := ⟨_, List.getElem?_eq_getElem h⟩
set_option maxHeartbeats 16000000 in
theorem few_spec (v : Value) (xs : List SgX) (F : PH) (hr : RowB tySg F v xs) : Spec Try.prog 25 [v] F [] fun u _ H' => (∃ b, u = .bool b ∧ (b = true → ∀ s ∈ xs, FewC s.2.1)) ∧ H' = [] := by
  obtain ⟨aa, cc, rfl, hc, hb⟩ := hr.form
  refine Spec.of1 Try.func25 rfl rfl fun X w0 => ?_
  repeat (first|refine zJ rfl rfl ?_|refine jr rfl ?_|refine jn ?_|refine zM rfl rfl ?_|(refine zC rfl rfl ?_ rfl ?_;omega)|(refine zD rfl rfl ?_ rfl ?_;omega)|(refine zP rfl ?_ rfl ?_;omega)|refine zG rfl rfl rfl rfl ?_|(refine jdq rfl rfl ?_ ?_ ?_;kernel_rfl;kernel_rfl)|refine zB rfl rfl rfl (by repeat constructor) rfl ?_|refine zH .here rfl rfl rfl rfl ?_|refine zH (.there .here) rfl rfl rfl rfl ?_|refine zH (.there (.there .here)) rfl rfl rfl rfl ?_)
  refine J_loop (ι := Nat) (fun i => i ≤ xs.length ∧ ∀ s ∈ xs.take i, FewC s.2.1) (fun i => xs.length - i) (fun i => [(0, .slice aa xs.length cc), (9, .slice aa xs.length cc), (10, .int .i64 xs.length), (11, .int .i64 i)]) (fun _ => F) (fun _ => X) 0
    ⟨Nat.zero_le _, fun _ h => by cases h⟩ ⟨⟨rfl, rfl, rfl, rfl, trivial⟩, fun _ h => h⟩ ?_
  rintro i ⟨hi, hall⟩
  by_cases hlt : i < xs.length
  · have g1 : xs[i]? = some xs[i] := List.getElem?_eq_getElem hlt
    have ht : xs.take (i + 1) = xs.take i ++ [xs[i]] := by rw [List.take_add_one, g1]; rfl
    obtain ⟨ba, oa, c1, rfl, hc1, hr1, _⟩ := hr.1.at g1
    obtain ⟨cs', hcs, _, hch⟩ := sg_of hr1
    subst hcs
    obtain ⟨vp, vq, vr, rfl, _, _, hp, hq, hrr⟩ := ch_of hch
    generalize xs[i] = y at *
    have hone := tySg.ones hr1
    obtain ⟨ap, cp, rfl, hcp, hbp⟩ := hp.form
    unfold chC at *
    repeat (first|refine zJ rfl rfl ?_|refine jr rfl ?_|refine jn ?_|refine zM rfl rfl ?_|(refine zC rfl rfl ?_ rfl ?_;omega)|(refine zD rfl rfl ?_ rfl ?_;omega)|(refine zP rfl ?_ rfl ?_;omega)|refine zG rfl rfl rfl rfl ?_|(refine jdq rfl rfl ?_ ?_ ?_;kernel_rfl;kernel_rfl)|refine zB rfl rfl rfl (by repeat constructor) rfl ?_|refine zH .here rfl rfl rfl rfl ?_|refine zH (.there .here) rfl rfl rfl rfl ?_|refine zH (.there (.there .here)) rfl rfl rfl rfl ?_)
    refine oS (ev_indexAddr rfl rfl rfl hlt) rfl ?_
    refine oS (ev_load_agg rfl rfl (Rdb.ofF hc1) rfl) rfl ?_
    refine oE (ev_alloc (cs := zSg) rfl) rfl ?_
    rintro _ _ _ _ ⟨rfl, b4, rfl, rfl⟩
    refine oN (ev_store (b := b4) rfl rfl .agg rfl rfl (lay_all (zs := zSg) rfl) hone .here) rfl ?_
    rintro _ _ _ _ ⟨rfl, _, rfl⟩
    repeat (first|refine zJ rfl rfl ?_|refine jr rfl ?_|refine jn ?_|refine zM rfl rfl ?_|(refine zC rfl rfl ?_ rfl ?_;omega)|(refine zD rfl rfl ?_ rfl ?_;omega)|(refine zP rfl ?_ rfl ?_;omega)|refine zG rfl rfl rfl rfl ?_|(refine jdq rfl rfl ?_ ?_ ?_;kernel_rfl;kernel_rfl)|refine zB rfl rfl rfl (by repeat constructor) rfl ?_|refine zH .here rfl rfl rfl rfl ?_|refine zH (.there .here) rfl rfl rfl rfl ?_|refine zH (.there (.there .here)) rfl rfl rfl rfl ?_)
    have hvq : VC vq [vq] := by obtain ⟨_, _, rfl, _⟩ := hq.form; exact .slice
    have hvr : VC vr [vr] := by obtain ⟨_, _, rfl, _⟩ := hrr.form; exact .slice
    refine oE (ev_buildSlice (E := 51) (zs := [.slice none 0 0]) (t := [vq, vr]) rfl rfl rfl rfl rfl rfl (.cons hvq rfl (by repeat constructor) (.cons hvr rfl (by repeat constructor) .nil))) rfl ?_
    rintro _ _ _ _ ⟨rfl, b21, rfl, rfl⟩
    repeat (first|refine zJ rfl rfl ?_|refine jr rfl ?_|refine jn ?_|refine zM rfl rfl ?_|(refine zC rfl rfl ?_ rfl ?_;omega)|(refine zD rfl rfl ?_ rfl ?_;omega)|(refine zP rfl ?_ rfl ?_;omega)|refine zG rfl rfl rfl rfl ?_|(refine jdq rfl rfl ?_ ?_ ?_;kernel_rfl;kernel_rfl)|refine zB rfl rfl rfl (by repeat constructor) rfl ?_|refine zH .here rfl rfl rfl rfl ?_|refine zH (.there .here) rfl rfl rfl rfl ?_|refine zH (.there (.there .here)) rfl rfl rfl rfl ?_)
    refine J_loop (ι := Nat) (fun k => k ≤ 2 ∧ ∀ L ∈ [y.2.1.2.2.2.1, y.2.1.2.2.2.2.1].take k, FewL L) (fun k => 2 - k) (fun k => [(0, .slice (some ⟨ba, oa, none⟩) xs.length cc), (4, .pointer (some ⟨b4, 0, none⟩)), (9, .slice (some ⟨ba, oa, none⟩) xs.length cc), (10, .int .i64 xs.length), (11, .int .i64 i), (21, .slice (some ⟨b21, 0, none⟩) 2 2), (22, .int .i64 2), (23, .int .i64 k)]) (fun _ => F) (fun _ => blk b21 51 [vq, vr] :: blk b4 55 [.int .i64 y.1, .int .i64 y.2.1.1, .int .i64 y.2.1.2.1, .slice ap y.2.1.2.2.1.length cp, vq, vr] :: X) 0
      ⟨by omega, fun _ h => by cases h⟩ ⟨⟨rfl, rfl, rfl, rfl, rfl, rfl, rfl, rfl, trivial⟩, fun _ h => h⟩ ?_
    rintro k ⟨hk, hLs⟩
    by_cases hk2 : k < 2
    · obtain ⟨L, v, hL, hv1, hLv⟩ : ∃ L v, [y.2.1.2.2.2.1, y.2.1.2.2.2.2.1][k]? = some L ∧ ([vq, vr].drop k).take 1 = [v] ∧ RowB tyPr F v L := by
        rcases (show k = 0 ∨ k = 1 by omega) with rfl | rfl
        · exact ⟨_, _, rfl, rfl, hq⟩
        · exact ⟨_, _, rfl, rfl, hrr⟩
      have hLt : [y.2.1.2.2.2.1, y.2.1.2.2.2.2.1].take (k + 1) = [y.2.1.2.2.2.1, y.2.1.2.2.2.2.1].take k ++ [L] := by rw [List.take_add_one, hL]; rfl
      obtain ⟨al, cl, rfl, hcl, hbl⟩ := hLv.form
      repeat (first|refine zJ rfl rfl ?_|refine jr rfl ?_|refine jn ?_|refine zM rfl rfl ?_|(refine zC rfl rfl ?_ rfl ?_;omega)|(refine zD rfl rfl ?_ rfl ?_;omega)|(refine zP rfl ?_ rfl ?_;omega)|refine zG rfl rfl rfl rfl ?_|(refine jdq rfl rfl ?_ ?_ ?_;kernel_rfl;kernel_rfl)|refine zB rfl rfl rfl (by repeat constructor) rfl ?_|refine zH .here rfl rfl rfl rfl ?_|refine zH (.there .here) rfl rfl rfl rfl ?_|refine zH (.there (.there .here)) rfl rfl rfl rfl ?_)
      refine oS (ev_indexAddr (i := k) rfl rfl rfl hk2) rfl ?_
      refine oS (ev_load (v := .slice al L.length cl) rfl rfl (Rdb.ofB (n := 0) .here (by rw [Nat.mul_one, Nat.zero_add]; exact hv1))) rfl ?_
      by_cases h80 : 80 < L.length
      · repeat (first|refine zJ rfl rfl ?_|refine jr rfl ?_|refine jn ?_|refine zM rfl rfl ?_|(refine zC rfl rfl ?_ rfl ?_;omega)|(refine zD rfl rfl ?_ rfl ?_;omega)|(refine zP rfl ?_ rfl ?_;omega)|refine zG rfl rfl rfl rfl ?_|(refine jdq rfl rfl ?_ ?_ ?_;kernel_rfl;kernel_rfl)|refine zB rfl rfl rfl (by repeat constructor) rfl ?_|refine zH .here rfl rfl rfl rfl ?_|refine zH (.there .here) rfl rfl rfl rfl ?_|refine zH (.there (.there .here)) rfl rfl rfl rfl ?_)
        exact J_retv rfl (.tmp rfl .nil) [] (fun w s => s.drop.drop) (PH.ler _) ⟨⟨_, rfl, fun h => by cases h⟩, rfl⟩
      · repeat (first|refine zJ rfl rfl ?_|refine jr rfl ?_|refine jn ?_|refine zM rfl rfl ?_|(refine zC rfl rfl ?_ rfl ?_;omega)|(refine zD rfl rfl ?_ rfl ?_;omega)|(refine zP rfl ?_ rfl ?_;omega)|refine zG rfl rfl rfl rfl ?_|(refine jdq rfl rfl ?_ ?_ ?_;kernel_rfl;kernel_rfl)|refine zB rfl rfl rfl (by repeat constructor) rfl ?_|refine zH .here rfl rfl rfl rfl ?_|refine zH (.there .here) rfl rfl rfl rfl ?_|refine zH (.there (.there .here)) rfl rfl rfl rfl ?_)
        refine J_loop (ι := Nat) (fun j => j ≤ L.length ∧ ∀ p ∈ L.take j, p.2.2.1.length ≤ 10) (fun j => L.length - j) (fun j => [(0, .slice (some ⟨ba, oa, none⟩) xs.length cc), (4, .pointer (some ⟨b4, 0, none⟩)), (9, .slice (some ⟨ba, oa, none⟩) xs.length cc), (10, .int .i64 xs.length), (11, .int .i64 i), (21, .slice (some ⟨b21, 0, none⟩) 2 2), (22, .int .i64 2), (23, .int .i64 k), (30, .slice al L.length cl), (31, .int .i64 L.length), (32, .int .i64 j)]) (fun _ => F) (fun _ => blk b21 51 [vq, vr] :: blk b4 55 [.int .i64 y.1, .int .i64 y.2.1.1, .int .i64 y.2.1.2.1, .slice ap y.2.1.2.2.1.length cp, vq, vr] :: X) 0
          ⟨by omega, fun _ h => by cases h⟩ ⟨⟨rfl, rfl, rfl, rfl, rfl, rfl, rfl, rfl, rfl, rfl, rfl, trivial⟩, fun _ h => h⟩ ?_
        rintro j ⟨hj, hps⟩
        by_cases hjl : j < L.length
        · have g2 : L[j]? = some L[j] := List.getElem?_eq_getElem hjl
          have ht2 : L.take (j + 1) = L.take j ++ [L[j]] := by rw [List.take_add_one, g2]; rfl
          obtain ⟨b5, o5, c5, rfl, hc5, hr5, _⟩ := hLv.1.at g2
          have hone2 := tyPr.ones hr5
          obtain ⟨vx, rfl, _, _, hxr⟩ := pr_of hr5
          obtain ⟨ax, cx, rfl, _, _⟩ := hxr.form
          generalize L[j] = p at *
          unfold prC at *
          repeat (first|refine zJ rfl rfl ?_|refine jr rfl ?_|refine jn ?_|refine zM rfl rfl ?_|(refine zC rfl rfl ?_ rfl ?_;omega)|(refine zD rfl rfl ?_ rfl ?_;omega)|(refine zP rfl ?_ rfl ?_;omega)|refine zG rfl rfl rfl rfl ?_|(refine jdq rfl rfl ?_ ?_ ?_;kernel_rfl;kernel_rfl)|refine zB rfl rfl rfl (by repeat constructor) rfl ?_|refine zH .here rfl rfl rfl rfl ?_|refine zH (.there .here) rfl rfl rfl rfl ?_|refine zH (.there (.there .here)) rfl rfl rfl rfl ?_)
          refine oS (ev_indexAddr rfl rfl rfl hjl) rfl ?_
          refine oS (ev_load_agg rfl rfl (Rdb.ofF hc5) rfl) rfl ?_
          refine oE (ev_alloc (cs := zPr) rfl) rfl ?_
          rintro _ _ _ _ ⟨rfl, b8, rfl, rfl⟩
          refine oN (ev_store (b := b8) rfl rfl .agg rfl rfl (lay_all (zs := zPr) rfl) hone2 .here) rfl ?_
          rintro _ _ _ _ ⟨rfl, _, rfl⟩
          by_cases h10 : 10 < p.2.2.1.length
          · repeat (first|refine zJ rfl rfl ?_|refine jr rfl ?_|refine jn ?_|refine zM rfl rfl ?_|(refine zC rfl rfl ?_ rfl ?_;omega)|(refine zD rfl rfl ?_ rfl ?_;omega)|(refine zP rfl ?_ rfl ?_;omega)|refine zG rfl rfl rfl rfl ?_|(refine jdq rfl rfl ?_ ?_ ?_;kernel_rfl;kernel_rfl)|refine zB rfl rfl rfl (by repeat constructor) rfl ?_|refine zH .here rfl rfl rfl rfl ?_|refine zH (.there .here) rfl rfl rfl rfl ?_|refine zH (.there (.there .here)) rfl rfl rfl rfl ?_)
            try rw [decide_eq_true (show (10 : Int) < (p.2.2.1.length : Int) by omega)]
            repeat (first|refine zJ rfl rfl ?_|refine jr rfl ?_|refine jn ?_|refine zM rfl rfl ?_|(refine zC rfl rfl ?_ rfl ?_;omega)|(refine zD rfl rfl ?_ rfl ?_;omega)|(refine zP rfl ?_ rfl ?_;omega)|refine zG rfl rfl rfl rfl ?_|(refine jdq rfl rfl ?_ ?_ ?_;kernel_rfl;kernel_rfl)|refine zB rfl rfl rfl (by repeat constructor) rfl ?_|refine zH .here rfl rfl rfl rfl ?_|refine zH (.there .here) rfl rfl rfl rfl ?_|refine zH (.there (.there .here)) rfl rfl rfl rfl ?_)
            exact J_retv rfl (.tmp rfl .nil) [] (fun w s => s.drop.drop.drop) (PH.ler _) ⟨⟨_, rfl, fun h => by cases h⟩, rfl⟩
          · repeat (first|refine zJ rfl rfl ?_|refine jr rfl ?_|refine jn ?_|refine zM rfl rfl ?_|(refine zC rfl rfl ?_ rfl ?_;omega)|(refine zD rfl rfl ?_ rfl ?_;omega)|(refine zP rfl ?_ rfl ?_;omega)|refine zG rfl rfl rfl rfl ?_|(refine jdq rfl rfl ?_ ?_ ?_;kernel_rfl;kernel_rfl)|refine zB rfl rfl rfl (by repeat constructor) rfl ?_|refine zH .here rfl rfl rfl rfl ?_|refine zH (.there .here) rfl rfl rfl rfl ?_|refine zH (.there (.there .here)) rfl rfl rfl rfl ?_)
            try rw [decide_eq_false (show ¬ (10 : Int) < (p.2.2.1.length : Int) by omega)]
            repeat (first|refine zJ rfl rfl ?_|refine jr rfl ?_|refine jn ?_|refine zM rfl rfl ?_|(refine zC rfl rfl ?_ rfl ?_;omega)|(refine zD rfl rfl ?_ rfl ?_;omega)|(refine zP rfl ?_ rfl ?_;omega)|refine zG rfl rfl rfl rfl ?_|(refine jdq rfl rfl ?_ ?_ ?_;kernel_rfl;kernel_rfl)|refine zB rfl rfl rfl (by repeat constructor) rfl ?_|refine zH .here rfl rfl rfl rfl ?_|refine zH (.there .here) rfl rfl rfl rfl ?_|refine zH (.there (.there .here)) rfl rfl rfl rfl ?_)
            refine J_again (j + 1) ⟨hjl, ?_⟩ (by omega) ⟨⟨rfl, rfl, rfl, rfl, rfl, rfl, rfl, rfl, rfl, rfl, rfl, trivial⟩, fun w s => s.drop⟩
            intro q hq2
            rw [ht2] at hq2
            rcases List.mem_append.1 hq2 with hq2 | hq2
            · exact hps q hq2
            · rw [List.mem_singleton] at hq2
              subst hq2
              omega
        · obtain rfl : j = L.length := by omega
          rw [List.take_length] at hps
          repeat (first|refine zJ rfl rfl ?_|refine jr rfl ?_|refine jn ?_|refine zM rfl rfl ?_|(refine zC rfl rfl ?_ rfl ?_;omega)|(refine zD rfl rfl ?_ rfl ?_;omega)|(refine zP rfl ?_ rfl ?_;omega)|refine zG rfl rfl rfl rfl ?_|(refine jdq rfl rfl ?_ ?_ ?_;kernel_rfl;kernel_rfl)|refine zB rfl rfl rfl (by repeat constructor) rfl ?_|refine zH .here rfl rfl rfl rfl ?_|refine zH (.there .here) rfl rfl rfl rfl ?_|refine zH (.there (.there .here)) rfl rfl rfl rfl ?_)
          refine J_again (k + 1) ⟨by omega, ?_⟩ (by omega) ⟨⟨rfl, rfl, rfl, rfl, rfl, rfl, rfl, rfl, trivial⟩, fun w s => s⟩
          intro M hM
          rw [hLt] at hM
          rcases List.mem_append.1 hM with hM | hM
          · exact hLs M hM
          · rw [List.mem_singleton] at hM
            subst hM
            exact ⟨by omega, hps⟩
    · obtain rfl : k = 2 := by omega
      by_cases h20 : 20 < y.2.1.2.2.1.length
      · repeat (first|refine zJ rfl rfl ?_|refine jr rfl ?_|refine jn ?_|refine zM rfl rfl ?_|(refine zC rfl rfl ?_ rfl ?_;omega)|(refine zD rfl rfl ?_ rfl ?_;omega)|(refine zP rfl ?_ rfl ?_;omega)|refine zG rfl rfl rfl rfl ?_|(refine jdq rfl rfl ?_ ?_ ?_;kernel_rfl;kernel_rfl)|refine zB rfl rfl rfl (by repeat constructor) rfl ?_|refine zH .here rfl rfl rfl rfl ?_|refine zH (.there .here) rfl rfl rfl rfl ?_|refine zH (.there (.there .here)) rfl rfl rfl rfl ?_)
        try rw [decide_eq_true (show (20 : Int) < (y.2.1.2.2.1.length : Int) by omega)]
        repeat (first|refine zJ rfl rfl ?_|refine jr rfl ?_|refine jn ?_|refine zM rfl rfl ?_|(refine zC rfl rfl ?_ rfl ?_;omega)|(refine zD rfl rfl ?_ rfl ?_;omega)|(refine zP rfl ?_ rfl ?_;omega)|refine zG rfl rfl rfl rfl ?_|(refine jdq rfl rfl ?_ ?_ ?_;kernel_rfl;kernel_rfl)|refine zB rfl rfl rfl (by repeat constructor) rfl ?_|refine zH .here rfl rfl rfl rfl ?_|refine zH (.there .here) rfl rfl rfl rfl ?_|refine zH (.there (.there .here)) rfl rfl rfl rfl ?_)
        exact J_retv rfl (.tmp rfl .nil) [] (fun w s => s.drop.drop) (PH.ler _) ⟨⟨_, rfl, fun h => by cases h⟩, rfl⟩
      · repeat (first|refine zJ rfl rfl ?_|refine jr rfl ?_|refine jn ?_|refine zM rfl rfl ?_|(refine zC rfl rfl ?_ rfl ?_;omega)|(refine zD rfl rfl ?_ rfl ?_;omega)|(refine zP rfl ?_ rfl ?_;omega)|refine zG rfl rfl rfl rfl ?_|(refine jdq rfl rfl ?_ ?_ ?_;kernel_rfl;kernel_rfl)|refine zB rfl rfl rfl (by repeat constructor) rfl ?_|refine zH .here rfl rfl rfl rfl ?_|refine zH (.there .here) rfl rfl rfl rfl ?_|refine zH (.there (.there .here)) rfl rfl rfl rfl ?_)
        try rw [decide_eq_false (show ¬ (20 : Int) < (y.2.1.2.2.1.length : Int) by omega)]
        repeat (first|refine zJ rfl rfl ?_|refine jr rfl ?_|refine jn ?_|refine zM rfl rfl ?_|(refine zC rfl rfl ?_ rfl ?_;omega)|(refine zD rfl rfl ?_ rfl ?_;omega)|(refine zP rfl ?_ rfl ?_;omega)|refine zG rfl rfl rfl rfl ?_|(refine jdq rfl rfl ?_ ?_ ?_;kernel_rfl;kernel_rfl)|refine zB rfl rfl rfl (by repeat constructor) rfl ?_|refine zH .here rfl rfl rfl rfl ?_|refine zH (.there .here) rfl rfl rfl rfl ?_|refine zH (.there (.there .here)) rfl rfl rfl rfl ?_)
        refine J_again (i + 1) ⟨hlt, ?_⟩ (by omega) ⟨⟨rfl, rfl, rfl, rfl, trivial⟩, fun w s => s.drop.drop⟩
        intro s hs
        rw [ht] at hs
        rcases List.mem_append.1 hs with hs | hs
        · exact hall s hs
        · rw [List.mem_singleton] at hs
          subst hs
          exact ⟨hLs _ (by simp), hLs _ (by simp)⟩
  · obtain rfl : i = xs.length := by omega
    rw [List.take_length] at hall
    repeat (first|refine zJ rfl rfl ?_|refine jr rfl ?_|refine jn ?_|refine zM rfl rfl ?_|(refine zC rfl rfl ?_ rfl ?_;omega)|(refine zD rfl rfl ?_ rfl ?_;omega)|(refine zP rfl ?_ rfl ?_;omega)|refine zG rfl rfl rfl rfl ?_|(refine jdq rfl rfl ?_ ?_ ?_;kernel_rfl;kernel_rfl)|refine zB rfl rfl rfl (by repeat constructor) rfl ?_|refine zH .here rfl rfl rfl rfl ?_|refine zH (.there .here) rfl rfl rfl rfl ?_|refine zH (.there (.there .here)) rfl rfl rfl rfl ?_)
    exact J_retv rfl (.tmp rfl .nil) [] (fun w s => s) (PH.ler _) ⟨⟨_, rfl, fun _ => hall⟩, rfl⟩
end Go.Proofs.Ytdoaloimndehbaa
