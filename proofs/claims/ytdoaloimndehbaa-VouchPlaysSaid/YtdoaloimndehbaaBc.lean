/-
  slices.Insert at vouchings. Conditions are typed with each.
-/
import Derived.Test.YtdoaloimndehbaaBb
namespace Go.Proofs.Ytdoaloimndehbaa
open Go.RowKit
set_option maxRecDepth 100000
theorem Sat.drop2 {F : PH} {A B : Asrt} {X : List Asrt} {w : World} (s : Sat F (A :: B :: X) w) : Sat F (A :: X) w := (s.perm (.swap B A X)).drop
set_option maxHeartbeats 8000000 in 
  theorem vins_raw (v : Value) (n i bv : Nat) (xs vc : List Value) (F : PH) (hi : i ≤ n) (hn : n ≤ 1000) (h1 : Ones xs) (h1v : Ones vc) (hvl : vc.length = 35) : 
      Spec Try.prog 59 [v, .int .i64 i, .slice (some ⟨bv, 0, none⟩) 1 1] F [own v 72 35 n xs, blk bv 72 vc] fun u _ H' => H' = [own u 72 35 (n + 1) (xs.take (i * 35) ++ vc ++ xs.drop (i * 35))] := by 
    refine Spec.of3 Try.func59 rfl rfl fun X w0 => ?_ 
    dsimp only [List.cons_append, List.nil_append] 
    refine jOwnA .here fun a c hv hnc hcm hxl ha => ?_ 
    subst hv 
    have hrv : ∀ (F : PH) (A : Asrt) (H : List Asrt), RdS F (A :: blk bv 72 vc :: H) 35 (.slice (some ⟨bv, 0, none⟩) 1 1) 1 vc := fun F A H => RdS.blk (.there .here) (by rw [hvl]) (by rw [List.drop_zero, List.take_length]) (Nat.le_refl _) 
    have hvt : vc.take (1 * 35) = vc := by rw [Nat.one_mul, ← hvl, List.take_length] 
    (repeat (first|refine zJ rfl rfl ?_|refine jr rfl ?_|refine jn ?_|refine zM rfl rfl ?_|(refine zC rfl rfl ?_ rfl ?_;omega)|(refine zD rfl rfl ?_ rfl ?_;omega)|(refine zP rfl ?_ rfl ?_;omega)|refine zG rfl rfl rfl rfl ?_|(refine jdq rfl rfl ?_ ?_ ?_;kernel_rfl;kernel_rfl)|refine zB rfl rfl rfl (by repeat constructor) rfl ?_|refine zH .here rfl rfl rfl rfl ?_|refine zH (.there .here) rfl rfl rfl rfl ?_|refine zH (.there (.there .here)) rfl rfl rfl rfl ?_)) 
    refine oS (ev_slice_lo rfl rfl rfl hi) rfl ?_ 
    (repeat (first|refine zJ rfl rfl ?_|refine jr rfl ?_|refine jn ?_|refine zM rfl rfl ?_|(refine zC rfl rfl ?_ rfl ?_;omega)|(refine zD rfl rfl ?_ rfl ?_;omega)|(refine zP rfl ?_ rfl ?_;omega)|refine zG rfl rfl rfl rfl ?_|(refine jdq rfl rfl ?_ ?_ ?_;kernel_rfl;kernel_rfl)|refine zB rfl rfl rfl (by repeat constructor) rfl ?_|refine zH .here rfl rfl rfl rfl ?_|refine zH (.there .here) rfl rfl rfl rfl ?_|refine zH (.there (.there .here)) rfl rfl rfl rfl ?_)) 
    by_cases hin : i = n 
    · subst hin 
      (repeat (first|refine zJ rfl rfl ?_|refine jr rfl ?_|refine jn ?_|refine zM rfl rfl ?_|(refine zC rfl rfl ?_ rfl ?_;omega)|(refine zD rfl rfl ?_ rfl ?_;omega)|(refine zP rfl ?_ rfl ?_;omega)|refine zG rfl rfl rfl rfl ?_|(refine jdq rfl rfl ?_ ?_ ?_;kernel_rfl;kernel_rfl)|refine zB rfl rfl rfl (by repeat constructor) rfl ?_|refine zH .here rfl rfl rfl rfl ?_|refine zH (.there .here) rfl rfl rfl rfl ?_|refine zH (.there (.there .here)) rfl rfl rfl rfl ?_)) 
      rw [decide_eq_true (show (i : Int) = (i : Int) from rfl)] 
      (repeat (first|refine zJ rfl rfl ?_|refine jr rfl ?_|refine jn ?_|refine zM rfl rfl ?_|(refine zC rfl rfl ?_ rfl ?_;omega)|(refine zD rfl rfl ?_ rfl ?_;omega)|(refine zP rfl ?_ rfl ?_;omega)|refine zG rfl rfl rfl rfl ?_|(refine jdq rfl rfl ?_ ?_ ?_;kernel_rfl;kernel_rfl)|refine zB rfl rfl rfl (by repeat constructor) rfl ?_|refine zH .here rfl rfl rfl rfl ?_|refine zH (.there .here) rfl rfl rfl rfl ?_|refine zH (.there (.there .here)) rfl rfl rfl rfl ?_)) 
      refine oE (ev_append_s (n := i) (m := 1) (bytes := 56) (xs := xs) (news := vc) (K := fun v' => own v' 72 35 (i + 1) (xs ++ vc) :: blk bv 72 vc :: X) rfl rfl elVo (hrv _ _ _) h1v (by omega) (fun v' => .here)) rfl ?_ 
      rintro u _ _ _ ⟨rfl, _, rfl⟩ 
      (repeat (first|refine zJ rfl rfl ?_|refine jr rfl ?_|refine jn ?_|refine zM rfl rfl ?_|(refine zC rfl rfl ?_ rfl ?_;omega)|(refine zD rfl rfl ?_ rfl ?_;omega)|(refine zP rfl ?_ rfl ?_;omega)|refine zG rfl rfl rfl rfl ?_|(refine jdq rfl rfl ?_ ?_ ?_;kernel_rfl;kernel_rfl)|refine zB rfl rfl rfl (by repeat constructor) rfl ?_|refine zH .here rfl rfl rfl rfl ?_|refine zH (.there .here) rfl rfl rfl rfl ?_|refine zH (.there (.there .here)) rfl rfl rfl rfl ?_)) 
      exact J_retv rfl (.tmp rfl .nil) [_] (fun w s => Sat.drop2 s) (PH.ler _) (by rw [List.take_of_length_le (by omega), List.drop_eq_nil_of_le (by omega), List.append_nil]; rfl) 
    have hne : ¬ ((i : Int) = (n : Int)) := by omega 
    obtain ⟨g, rfl⟩ := ha (by omega) 
    by_cases hroom : n + 1 ≤ c 
    · (repeat (first|refine zJ rfl rfl ?_|refine jr rfl ?_|refine jn ?_|refine zM rfl rfl ?_|(refine zC rfl rfl ?_ rfl ?_;omega)|(refine zD rfl rfl ?_ rfl ?_;omega)|(refine zP rfl ?_ rfl ?_;omega)|refine zG rfl rfl rfl rfl ?_|(refine jdq rfl rfl ?_ ?_ ?_;kernel_rfl;kernel_rfl)|refine zB rfl rfl rfl (by repeat constructor) rfl ?_|refine zH .here rfl rfl rfl rfl ?_|refine zH (.there .here) rfl rfl rfl rfl ?_|refine zH (.there (.there .here)) rfl rfl rfl rfl ?_)) 
      rw [decide_eq_false hne] 
      (repeat (first|refine zJ rfl rfl ?_|refine jr rfl ?_|refine jn ?_|refine zM rfl rfl ?_|(refine zC rfl rfl ?_ rfl ?_;omega)|(refine zD rfl rfl ?_ rfl ?_;omega)|(refine zP rfl ?_ rfl ?_;omega)|refine zG rfl rfl rfl rfl ?_|(refine jdq rfl rfl ?_ ?_ ?_;kernel_rfl;kernel_rfl)|refine zB rfl rfl rfl (by repeat constructor) rfl ?_|refine zH .here rfl rfl rfl rfl ?_|refine zH (.there .here) rfl rfl rfl rfl ?_|refine zH (.there (.there .here)) rfl rfl rfl rfl ?_)) 
      refine oS (ev_slice_hi (h := n + 1) rfl rfl rfl hroom) rfl ?_ 
      refine o_own_more (n' := n + 1) (by omega) hroom fun ys hyl => ?_ 
      rw [Nat.add_sub_cancel_left, Nat.one_mul] at hyl 
      have hcut : cutV (some ⟨g, 0, none⟩) 35 c (i + 1) (n + 1) c = .slice (some ⟨g, (i + 1) * 35, none⟩) (n + 1 - (i + 1)) (c - (i + 1)) := by 
        unfold cutV 
        rw [if_neg (by omega)] 
        simp [adr_add] 
      (repeat (first|refine zJ rfl rfl ?_|refine jr rfl ?_|refine jn ?_|refine zM rfl rfl ?_|(refine zC rfl rfl ?_ rfl ?_;omega)|(refine zD rfl rfl ?_ rfl ?_;omega)|(refine zP rfl ?_ rfl ?_;omega)|refine zG rfl rfl rfl rfl ?_|(refine jdq rfl rfl ?_ ?_ ?_;kernel_rfl;kernel_rfl)|refine zB rfl rfl rfl (by repeat constructor) rfl ?_|refine zH .here rfl rfl rfl rfl ?_|refine zH (.there .here) rfl rfl rfl rfl ?_|refine zH (.there (.there .here)) rfl rfl rfl rfl ?_)) 
      refine oS (ev_slice_lo (lo := i + 1) rfl rfl rfl (by omega)) rfl ?_ 
      refine oS (ev_overlaps rfl rfl (congrArg some hcut) Try.func77 (by kernel_rfl) rfl (by kernel_rfl) (by kernel_rfl) (tS := 83) (tR := 4) rfl (.there .here) .here (by omega)) rfl ?_ 
      (repeat (first|refine zJ rfl rfl ?_|refine jr rfl ?_|refine jn ?_|refine zM rfl rfl ?_|(refine zC rfl rfl ?_ rfl ?_;omega)|(refine zD rfl rfl ?_ rfl ?_;omega)|(refine zP rfl ?_ rfl ?_;omega)|refine zG rfl rfl rfl rfl ?_|(refine jdq rfl rfl ?_ ?_ ?_;kernel_rfl;kernel_rfl)|refine zB rfl rfl rfl (by repeat constructor) rfl ?_|refine zH .here rfl rfl rfl rfl ?_|refine zH (.there .here) rfl rfl rfl rfl ?_|refine zH (.there (.there .here)) rfl rfl rfl rfl ?_)) 
      refine ja PH.emp [] ?_ (fun w s => s.any) ?_; kernel_rfl 
      refine aL (fun o => o.dropLast) [8] [0, 1, 2, 3, 4, 5, 6, 7] 1 rfl ?_ ?_ ?_ ?_ ?_ ?_; kernel_rfl; kernel_rfl; kernel_rfl; kernel_rfl; kernel_rfl; dsimp only [List.dropLast] 
      (repeat (first|refine zJ rfl rfl ?_|refine jr rfl ?_|refine jn ?_|refine zM rfl rfl ?_|(refine zC rfl rfl ?_ rfl ?_;omega)|(refine zD rfl rfl ?_ rfl ?_;omega)|(refine zP rfl ?_ rfl ?_;omega)|refine zG rfl rfl rfl rfl ?_|(refine jdq rfl rfl ?_ ?_ ?_;kernel_rfl;kernel_rfl)|refine zB rfl rfl rfl (by repeat constructor) rfl ?_|refine zH .here rfl rfl rfl rfl ?_|refine zH (.there .here) rfl rfl rfl rfl ?_|refine zH (.there (.there .here)) rfl rfl rfl rfl ?_)) 
      refine oS (ev_slice_lo (lo := i + 1) rfl rfl rfl (by omega)) rfl ?_ 
      (repeat (first|refine zJ rfl rfl ?_|refine jr rfl ?_|refine jn ?_|refine zM rfl rfl ?_|(refine zC rfl rfl ?_ rfl ?_;omega)|(refine zD rfl rfl ?_ rfl ?_;omega)|(refine zP rfl ?_ rfl ?_;omega)|refine zG rfl rfl rfl rfl ?_|(refine jdq rfl rfl ?_ ?_ ?_;kernel_rfl;kernel_rfl)|refine zB rfl rfl rfl (by repeat constructor) rfl ?_|refine zH .here rfl rfl rfl rfl ?_|refine zH (.there .here) rfl rfl rfl rfl ?_|refine zH (.there (.there .here)) rfl rfl rfl rfl ?_)) 
      refine oS (ev_slice_lo (lo := i) rfl rfl rfl (by omega)) rfl ?_ 
      refine jn ?_ 
      refine aR ?_ 
      have hxy : (xs ++ ys).length = (n + 1) * 35 := by rw [List.length_append, hxl, hyl, Nat.add_mul] 
      have hD : (((xs ++ ys).drop (i * 35)).take ((n - i) * 35)) = xs.drop (i * 35) := by 
        rw [List.drop_append_of_le_length (by omega)] 
        have : (n - i) * 35 = (xs.drop (i * 35)).length := by rw [List.length_drop, hxl]; omega 
        rw [this, List.take_left] 
      have hsplit : xs ++ ys = xs.take (i * 35) ++ (((xs ++ ys).drop (i * 35)).take 35 ++ (xs ++ ys).drop ((i + 1) * 35)) := by 
        have e1 : xs.take (i * 35) = (xs ++ ys).take (i * 35) := by rw [List.take_append_of_le_length (by omega)] 
        have e2 : (xs ++ ys).drop ((i + 1) * 35) = ((xs ++ ys).drop (i * 35)).drop 35 := by rw [List.drop_drop]; congr 1; omega 
        rw [e1, e2, List.take_append_drop, List.take_append_drop] 
      have hB1 : (((xs ++ ys).drop (i * 35)).take 35).length = 35 := by rw [List.length_take, List.length_drop, hxy]; omega 
      have hA1 : (xs.take (i * 35)).length = i * 35 := by rw [List.length_take, hxl]; omega 
      have hD1 : (xs.drop (i * 35)).length = (n - i) * 35 := by rw [List.length_drop, hxl]; omega 
      have hB2 : ((xs ++ ys).drop ((i + 1) * 35)).length = (n - i) * 35 := by rw [List.length_drop, hxy]; omega 
      have hDo : Ones (xs.drop (i * 35)) := fun v hv => h1 v (List.mem_of_mem_drop hv) 
      generalize ((xs ++ ys).drop (i * 35)).take 35 = B1 at hsplit hB1 
      generalize (xs ++ ys).drop ((i + 1) * 35) = B2 at hsplit hB2 
      have hlay1 : Lay ((i + 1) * 35) (xs.drop (i * 35)) (xs ++ ys) (xs.take (i * 35) ++ (B1 ++ xs.drop (i * 35))) := by 
        rw [hsplit, ← List.append_assoc, ← List.append_assoc] 
        have := layP (xs.take (i * 35) ++ B1) (lay_all (vs := xs.drop (i * 35)) (zs := B2) (by omega)) 
        rw [List.length_append, hA1, hB1] at this 
        rwa [show (i + 1) * 35 = i * 35 + 35 + 0 from by omega] 
      have hlay2 : Lay (i * 35) vc (xs.take (i * 35) ++ (B1 ++ xs.drop (i * 35))) (xs.take (i * 35) ++ (vc ++ xs.drop (i * 35))) := by 
        have := layP (xs.take (i * 35)) (layM (vs := vc) (zs := B1) (xs.drop (i * 35)) (by omega)) 
        rwa [hA1, Nat.add_zero] at this 
      refine aB (i := 8) (by kernel_rfl) (aE rfl (ev_copy_own (lo := i + 1) (n := n + 1) (k := n - i) rfl rfl rfl (rds_lo (n := n + 1) .here hroom hxy (by omega)) (by rw [hD]; exact hDo) (by omega) ((Nat.min_eq_right (by omega)).trans (by omega)) (by rw [hD]; exact hlay1) .here) rfl rfl (fun _ _ _ _ _ w s => s.any) ?_) 
      rintro _ _ _ _ ⟨rfl, rfl, rfl⟩ 
      refine aD (by kernel_rfl) ?_ 
      (repeat (first|refine zJ rfl rfl ?_|refine jr rfl ?_|refine jn ?_|refine zM rfl rfl ?_|(refine zC rfl rfl ?_ rfl ?_;omega)|(refine zD rfl rfl ?_ rfl ?_;omega)|(refine zP rfl ?_ rfl ?_;omega)|refine zG rfl rfl rfl rfl ?_|(refine jdq rfl rfl ?_ ?_ ?_;kernel_rfl;kernel_rfl)|refine zB rfl rfl rfl (by repeat constructor) rfl ?_|refine zH .here rfl rfl rfl rfl ?_|refine zH (.there .here) rfl rfl rfl rfl ?_|refine zH (.there (.there .here)) rfl rfl rfl rfl ?_)) 
      refine oS (ev_slice_lo (lo := i) rfl rfl rfl (by omega)) rfl ?_ 
      (repeat (first|refine zJ rfl rfl ?_|refine jr rfl ?_|refine jn ?_|refine zM rfl rfl ?_|(refine zC rfl rfl ?_ rfl ?_;omega)|(refine zD rfl rfl ?_ rfl ?_;omega)|(refine zP rfl ?_ rfl ?_;omega)|refine zG rfl rfl rfl rfl ?_|(refine jdq rfl rfl ?_ ?_ ?_;kernel_rfl;kernel_rfl)|refine zB rfl rfl rfl (by repeat constructor) rfl ?_|refine zH .here rfl rfl rfl rfl ?_|refine zH (.there .here) rfl rfl rfl rfl ?_|refine zH (.there (.there .here)) rfl rfl rfl rfl ?_)) 
      refine oE (ev_copy_own (lo := i) (n := n + 1) (m := 1) (k := 1) rfl rfl rfl (hrv _ _ _) (by rw [hvt]; exact h1v) (by omega) (Nat.min_eq_left (by omega)) (by rw [hvt]; exact hlay2) .here) rfl ?_ 
      rintro _ _ _ _ ⟨rfl, rfl, rfl⟩ 
      (repeat (first|refine zJ rfl rfl ?_|refine jr rfl ?_|refine jn ?_|refine zM rfl rfl ?_|(refine zC rfl rfl ?_ rfl ?_;omega)|(refine zD rfl rfl ?_ rfl ?_;omega)|(refine zP rfl ?_ rfl ?_;omega)|refine zG rfl rfl rfl rfl ?_|(refine jdq rfl rfl ?_ ?_ ?_;kernel_rfl;kernel_rfl)|refine zB rfl rfl rfl (by repeat constructor) rfl ?_|refine zH .here rfl rfl rfl rfl ?_|refine zH (.there .here) rfl rfl rfl rfl ?_|refine zH (.there (.there .here)) rfl rfl rfl rfl ?_)) 
      exact J_retv rfl (.tmp rfl .nil) [_] (fun w s => Sat.drop2 s) (PH.ler _) (by rw [List.append_assoc]; rfl) 
    · (repeat (first|refine zJ rfl rfl ?_|refine jr rfl ?_|refine jn ?_|refine zM rfl rfl ?_|(refine zC rfl rfl ?_ rfl ?_;omega)|(refine zD rfl rfl ?_ rfl ?_;omega)|(refine zP rfl ?_ rfl ?_;omega)|refine zG rfl rfl rfl rfl ?_|(refine jdq rfl rfl ?_ ?_ ?_;kernel_rfl;kernel_rfl)|refine zB rfl rfl rfl (by repeat constructor) rfl ?_|refine zH .here rfl rfl rfl rfl ?_|refine zH (.there .here) rfl rfl rfl rfl ?_|refine zH (.there (.there .here)) rfl rfl rfl rfl ?_)) 
      rw [decide_eq_false hne] 
      (repeat (first|refine zJ rfl rfl ?_|refine jr rfl ?_|refine jn ?_|refine zM rfl rfl ?_|(refine zC rfl rfl ?_ rfl ?_;omega)|(refine zD rfl rfl ?_ rfl ?_;omega)|(refine zP rfl ?_ rfl ?_;omega)|refine zG rfl rfl rfl rfl ?_|(refine jdq rfl rfl ?_ ?_ ?_;kernel_rfl;kernel_rfl)|refine zB rfl rfl rfl (by repeat constructor) rfl ?_|refine zH .here rfl rfl rfl rfl ?_|refine zH (.there .here) rfl rfl rfl rfl ?_|refine zH (.there (.there .here)) rfl rfl rfl rfl ?_)) 
      refine oS (ev_slice_hi (h := i) rfl rfl rfl (by omega)) rfl ?_ 
      (repeat (first|refine zJ rfl rfl ?_|refine jr rfl ?_|refine jn ?_|refine zM rfl rfl ?_|(refine zC rfl rfl ?_ rfl ?_;omega)|(refine zD rfl rfl ?_ rfl ?_;omega)|(refine zP rfl ?_ rfl ?_;omega)|refine zG rfl rfl rfl rfl ?_|(refine jdq rfl rfl ?_ ?_ ?_;kernel_rfl;kernel_rfl)|refine zB rfl rfl rfl (by repeat constructor) rfl ?_|refine zH .here rfl rfl rfl rfl ?_|refine zH (.there .here) rfl rfl rfl rfl ?_|refine zH (.there (.there .here)) rfl rfl rfl rfl ?_)) 
      refine oE (ev_append_zeros_fresh (n := i) (m := n + 1 - i) (bytes := 56) rfl (show opv _ _ = _ from congrArg (fun z : Int => some (Value.int .i64 z)) (by omega)) elVo Try.underlying3 (rds_hi .here hnc hxl hi) (by omega) (by omega) (by omega)) rfl ?_ 
      rintro u _ _ _ ⟨rfl, rfl⟩ 
      rw [show i + (n + 1 - i) = n + 1 from by omega] 
      have hZl : ((List.replicate (n + 1 - i) (Value.cells _).toList).flatten).length = (n + 1 - i) * 35 := zeros_len elVo (n + 1 - i) 
      generalize (List.replicate (n + 1 - i) (Value.cells _).toList).flatten = Z at * 
      refine oOwnA .here fun a2 c' hu hnc' hcm' hl' ha2 => ?_ 
      subst hu 
      obtain ⟨g', rfl⟩ := ha2 (by omega) 
      (repeat (first|refine zJ rfl rfl ?_|refine jr rfl ?_|refine jn ?_|refine zM rfl rfl ?_|(refine zC rfl rfl ?_ rfl ?_;omega)|(refine zD rfl rfl ?_ rfl ?_;omega)|(refine zP rfl ?_ rfl ?_;omega)|refine zG rfl rfl rfl rfl ?_|(refine jdq rfl rfl ?_ ?_ ?_;kernel_rfl;kernel_rfl)|refine zB rfl rfl rfl (by repeat constructor) rfl ?_|refine zH .here rfl rfl rfl rfl ?_|refine zH (.there .here) rfl rfl rfl rfl ?_|refine zH (.there (.there .here)) rfl rfl rfl rfl ?_)) 
      refine oS (ev_slice_lo (lo := i) rfl rfl rfl (by omega)) rfl ?_ 
      (repeat (first|refine zJ rfl rfl ?_|refine jr rfl ?_|refine jn ?_|refine zM rfl rfl ?_|(refine zC rfl rfl ?_ rfl ?_;omega)|(refine zD rfl rfl ?_ rfl ?_;omega)|(refine zP rfl ?_ rfl ?_;omega)|refine zG rfl rfl rfl rfl ?_|(refine jdq rfl rfl ?_ ?_ ?_;kernel_rfl;kernel_rfl)|refine zB rfl rfl rfl (by repeat constructor) rfl ?_|refine zH .here rfl rfl rfl rfl ?_|refine zH (.there .here) rfl rfl rfl rfl ?_|refine zH (.there (.there .here)) rfl rfl rfl rfl ?_)) 
      have hA1 : (xs.take (i * 35)).length = i * 35 := by rw [List.length_take, hxl]; omega 
      have hD1 : (xs.drop (i * 35)).length = (n - i) * 35 := by rw [List.length_drop, hxl]; omega 
      have hDo : Ones (xs.drop (i * 35)) := fun v hv => h1 v (List.mem_of_mem_drop hv) 
      have hZ1 : (Z.take 35).length = 35 := by rw [List.length_take, hZl]; omega 
      have hZ2 : (Z.drop 35).length = (n - i) * 35 := by rw [List.length_drop, hZl]; omega 
      have hZs : Z = Z.take 35 ++ Z.drop 35 := (List.take_append_drop _ _).symm 
      have hDt : (xs.drop (i * 35)).take ((n - i) * 35) = xs.drop (i * 35) := by rw [← hD1, List.take_length] 
      generalize Z.take 35 = B1 at hZ1 hZs 
      generalize Z.drop 35 = B2 at hZ2 hZs 
      have hlay1 : Lay (i * 35) vc (xs.take (i * 35) ++ Z) (xs.take (i * 35) ++ (vc ++ B2)) := by 
        rw [hZs] 
        have := layP (xs.take (i * 35)) (layM (vs := vc) (zs := B1) B2 (by omega)) 
        rwa [hA1, Nat.add_zero] at this 
      have hlay2 : Lay ((i + 1) * 35) (xs.drop (i * 35)) (xs.take (i * 35) ++ (vc ++ B2)) (xs.take (i * 35) ++ (vc ++ xs.drop (i * 35))) := by 
        rw [← List.append_assoc, ← List.append_assoc] 
        have := layP (xs.take (i * 35) ++ vc) (lay_all (vs := xs.drop (i * 35)) (zs := B2) (by omega)) 
        rw [List.length_append, hA1, hvl] at this 
        rwa [show (i + 1) * 35 = i * 35 + 35 + 0 from by omega] 
      refine oE (ev_copy_own (lo := i) (n := n + 1) (m := 1) (k := 1) rfl rfl rfl (RdS.blk (.there (.there .here)) (by rw [hvl]) (by rw [List.drop_zero, List.take_length]) (Nat.le_refl _)) (by rw [hvt]; exact h1v) (by omega) (Nat.min_eq_left (by omega)) (by rw [hvt]; exact hlay1) .here) rfl ?_ 
      rintro _ _ _ _ ⟨rfl, rfl, rfl⟩ 
      (repeat (first|refine zJ rfl rfl ?_|refine jr rfl ?_|refine jn ?_|refine zM rfl rfl ?_|(refine zC rfl rfl ?_ rfl ?_;omega)|(refine zD rfl rfl ?_ rfl ?_;omega)|(refine zP rfl ?_ rfl ?_;omega)|refine zG rfl rfl rfl rfl ?_|(refine jdq rfl rfl ?_ ?_ ?_;kernel_rfl;kernel_rfl)|refine zB rfl rfl rfl (by repeat constructor) rfl ?_|refine zH .here rfl rfl rfl rfl ?_|refine zH (.there .here) rfl rfl rfl rfl ?_|refine zH (.there (.there .here)) rfl rfl rfl rfl ?_)) 
      refine ja PH.emp [] ?_ (fun w s => s.any) ?_; kernel_rfl 
      refine aL (fun o => o.dropLast) [8] [0, 1, 2, 3, 4, 5, 6, 7] 1 rfl ?_ ?_ ?_ ?_ ?_ ?_; kernel_rfl; kernel_rfl; kernel_rfl; kernel_rfl; kernel_rfl; dsimp only [List.dropLast] 
      (repeat (first|refine zJ rfl rfl ?_|refine jr rfl ?_|refine jn ?_|refine zM rfl rfl ?_|(refine zC rfl rfl ?_ rfl ?_;omega)|(refine zD rfl rfl ?_ rfl ?_;omega)|(refine zP rfl ?_ rfl ?_;omega)|refine zG rfl rfl rfl rfl ?_|(refine jdq rfl rfl ?_ ?_ ?_;kernel_rfl;kernel_rfl)|refine zB rfl rfl rfl (by repeat constructor) rfl ?_|refine zH .here rfl rfl rfl rfl ?_|refine zH (.there .here) rfl rfl rfl rfl ?_|refine zH (.there (.there .here)) rfl rfl rfl rfl ?_)) 
      refine oS (ev_slice_lo (lo := i + 1) rfl rfl rfl (by omega)) rfl ?_ 
      (repeat (first|refine zJ rfl rfl ?_|refine jr rfl ?_|refine jn ?_|refine zM rfl rfl ?_|(refine zC rfl rfl ?_ rfl ?_;omega)|(refine zD rfl rfl ?_ rfl ?_;omega)|(refine zP rfl ?_ rfl ?_;omega)|refine zG rfl rfl rfl rfl ?_|(refine jdq rfl rfl ?_ ?_ ?_;kernel_rfl;kernel_rfl)|refine zB rfl rfl rfl (by repeat constructor) rfl ?_|refine zH .here rfl rfl rfl rfl ?_|refine zH (.there .here) rfl rfl rfl rfl ?_|refine zH (.there (.there .here)) rfl rfl rfl rfl ?_)) 
      refine oS (ev_slice_lo (lo := i) rfl rfl rfl (by omega)) rfl ?_ 
      refine jn ?_ 
      refine aR ?_ 
      refine aB (i := 8) (by kernel_rfl) (aE rfl (ev_copy_own (lo := i + 1) (n := n + 1) (m := n - i) (k := n - i) rfl rfl rfl (rds_lo (.there .here) hnc hxl hi) (by rw [hDt]; exact hDo) (by omega) ((Nat.min_eq_right (by omega)).trans (by omega)) (by rw [hDt]; exact hlay2) .here) rfl rfl (fun _ _ _ _ _ w s => s.any) ?_) 
      rintro _ _ _ _ ⟨rfl, rfl, rfl⟩ 
      refine aD (by kernel_rfl) ?_ 
      (repeat (first|refine zJ rfl rfl ?_|refine jr rfl ?_|refine jn ?_|refine zM rfl rfl ?_|(refine zC rfl rfl ?_ rfl ?_;omega)|(refine zD rfl rfl ?_ rfl ?_;omega)|(refine zP rfl ?_ rfl ?_;omega)|refine zG rfl rfl rfl rfl ?_|(refine jdq rfl rfl ?_ ?_ ?_;kernel_rfl;kernel_rfl)|refine zB rfl rfl rfl (by repeat constructor) rfl ?_|refine zH .here rfl rfl rfl rfl ?_|refine zH (.there .here) rfl rfl rfl rfl ?_|refine zH (.there (.there .here)) rfl rfl rfl rfl ?_)) 
      exact J_retv rfl (.tmp rfl .nil) [_] (fun w s => Sat.drop2 (Sat.drop2 s)) (PH.ler _) (by rw [List.append_assoc]; rfl)
end Go.Proofs.Ytdoaloimndehbaa
