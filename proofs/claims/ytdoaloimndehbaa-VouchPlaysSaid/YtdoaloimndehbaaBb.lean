/-
  Rows of vouchings: searched, inserted into, cloned. Conditions are typed with each.
-/
import Derived.Test.YtdoaloimndehbaaBa
import Derived.Test.YtdoaloimndehbaaLp
namespace Go.Proofs.Ytdoaloimndehbaa
open Go.RowKit
set_option maxRecDepth 100000
abbrev zVoC : List Value := .int .i64 0 :: .int .i64 0 :: (u8s zDg.1 ++ [.int .u32 0])
theorem elVo : Elem Try.prog 83 72 35 56 (.agg zVoC.toArray) := ⟨rfl, ⟨_, rfl, rfl, rfl, rfl, rfl, by decide⟩, rfl, rfl⟩
theorem vcmp_spec (x : Vo) (s : Int) (F : PH) : Pure Try.prog 57 [.agg x.cs.toArray, .int .i64 s] F (.int .i64 (cmpI x.s s)) := by
  refine Spec.of2 Try.func57 rfl rfl fun X w0 => ?_
  refine jc rfl rfl ?_
  refine jr rfl ?_
  refine oE (ev_box rfl .agg) rfl ?_; rintro _ _ _ _ ⟨rfl, b2, rfl, rfl⟩
  repeat (first|refine zJ rfl rfl ?_|refine jr rfl ?_|refine jn ?_|refine zM rfl rfl ?_|(refine zC rfl rfl ?_ rfl ?_;omega)|(refine zD rfl rfl ?_ rfl ?_;omega)|(refine zP rfl ?_ rfl ?_;omega)|refine zG rfl rfl rfl rfl ?_|(refine jdq rfl rfl ?_ ?_ ?_;kernel_rfl;kernel_rfl)|refine zB rfl rfl rfl (by repeat constructor) rfl ?_|refine zH .here rfl rfl rfl rfl ?_|refine zH (.there .here) rfl rfl rfl rfl ?_|refine zH (.there (.there .here)) rfl rfl rfl rfl ?_)
  refine oP (cmp64_spec x.s s F) Try.call58 rfl rfl ?_
  repeat (first|refine zJ rfl rfl ?_|refine jr rfl ?_|refine jn ?_|refine zM rfl rfl ?_|(refine zC rfl rfl ?_ rfl ?_;omega)|(refine zD rfl rfl ?_ rfl ?_;omega)|(refine zP rfl ?_ rfl ?_;omega)|refine zG rfl rfl rfl rfl ?_|(refine jdq rfl rfl ?_ ?_ ?_;kernel_rfl;kernel_rfl)|refine zB rfl rfl rfl (by repeat constructor) rfl ?_|refine zH .here rfl rfl rfl rfl ?_|refine zH (.there .here) rfl rfl rfl rfl ?_|refine zH (.there (.there .here)) rfl rfl rfl rfl ?_)
  exact J_retv rfl (.tmp rfl .nil) [] (fun w s => s.drop) (PH.ler _) ⟨rfl, rfl⟩
/-- Where a stamp's place is. -/
def lbP (xs : List Vo) (s : Int) : Nat := (xs.takeWhile fun y => decide (y.s < s)).length
theorem lbP_le (xs : List Vo) (s : Int) : lbP xs s ≤ xs.length := (List.takeWhile_prefix _).length_le
theorem lb_eq : ∀ (xs : List Vo) (s : Int) (i : Nat), i ≤ xs.length → (∀ q y, q < i → xs[q]? = some y → y.s < s) → (∀ q y, i ≤ q → xs[q]? = some y → s ≤ y.s) → lbP xs s = i
  | [], s, i, hi, _, _ => by simp at hi; subst hi; rfl
  | x :: xs, s, 0, _, _, h2 => by
    have := h2 0 x (Nat.le_refl _) rfl
    unfold lbP
    rw [List.takeWhile_cons, if_neg (by simp; omega)]
    rfl
  | x :: xs, s, i + 1, hi, h1, h2 => by
    have hx := h1 0 x (by omega) rfl
    have := lb_eq xs s i (by simpa using hi) (fun q y hq e => h1 (q + 1) y (by omega) (by simpa using e)) (fun q y hq e => h2 (q + 1) y (by omega) (by simpa using e))
    unfold lbP at this ⊢
    rw [List.takeWhile_cons, if_pos (by simpa using hx), List.length_cons, this]
/-- Rising by stamps. -/
def Rise (xs : List Vo) : Prop := xs.Pairwise fun a b => a.s < b.s
theorem Rise.le {xs : List Vo} (h : Rise xs) {i j : Nat} {x y : Vo} (hx : xs[i]? = some x) (hy : xs[j]? = some y) (hij : i ≤ j) : x.s ≤ y.s := by
  by_cases e : i = j
  · subst e; rw [hx] at hy; cases hy; exact Int.le_refl _
  · obtain ⟨h1, rfl⟩ := List.getElem?_eq_some_iff.1 hx
    obtain ⟨h2, rfl⟩ := List.getElem?_eq_some_iff.1 hy
    exact Int.le_of_lt (List.pairwise_iff_getElem.1 h i j h1 h2 (by omega))
def thereP (xs : List Vo) (s : Int) : Bool := match xs[lbP xs s]? with
  | some y => decide (y.s = s)
  | none => false
set_option maxHeartbeats 4000000 in
theorem bs_spec (v : Value) (xs : List Vo) (s : Int) (F : PH) (h : VR F v xs) (hn : xs.length ≤ 1000) (hs : Rise xs) : Pure Try.prog 56 [v, .int .i64 s, fnV 57 []] F (.tuple #[.int .i64 (lbP xs s), .bool (thereP xs s)]) := by
  obtain ⟨a, c, rfl, hc⟩ := h.form
  refine Spec.of3 Try.func56 rfl rfl fun X w0 => ?_
  repeat (first|refine zJ rfl rfl ?_|refine jr rfl ?_|refine jn ?_|refine zM rfl rfl ?_|(refine zC rfl rfl ?_ rfl ?_;omega)|(refine zD rfl rfl ?_ rfl ?_;omega)|(refine zP rfl ?_ rfl ?_;omega)|refine zG rfl rfl rfl rfl ?_|(refine jdq rfl rfl ?_ ?_ ?_;kernel_rfl;kernel_rfl)|refine zB rfl rfl rfl (by repeat constructor) rfl ?_|refine zH .here rfl rfl rfl rfl ?_|refine zH (.there .here) rfl rfl rfl rfl ?_|refine zH (.there (.there .here)) rfl rfl rfl rfl ?_)
  refine J_loop2 (fun (i j : Nat) => i ≤ j ∧ j ≤ xs.length ∧ (∀ q y, q < i → xs[q]? = some y → y.s < s) ∧ (∀ q y, j ≤ q → xs[q]? = some y → s ≤ y.s)) (fun i j => j - i) (fun i j => [(0, .slice a xs.length c), (1, .int .i64 s), (2, fnV 57 []), (8, .int .i64 xs.length), (9, .int .i64 i), (10, .int .i64 j)]) (fun _ _ => F) (fun _ _ => X) 0 xs.length
    ⟨Nat.zero_le _, Nat.le_refl _, fun q y hq => absurd hq (by omega), fun q y hq e => absurd (List.getElem?_eq_some_iff.1 e).1 (by omega)⟩ ⟨⟨rfl, rfl, rfl, rfl, rfl, rfl, trivial⟩, fun _ s => s⟩ ?_
  rintro i j ⟨hij, hj, h1, h2⟩
  by_cases hlt : i < j
  · have hg : xs[(i + j) / 2]? = some xs[(i + j) / 2] := List.getElem?_eq_getElem (by omega)
    obtain ⟨b, off, rfl, hcc, _⟩ := h.at hg
    repeat (first|refine zJ rfl rfl ?_|refine jr rfl ?_|refine jn ?_|refine zM rfl rfl ?_|(refine zC rfl rfl ?_ rfl ?_;omega)|(refine zD rfl rfl ?_ rfl ?_;omega)|(refine zP rfl ?_ rfl ?_;omega)|refine zG rfl rfl rfl rfl ?_|(refine jdq rfl rfl ?_ ?_ ?_;kernel_rfl;kernel_rfl)|refine zB rfl rfl rfl (by repeat constructor) rfl ?_|refine zH .here rfl rfl rfl rfl ?_|refine zH (.there .here) rfl rfl rfl rfl ?_|refine zH (.there (.there .here)) rfl rfl rfl rfl ?_)
    refine oS (ev_shr (m := i + j) (n := 1) rfl rfl (by show i + j < 2 ^ 64; omega)) rfl ?_
    rw [show (i + j) >>> 1 = (i + j) / 2 from by rw [Nat.shiftRight_eq_div_pow]]
    repeat (first|refine zJ rfl rfl ?_|refine jr rfl ?_|refine jn ?_|refine zM rfl rfl ?_|(refine zC rfl rfl ?_ rfl ?_;omega)|(refine zD rfl rfl ?_ rfl ?_;omega)|(refine zP rfl ?_ rfl ?_;omega)|refine zG rfl rfl rfl rfl ?_|(refine jdq rfl rfl ?_ ?_ ?_;kernel_rfl;kernel_rfl)|refine zB rfl rfl rfl (by repeat constructor) rfl ?_|refine zH .here rfl rfl rfl rfl ?_|refine zH (.there .here) rfl rfl rfl rfl ?_|refine zH (.there (.there .here)) rfl rfl rfl rfl ?_)
    refine oS (ev_indexAddr rfl rfl rfl (by omega)) rfl ?_
    refine oS (ev_load_agg (n := 35) rfl rfl (Rdb.ofF hcc) (Vo.len _)) rfl ?_
    repeat (first|refine zJ rfl rfl ?_|refine jr rfl ?_|refine jn ?_|refine zM rfl rfl ?_|(refine zC rfl rfl ?_ rfl ?_;omega)|(refine zD rfl rfl ?_ rfl ?_;omega)|(refine zP rfl ?_ rfl ?_;omega)|refine zG rfl rfl rfl rfl ?_|(refine jdq rfl rfl ?_ ?_ ?_;kernel_rfl;kernel_rfl)|refine zB rfl rfl rfl (by repeat constructor) rfl ?_|refine zH .here rfl rfl rfl rfl ?_|refine zH (.there .here) rfl rfl rfl rfl ?_|refine zH (.there (.there .here)) rfl rfl rfl rfl ?_)
    refine oPF rfl (vcmp_spec _ s F) Try.call57 rfl rfl ?_
    by_cases hc1 : cmpI xs[(i + j) / 2].s s < 0
    · have hlt1 : xs[(i + j) / 2].s < s := by
        unfold cmpI at hc1
        split at hc1 <;> (try split at hc1) <;> omega
      repeat (first|refine zJ rfl rfl ?_|refine jr rfl ?_|refine jn ?_|refine zM rfl rfl ?_|(refine zC rfl rfl ?_ rfl ?_;omega)|(refine zD rfl rfl ?_ rfl ?_;omega)|(refine zP rfl ?_ rfl ?_;omega)|refine zG rfl rfl rfl rfl ?_|(refine jdq rfl rfl ?_ ?_ ?_;kernel_rfl;kernel_rfl)|refine zB rfl rfl rfl (by repeat constructor) rfl ?_|refine zH .here rfl rfl rfl rfl ?_|refine zH (.there .here) rfl rfl rfl rfl ?_|refine zH (.there (.there .here)) rfl rfl rfl rfl ?_)
      exact J_again2 ((i + j) / 2 + 1) j ⟨by omega, hj, fun q y hq e => by have := hs.le e hg (by omega); omega, h2⟩ (by omega) ⟨⟨rfl, rfl, rfl, rfl, rfl, rfl, trivial⟩, fun w s => s⟩
    · have hge1 : s ≤ xs[(i + j) / 2].s := by
        unfold cmpI at hc1
        split at hc1 <;> (try split at hc1) <;> omega
      repeat (first|refine zJ rfl rfl ?_|refine jr rfl ?_|refine jn ?_|refine zM rfl rfl ?_|(refine zC rfl rfl ?_ rfl ?_;omega)|(refine zD rfl rfl ?_ rfl ?_;omega)|(refine zP rfl ?_ rfl ?_;omega)|refine zG rfl rfl rfl rfl ?_|(refine jdq rfl rfl ?_ ?_ ?_;kernel_rfl;kernel_rfl)|refine zB rfl rfl rfl (by repeat constructor) rfl ?_|refine zH .here rfl rfl rfl rfl ?_|refine zH (.there .here) rfl rfl rfl rfl ?_|refine zH (.there (.there .here)) rfl rfl rfl rfl ?_)
      exact J_again2 i ((i + j) / 2) ⟨by omega, by omega, h1, fun q y hq e => by have := hs.le hg e (by omega); omega⟩ (by omega) ⟨⟨rfl, rfl, rfl, rfl, rfl, rfl, trivial⟩, fun w s => s⟩
  · obtain rfl : i = j := by omega
    have hlb : lbP xs s = i := lb_eq xs s i hj h1 h2
    generalize ht : thereP xs s = t
    unfold thereP at ht
    rw [hlb] at ht ⊢
    by_cases hi : i < xs.length
    · have hg : xs[i]? = some xs[i] := List.getElem?_eq_getElem hi
      obtain ⟨b, off, rfl, hcc, _⟩ := h.at hg
      rw [hg] at ht
      dsimp only at ht
      generalize xs[i] = y at *
      repeat (first|refine zJ rfl rfl ?_|refine jr rfl ?_|refine jn ?_|refine zM rfl rfl ?_|(refine zC rfl rfl ?_ rfl ?_;omega)|(refine zD rfl rfl ?_ rfl ?_;omega)|(refine zP rfl ?_ rfl ?_;omega)|refine zG rfl rfl rfl rfl ?_|(refine jdq rfl rfl ?_ ?_ ?_;kernel_rfl;kernel_rfl)|refine zB rfl rfl rfl (by repeat constructor) rfl ?_|refine zH .here rfl rfl rfl rfl ?_|refine zH (.there .here) rfl rfl rfl rfl ?_|refine zH (.there (.there .here)) rfl rfl rfl rfl ?_)
      refine oS (ev_indexAddr rfl rfl rfl hi) rfl ?_
      refine oS (ev_load_agg (n := 35) rfl rfl (Rdb.ofF hcc) (Vo.len _)) rfl ?_
      repeat (first|refine zJ rfl rfl ?_|refine jr rfl ?_|refine jn ?_|refine zM rfl rfl ?_|(refine zC rfl rfl ?_ rfl ?_;omega)|(refine zD rfl rfl ?_ rfl ?_;omega)|(refine zP rfl ?_ rfl ?_;omega)|refine zG rfl rfl rfl rfl ?_|(refine jdq rfl rfl ?_ ?_ ?_;kernel_rfl;kernel_rfl)|refine zB rfl rfl rfl (by repeat constructor) rfl ?_|refine zH .here rfl rfl rfl rfl ?_|refine zH (.there .here) rfl rfl rfl rfl ?_|refine zH (.there (.there .here)) rfl rfl rfl rfl ?_)
      refine oPF rfl (vcmp_spec y s F) Try.call57 rfl rfl ?_
      by_cases hc1 : y.s = s
      · have h0 : cmpI y.s s = 0 := by
          unfold cmpI
          rw [if_neg (by omega), if_neg (by omega)]
        rw [decide_eq_true hc1] at ht
        subst ht
        rw [h0]
        repeat (first|refine zJ rfl rfl ?_|refine jr rfl ?_|refine jn ?_|refine zM rfl rfl ?_|(refine zC rfl rfl ?_ rfl ?_;omega)|(refine zD rfl rfl ?_ rfl ?_;omega)|(refine zP rfl ?_ rfl ?_;omega)|refine zG rfl rfl rfl rfl ?_|(refine jdq rfl rfl ?_ ?_ ?_;kernel_rfl;kernel_rfl)|refine zB rfl rfl rfl (by repeat constructor) rfl ?_|refine zH .here rfl rfl rfl rfl ?_|refine zH (.there .here) rfl rfl rfl rfl ?_|refine zH (.there (.there .here)) rfl rfl rfl rfl ?_)
        exact J_retv (vs := [.int .i64 i, .bool true]) rfl (.tmp rfl (.tmp rfl .nil)) [] (fun w s => s) (PH.ler _) ⟨rfl, rfl⟩
      · have h0 : cmpI y.s s ≠ 0 := by
          unfold cmpI
          split <;> (try split) <;> omega
        rw [decide_eq_false hc1] at ht
        subst ht
        repeat (first|refine zJ rfl rfl ?_|refine jr rfl ?_|refine jn ?_|refine zM rfl rfl ?_|(refine zC rfl rfl ?_ rfl ?_;omega)|(refine zD rfl rfl ?_ rfl ?_;omega)|(refine zP rfl ?_ rfl ?_;omega)|refine zG rfl rfl rfl rfl ?_|(refine jdq rfl rfl ?_ ?_ ?_;kernel_rfl;kernel_rfl)|refine zB rfl rfl rfl (by repeat constructor) rfl ?_|refine zH .here rfl rfl rfl rfl ?_|refine zH (.there .here) rfl rfl rfl rfl ?_|refine zH (.there (.there .here)) rfl rfl rfl rfl ?_)
        exact J_retv (vs := [.int .i64 i, .bool false]) rfl (.tmp rfl (.tmp rfl .nil)) [] (fun w s => s) (PH.ler _) ⟨rfl, rfl⟩
    · rw [List.getElem?_eq_none (by omega)] at ht
      dsimp only at ht
      subst ht
      repeat (first|refine zJ rfl rfl ?_|refine jr rfl ?_|refine jn ?_|refine zM rfl rfl ?_|(refine zC rfl rfl ?_ rfl ?_;omega)|(refine zD rfl rfl ?_ rfl ?_;omega)|(refine zP rfl ?_ rfl ?_;omega)|refine zG rfl rfl rfl rfl ?_|(refine jdq rfl rfl ?_ ?_ ?_;kernel_rfl;kernel_rfl)|refine zB rfl rfl rfl (by repeat constructor) rfl ?_|refine zH .here rfl rfl rfl rfl ?_|refine zH (.there .here) rfl rfl rfl rfl ?_|refine zH (.there (.there .here)) rfl rfl rfl rfl ?_)
      exact J_retv (vs := [.int .i64 i, .bool false]) rfl (.tmp rfl (.tmp rfl .nil)) [] (fun w s => s) (PH.ler _) ⟨rfl, rfl⟩
end Go.Proofs.Ytdoaloimndehbaa
