/-
  What is proposed. Conditions are typed with each.
-/
import Derived.Test.YtmicjjhkoicdnaaJk
namespace Go.Proofs.Ytmicjjhkoicdnaa
open Go.RowKit
set_option maxRecDepth 100000
/-- By views, then by numbers. -/
def ltW (y w : PrX) : Bool := decide (y.2.1 < w.2.1) || (decide (y.2.1 = w.2.1) && decide (y.1 < w.1))
theorem orI_ltW (y w : PV) : orI (cmpI y.w w.w) (cmpI y.s w.s) < 0 ↔ ltW y.key w.key = true := by
  rw [show ltW y.key w.key = (decide (y.w < w.w) || (decide (y.w = w.w) && decide (y.s < w.s))) from rfl]
  unfold orI cmpI
  simp only [Bool.or_eq_true, Bool.and_eq_true, decide_eq_true_eq]
  by_cases h1 : y.w < w.w <;> by_cases h2 : w.w < y.w <;> by_cases h3 : y.s < w.s <;> by_cases h4 : w.s < y.s <;> simp [h1, h2, h3, h4] <;> omega
/-- The first of those that are least, among the first ones. -/
def worstN (l : List PrX) : Nat → Nat
  | 0 => 0
  | i + 1 => match l[i]?, l[worstN l i]? with
    | some y, some w => if ltW y w then i else worstN l i
    | _, _ => worstN l i
theorem worstN_lt (l : List PrX) : ∀ i, worstN l i < max 1 i
  | 0 => by show 0 < max 1 0; omega
  | i + 1 => by
    have := worstN_lt l i
    unfold worstN
    split
    · split <;> omega
    · omega
theorem newer_len (h : PrX → Bool) (l : List PrX) (x : PrX) : (newerP h l x).length ≤ l.length + 1 := by
  unfold newerP
  split
  · simp
  · split
    · rw [List.length_append, List.length_singleton]
      have := List.length_eraseP_le (p := h) (l := l)
      omega
    · omega
def propP (l : List PrX) (x : PrX) : List PrX :=
  let l' := newerP (alikeP x) l x
  if l'.length ≤ 64 then l' else l'.eraseIdx (worstN l' l'.length)
set_option maxHeartbeats 4000000 in
theorem prop_spec (b : Nat) (v1 v2 : Value) (L : List PV) (x : PV) (F : PH) (hn : L.length ≤ 900) (hL : ∀ y ∈ L, y.Ok F) (hx : x.Ok F) :
    Spec Try.prog 16 [.pointer (some ⟨b, 0, none⟩), .agg x.cs.toArray] F [blk b 66 [v1, v2], prO v2 L] fun _ F' H' => ∃ v' L', H' = [blk b 66 [v1, v'], prO v' L'] ∧ (∀ y ∈ L', y.Ok F') ∧ L'.map PV.key = propP (L.map PV.key) x.key := by
  refine Spec.of2 Try.func16 rfl rfl fun X w0 => ?_
  show J _ _ _ _ (blk b 66 [v1, v2] :: prO v2 L :: X)
  refine jc rfl rfl ?_
  refine jr rfl ?_
  refine oE (ev_box rfl .agg) rfl ?_; rintro _ _ _ _ ⟨rfl, b3, rfl, rfl⟩
  refine oPersist fun hh hA hd => ?_
  have h3 := blk_cells hA hd
  have hF1 := PH.le_l F hh
  generalize F.un hh = F1 at *
  replace hL : ∀ y ∈ L, y.Ok F1 := fun y hy => (hL y hy).mono hF1
  replace hx := hx.mono hF1
  repeat (first|refine zJ rfl rfl ?_|refine jr rfl ?_|refine jn ?_|refine zM rfl rfl ?_|(refine zC rfl rfl ?_ rfl ?_;omega)|(refine zD rfl rfl ?_ rfl ?_;omega)|(refine zP rfl ?_ rfl ?_;omega)|refine zG rfl rfl rfl rfl ?_|(refine jdq rfl rfl ?_ ?_ ?_;kernel_rfl;kernel_rfl)|refine zB rfl rfl rfl (by repeat constructor) rfl ?_|refine zH .here rfl rfl rfl rfl ?_|refine zH (.there .here) rfl rfl rfl rfl ?_|refine zH (.there (.there .here)) rfl rfl rfl rfl ?_)
  refine jaL F1 [blk b 66 [v1, v2]] rfl ?_ ?_ (fun w t => t.head) ?_; kernel_rfl; kernel_rfl; dsimp only [List.dropLast]
  refine aT 0 rfl (ev_pv rfl) rfl rfl ?_ ?_ ?_ ?_; kernel_rfl; kernel_rfl; kernel_rfl
  refine aT 1 rfl (ev_pv rfl) rfl rfl ?_ ?_ ?_ ?_; kernel_rfl; kernel_rfl; kernel_rfl
  refine aT 2 rfl (ev_qe rfl) rfl rfl ?_ ?_ ?_ ?_; kernel_rfl; kernel_rfl; kernel_rfl
  refine aT 3 rfl (ev_qe rfl) rfl rfl ?_ ?_ ?_ ?_; kernel_rfl; kernel_rfl; kernel_rfl
  refine aT 4 rfl (ev_load (v := v2) rfl rfl (Rdb.ofB (n := 1) .here rfl)) rfl rfl ?_ ?_ ?_ ?_; kernel_rfl; kernel_rfl; kernel_rfl
  refine aT 5 rfl (ev_load_agg (cs := x.cs) rfl rfl (Rdb.ofF h3) rfl) rfl rfl ?_ ?_ ?_ ?_; kernel_rfl; kernel_rfl; kernel_rfl
  refine aB (i := 6) (by kernel_rfl) (aV rfl (ev_makeFunc (vs := [.pointer (some ⟨b3, 0, none⟩)]) rfl) rfl rfl ?_)
  refine aB (i := 7) (by kernel_rfl) (aC (Hc := [prO v2 L]) (Hr := blk b 66 [v1, v2] :: X) rfl (newer_spec 33 [.pointer (some ⟨b3, 0, none⟩)] (alikeP x.key) v2 L x F1 hn hL hx Try.call33 (fun y hy => alike_spec y x b3 F1 h3 hy hx)) Try.call32 rfl rfl rfl (fun _ s => s.pm 2 [1, 0] rfl rfl) (fun _ _ _ hF hq w s => by obtain ⟨L', rfl, _⟩ := hq; exact ((s.pick (.there .here)).head).mono hF) ?_)
  rintro u F2 _ hF2 ⟨M, rfl, hok, hkey⟩
  refine aT 8 rfl (ev_qe rfl) rfl rfl ?_ ?_ ?_ ?_; kernel_rfl; kernel_rfl; kernel_rfl
  refine aT 9 rfl (ev_qe rfl) rfl rfl ?_ ?_ ?_ ?_; kernel_rfl; kernel_rfl; kernel_rfl
  refine aD (by kernel_rfl) ?_
  refine jL rfl ?_
  refine oOwnA .here fun a' c' hu' hMc _ _ ha' => ?_
  subst hu'
  refine oN (ev_store (b := b) (off := 0 + 1) (vs := [.slice a' M.length c']) rfl rfl (by constructor) rfl rfl (s := [v1, .slice a' M.length c']) (.skip (.put .nil)) (ones_cons rfl ones_nil) (.there .here)) rfl ?_
  rintro _ _ _ _ ⟨rfl, rfl, rfl⟩
  have hMl : M.length ≤ 901 := by
    have e := congrArg List.length hkey
    rw [List.length_map] at e
    have := newer_len (alikeP x.key) (L.map PV.key) x.key
    rw [List.length_map] at this
    omega
  have hkl : (newerP (alikeP x.key) (L.map PV.key) x.key).length = M.length := by rw [← hkey, List.length_map]
  by_cases h64 : M.length ≤ 64
  · have hp : M.map PV.key = propP (L.map PV.key) x.key := by
      unfold propP
      dsimp only
      rw [if_pos (by omega), hkey]
    repeat (first|refine zJ rfl rfl ?_|refine jr rfl ?_|refine jn ?_|refine zM rfl rfl ?_|(refine zC rfl rfl ?_ rfl ?_;omega)|(refine zD rfl rfl ?_ rfl ?_;omega)|(refine zP rfl ?_ rfl ?_;omega)|refine zG rfl rfl rfl rfl ?_|(refine jdq rfl rfl ?_ ?_ ?_;kernel_rfl;kernel_rfl)|refine zB rfl rfl rfl (by repeat constructor) rfl ?_|refine zH .here rfl rfl rfl rfl ?_|refine zH (.there .here) rfl rfl rfl rfl ?_|refine zH (.there (.there .here)) rfl rfl rfl rfl ?_)
    exact J_retv (rs := []) (vs := []) rfl .nil [blk b 66 [v1, .slice a' M.length c'], prO _ M] (fun w s => s.pm 2 [1, 0] rfl rfl) (hF1.trans hF2) ⟨_, M, rfl, hok, hp⟩
  obtain ⟨g, rfl⟩ := ha' (by omega)
  have hp : propP (L.map PV.key) x.key = (M.map PV.key).eraseIdx (worstN (M.map PV.key) M.length) := by
    unfold propP
    dsimp only
    rw [if_neg (by omega), hkl, hkey]
  generalize hK : M.map PV.key = K at *
  have hKat : ∀ {i : Nat} {y : PV}, M[i]? = some y → K[i]? = some y.key := fun e => by rw [← hK, List.getElem?_map, e]; rfl
  repeat (first|refine zJ rfl rfl ?_|refine jr rfl ?_|refine jn ?_|refine zM rfl rfl ?_|(refine zC rfl rfl ?_ rfl ?_;omega)|(refine zD rfl rfl ?_ rfl ?_;omega)|(refine zP rfl ?_ rfl ?_;omega)|refine zG rfl rfl rfl rfl ?_|(refine jdq rfl rfl ?_ ?_ ?_;kernel_rfl;kernel_rfl)|refine zB rfl rfl rfl (by repeat constructor) rfl ?_|refine zH .here rfl rfl rfl rfl ?_|refine zH (.there .here) rfl rfl rfl rfl ?_|refine zH (.there (.there .here)) rfl rfl rfl rfl ?_)
  refine J_loop (ι := Nat) (fun i => i ≤ M.length) (fun i => M.length - i) (fun i => [(0, .pointer (some ⟨b, 0, none⟩)), (4, .int .i64 (worstN K i)), (29, .slice (some ⟨g, 0, none⟩) M.length c'), (30, .int .i64 M.length), (31, .int .i64 i)]) (fun _ => F2) (fun _ => own (.slice (some ⟨g, 0, none⟩) M.length c') 43 3 M.length (rowC PV.cs M) :: blk b 66 [v1, .slice (some ⟨g, 0, none⟩) M.length c'] :: X) 0 (Nat.zero_le _) ⟨⟨rfl, rfl, rfl, rfl, rfl, trivial⟩, fun w s => s⟩ ?_
  intro i hi
  have hwl := worstN_lt K i
  by_cases hlt : i < M.length
  · have g1 : M[i]? = some M[i] := List.getElem?_eq_getElem hlt
    have g2 : M[worstN K i]? = some (M[worstN K i]'(by omega)) := List.getElem?_eq_getElem (by omega)
    generalize M[i] = y at *
    generalize M[worstN K i]'(by omega) = q at *
    have hnx : worstN K (i + 1) = if ltW y.key q.key then i else worstN K i := by
      conv => lhs; unfold worstN
      rw [hKat g1, hKat g2]
    generalize worstN K i = m at *
    repeat (first|refine zJ rfl rfl ?_|refine jr rfl ?_|refine jn ?_|refine zM rfl rfl ?_|(refine zC rfl rfl ?_ rfl ?_;omega)|(refine zD rfl rfl ?_ rfl ?_;omega)|(refine zP rfl ?_ rfl ?_;omega)|refine zG rfl rfl rfl rfl ?_|(refine jdq rfl rfl ?_ ?_ ?_;kernel_rfl;kernel_rfl)|refine zB rfl rfl rfl (by repeat constructor) rfl ?_|refine zH .here rfl rfl rfl rfl ?_|refine zH (.there .here) rfl rfl rfl rfl ?_|refine zH (.there (.there .here)) rfl rfl rfl rfl ?_)
    refine oS (ev_indexAddr (i := i) rfl rfl rfl hlt) rfl ?_
    refine oS (ev_load_agg (cs := y.cs) rfl rfl (rdb_row .here PV.len g1) y.len) rfl ?_
    refine oE (ev_alloc (cs := zPf) rfl) rfl ?_
    rintro _ _ _ _ ⟨rfl, b6, rfl, rfl⟩
    repeat (first|refine zJ rfl rfl ?_|refine jr rfl ?_|refine jn ?_|refine zM rfl rfl ?_|(refine zC rfl rfl ?_ rfl ?_;omega)|(refine zD rfl rfl ?_ rfl ?_;omega)|(refine zP rfl ?_ rfl ?_;omega)|refine zG rfl rfl rfl rfl ?_|(refine jdq rfl rfl ?_ ?_ ?_;kernel_rfl;kernel_rfl)|refine zB rfl rfl rfl (by repeat constructor) rfl ?_|refine zH .here rfl rfl rfl rfl ?_|refine zH (.there .here) rfl rfl rfl rfl ?_|refine zH (.there (.there .here)) rfl rfl rfl rfl ?_)
    refine oN (ev_store (b := b6) (off := 0) rfl rfl .agg rfl y.len (lay_all (zs := zPf) rfl) y.ones .here) rfl ?_
    rintro _ _ _ _ ⟨rfl, rfl, rfl⟩
    repeat (first|refine zJ rfl rfl ?_|refine jr rfl ?_|refine jn ?_|refine zM rfl rfl ?_|(refine zC rfl rfl ?_ rfl ?_;omega)|(refine zD rfl rfl ?_ rfl ?_;omega)|(refine zP rfl ?_ rfl ?_;omega)|refine zG rfl rfl rfl rfl ?_|(refine jdq rfl rfl ?_ ?_ ?_;kernel_rfl;kernel_rfl)|refine zB rfl rfl rfl (by repeat constructor) rfl ?_|refine zH .here rfl rfl rfl rfl ?_|refine zH (.there .here) rfl rfl rfl rfl ?_|refine zH (.there (.there .here)) rfl rfl rfl rfl ?_)
    refine oS (ev_indexAddr (i := m) rfl rfl rfl (by omega)) rfl ?_
    refine oS (ev_load_agg (cs := q.cs) rfl rfl (rdb_row (.there .here) PV.len g2) q.len) rfl ?_
    refine oE (ev_alloc (cs := zPf) rfl) rfl ?_
    rintro _ _ _ _ ⟨rfl, b7, rfl, rfl⟩
    refine oN (ev_store (b := b7) (off := 0) rfl rfl .agg rfl q.len (lay_all (zs := zPf) rfl) q.ones .here) rfl ?_
    rintro _ _ _ _ ⟨rfl, rfl, rfl⟩
    repeat (first|refine zJ rfl rfl ?_|refine jr rfl ?_|refine jn ?_|refine zM rfl rfl ?_|(refine zC rfl rfl ?_ rfl ?_;omega)|(refine zD rfl rfl ?_ rfl ?_;omega)|(refine zP rfl ?_ rfl ?_;omega)|refine zG rfl rfl rfl rfl ?_|(refine jdq rfl rfl ?_ ?_ ?_;kernel_rfl;kernel_rfl)|refine zB rfl rfl rfl (by repeat constructor) rfl ?_|refine zH .here rfl rfl rfl rfl ?_|refine zH (.there .here) rfl rfl rfl rfl ?_|refine zH (.there (.there .here)) rfl rfl rfl rfl ?_)
    refine ja F2 [blk b7 43 q.cs, blk b6 43 y.cs] ?_ (fun w t => Sat.left (A := [_, _]) t) ?_; kernel_rfl
    refine aT 0 rfl (ev_qe rfl) rfl rfl ?_ ?_ ?_ ?_; kernel_rfl; kernel_rfl; kernel_rfl
    refine aT 1 rfl (ev_load (v := .int .i64 y.w) rfl rfl (Rdb.ofB (n := 1) (.there .here) rfl)) rfl rfl ?_ ?_ ?_ ?_; kernel_rfl; kernel_rfl; kernel_rfl
    refine aT 2 rfl (ev_qe rfl) rfl rfl ?_ ?_ ?_ ?_; kernel_rfl; kernel_rfl; kernel_rfl
    refine aT 3 rfl (ev_load (v := .int .i64 q.w) rfl rfl (Rdb.ofB (n := 1) .here rfl)) rfl rfl ?_ ?_ ?_ ?_; kernel_rfl; kernel_rfl; kernel_rfl
    refine aT 5 rfl (ev_qe rfl) rfl rfl ?_ ?_ ?_ ?_; kernel_rfl; kernel_rfl; kernel_rfl
    refine aT 6 rfl (ev_load (v := .int .i64 y.s) rfl rfl (Rdb.ofB (n := 0) (.there .here) rfl)) rfl rfl ?_ ?_ ?_ ?_; kernel_rfl; kernel_rfl; kernel_rfl
    refine aT 7 rfl (ev_qe rfl) rfl rfl ?_ ?_ ?_ ?_; kernel_rfl; kernel_rfl; kernel_rfl
    refine aT 8 rfl (ev_load (v := .int .i64 q.s) rfl rfl (Rdb.ofB (n := 0) .here rfl)) rfl rfl ?_ ?_ ?_ ?_; kernel_rfl; kernel_rfl; kernel_rfl
    refine aB (i := 4) (by kernel_rfl) (aP rfl (cmp64_spec y.w q.w F2) Try.call29 rfl rfl rfl (fun _ s => Sat.left (A := [_, _]) s) ?_)
    refine aB (i := 9) (by kernel_rfl) (aP rfl (cmp64_spec y.s q.s F2) Try.call29 rfl rfl rfl (fun _ s => Sat.left (A := [_, _]) s) ?_)
    refine aB (i := 10) (by kernel_rfl) (aE rfl (ev_buildSlice (E := 3) (zs := [.int .i64 0]) (t := [.int .i64 (cmpI y.w q.w), .int .i64 (cmpI y.s q.s)]) rfl rfl rfl rfl rfl rfl (.cons .int rfl (lay_set (i := 0) (r := [.int .i64 0, .int .i64 0]) _ (by decide)) (.cons .int rfl (lay_set (i := 1) (r := [.int .i64 (cmpI y.w q.w), .int .i64 0]) _ (by simp)) .nil))) rfl rfl ?_ ?_)
    · rintro _ _ _ _ ⟨rfl, bt, rfl, rfl⟩ w s
      exact Sat.left (A := [_, _]) s.drop
    rintro _ _ _ _ ⟨rfl, bt, rfl, rfl⟩
    refine aB (i := 11) (by kernel_rfl) (aC (Hc := [blk bt 3 [.int .i64 (cmpI y.w q.w), .int .i64 (cmpI y.s q.s)]]) (Hr := blk b7 43 q.cs :: blk b6 43 y.cs :: own (.slice (some ⟨g, 0, none⟩) M.length c') 43 3 M.length (rowC PV.cs M) :: blk b 66 [v1, .slice (some ⟨g, 0, none⟩) M.length c'] :: X) rfl (or_spec (cmpI y.w q.w) (cmpI y.s q.s) bt F2) Try.call35 rfl rfl rfl (fun _ s => s) (fun _ _ _ _ hq w s => by obtain ⟨rfl, _, rfl⟩ := hq; exact Sat.left (A := [_, _]) s.drop) ?_)
    rintro _ _ _ _ ⟨rfl, rfl, rfl⟩
    have hor := orI_ltW y q
    generalize orI (cmpI y.w q.w) (cmpI y.s q.s) = r at *
    by_cases hr : r < 0
    · rw [if_pos (hor.1 hr)] at hnx
      refine aT 12 rfl (ev_cmp_t rfl rfl (by dsimp only [cmpP]; omega)) rfl rfl ?_ ?_ ?_ ?_; kernel_rfl; kernel_rfl; kernel_rfl
      refine aD (by kernel_rfl) ?_
      repeat (first|refine zJ rfl rfl ?_|refine jr rfl ?_|refine jn ?_|refine zM rfl rfl ?_|(refine zC rfl rfl ?_ rfl ?_;omega)|(refine zD rfl rfl ?_ rfl ?_;omega)|(refine zP rfl ?_ rfl ?_;omega)|refine zG rfl rfl rfl rfl ?_|(refine jdq rfl rfl ?_ ?_ ?_;kernel_rfl;kernel_rfl)|refine zB rfl rfl rfl (by repeat constructor) rfl ?_|refine zH .here rfl rfl rfl rfl ?_|refine zH (.there .here) rfl rfl rfl rfl ?_|refine zH (.there (.there .here)) rfl rfl rfl rfl ?_)
      exact J_again (i + 1) hlt (by omega) ⟨⟨rfl, by rw [hnx]; rfl, rfl, rfl, rfl, trivial⟩, fun w s => s.drop.drop.drop⟩
    · rw [if_neg (fun h => hr (hor.2 h))] at hnx
      refine aT 12 rfl (ev_cmp_f rfl rfl (by dsimp only [cmpN]; omega)) rfl rfl ?_ ?_ ?_ ?_; kernel_rfl; kernel_rfl; kernel_rfl
      refine aD (by kernel_rfl) ?_
      repeat (first|refine zJ rfl rfl ?_|refine jr rfl ?_|refine jn ?_|refine zM rfl rfl ?_|(refine zC rfl rfl ?_ rfl ?_;omega)|(refine zD rfl rfl ?_ rfl ?_;omega)|(refine zP rfl ?_ rfl ?_;omega)|refine zG rfl rfl rfl rfl ?_|(refine jdq rfl rfl ?_ ?_ ?_;kernel_rfl;kernel_rfl)|refine zB rfl rfl rfl (by repeat constructor) rfl ?_|refine zH .here rfl rfl rfl rfl ?_|refine zH (.there .here) rfl rfl rfl rfl ?_|refine zH (.there (.there .here)) rfl rfl rfl rfl ?_)
      exact J_again (i + 1) hlt (by omega) ⟨⟨rfl, by rw [hnx]; rfl, rfl, rfl, rfl, trivial⟩, fun w s => s.drop.drop.drop⟩
  · obtain rfl : i = M.length := by omega
    obtain ⟨m, hm⟩ : ∃ m, m = worstN K M.length := ⟨_, rfl⟩
    rw [← hm] at hp hwl ⊢
    obtain ⟨A, y, B, rfl, rfl⟩ : ∃ A y B, M = A ++ y :: B ∧ A.length = m := ⟨M.take m, M[m]'(by omega), M.drop (m + 1), by rw [← List.drop_eq_getElem_cons, List.take_append_drop], by rw [List.length_take]; omega⟩
    have hp' : (A ++ B).map PV.key = propP (L.map PV.key) x.key := by
      rw [hp, ← hK, List.eraseIdx_eq_take_drop_succ, ← List.map_take, ← List.map_drop, List.take_left, show A ++ y :: B = (A ++ [y]) ++ B from by simp, show A.length + 1 = (A ++ [y]).length from by simp, List.drop_left, List.map_append]
    generalize hln : (A ++ y :: B).length = n at *
    repeat (first|refine zJ rfl rfl ?_|refine jr rfl ?_|refine jn ?_|refine zM rfl rfl ?_|(refine zC rfl rfl ?_ rfl ?_;omega)|(refine zD rfl rfl ?_ rfl ?_;omega)|(refine zP rfl ?_ rfl ?_;omega)|refine zG rfl rfl rfl rfl ?_|(refine jdq rfl rfl ?_ ?_ ?_;kernel_rfl;kernel_rfl)|refine zB rfl rfl rfl (by repeat constructor) rfl ?_|refine zH .here rfl rfl rfl rfl ?_|refine zH (.there .here) rfl rfl rfl rfl ?_|refine zH (.there (.there .here)) rfl rfl rfl rfl ?_)
    refine oC (Hc := [own (.slice (some ⟨g, 0, none⟩) n c') 43 3 n (rowC PV.cs (A ++ y :: B))]) (Hr := blk b 66 [v1, .slice (some ⟨g, 0, none⟩) n c'] :: X) (pdel_spec g n c' A y B hln (by omega) hMc F2) Try.call36 rfl rfl (fun _ s => s) ?_
    rintro _ _ _ _ ⟨rfl, rfl, rfl⟩
    repeat (first|refine zJ rfl rfl ?_|refine jr rfl ?_|refine jn ?_|refine zM rfl rfl ?_|(refine zC rfl rfl ?_ rfl ?_;omega)|(refine zD rfl rfl ?_ rfl ?_;omega)|(refine zP rfl ?_ rfl ?_;omega)|refine zG rfl rfl rfl rfl ?_|(refine jdq rfl rfl ?_ ?_ ?_;kernel_rfl;kernel_rfl)|refine zB rfl rfl rfl (by repeat constructor) rfl ?_|refine zH .here rfl rfl rfl rfl ?_|refine zH (.there .here) rfl rfl rfl rfl ?_|refine zH (.there (.there .here)) rfl rfl rfl rfl ?_)
    refine oN (ev_store (b := b) (off := 0 + 1) (vs := [.slice (some ⟨g, 0, none⟩) (n - 1) c']) rfl rfl (by constructor) rfl rfl (s := [v1, .slice (some ⟨g, 0, none⟩) (n - 1) c']) (.skip (.put .nil)) (ones_cons rfl ones_nil) (.there .here)) rfl ?_
    rintro _ _ _ _ ⟨rfl, rfl, rfl⟩
    repeat (first|refine zJ rfl rfl ?_|refine jr rfl ?_|refine jn ?_|refine zM rfl rfl ?_|(refine zC rfl rfl ?_ rfl ?_;omega)|(refine zD rfl rfl ?_ rfl ?_;omega)|(refine zP rfl ?_ rfl ?_;omega)|refine zG rfl rfl rfl rfl ?_|(refine jdq rfl rfl ?_ ?_ ?_;kernel_rfl;kernel_rfl)|refine zB rfl rfl rfl (by repeat constructor) rfl ?_|refine zH .here rfl rfl rfl rfl ?_|refine zH (.there .here) rfl rfl rfl rfl ?_|refine zH (.there (.there .here)) rfl rfl rfl rfl ?_)
    refine zE rfl ?_
    refine J_end (X := X) rfl [blk b 66 [v1, .slice (some ⟨g, 0, none⟩) (n - 1) c'], prO (.slice (some ⟨g, 0, none⟩) (n - 1) c') (A ++ B)] (fun w s => ?_) (hF1.trans hF2) ⟨_, A ++ B, rfl, fun q hq => hok q (by rcases List.mem_append.1 hq with hq | hq; exact List.mem_append_left _ hq; exact List.mem_append_right _ (List.mem_cons_of_mem _ hq)), hp'⟩
    unfold prO
    rw [show (A ++ B).length = n - 1 from by rw [← hln]; simp only [List.length_append, List.length_cons]; omega]
    exact s.pm 2 [1, 0] rfl rfl
end Go.Proofs.Ytmicjjhkoicdnaa
