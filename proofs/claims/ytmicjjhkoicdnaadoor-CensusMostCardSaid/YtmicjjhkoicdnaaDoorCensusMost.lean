/-
  Of which kind there are most is what the counts say, of several the lowest (CensusMost). No condition beyond the row's own.
-/
import Derived.Test.YtmicjjhkoicdnaaDoorYj
namespace Go.Proofs.YtmicjjhkoicdnaaDoor
open Go.RowKit
set_option maxRecDepth 100000
/-- What Most answers of any parcels. -/
theorem mostS_is (xs : List SentX) : ∀ n, ((mostS xs n).1 = 0 ∧ (mostS xs n).2 = (0, 0) ∨ 0 < (mostS xs n).1 ∧ (mostS xs n).1 < n ∧ (mostS xs n).2 = kTot xs (mostS xs n).1 ∧ 0 < (mostS xs n).2.1) ∧
    ∀ k, 0 < k → k < n → (kTot xs k).1 ≤ (mostS xs n).2.1 ∧ (k < (mostS xs n).1 → (kTot xs k).1 < (mostS xs n).2.1)
  | 0 => ⟨.inl ⟨rfl, rfl⟩, fun k _ h => absurd h (by omega)⟩
  | n + 1 => by
    obtain ⟨h1, h2⟩ := mostS_is xs n
    have e : mostS xs (n + 1) = if 0 < n ∧ (mostS xs n).2.1 < (kTot xs n).1 then (n, kTot xs n) else mostS xs n := rfl
    rw [e]
    by_cases hc : 0 < n ∧ (mostS xs n).2.1 < (kTot xs n).1
    · rw [if_pos hc]
      refine ⟨.inr ⟨hc.1, by dsimp only; omega, rfl, by dsimp only; omega⟩, fun k hk hkn => ?_⟩
      dsimp only
      rcases Nat.lt_or_ge k n with h | h
      · have := (h2 k hk h).1
        exact ⟨by omega, fun _ => by omega⟩
      · obtain rfl : k = n := by omega
        exact ⟨Nat.le_refl _, fun h => absurd h (by omega)⟩
    · rw [if_neg hc]
      refine ⟨?_, fun k hk hkn => ?_⟩
      · rcases h1 with h | ⟨a, b, c, d⟩
        · exact .inl h
        · exact .inr ⟨a, by omega, c, d⟩
      · rcases Nat.lt_or_ge k n with h | h
        · exact h2 k hk h
        · obtain rfl : k = n := by omega
          refine ⟨by omega, fun h => ?_⟩
          rcases h1 with ⟨a, _⟩ | ⟨a, b, c, d⟩ <;> omega
def sentK (c : UInt8) : SentX := ⟨0, 0, ((c.toNat % 16 : Nat) : Int), 0, [], []⟩
def rowK (c : UInt8) : List Value := sentC (sentK c) (.slice none 0 0) (.slice none 0 0)
theorem rowK_ok (F : PH) (c : UInt8) : SentOk F (sentK c) (rowK c) := ⟨_, _, rfl, SliceV.nil F 1, Tags.nil F, by show 0 ≤ 1000; omega, by show 0 ≤ 1000; omega⟩
set_option maxHeartbeats 8000000 in
theorem CensusMost_walk (v : Value) (bs : List UInt8) (F : PH) (hT : TabF F) (hv : Byt F v bs) (hl : bs.length ≤ maxLen) : Pure Tryd.prog 4 [v] F (.bool true) := by
  obtain ⟨av, cv', rfl, hcv⟩ := hv.form
  unfold maxLen at hl
  refine Spec.of1 Tryd.func4 rfl rfl fun X w0 => ?_
  repeat (first|refine zJ rfl rfl ?_|refine jr rfl ?_|refine jn ?_|refine zM rfl rfl ?_|(refine zC rfl rfl ?_ rfl ?_;omega)|(refine zD rfl rfl ?_ rfl ?_;omega)|(refine zP rfl ?_ rfl ?_;omega)|refine zG rfl rfl rfl rfl ?_|(refine jdq rfl rfl ?_ ?_ ?_;kernel_rfl;kernel_rfl)|refine zB rfl rfl rfl (by repeat constructor) rfl ?_|refine zH .here rfl rfl rfl rfl ?_|refine zH (.there .here) rfl rfl rfl rfl ?_|refine zH (.there (.there .here)) rfl rfl rfl rfl ?_|refine zH (.there (.there (.there .here))) rfl rfl rfl rfl ?_|refine zH (.there (.there (.there (.there .here)))) rfl rfl rfl rfl ?_)
  refine oP (fixed43 F hT) Tryd.call6 rfl rfl ?_
  by_cases h200 : 200 < bs.length
  · repeat (first|refine zJ rfl rfl ?_|refine jr rfl ?_|refine jn ?_|refine zM rfl rfl ?_|(refine zC rfl rfl ?_ rfl ?_;omega)|(refine zD rfl rfl ?_ rfl ?_;omega)|(refine zP rfl ?_ rfl ?_;omega)|refine zG rfl rfl rfl rfl ?_|(refine jdq rfl rfl ?_ ?_ ?_;kernel_rfl;kernel_rfl)|refine zB rfl rfl rfl (by repeat constructor) rfl ?_|refine zH .here rfl rfl rfl rfl ?_|refine zH (.there .here) rfl rfl rfl rfl ?_|refine zH (.there (.there .here)) rfl rfl rfl rfl ?_|refine zH (.there (.there (.there .here))) rfl rfl rfl rfl ?_|refine zH (.there (.there (.there (.there .here)))) rfl rfl rfl rfl ?_)
    exact J_ret1 rfl rfl [] rfl (PH.ler _) ⟨rfl, rfl⟩
  repeat (first|refine zJ rfl rfl ?_|refine jr rfl ?_|refine jn ?_|refine zM rfl rfl ?_|(refine zC rfl rfl ?_ rfl ?_;omega)|(refine zD rfl rfl ?_ rfl ?_;omega)|(refine zP rfl ?_ rfl ?_;omega)|refine zG rfl rfl rfl rfl ?_|(refine jdq rfl rfl ?_ ?_ ?_;kernel_rfl;kernel_rfl)|refine zB rfl rfl rfl (by repeat constructor) rfl ?_|refine zH .here rfl rfl rfl rfl ?_|refine zH (.there .here) rfl rfl rfl rfl ?_|refine zH (.there (.there .here)) rfl rfl rfl rfl ?_|refine zH (.there (.there (.there .here))) rfl rfl rfl rfl ?_|refine zH (.there (.there (.there (.there .here)))) rfl rfl rfl rfl ?_)
  refine oC (Hc := []) (Hr := X) (new_spec F) Tryd.call10 rfl rfl (fun w s => s) ?_
  rintro _ _ _ _ ⟨rfl, b, rfl, rfl⟩
  repeat (first|refine zJ rfl rfl ?_|refine jr rfl ?_|refine jn ?_|refine zM rfl rfl ?_|(refine zC rfl rfl ?_ rfl ?_;omega)|(refine zD rfl rfl ?_ rfl ?_;omega)|(refine zP rfl ?_ rfl ?_;omega)|refine zG rfl rfl rfl rfl ?_|(refine jdq rfl rfl ?_ ?_ ?_;kernel_rfl;kernel_rfl)|refine zB rfl rfl rfl (by repeat constructor) rfl ?_|refine zH .here rfl rfl rfl rfl ?_|refine zH (.there .here) rfl rfl rfl rfl ?_|refine zH (.there (.there .here)) rfl rfl rfl rfl ?_|refine zH (.there (.there (.there .here))) rfl rfl rfl rfl ?_|refine zH (.there (.there (.there (.there .here)))) rfl rfl rfl rfl ?_)
  refine J_loop2 (fun (i : Nat) (u : Value) => i ≤ bs.length) (fun i _ => bs.length - i) (fun i _ => [(3, .pointer (some ⟨b, 0, none⟩)), (17, .slice av bs.length cv'), (18, .int .i64 bs.length), (19, .int .i64 i)]) (fun _ _ => F)
    (fun i u => crowd b u i ((bs.take i).map rowK).flatten ++ X) 0 (.slice none 0 0) (Nat.zero_le _) ⟨⟨rfl, rfl, rfl, rfl, trivial⟩, fun w s => s⟩ ?_
  intro i u hi
  by_cases hlt : i < bs.length
  · have hx : bs[i]? = some bs[i] := List.getElem?_eq_getElem hlt
    obtain ⟨bb, off, rfl, hcc⟩ := hv.at hlt
    generalize bs[i] = c at *
    repeat (first|refine zJ rfl rfl ?_|refine jr rfl ?_|refine jn ?_|refine zM rfl rfl ?_|(refine zC rfl rfl ?_ rfl ?_;omega)|(refine zD rfl rfl ?_ rfl ?_;omega)|(refine zP rfl ?_ rfl ?_;omega)|refine zG rfl rfl rfl rfl ?_|(refine jdq rfl rfl ?_ ?_ ?_;kernel_rfl;kernel_rfl)|refine zB rfl rfl rfl (by repeat constructor) rfl ?_|refine zH .here rfl rfl rfl rfl ?_|refine zH (.there .here) rfl rfl rfl rfl ?_|refine zH (.there (.there .here)) rfl rfl rfl rfl ?_|refine zH (.there (.there (.there .here))) rfl rfl rfl rfl ?_|refine zH (.there (.there (.there (.there .here)))) rfl rfl rfl rfl ?_)
    refine oS (ev_indexAddr rfl rfl rfl hlt) rfl ?_
    refine oS (ev_load rfl rfl (Rdb.ofF hcc)) rfl ?_
    repeat (first|refine zJ rfl rfl ?_|refine jr rfl ?_|refine jn ?_|refine zM rfl rfl ?_|(refine zC rfl rfl ?_ rfl ?_;omega)|(refine zD rfl rfl ?_ rfl ?_;omega)|(refine zP rfl ?_ rfl ?_;omega)|refine zG rfl rfl rfl rfl ?_|(refine jdq rfl rfl ?_ ?_ ?_;kernel_rfl;kernel_rfl)|refine zB rfl rfl rfl (by repeat constructor) rfl ?_|refine zH .here rfl rfl rfl rfl ?_|refine zH (.there .here) rfl rfl rfl rfl ?_|refine zH (.there (.there .here)) rfl rfl rfl rfl ?_|refine zH (.there (.there (.there .here))) rfl rfl rfl rfl ?_|refine zH (.there (.there (.there (.there .here)))) rfl rfl rfl rfl ?_)
    refine oS (ev_rem (m := (c.toNat : Int)) (n := 16) rfl rfl (by omega) (by omega)) rfl ?_
    obtain ⟨m, hm, hm16⟩ : ∃ m : Nat, c.toNat % 16 = m ∧ m < 16 := ⟨_, rfl, Nat.mod_lt _ (by omega)⟩
    have hmi : (c.toNat : Int) % 16 = (m : Int) := by omega
    have hrow : rowK c = [.int .i64 0, .int .i64 0, .int .i64 m, .int .i64 0, .slice none 0 0, .slice none 0 0] := by unfold rowK sentC sentK; rw [hm]
    rw [hmi]
    repeat (first|refine zJ rfl rfl ?_|refine jr rfl ?_|refine jn ?_|refine zM rfl rfl ?_|(refine zC rfl rfl ?_ rfl ?_;omega)|(refine zD rfl rfl ?_ rfl ?_;omega)|(refine zP rfl ?_ rfl ?_;omega)|refine zG rfl rfl rfl rfl ?_|(refine jdq rfl rfl ?_ ?_ ?_;kernel_rfl;kernel_rfl)|refine zB rfl rfl rfl (by repeat constructor) rfl ?_|refine zH .here rfl rfl rfl rfl ?_|refine zH (.there .here) rfl rfl rfl rfl ?_|refine zH (.there (.there .here)) rfl rfl rfl rfl ?_|refine zH (.there (.there (.there .here))) rfl rfl rfl rfl ?_|refine zH (.there (.there (.there (.there .here)))) rfl rfl rfl rfl ?_)
    refine oE (ev_buildSlice (E := 35) (zs := [.int .i64 0, .int .i64 0, .int .i64 0, .slice none 0 0, .slice none 0 0]) (r := [.int .i64 0, .int .i64 0, .int .i64 0, .slice none 0 0, .slice none 0 0]) (t := [.int .i64 0, .int .i64 m, .int .i64 0, .slice none 0 0, .slice none 0 0]) rfl rfl rfl rfl rfl rfl (.cons .agg rfl (by repeat constructor) .nil)) rfl ?_
    rintro _ _ _ _ ⟨rfl, bl, rfl, rfl⟩
    refine oPersist fun h2 ho2 hd2 => ?_
    have hc := blk_cells ho2 hd2
    have hF1 : F.le (F.un h2) := PH.le_l _ _
    generalize F.un h2 = F1 at hc hF1
    have hsl : SliceV F1 5 (.slice (some ⟨bl, 0, none⟩) 1 1) 1 [[.int .i64 0, .int .i64 m, .int .i64 0, .slice none 0 0, .slice none 0 0]].flatten := ⟨rfl, _, 1, rfl, Nat.le_refl _, fun _ => ⟨bl, 0, rfl, hc⟩⟩
    refine oC (Hc := crowd b u i ((bs.take i).map rowK).flatten) (Hr := X) (cput_spec b 1 i 1 0 u _ _ [[.int .i64 0, .int .i64 m, .int .i64 0, .slice none 0 0, .slice none 0 0]] F1 (by intro c hc; simp at hc; subst hc; exact ⟨rfl, by (repeat (first | exact ones_nil | refine ones_cons rfl ?_))⟩) hsl rfl (by omega) (by omega)) Tryd.call11 rfl rfl (fun w s => s) ?_
    rintro _ _ _ _ ⟨rfl, u', rfl, rfl⟩
    have hmin : min 1 (16384 - i) = 1 := by omega
    rw [hmin]
    have hos : ((bs.take i).map rowK).flatten ++ puts 0 ([[.int .i64 0, .int .i64 m, .int .i64 0, .slice none 0 0, .slice none 0 0]].take 1) = ((bs.take (i + 1)).map rowK).flatten := by
      rw [take_snoc' hx, List.map_append, List.flatten_append]
      simp [puts, hrow]
    rw [hos]
    repeat (first|refine zJ rfl rfl ?_|refine jr rfl ?_|refine jn ?_|refine zM rfl rfl ?_|(refine zC rfl rfl ?_ rfl ?_;omega)|(refine zD rfl rfl ?_ rfl ?_;omega)|(refine zP rfl ?_ rfl ?_;omega)|refine zG rfl rfl rfl rfl ?_|(refine jdq rfl rfl ?_ ?_ ?_;kernel_rfl;kernel_rfl)|refine zB rfl rfl rfl (by repeat constructor) rfl ?_|refine zH .here rfl rfl rfl rfl ?_|refine zH (.there .here) rfl rfl rfl rfl ?_|refine zH (.there (.there .here)) rfl rfl rfl rfl ?_|refine zH (.there (.there (.there .here))) rfl rfl rfl rfl ?_|refine zH (.there (.there (.there (.there .here)))) rfl rfl rfl rfl ?_)
    exact J_again2 (i + 1) u' (by omega) (by omega) ⟨⟨rfl, rfl, rfl, rfl, trivial⟩, fun w s => s.mono hF1⟩
  · obtain rfl : i = bs.length := by omega
    rw [List.take_length]
    have hC : Crw F (.pointer (some ⟨b, 0, none⟩)) (crowd b u bs.length (bs.map rowK).flatten) (bs.map sentK) := by
      have := Crw.of (F := F) (b := b) (v := u) (xs := bs.map sentK) (rows := bs.map rowK) (by simp; omega) (by simp) fun i x r hx hr => by
        rw [List.getElem?_map] at hx hr
        cases hg : bs[i]? with
        | none => rw [hg] at hx; cases hx
        | some c => rw [hg] at hx hr; cases hx; cases hr; exact rowK_ok F c
      rwa [List.length_map] at this
    have hms := most_spec _ _ (bs.map sentK) F hC
    have hby := byKind_spec _ _ (bs.map sentK) F hC
    obtain ⟨hone, hall⟩ := mostS_is (bs.map sentK) 13
    have hbest : (mostS (bs.map sentK) 13).1 < 13 := by rcases hone with ⟨h, _⟩ | ⟨_, h, _⟩ <;> omega
    have hbd : ∀ k, (kTot (bs.map sentK) k).1 ≤ 200 := fun k => by
      have := (tot_le (at_ kindK (k : Int)) (bs.map sentK) (fun x hx => by obtain ⟨c, _, rfl⟩ := List.mem_map.1 hx; show 0 + 32 * 0 + 8 ≤ 40000; omega)).1
      rw [List.length_map] at this
      unfold kTot; omega
    have hyl : (byK (bs.map sentK)).length = 13 := by simp [byK]
    have hyk : ∀ k, k < 13 → (byK (bs.map sentK))[k]? = some (kTot (bs.map sentK) k) := fun k hk => by unfold byK; rw [List.getElem?_map, List.getElem?_range hk]; rfl
    generalize byK (bs.map sentK) = ys at *
    generalize kTot (bs.map sentK) = kt at *
    generalize mostS (bs.map sentK) 13 = r at *
    obtain ⟨best, bm, bz⟩ := r
    dsimp only at *
    generalize crowd b u bs.length (bs.map rowK).flatten = HC at *
    repeat (first|refine zJ rfl rfl ?_|refine jr rfl ?_|refine jn ?_|refine zM rfl rfl ?_|(refine zC rfl rfl ?_ rfl ?_;omega)|(refine zD rfl rfl ?_ rfl ?_;omega)|(refine zP rfl ?_ rfl ?_;omega)|refine zG rfl rfl rfl rfl ?_|(refine jdq rfl rfl ?_ ?_ ?_;kernel_rfl;kernel_rfl)|refine zB rfl rfl rfl (by repeat constructor) rfl ?_|refine zH .here rfl rfl rfl rfl ?_|refine zH (.there .here) rfl rfl rfl rfl ?_|refine zH (.there (.there .here)) rfl rfl rfl rfl ?_|refine zH (.there (.there (.there .here))) rfl rfl rfl rfl ?_|refine zH (.there (.there (.there (.there .here)))) rfl rfl rfl rfl ?_)
    refine oC (Hc := HC) (Hr := X) hms Tryd.call12 rfl rfl (fun w s => s) ?_
    rintro _ F2 H2 hF2 ⟨rfl, rfl⟩
    refine oW (F' := F) (H' := H2 ++ X) ?_ (fun w s => s.mono hF2)
    repeat (first|refine zJ rfl rfl ?_|refine jr rfl ?_|refine jn ?_|refine zM rfl rfl ?_|(refine zC rfl rfl ?_ rfl ?_;omega)|(refine zD rfl rfl ?_ rfl ?_;omega)|(refine zP rfl ?_ rfl ?_;omega)|refine zG rfl rfl rfl rfl ?_|(refine jdq rfl rfl ?_ ?_ ?_;kernel_rfl;kernel_rfl)|refine zB rfl rfl rfl (by repeat constructor) rfl ?_|refine zH .here rfl rfl rfl rfl ?_|refine zH (.there .here) rfl rfl rfl rfl ?_|refine zH (.there (.there .here)) rfl rfl rfl rfl ?_|refine zH (.there (.there (.there .here))) rfl rfl rfl rfl ?_|refine zH (.there (.there (.there (.there .here)))) rfl rfl rfl rfl ?_)
    refine oE (ev_alloc rfl) rfl ?_
    rintro _ _ _ _ ⟨rfl, b7, rfl, rfl⟩
    repeat (first|refine zJ rfl rfl ?_|refine jr rfl ?_|refine jn ?_|refine zM rfl rfl ?_|(refine zC rfl rfl ?_ rfl ?_;omega)|(refine zD rfl rfl ?_ rfl ?_;omega)|(refine zP rfl ?_ rfl ?_;omega)|refine zG rfl rfl rfl rfl ?_|(refine jdq rfl rfl ?_ ?_ ?_;kernel_rfl;kernel_rfl)|refine zB rfl rfl rfl (by repeat constructor) rfl ?_|refine zH .here rfl rfl rfl rfl ?_|refine zH (.there .here) rfl rfl rfl rfl ?_|refine zH (.there (.there .here)) rfl rfl rfl rfl ?_|refine zH (.there (.there (.there .here))) rfl rfl rfl rfl ?_|refine zH (.there (.there (.there (.there .here)))) rfl rfl rfl rfl ?_)
    refine oN (ev_store (vs := cvC (bm, bz)) rfl rfl .agg rfl rfl (lay_all (zs := cvC (0, 0)) rfl) (ones_cvC _) .here) rfl ?_
    rintro _ _ _ _ ⟨rfl, _, rfl⟩
    repeat (first|refine zJ rfl rfl ?_|refine jr rfl ?_|refine jn ?_|refine zM rfl rfl ?_|(refine zC rfl rfl ?_ rfl ?_;omega)|(refine zD rfl rfl ?_ rfl ?_;omega)|(refine zP rfl ?_ rfl ?_;omega)|refine zG rfl rfl rfl rfl ?_|(refine jdq rfl rfl ?_ ?_ ?_;kernel_rfl;kernel_rfl)|refine zB rfl rfl rfl (by repeat constructor) rfl ?_|refine zH .here rfl rfl rfl rfl ?_|refine zH (.there .here) rfl rfl rfl rfl ?_|refine zH (.there (.there .here)) rfl rfl rfl rfl ?_|refine zH (.there (.there (.there .here))) rfl rfl rfl rfl ?_|refine zH (.there (.there (.there (.there .here)))) rfl rfl rfl rfl ?_)
    refine oC (Hc := H2) (Hr := blk b7 38 (cvC (bm, bz)) :: X) hby Tryd.call13 rfl rfl (fun w s => Sat.front (A := [_]) s) ?_
    rintro _ F3 H3 hF3 ⟨rfl, rfl⟩
    refine oW (F' := F) (H' := blk b7 38 (cvC (bm, bz)) :: X) ?_ (fun w s => (Sat.leftL (s.perm List.perm_append_comm)).mono hF3)
    have hrl : (rowC cvC ys).length = 26 := by rw [rowC_len cvC_len, hyl]
    have hro : Ones (rowC cvC ys) := ones_rowC ones_cvC _
    refine oE (ev_alloc rfl) rfl ?_
    rintro _ _ _ _ ⟨rfl, b8, rfl, rfl⟩
    refine oN (ev_store rfl rfl .agg rfl hrl (lay_all (zs := List.replicate 26 (.int .i64 0)) (by rw [hrl]; rfl)) hro .here) rfl ?_
    rintro _ _ _ _ ⟨rfl, _, rfl⟩
    repeat (first|refine zJ rfl rfl ?_|refine jr rfl ?_|refine jn ?_|refine zM rfl rfl ?_|(refine zC rfl rfl ?_ rfl ?_;omega)|(refine zD rfl rfl ?_ rfl ?_;omega)|(refine zP rfl ?_ rfl ?_;omega)|refine zG rfl rfl rfl rfl ?_|(refine jdq rfl rfl ?_ ?_ ?_;kernel_rfl;kernel_rfl)|refine zB rfl rfl rfl (by repeat constructor) rfl ?_|refine zH .here rfl rfl rfl rfl ?_|refine zH (.there .here) rfl rfl rfl rfl ?_|refine zH (.there (.there .here)) rfl rfl rfl rfl ?_|refine zH (.there (.there (.there .here))) rfl rfl rfl rfl ?_|refine zH (.there (.there (.there (.there .here)))) rfl rfl rfl rfl ?_)
    refine oS (ev_load_agg (cs := rowC cvC ys) rfl rfl (Rdb.ofB (n := 0) .here (by rw [List.drop_zero, List.take_length])) hrl) rfl ?_
    repeat (first|refine zJ rfl rfl ?_|refine jr rfl ?_|refine jn ?_|refine zM rfl rfl ?_|(refine zC rfl rfl ?_ rfl ?_;omega)|(refine zD rfl rfl ?_ rfl ?_;omega)|(refine zP rfl ?_ rfl ?_;omega)|refine zG rfl rfl rfl rfl ?_|(refine jdq rfl rfl ?_ ?_ ?_;kernel_rfl;kernel_rfl)|refine zB rfl rfl rfl (by repeat constructor) rfl ?_|refine zH .here rfl rfl rfl rfl ?_|refine zH (.there .here) rfl rfl rfl rfl ?_|refine zH (.there (.there .here)) rfl rfl rfl rfl ?_|refine zH (.there (.there (.there .here))) rfl rfl rfl rfl ?_|refine zH (.there (.there (.there (.there .here)))) rfl rfl rfl rfl ?_)
    refine J_loop (ι := Nat) (fun j => j ≤ 13) (fun j => 13 - j) (fun j => [(6, .int .i64 best), (7, .pointer (some ⟨b7, 0, none⟩)), (8, .pointer (some ⟨b8, 0, none⟩)), (39, .agg (rowC cvC ys).toArray), (40, .int .i64 j)]) (fun _ => F)
      (fun _ => blk b8 41 (rowC cvC ys) :: blk b7 38 (cvC (bm, bz)) :: X) 0 (Nat.zero_le _) ⟨⟨rfl, rfl, rfl, rfl, rfl, trivial⟩, fun w s => s⟩ ?_
    intro j hj
    by_cases hlt : j < 13
    · have hrow := rowC_at cvC_len (hyk j hlt)
      have hm200 := hbd j
      have hj0 := hall j
      generalize kt j = y at hrow hm200 hj0
      obtain ⟨m, z⟩ := y
      dsimp only at *
      repeat (first|refine zJ rfl rfl ?_|refine jr rfl ?_|refine jn ?_|refine zM rfl rfl ?_|(refine zC rfl rfl ?_ rfl ?_;omega)|(refine zD rfl rfl ?_ rfl ?_;omega)|(refine zP rfl ?_ rfl ?_;omega)|refine zG rfl rfl rfl rfl ?_|(refine jdq rfl rfl ?_ ?_ ?_;kernel_rfl;kernel_rfl)|refine zB rfl rfl rfl (by repeat constructor) rfl ?_|refine zH .here rfl rfl rfl rfl ?_|refine zH (.there .here) rfl rfl rfl rfl ?_|refine zH (.there (.there .here)) rfl rfl rfl rfl ?_|refine zH (.there (.there (.there .here))) rfl rfl rfl rfl ?_|refine zH (.there (.there (.there (.there .here)))) rfl rfl rfl rfl ?_)
      refine oS (ev_index_n (i := j) rfl rfl rfl rfl hlt) rfl ?_
      rw [hrow]
      refine oE (ev_alloc rfl) rfl ?_
      rintro _ _ _ _ ⟨rfl, b10, rfl, rfl⟩
      repeat (first|refine zJ rfl rfl ?_|refine jr rfl ?_|refine jn ?_|refine zM rfl rfl ?_|(refine zC rfl rfl ?_ rfl ?_;omega)|(refine zD rfl rfl ?_ rfl ?_;omega)|(refine zP rfl ?_ rfl ?_;omega)|refine zG rfl rfl rfl rfl ?_|(refine jdq rfl rfl ?_ ?_ ?_;kernel_rfl;kernel_rfl)|refine zB rfl rfl rfl (by repeat constructor) rfl ?_|refine zH .here rfl rfl rfl rfl ?_|refine zH (.there .here) rfl rfl rfl rfl ?_|refine zH (.there (.there .here)) rfl rfl rfl rfl ?_|refine zH (.there (.there (.there .here))) rfl rfl rfl rfl ?_|refine zH (.there (.there (.there (.there .here)))) rfl rfl rfl rfl ?_)
      refine oN (ev_store (vs := cvC (m, z)) rfl rfl .agg rfl rfl (lay_all (zs := cvC (0, 0)) rfl) (ones_cvC _) .here) rfl ?_
      rintro _ _ _ _ ⟨rfl, _, rfl⟩
      by_cases h0 : 0 < j
      · have hj1 := hj0 h0 hlt
        by_cases h1 : m = bm
        · by_cases h2 : 0 < m
          · have h3 : ¬ j < best := fun h => by have := hj1.2 h; omega
            unfold cvC
            dsimp only
            repeat (first|refine zJ rfl rfl ?_|refine jr rfl ?_|refine jn ?_|refine zM rfl rfl ?_|(refine zC rfl rfl ?_ rfl ?_;omega)|(refine zD rfl rfl ?_ rfl ?_;omega)|(refine zP rfl ?_ rfl ?_;omega)|refine zG rfl rfl rfl rfl ?_|(refine jdq rfl rfl ?_ ?_ ?_;kernel_rfl;kernel_rfl)|refine zB rfl rfl rfl (by repeat constructor) rfl ?_|refine zH .here rfl rfl rfl rfl ?_|refine zH (.there .here) rfl rfl rfl rfl ?_|refine zH (.there (.there .here)) rfl rfl rfl rfl ?_|refine zH (.there (.there (.there .here))) rfl rfl rfl rfl ?_|refine zH (.there (.there (.there (.there .here)))) rfl rfl rfl rfl ?_)
            exact J_again (j + 1) (by omega) (by omega) ⟨⟨rfl, rfl, rfl, rfl, rfl, trivial⟩, fun w s => s.drop⟩
          · unfold cvC
            dsimp only
            repeat (first|refine zJ rfl rfl ?_|refine jr rfl ?_|refine jn ?_|refine zM rfl rfl ?_|(refine zC rfl rfl ?_ rfl ?_;omega)|(refine zD rfl rfl ?_ rfl ?_;omega)|(refine zP rfl ?_ rfl ?_;omega)|refine zG rfl rfl rfl rfl ?_|(refine jdq rfl rfl ?_ ?_ ?_;kernel_rfl;kernel_rfl)|refine zB rfl rfl rfl (by repeat constructor) rfl ?_|refine zH .here rfl rfl rfl rfl ?_|refine zH (.there .here) rfl rfl rfl rfl ?_|refine zH (.there (.there .here)) rfl rfl rfl rfl ?_|refine zH (.there (.there (.there .here))) rfl rfl rfl rfl ?_|refine zH (.there (.there (.there (.there .here)))) rfl rfl rfl rfl ?_)
            exact J_again (j + 1) (by omega) (by omega) ⟨⟨rfl, rfl, rfl, rfl, rfl, trivial⟩, fun w s => s.drop⟩
        · unfold cvC
          dsimp only
          repeat (first|refine zJ rfl rfl ?_|refine jr rfl ?_|refine jn ?_|refine zM rfl rfl ?_|(refine zC rfl rfl ?_ rfl ?_;omega)|(refine zD rfl rfl ?_ rfl ?_;omega)|(refine zP rfl ?_ rfl ?_;omega)|refine zG rfl rfl rfl rfl ?_|(refine jdq rfl rfl ?_ ?_ ?_;kernel_rfl;kernel_rfl)|refine zB rfl rfl rfl (by repeat constructor) rfl ?_|refine zH .here rfl rfl rfl rfl ?_|refine zH (.there .here) rfl rfl rfl rfl ?_|refine zH (.there (.there .here)) rfl rfl rfl rfl ?_|refine zH (.there (.there (.there .here))) rfl rfl rfl rfl ?_|refine zH (.there (.there (.there (.there .here)))) rfl rfl rfl rfl ?_)
          exact J_again (j + 1) (by omega) (by omega) ⟨⟨rfl, rfl, rfl, rfl, rfl, trivial⟩, fun w s => s.drop⟩
      · unfold cvC
        dsimp only
        repeat (first|refine zJ rfl rfl ?_|refine jr rfl ?_|refine jn ?_|refine zM rfl rfl ?_|(refine zC rfl rfl ?_ rfl ?_;omega)|(refine zD rfl rfl ?_ rfl ?_;omega)|(refine zP rfl ?_ rfl ?_;omega)|refine zG rfl rfl rfl rfl ?_|(refine jdq rfl rfl ?_ ?_ ?_;kernel_rfl;kernel_rfl)|refine zB rfl rfl rfl (by repeat constructor) rfl ?_|refine zH .here rfl rfl rfl rfl ?_|refine zH (.there .here) rfl rfl rfl rfl ?_|refine zH (.there (.there .here)) rfl rfl rfl rfl ?_|refine zH (.there (.there (.there .here))) rfl rfl rfl rfl ?_|refine zH (.there (.there (.there (.there .here)))) rfl rfl rfl rfl ?_)
        exact J_again (j + 1) (by omega) (by omega) ⟨⟨rfl, rfl, rfl, rfl, rfl, trivial⟩, fun w s => s.drop⟩
    · obtain rfl : j = 13 := by omega
      rcases hone with ⟨rfl, e⟩ | ⟨hb0, _, e, hb1⟩
      · cases e
        repeat (first|refine zJ rfl rfl ?_|refine jr rfl ?_|refine jn ?_|refine zM rfl rfl ?_|(refine zC rfl rfl ?_ rfl ?_;omega)|(refine zD rfl rfl ?_ rfl ?_;omega)|(refine zP rfl ?_ rfl ?_;omega)|refine zG rfl rfl rfl rfl ?_|(refine jdq rfl rfl ?_ ?_ ?_;kernel_rfl;kernel_rfl)|refine zB rfl rfl rfl (by repeat constructor) rfl ?_|refine zH .here rfl rfl rfl rfl ?_|refine zH (.there .here) rfl rfl rfl rfl ?_|refine zH (.there (.there .here)) rfl rfl rfl rfl ?_|refine zH (.there (.there (.there .here))) rfl rfl rfl rfl ?_|refine zH (.there (.there (.there (.there .here)))) rfl rfl rfl rfl ?_)
        exact J_retv rfl (.tmp rfl .nil) [] (fun w s => s.drop.drop) (PH.ler _) ⟨rfl, rfl⟩
      · have hrow := rowC_at cvC_len (hyk best hbest)
        rw [← e] at hrow
        repeat (first|refine zJ rfl rfl ?_|refine jr rfl ?_|refine jn ?_|refine zM rfl rfl ?_|(refine zC rfl rfl ?_ rfl ?_;omega)|(refine zD rfl rfl ?_ rfl ?_;omega)|(refine zP rfl ?_ rfl ?_;omega)|refine zG rfl rfl rfl rfl ?_|(refine jdq rfl rfl ?_ ?_ ?_;kernel_rfl;kernel_rfl)|refine zB rfl rfl rfl (by repeat constructor) rfl ?_|refine zH .here rfl rfl rfl rfl ?_|refine zH (.there .here) rfl rfl rfl rfl ?_|refine zH (.there (.there .here)) rfl rfl rfl rfl ?_|refine zH (.there (.there (.there .here))) rfl rfl rfl rfl ?_|refine zH (.there (.there (.there (.there .here)))) rfl rfl rfl rfl ?_)
        refine oS (ev_indexAddr_arr (i := best) rfl rfl rfl hbest) rfl ?_
        refine oS (ev_load_agg (cs := cvC (bm, bz)) rfl rfl (Rdb.ofB (n := 2) .here (by rw [Nat.zero_add]; exact hrow)) rfl) rfl ?_
        repeat (first|refine zJ rfl rfl ?_|refine jr rfl ?_|refine jn ?_|refine zM rfl rfl ?_|(refine zC rfl rfl ?_ rfl ?_;omega)|(refine zD rfl rfl ?_ rfl ?_;omega)|(refine zP rfl ?_ rfl ?_;omega)|refine zG rfl rfl rfl rfl ?_|(refine jdq rfl rfl ?_ ?_ ?_;kernel_rfl;kernel_rfl)|refine zB rfl rfl rfl (by repeat constructor) rfl ?_|refine zH .here rfl rfl rfl rfl ?_|refine zH (.there .here) rfl rfl rfl rfl ?_|refine zH (.there (.there .here)) rfl rfl rfl rfl ?_|refine zH (.there (.there (.there .here))) rfl rfl rfl rfl ?_|refine zH (.there (.there (.there (.there .here)))) rfl rfl rfl rfl ?_)
        refine oS (ev_load_agg (cs := cvC (bm, bz)) rfl rfl (Rdb.ofB (n := 0) (.there .here) rfl) rfl) rfl ?_
        refine oS (ev_cv_eql (p := (bm, bz)) (q := (bm, bz)) (r := true) rfl rfl (by simp)) rfl ?_
        repeat (first|refine zJ rfl rfl ?_|refine jr rfl ?_|refine jn ?_|refine zM rfl rfl ?_|(refine zC rfl rfl ?_ rfl ?_;omega)|(refine zD rfl rfl ?_ rfl ?_;omega)|(refine zP rfl ?_ rfl ?_;omega)|refine zG rfl rfl rfl rfl ?_|(refine jdq rfl rfl ?_ ?_ ?_;kernel_rfl;kernel_rfl)|refine zB rfl rfl rfl (by repeat constructor) rfl ?_|refine zH .here rfl rfl rfl rfl ?_|refine zH (.there .here) rfl rfl rfl rfl ?_|refine zH (.there (.there .here)) rfl rfl rfl rfl ?_|refine zH (.there (.there (.there .here))) rfl rfl rfl rfl ?_|refine zH (.there (.there (.there (.there .here)))) rfl rfl rfl rfl ?_)
        exact J_retv rfl (.tmp rfl .nil) [] (fun w s => s.drop.drop) (PH.ler _) ⟨rfl, rfl⟩
open Go.ChangeShapes Go.WideShapes Go.ChangeAt
set_option maxRecDepth 100000 in theorem CensusMost_lifted (os : Os) (started : os.Started) (H : Type) (enc : TypeId × Value → H) : ReturnsInHanded {} Tryd.checked os 4 .any (fun w args => (Rows.censusMostSpec.pre enc Tryd.prog Tryd.f4 [] false w args ∧ laidMetH Tryd.prog Rows.censusMostRow.laid w) ∧ sizedMet enc Tryd.prog Tryd.f4 (OpenSpec.ofChange Rows.censusMostSpec) false w args) (Rows.censusMostSpec.post enc Tryd.prog Tryd.f4 false true false false) := by 
  refine returnsInHanded_of_change_and (C := Tryd.checked) (X := fun w _ => laidMetH Tryd.prog Rows.censusMostRow.laid w) (fun _ _ _ hh h => h.of_heap hh) own_knob started (by kernel_rfl) Tryd.func4 (ChangeSpec.witness_shaped (enc := enc) (C := Tryd.checked) (os := os) (X := fun w _ => laidMetH Tryd.prog Rows.censusMostRow.laid w) false (World.doorLaid Tryd.prog 400 os) #[.slice none 0 0] 8 rfl (World.shaped_of_RefB (by kernel_rfl) (by kernel_rfl)) (by kernel_rfl) (by kernel_rfl) (by kernel_rfl) (door_met os _)) ?_; intro W base args ds gs before hval0 hW hcnd _ hL _; have hval : ∀ (j : Nat) t v, Tryd.f4.params[j]? = some t → args[j]? = some v → Value.okWide Tryd.prog W .any base t v := hval0; have hW' := hW; obtain ⟨p, q, hA0, hV, hp, hfz, hnd⟩ := hW; have hA : DataW.TrodAll enc Tryd.prog W 0 (fun _ => true) true Tryd.f4.params.toList args.toList ds p := hA0; obtain ⟨rfl, rfl⟩ := trodVars_none hV; rw [List.append_nil] at hp; have hA' := hA; rw [Tryd.params4] at hA hval
  obtain ⟨v0, vs0, d0, ds0, p0, q0, hargs, rfl, rfl, h0, r0⟩ := trodAll_cons hA; obtain ⟨rfl, rfl, rfl⟩ := trodAll_nil r0; obtain rfl : args = #[v0] := by cases args; simp_all
  obtain ⟨ax, cx, bs, rfl, hcx, hcm, hv⟩ := open_byt Tryd.underlying27 Tryd.underlying5 (by kernel_rfl) (hval 0 27 v0 rfl rfl) h0
  refine (law_walk (CensusMost_walk _ bs (ph W) (tabF_of_laid hL) hv (Nat.le_trans hcx hcm))).mono fun e W' ⟨he, hb⟩ => ?_
  subst he
  exact ⟨_, rfl, law_post laid_out (by kernel_rfl) rfl rfl Tryd.underlying4 hW' hA' hp rfl hb⟩
theorem CensusMost_row : Rows.CensusMostSaid := OpenClaim.holds_of_wide 4 Tryd.f4 rfl rfl rfl rfl rfl rfl rfl ⟨rfl, rfl, rfl, rfl, rfl⟩ rfl rfl rfl rfl rfl (by kernel_rfl) Tryd.func4 (by kernel_rfl) (of_decide_eq_true (by kernel_rfl)) (by unfold Func.isWrapper; first | (rw [if_pos (by decide +kernel)]; kernel_rfl) | (rw [if_neg (by decide +kernel)]; exact ⟨rfl, rfl⟩)) (fun os started H enc _ => CensusMost_lifted os started H enc)
theorem CensusMost_holds : Rows.CensusMostCardSaid :=
  Claim7.holds_tied_plain_at .later [] [.data, .data, .data] true Rows.censusMostCard.stood.harness false
    CensusMost_row (fun _ h => by cases h) (by kernel_rfl) (fun _ h => by cases h) censusMost_row_tie rfl ⟨rfl, rfl⟩ (by kernel_rfl) rfl
    (fun f fn hf hfn => by
      obtain rfl : f = 4 := Option.some.inj ((show Tryd.prog.funcNamed Rows.censusMostRow.func = some 4 by kernel_rfl).symm.trans hf) |>.symm
      obtain rfl : fn = Tryd.f4 := (Option.some.inj (Tryd.func4.symm.trans hfn)).symm
      exact ⟨by kernel_rfl, fun j t ht => by
        rw [Tryd.params4] at ht
        have hm : t ∈ [27] := by simpa using Array.mem_of_getElem? ht
        have hall : ([27].all fun u => !Tryd.prog.wantsStandIn u) = true := by kernel_rfl
        exact (show Tryd.prog.wantsStandIn t = false by simpa using List.all_eq_true.1 hall t hm)⟩)
    (by kernel_rfl)
#print axioms CensusMost_holds
end Go.Proofs.YtmicjjhkoicdnaaDoor
