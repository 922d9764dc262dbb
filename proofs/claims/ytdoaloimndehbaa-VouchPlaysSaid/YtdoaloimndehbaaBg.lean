/-
  What is read of vouchings: Of, masks, Count, Mask, Proved. Conditions are typed with each.
-/
import Derived.Test.YtdoaloimndehbaaBf
namespace Go.Proofs.Ytdoaloimndehbaa
open Go.RowKit
set_option maxRecDepth 100000
/-- The state, kept for good. -/
structure VF (F : PH) (b : Nat) (n : Int) (bm : Nat) (L : List VE) : Prop where
  blk : Cells F b 0 [.int .i64 n, .map (some bm)]
  map : ∃ h, mp keyP bm (L.map entK) h ∧ h.le F
  row : ∀ p, VR F (valOf L p) (rowOf L p)
theorem VF.mono {F G : PH} {b : Nat} {n : Int} {bm : Nat} {L : List VE} (h : VF F b n bm L) (hl : F.le G) : VF G b n bm L :=
  ⟨h.blk.mono hl, let ⟨k, h1, h2⟩ := h.map; ⟨k, h1, h2.trans hl⟩, fun p => (h.row p).mono hl⟩
theorem ev_lookupV {l : Env} {F : PH} {H : List Asrt} {d : Option Nat} {U : TypeId} {pos : String} {af : Array Edge} {g : Option (Nat × Bool)} {x y : Operand} {b : Nat} {n : Int} {bm : Nat} {L : List VE} {p : Pk} (hv : VF F b n bm L) (hx : opv l x = some (.map (some bm))) (hy : opv l y = some (pkV p)) :
    Ev Try.prog ⟨d, .lookup 125 x y false, U, pos, af, g⟩ l F H (valOf L p) := by
  obtain ⟨h, h1, h2⟩ := hv.map
  exact (ev_lookup (K := keyP) (a := p) (M := L.map entK) (zv := .slice none 0 0) (r := valOf L p) (H := mp keyP bm (L.map entK) :: H) hx hy rfl rfl .here rfl).sub fun w s => Sat.takeBack h1 h2 s
theorem of_spec2 (b bm : Nat) (n who c : Int) (L : List VE) (F : PH) (hv : VF F b n bm L) (h4 : ∀ q, (rowOf L q).length ≤ 4) :
    Spec Try.prog 34 [pT b, .int .i64 who, .int .i64 c] F [] fun u F' H' => H' = [] ∧ VR F' u (rowOf L (who, c)) := by
  refine Spec.of3 Try.func34 rfl rfl fun X w0 => ?_
  repeat (first|refine zJ rfl rfl ?_|refine jr rfl ?_|refine jn ?_|refine zM rfl rfl ?_|(refine zC rfl rfl ?_ rfl ?_;omega)|(refine zD rfl rfl ?_ rfl ?_;omega)|(refine zP rfl ?_ rfl ?_;omega)|refine zG rfl rfl rfl rfl ?_|(refine jdq rfl rfl ?_ ?_ ?_;kernel_rfl;kernel_rfl)|refine zB rfl rfl rfl (by repeat constructor) rfl ?_|refine zH .here rfl rfl rfl rfl ?_|refine zH (.there .here) rfl rfl rfl rfl ?_|refine zH (.there (.there .here)) rfl rfl rfl rfl ?_)
  refine oS (ev_load (v := .map (some bm)) rfl rfl (Rdb.ofF (cells_at hv.blk 1 rfl))) rfl ?_
  repeat (first|refine zJ rfl rfl ?_|refine jr rfl ?_|refine jn ?_|refine zM rfl rfl ?_|(refine zC rfl rfl ?_ rfl ?_;omega)|(refine zD rfl rfl ?_ rfl ?_;omega)|(refine zP rfl ?_ rfl ?_;omega)|refine zG rfl rfl rfl rfl ?_|(refine jdq rfl rfl ?_ ?_ ?_;kernel_rfl;kernel_rfl)|refine zB rfl rfl rfl (by repeat constructor) rfl ?_|refine zH .here rfl rfl rfl rfl ?_|refine zH (.there .here) rfl rfl rfl rfl ?_|refine zH (.there (.there .here)) rfl rfl rfl rfl ?_)
  refine oS (ev_lookupV (p := (who, c)) hv rfl rfl) rfl ?_
  refine oC (Hc := []) (Hr := X) (vclone_spec _ _ F (hv.row (who, c)) (by have := h4 (who, c); omega)) Try.call60 rfl rfl (fun _ s => s) ?_
  rintro u F1 _ hF1 rfl
  repeat (first|refine zJ rfl rfl ?_|refine jr rfl ?_|refine jn ?_|refine zM rfl rfl ?_|(refine zC rfl rfl ?_ rfl ?_;omega)|(refine zD rfl rfl ?_ rfl ?_;omega)|(refine zP rfl ?_ rfl ?_;omega)|refine zG rfl rfl rfl rfl ?_|(refine jdq rfl rfl ?_ ?_ ?_;kernel_rfl;kernel_rfl)|refine zB rfl rfl rfl (by repeat constructor) rfl ?_|refine zH .here rfl rfl rfl rfl ?_|refine zH (.there .here) rfl rfl rfl rfl ?_|refine zH (.there (.there .here)) rfl rfl rfl rfl ?_)
  refine J_persist fun hh hA hd => ?_
  exact J_retv rfl (.tmp rfl .nil) [] (fun w s => s) (hF1.trans (PH.le_l _ _)) ⟨rfl, own_slice hA hd⟩
/-- The masks of a core's voters. -/
def rowMs (l : List Vo) (s : Int) (d : Dg) : List W := (l.filter fun y => decide (y.s = s) && decide (y.d = d)).map (·.m)
def masksP (M : VM) (c s : Int) (d : Dg) : Nat → List W
  | 0 => []
  | k + 1 => masksP M c s d k ++ rowMs (M ((k : Nat), c)) s d
theorem rowMs_len (l : List Vo) (s : Int) (d : Dg) : (rowMs l s d).length ≤ l.length := by
  unfold rowMs
  rw [List.length_map]
  exact List.length_filter_le _ _
theorem masksP_len (M : VM) (c s : Int) (d : Dg) (h4 : ∀ q, (M q).length ≤ 4) : ∀ k, (masksP M c s d k).length ≤ 4 * k
  | 0 => by simp [masksP]
  | k + 1 => by
    have := masksP_len M c s d h4 k
    have h1 := rowMs_len (M ((k : Nat), c)) s d
    have h2 := h4 ((k : Nat), c)
    unfold masksP
    rw [List.length_append]
    omega
theorem rowMs_snoc {l : List Vo} {j : Nat} {y : Vo} (h : l[j]? = some y) (s : Int) (d : Dg) : rowMs (l.take (j + 1)) s d = rowMs (l.take j) s d ++ (if y.s = s ∧ y.d = d then [y.m] else []) := by
  unfold rowMs
  rw [List.take_add_one, h, Option.toList_some, List.filter_append, List.map_append]
  congr 1
  by_cases h1 : y.s = s <;> by_cases h2 : y.d = d <;> simp [h1, h2]
abbrev wCs (ms : List W) : List Value := ms.map w32
theorem wCs_ones (ms : List W) : Ones (wCs ms) := fun v hv => by
  obtain ⟨m, _, rfl⟩ := List.mem_map.1 hv; rfl
theorem elU4 : Elem Try.prog 136 70 1 4 (.int .u32 0) := ⟨rfl, ⟨_, rfl, rfl, rfl, rfl, rfl, by decide⟩, rfl, rfl⟩
set_option maxHeartbeats 8000000 in
theorem masks_spec (b bm : Nat) (n c s : Int) (d : Dg) (L : List VE) (F : PH) (h1 : 1 ≤ n) (h7 : n ≤ 7) (hv : VF F b n bm L) (h4 : ∀ q, (rowOf L q).length ≤ 4) :
    Spec Try.prog 61 [pT b, .int .i64 c, .int .i64 s, d.v] F [] fun u F' H' => H' = [] ∧ SliceV F' 1 u (masksP (rowOf L) c s d n.toNat).length (wCs (masksP (rowOf L) c s d n.toNat)) := by
  refine Spec.of4 Try.func61 rfl rfl fun X w0 => ?_
  obtain ⟨k, rfl⟩ : ∃ k : Nat, n = k := ⟨n.toNat, by omega⟩
  rw [Int.toNat_natCast]
  refine jc rfl rfl ?_
  refine jr rfl ?_
  refine oE (ev_box rfl .agg) rfl ?_; rintro _ _ _ _ ⟨rfl, b7, rfl, rfl⟩
  repeat (first|refine zJ rfl rfl ?_|refine jr rfl ?_|refine jn ?_|refine zM rfl rfl ?_|(refine zC rfl rfl ?_ rfl ?_;omega)|(refine zD rfl rfl ?_ rfl ?_;omega)|(refine zP rfl ?_ rfl ?_;omega)|refine zG rfl rfl rfl rfl ?_|(refine jdq rfl rfl ?_ ?_ ?_;kernel_rfl;kernel_rfl)|refine zB rfl rfl rfl (by repeat constructor) rfl ?_|refine zH .here rfl rfl rfl rfl ?_|refine zH (.there .here) rfl rfl rfl rfl ?_|refine zH (.there (.there .here)) rfl rfl rfl rfl ?_)
  refine oS (ev_load (v := .int .i64 k) rfl rfl (Rdb.ofF (cells_at hv.blk 0 rfl))) rfl ?_
  repeat (first|refine zJ rfl rfl ?_|refine jr rfl ?_|refine jn ?_|refine zM rfl rfl ?_|(refine zC rfl rfl ?_ rfl ?_;omega)|(refine zD rfl rfl ?_ rfl ?_;omega)|(refine zP rfl ?_ rfl ?_;omega)|refine zG rfl rfl rfl rfl ?_|(refine jdq rfl rfl ?_ ?_ ?_;kernel_rfl;kernel_rfl)|refine zB rfl rfl rfl (by repeat constructor) rfl ?_|refine zH .here rfl rfl rfl rfl ?_|refine zH (.there .here) rfl rfl rfl rfl ?_|refine zH (.there (.there .here)) rfl rfl rfl rfl ?_)
  refine J_weak (F' := F) (H' := own (.slice none 0 0) 70 1 (masksP (rowOf L) c s d 0).length (wCs (masksP (rowOf L) c s d 0)) :: blk b7 29 (u8s d.1) :: X) ?_ (fun w s => s.nilOwn _ _)
  refine J_loop2 (fun (i : Nat) (v : Value) => i ≤ k) (fun i _ => k - i) (fun i v => [(0, pT b), (1, .int .i64 c), (2, .int .i64 s), (7, .pointer (some ⟨b7, 0, none⟩)), (9, v), (18, .int .i64 k), (19, .int .i64 i)]) (fun _ _ => F) (fun i v => own v 70 1 (masksP (rowOf L) c s d i).length (wCs (masksP (rowOf L) c s d i)) :: blk b7 29 (u8s d.1) :: X) 0 (.slice none 0 0) (Nat.zero_le _) ⟨⟨rfl, rfl, rfl, rfl, rfl, rfl, rfl, trivial⟩, fun _ s => s⟩ ?_
  rintro i v hi
  by_cases hlt : i < k
  · repeat (first|refine zJ rfl rfl ?_|refine jr rfl ?_|refine jn ?_|refine zM rfl rfl ?_|(refine zC rfl rfl ?_ rfl ?_;omega)|(refine zD rfl rfl ?_ rfl ?_;omega)|(refine zP rfl ?_ rfl ?_;omega)|refine zG rfl rfl rfl rfl ?_|(refine jdq rfl rfl ?_ ?_ ?_;kernel_rfl;kernel_rfl)|refine zB rfl rfl rfl (by repeat constructor) rfl ?_|refine zH .here rfl rfl rfl rfl ?_|refine zH (.there .here) rfl rfl rfl rfl ?_|refine zH (.there (.there .here)) rfl rfl rfl rfl ?_)
    refine oS (ev_load (v := .map (some bm)) rfl rfl (Rdb.ofF (cells_at hv.blk 1 rfl))) rfl ?_
    repeat (first|refine zJ rfl rfl ?_|refine jr rfl ?_|refine jn ?_|refine zM rfl rfl ?_|(refine zC rfl rfl ?_ rfl ?_;omega)|(refine zD rfl rfl ?_ rfl ?_;omega)|(refine zP rfl ?_ rfl ?_;omega)|refine zG rfl rfl rfl rfl ?_|(refine jdq rfl rfl ?_ ?_ ?_;kernel_rfl;kernel_rfl)|refine zB rfl rfl rfl (by repeat constructor) rfl ?_|refine zH .here rfl rfl rfl rfl ?_|refine zH (.there .here) rfl rfl rfl rfl ?_|refine zH (.there (.there .here)) rfl rfl rfl rfl ?_)
    refine oS (ev_lookupV (p := ((i : Nat), c)) hv rfl rfl) rfl ?_
    have hrow := hv.row ((i : Nat), c)
    have hr4 := h4 ((i : Nat), c)
    have hml := masksP_len (rowOf L) c s d h4 i
    obtain ⟨a, cc, hvf, hcc⟩ := hrow.form
    have hnext : masksP (rowOf L) c s d (i + 1) = masksP (rowOf L) c s d i ++ rowMs (rowOf L ((i : Nat), c)) s d := rfl
    rw [hvf] at hrow ⊢
    generalize rowOf L ((i : Nat), c) = l at *
    repeat (first|refine zJ rfl rfl ?_|refine jr rfl ?_|refine jn ?_|refine zM rfl rfl ?_|(refine zC rfl rfl ?_ rfl ?_;omega)|(refine zD rfl rfl ?_ rfl ?_;omega)|(refine zP rfl ?_ rfl ?_;omega)|refine zG rfl rfl rfl rfl ?_|(refine jdq rfl rfl ?_ ?_ ?_;kernel_rfl;kernel_rfl)|refine zB rfl rfl rfl (by repeat constructor) rfl ?_|refine zH .here rfl rfl rfl rfl ?_|refine zH (.there .here) rfl rfl rfl rfl ?_|refine zH (.there (.there .here)) rfl rfl rfl rfl ?_)
    have hrl := rowMs_len
    refine J_weak (F' := F) (H' := own v 70 1 (masksP (rowOf L) c s d i ++ rowMs (l.take 0) s d).length (wCs (masksP (rowOf L) c s d i ++ rowMs (l.take 0) s d)) :: blk b7 29 (u8s d.1) :: X) ?_ (fun w s => by simpa [rowMs] using s)
    refine J_loop2 (fun (j : Nat) (v : Value) => j ≤ l.length) (fun j _ => l.length - j) (fun j v => [(0, pT b), (1, .int .i64 c), (2, .int .i64 s), (7, .pointer (some ⟨b7, 0, none⟩)), (9, v), (18, .int .i64 k), (19, .int .i64 i), (10, .int .i64 i), (29, .slice a l.length cc), (30, .int .i64 l.length), (31, .int .i64 j)]) (fun _ _ => F) (fun j v => own v 70 1 (masksP (rowOf L) c s d i ++ rowMs (l.take j) s d).length (wCs (masksP (rowOf L) c s d i ++ rowMs (l.take j) s d)) :: blk b7 29 (u8s d.1) :: X) 0 v (Nat.zero_le _) ⟨⟨rfl, rfl, rfl, rfl, rfl, rfl, rfl, rfl, rfl, rfl, rfl, trivial⟩, fun _ s => s⟩ ?_
    rintro j v hj
    by_cases hjl : j < l.length
    · have hg : l[j]? = some l[j] := List.getElem?_eq_getElem hjl
      have hsn := rowMs_snoc hg s d
      obtain ⟨b1, o1, rfl, hc1, _⟩ := hrow.at hg
      have hlen : (masksP (rowOf L) c s d i ++ rowMs (l.take j) s d).length ≤ 1000 := by
        rw [List.length_append]
        have := rowMs_len (l.take j) s d
        rw [List.length_take] at this
        omega
      generalize l[j] = y at *
      repeat (first|refine zJ rfl rfl ?_|refine jr rfl ?_|refine jn ?_|refine zM rfl rfl ?_|(refine zC rfl rfl ?_ rfl ?_;omega)|(refine zD rfl rfl ?_ rfl ?_;omega)|(refine zP rfl ?_ rfl ?_;omega)|refine zG rfl rfl rfl rfl ?_|(refine jdq rfl rfl ?_ ?_ ?_;kernel_rfl;kernel_rfl)|refine zB rfl rfl rfl (by repeat constructor) rfl ?_|refine zH .here rfl rfl rfl rfl ?_|refine zH (.there .here) rfl rfl rfl rfl ?_|refine zH (.there (.there .here)) rfl rfl rfl rfl ?_)
      refine oS (ev_indexAddr rfl rfl rfl hjl) rfl ?_
      refine oS (ev_load_agg (n := 35) rfl rfl (Rdb.ofF hc1) y.len) rfl ?_
      refine oE (ev_alloc (cs := zVoC) rfl) rfl ?_
      rintro _ _ _ _ ⟨rfl, b12, rfl, rfl⟩
      refine oN (ev_store rfl rfl .agg rfl y.len (lay_all (zs := zVoC) (by rw [y.len]; rfl)) y.ones .here) rfl ?_
      rintro _ _ _ _ ⟨rfl, _, rfl⟩
      by_cases hs : y.s = s
      · repeat (first|refine zJ rfl rfl ?_|refine jr rfl ?_|refine jn ?_|refine zM rfl rfl ?_|(refine zC rfl rfl ?_ rfl ?_;omega)|(refine zD rfl rfl ?_ rfl ?_;omega)|(refine zP rfl ?_ rfl ?_;omega)|refine zG rfl rfl rfl rfl ?_|(refine jdq rfl rfl ?_ ?_ ?_;kernel_rfl;kernel_rfl)|refine zB rfl rfl rfl (by repeat constructor) rfl ?_|refine zH .here rfl rfl rfl rfl ?_|refine zH (.there .here) rfl rfl rfl rfl ?_|refine zH (.there (.there .here)) rfl rfl rfl rfl ?_)
        refine oS (ev_ldD (d := y.d) .here rfl (dg_at2 _ _ _ _)) rfl ?_
        refine oS (ev_ldD (d := d) (.there (.there .here)) rfl (by rw [List.drop_zero, List.take_length])) rfl ?_
        refine oS (ev_eqD rfl rfl) rfl ?_
        by_cases hd : y.d = d
        · rw [if_pos ⟨hs, hd⟩] at hsn
          rw [decide_eq_true hd]
          repeat (first|refine zJ rfl rfl ?_|refine jr rfl ?_|refine jn ?_|refine zM rfl rfl ?_|(refine zC rfl rfl ?_ rfl ?_;omega)|(refine zD rfl rfl ?_ rfl ?_;omega)|(refine zP rfl ?_ rfl ?_;omega)|refine zG rfl rfl rfl rfl ?_|(refine jdq rfl rfl ?_ ?_ ?_;kernel_rfl;kernel_rfl)|refine zB rfl rfl rfl (by repeat constructor) rfl ?_|refine zH .here rfl rfl rfl rfl ?_|refine zH (.there .here) rfl rfl rfl rfl ?_|refine zH (.there (.there .here)) rfl rfl rfl rfl ?_)
          refine oS (ev_load (v := w32 y.m) rfl rfl (Rdb.ofB (n := 0) .here (mk_at2 _ _ _ _))) rfl ?_
          refine oA (size := 1) (bytes := 4) (vs := [w32 y.m]) (n := (masksP (rowOf L) c s d i ++ rowMs (l.take j) s d).length) (xs := wCs (masksP (rowOf L) c s d i ++ rowMs (l.take j) s d)) (fun _ => rfl) rfl .int rfl elU4 (ones_cons rfl ones_nil) (by omega) (fun v' => .there .here) rfl (fun _ => rfl) fun u w => ?_
          repeat (first|refine zJ rfl rfl ?_|refine jr rfl ?_|refine jn ?_|refine zM rfl rfl ?_|(refine zC rfl rfl ?_ rfl ?_;omega)|(refine zD rfl rfl ?_ rfl ?_;omega)|(refine zP rfl ?_ rfl ?_;omega)|refine zG rfl rfl rfl rfl ?_|(refine jdq rfl rfl ?_ ?_ ?_;kernel_rfl;kernel_rfl)|refine zB rfl rfl rfl (by repeat constructor) rfl ?_|refine zH .here rfl rfl rfl rfl ?_|refine zH (.there .here) rfl rfl rfl rfl ?_|refine zH (.there (.there .here)) rfl rfl rfl rfl ?_)
          refine J_again2 (j + 1) u hjl (by omega) ⟨⟨rfl, rfl, rfl, rfl, rfl, rfl, rfl, rfl, rfl, rfl, rfl, trivial⟩, fun w t => ?_⟩
          rw [hsn, ← List.append_assoc]
          have t2 := t.drop
          unfold wCs at t2 ⊢
          rw [List.map_append (l₂ := [y.m]), List.length_append (bs := [y.m])]
          exact t2
        · rw [if_neg (fun h => hd h.2), List.append_nil] at hsn
          rw [decide_eq_false hd]
          repeat (first|refine zJ rfl rfl ?_|refine jr rfl ?_|refine jn ?_|refine zM rfl rfl ?_|(refine zC rfl rfl ?_ rfl ?_;omega)|(refine zD rfl rfl ?_ rfl ?_;omega)|(refine zP rfl ?_ rfl ?_;omega)|refine zG rfl rfl rfl rfl ?_|(refine jdq rfl rfl ?_ ?_ ?_;kernel_rfl;kernel_rfl)|refine zB rfl rfl rfl (by repeat constructor) rfl ?_|refine zH .here rfl rfl rfl rfl ?_|refine zH (.there .here) rfl rfl rfl rfl ?_|refine zH (.there (.there .here)) rfl rfl rfl rfl ?_)
          exact J_again2 (j + 1) v hjl (by omega) ⟨⟨rfl, rfl, rfl, rfl, rfl, rfl, rfl, rfl, rfl, rfl, rfl, trivial⟩, fun w t => by rw [hsn]; exact t.drop⟩
      · rw [if_neg (fun h => hs h.1), List.append_nil] at hsn
        repeat (first|refine zJ rfl rfl ?_|refine jr rfl ?_|refine jn ?_|refine zM rfl rfl ?_|(refine zC rfl rfl ?_ rfl ?_;omega)|(refine zD rfl rfl ?_ rfl ?_;omega)|(refine zP rfl ?_ rfl ?_;omega)|refine zG rfl rfl rfl rfl ?_|(refine jdq rfl rfl ?_ ?_ ?_;kernel_rfl;kernel_rfl)|refine zB rfl rfl rfl (by repeat constructor) rfl ?_|refine zH .here rfl rfl rfl rfl ?_|refine zH (.there .here) rfl rfl rfl rfl ?_|refine zH (.there (.there .here)) rfl rfl rfl rfl ?_)
        exact J_again2 (j + 1) v hjl (by omega) ⟨⟨rfl, rfl, rfl, rfl, rfl, rfl, rfl, rfl, rfl, rfl, rfl, trivial⟩, fun w t => by rw [hsn]; exact t.drop⟩
    · obtain rfl : j = l.length := by omega
      rw [List.take_length, ← hnext]
      repeat (first|refine zJ rfl rfl ?_|refine jr rfl ?_|refine jn ?_|refine zM rfl rfl ?_|(refine zC rfl rfl ?_ rfl ?_;omega)|(refine zD rfl rfl ?_ rfl ?_;omega)|(refine zP rfl ?_ rfl ?_;omega)|refine zG rfl rfl rfl rfl ?_|(refine jdq rfl rfl ?_ ?_ ?_;kernel_rfl;kernel_rfl)|refine zB rfl rfl rfl (by repeat constructor) rfl ?_|refine zH .here rfl rfl rfl rfl ?_|refine zH (.there .here) rfl rfl rfl rfl ?_|refine zH (.there (.there .here)) rfl rfl rfl rfl ?_)
      exact J_again2 (i + 1) v hlt (by omega) ⟨⟨rfl, rfl, rfl, rfl, rfl, rfl, rfl, trivial⟩, fun w t => t⟩
  · obtain rfl : i = k := by omega
    repeat (first|refine zJ rfl rfl ?_|refine jr rfl ?_|refine jn ?_|refine zM rfl rfl ?_|(refine zC rfl rfl ?_ rfl ?_;omega)|(refine zD rfl rfl ?_ rfl ?_;omega)|(refine zP rfl ?_ rfl ?_;omega)|refine zG rfl rfl rfl rfl ?_|(refine jdq rfl rfl ?_ ?_ ?_;kernel_rfl;kernel_rfl)|refine zB rfl rfl rfl (by repeat constructor) rfl ?_|refine zH .here rfl rfl rfl rfl ?_|refine zH (.there .here) rfl rfl rfl rfl ?_|refine zH (.there (.there .here)) rfl rfl rfl rfl ?_)
    refine J_persist fun hh hA hd => ?_
    exact J_retv rfl (.tmp rfl .nil) [] (fun w s => s.drop) (PH.le_l _ _) ⟨rfl, own_slice hA hd⟩
end Go.Proofs.Ytdoaloimndehbaa
