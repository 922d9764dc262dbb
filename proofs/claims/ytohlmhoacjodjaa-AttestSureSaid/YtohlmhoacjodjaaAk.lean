/-
  What the document fixes of proofs, walked. No condition.
  What comes in: rows with a bound, digests. Conditions are typed with each.
-/
import Derived.Test.YtohlmhoacjodjaaAh
import Derived.Test.YtohlmhoacjodjaaAf
import Derived.Test.YtohlmhoacjodjaaLf
import Derived.Test.YtohlmhoacjodjaaKs
import Derived.Lib.Hide
namespace Go.Proofs.Ytohlmhoacjodjaa
open Go.RowKit
set_option maxRecDepth 100000
def fL : List (List UInt8) := [[97], [98]]
def fD1 : List UInt8 := dnuB 105 1
def fD2 : List UInt8 := dnuB 105 2
def fD3 : List UInt8 := dnuB 106 3
def fD4 : List UInt8 := dnuB 106 4
def fS1 : List Hk := [(105, [97])]
def fS2 : List Hk := [(105, [97]), (105, [98]), (106, fD1 ++ fD2)]
def fS3 : List Hk := [(105, [97]), (105, [98]), (106, fD1 ++ fD2), (106, fD2 ++ fD1)]
section
variable (b m : Nat) (tg : Value)
theorem f_path : pathP (bookC b m tg) [] fL 1 = ([fD1], fS1) := by kernel_rfl
theorem f_leaf : (bookC b m tg).dg fS1 105 [97] = (fD1, fS1) := by kernel_rfl
theorem f_root : rootP (bookC b m tg) fS1 fL = (fD3, fS2) := by kernel_rfl
theorem f_climb : climbP (bookC b m tg) fS2 2 1 [98] [fD1] = (some fD3, fS2) := by kernel_rfl
theorem f_root2 : rootP (bookC b m tg) fS2 fL = (fD3, fS2) := by kernel_rfl
theorem f_climb2 : climbP (bookC b m tg) fS2 2 0 [98] [fD1] = (some fD4, fS3) := by kernel_rfl
end
theorem f_ne : fD4 ≠ fD3 := by decide
theorem f_deed : (deedB ⟨0, [], false⟩).length = 15 := by decide
theorem byt_one {F : PH} {b : Nat} {c : UInt8} (h : Cells F b 0 [.int .u8 c.toNat]) : Byt F (.slice (some ⟨b, 0, none⟩) 1 1) [c] := ⟨rfl, _, 1, rfl, Nat.le_refl _, fun _ => ⟨b, 0, rfl, h⟩⟩
theorem ev_eql' {P : Program} {l : Env} {F : PH} {H : List Asrt} {d : Option Nat} {T T' U : TypeId} {pos : String} {af : Array Edge} {g : Option (Nat × Bool)} {x y : Operand} {k : IntKind} {m n : Int} {r : Bool} (hx : opv l x = some (.int k m)) (hy : opv l y = some (.int k n)) (hr : decide (m = n) = r) : Ev P ⟨d, .binOp .eql T x y T', U, pos, af, g⟩ l F H (.bool r) := by
  subst hr
  exact ev_eql hx hy
theorem ev_arr_eql' {P : Program} {l : Env} {F : PH} {H : List Asrt} {d : Option Nat} {T T' U : TypeId} {pos : String} {af : Array Edge} {g : Option (Nat × Bool)} {x y : Operand} {e n : Nat} {xs ys : List UInt8} {r : Bool} (hx : opv l x = some (.agg (u8s xs).toArray)) (hy : opv l y = some (.agg (u8s ys).toArray)) (ht : arrOf P T = some (n, e, 1)) (he : P.underlying e = some (.int .u8)) (hxl : xs.length = n) (hyl : ys.length = n) (hm : P.eqGuardType P.depth T = false) (hr : (xs == ys) = r) :
    Ev P ⟨d, .binOp .eql T x y T', U, pos, af, g⟩ l F H (.bool r) := by
  subst hr
  exact ev_arr_eql hx hy ht he hxl hyl hm
set_option maxHeartbeats 16000000 in
theorem fixed41 (F : PH) : Spec Try.prog 8 [] F [] fun u _ H' => u = .bool true ∧ H' = [] := by
  refine Spec.of0 Try.func8 rfl fun X w0 => ?_
  repeat (first|refine zJ rfl rfl ?_|refine jr rfl ?_|refine jn ?_|refine zM rfl rfl ?_|(refine zC rfl rfl ?_ rfl ?_;omega)|(refine zD rfl rfl ?_ rfl ?_;omega)|(refine zP rfl ?_ rfl ?_;omega)|refine zG rfl rfl rfl rfl ?_|(refine jdq rfl rfl ?_ ?_ ?_;kernel_rfl;kernel_rfl)|refine zB rfl rfl rfl (by repeat constructor) rfl ?_|refine zH .here rfl rfl rfl rfl ?_|refine zH (.there .here) rfl rfl rfl rfl ?_|refine zH (.there (.there .here)) rfl rfl rfl rfl ?_)
  refine oC (Hc := []) (Hr := X) (bnew_spec F) Try.call18 rfl rfl (fun _ s => s) ?_
  rintro _ _ _ _ ⟨rfl, b, m, tg, rfl, rfl⟩
  repeat (first|refine zJ rfl rfl ?_|refine jr rfl ?_|refine jn ?_|refine zM rfl rfl ?_|(refine zC rfl rfl ?_ rfl ?_;omega)|(refine zD rfl rfl ?_ rfl ?_;omega)|(refine zP rfl ?_ rfl ?_;omega)|refine zG rfl rfl rfl rfl ?_|(refine jdq rfl rfl ?_ ?_ ?_;kernel_rfl;kernel_rfl)|refine zB rfl rfl rfl (by repeat constructor) rfl ?_|refine zH .here rfl rfl rfl rfl ?_|refine zH (.there .here) rfl rfl rfl rfl ?_|refine zH (.there (.there .here)) rfl rfl rfl rfl ?_)
  refine oE (ev_buildSlice (E := 5) (zs := [.int .u8 0]) (t := [.int .u8 97]) rfl rfl rfl rfl rfl rfl (.cons .int rfl (lay_all (vs := [.int .u8 97]) (zs := [.int .u8 0]) rfl) .nil)) rfl ?_
  rintro _ _ _ _ ⟨rfl, b1, rfl, rfl⟩
  refine oE (ev_bytes_bytes rfl rfl rfl .here) rfl ?_
  rintro _ F1 _ hF1 ⟨rfl, ha, rfl⟩
  replace ha := byt_one (c := 97) ha
  repeat (first|refine zJ rfl rfl ?_|refine jr rfl ?_|refine jn ?_|refine zM rfl rfl ?_|(refine zC rfl rfl ?_ rfl ?_;omega)|(refine zD rfl rfl ?_ rfl ?_;omega)|(refine zP rfl ?_ rfl ?_;omega)|refine zG rfl rfl rfl rfl ?_|(refine jdq rfl rfl ?_ ?_ ?_;kernel_rfl;kernel_rfl)|refine zB rfl rfl rfl (by repeat constructor) rfl ?_|refine zH .here rfl rfl rfl rfl ?_|refine zH (.there .here) rfl rfl rfl rfl ?_|refine zH (.there (.there .here)) rfl rfl rfl rfl ?_)
  refine oE (ev_buildSlice (E := 5) (zs := [.int .u8 0]) (t := [.int .u8 98]) rfl rfl rfl rfl rfl rfl (.cons .int rfl (lay_all (vs := [.int .u8 98]) (zs := [.int .u8 0]) rfl) .nil)) rfl ?_
  rintro _ _ _ _ ⟨rfl, b2, rfl, rfl⟩
  refine oE (ev_bytes_bytes rfl rfl rfl .here) rfl ?_
  rintro _ F2 _ hF2 ⟨rfl, hb, rfl⟩
  replace hb := byt_one (c := 98) hb
  replace ha := SliceV.mono ha hF2
  repeat (first|refine zJ rfl rfl ?_|refine jr rfl ?_|refine jn ?_|refine zM rfl rfl ?_|(refine zC rfl rfl ?_ rfl ?_;omega)|(refine zD rfl rfl ?_ rfl ?_;omega)|(refine zP rfl ?_ rfl ?_;omega)|refine zG rfl rfl rfl rfl ?_|(refine jdq rfl rfl ?_ ?_ ?_;kernel_rfl;kernel_rfl)|refine zB rfl rfl rfl (by repeat constructor) rfl ?_|refine zH .here rfl rfl rfl rfl ?_|refine zH (.there .here) rfl rfl rfl rfl ?_|refine zH (.there (.there .here)) rfl rfl rfl rfl ?_)
  refine oE (ev_buildSlice (E := 36) (zs := [.slice none 0 0]) (t := [.slice (some ⟨b1, 0, none⟩) 1 1, .slice (some ⟨b2, 0, none⟩) 1 1]) rfl rfl rfl rfl rfl rfl (.cons .slice rfl (lay_set (i := 0) (r := [.slice none 0 0, .slice none 0 0]) _ (by decide)) (.cons .slice rfl (lay_set (i := 1) (r := [.slice (some ⟨b1, 0, none⟩) 1 1, .slice none 0 0]) _ (by simp)) .nil))) rfl ?_
  rintro _ _ _ _ ⟨rfl, b3, rfl, rfl⟩
  refine oPersist fun hh hA hd => ?_
  have hl := blk_cells hA hd
  have hF3 := PH.le_l F2 hh
  replace ha := SliceV.mono ha hF3
  replace hb := SliceV.mono hb hF3
  generalize F2.un hh = F3 at *
  have hrow : RowV tyByt F3 (.slice (some ⟨b3, 0, none⟩) 2 2) fL := ⟨[[_], [_]], ⟨rfl, _, 2, rfl, Nat.le_refl _, fun _ => ⟨b3, 0, rfl, hl⟩⟩, .cons ⟨_, rfl, ha⟩ (.cons ⟨_, rfl, hb⟩ .nil)⟩
  have hsm : Small fL := by intro x hx; simp only [fL, List.mem_cons, List.not_mem_nil, or_false] at hx; rcases hx with rfl | rfl <;> decide
  repeat (first|refine zJ rfl rfl ?_|refine jr rfl ?_|refine jn ?_|refine zM rfl rfl ?_|(refine zC rfl rfl ?_ rfl ?_;omega)|(refine zD rfl rfl ?_ rfl ?_;omega)|(refine zP rfl ?_ rfl ?_;omega)|refine zG rfl rfl rfl rfl ?_|(refine jdq rfl rfl ?_ ?_ ?_;kernel_rfl;kernel_rfl)|refine zB rfl rfl rfl (by repeat constructor) rfl ?_|refine zH .here rfl rfl rfl rfl ?_|refine zH (.there .here) rfl rfl rfl rfl ?_|refine zH (.there (.there .here)) rfl rfl rfl rfl ?_)
  refine oS (ev_makeInterface rfl (by kernel_rfl)) rfl ?_
  repeat (first|refine zJ rfl rfl ?_|refine jr rfl ?_|refine jn ?_|refine zM rfl rfl ?_|(refine zC rfl rfl ?_ rfl ?_;omega)|(refine zD rfl rfl ?_ rfl ?_;omega)|(refine zP rfl ?_ rfl ?_;omega)|refine zG rfl rfl rfl rfl ?_|(refine jdq rfl rfl ?_ ?_ ?_;kernel_rfl;kernel_rfl)|refine zB rfl rfl rfl (by repeat constructor) rfl ?_|refine zH .here rfl rfl rfl rfl ?_|refine zH (.there .here) rfl rfl rfl rfl ?_|refine zH (.there (.there .here)) rfl rfl rfl rfl ?_)
  refine oC (Hc := bookA b m tg []) (Hr := X) (path_spec (bookC b m tg) fL [] _ 1 F3 hrow hsm (by show 0 + 2 * 2 ≤ 80000; omega) (by decide)) Try.call13 rfl rfl (fun _ s => s) ?_
  rintro u F4 _ hF4 ⟨hu, rfl⟩
  rw [f_path] at hu ⊢
  replace hu : SliceV F4 32 u 1 (dgC [fD1]) := hu
  obtain ⟨_, a, c, rfl, hc, h0⟩ := id hu
  obtain ⟨b4, o4, rfl, hcc⟩ := h0 (by decide)
  replace hcc : Cells F4 b4 o4 (u8s fD1) := by simpa [dgC] using hcc
  replace hrow := hrow.mono hF4
  replace hl := hl.mono hF4
  replace ha := SliceV.mono ha hF4
  replace hb := SliceV.mono hb hF4
  have hd32 : D32 [fD1] := fun d hd => by rw [List.mem_singleton] at hd; rw [hd]; rfl
  have l0 : Cells F4 b3 0 [.slice (some ⟨b1, 0, none⟩) 1 1] := hl.one 0 rfl
  have l1 : Cells F4 b3 1 [.slice (some ⟨b2, 0, none⟩) 1 1] := hl.one 1 rfl
  repeat (first|refine zJ rfl rfl ?_|refine jr rfl ?_|refine jn ?_|refine zM rfl rfl ?_|(refine zC rfl rfl ?_ rfl ?_;omega)|(refine zD rfl rfl ?_ rfl ?_;omega)|(refine zP rfl ?_ rfl ?_;omega)|refine zG rfl rfl rfl rfl ?_|(refine jdq rfl rfl ?_ ?_ ?_;kernel_rfl;kernel_rfl)|refine zB rfl rfl rfl (by repeat constructor) rfl ?_|refine zH .here rfl rfl rfl rfl ?_|refine zH (.there .here) rfl rfl rfl rfl ?_|refine zH (.there (.there .here)) rfl rfl rfl rfl ?_)
  refine ja F4 [] ?_ (fun w t => t.bare) ?_; kernel_rfl
  refine aT 0 rfl (ev_pv rfl) rfl rfl ?_ ?_ ?_ ?_; kernel_rfl; kernel_rfl; kernel_rfl
  refine aT 1 rfl (ev_qe rfl) rfl rfl ?_ ?_ ?_ ?_; kernel_rfl; kernel_rfl; kernel_rfl
  refine aT 2 rfl (ev_eql' (r := true) (m := 1) (n := 1) rfl rfl rfl) rfl rfl ?_ ?_ ?_ ?_; kernel_rfl; kernel_rfl; kernel_rfl
  refine aT 3 rfl (ev_qe rfl) rfl rfl ?_ ?_ ?_ ?_; kernel_rfl; kernel_rfl; kernel_rfl
  refine aT 4 rfl (ev_qe rfl) rfl rfl ?_ ?_ ?_ ?_; kernel_rfl; kernel_rfl; kernel_rfl
  refine aT 5 rfl (ev_indexAddr (i := 0) rfl rfl rfl (by decide)) rfl rfl ?_ ?_ ?_ ?_; kernel_rfl; kernel_rfl; kernel_rfl
  refine aT 6 rfl (ev_load_agg (cs := u8s fD1) rfl rfl (Rdb.ofF hcc) (by decide)) rfl rfl ?_ ?_ ?_ ?_; kernel_rfl; kernel_rfl; kernel_rfl
  refine aT 7 rfl (ev_qe rfl) rfl rfl ?_ ?_ ?_ ?_; kernel_rfl; kernel_rfl; kernel_rfl
  refine aT 8 rfl (ev_makeInterface rfl (by kernel_rfl)) rfl rfl ?_ ?_ ?_ ?_; kernel_rfl; kernel_rfl; kernel_rfl
  refine aT 9 rfl (ev_qe rfl) rfl rfl ?_ ?_ ?_ ?_; kernel_rfl; kernel_rfl; kernel_rfl
  refine aT 10 rfl (ev_indexAddr (i := 0) rfl rfl rfl (by decide)) rfl rfl ?_ ?_ ?_ ?_; kernel_rfl; kernel_rfl; kernel_rfl
  refine aT 11 rfl (ev_load (v := .slice (some ⟨b1, 0, none⟩) 1 1) rfl rfl (Rdb.ofF l0)) rfl rfl ?_ ?_ ?_ ?_; kernel_rfl; kernel_rfl; kernel_rfl
  refine aB (i := 12) (by kernel_rfl) (aC (Hc := bookA b m tg fS1) (Hr := X) rfl (leaf_spec (bookC b m tg) fS1 [97] _ F4 (by show 1 ≤ 90000; omega) (by decide) ha) Try.call24 rfl rfl rfl (fun _ t => t) (fun _ _ _ hF hq w t => t.bare.mono hF) ?_)
  rintro _ F5 _ hF5 ⟨rfl, rfl⟩
  rw [f_leaf]
  refine aT 13 rfl (ev_arr_eql' (r := true) (xs := fD1) (ys := fD1) (n := 32) (e := 5) rfl rfl (by kernel_rfl) (by kernel_rfl) rfl rfl (by kernel_rfl) (by decide)) rfl rfl ?_ ?_ ?_ ?_; kernel_rfl; kernel_rfl; kernel_rfl
  refine aT 14 rfl (ev_qe rfl) rfl rfl ?_ ?_ ?_ ?_; kernel_rfl; kernel_rfl; kernel_rfl
  refine aT 15 rfl (ev_qe rfl) rfl rfl ?_ ?_ ?_ ?_; kernel_rfl; kernel_rfl; kernel_rfl
  refine aT 16 rfl (ev_qe rfl) rfl rfl ?_ ?_ ?_ ?_; kernel_rfl; kernel_rfl; kernel_rfl
  refine aT 17 rfl (ev_makeInterface rfl (by kernel_rfl)) rfl rfl ?_ ?_ ?_ ?_; kernel_rfl; kernel_rfl; kernel_rfl
  refine aT 18 rfl (ev_qe rfl) rfl rfl ?_ ?_ ?_ ?_; kernel_rfl; kernel_rfl; kernel_rfl
  refine aT 19 rfl (ev_makeInterface rfl (by kernel_rfl)) rfl rfl ?_ ?_ ?_ ?_; kernel_rfl; kernel_rfl; kernel_rfl
  refine aT 20 rfl (ev_qe rfl) rfl rfl ?_ ?_ ?_ ?_; kernel_rfl; kernel_rfl; kernel_rfl
  refine aT 22 rfl (ev_qe rfl) rfl rfl ?_ ?_ ?_ ?_; kernel_rfl; kernel_rfl; kernel_rfl
  refine aT 23 rfl (ev_indexAddr (i := 1) rfl rfl rfl (by decide)) rfl rfl ?_ ?_ ?_ ?_; kernel_rfl; kernel_rfl; kernel_rfl
  refine aT 24 rfl (ev_load (v := .slice (some ⟨b2, 0, none⟩) 1 1) rfl rfl (Rdb.ofF l1)) rfl rfl ?_ ?_ ?_ ?_; kernel_rfl; kernel_rfl; kernel_rfl
  refine aT 25 rfl (ev_qe rfl) rfl rfl ?_ ?_ ?_ ?_; kernel_rfl; kernel_rfl; kernel_rfl
  refine aB (i := 21) (by kernel_rfl) (aC (Hc := bookA b m tg fS1) (Hr := X) rfl (root_spec (bookC b m tg) _ fL fS1 _ F5 (Nat.le_refl _) (hrow.mono hF5) hsm (by show 1 + 2 * 2 ≤ 80000; omega)) Try.call11 rfl rfl rfl (fun _ t => t) (fun _ _ _ hF hq w t => t.bare.mono (hF5.trans hF)) ?_)
  rintro _ F6 _ hF6 ⟨rfl, rfl⟩
  rw [f_root]
  refine aB (i := 26) (by kernel_rfl) (aC (Hc := bookA b m tg fS2) (Hr := X) rfl (check_spec (bookC b m tg) fS2 fD3 2 1 [98] [fD1] _ _ F6 (by decide) (by decide) (by show 3 + 1 ≤ 80000; omega) (by decide) (SliceV.mono hb (hF5.trans hF6)) (SliceV.mono hu (hF5.trans hF6)) hd32 rfl) Try.call19 rfl rfl rfl (fun _ t => t) (fun _ _ _ hF hq w t => t.bare.mono ((hF5.trans hF6).trans hF)) ?_)
  rintro _ F7 _ hF7 ⟨rfl, rfl⟩
  rw [show chkP (bookC b m tg) fS2 fD3 2 1 [98] [fD1] = true from by unfold chkP; rw [f_climb]; exact decide_eq_true rfl, f_climb]
  refine aT 27 rfl (ev_qe rfl) rfl rfl ?_ ?_ ?_ ?_; kernel_rfl; kernel_rfl; kernel_rfl
  refine aT 28 rfl (ev_qe rfl) rfl rfl ?_ ?_ ?_ ?_; kernel_rfl; kernel_rfl; kernel_rfl
  refine aT 29 rfl (ev_qe rfl) rfl rfl ?_ ?_ ?_ ?_; kernel_rfl; kernel_rfl; kernel_rfl
  refine aT 30 rfl (ev_makeInterface rfl (by kernel_rfl)) rfl rfl ?_ ?_ ?_ ?_; kernel_rfl; kernel_rfl; kernel_rfl
  refine aT 31 rfl (ev_qe rfl) rfl rfl ?_ ?_ ?_ ?_; kernel_rfl; kernel_rfl; kernel_rfl
  refine aT 32 rfl (ev_makeInterface rfl (by kernel_rfl)) rfl rfl ?_ ?_ ?_ ?_; kernel_rfl; kernel_rfl; kernel_rfl
  refine aT 33 rfl (ev_qe rfl) rfl rfl ?_ ?_ ?_ ?_; kernel_rfl; kernel_rfl; kernel_rfl
  refine aT 35 rfl (ev_qe rfl) rfl rfl ?_ ?_ ?_ ?_; kernel_rfl; kernel_rfl; kernel_rfl
  refine aT 36 rfl (ev_indexAddr (i := 1) rfl rfl rfl (by decide)) rfl rfl ?_ ?_ ?_ ?_; kernel_rfl; kernel_rfl; kernel_rfl
  refine aT 37 rfl (ev_load (v := .slice (some ⟨b2, 0, none⟩) 1 1) rfl rfl (Rdb.ofF l1)) rfl rfl ?_ ?_ ?_ ?_; kernel_rfl; kernel_rfl; kernel_rfl
  refine aT 38 rfl (ev_qe rfl) rfl rfl ?_ ?_ ?_ ?_; kernel_rfl; kernel_rfl; kernel_rfl
  refine aB (i := 34) (by kernel_rfl) (aC (Hc := bookA b m tg fS2) (Hr := X) rfl (root_spec (bookC b m tg) _ fL fS2 _ F7 (Nat.le_refl _) (hrow.mono (hF5.trans (hF6.trans hF7))) hsm (by show 3 + 2 * 2 ≤ 80000; omega)) Try.call11 rfl rfl rfl (fun _ t => t) (fun _ _ _ hF hq w t => t.bare.mono ((hF5.trans (hF6.trans hF7)).trans hF)) ?_)
  rintro _ F8 _ hF8 ⟨rfl, rfl⟩
  rw [f_root2]
  refine aB (i := 39) (by kernel_rfl) (aC (Hc := bookA b m tg fS2) (Hr := X) rfl (check_spec (bookC b m tg) fS2 fD3 2 0 [98] [fD1] _ _ F8 (by decide) (by decide) (by show 3 + 1 ≤ 80000; omega) (by decide) (SliceV.mono hb (hF5.trans (hF6.trans (hF7.trans hF8)))) (SliceV.mono hu (hF5.trans (hF6.trans (hF7.trans hF8)))) hd32 rfl) Try.call19 rfl rfl rfl (fun _ t => t) (fun _ _ _ hF hq w t => t.bare.mono ((hF5.trans (hF6.trans (hF7.trans hF8))).trans hF)) ?_)
  rintro _ F9 _ hF9 ⟨rfl, rfl⟩
  rw [show chkP (bookC b m tg) fS2 fD3 2 0 [98] [fD1] = false from by unfold chkP; rw [f_climb2]; exact decide_eq_false (fun h => f_ne (Option.some.inj h)), f_climb2]
  refine aT 40 rfl (ev_qe rfl) rfl rfl ?_ ?_ ?_ ?_; kernel_rfl; kernel_rfl; kernel_rfl
  refine aT 41 rfl (ev_qe rfl) rfl rfl ?_ ?_ ?_ ?_; kernel_rfl; kernel_rfl; kernel_rfl
  refine aT 42 rfl (ev_qe rfl) rfl rfl ?_ ?_ ?_ ?_; kernel_rfl; kernel_rfl; kernel_rfl
  refine aT 43 rfl (ev_build (t := De.cells (.slice none 0 0) ⟨0, [], false⟩) rfl rfl rfl .nil) rfl rfl ?_ ?_ ?_ ?_; kernel_rfl; kernel_rfl; kernel_rfl
  refine aB (i := 44) (by kernel_rfl) (aC (Hc := []) (Hr := bookA b m tg fS3 ++ X) rfl (deed_spec ⟨0, [], false⟩ (.slice none 0 0) F9 (Ents.nil _) (by decide)) Try.call21 rfl rfl rfl (fun _ t => t) (fun _ _ _ hF hq w t => t.bare.mono ((hF5.trans (hF6.trans (hF7.trans (hF8.trans hF9)))).trans hF)) ?_)
  rintro ud F10 _ hF10 ⟨rfl, hud⟩
  obtain ⟨_, ad, cd, rfl, _, _⟩ := id hud
  rw [f_deed]
  refine aT 45 rfl (ev_qe rfl) rfl rfl ?_ ?_ ?_ ?_; kernel_rfl; kernel_rfl; kernel_rfl
  refine aT 46 rfl (ev_eql' (r := true) (m := 15) (n := 15) rfl rfl rfl) rfl rfl ?_ ?_ ?_ ?_; kernel_rfl; kernel_rfl; kernel_rfl
  refine aT 47 rfl (ev_qe rfl) rfl rfl ?_ ?_ ?_ ?_; kernel_rfl; kernel_rfl; kernel_rfl
  refine aT 48 rfl (ev_qe rfl) rfl rfl ?_ ?_ ?_ ?_; kernel_rfl; kernel_rfl; kernel_rfl
  refine aD (by kernel_rfl) ?_
  repeat (first|refine zJ rfl rfl ?_|refine jr rfl ?_|refine jn ?_|refine zM rfl rfl ?_|(refine zC rfl rfl ?_ rfl ?_;omega)|(refine zD rfl rfl ?_ rfl ?_;omega)|(refine zP rfl ?_ rfl ?_;omega)|refine zG rfl rfl rfl rfl ?_|(refine jdq rfl rfl ?_ ?_ ?_;kernel_rfl;kernel_rfl)|refine zB rfl rfl rfl (by repeat constructor) rfl ?_|refine zH .here rfl rfl rfl rfl ?_|refine zH (.there .here) rfl rfl rfl rfl ?_|refine zH (.there (.there .here)) rfl rfl rfl rfl ?_)
  exact J_retv rfl (.tmp rfl .nil) [] (fun w s => Sat.drop (Sat.drop s)) (hF1.trans (hF2.trans (hF3.trans (hF4.trans (hF5.trans (hF6.trans (hF7.trans (hF8.trans (hF9.trans hF10))))))))) ⟨rfl, rfl⟩
end Go.Proofs.Ytohlmhoacjodjaa
namespace Go.Proofs.Ytohlmhoacjodjaa
open Go.RowKit Go.ChangeShapes Go.WideShapes Go.ChangeAt
set_option maxRecDepth 100000
def tyI64 : Ty Try.prog 3 Int := tyInt Try.underlying3
theorem open_rowB {H : Type} {enc : TypeId × Value → H} {P : Program} {W : World} {base b0 : Nat} {sp : Nat → Bool} {held : Bool} {r : Reach} {t e : TypeId} {α : Type} (te : Ty P e α) {v : Value} {d : DataW H} {ps : List MemPlace} (ht : P.underlying t = some (.slice e)) (hc : P.cellsOf e = te.sz) (hpos : 0 < te.sz)
    (hval : Value.okWide P W r b0 t v) (h : DataW.Trod enc P W base sp held t v d ps) : ∃ xs, RowV te (ph W) v xs ∧ xs.length ≤ maxLen := by
  obtain ⟨a, n, c, rfl⟩ := okWide_slice ht hval
  obtain ⟨fuel, hf⟩ := h
  obtain ⟨xs, v, hv, hx, hm⟩ := (tySliceB te ht hc hpos).opn hf
  have hv' : [Value.slice a n c] = [v] := by simpa [Value.cells] using hv
  cases hv'
  exact ⟨xs, hx, hm⟩
theorem dg_row {F : PH} {v : Value} {xs : List (List UInt8)} (h : RowV tyDg F v xs) : DgV F v xs ∧ D32 xs := by
  obtain ⟨css, h1, h2⟩ := h
  have h3 : css = xs.map u8s ∧ D32 xs := by
    clear h1
    induction h2 with
    | nil => exact ⟨rfl, fun _ h => by cases h⟩
    | cons h _ ih =>
      obtain ⟨rfl, hl⟩ := h
      refine ⟨by rw [ih.1]; rfl, fun d hd => ?_⟩
      rcases List.mem_cons.1 hd with rfl | hd
      · exact hl
      · exact ih.2 d hd
  obtain ⟨rfl, h4⟩ := h3
  exact ⟨h1, h4⟩
end Go.Proofs.Ytohlmhoacjodjaa
