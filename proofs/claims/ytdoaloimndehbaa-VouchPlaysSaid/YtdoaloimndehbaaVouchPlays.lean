/-
  Whoever vouches for what, each answer is the document's (VouchPlays). No condition.
-/
import Derived.Test.YtdoaloimndehbaaBq
namespace Go.Proofs.Ytdoaloimndehbaa
open Go.RowKit
set_option maxRecDepth 100000
set_option maxHeartbeats 64000000 in
theorem VouchPlays_walk (n : Int) (acts : List Ax) (at_ : Int) (mask : W) (a1 : Option Addr) (c1 : Nat) (F : PH) (h1 : OR F (.slice a1 acts.length c1) acts) :
    Spec Try.prog 8 [.int .i64 n, .slice a1 acts.length c1, .int .i64 at_, w32 mask] F [] fun u _ H' => u = .bool true ∧ H' = [] := by
  refine Spec.of4 Try.func8 rfl rfl fun X w0 => ?_
  repeat (first|refine zJ rfl rfl ?_|refine jr rfl ?_|refine jn ?_|refine zM rfl rfl ?_|(refine zC rfl rfl ?_ rfl ?_;omega)|(refine zD rfl rfl ?_ rfl ?_;omega)|(refine zP rfl ?_ rfl ?_;omega)|refine zG rfl rfl rfl rfl ?_|(refine jdq rfl rfl ?_ ?_ ?_;kernel_rfl;kernel_rfl)|refine zB rfl rfl rfl (by repeat constructor) rfl ?_|refine zH .here rfl rfl rfl rfl ?_|refine zH (.there .here) rfl rfl rfl rfl ?_|refine zH (.there (.there .here)) rfl rfl rfl rfl ?_)
  refine oC (Hc := []) (Hr := X) (fixed24_true F) Try.call28 rfl rfl (fun _ s => s) ?_
  rintro _ F0 _ hF0 ⟨rfl, rfl⟩
  replace h1 := h1.mono hF0
  by_cases g1 : 100 < acts.length
  · repeat (first|refine zJ rfl rfl ?_|refine jr rfl ?_|refine jn ?_|refine zM rfl rfl ?_|(refine zC rfl rfl ?_ rfl ?_;omega)|(refine zD rfl rfl ?_ rfl ?_;omega)|(refine zP rfl ?_ rfl ?_;omega)|refine zG rfl rfl rfl rfl ?_|(refine jdq rfl rfl ?_ ?_ ?_;kernel_rfl;kernel_rfl)|refine zB rfl rfl rfl (by repeat constructor) rfl ?_|refine zH .here rfl rfl rfl rfl ?_|refine zH (.there .here) rfl rfl rfl rfl ?_|refine zH (.there (.there .here)) rfl rfl rfl rfl ?_)
    exact J_retv rfl (.tmp rfl .nil) [] (fun w s => s) hF0 ⟨rfl, rfl⟩
  by_cases gb : n < 1 ∨ 7 < n
  · repeat (first|refine zJ rfl rfl ?_|refine jr rfl ?_|refine jn ?_|refine zM rfl rfl ?_|(refine zC rfl rfl ?_ rfl ?_;omega)|(refine zD rfl rfl ?_ rfl ?_;omega)|(refine zP rfl ?_ rfl ?_;omega)|refine zG rfl rfl rfl rfl ?_|(refine jdq rfl rfl ?_ ?_ ?_;kernel_rfl;kernel_rfl)|refine zB rfl rfl rfl (by repeat constructor) rfl ?_|refine zH .here rfl rfl rfl rfl ?_|refine zH (.there .here) rfl rfl rfl rfl ?_|refine zH (.there (.there .here)) rfl rfl rfl rfl ?_)
    refine oP (vnew_bad n F0 gb) Try.call29 rfl rfl ?_
    by_cases g2 : n < 1
    · repeat (first|refine zJ rfl rfl ?_|refine jr rfl ?_|refine jn ?_|refine zM rfl rfl ?_|(refine zC rfl rfl ?_ rfl ?_;omega)|(refine zD rfl rfl ?_ rfl ?_;omega)|(refine zP rfl ?_ rfl ?_;omega)|refine zG rfl rfl rfl rfl ?_|(refine jdq rfl rfl ?_ ?_ ?_;kernel_rfl;kernel_rfl)|refine zB rfl rfl rfl (by repeat constructor) rfl ?_|refine zH .here rfl rfl rfl rfl ?_|refine zH (.there .here) rfl rfl rfl rfl ?_|refine zH (.there (.there .here)) rfl rfl rfl rfl ?_)
      refine oP (vadd_nil 0 ⟨n, 0, zDg, 0#32⟩ F0) Try.call30 rfl rfl ?_ 
      (repeat (first|refine zJ rfl rfl ?_|refine jr rfl ?_|refine jn ?_|refine zM rfl rfl ?_|(refine zC rfl rfl ?_ rfl ?_;omega)|(refine zD rfl rfl ?_ rfl ?_;omega)|(refine zP rfl ?_ rfl ?_;omega)|refine zG rfl rfl rfl rfl ?_|(refine jdq rfl rfl ?_ ?_ ?_;kernel_rfl;kernel_rfl)|refine zB rfl rfl rfl (by repeat constructor) rfl ?_|refine zH .here rfl rfl rfl rfl ?_|refine zH (.there .here) rfl rfl rfl rfl ?_|refine zH (.there (.there .here)) rfl rfl rfl rfl ?_)) 
      refine oS (ev_build_arr (ps := []) (vs := []) (t := u8s zDg.1) (zs := u8s zDg.1) rfl rfl rfl .nil) rfl ?_ 
      refine oP (count_nil 4 1 zDg F0) Try.call32 rfl rfl ?_ 
      (repeat (first|refine zJ rfl rfl ?_|refine jr rfl ?_|refine jn ?_|refine zM rfl rfl ?_|(refine zC rfl rfl ?_ rfl ?_;omega)|(refine zD rfl rfl ?_ rfl ?_;omega)|(refine zP rfl ?_ rfl ?_;omega)|refine zG rfl rfl rfl rfl ?_|(refine jdq rfl rfl ?_ ?_ ?_;kernel_rfl;kernel_rfl)|refine zB rfl rfl rfl (by repeat constructor) rfl ?_|refine zH .here rfl rfl rfl rfl ?_|refine zH (.there .here) rfl rfl rfl rfl ?_|refine zH (.there (.there .here)) rfl rfl rfl rfl ?_)) 
      refine oS (ev_build_arr (ps := []) (vs := []) (t := u8s zDg.1) (zs := u8s zDg.1) rfl rfl rfl .nil) rfl ?_ 
      refine oP (mask_nil 4 1 1 zDg F0) Try.call33 rfl rfl ?_ 
      refine oS (ev_eqW (a := 0#32) (b := 0#32) rfl rfl (decide_eq_true rfl)) rfl ?_ 
      (repeat (first|refine zJ rfl rfl ?_|refine jr rfl ?_|refine jn ?_|refine zM rfl rfl ?_|(refine zC rfl rfl ?_ rfl ?_;omega)|(refine zD rfl rfl ?_ rfl ?_;omega)|(refine zP rfl ?_ rfl ?_;omega)|refine zG rfl rfl rfl rfl ?_|(refine jdq rfl rfl ?_ ?_ ?_;kernel_rfl;kernel_rfl)|refine zB rfl rfl rfl (by repeat constructor) rfl ?_|refine zH .here rfl rfl rfl rfl ?_|refine zH (.there .here) rfl rfl rfl rfl ?_|refine zH (.there (.there .here)) rfl rfl rfl rfl ?_)) 
      refine oP (of_nil 0 4 F0) Try.call34 rfl rfl ?_ 
      (repeat (first|refine zJ rfl rfl ?_|refine jr rfl ?_|refine jn ?_|refine zM rfl rfl ?_|(refine zC rfl rfl ?_ rfl ?_;omega)|(refine zD rfl rfl ?_ rfl ?_;omega)|(refine zP rfl ?_ rfl ?_;omega)|refine zG rfl rfl rfl rfl ?_|(refine jdq rfl rfl ?_ ?_ ?_;kernel_rfl;kernel_rfl)|refine zB rfl rfl rfl (by repeat constructor) rfl ?_|refine zH .here rfl rfl rfl rfl ?_|refine zH (.there .here) rfl rfl rfl rfl ?_|refine zH (.there (.there .here)) rfl rfl rfl rfl ?_)) 
      refine oS (ev_build_arr (ps := []) (vs := []) (t := u8s zDg.1) (zs := u8s zDg.1) rfl rfl rfl .nil) rfl ?_ 
      refine oP (proved_nil 4 1 zDg 0#32 F0) Try.call31 rfl rfl ?_ 
      (repeat (first|refine zJ rfl rfl ?_|refine jr rfl ?_|refine jn ?_|refine zM rfl rfl ?_|(refine zC rfl rfl ?_ rfl ?_;omega)|(refine zD rfl rfl ?_ rfl ?_;omega)|(refine zP rfl ?_ rfl ?_;omega)|refine zG rfl rfl rfl rfl ?_|(refine jdq rfl rfl ?_ ?_ ?_;kernel_rfl;kernel_rfl)|refine zB rfl rfl rfl (by repeat constructor) rfl ?_|refine zH .here rfl rfl rfl rfl ?_|refine zH (.there .here) rfl rfl rfl rfl ?_|refine zH (.there (.there .here)) rfl rfl rfl rfl ?_)) 
      exact J_retv rfl (.tmp rfl .nil) [] (fun w s => s) hF0 ⟨rfl, rfl⟩
    · have g3 : 7 < n := by omega
      repeat (first|refine zJ rfl rfl ?_|refine jr rfl ?_|refine jn ?_|refine zM rfl rfl ?_|(refine zC rfl rfl ?_ rfl ?_;omega)|(refine zD rfl rfl ?_ rfl ?_;omega)|(refine zP rfl ?_ rfl ?_;omega)|refine zG rfl rfl rfl rfl ?_|(refine jdq rfl rfl ?_ ?_ ?_;kernel_rfl;kernel_rfl)|refine zB rfl rfl rfl (by repeat constructor) rfl ?_|refine zH .here rfl rfl rfl rfl ?_|refine zH (.there .here) rfl rfl rfl rfl ?_|refine zH (.there (.there .here)) rfl rfl rfl rfl ?_)
      refine oP (vadd_nil 0 ⟨n, 0, zDg, 0#32⟩ F0) Try.call30 rfl rfl ?_ 
      (repeat (first|refine zJ rfl rfl ?_|refine jr rfl ?_|refine jn ?_|refine zM rfl rfl ?_|(refine zC rfl rfl ?_ rfl ?_;omega)|(refine zD rfl rfl ?_ rfl ?_;omega)|(refine zP rfl ?_ rfl ?_;omega)|refine zG rfl rfl rfl rfl ?_|(refine jdq rfl rfl ?_ ?_ ?_;kernel_rfl;kernel_rfl)|refine zB rfl rfl rfl (by repeat constructor) rfl ?_|refine zH .here rfl rfl rfl rfl ?_|refine zH (.there .here) rfl rfl rfl rfl ?_|refine zH (.there (.there .here)) rfl rfl rfl rfl ?_)) 
      refine oS (ev_build_arr (ps := []) (vs := []) (t := u8s zDg.1) (zs := u8s zDg.1) rfl rfl rfl .nil) rfl ?_ 
      refine oP (count_nil 4 1 zDg F0) Try.call32 rfl rfl ?_ 
      (repeat (first|refine zJ rfl rfl ?_|refine jr rfl ?_|refine jn ?_|refine zM rfl rfl ?_|(refine zC rfl rfl ?_ rfl ?_;omega)|(refine zD rfl rfl ?_ rfl ?_;omega)|(refine zP rfl ?_ rfl ?_;omega)|refine zG rfl rfl rfl rfl ?_|(refine jdq rfl rfl ?_ ?_ ?_;kernel_rfl;kernel_rfl)|refine zB rfl rfl rfl (by repeat constructor) rfl ?_|refine zH .here rfl rfl rfl rfl ?_|refine zH (.there .here) rfl rfl rfl rfl ?_|refine zH (.there (.there .here)) rfl rfl rfl rfl ?_)) 
      refine oS (ev_build_arr (ps := []) (vs := []) (t := u8s zDg.1) (zs := u8s zDg.1) rfl rfl rfl .nil) rfl ?_ 
      refine oP (mask_nil 4 1 1 zDg F0) Try.call33 rfl rfl ?_ 
      refine oS (ev_eqW (a := 0#32) (b := 0#32) rfl rfl (decide_eq_true rfl)) rfl ?_ 
      (repeat (first|refine zJ rfl rfl ?_|refine jr rfl ?_|refine jn ?_|refine zM rfl rfl ?_|(refine zC rfl rfl ?_ rfl ?_;omega)|(refine zD rfl rfl ?_ rfl ?_;omega)|(refine zP rfl ?_ rfl ?_;omega)|refine zG rfl rfl rfl rfl ?_|(refine jdq rfl rfl ?_ ?_ ?_;kernel_rfl;kernel_rfl)|refine zB rfl rfl rfl (by repeat constructor) rfl ?_|refine zH .here rfl rfl rfl rfl ?_|refine zH (.there .here) rfl rfl rfl rfl ?_|refine zH (.there (.there .here)) rfl rfl rfl rfl ?_)) 
      refine oP (of_nil 0 4 F0) Try.call34 rfl rfl ?_ 
      (repeat (first|refine zJ rfl rfl ?_|refine jr rfl ?_|refine jn ?_|refine zM rfl rfl ?_|(refine zC rfl rfl ?_ rfl ?_;omega)|(refine zD rfl rfl ?_ rfl ?_;omega)|(refine zP rfl ?_ rfl ?_;omega)|refine zG rfl rfl rfl rfl ?_|(refine jdq rfl rfl ?_ ?_ ?_;kernel_rfl;kernel_rfl)|refine zB rfl rfl rfl (by repeat constructor) rfl ?_|refine zH .here rfl rfl rfl rfl ?_|refine zH (.there .here) rfl rfl rfl rfl ?_|refine zH (.there (.there .here)) rfl rfl rfl rfl ?_)) 
      refine oS (ev_build_arr (ps := []) (vs := []) (t := u8s zDg.1) (zs := u8s zDg.1) rfl rfl rfl .nil) rfl ?_ 
      refine oP (proved_nil 4 1 zDg 0#32 F0) Try.call31 rfl rfl ?_ 
      (repeat (first|refine zJ rfl rfl ?_|refine jr rfl ?_|refine jn ?_|refine zM rfl rfl ?_|(refine zC rfl rfl ?_ rfl ?_;omega)|(refine zD rfl rfl ?_ rfl ?_;omega)|(refine zP rfl ?_ rfl ?_;omega)|refine zG rfl rfl rfl rfl ?_|(refine jdq rfl rfl ?_ ?_ ?_;kernel_rfl;kernel_rfl)|refine zB rfl rfl rfl (by repeat constructor) rfl ?_|refine zH .here rfl rfl rfl rfl ?_|refine zH (.there .here) rfl rfl rfl rfl ?_|refine zH (.there (.there .here)) rfl rfl rfl rfl ?_)) 
      exact J_retv rfl (.tmp rfl .nil) [] (fun w s => s) hF0 ⟨rfl, rfl⟩
  have hb1 : 1 ≤ n := by omega
  have hb7 : n ≤ 7 := by omega
  repeat (first|refine zJ rfl rfl ?_|refine jr rfl ?_|refine jn ?_|refine zM rfl rfl ?_|(refine zC rfl rfl ?_ rfl ?_;omega)|(refine zD rfl rfl ?_ rfl ?_;omega)|(refine zP rfl ?_ rfl ?_;omega)|refine zG rfl rfl rfl rfl ?_|(refine jdq rfl rfl ?_ ?_ ?_;kernel_rfl;kernel_rfl)|refine zB rfl rfl rfl (by repeat constructor) rfl ?_|refine zH .here rfl rfl rfl rfl ?_|refine zH (.there .here) rfl rfl rfl rfl ?_|refine zH (.there (.there .here)) rfl rfl rfl rfl ?_)
  refine oC (Hc := []) (Hr := X) (vnew_spec n F0 hb1 hb7) Try.call29 rfl rfl (fun w s => s) ?_
  rintro _ F1 _ hF1 ⟨b, bm, rfl, rfl⟩
  replace h1 := h1.mono hF1
  repeat (first|refine zJ rfl rfl ?_|refine jr rfl ?_|refine jn ?_|refine zM rfl rfl ?_|(refine zC rfl rfl ?_ rfl ?_;omega)|(refine zD rfl rfl ?_ rfl ?_;omega)|(refine zP rfl ?_ rfl ?_;omega)|refine zG rfl rfl rfl rfl ?_|(refine jdq rfl rfl ?_ ?_ ?_;kernel_rfl;kernel_rfl)|refine zB rfl rfl rfl (by repeat constructor) rfl ?_|refine zH .here rfl rfl rfl rfl ?_|refine zH (.there .here) rfl rfl rfl rfl ?_|refine zH (.there (.there .here)) rfl rfl rfl rfl ?_)
  refine oE (ev_box rfl .agg) rfl ?_
  rintro _ _ _ _ ⟨rfl, br, rfl, rfl⟩
  repeat (first|refine zJ rfl rfl ?_|refine jr rfl ?_|refine jn ?_|refine zM rfl rfl ?_|(refine zC rfl rfl ?_ rfl ?_;omega)|(refine zD rfl rfl ?_ rfl ?_;omega)|(refine zP rfl ?_ rfl ?_;omega)|refine zG rfl rfl rfl rfl ?_|(refine jdq rfl rfl ?_ ?_ ?_;kernel_rfl;kernel_rfl)|refine zB rfl rfl rfl (by repeat constructor) rfl ?_|refine zH .here rfl rfl rfl rfl ?_|refine zH (.there .here) rfl rfl rfl rfl ?_|refine zH (.there (.there .here)) rfl rfl rfl rfl ?_)
  refine J_loop5 (fun (j : Nat) (G : PH) (L : List VE) (lv : Value) (R : List Ax) => j ≤ acts.length ∧ F1.le G ∧ Rel n (rowOf L) R ∧ OR G lv R ∧ R.length ≤ j) (fun j _ _ _ _ => acts.length - j) (fun j _ _ _ _ => [(2, .int .i64 at_), (3, w32 mask), (9, pT b), (10, pT br), (65, .slice a1 acts.length c1), (66, .int .i64 acts.length), (67, .int .i64 j)]) (fun _ G _ _ _ => G) (fun _ _ L lv _ => rblk br n lv :: (VS b n bm L ++ X)) 0 F1 [] (.slice none 0 0) [] ⟨Nat.zero_le _, PH.ler _, rel_none n, OR.nil _, Nat.le_refl _⟩ ⟨⟨rfl, rfl, rfl, rfl, rfl, rfl, rfl, trivial⟩, fun _ s => s⟩ ?_
  rintro j G L lv R ⟨hj, hG, hrel, hOR, hRl⟩
  by_cases hlt : j < acts.length
  rotate_left
  · repeat (first|refine zJ rfl rfl ?_|refine jr rfl ?_|refine jn ?_|refine zM rfl rfl ?_|(refine zC rfl rfl ?_ rfl ?_;omega)|(refine zD rfl rfl ?_ rfl ?_;omega)|(refine zP rfl ?_ rfl ?_;omega)|refine zG rfl rfl rfl rfl ?_|(refine jdq rfl rfl ?_ ?_ ?_;kernel_rfl;kernel_rfl)|refine zB rfl rfl rfl (by repeat constructor) rfl ?_|refine zH .here rfl rfl rfl rfl ?_|refine zH (.there .here) rfl rfl rfl rfl ?_|refine zH (.there (.there .here)) rfl rfl rfl rfl ?_)
    exact J_retv rfl (.tmp rfl .nil) [] (fun w s => sat_dropAll (K := VS b n bm L) s.drop) (hF0.trans (hF1.trans hG)) ⟨rfl, rfl⟩
  have hg : acts[j]? = some acts[j] := List.getElem?_eq_getElem hlt
  obtain ⟨b1, o1, rfl, hc1, _⟩ := (h1.mono hG).at hg
  generalize acts[j] = o at *
  repeat (first|refine zJ rfl rfl ?_|refine jr rfl ?_|refine jn ?_|refine zM rfl rfl ?_|(refine zC rfl rfl ?_ rfl ?_;omega)|(refine zD rfl rfl ?_ rfl ?_;omega)|(refine zP rfl ?_ rfl ?_;omega)|refine zG rfl rfl rfl rfl ?_|(refine jdq rfl rfl ?_ ?_ ?_;kernel_rfl;kernel_rfl)|refine zB rfl rfl rfl (by repeat constructor) rfl ?_|refine zH .here rfl rfl rfl rfl ?_|refine zH (.there .here) rfl rfl rfl rfl ?_|refine zH (.there (.there .here)) rfl rfl rfl rfl ?_)
  refine oS (ev_indexAddr rfl rfl rfl hlt) rfl ?_
  refine oS (ev_load_agg (n := 36) rfl rfl (Rdb.ofF hc1) (oCs1_len o)) rfl ?_
  refine oE (ev_alloc (cs := zOne) rfl) rfl ?_
  rintro _ _ _ _ ⟨rfl, b12, rfl, rfl⟩
  refine oN (ev_store rfl rfl .agg rfl (oCs1_len o) (lay_all (zs := zOne) (by rw [oCs1_len]; rfl)) (oCs1_ones o) .here) rfl ?_
  rintro _ _ _ _ ⟨rfl, _, rfl⟩
  repeat (first|refine zJ rfl rfl ?_|refine jr rfl ?_|refine jn ?_|refine zM rfl rfl ?_|(refine zC rfl rfl ?_ rfl ?_;omega)|(refine zD rfl rfl ?_ rfl ?_;omega)|(refine zP rfl ?_ rfl ?_;omega)|refine zG rfl rfl rfl rfl ?_|(refine jdq rfl rfl ?_ ?_ ?_;kernel_rfl;kernel_rfl)|refine zB rfl rfl rfl (by repeat constructor) rfl ?_|refine zH .here rfl rfl rfl rfl ?_|refine zH (.there .here) rfl rfl rfl rfl ?_|refine zH (.there (.there .here)) rfl rfl rfl rfl ?_)
  refine ja G [blk b12 77 (oCs1 o)] ?_ (fun w t => t.head) ?_; kernel_rfl
  refine aT 0 rfl (ev_qe rfl) rfl rfl ?_ ?_ ?_ ?_; kernel_rfl; kernel_rfl; kernel_rfl
  refine aT 1 rfl (ev_qe rfl) rfl rfl ?_ ?_ ?_ ?_; kernel_rfl; kernel_rfl; kernel_rfl
  refine aT 2 rfl (ev_load (v := .int .i64 o.2.c) rfl rfl (Rdb.ofB (n := 0) .here rfl)) rfl rfl ?_ ?_ ?_ ?_; kernel_rfl; kernel_rfl; kernel_rfl
  refine aT 3 rfl (ev_qe rfl) rfl rfl ?_ ?_ ?_ ?_; kernel_rfl; kernel_rfl; kernel_rfl
  refine aT 4 rfl (ev_qe rfl) rfl rfl ?_ ?_ ?_ ?_; kernel_rfl; kernel_rfl; kernel_rfl
  refine aT 5 rfl (ev_load (v := .int .i64 o.2.s) rfl rfl (Rdb.ofB (n := 0) .here rfl)) rfl rfl ?_ ?_ ?_ ?_; kernel_rfl; kernel_rfl; kernel_rfl
  refine aT 6 rfl (ev_qe rfl) rfl rfl ?_ ?_ ?_ ?_; kernel_rfl; kernel_rfl; kernel_rfl
  refine aT 7 rfl (ev_qe rfl) rfl rfl ?_ ?_ ?_ ?_; kernel_rfl; kernel_rfl; kernel_rfl
  refine aT 8 rfl (ev_ldD (d := o.2.d) .here rfl (dg_at3 _ _ _ _ _)) rfl rfl ?_ ?_ ?_ ?_; kernel_rfl; kernel_rfl; kernel_rfl
  refine aB (i := 9) (by kernel_rfl) (aE rfl (ev_alloc (cs := u8s zDg.1) rfl) rfl rfl (fun _ _ _ _ hq w t => by obtain ⟨rfl, _, _, rfl⟩ := hq; exact t.drop.head) ?_)
  rintro _ _ _ _ ⟨rfl, b15, rfl, rfl⟩
  refine aT 10 rfl (ev_qe rfl) rfl rfl ?_ ?_ ?_ ?_; kernel_rfl; kernel_rfl; kernel_rfl
  refine aT 11 rfl (ev_qe rfl) rfl rfl ?_ ?_ ?_ ?_; kernel_rfl; kernel_rfl; kernel_rfl
  refine aB (i := 12) (by kernel_rfl) (aN rfl (ev_store rfl rfl .agg rfl (dig_len o.2.d) (lay_D o.2.d zDg) (dig_ones o.2.d) .here) rfl (fun _ _ _ _ hq w t => by obtain ⟨rfl, _, rfl⟩ := hq; exact t.drop.head) ?_)
  rintro _ _ _ _ ⟨rfl, _, rfl⟩
  refine aD (by kernel_rfl) ?_
  repeat (first|refine zJ rfl rfl ?_|refine jr rfl ?_|refine jn ?_|refine zM rfl rfl ?_|(refine zC rfl rfl ?_ rfl ?_;omega)|(refine zD rfl rfl ?_ rfl ?_;omega)|(refine zP rfl ?_ rfl ?_;omega)|refine zG rfl rfl rfl rfl ?_|(refine jdq rfl rfl ?_ ?_ ?_;kernel_rfl;kernel_rfl)|refine zB rfl rfl rfl (by repeat constructor) rfl ?_|refine zH .here rfl rfl rfl rfl ?_|refine zH (.there .here) rfl rfl rfl rfl ?_|refine zH (.there (.there .here)) rfl rfl rfl rfl ?_)
  have h4 : ∀ q, (rowOf L q).length ≤ 4 := hrel.ok.len
  have h4r : (ofR R o.1 o.2.c).length ≤ 4 := by rw [← hrel.eq]; exact h4 _
  refine ja G [blk b15 29 (u8s o.2.d.1), blk b12 77 (oCs1 o)] ?_ (fun w t => Sat.left (A := [_, _]) t) ?_; kernel_rfl
  refine aT 0 rfl (ev_qe rfl) rfl rfl ?_ ?_ ?_ ?_; kernel_rfl; kernel_rfl; kernel_rfl
  refine aT 1 rfl (ev_qe rfl) rfl rfl ?_ ?_ ?_ ?_; kernel_rfl; kernel_rfl; kernel_rfl
  refine aT 2 rfl (ev_load (v := .int .i64 o.1) rfl rfl (Rdb.ofB (n := 0) (.there .here) rfl)) rfl rfl ?_ ?_ ?_ ?_; kernel_rfl; kernel_rfl; kernel_rfl
  refine aT 3 rfl (ev_qe rfl) rfl rfl ?_ ?_ ?_ ?_; kernel_rfl; kernel_rfl; kernel_rfl
  refine aT 4 rfl (ev_load_agg (cs := o.2.cs) rfl rfl (Rdb.ofB (n := 0) (.there .here) (vo_at1 o)) o.2.len) rfl rfl ?_ ?_ ?_ ?_; kernel_rfl; kernel_rfl; kernel_rfl
  refine aT 6 rfl (ev_qe rfl) rfl rfl ?_ ?_ ?_ ?_; kernel_rfl; kernel_rfl; kernel_rfl
  refine aT 7 rfl (ev_qe rfl) rfl rfl ?_ ?_ ?_ ?_; kernel_rfl; kernel_rfl; kernel_rfl
  refine aT 8 rfl (ev_load (v := .int .i64 o.1) rfl rfl (Rdb.ofB (n := 0) (.there .here) rfl)) rfl rfl ?_ ?_ ?_ ?_; kernel_rfl; kernel_rfl; kernel_rfl
  refine aT 9 rfl (ev_qe rfl) rfl rfl ?_ ?_ ?_ ?_; kernel_rfl; kernel_rfl; kernel_rfl
  refine aT 10 rfl (ev_load_agg (cs := o.2.cs) rfl rfl (Rdb.ofB (n := 0) (.there .here) (vo_at1 o)) o.2.len) rfl rfl ?_ ?_ ?_ ?_; kernel_rfl; kernel_rfl; kernel_rfl
  refine aB (i := 5) (by kernel_rfl) (aC (Hc := VS b n bm L) (Hr := blk b15 29 (u8s o.2.d.1) :: blk b12 77 (oCs1 o) :: rblk br n lv :: X) rfl (vadd_spec b bm n o.1 L o.2 G hb1 hb7 hrel.ok.rise h4) Try.call30 rfl rfl rfl (fun w t => Sat.front (A := [_, _, _]) (B := VS b n bm L) (C := X) t) (fun _ _ _ hF hq w t => by
    obtain ⟨_, L', rfl, _⟩ := hq
    exact (Sat.left (A := [_, _]) (sat_dropAll (K := VS b n bm L') t)).mono hF) ?_)
  rintro _ G1 _ hG1 ⟨rfl, L1, rfl, hL1⟩
  refine aB (i := 11) (by kernel_rfl) (aC (Hc := [rblk br n lv]) (Hr := blk b15 29 (u8s o.2.d.1) :: blk b12 77 (oCs1 o) :: (VS b n bm L1 ++ X)) rfl (radd_spec br n o.1 o.2 lv R G1 (hOR.mono hG1) (by omega) hb1 hb7 h4r) Try.call35 rfl rfl rfl (fun w t => (Sat.front (A := VS b n bm L1) (B := [_, _, _]) (C := X) t).pick (.there (.there .here))) (fun _ _ _ hF hq w t => by
    obtain ⟨_, _, _, _, _, rfl, _⟩ := hq
    exact (Sat.left (A := [_, _]) (Sat.drop t)).mono (hG1.trans hF)) ?_)
  rintro _ G2 _ hG2 ⟨r, lv2, R2, rfl, hadd, rfl, hOR2⟩
  obtain ⟨hre, hrel2⟩ := rel_add hrel hadd
  rw [← hL1] at hrel2
  have hR2 : R2.length ≤ j + 1 := by have := addref_len hadd; omega
  refine aT 12 rfl (ev_bneq_same rfl rfl Try.underlying4 hre.symm) rfl rfl ?_ ?_ ?_ ?_; kernel_rfl; kernel_rfl; kernel_rfl
  refine aT 13 rfl (ev_qe rfl) rfl rfl ?_ ?_ ?_ ?_; kernel_rfl; kernel_rfl; kernel_rfl
  refine aWeak (F' := G2) (H' := (rblk br n lv2 :: VS b n bm L1) ++ (blk b15 29 (u8s o.2.d.1) :: blk b12 77 (oCs1 o) :: X)) ?_ (fun w t => (Sat.left (A := [_, _]) (sat_dropAll (K := rblk br n lv2 :: VS b n bm L1) t)).mono (hG1.trans hG2)) (fun w t => by
    have t2 := Sat.front (A := [rblk br n lv2, blk b15 29 (u8s o.2.d.1), blk b12 77 (oCs1 o)]) (B := VS b n bm L1) (C := X) t
    exact (Sat.front (A := VS b n bm L1) (B := [rblk br n lv2]) (C := _ :: _ :: X) t2))
  refine a_lend fun hh hst hdj => ?_
  have q1 : hh.le (G2.un hh) := PH.le_r hdj
  obtain ⟨g1', g2', hs1, hs2, hd12, he⟩ := id hst
  have hvf : VF (G2.un hh) b n bm L1 := vf_of hs2 (by rw [he]; exact (PH.le_r hd12).trans (by rw [← he]; exact q1))
  have hrf : RF (G2.un hh) br n lv2 R2 := ⟨by
    have h9 := blk_cells hs1 (PH.emp_dj g1')
    rw [PH.emp_un] at h9
    exact h9.mono ((PH.le_l g1' g2').trans (by rw [← he]; exact q1)), hOR2.mono (PH.le_l _ _)⟩
  have q2 : G2.le (G2.un hh) := PH.le_l _ _
  clear he hs1 hs2 hd12
  generalize G2.un hh = G3 at *
  have h42 : ∀ q, (rowOf L1 q).length ≤ 4 := hrel2.ok.len
  refine aT 14 rfl (ev_qe rfl) rfl rfl ?_ ?_ ?_ ?_; kernel_rfl; kernel_rfl; kernel_rfl
  refine aT 15 rfl (ev_qe rfl) rfl rfl ?_ ?_ ?_ ?_; kernel_rfl; kernel_rfl; kernel_rfl
  refine aT 16 rfl (ev_load (v := .int .i64 o.1) rfl rfl (Rdb.ofB (n := 0) (.there .here) rfl)) rfl rfl ?_ ?_ ?_ ?_; kernel_rfl; kernel_rfl; kernel_rfl
  refine aT 17 rfl (ev_qe rfl) rfl rfl ?_ ?_ ?_ ?_; kernel_rfl; kernel_rfl; kernel_rfl
  refine aT 19 rfl (ev_qe rfl) rfl rfl ?_ ?_ ?_ ?_; kernel_rfl; kernel_rfl; kernel_rfl
  refine aT 20 rfl (ev_qe rfl) rfl rfl ?_ ?_ ?_ ?_; kernel_rfl; kernel_rfl; kernel_rfl
  refine aT 21 rfl (ev_load (v := .int .i64 o.1) rfl rfl (Rdb.ofB (n := 0) (.there .here) rfl)) rfl rfl ?_ ?_ ?_ ?_; kernel_rfl; kernel_rfl; kernel_rfl
  refine aT 22 rfl (ev_qe rfl) rfl rfl ?_ ?_ ?_ ?_; kernel_rfl; kernel_rfl; kernel_rfl
  have hHS : ∀ (F' : PH) w, G3.le F' → Sat F' (blk b15 29 (u8s o.2.d.1) :: blk b12 77 (oCs1 o) :: X) w → Sat G [blk b15 29 (u8s o.2.d.1), blk b12 77 (oCs1 o)] w := fun F' w hF t => (Sat.left (A := [_, _]) t).mono ((hG1.trans hG2).trans (q2.trans hF))
  refine aB (i := 18) (by kernel_rfl) (aC (Hc := []) (Hr := blk b15 29 (u8s o.2.d.1) :: blk b12 77 (oCs1 o) :: X) rfl (of_spec2 b bm n o.1 o.2.c L1 G3 hvf h42) Try.call34 rfl rfl rfl (fun _ s => s) (fun _ _ _ hF hq w t => by obtain ⟨rfl, _⟩ := hq; exact hHS _ w hF t) ?_)
  rintro u1 G4 _ hG4 ⟨rfl, hu1⟩
  refine aB (i := 23) (by kernel_rfl) (aC (Hc := []) (Hr := blk b15 29 (u8s o.2.d.1) :: blk b12 77 (oCs1 o) :: X) rfl (rof_spec br n o.1 o.2.c lv2 R2 G4 (hrf.mono hG4) (by omega)) Try.call37 rfl rfl rfl (fun _ s => s) (fun _ _ _ hF hq w t => by obtain ⟨rfl, _⟩ := hq; exact hHS _ w (hG4.trans hF) t) ?_)
  rintro u2 G5 _ hG5 ⟨rfl, hu2⟩
  have hrow4 := h42 (o.1, o.2.c)
  refine aB (i := 24) (by kernel_rfl) (aP rfl (vsame_spec u1 u2 _ _ G5 (hu1.mono hG5) hu2 (hrel2.eq _ _) (by omega)) Try.call36 rfl rfl rfl (fun w t => hHS _ w (hG4.trans hG5) t) ?_)
  refine aT 25 rfl (ev_qe rfl) rfl rfl ?_ ?_ ?_ ?_; kernel_rfl; kernel_rfl; kernel_rfl
  refine aT 26 rfl (ev_qe rfl) rfl rfl ?_ ?_ ?_ ?_; kernel_rfl; kernel_rfl; kernel_rfl
  refine aT 27 rfl (ev_qe rfl) rfl rfl ?_ ?_ ?_ ?_; kernel_rfl; kernel_rfl; kernel_rfl
  refine aT 28 rfl (ev_qe rfl) rfl rfl ?_ ?_ ?_ ?_; kernel_rfl; kernel_rfl; kernel_rfl
  refine aT 29 rfl (ev_qe rfl) rfl rfl ?_ ?_ ?_ ?_; kernel_rfl; kernel_rfl; kernel_rfl
  refine aT 30 rfl (ev_qe rfl) rfl rfl ?_ ?_ ?_ ?_; kernel_rfl; kernel_rfl; kernel_rfl
  refine aT 31 rfl (ev_ldD (d := o.2.d) .here rfl (by rw [List.drop_zero, List.take_length])) rfl rfl ?_ ?_ ?_ ?_; kernel_rfl; kernel_rfl; kernel_rfl
  refine aT 33 rfl (ev_qe rfl) rfl rfl ?_ ?_ ?_ ?_; kernel_rfl; kernel_rfl; kernel_rfl
  refine aT 34 rfl (ev_qe rfl) rfl rfl ?_ ?_ ?_ ?_; kernel_rfl; kernel_rfl; kernel_rfl
  refine aT 35 rfl (ev_qe rfl) rfl rfl ?_ ?_ ?_ ?_; kernel_rfl; kernel_rfl; kernel_rfl
  refine aT 36 rfl (ev_ldD (d := o.2.d) .here rfl (by rw [List.drop_zero, List.take_length])) rfl rfl ?_ ?_ ?_ ?_; kernel_rfl; kernel_rfl; kernel_rfl
  refine aB (i := 32) (by kernel_rfl) (aP rfl (count_spec2 b bm n o.2.c o.2.s o.2.d L1 G5 hb1 hb7 (hvf.mono (hG4.trans hG5)) h42) Try.call32 rfl rfl rfl (fun w t => hHS _ w (hG4.trans hG5) t) ?_)
  refine aB (i := 37) (by kernel_rfl) (aC (Hc := []) (Hr := blk b15 29 (u8s o.2.d.1) :: blk b12 77 (oCs1 o) :: X) rfl (voters_spec br n o.2.c o.2.s o.2.d lv2 R2 G5 (hrf.mono (hG4.trans hG5)) (by omega)) Try.call38 rfl rfl rfl (fun _ s => s) (fun _ _ _ hF hq w t => by obtain ⟨rfl, _⟩ := hq; exact hHS _ w ((hG4.trans hG5).trans hF) t) ?_)
  rintro u3 G6 _ hG6 ⟨rfl, hu3⟩
  obtain ⟨a6, c6, rfl, _⟩ := hu3.form
  have hcs := cnt_same hrel2 (by omega : (0 : Int) ≤ n) o.2.c o.2.s o.2.d
  refine aT 38 rfl (ev_qe rfl) rfl rfl ?_ ?_ ?_ ?_; kernel_rfl; kernel_rfl; kernel_rfl
  refine aT 39 rfl (ev_cmp_f (op := .neq) rfl rfl (show (((masksP (rowOf L1) o.2.c o.2.s o.2.d n.toNat).length : Nat) : Int) = ((votR R2 o.2.c o.2.s o.2.d).length : Nat) from by rw [hcs])) rfl rfl ?_ ?_ ?_ ?_; kernel_rfl; kernel_rfl; kernel_rfl
  refine aT 40 rfl (ev_qe rfl) rfl rfl ?_ ?_ ?_ ?_; kernel_rfl; kernel_rfl; kernel_rfl
  refine aD (by kernel_rfl) ?_
  have q3 : G3.le G6 := (hG4.trans hG5).trans hG6
  have hm1 := mask_spec2 b bm n o.2.c o.2.s at_ o.2.d L1 G6 hb1 hb7 (hvf.mono q3) h42
  have hm2 := rmask_spec br n o.2.c o.2.s at_ o.2.d lv2 R2 G6 (hrf.mono q3) (by omega)
  have hp1 := proved_spec2 b bm n o.2.c o.2.s at_ o.2.d mask L1 G6 hb1 hb7 (hvf.mono q3) h42
  have hp2 := rproved_spec br n o.2.c o.2.s at_ o.2.d mask lv2 R2 G6 (hrf.mono q3) (by omega)
  rw [mask_same hrel2 (by omega : (0 : Int) ≤ n)] at hm1
  rw [proved_same hrel2 (by omega : (0 : Int) ≤ n)] at hp1
  repeat (first|refine zJ rfl rfl ?_|refine jr rfl ?_|refine jn ?_|refine zM rfl rfl ?_|(refine zC rfl rfl ?_ rfl ?_;omega)|(refine zD rfl rfl ?_ rfl ?_;omega)|(refine zP rfl ?_ rfl ?_;omega)|refine zG rfl rfl rfl rfl ?_|(refine jdq rfl rfl ?_ ?_ ?_;kernel_rfl;kernel_rfl)|refine zB rfl rfl rfl (by repeat constructor) rfl ?_|refine zH .here rfl rfl rfl rfl ?_|refine zH (.there .here) rfl rfl rfl rfl ?_|refine zH (.there (.there .here)) rfl rfl rfl rfl ?_)
  refine jd rfl ?_ ?_ ?_; kernel_rfl; kernel_rfl
  repeat (first|refine zJ rfl rfl ?_|refine jr rfl ?_|refine jn ?_|refine zM rfl rfl ?_|(refine zC rfl rfl ?_ rfl ?_;omega)|(refine zD rfl rfl ?_ rfl ?_;omega)|(refine zP rfl ?_ rfl ?_;omega)|refine zG rfl rfl rfl rfl ?_|(refine jdq rfl rfl ?_ ?_ ?_;kernel_rfl;kernel_rfl)|refine zB rfl rfl rfl (by repeat constructor) rfl ?_|refine zH .here rfl rfl rfl rfl ?_|refine zH (.there .here) rfl rfl rfl rfl ?_|refine zH (.there (.there .here)) rfl rfl rfl rfl ?_)
  refine oS (ev_ldD (d := o.2.d) .here rfl (by rw [List.drop_zero, List.take_length])) rfl ?_
  repeat (first|refine zJ rfl rfl ?_|refine jr rfl ?_|refine jn ?_|refine zM rfl rfl ?_|(refine zC rfl rfl ?_ rfl ?_;omega)|(refine zD rfl rfl ?_ rfl ?_;omega)|(refine zP rfl ?_ rfl ?_;omega)|refine zG rfl rfl rfl rfl ?_|(refine jdq rfl rfl ?_ ?_ ?_;kernel_rfl;kernel_rfl)|refine zB rfl rfl rfl (by repeat constructor) rfl ?_|refine zH .here rfl rfl rfl rfl ?_|refine zH (.there .here) rfl rfl rfl rfl ?_|refine zH (.there (.there .here)) rfl rfl rfl rfl ?_)
  refine oP (hm1) Try.call33 rfl rfl ?_
  repeat (first|refine zJ rfl rfl ?_|refine jr rfl ?_|refine jn ?_|refine zM rfl rfl ?_|(refine zC rfl rfl ?_ rfl ?_;omega)|(refine zD rfl rfl ?_ rfl ?_;omega)|(refine zP rfl ?_ rfl ?_;omega)|refine zG rfl rfl rfl rfl ?_|(refine jdq rfl rfl ?_ ?_ ?_;kernel_rfl;kernel_rfl)|refine zB rfl rfl rfl (by repeat constructor) rfl ?_|refine zH .here rfl rfl rfl rfl ?_|refine zH (.there .here) rfl rfl rfl rfl ?_|refine zH (.there (.there .here)) rfl rfl rfl rfl ?_)
  refine oS (ev_ldD (d := o.2.d) .here rfl (by rw [List.drop_zero, List.take_length])) rfl ?_
  repeat (first|refine zJ rfl rfl ?_|refine jr rfl ?_|refine jn ?_|refine zM rfl rfl ?_|(refine zC rfl rfl ?_ rfl ?_;omega)|(refine zD rfl rfl ?_ rfl ?_;omega)|(refine zP rfl ?_ rfl ?_;omega)|refine zG rfl rfl rfl rfl ?_|(refine jdq rfl rfl ?_ ?_ ?_;kernel_rfl;kernel_rfl)|refine zB rfl rfl rfl (by repeat constructor) rfl ?_|refine zH .here rfl rfl rfl rfl ?_|refine zH (.there .here) rfl rfl rfl rfl ?_|refine zH (.there (.there .here)) rfl rfl rfl rfl ?_)
  refine oP (hm2) Try.call39 rfl rfl ?_
  refine oS (ev_neW rfl rfl (r := false) (by simp)) rfl ?_
  repeat (first|refine zJ rfl rfl ?_|refine jr rfl ?_|refine jn ?_|refine zM rfl rfl ?_|(refine zC rfl rfl ?_ rfl ?_;omega)|(refine zD rfl rfl ?_ rfl ?_;omega)|(refine zP rfl ?_ rfl ?_;omega)|refine zG rfl rfl rfl rfl ?_|(refine jdq rfl rfl ?_ ?_ ?_;kernel_rfl;kernel_rfl)|refine zB rfl rfl rfl (by repeat constructor) rfl ?_|refine zH .here rfl rfl rfl rfl ?_|refine zH (.there .here) rfl rfl rfl rfl ?_|refine zH (.there (.there .here)) rfl rfl rfl rfl ?_)
  refine oS (ev_ldD (d := o.2.d) .here rfl (by rw [List.drop_zero, List.take_length])) rfl ?_
  repeat (first|refine zJ rfl rfl ?_|refine jr rfl ?_|refine jn ?_|refine zM rfl rfl ?_|(refine zC rfl rfl ?_ rfl ?_;omega)|(refine zD rfl rfl ?_ rfl ?_;omega)|(refine zP rfl ?_ rfl ?_;omega)|refine zG rfl rfl rfl rfl ?_|(refine jdq rfl rfl ?_ ?_ ?_;kernel_rfl;kernel_rfl)|refine zB rfl rfl rfl (by repeat constructor) rfl ?_|refine zH .here rfl rfl rfl rfl ?_|refine zH (.there .here) rfl rfl rfl rfl ?_|refine zH (.there (.there .here)) rfl rfl rfl rfl ?_)
  refine oP (hp1) Try.call31 rfl rfl ?_
  repeat (first|refine zJ rfl rfl ?_|refine jr rfl ?_|refine jn ?_|refine zM rfl rfl ?_|(refine zC rfl rfl ?_ rfl ?_;omega)|(refine zD rfl rfl ?_ rfl ?_;omega)|(refine zP rfl ?_ rfl ?_;omega)|refine zG rfl rfl rfl rfl ?_|(refine jdq rfl rfl ?_ ?_ ?_;kernel_rfl;kernel_rfl)|refine zB rfl rfl rfl (by repeat constructor) rfl ?_|refine zH .here rfl rfl rfl rfl ?_|refine zH (.there .here) rfl rfl rfl rfl ?_|refine zH (.there (.there .here)) rfl rfl rfl rfl ?_)
  refine oS (ev_ldD (d := o.2.d) .here rfl (by rw [List.drop_zero, List.take_length])) rfl ?_
  repeat (first|refine zJ rfl rfl ?_|refine jr rfl ?_|refine jn ?_|refine zM rfl rfl ?_|(refine zC rfl rfl ?_ rfl ?_;omega)|(refine zD rfl rfl ?_ rfl ?_;omega)|(refine zP rfl ?_ rfl ?_;omega)|refine zG rfl rfl rfl rfl ?_|(refine jdq rfl rfl ?_ ?_ ?_;kernel_rfl;kernel_rfl)|refine zB rfl rfl rfl (by repeat constructor) rfl ?_|refine zH .here rfl rfl rfl rfl ?_|refine zH (.there .here) rfl rfl rfl rfl ?_|refine zH (.there (.there .here)) rfl rfl rfl rfl ?_)
  refine oP (hp2) Try.call40 rfl rfl ?_
  refine oS (ev_bneq_same rfl rfl Try.underlying4 rfl) rfl ?_
  repeat (first|refine zJ rfl rfl ?_|refine jr rfl ?_|refine jn ?_|refine zM rfl rfl ?_|(refine zC rfl rfl ?_ rfl ?_;omega)|(refine zD rfl rfl ?_ rfl ?_;omega)|(refine zP rfl ?_ rfl ?_;omega)|refine zG rfl rfl rfl rfl ?_|(refine jdq rfl rfl ?_ ?_ ?_;kernel_rfl;kernel_rfl)|refine zB rfl rfl rfl (by repeat constructor) rfl ?_|refine zH .here rfl rfl rfl rfl ?_|refine zH (.there .here) rfl rfl rfl rfl ?_|refine zH (.there (.there .here)) rfl rfl rfl rfl ?_)
  have q4 : G2.le (PH.sub G6 hh) := PH.le_sub (q2.trans q3) hdj
  refine J_again5 (j + 1) (PH.sub G6 hh) L1 lv2 R2 ⟨hlt, hG.trans ((hG1.trans hG2).trans q4), hrel2, hOR2.mono q4, hR2⟩ (by omega) ⟨⟨rfl, rfl, rfl, rfl, rfl, rfl, rfl, trivial⟩, fun w t => ?_⟩
  exact Sat.backAll (K := rblk br n lv2 :: VS b n bm L1) hst (q1.trans q3) t.drop.drop
open Go.ChangeShapes Go.WideShapes Go.ChangeAt
set_option maxRecDepth 100000 in theorem VouchPlays_lifted (os : Os) (started : os.Started) (H : Type) (enc : TypeId × Value → H) : ReturnsInHanded {} Try.checked os 8 .any (Rows.vouchPlaysSpec.pre6 enc Try.prog Try.f8 Rows.vouchPlaysRow.domain false) (Rows.vouchPlaysSpec.post enc Try.prog Try.f8 false true false false) := by
  refine returnsInHanded_of_change (C := Try.checked) own_knob started (by kernel_rfl) Try.func8 (ChangeSpec.witness6 (enc := enc) (C := Try.checked) false ⟨#[], #[.int .i64 0, .slice none 0 0, .int .i64 0, .int .u32 0], []⟩ 8 (by kernel_rfl) (by kernel_rfl) (by kernel_rfl) (by kernel_rfl)) ?_; intro W base args ds gs before hval0 hW hcnd _; have hval : ∀ (j : Nat) t v, Try.f8.params[j]? = some t → args[j]? = some v → Value.okWide Try.prog W .any base t v := hval0; have hW' := hW; obtain ⟨p, q, hA0, hV, hp, hfz, hnd⟩ := hW; have hA : DataW.TrodAll enc Try.prog W 0 (fun _ => true) true Try.f8.params.toList args.toList ds p := hA0; obtain ⟨rfl, rfl⟩ := trodVars_none hV; rw [List.append_nil] at hp; have hA' := hA; rw [Try.params8] at hA hval
  obtain ⟨v0, vs0, d0, ds0, p0, q0, hargs, rfl, rfl, h0, r0⟩ := trodAll_cons hA; obtain ⟨v1, vs1, d1, ds1, p1, q1, rfl, rfl, rfl, h1, r1⟩ := trodAll_cons r0; obtain ⟨v2, vs2, d2, ds2, p2, q2, rfl, rfl, rfl, h2, r2⟩ := trodAll_cons r1; obtain ⟨v3, vs3, d3, ds3, p3, q3, rfl, rfl, rfl, h3, r3⟩ := trodAll_cons r2; obtain ⟨rfl, rfl, rfl⟩ := trodAll_nil r3; obtain rfl : args = #[v0, v1, v2, v3] := by cases args; simp_all
  obtain ⟨n, rfl, rfl, rfl, w0⟩ := open_int Try.underlying3 (hval 0 3 v0 rfl rfl) h0
  obtain ⟨xs1, hx1⟩ := open_row tyAct Try.underlying69 (by kernel_rfl) (by decide) (hval 1 69 v1 rfl rfl) h1
  obtain ⟨l1, q1⟩ := acts_of hx1
  obtain ⟨at_, rfl, rfl, rfl, w2⟩ := open_int Try.underlying3 (hval 2 3 v2 rfl rfl) h2
  obtain ⟨mk, rfl, rfl, rfl, w3⟩ := open_int Try.underlying70 (hval 3 70 v3 rfl rfl) h3
  obtain ⟨a1, c1, rfl, _⟩ := q1.form
  rw [w32_of (wf_inK w3)]
  refine (law_walk (VouchPlays_walk n l1 at_ (BitVec.ofNat 32 mk.toNat) a1 c1 (ph W) q1)).mono fun e W' ⟨he, hb⟩ => ?_
  subst he
  rw [w32_of (wf_inK w3)] at *
  exact ⟨_, rfl, law_post laid_out (by kernel_rfl) rfl rfl Try.underlying4 hW' hA' hp rfl hb⟩
theorem VouchPlays_holds : Rows.VouchPlaysSaid := OpenClaim.holds_of_wide 8 Try.f8 rfl rfl rfl rfl rfl rfl rfl ⟨rfl, rfl, rfl, rfl, rfl⟩ rfl rfl rfl rfl rfl (by kernel_rfl) Try.func8 (by kernel_rfl) (of_decide_eq_true (by kernel_rfl)) (by unfold Func.isWrapper; first | (rw [if_pos (by decide +kernel)]; kernel_rfl) | (rw [if_neg (by decide +kernel)]; exact ⟨rfl, rfl⟩)) (fun os started H enc _ => VouchPlays_lifted os started H enc)
#print axioms VouchPlays_holds
end Go.Proofs.Ytdoaloimndehbaa
