/-
  The program's vouchings: their state; New; what a vouching adds. Conditions are typed with each.
-/
import Derived.Test.YtdoaloimndehbaaBc
namespace Go.Proofs.Ytdoaloimndehbaa
open Go.RowKit
set_option maxRecDepth 100000
theorem vins_spec (v : Value) (i bv : Nat) (xs : List Vo) (x : Vo) (F : PH) (hi : i ≤ xs.length) (hn : xs.length ≤ 1000) : Spec Try.prog 59 [v, .int .i64 i, .slice (some ⟨bv, 0, none⟩) 1 1] F [own v 72 35 xs.length (vCs xs), blk bv 72 x.cs] fun u _ H' => H' = [own u 72 35 (xs.length + 1) (vCs (xs.take i ++ x :: xs.drop i))] := by
  refine (vins_raw v xs.length i bv (vCs xs) x.cs F hi hn (vCs_ones xs) x.ones x.len).mono fun u _ H' _ h => ?_
  rw [h, vCs_app, vCs_cons, vCs_take, vCs_drop, List.append_assoc]
theorem Sat.nilOwn {F : PH} {H : List Asrt} {w : World} (E size : Nat) (s : Sat F H w) : Sat F (own (.slice none 0 0) E size 0 [] :: H) w := by
  obtain ⟨r, hr, hd, hw⟩ := s
  exact ⟨r, ⟨PH.emp, r, ⟨by simp, .inl ⟨rfl, rfl, rfl⟩⟩, hr, PH.emp_dj _, (PH.emp_un _).symm⟩, hd, hw⟩
theorem vclone_spec (v : Value) (xs : List Vo) (F : PH) (h : VR F v xs) (hn : xs.length ≤ 1000) : Spec Try.prog 60 [v] F [] fun u _ H' => H' = [own u 72 35 xs.length (vCs xs)] := by
  refine Spec.of1 Try.func60 rfl rfl fun X w0 => ?_
  obtain ⟨hl, a, c, rfl, hc, h2⟩ := id h
  repeat (first|refine zJ rfl rfl ?_|refine jr rfl ?_|refine jn ?_|refine zM rfl rfl ?_|(refine zC rfl rfl ?_ rfl ?_;omega)|(refine zD rfl rfl ?_ rfl ?_;omega)|(refine zP rfl ?_ rfl ?_;omega)|refine zG rfl rfl rfl rfl ?_|(refine jdq rfl rfl ?_ ?_ ?_;kernel_rfl;kernel_rfl)|refine zB rfl rfl rfl (by repeat constructor) rfl ?_|refine zH .here rfl rfl rfl rfl ?_|refine zH (.there .here) rfl rfl rfl rfl ?_|refine zH (.there (.there .here)) rfl rfl rfl rfl ?_)
  refine oS (ev_slice_eql_nil rfl rfl rfl) rfl ?_
  cases a with
  | none =>
    have h0 : xs.length = 0 := by
      by_cases hz : 0 < xs.length
      · obtain ⟨_, _, h3, _⟩ := h2 hz; cases h3
      · omega
    have hes : xs = [] := List.eq_nil_of_length_eq_zero h0
    subst hes
    repeat (first|refine zJ rfl rfl ?_|refine jr rfl ?_|refine jn ?_|refine zM rfl rfl ?_|(refine zC rfl rfl ?_ rfl ?_;omega)|(refine zD rfl rfl ?_ rfl ?_;omega)|(refine zP rfl ?_ rfl ?_;omega)|refine zG rfl rfl rfl rfl ?_|(refine jdq rfl rfl ?_ ?_ ?_;kernel_rfl;kernel_rfl)|refine zB rfl rfl rfl (by repeat constructor) rfl ?_|refine zH .here rfl rfl rfl rfl ?_|refine zH (.there .here) rfl rfl rfl rfl ?_|refine zH (.there (.there .here)) rfl rfl rfl rfl ?_)
    exact J_retv rfl (.tmp rfl .nil) [_] (fun w s => s.nilOwn _ _) (PH.ler _) rfl
  | some ad =>
    repeat (first|refine zJ rfl rfl ?_|refine jr rfl ?_|refine jn ?_|refine zM rfl rfl ?_|(refine zC rfl rfl ?_ rfl ?_;omega)|(refine zD rfl rfl ?_ rfl ?_;omega)|(refine zP rfl ?_ rfl ?_;omega)|refine zG rfl rfl rfl rfl ?_|(refine jdq rfl rfl ?_ ?_ ?_;kernel_rfl;kernel_rfl)|refine zB rfl rfl rfl (by repeat constructor) rfl ?_|refine zH .here rfl rfl rfl rfl ?_|refine zH (.there .here) rfl rfl rfl rfl ?_|refine zH (.there (.there .here)) rfl rfl rfl rfl ?_)
    refine oE (ev_mt elVo) rfl ?_
    rintro u _ _ _ ⟨rfl, ⟨b, rfl⟩, rfl⟩
    repeat (first|refine zJ rfl rfl ?_|refine jr rfl ?_|refine jn ?_|refine zM rfl rfl ?_|(refine zC rfl rfl ?_ rfl ?_;omega)|(refine zD rfl rfl ?_ rfl ?_;omega)|(refine zP rfl ?_ rfl ?_;omega)|refine zG rfl rfl rfl rfl ?_|(refine jdq rfl rfl ?_ ?_ ?_;kernel_rfl;kernel_rfl)|refine zB rfl rfl rfl (by repeat constructor) rfl ?_|refine zH .here rfl rfl rfl rfl ?_|refine zH (.there .here) rfl rfl rfl rfl ?_|refine zH (.there (.there .here)) rfl rfl rfl rfl ?_)
    refine oE (ev_append_s (n := 0) (m := xs.length) (xs := []) (news := vCs xs) (bytes := 56) (K := fun v' => own v' 72 35 xs.length (vCs xs) :: X) rfl rfl elVo (SliceV.rds h) (vCs_ones xs) (by omega) (fun v' => by rw [Nat.zero_add, List.nil_append]; exact .here)) rfl ?_
    rintro u _ _ _ ⟨rfl, hu, rfl⟩
    repeat (first|refine zJ rfl rfl ?_|refine jr rfl ?_|refine jn ?_|refine zM rfl rfl ?_|(refine zC rfl rfl ?_ rfl ?_;omega)|(refine zD rfl rfl ?_ rfl ?_;omega)|(refine zP rfl ?_ rfl ?_;omega)|refine zG rfl rfl rfl rfl ?_|(refine jdq rfl rfl ?_ ?_ ?_;kernel_rfl;kernel_rfl)|refine zB rfl rfl rfl (by repeat constructor) rfl ?_|refine zH .here rfl rfl rfl rfl ?_|refine zH (.there .here) rfl rfl rfl rfl ?_|refine zH (.there (.there .here)) rfl rfl rfl rfl ?_)
    exact J_retv rfl (.tmp rfl .nil) [_] (fun w s => s) (PH.ler _) rfl
/-! the state -/
/-- An entry: whose and whose client's; the row's value; the row. -/
abbrev VE := Pk × Value × List Vo
abbrev entK (e : VE) : Pk × Value := (e.1, e.2.1)
abbrev ownV (e : VE) : Asrt := own e.2.1 72 35 e.2.2.length (vCs e.2.2)
abbrev vblk (b : Nat) (n : Int) (bm : Nat) : Asrt := blk b 127 [.int .i64 n, .map (some bm)]
abbrev vmp (bm : Nat) (L : List VE) : Asrt := mp keyP bm (L.map entK)
def VS (b : Nat) (n : Int) (bm : Nat) (L : List VE) : List Asrt := vblk b n bm :: vmp bm L :: L.map ownV
theorem vnew_spec (n : Int) (F : PH) (h1 : 1 ≤ n) (h7 : n ≤ 7) : Spec Try.prog 29 [.int .i64 n] F [] fun u _ H' => ∃ b bm, u = pT b ∧ H' = VS b n bm [] := by
  refine Spec.of1 Try.func29 rfl rfl fun X w0 => ?_
  repeat (first|refine zJ rfl rfl ?_|refine jr rfl ?_|refine jn ?_|refine zM rfl rfl ?_|(refine zC rfl rfl ?_ rfl ?_;omega)|(refine zD rfl rfl ?_ rfl ?_;omega)|(refine zP rfl ?_ rfl ?_;omega)|refine zG rfl rfl rfl rfl ?_|(refine jdq rfl rfl ?_ ?_ ?_;kernel_rfl;kernel_rfl)|refine zB rfl rfl rfl (by repeat constructor) rfl ?_|refine zH .here rfl rfl rfl rfl ?_|refine zH (.there .here) rfl rfl rfl rfl ?_|refine zH (.there (.there .here)) rfl rfl rfl rfl ?_|refine zH (.there (.there (.there .here))) rfl rfl rfl rfl ?_|refine zH (.there (.there (.there (.there .here)))) rfl rfl rfl rfl ?_)
  refine oE (ev_makeMap (K := keyP)) rfl ?_
  rintro _ _ _ _ ⟨rfl, bm, rfl, rfl⟩
  repeat (first|refine zJ rfl rfl ?_|refine jr rfl ?_|refine jn ?_|refine zM rfl rfl ?_|(refine zC rfl rfl ?_ rfl ?_;omega)|(refine zD rfl rfl ?_ rfl ?_;omega)|(refine zP rfl ?_ rfl ?_;omega)|refine zG rfl rfl rfl rfl ?_|(refine jdq rfl rfl ?_ ?_ ?_;kernel_rfl;kernel_rfl)|refine zB rfl rfl rfl (by repeat constructor) rfl ?_|refine zH .here rfl rfl rfl rfl ?_|refine zH (.there .here) rfl rfl rfl rfl ?_|refine zH (.there (.there .here)) rfl rfl rfl rfl ?_|refine zH (.there (.there (.there .here))) rfl rfl rfl rfl ?_|refine zH (.there (.there (.there (.there .here)))) rfl rfl rfl rfl ?_)
  refine oE (ev_box rfl .agg) rfl ?_; rintro _ _ _ _ ⟨rfl, b, rfl, rfl⟩
  repeat (first|refine zJ rfl rfl ?_|refine jr rfl ?_|refine jn ?_|refine zM rfl rfl ?_|(refine zC rfl rfl ?_ rfl ?_;omega)|(refine zD rfl rfl ?_ rfl ?_;omega)|(refine zP rfl ?_ rfl ?_;omega)|refine zG rfl rfl rfl rfl ?_|(refine jdq rfl rfl ?_ ?_ ?_;kernel_rfl;kernel_rfl)|refine zB rfl rfl rfl (by repeat constructor) rfl ?_|refine zH .here rfl rfl rfl rfl ?_|refine zH (.there .here) rfl rfl rfl rfl ?_|refine zH (.there (.there .here)) rfl rfl rfl rfl ?_|refine zH (.there (.there (.there .here))) rfl rfl rfl rfl ?_|refine zH (.there (.there (.there (.there .here)))) rfl rfl rfl rfl ?_)
  exact J_retv rfl (.tmp rfl .nil) _ (fun w s => s) (PH.ler _) ⟨b, bm, rfl, rfl⟩
theorem vnew_bad (n : Int) (F : PH) (h : n < 1 ∨ 7 < n) : Pure Try.prog 29 [.int .i64 n] F (.pointer none) := by
  refine Spec.of1 Try.func29 rfl rfl fun X w0 => ?_
  by_cases h1 : n < 1
  · repeat (first|refine zJ rfl rfl ?_|refine jr rfl ?_|refine jn ?_|refine zM rfl rfl ?_|(refine zC rfl rfl ?_ rfl ?_;omega)|(refine zD rfl rfl ?_ rfl ?_;omega)|(refine zP rfl ?_ rfl ?_;omega)|refine zG rfl rfl rfl rfl ?_|(refine jdq rfl rfl ?_ ?_ ?_;kernel_rfl;kernel_rfl)|refine zB rfl rfl rfl (by repeat constructor) rfl ?_|refine zH .here rfl rfl rfl rfl ?_|refine zH (.there .here) rfl rfl rfl rfl ?_|refine zH (.there (.there .here)) rfl rfl rfl rfl ?_|refine zH (.there (.there (.there .here))) rfl rfl rfl rfl ?_|refine zH (.there (.there (.there (.there .here)))) rfl rfl rfl rfl ?_)
    exact J_retv rfl (.tmp rfl .nil) [] (fun w s => s) (PH.ler _) ⟨rfl, rfl⟩
  · repeat (first|refine zJ rfl rfl ?_|refine jr rfl ?_|refine jn ?_|refine zM rfl rfl ?_|(refine zC rfl rfl ?_ rfl ?_;omega)|(refine zD rfl rfl ?_ rfl ?_;omega)|(refine zP rfl ?_ rfl ?_;omega)|refine zG rfl rfl rfl rfl ?_|(refine jdq rfl rfl ?_ ?_ ?_;kernel_rfl;kernel_rfl)|refine zB rfl rfl rfl (by repeat constructor) rfl ?_|refine zH .here rfl rfl rfl rfl ?_|refine zH (.there .here) rfl rfl rfl rfl ?_|refine zH (.there (.there .here)) rfl rfl rfl rfl ?_|refine zH (.there (.there (.there .here))) rfl rfl rfl rfl ?_|refine zH (.there (.there (.there (.there .here)))) rfl rfl rfl rfl ?_)
    exact J_retv rfl (.tmp rfl .nil) [] (fun w s => s) (PH.ler _) ⟨rfl, rfl⟩
end Go.Proofs.Ytdoaloimndehbaa
