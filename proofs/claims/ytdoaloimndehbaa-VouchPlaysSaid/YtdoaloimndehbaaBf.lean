/-
  What Add does. Conditions are typed with each.
-/
import Derived.Test.YtdoaloimndehbaaBe
namespace Go.Proofs.Ytdoaloimndehbaa
open Go.RowKit
set_option maxRecDepth 100000
theorem addR_eq (l : List Vo) (x : Vo) : addR l x = match l[lbP l x.s]? with
    | some y => if y.s = x.s then (if y.d ≠ x.d ∨ y.m ||| x.m = y.m then none else some (l.set (lbP l x.s) ⟨y.c, y.s, y.d, y.m ||| x.m⟩)) else
        if l.length = 4 ∧ lbP l x.s = 0 then none else some ((l.take (lbP l x.s) ++ x :: l.drop (lbP l x.s)).drop (if l.length = 4 then 1 else 0))
    | none => if l.length = 4 ∧ lbP l x.s = 0 then none else some ((l.take (lbP l x.s) ++ x :: l.drop (lbP l x.s)).drop (if l.length = 4 then 1 else 0)) := rfl
theorem thereP_eq (l : List Vo) (s : Int) : thereP l s = match l[lbP l s]? with
    | some y => decide (y.s = s)
    | none => false := rfl
theorem layR {i : Nat} {vs r s : List Value} (t : List Value) (h : Lay i vs r s) : Lay i vs (r ++ t) (s ++ t) := by
  induction h with
  | nil => exact .nil
  | put _ ih => exact .put ih
  | skip _ ih => exact .skip ih
theorem vo_split {l : List Vo} {i : Nat} {y : Vo} (h : l[i]? = some y) : l = l.take i ++ y :: l.drop (i + 1) := by
  obtain ⟨hi, rfl⟩ := List.getElem?_eq_some_iff.1 h
  rw [List.getElem_cons_drop, List.take_append_drop]
theorem vo_set {l : List Vo} {i : Nat} {y : Vo} (h : l[i]? = some y) (m : W) : Lay (i * 35 + 34) [w32 m] (vCs l) (vCs (l.set i ⟨y.c, y.s, y.d, m⟩)) := by
  obtain ⟨hi, _⟩ := List.getElem?_eq_some_iff.1 h
  have e1 : vCs l = vCs (l.take i) ++ (y.cs ++ vCs (l.drop (i + 1))) := by
    conv => lhs; rw [vo_split h]
    rw [vCs_app, vCs_cons]
  have e2 : vCs (l.set i ⟨y.c, y.s, y.d, m⟩) = vCs (l.take i) ++ (Vo.cs ⟨y.c, y.s, y.d, m⟩ ++ vCs (l.drop (i + 1))) := by
    rw [List.set_eq_take_append_cons_drop, if_pos hi, vCs_app, vCs_cons]
  have h1 := layP (u8s y.d.1) (lay_all (vs := [w32 m]) (zs := [w32 y.m]) rfl)
  rw [dig_len] at h1
  have h2 : Lay 34 [w32 m] y.cs (Vo.cs ⟨y.c, y.s, y.d, m⟩) := .skip (.skip h1)
  have h3 := layP (vCs (l.take i)) (layR (vCs (l.drop (i + 1))) h2)
  rw [vCs_len, List.length_take, Nat.min_eq_left (by omega)] at h3
  rw [e1, e2]
  exact h3
theorem vo_in {F : PH} {H : List Asrt} {b : Nat} {l : List Vo} {i : Nat} {y : Vo} (h : l[i]? = some y) (hr : Rdb F H b 0 (vCs l)) : Rdb F H b (0 + i * 35 + 34) [w32 y.m] := fun w s => by
  refine cells_at (r := y.cs) (cells_at (hr w s) (i * 35) ?_) 34 (mk_at2 _ _ _ _)
  have h2 := flat_at (n := 35) (css := l.map Vo.cs) (i := i) (c := y.cs) (fun c hc => by obtain ⟨x, _, rfl⟩ := List.mem_map.1 hc; exact x.len) (by rw [List.getElem?_map, h]; rfl)
  rw [y.len]
  exact h2
theorem J_takeBack {C : Ctx} {k : List KItem} {l : Env} {F1 hh : PH} {A : Asrt} {H : List Asrt} (hA : A hh) (hl : hh.le F1) (h : J C k l (PH.sub F1 hh) (A :: H)) : J C k l F1 H := J_weak h fun w s => Sat.takeBack hA hl s
theorem w32_inj {a b : W} (h : w32 a = w32 b) : a = b := by
  unfold w32 at h
  injection h with _ h
  exact BitVec.eq_of_toNat_eq (by omega)
theorem ev_eqW {P : Program} {l : Env} {F : PH} {H : List Asrt} {d : Option Nat} {T T' U : TypeId} {pos : String} {af : Array Edge} {g : Option (Nat × Bool)} {x y : Operand} {a b : W} {r : Bool} (hx : opv l x = some (w32 a)) (hy : opv l y = some (w32 b)) (hr : decide (a = b) = r) : Ev P ⟨d, .binOp .eql T x y T', U, pos, af, g⟩ l F H (.bool r) := by
  subst hr
  by_cases h : a = b
  · subst h
    rw [decide_eq_true rfl]
    exact ev_cmp_t (op := .eql) hx hy (show (a.toNat : Int) = a.toNat from rfl)
  · rw [decide_eq_false h]
    refine ev_cmp_f (op := .eql) hx hy (show ¬ ((a.toNat : Int) = b.toNat) from fun e => h (BitVec.eq_of_toNat_eq (by omega)))
set_option maxHeartbeats 8000000 in
theorem vadd_spec (b bm : Nat) (n who : Int) (L : List VE) (x : Vo) (F : PH) (h1 : 1 ≤ n) (h7 : n ≤ 7) (hr : ∀ q, Rise (rowOf L q)) (h4 : ∀ q, (rowOf L q).length ≤ 4) :
    Spec Try.prog 30 [pT b, .int .i64 who, .agg x.cs.toArray] F (VS b n bm L) fun u _ H' => u = .bool (addM n (rowOf L) who x).1 ∧ ∃ L', H' = VS b n bm L' ∧ rowOf L' = (addM n (rowOf L) who x).2 := by
  refine Spec.of3 Try.func30 rfl rfl fun X w0 => ?_
  refine jc rfl rfl ?_
  refine jr rfl ?_
  refine oE (ev_box rfl .agg) rfl ?_; rintro _ _ _ _ ⟨rfl, b5, rfl, rfl⟩
  unfold addM
  have hin : inB n who x.c = decide (0 ≤ who ∧ who < n ∧ n ≤ x.c ∧ x.c < n + 4) := rfl
  by_cases g1 : who < 0
  · rw [hin, decide_eq_false (by omega)]
    dsimp only [VS, List.cons_append]
    repeat (first|refine zJ rfl rfl ?_|refine jr rfl ?_|refine jn ?_|refine zM rfl rfl ?_|(refine zC rfl rfl ?_ rfl ?_;omega)|(refine zD rfl rfl ?_ rfl ?_;omega)|(refine zP rfl ?_ rfl ?_;omega)|refine zG rfl rfl rfl rfl ?_|(refine jdq rfl rfl ?_ ?_ ?_;kernel_rfl;kernel_rfl)|refine zB rfl rfl rfl (by repeat constructor) rfl ?_|refine zH .here rfl rfl rfl rfl ?_|refine zH (.there .here) rfl rfl rfl rfl ?_|refine zH (.there (.there .here)) rfl rfl rfl rfl ?_)
    exact J_retv rfl (.tmp rfl .nil) _ (fun w s => s.drop) (PH.ler _) ⟨rfl, L, rfl, rfl⟩
  by_cases g2 : n ≤ who
  · rw [hin, decide_eq_false (by omega)]
    dsimp only [VS, List.cons_append]
    repeat (first|refine zJ rfl rfl ?_|refine jr rfl ?_|refine jn ?_|refine zM rfl rfl ?_|(refine zC rfl rfl ?_ rfl ?_;omega)|(refine zD rfl rfl ?_ rfl ?_;omega)|(refine zP rfl ?_ rfl ?_;omega)|refine zG rfl rfl rfl rfl ?_|(refine jdq rfl rfl ?_ ?_ ?_;kernel_rfl;kernel_rfl)|refine zB rfl rfl rfl (by repeat constructor) rfl ?_|refine zH .here rfl rfl rfl rfl ?_|refine zH (.there .here) rfl rfl rfl rfl ?_|refine zH (.there (.there .here)) rfl rfl rfl rfl ?_)
    exact J_retv rfl (.tmp rfl .nil) _ (fun w s => s.drop) (PH.ler _) ⟨rfl, L, rfl, rfl⟩
  by_cases g3 : x.c < n
  · rw [hin, decide_eq_false (by omega)]
    dsimp only [VS, List.cons_append]
    repeat (first|refine zJ rfl rfl ?_|refine jr rfl ?_|refine jn ?_|refine zM rfl rfl ?_|(refine zC rfl rfl ?_ rfl ?_;omega)|(refine zD rfl rfl ?_ rfl ?_;omega)|(refine zP rfl ?_ rfl ?_;omega)|refine zG rfl rfl rfl rfl ?_|(refine jdq rfl rfl ?_ ?_ ?_;kernel_rfl;kernel_rfl)|refine zB rfl rfl rfl (by repeat constructor) rfl ?_|refine zH .here rfl rfl rfl rfl ?_|refine zH (.there .here) rfl rfl rfl rfl ?_|refine zH (.there (.there .here)) rfl rfl rfl rfl ?_)
    exact J_retv rfl (.tmp rfl .nil) _ (fun w s => s.drop) (PH.ler _) ⟨rfl, L, rfl, rfl⟩
  by_cases g4 : n + 4 ≤ x.c
  · rw [hin, decide_eq_false (by omega)]
    dsimp only [VS, List.cons_append]
    repeat (first|refine zJ rfl rfl ?_|refine jr rfl ?_|refine jn ?_|refine zM rfl rfl ?_|(refine zC rfl rfl ?_ rfl ?_;omega)|(refine zD rfl rfl ?_ rfl ?_;omega)|(refine zP rfl ?_ rfl ?_;omega)|refine zG rfl rfl rfl rfl ?_|(refine jdq rfl rfl ?_ ?_ ?_;kernel_rfl;kernel_rfl)|refine zB rfl rfl rfl (by repeat constructor) rfl ?_|refine zH .here rfl rfl rfl rfl ?_|refine zH (.there .here) rfl rfl rfl rfl ?_|refine zH (.there (.there .here)) rfl rfl rfl rfl ?_)
    exact J_retv rfl (.tmp rfl .nil) _ (fun w s => s.drop) (PH.ler _) ⟨rfl, L, rfl, rfl⟩
  rw [hin, decide_eq_true (by omega), if_pos rfl]
  dsimp only [VS, List.cons_append]
  repeat (first|refine zJ rfl rfl ?_|refine jr rfl ?_|refine jn ?_|refine zM rfl rfl ?_|(refine zC rfl rfl ?_ rfl ?_;omega)|(refine zD rfl rfl ?_ rfl ?_;omega)|(refine zP rfl ?_ rfl ?_;omega)|refine zG rfl rfl rfl rfl ?_|(refine jdq rfl rfl ?_ ?_ ?_;kernel_rfl;kernel_rfl)|refine zB rfl rfl rfl (by repeat constructor) rfl ?_|refine zH .here rfl rfl rfl rfl ?_|refine zH (.there .here) rfl rfl rfl rfl ?_|refine zH (.there (.there .here)) rfl rfl rfl rfl ?_)
  refine oE (ev_alloc rfl) rfl ?_
  rintro _ _ _ _ ⟨rfl, b7, rfl, rfl⟩
  refine oN (ev_store rfl rfl .agg rfl rfl (lay_all (zs := [.int .i64 0, .int .i64 0]) rfl) (ones_cons rfl (ones_cons rfl ones_nil)) .here) rfl ?_
  rintro _ _ _ _ ⟨rfl, _, rfl⟩
  repeat (first|refine zJ rfl rfl ?_|refine jr rfl ?_|refine jn ?_|refine zM rfl rfl ?_|(refine zC rfl rfl ?_ rfl ?_;omega)|(refine zD rfl rfl ?_ rfl ?_;omega)|(refine zP rfl ?_ rfl ?_;omega)|refine zG rfl rfl rfl rfl ?_|(refine jdq rfl rfl ?_ ?_ ?_;kernel_rfl;kernel_rfl)|refine zB rfl rfl rfl (by repeat constructor) rfl ?_|refine zH .here rfl rfl rfl rfl ?_|refine zH (.there .here) rfl rfl rfl rfl ?_|refine zH (.there (.there .here)) rfl rfl rfl rfl ?_)
  have hopen : ∀ w, Sat F (blk b7 129 [.int .i64 who, .int .i64 x.c] :: blk b5 72 x.cs :: (VS b n bm L ++ X)) w → Sat F (own (valOf L (who, x.c)) 72 35 (rowOf L (who, x.c)).length (vCs (rowOf L (who, x.c))) :: blk b7 129 [.int .i64 who, .int .i64 x.c] :: blk b5 72 x.cs :: vblk b n bm :: mp keyP bm (L.map entK) :: ((restV L (who, x.c)).map ownV ++ X)) w := fun w s => by
    have s2 := Sat.front (A := [_, _]) (B := VS b n bm L) (C := X) s
    have s3 := vs_open (who, x.c) s2
    have s4 := Sat.front (A := VSo b n bm (L.map entK) (valOf L (who, x.c)) (rowOf L (who, x.c)) (restV L (who, x.c))) (B := [_, _]) (C := X) s3
    exact s4.pick (.there (.there .here))
  have hback : ∀ F w, Sat F (own (valOf L (who, x.c)) 72 35 (rowOf L (who, x.c)).length (vCs (rowOf L (who, x.c))) :: blk b7 129 [.int .i64 who, .int .i64 x.c] :: blk b5 72 x.cs :: vblk b n bm :: mp keyP bm (L.map entK) :: ((restV L (who, x.c)).map ownV ++ X)) w → Sat F (VS b n bm L ++ X) w := fun F w s => by
    have s1 := Sat.drop2 (Sat.drop2 s)
    exact vs_back (who, x.c) s1
  have hclose : ∀ (u : Value) (l : List Vo) F w, Sat F (own u 72 35 l.length (vCs l) :: vblk b n bm :: mp keyP bm (setK (L.map entK) (who, x.c) u) :: ((restV L (who, x.c)).map ownV ++ X)) w → Sat F (VS b n bm (setE L (who, x.c) u l) ++ X) w := fun u l F w s => vs_close (who, x.c) u l s
  have hrow' : ∀ (u : Value) (l : List Vo), rowOf (setE L (who, x.c) u l) = setM (rowOf L) (who, x.c) l := fun u l => funext fun q => setE_row L (who, x.c) u l q
  have hnone : ∀ y, (rowOf L (who, x.c))[lbP (rowOf L (who, x.c)) x.s]? = some y → setK (L.map entK) (who, x.c) (valOf L (who, x.c)) = L.map entK := fun y hy => by
    refine set_val ?_
    cases h : hasE L (who, x.c) with
    | true => rfl
    | false => rw [(row_none h).1] at hy; cases hy
  refine J_weak ?_ hopen
  generalize hp : ((who, x.c) : Pk) = p at *
  have hRise := hr p
  have hLen := h4 p
  have hval : valOf L p = valOf L p := rfl
  generalize hv : valOf L p = v at *
  generalize hl0 : rowOf L p = l0 at *
  generalize hR : (restV L p).map ownV = R at *
  refine J_persist fun hh hA hd => ?_
  have q1 : hh.le (F.un hh) := PH.le_r hd
  have q2 : F.le (PH.sub (F.un hh) hh) := PH.le_sub (PH.le_l F hh) hd
  have hrow : VR (F.un hh) v l0 := own_slice hA hd
  generalize F.un hh = F1 at *
  clear hopen hr h4 hin
  refine jd rfl ?_ ?_ ?_; kernel_rfl; kernel_rfl
  repeat (first|refine zJ rfl rfl ?_|refine jr rfl ?_|refine jn ?_|refine zM rfl rfl ?_|(refine zC rfl rfl ?_ rfl ?_;omega)|(refine zD rfl rfl ?_ rfl ?_;omega)|(refine zP rfl ?_ rfl ?_;omega)|refine zG rfl rfl rfl rfl ?_|(refine jdq rfl rfl ?_ ?_ ?_;kernel_rfl;kernel_rfl)|refine zB rfl rfl rfl (by repeat constructor) rfl ?_|refine zH .here rfl rfl rfl rfl ?_|refine zH (.there .here) rfl rfl rfl rfl ?_|refine zH (.there (.there .here)) rfl rfl rfl rfl ?_)
  refine oS (ev_load_agg (cs := [.int .i64 who, .int .i64 x.c]) rfl rfl (Rdb.ofB (n := 0) .here rfl) rfl) rfl ?_
  refine oS (ev_lookup (K := keyP) (a := p) (M := L.map entK) (zv := .slice none 0 0) (r := v) rfl (by rw [← hp]; rfl) rfl rfl (.there (.there (.there .here))) hv.symm) rfl ?_
  repeat (first|refine zJ rfl rfl ?_|refine jr rfl ?_|refine jn ?_|refine zM rfl rfl ?_|(refine zC rfl rfl ?_ rfl ?_;omega)|(refine zD rfl rfl ?_ rfl ?_;omega)|(refine zP rfl ?_ rfl ?_;omega)|refine zG rfl rfl rfl rfl ?_|(refine jdq rfl rfl ?_ ?_ ?_;kernel_rfl;kernel_rfl)|refine zB rfl rfl rfl (by repeat constructor) rfl ?_|refine zH .here rfl rfl rfl rfl ?_|refine zH (.there .here) rfl rfl rfl rfl ?_|refine zH (.there (.there .here)) rfl rfl rfl rfl ?_)
  refine oP (bs_spec v l0 x.s F1 hrow (by omega) hRise) Try.call56 rfl rfl ?_
  have hadd := addR_eq l0 x
  have hthere := thereP_eq l0 x.s
  have hbl := lbP_le l0 x.s
  generalize hi : lbP l0 x.s = i at *
  obtain ⟨a, c, hvf, hlc⟩ := hrow.form
  subst hvf
  have hcase : (∃ y, l0[i]? = some y ∧ y.s = x.s) ∨ (thereP l0 x.s = false ∧ addR l0 x = if l0.length = 4 ∧ i = 0 then none else some ((l0.take i ++ x :: l0.drop i).drop (if l0.length = 4 then 1 else 0))) := by
    cases hy : l0[i]? with
    | some y =>
      rw [hy] at hadd hthere
      dsimp only at hadd hthere
      by_cases hs : y.s = x.s
      · exact .inl ⟨y, rfl, hs⟩
      · rw [if_neg hs] at hadd
        rw [decide_eq_false hs] at hthere
        exact .inr ⟨hthere, hadd⟩
    | none =>
      rw [hy] at hadd hthere
      exact .inr ⟨hthere, hadd⟩
  rcases hcase with ⟨y, hy, hs⟩ | ⟨hthere, hadd⟩
  · rw [hy] at hadd hthere
    dsimp only at hadd hthere
    have hlt := (List.getElem?_eq_some_iff.1 hy).1
    rw [if_pos hs] at hadd
    rw [decide_eq_true hs] at hthere
    rw [hthere]
    obtain ⟨b9, o9, rfl, hcc, _⟩ := hrow.at hy
    repeat (first|refine zJ rfl rfl ?_|refine jr rfl ?_|refine jn ?_|refine zM rfl rfl ?_|(refine zC rfl rfl ?_ rfl ?_;omega)|(refine zD rfl rfl ?_ rfl ?_;omega)|(refine zP rfl ?_ rfl ?_;omega)|refine zG rfl rfl rfl rfl ?_|(refine jdq rfl rfl ?_ ?_ ?_;kernel_rfl;kernel_rfl)|refine zB rfl rfl rfl (by repeat constructor) rfl ?_|refine zH .here rfl rfl rfl rfl ?_|refine zH (.there .here) rfl rfl rfl rfl ?_|refine zH (.there (.there .here)) rfl rfl rfl rfl ?_)
    refine oS (ev_indexAddr rfl rfl rfl hlt) rfl ?_
    repeat (first|refine zJ rfl rfl ?_|refine jr rfl ?_|refine jn ?_|refine zM rfl rfl ?_|(refine zC rfl rfl ?_ rfl ?_;omega)|(refine zD rfl rfl ?_ rfl ?_;omega)|(refine zP rfl ?_ rfl ?_;omega)|refine zG rfl rfl rfl rfl ?_|(refine jdq rfl rfl ?_ ?_ ?_;kernel_rfl;kernel_rfl)|refine zB rfl rfl rfl (by repeat constructor) rfl ?_|refine zH .here rfl rfl rfl rfl ?_|refine zH (.there .here) rfl rfl rfl rfl ?_|refine zH (.there (.there .here)) rfl rfl rfl rfl ?_)
    refine oS (ev_load_agg (cs := u8s y.d.1) rfl rfl (Rdb.ofF (cells_at hcc 2 (dg_at2 _ _ _ _))) (dig_len _)) rfl ?_
    repeat (first|refine zJ rfl rfl ?_|refine jr rfl ?_|refine jn ?_|refine zM rfl rfl ?_|(refine zC rfl rfl ?_ rfl ?_;omega)|(refine zD rfl rfl ?_ rfl ?_;omega)|(refine zP rfl ?_ rfl ?_;omega)|refine zG rfl rfl rfl rfl ?_|(refine jdq rfl rfl ?_ ?_ ?_;kernel_rfl;kernel_rfl)|refine zB rfl rfl rfl (by repeat constructor) rfl ?_|refine zH .here rfl rfl rfl rfl ?_|refine zH (.there .here) rfl rfl rfl rfl ?_|refine zH (.there (.there .here)) rfl rfl rfl rfl ?_)
    refine oS (ev_ldD (d := x.d) (.there .here) rfl (dg_at2 _ _ _ _)) rfl ?_
    refine oS (ev_neD rfl rfl) rfl ?_
    by_cases hdg : y.d = x.d
    · rw [decide_eq_true hdg]
      repeat (first|refine zJ rfl rfl ?_|refine jr rfl ?_|refine jn ?_|refine zM rfl rfl ?_|(refine zC rfl rfl ?_ rfl ?_;omega)|(refine zD rfl rfl ?_ rfl ?_;omega)|(refine zP rfl ?_ rfl ?_;omega)|refine zG rfl rfl rfl rfl ?_|(refine jdq rfl rfl ?_ ?_ ?_;kernel_rfl;kernel_rfl)|refine zB rfl rfl rfl (by repeat constructor) rfl ?_|refine zH .here rfl rfl rfl rfl ?_|refine zH (.there .here) rfl rfl rfl rfl ?_|refine zH (.there (.there .here)) rfl rfl rfl rfl ?_)
      refine oS (ev_indexAddr rfl rfl rfl hlt) rfl ?_
      repeat (first|refine zJ rfl rfl ?_|refine jr rfl ?_|refine jn ?_|refine zM rfl rfl ?_|(refine zC rfl rfl ?_ rfl ?_;omega)|(refine zD rfl rfl ?_ rfl ?_;omega)|(refine zP rfl ?_ rfl ?_;omega)|refine zG rfl rfl rfl rfl ?_|(refine jdq rfl rfl ?_ ?_ ?_;kernel_rfl;kernel_rfl)|refine zB rfl rfl rfl (by repeat constructor) rfl ?_|refine zH .here rfl rfl rfl rfl ?_|refine zH (.there .here) rfl rfl rfl rfl ?_|refine zH (.there (.there .here)) rfl rfl rfl rfl ?_)
      refine oS (ev_load (v := w32 y.m) rfl rfl (Rdb.ofF (cells_at hcc 34 (mk_at2 _ _ _ _)))) rfl ?_
      repeat (first|refine zJ rfl rfl ?_|refine jr rfl ?_|refine jn ?_|refine zM rfl rfl ?_|(refine zC rfl rfl ?_ rfl ?_;omega)|(refine zD rfl rfl ?_ rfl ?_;omega)|(refine zP rfl ?_ rfl ?_;omega)|refine zG rfl rfl rfl rfl ?_|(refine jdq rfl rfl ?_ ?_ ?_;kernel_rfl;kernel_rfl)|refine zB rfl rfl rfl (by repeat constructor) rfl ?_|refine zH .here rfl rfl rfl rfl ?_|refine zH (.there .here) rfl rfl rfl rfl ?_|refine zH (.there (.there .here)) rfl rfl rfl rfl ?_)
      refine oS (ev_load (v := w32 x.m) rfl rfl (Rdb.ofB (n := 0) (.there .here) (mk_at2 _ _ _ _))) rfl ?_
      refine oS (eu rfl rfl rfl) rfl ?_
      repeat (first|refine zJ rfl rfl ?_|refine jr rfl ?_|refine jn ?_|refine zM rfl rfl ?_|(refine zC rfl rfl ?_ rfl ?_;omega)|(refine zD rfl rfl ?_ rfl ?_;omega)|(refine zP rfl ?_ rfl ?_;omega)|refine zG rfl rfl rfl rfl ?_|(refine jdq rfl rfl ?_ ?_ ?_;kernel_rfl;kernel_rfl)|refine zB rfl rfl rfl (by repeat constructor) rfl ?_|refine zH .here rfl rfl rfl rfl ?_|refine zH (.there .here) rfl rfl rfl rfl ?_|refine zH (.there (.there .here)) rfl rfl rfl rfl ?_)
      refine oS (ev_indexAddr rfl rfl rfl hlt) rfl ?_
      repeat (first|refine zJ rfl rfl ?_|refine jr rfl ?_|refine jn ?_|refine zM rfl rfl ?_|(refine zC rfl rfl ?_ rfl ?_;omega)|(refine zD rfl rfl ?_ rfl ?_;omega)|(refine zP rfl ?_ rfl ?_;omega)|refine zG rfl rfl rfl rfl ?_|(refine jdq rfl rfl ?_ ?_ ?_;kernel_rfl;kernel_rfl)|refine zB rfl rfl rfl (by repeat constructor) rfl ?_|refine zH .here rfl rfl rfl rfl ?_|refine zH (.there .here) rfl rfl rfl rfl ?_|refine zH (.there (.there .here)) rfl rfl rfl rfl ?_)
      refine oS (ev_load (v := w32 y.m) rfl rfl (Rdb.ofF (cells_at hcc 34 (mk_at2 _ _ _ _)))) rfl ?_
      by_cases hm : y.m ||| x.m = y.m
      · rw [if_pos (.inr hm)] at hadd
        rw [hadd]
        refine oS (ev_eqW rfl rfl (decide_eq_true hm)) rfl ?_
        repeat (first|refine zJ rfl rfl ?_|refine jr rfl ?_|refine jn ?_|refine zM rfl rfl ?_|(refine zC rfl rfl ?_ rfl ?_;omega)|(refine zD rfl rfl ?_ rfl ?_;omega)|(refine zP rfl ?_ rfl ?_;omega)|refine zG rfl rfl rfl rfl ?_|(refine jdq rfl rfl ?_ ?_ ?_;kernel_rfl;kernel_rfl)|refine zB rfl rfl rfl (by repeat constructor) rfl ?_|refine zH .here rfl rfl rfl rfl ?_|refine zH (.there .here) rfl rfl rfl rfl ?_|refine zH (.there (.there .here)) rfl rfl rfl rfl ?_)
        refine J_takeBack hA q1 ?_
        exact J_retv rfl (.tmp rfl .nil) _ (fun w s => hback _ w s) q2 ⟨rfl, L, rfl, rfl⟩
      · rw [if_neg (fun h => h.elim (fun h => h hdg) hm)] at hadd
        rw [hadd]
        refine oS (ev_eqW rfl rfl (decide_eq_false hm)) rfl ?_
        repeat (first|refine zJ rfl rfl ?_|refine jr rfl ?_|refine jn ?_|refine zM rfl rfl ?_|(refine zC rfl rfl ?_ rfl ?_;omega)|(refine zD rfl rfl ?_ rfl ?_;omega)|(refine zP rfl ?_ rfl ?_;omega)|refine zG rfl rfl rfl rfl ?_|(refine jdq rfl rfl ?_ ?_ ?_;kernel_rfl;kernel_rfl)|refine zB rfl rfl rfl (by repeat constructor) rfl ?_|refine zH .here rfl rfl rfl rfl ?_|refine zH (.there .here) rfl rfl rfl rfl ?_|refine zH (.there (.there .here)) rfl rfl rfl rfl ?_)
        obtain rfl : o9 = 0 := by
          rcases hA.2 with ⟨e, _⟩ | ⟨g, _, _, e, _⟩
          · cases e
          · cases e; rfl
        refine J_takeBack hA q1 ?_
        refine ja PH.emp [] ?_ (fun w s => s.any) ?_; kernel_rfl
        refine aL (fun o => o.dropLast) [10] [0, 1, 2, 3, 4, 5, 6, 7, 8, 9] 1 rfl ?_ ?_ ?_ ?_ ?_ ?_; kernel_rfl; kernel_rfl; kernel_rfl; kernel_rfl; kernel_rfl; dsimp only [List.dropLast]
        repeat (first|refine zJ rfl rfl ?_|refine jr rfl ?_|refine jn ?_|refine zM rfl rfl ?_|(refine zC rfl rfl ?_ rfl ?_;omega)|(refine zD rfl rfl ?_ rfl ?_;omega)|(refine zP rfl ?_ rfl ?_;omega)|refine zG rfl rfl rfl rfl ?_|(refine jdq rfl rfl ?_ ?_ ?_;kernel_rfl;kernel_rfl)|refine zB rfl rfl rfl (by repeat constructor) rfl ?_|refine zH .here rfl rfl rfl rfl ?_|refine zH (.there .here) rfl rfl rfl rfl ?_|refine zH (.there (.there .here)) rfl rfl rfl rfl ?_)
        refine oS (ev_indexAddr rfl rfl rfl hlt) rfl ?_
        repeat (first|refine zJ rfl rfl ?_|refine jr rfl ?_|refine jn ?_|refine zM rfl rfl ?_|(refine zC rfl rfl ?_ rfl ?_;omega)|(refine zD rfl rfl ?_ rfl ?_;omega)|(refine zP rfl ?_ rfl ?_;omega)|refine zG rfl rfl rfl rfl ?_|(refine jdq rfl rfl ?_ ?_ ?_;kernel_rfl;kernel_rfl)|refine zB rfl rfl rfl (by repeat constructor) rfl ?_|refine zH .here rfl rfl rfl rfl ?_|refine zH (.there .here) rfl rfl rfl rfl ?_|refine zH (.there (.there .here)) rfl rfl rfl rfl ?_)
        refine oS (ev_load (v := w32 y.m) rfl rfl (vo_in hy (own_rdb .here))) rfl ?_
        repeat (first|refine zJ rfl rfl ?_|refine jr rfl ?_|refine jn ?_|refine zM rfl rfl ?_|(refine zC rfl rfl ?_ rfl ?_;omega)|(refine zD rfl rfl ?_ rfl ?_;omega)|(refine zP rfl ?_ rfl ?_;omega)|refine zG rfl rfl rfl rfl ?_|(refine jdq rfl rfl ?_ ?_ ?_;kernel_rfl;kernel_rfl)|refine zB rfl rfl rfl (by repeat constructor) rfl ?_|refine zH .here rfl rfl rfl rfl ?_|refine zH (.there .here) rfl rfl rfl rfl ?_|refine zH (.there (.there .here)) rfl rfl rfl rfl ?_)
        refine oS (ev_load (v := w32 x.m) rfl rfl (Rdb.ofB (n := 0) (.there (.there .here)) (mk_at2 _ _ _ _))) rfl ?_
        refine oS (eu rfl rfl rfl) rfl ?_
        refine oS (ev_indexAddr rfl rfl rfl hlt) rfl ?_
        repeat (first|refine zJ rfl rfl ?_|refine jr rfl ?_|refine jn ?_|refine zM rfl rfl ?_|(refine zC rfl rfl ?_ rfl ?_;omega)|(refine zD rfl rfl ?_ rfl ?_;omega)|(refine zP rfl ?_ rfl ?_;omega)|refine zG rfl rfl rfl rfl ?_|(refine jdq rfl rfl ?_ ?_ ?_;kernel_rfl;kernel_rfl)|refine zB rfl rfl rfl (by repeat constructor) rfl ?_|refine zH .here rfl rfl rfl rfl ?_|refine zH (.there .here) rfl rfl rfl rfl ?_|refine zH (.there (.there .here)) rfl rfl rfl rfl ?_)
        refine aR ?_
        refine aB (i := 10) (by kernel_rfl) (aN rfl (ev_store_own (vs := [w32 (y.m ||| x.m)]) rfl rfl .int rfl rfl (by rw [Nat.zero_add]; exact vo_set hy (y.m ||| x.m)) (ones_cons rfl ones_nil) .here) rfl (fun _ _ _ _ _ w s => s.any) ?_)
        rintro _ _ _ _ ⟨rfl, _, rfl⟩
        refine aD (by kernel_rfl) ?_
        repeat (first|refine zJ rfl rfl ?_|refine jr rfl ?_|refine jn ?_|refine zM rfl rfl ?_|(refine zC rfl rfl ?_ rfl ?_;omega)|(refine zD rfl rfl ?_ rfl ?_;omega)|(refine zP rfl ?_ rfl ?_;omega)|refine zG rfl rfl rfl rfl ?_|(refine jdq rfl rfl ?_ ?_ ?_;kernel_rfl;kernel_rfl)|refine zB rfl rfl rfl (by repeat constructor) rfl ?_|refine zH .here rfl rfl rfl rfl ?_|refine zH (.there .here) rfl rfl rfl rfl ?_|refine zH (.there (.there .here)) rfl rfl rfl rfl ?_)
        have hset := hclose (.slice (some ⟨b9, 0, none⟩) l0.length c) (l0.set i ⟨y.c, y.s, y.d, y.m ||| x.m⟩)
        rw [hnone y hy, List.length_set] at hset
        exact J_retv rfl (.tmp rfl .nil) _ (fun w s => hset _ w (Sat.drop2 (Sat.drop2 s))) q2 ⟨rfl, _, rfl, hrow' _ _⟩
    · rw [if_pos (.inl hdg)] at hadd
      rw [hadd, decide_eq_false hdg]
      repeat (first|refine zJ rfl rfl ?_|refine jr rfl ?_|refine jn ?_|refine zM rfl rfl ?_|(refine zC rfl rfl ?_ rfl ?_;omega)|(refine zD rfl rfl ?_ rfl ?_;omega)|(refine zP rfl ?_ rfl ?_;omega)|refine zG rfl rfl rfl rfl ?_|(refine jdq rfl rfl ?_ ?_ ?_;kernel_rfl;kernel_rfl)|refine zB rfl rfl rfl (by repeat constructor) rfl ?_|refine zH .here rfl rfl rfl rfl ?_|refine zH (.there .here) rfl rfl rfl rfl ?_|refine zH (.there (.there .here)) rfl rfl rfl rfl ?_)
      refine J_takeBack hA q1 ?_
      exact J_retv rfl (.tmp rfl .nil) _ (fun w s => hback _ w s) q2 ⟨rfl, L, rfl, rfl⟩
  · rw [hthere]
    by_cases hfull : l0.length = 4
    · by_cases hi0 : i = 0
      · rw [if_pos ⟨hfull, hi0⟩] at hadd
        rw [hadd]
        repeat (first|refine zJ rfl rfl ?_|refine jr rfl ?_|refine jn ?_|refine zM rfl rfl ?_|(refine zC rfl rfl ?_ rfl ?_;omega)|(refine zD rfl rfl ?_ rfl ?_;omega)|(refine zP rfl ?_ rfl ?_;omega)|refine zG rfl rfl rfl rfl ?_|(refine jdq rfl rfl ?_ ?_ ?_;kernel_rfl;kernel_rfl)|refine zB rfl rfl rfl (by repeat constructor) rfl ?_|refine zH .here rfl rfl rfl rfl ?_|refine zH (.there .here) rfl rfl rfl rfl ?_|refine zH (.there (.there .here)) rfl rfl rfl rfl ?_)
        refine J_takeBack hA q1 ?_
        exact J_retv rfl (.tmp rfl .nil) _ (fun w s => hback _ w s) q2 ⟨rfl, L, rfl, rfl⟩
      rw [if_neg (fun h => hi0 h.2), if_pos hfull] at hadd
      rw [hadd]
      repeat (first|refine zJ rfl rfl ?_|refine jr rfl ?_|refine jn ?_|refine zM rfl rfl ?_|(refine zC rfl rfl ?_ rfl ?_;omega)|(refine zD rfl rfl ?_ rfl ?_;omega)|(refine zP rfl ?_ rfl ?_;omega)|refine zG rfl rfl rfl rfl ?_|(refine jdq rfl rfl ?_ ?_ ?_;kernel_rfl;kernel_rfl)|refine zB rfl rfl rfl (by repeat constructor) rfl ?_|refine zH .here rfl rfl rfl rfl ?_|refine zH (.there .here) rfl rfl rfl rfl ?_|refine zH (.there (.there .here)) rfl rfl rfl rfl ?_)
      refine oW (F' := PH.sub F1 hh) (H' := own (.slice a l0.length c) 72 35 l0.length (vCs l0) :: blk b7 129 [.int .i64 who, .int .i64 x.c] :: blk b5 72 x.cs :: vblk b n bm :: mp keyP bm (L.map entK) :: (R ++ X)) ?_ (fun w s => Sat.takeBack hA q1 s)
      generalize PH.sub F1 hh = F2 at q2
      refine oS (ev_load_agg (cs := x.cs) rfl rfl (Rdb.ofB (n := 0) (.there (.there .here)) (by rw [List.drop_zero, List.take_length])) x.len) rfl ?_
      refine oE (ev_one rfl .agg x.len elVo) rfl ?_
      rintro _ _ _ _ ⟨rfl, bv, rfl, rfl⟩
      refine oC (Hc := [own (.slice a l0.length c) 72 35 l0.length (vCs l0), blk bv 72 x.cs]) (Hr := blk b7 129 [.int .i64 who, .int .i64 x.c] :: blk b5 72 x.cs :: vblk b n bm :: mp keyP bm (L.map entK) :: (R ++ X)) (vins_spec _ i bv l0 x F2 hbl (by omega)) Try.call59 rfl rfl (fun w s => s.perm (.swap _ _ _)) ?_
      rintro u F3 _ hF3 rfl
      replace q2 := q2.trans hF3
      have hl1 : (l0.take i ++ x :: l0.drop i).length = l0.length + 1 := by rw [List.length_append, List.length_cons, List.length_take, List.length_drop]; omega
      generalize l0.take i ++ x :: l0.drop i = l1 at *
      refine oPersist fun h3 hA3 hd3 => ?_
      replace q2 := q2.trans (PH.le_l F3 h3)
      rw [← hl1] at hA3
      have hrow1 : VR (F3.un h3) u l1 := own_slice hA3 hd3
      generalize F3.un h3 = F4 at *
      obtain ⟨a1, c1, rfl, hc1⟩ := hrow1.form
      repeat (first|refine zJ rfl rfl ?_|refine jr rfl ?_|refine jn ?_|refine zM rfl rfl ?_|(refine zC rfl rfl ?_ rfl ?_;omega)|(refine zD rfl rfl ?_ rfl ?_;omega)|(refine zP rfl ?_ rfl ?_;omega)|refine zG rfl rfl rfl rfl ?_|(refine jdq rfl rfl ?_ ?_ ?_;kernel_rfl;kernel_rfl)|refine zB rfl rfl rfl (by repeat constructor) rfl ?_|refine zH .here rfl rfl rfl rfl ?_|refine zH (.there .here) rfl rfl rfl rfl ?_|refine zH (.there (.there .here)) rfl rfl rfl rfl ?_)
      refine oS (ev_slice_lo (lo := 1) rfl rfl rfl (by omega)) rfl ?_
      repeat (first|refine zJ rfl rfl ?_|refine jr rfl ?_|refine jn ?_|refine zM rfl rfl ?_|(refine zC rfl rfl ?_ rfl ?_;omega)|(refine zD rfl rfl ?_ rfl ?_;omega)|(refine zP rfl ?_ rfl ?_;omega)|refine zG rfl rfl rfl rfl ?_|(refine jdq rfl rfl ?_ ?_ ?_;kernel_rfl;kernel_rfl)|refine zB rfl rfl rfl (by repeat constructor) rfl ?_|refine zH .here rfl rfl rfl rfl ?_|refine zH (.there .here) rfl rfl rfl rfl ?_|refine zH (.there (.there .here)) rfl rfl rfl rfl ?_)
      have hcut : VR F4 (cutV a1 35 c1 1 l1.length c1) (l1.drop 1) := by
        have h9 := VR.cut hrow1 (lo := 1) (hi := l1.length) (m := c1) (by omega) (Nat.le_refl _) hc1
        rwa [List.take_of_length_le (by rw [List.length_drop]; exact Nat.le_refl _)] at h9
      refine ja F4 [blk b7 129 [.int .i64 who, .int .i64 x.c], blk b5 72 x.cs, vblk b n bm] ?_ (fun w t => Sat.left (A := [_, _, _]) t) ?_; kernel_rfl
      refine aT 0 rfl (ev_qe rfl) rfl rfl ?_ ?_ ?_ ?_; kernel_rfl; kernel_rfl; kernel_rfl
      refine aT 1 rfl (ev_qe rfl) rfl rfl ?_ ?_ ?_ ?_; kernel_rfl; kernel_rfl; kernel_rfl
      refine aT 2 rfl (ev_qe rfl) rfl rfl ?_ ?_ ?_ ?_; kernel_rfl; kernel_rfl; kernel_rfl
      refine aT 3 rfl (ev_load (v := .map (some bm)) rfl rfl (Rdb.ofB (n := 0) (.there (.there .here)) rfl)) rfl rfl ?_ ?_ ?_ ?_; kernel_rfl; kernel_rfl; kernel_rfl
      refine aT 4 rfl (ev_load_agg (cs := [.int .i64 who, .int .i64 x.c]) rfl rfl (Rdb.ofB (n := 0) .here rfl) rfl) rfl rfl ?_ ?_ ?_ ?_; kernel_rfl; kernel_rfl; kernel_rfl
      refine aT 5 rfl (ev_qe rfl) rfl rfl ?_ ?_ ?_ ?_; kernel_rfl; kernel_rfl; kernel_rfl
      refine aB (i := 6) (by kernel_rfl) (aC (Hc := []) (Hr := blk b7 129 [.int .i64 who, .int .i64 x.c] :: blk b5 72 x.cs :: vblk b n bm :: mp keyP bm (L.map entK) :: (R ++ X)) rfl (vclone_spec _ (l1.drop 1) F4 hcut (by rw [List.length_drop]; omega)) Try.call60 rfl rfl rfl (fun _ s => s) (fun _ _ _ hF hq w s => by subst hq; exact (Sat.left (A := [_, _, _]) s.drop).mono hF) ?_)
      rintro u2 F5 _ hF5 rfl
      replace q2 := q2.trans hF5
      refine aB (i := 7) (by kernel_rfl) (aN rfl (ev_mapUpdate (K := keyP) (M := L.map entK) (a := p) rfl (by rw [← hp]; rfl) rfl rfl (.there (.there (.there (.there .here))))) rfl (fun _ _ _ hF hq w s => by obtain ⟨rfl, _, rfl⟩ := hq; exact (Sat.left (A := [_, _, _]) s.drop).mono hF5) ?_)
      rintro _ _ _ _ ⟨rfl, _, rfl⟩
      refine aD (by kernel_rfl) ?_
      repeat (first|refine zJ rfl rfl ?_|refine jr rfl ?_|refine jn ?_|refine zM rfl rfl ?_|(refine zC rfl rfl ?_ rfl ?_;omega)|(refine zD rfl rfl ?_ rfl ?_;omega)|(refine zP rfl ?_ rfl ?_;omega)|refine zG rfl rfl rfl rfl ?_|(refine jdq rfl rfl ?_ ?_ ?_;kernel_rfl;kernel_rfl)|refine zB rfl rfl rfl (by repeat constructor) rfl ?_|refine zH .here rfl rfl rfl rfl ?_|refine zH (.there .here) rfl rfl rfl rfl ?_|refine zH (.there (.there .here)) rfl rfl rfl rfl ?_)
      exact J_retv rfl (.tmp rfl .nil) _ (fun w s => hclose u2 (l1.drop 1) _ w (Sat.drop2 (Sat.drop2 s))) q2 ⟨rfl, _, rfl, hrow' _ _⟩
    · rw [if_neg (fun h => hfull h.1), if_neg hfull, List.drop_zero] at hadd
      rw [hadd]
      repeat (first|refine zJ rfl rfl ?_|refine jr rfl ?_|refine jn ?_|refine zM rfl rfl ?_|(refine zC rfl rfl ?_ rfl ?_;omega)|(refine zD rfl rfl ?_ rfl ?_;omega)|(refine zP rfl ?_ rfl ?_;omega)|refine zG rfl rfl rfl rfl ?_|(refine jdq rfl rfl ?_ ?_ ?_;kernel_rfl;kernel_rfl)|refine zB rfl rfl rfl (by repeat constructor) rfl ?_|refine zH .here rfl rfl rfl rfl ?_|refine zH (.there .here) rfl rfl rfl rfl ?_|refine zH (.there (.there .here)) rfl rfl rfl rfl ?_)
      refine oW (F' := PH.sub F1 hh) (H' := own (.slice a l0.length c) 72 35 l0.length (vCs l0) :: blk b7 129 [.int .i64 who, .int .i64 x.c] :: blk b5 72 x.cs :: vblk b n bm :: mp keyP bm (L.map entK) :: (R ++ X)) ?_ (fun w s => Sat.takeBack hA q1 s)
      generalize PH.sub F1 hh = F2 at q2
      refine oS (ev_load_agg (cs := x.cs) rfl rfl (Rdb.ofB (n := 0) (.there (.there .here)) (by rw [List.drop_zero, List.take_length])) x.len) rfl ?_
      refine oE (ev_one rfl .agg x.len elVo) rfl ?_
      rintro _ _ _ _ ⟨rfl, bv, rfl, rfl⟩
      refine oC (Hc := [own (.slice a l0.length c) 72 35 l0.length (vCs l0), blk bv 72 x.cs]) (Hr := blk b7 129 [.int .i64 who, .int .i64 x.c] :: blk b5 72 x.cs :: vblk b n bm :: mp keyP bm (L.map entK) :: (R ++ X)) (vins_spec _ i bv l0 x F2 hbl (by omega)) Try.call59 rfl rfl (fun w s => s.perm (.swap _ _ _)) ?_
      rintro u F3 _ hF3 rfl
      replace q2 := q2.trans hF3
      have hl1 : (l0.take i ++ x :: l0.drop i).length = l0.length + 1 := by rw [List.length_append, List.length_cons, List.length_take, List.length_drop]; omega
      generalize l0.take i ++ x :: l0.drop i = l1 at *
      refine oPersist fun h3 hA3 hd3 => ?_
      replace q2 := q2.trans (PH.le_l F3 h3)
      rw [← hl1] at hA3
      have hrow1 : VR (F3.un h3) u l1 := own_slice hA3 hd3
      generalize F3.un h3 = F4 at *
      obtain ⟨a1, c1, rfl, hc1⟩ := hrow1.form
      repeat (first|refine zJ rfl rfl ?_|refine jr rfl ?_|refine jn ?_|refine zM rfl rfl ?_|(refine zC rfl rfl ?_ rfl ?_;omega)|(refine zD rfl rfl ?_ rfl ?_;omega)|(refine zP rfl ?_ rfl ?_;omega)|refine zG rfl rfl rfl rfl ?_|(refine jdq rfl rfl ?_ ?_ ?_;kernel_rfl;kernel_rfl)|refine zB rfl rfl rfl (by repeat constructor) rfl ?_|refine zH .here rfl rfl rfl rfl ?_|refine zH (.there .here) rfl rfl rfl rfl ?_|refine zH (.there (.there .here)) rfl rfl rfl rfl ?_)
      refine ja F4 [blk b7 129 [.int .i64 who, .int .i64 x.c], blk b5 72 x.cs, vblk b n bm] ?_ (fun w t => Sat.left (A := [_, _, _]) t) ?_; kernel_rfl
      refine aT 0 rfl (ev_qe rfl) rfl rfl ?_ ?_ ?_ ?_; kernel_rfl; kernel_rfl; kernel_rfl
      refine aT 1 rfl (ev_qe rfl) rfl rfl ?_ ?_ ?_ ?_; kernel_rfl; kernel_rfl; kernel_rfl
      refine aT 2 rfl (ev_qe rfl) rfl rfl ?_ ?_ ?_ ?_; kernel_rfl; kernel_rfl; kernel_rfl
      refine aT 3 rfl (ev_load (v := .map (some bm)) rfl rfl (Rdb.ofB (n := 0) (.there (.there .here)) rfl)) rfl rfl ?_ ?_ ?_ ?_; kernel_rfl; kernel_rfl; kernel_rfl
      refine aT 4 rfl (ev_load_agg (cs := [.int .i64 who, .int .i64 x.c]) rfl rfl (Rdb.ofB (n := 0) .here rfl) rfl) rfl rfl ?_ ?_ ?_ ?_; kernel_rfl; kernel_rfl; kernel_rfl
      refine aT 5 rfl (ev_qe rfl) rfl rfl ?_ ?_ ?_ ?_; kernel_rfl; kernel_rfl; kernel_rfl
      refine aB (i := 6) (by kernel_rfl) (aC (Hc := []) (Hr := blk b7 129 [.int .i64 who, .int .i64 x.c] :: blk b5 72 x.cs :: vblk b n bm :: mp keyP bm (L.map entK) :: (R ++ X)) rfl (vclone_spec _ (l1) F4 hrow1 (by omega)) Try.call60 rfl rfl rfl (fun _ s => s) (fun _ _ _ hF hq w s => by subst hq; exact (Sat.left (A := [_, _, _]) s.drop).mono hF) ?_)
      rintro u2 F5 _ hF5 rfl
      replace q2 := q2.trans hF5
      refine aB (i := 7) (by kernel_rfl) (aN rfl (ev_mapUpdate (K := keyP) (M := L.map entK) (a := p) rfl (by rw [← hp]; rfl) rfl rfl (.there (.there (.there (.there .here))))) rfl (fun _ _ _ hF hq w s => by obtain ⟨rfl, _, rfl⟩ := hq; exact (Sat.left (A := [_, _, _]) s.drop).mono hF5) ?_)
      rintro _ _ _ _ ⟨rfl, _, rfl⟩
      refine aD (by kernel_rfl) ?_
      repeat (first|refine zJ rfl rfl ?_|refine jr rfl ?_|refine jn ?_|refine zM rfl rfl ?_|(refine zC rfl rfl ?_ rfl ?_;omega)|(refine zD rfl rfl ?_ rfl ?_;omega)|(refine zP rfl ?_ rfl ?_;omega)|refine zG rfl rfl rfl rfl ?_|(refine jdq rfl rfl ?_ ?_ ?_;kernel_rfl;kernel_rfl)|refine zB rfl rfl rfl (by repeat constructor) rfl ?_|refine zH .here rfl rfl rfl rfl ?_|refine zH (.there .here) rfl rfl rfl rfl ?_|refine zH (.there (.there .here)) rfl rfl rfl rfl ?_)
      exact J_retv rfl (.tmp rfl .nil) _ (fun w s => hclose u2 (l1) _ w (Sat.drop2 (Sat.drop2 s))) q2 ⟨rfl, _, rfl, hrow' _ _⟩
end Go.Proofs.Ytdoaloimndehbaa
