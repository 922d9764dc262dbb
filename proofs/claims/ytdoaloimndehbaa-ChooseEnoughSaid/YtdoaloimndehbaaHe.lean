/-
  The base of a new view; what is chosen. Conditions are typed with each.
-/
import Derived.Test.YtdoaloimndehbaaHd
namespace Go.Proofs.Ytdoaloimndehbaa
open Go.RowKit
set_option maxRecDepth 100000
theorem nfaults4 (F : PH) : Pure Try.prog 65 [.int .i64 4] F (.int .i64 1) := by
  refine Spec.of1 Try.func65 rfl rfl fun X w0 => ?_
  repeat (first|refine zJ rfl rfl ?_|refine jr rfl ?_|refine jn ?_|refine zM rfl rfl ?_|(refine zC rfl rfl ?_ rfl ?_;omega)|(refine zD rfl rfl ?_ rfl ?_;omega)|(refine zP rfl ?_ rfl ?_;omega)|refine zG rfl rfl rfl rfl ?_|(refine jdq rfl rfl ?_ ?_ ?_;kernel_rfl;kernel_rfl)|refine zB rfl rfl rfl (by repeat constructor) rfl ?_|refine zH .here rfl rfl rfl rfl ?_|refine zH (.there .here) rfl rfl rfl rfl ?_|refine zH (.there (.there .here)) rfl rfl rfl rfl ?_)
  exact J_ret1 rfl rfl [] rfl (PH.ler _) ⟨rfl, rfl⟩
theorem nquorum4 (F : PH) : Pure Try.prog 45 [.int .i64 4] F (.int .i64 3) := by
  refine Spec.of1 Try.func45 rfl rfl fun X w0 => ?_
  repeat (first|refine zJ rfl rfl ?_|refine jr rfl ?_|refine jn ?_|refine zM rfl rfl ?_|(refine zC rfl rfl ?_ rfl ?_;omega)|(refine zD rfl rfl ?_ rfl ?_;omega)|(refine zP rfl ?_ rfl ?_;omega)|refine zG rfl rfl rfl rfl ?_|(refine jdq rfl rfl ?_ ?_ ?_;kernel_rfl;kernel_rfl)|refine zB rfl rfl rfl (by repeat constructor) rfl ?_|refine zH .here rfl rfl rfl rfl ?_|refine zH (.there .here) rfl rfl rfl rfl ?_|refine zH (.there (.there .here)) rfl rfl rfl rfl ?_)
  refine oP (nfaults4 F) Try.call65 rfl rfl ?_
  repeat (first|refine zJ rfl rfl ?_|refine jr rfl ?_|refine jn ?_|refine zM rfl rfl ?_|(refine zC rfl rfl ?_ rfl ?_;omega)|(refine zD rfl rfl ?_ rfl ?_;omega)|(refine zP rfl ?_ rfl ?_;omega)|refine zG rfl rfl rfl rfl ?_|(refine jdq rfl rfl ?_ ?_ ?_;kernel_rfl;kernel_rfl)|refine zB rfl rfl rfl (by repeat constructor) rfl ?_|refine zH .here rfl rfl rfl rfl ?_|refine zH (.there .here) rfl rfl rfl rfl ?_|refine zH (.there (.there .here)) rfl rfl rfl rfl ?_)
  exact J_ret1 rfl rfl [] rfl (PH.ler _) ⟨rfl, rfl⟩
abbrev zPf : List Value := [.slice none 0 0, .int .i64 0, .int .i64 0]
theorem of_spec (v : Value) (xs : List SgX) (F : PH) (hr : RowB tySg F v xs) : Spec Try.prog 53 [v, .int .i64 4] F [] fun u _ H' => u = .agg (pfC v 2 3).toArray ∧ H' = [] := by
  obtain ⟨aa, cc, rfl, hc, hb⟩ := hr.form
  refine Spec.of2 Try.func53 rfl rfl fun X w0 => ?_
  repeat (first|refine zJ rfl rfl ?_|refine jr rfl ?_|refine jn ?_|refine zM rfl rfl ?_|(refine zC rfl rfl ?_ rfl ?_;omega)|(refine zD rfl rfl ?_ rfl ?_;omega)|(refine zP rfl ?_ rfl ?_;omega)|refine zG rfl rfl rfl rfl ?_|(refine jdq rfl rfl ?_ ?_ ?_;kernel_rfl;kernel_rfl)|refine zB rfl rfl rfl (by repeat constructor) rfl ?_|refine zH .here rfl rfl rfl rfl ?_|refine zH (.there .here) rfl rfl rfl rfl ?_|refine zH (.there (.there .here)) rfl rfl rfl rfl ?_)
  refine oE (ev_alloc (cs := zPf) rfl) rfl ?_
  rintro _ _ _ _ ⟨rfl, b4, rfl, rfl⟩
  repeat (first|refine zJ rfl rfl ?_|refine jr rfl ?_|refine jn ?_|refine zM rfl rfl ?_|(refine zC rfl rfl ?_ rfl ?_;omega)|(refine zD rfl rfl ?_ rfl ?_;omega)|(refine zP rfl ?_ rfl ?_;omega)|refine zG rfl rfl rfl rfl ?_|(refine jdq rfl rfl ?_ ?_ ?_;kernel_rfl;kernel_rfl)|refine zB rfl rfl rfl (by repeat constructor) rfl ?_|refine zH .here rfl rfl rfl rfl ?_|refine zH (.there .here) rfl rfl rfl rfl ?_|refine zH (.there (.there .here)) rfl rfl rfl rfl ?_)
  refine oP (nfaults4 F) Try.call65 rfl rfl ?_
  repeat (first|refine zJ rfl rfl ?_|refine jr rfl ?_|refine jn ?_|refine zM rfl rfl ?_|(refine zC rfl rfl ?_ rfl ?_;omega)|(refine zD rfl rfl ?_ rfl ?_;omega)|(refine zP rfl ?_ rfl ?_;omega)|refine zG rfl rfl rfl rfl ?_|(refine jdq rfl rfl ?_ ?_ ?_;kernel_rfl;kernel_rfl)|refine zB rfl rfl rfl (by repeat constructor) rfl ?_|refine zH .here rfl rfl rfl rfl ?_|refine zH (.there .here) rfl rfl rfl rfl ?_|refine zH (.there (.there .here)) rfl rfl rfl rfl ?_)
  refine oP (nquorum4 F) Try.call45 rfl rfl ?_
  repeat (first|refine zJ rfl rfl ?_|refine jr rfl ?_|refine jn ?_|refine zM rfl rfl ?_|(refine zC rfl rfl ?_ rfl ?_;omega)|(refine zD rfl rfl ?_ rfl ?_;omega)|(refine zP rfl ?_ rfl ?_;omega)|refine zG rfl rfl rfl rfl ?_|(refine jdq rfl rfl ?_ ?_ ?_;kernel_rfl;kernel_rfl)|refine zB rfl rfl rfl (by repeat constructor) rfl ?_|refine zH .here rfl rfl rfl rfl ?_|refine zH (.there .here) rfl rfl rfl rfl ?_|refine zH (.there (.there .here)) rfl rfl rfl rfl ?_)
  refine oE (ev_alloc (cs := zPf) rfl) rfl ?_
  rintro _ _ _ _ ⟨rfl, b5, rfl, rfl⟩
  refine oN (ev_store (b := b5) (vs := pfC (.slice aa xs.length cc) 2 3) rfl rfl .agg rfl rfl (lay_all (zs := zPf) rfl) (by unfold pfC; (repeat (first | exact ones_nil | refine ones_cons rfl ?_))) .here) rfl ?_
  rintro _ _ _ _ ⟨rfl, _, rfl⟩
  repeat (first|refine zJ rfl rfl ?_|refine jr rfl ?_|refine jn ?_|refine zM rfl rfl ?_|(refine zC rfl rfl ?_ rfl ?_;omega)|(refine zD rfl rfl ?_ rfl ?_;omega)|(refine zP rfl ?_ rfl ?_;omega)|refine zG rfl rfl rfl rfl ?_|(refine jdq rfl rfl ?_ ?_ ?_;kernel_rfl;kernel_rfl)|refine zB rfl rfl rfl (by repeat constructor) rfl ?_|refine zH .here rfl rfl rfl rfl ?_|refine zH (.there .here) rfl rfl rfl rfl ?_|refine zH (.there (.there .here)) rfl rfl rfl rfl ?_)
  refine oS (ev_load_agg (cs := pfC (.slice aa xs.length cc) 2 3) rfl rfl (Rdb.ofB (n := 0) .here rfl) rfl) rfl ?_
  refine oN (ev_store (b := b4) (vs := pfC (.slice aa xs.length cc) 2 3) rfl rfl .agg rfl rfl (lay_all (zs := zPf) rfl) (by unfold pfC; (repeat (first | exact ones_nil | refine ones_cons rfl ?_))) (.there .here)) rfl ?_
  rintro _ _ _ _ ⟨rfl, _, rfl⟩
  repeat (first|refine zJ rfl rfl ?_|refine jr rfl ?_|refine jn ?_|refine zM rfl rfl ?_|(refine zC rfl rfl ?_ rfl ?_;omega)|(refine zD rfl rfl ?_ rfl ?_;omega)|(refine zP rfl ?_ rfl ?_;omega)|refine zG rfl rfl rfl rfl ?_|(refine jdq rfl rfl ?_ ?_ ?_;kernel_rfl;kernel_rfl)|refine zB rfl rfl rfl (by repeat constructor) rfl ?_|refine zH .here rfl rfl rfl rfl ?_|refine zH (.there .here) rfl rfl rfl rfl ?_|refine zH (.there (.there .here)) rfl rfl rfl rfl ?_)
  exact J_retv (vs := [.agg (pfC (.slice aa xs.length cc) 2 3).toArray]) rfl (.agg rfl rfl (Rdb.ofB (n := 0) (.there .here) rfl) rfl .nil) [] (fun w s => s.drop.drop) (PH.ler _) ⟨rfl, rfl⟩
def hasC (x : PtX) (c : ChX) : Bool := c.2.2.1.any fun y => decide (x = y)
def lowC (x : PtX) (c : ChX) : Bool := decide (c.2.1 ≤ x.1)
theorem has_spec (x : PtX) (c : ChX) (b7 : Nat) (cs : List Value) (F : PH) (h7 : Cells F b7 0 (ptC x.1 x.2.1)) (hd : x.2.1.length = 32) (hc : tyCh.rep F c cs) : Pure Try.prog 69 [.agg cs.toArray, .pointer (some ⟨b7, 0, none⟩)] F (.bool (hasC x c)) := by
  obtain ⟨vp, vq, vr, rfl, _, _, hp, hq, hr⟩ := ch_of hc
  have h33 : (ptC x.1 x.2.1).length = 33 := by simp [ptC, u8s, hd]
  refine Spec.of2 Try.func69 rfl rfl fun X w0 => ?_
  unfold chC
  repeat (first|refine zJ rfl rfl ?_|refine jr rfl ?_|refine jn ?_|refine zM rfl rfl ?_|(refine zC rfl rfl ?_ rfl ?_;omega)|(refine zD rfl rfl ?_ rfl ?_;omega)|(refine zP rfl ?_ rfl ?_;omega)|refine zG rfl rfl rfl rfl ?_|(refine jdq rfl rfl ?_ ?_ ?_;kernel_rfl;kernel_rfl)|refine zB rfl rfl rfl (by repeat constructor) rfl ?_|refine zH .here rfl rfl rfl rfl ?_|refine zH (.there .here) rfl rfl rfl rfl ?_|refine zH (.there (.there .here)) rfl rfl rfl rfl ?_)
  refine oE (ev_box rfl .agg) rfl ?_; rintro _ _ _ _ ⟨rfl, b2, rfl, rfl⟩
  repeat (first|refine zJ rfl rfl ?_|refine jr rfl ?_|refine jn ?_|refine zM rfl rfl ?_|(refine zC rfl rfl ?_ rfl ?_;omega)|(refine zD rfl rfl ?_ rfl ?_;omega)|(refine zP rfl ?_ rfl ?_;omega)|refine zG rfl rfl rfl rfl ?_|(refine jdq rfl rfl ?_ ?_ ?_;kernel_rfl;kernel_rfl)|refine zB rfl rfl rfl (by repeat constructor) rfl ?_|refine zH .here rfl rfl rfl rfl ?_|refine zH (.there .here) rfl rfl rfl rfl ?_|refine zH (.there (.there .here)) rfl rfl rfl rfl ?_)
  refine oS (ev_load_agg rfl rfl (Rdb.ofF h7) h33) rfl ?_
  refine oP (conPt_spec x.1 x.2.1 vp _ F hp hd) Try.call70 rfl rfl ?_
  repeat (first|refine zJ rfl rfl ?_|refine jr rfl ?_|refine jn ?_|refine zM rfl rfl ?_|(refine zC rfl rfl ?_ rfl ?_;omega)|(refine zD rfl rfl ?_ rfl ?_;omega)|(refine zP rfl ?_ rfl ?_;omega)|refine zG rfl rfl rfl rfl ?_|(refine jdq rfl rfl ?_ ?_ ?_;kernel_rfl;kernel_rfl)|refine zB rfl rfl rfl (by repeat constructor) rfl ?_|refine zH .here rfl rfl rfl rfl ?_|refine zH (.there .here) rfl rfl rfl rfl ?_|refine zH (.there (.there .here)) rfl rfl rfl rfl ?_)
  exact J_retv rfl (.tmp rfl .nil) [] (fun w s => s.drop) (PH.ler _) ⟨rfl, rfl⟩
theorem low_spec (x : PtX) (c : ChX) (b7 : Nat) (cs : List Value) (F : PH) (h7 : Cells F b7 0 (ptC x.1 x.2.1)) (hc : tyCh.rep F c cs) : Pure Try.prog 71 [.agg cs.toArray, .pointer (some ⟨b7, 0, none⟩)] F (.bool (lowC x c)) := by
  obtain ⟨vp, vq, vr, rfl, _, _, hp, hq, hr⟩ := ch_of hc
  refine Spec.of2 Try.func71 rfl rfl fun X w0 => ?_
  unfold chC
  repeat (first|refine zJ rfl rfl ?_|refine jr rfl ?_|refine jn ?_|refine zM rfl rfl ?_|(refine zC rfl rfl ?_ rfl ?_;omega)|(refine zD rfl rfl ?_ rfl ?_;omega)|(refine zP rfl ?_ rfl ?_;omega)|refine zG rfl rfl rfl rfl ?_|(refine jdq rfl rfl ?_ ?_ ?_;kernel_rfl;kernel_rfl)|refine zB rfl rfl rfl (by repeat constructor) rfl ?_|refine zH .here rfl rfl rfl rfl ?_|refine zH (.there .here) rfl rfl rfl rfl ?_|refine zH (.there (.there .here)) rfl rfl rfl rfl ?_)
  refine oE (ev_box rfl .agg) rfl ?_; rintro _ _ _ _ ⟨rfl, b2, rfl, rfl⟩
  repeat (first|refine zJ rfl rfl ?_|refine jr rfl ?_|refine jn ?_|refine zM rfl rfl ?_|(refine zC rfl rfl ?_ rfl ?_;omega)|(refine zD rfl rfl ?_ rfl ?_;omega)|(refine zP rfl ?_ rfl ?_;omega)|refine zG rfl rfl rfl rfl ?_|(refine jdq rfl rfl ?_ ?_ ?_;kernel_rfl;kernel_rfl)|refine zB rfl rfl rfl (by repeat constructor) rfl ?_|refine zH .here rfl rfl rfl rfl ?_|refine zH (.there .here) rfl rfl rfl rfl ?_|refine zH (.there (.there .here)) rfl rfl rfl rfl ?_)
  refine oS (ev_load (v := .int .i64 x.1) rfl rfl (Rdb.ofF (h7.one 0 rfl))) rfl ?_
  repeat (first|refine zJ rfl rfl ?_|refine jr rfl ?_|refine jn ?_|refine zM rfl rfl ?_|(refine zC rfl rfl ?_ rfl ?_;omega)|(refine zD rfl rfl ?_ rfl ?_;omega)|(refine zP rfl ?_ rfl ?_;omega)|refine zG rfl rfl rfl rfl ?_|(refine jdq rfl rfl ?_ ?_ ?_;kernel_rfl;kernel_rfl)|refine zB rfl rfl rfl (by repeat constructor) rfl ?_|refine zH .here rfl rfl rfl rfl ?_|refine zH (.there .here) rfl rfl rfl rfl ?_|refine zH (.there (.there .here)) rfl rfl rfl rfl ?_)
  exact J_retv rfl (.tmp rfl .nil) [] (fun w s => s.drop) (PH.ler _) ⟨rfl, rfl⟩
/-- Whether a point is enough. -/
def enoughB (a b : Int) (l : List SgX) (x : PtX) : Bool := decide (a ≤ (l.countP fun s => hasC x s.2.1 : Nat)) && decide (b ≤ (l.countP fun s => lowC x s.2.1 : Nat))
def baseS (a b : Int) (l : List SgX) (o : Option PtX) (x : PtX) : Option PtX :=
  if ((match o with | none => true | some p => decide (p.1 < x.1)) && enoughB a b l x) = true then some x else o
def baseR (a b : Int) (l : List SgX) (o : Option PtX) (s : SgX) : Option PtX := s.2.1.2.2.1.foldl (baseS a b l) o
def baseP (a b : Int) (l : List SgX) : Option PtX := l.foldl (baseR a b l) none
def z32 : List UInt8 := List.replicate 32 0
def optC : Option PtX → List Value
  | none => ptC 0 z32
  | some p => ptC p.1 p.2.1
def OptR (o : Option PtX) : Prop := match o with | none => True | some p => InK .i64 p.1 ∧ p.2.1.length = 32
theorem optC_len {o : Option PtX} (h : OptR o) : (optC o).length = 33 := by
  cases o with
  | none => rfl
  | some p => simp [optC, ptC, u8s, h.2]
theorem u8s_ones (bs : List UInt8) : Ones (u8s bs) := fun u hu => by
  obtain ⟨x, _, rfl⟩ := List.mem_map.1 hu
  rfl
theorem ptC_ones (s : Int) (d : List UInt8) : Ones (ptC s d) := ones_cons rfl (u8s_ones d)
theorem optC_ones (o : Option PtX) : Ones (optC o) := by cases o <;> exact ptC_ones _ _
theorem optC_hd {o : Option PtX} : ((optC o).drop 0).take 1 = [.int .i64 (match o with | none => 0 | some p => p.1)] := by cases o <;> rfl
set_option maxHeartbeats 16000000 in
theorem base_spec (v : Value) (a b : Int) (xs : List SgX) (F : PH) (hr : RowB tySg F v xs) : Spec Try.prog 54 [.agg (pfC v a b).toArray] F [] fun u _ H' => u = .tuple #[.agg (optC (baseP a b xs)).toArray, .bool (baseP a b xs).isSome] ∧ OptR (baseP a b xs) ∧ H' = [] := by
  obtain ⟨aa, cc, rfl, hc, hb⟩ := hr.form
  refine Spec.of1 Try.func54 rfl rfl fun X w0 => ?_
  unfold pfC
  repeat (first|refine zJ rfl rfl ?_|refine jr rfl ?_|refine jn ?_|refine zM rfl rfl ?_|(refine zC rfl rfl ?_ rfl ?_;omega)|(refine zD rfl rfl ?_ rfl ?_;omega)|(refine zP rfl ?_ rfl ?_;omega)|refine zG rfl rfl rfl rfl ?_|(refine jdq rfl rfl ?_ ?_ ?_;kernel_rfl;kernel_rfl)|refine zB rfl rfl rfl (by repeat constructor) rfl ?_|refine zH .here rfl rfl rfl rfl ?_|refine zH (.there .here) rfl rfl rfl rfl ?_|refine zH (.there (.there .here)) rfl rfl rfl rfl ?_)
  refine oE (ev_box rfl .agg) rfl ?_; rintro _ _ _ _ ⟨rfl, b1, rfl, rfl⟩
  refine oE (ev_alloc (cs := ptC 0 z32) rfl) rfl ?_
  rintro _ _ _ _ ⟨rfl, b2, rfl, rfl⟩
  repeat (first|refine zJ rfl rfl ?_|refine jr rfl ?_|refine jn ?_|refine zM rfl rfl ?_|(refine zC rfl rfl ?_ rfl ?_;omega)|(refine zD rfl rfl ?_ rfl ?_;omega)|(refine zP rfl ?_ rfl ?_;omega)|refine zG rfl rfl rfl rfl ?_|(refine jdq rfl rfl ?_ ?_ ?_;kernel_rfl;kernel_rfl)|refine zB rfl rfl rfl (by repeat constructor) rfl ?_|refine zH .here rfl rfl rfl rfl ?_|refine zH (.there .here) rfl rfl rfl rfl ?_|refine zH (.there (.there .here)) rfl rfl rfl rfl ?_)
  refine J_loop3 (fun (i : Nat) (G : PH) (o : Option PtX) => i ≤ xs.length ∧ F.le G ∧ OptR o ∧ o = (xs.take i).foldl (baseR a b xs) none) (fun i _ _ => xs.length - i)
    (fun i _ o => [(1, .pointer (some ⟨b1, 0, none⟩)), (2, .pointer (some ⟨b2, 0, none⟩)), (3, .bool o.isSome), (11, .slice aa xs.length cc), (12, .int .i64 xs.length), (13, .int .i64 i)]) (fun _ G _ => G) (fun _ _ o => blk b2 60 (optC o) :: blk b1 118 [.slice aa xs.length cc, .int .i64 a, .int .i64 b] :: X) 0 F none
    ⟨Nat.zero_le _, PH.ler _, trivial, rfl⟩ ⟨⟨rfl, rfl, rfl, rfl, rfl, rfl, trivial⟩, fun _ h => h⟩ ?_
  rintro i G o ⟨hi, hG, hoR, hoe⟩
  by_cases hlt : i < xs.length
  · have g1 : xs[i]? = some xs[i] := List.getElem?_eq_getElem hlt
    obtain ⟨ba, oa, c1, rfl, hc1, hr1, _⟩ := hr.1.at g1
    have hr3 := tySg.mono hG hr1
    obtain ⟨cs', hcs, _, hch⟩ := sg_of hr3
    subst hcs
    obtain ⟨vp, vq, vr, rfl, _, _, hp, hq, hrr⟩ := ch_of hch
    have hstep := foldl_snoc (baseR a b xs) none g1
    rw [← hoe] at hstep
    generalize xs[i] = y at *
    obtain ⟨ap, cp, rfl, hcp, hbp⟩ := hp.form
    have hone := tySg.ones hr3
    repeat (first|refine zJ rfl rfl ?_|refine jr rfl ?_|refine jn ?_|refine zM rfl rfl ?_|(refine zC rfl rfl ?_ rfl ?_;omega)|(refine zD rfl rfl ?_ rfl ?_;omega)|(refine zP rfl ?_ rfl ?_;omega)|refine zG rfl rfl rfl rfl ?_|(refine jdq rfl rfl ?_ ?_ ?_;kernel_rfl;kernel_rfl)|refine zB rfl rfl rfl (by repeat constructor) rfl ?_|refine zH .here rfl rfl rfl rfl ?_|refine zH (.there .here) rfl rfl rfl rfl ?_|refine zH (.there (.there .here)) rfl rfl rfl rfl ?_)
    refine oS (ev_indexAddr rfl rfl rfl hlt) rfl ?_
    refine oS (ev_load_agg rfl rfl (Rdb.ofF (hc1.mono hG)) rfl) rfl ?_
    refine oE (ev_alloc (cs := zSg) rfl) rfl ?_
    rintro _ _ _ _ ⟨rfl, b5, rfl, rfl⟩
    refine oN (ev_store (b := b5) rfl rfl .agg rfl rfl (lay_all (zs := zSg) rfl) hone .here) rfl ?_
    rintro _ _ _ _ ⟨rfl, _, rfl⟩
    unfold chC
    repeat (first|refine zJ rfl rfl ?_|refine jr rfl ?_|refine jn ?_|refine zM rfl rfl ?_|(refine zC rfl rfl ?_ rfl ?_;omega)|(refine zD rfl rfl ?_ rfl ?_;omega)|(refine zP rfl ?_ rfl ?_;omega)|refine zG rfl rfl rfl rfl ?_|(refine jdq rfl rfl ?_ ?_ ?_;kernel_rfl;kernel_rfl)|refine zB rfl rfl rfl (by repeat constructor) rfl ?_|refine zH .here rfl rfl rfl rfl ?_|refine zH (.there .here) rfl rfl rfl rfl ?_|refine zH (.there (.there .here)) rfl rfl rfl rfl ?_)
    refine J_loop3 (fun (j : Nat) (G1 : PH) (o1 : Option PtX) => j ≤ y.2.1.2.2.1.length ∧ G.le G1 ∧ OptR o1 ∧ o1 = (y.2.1.2.2.1.take j).foldl (baseS a b xs) o) (fun j _ _ => y.2.1.2.2.1.length - j)
      (fun j _ o1 => [(1, .pointer (some ⟨b1, 0, none⟩)), (2, .pointer (some ⟨b2, 0, none⟩)), (3, .bool o1.isSome), (11, .slice (some ⟨ba, oa, none⟩) xs.length cc), (12, .int .i64 xs.length), (13, .int .i64 i), (19, .slice ap y.2.1.2.2.1.length cp), (20, .int .i64 y.2.1.2.2.1.length), (21, .int .i64 j)]) (fun _ G1 _ => G1) (fun _ _ o1 => blk b2 60 (optC o1) :: blk b1 118 [.slice (some ⟨ba, oa, none⟩) xs.length cc, .int .i64 a, .int .i64 b] :: X) 0 G o
      ⟨Nat.zero_le _, PH.ler _, hoR, rfl⟩ ⟨⟨rfl, rfl, rfl, rfl, rfl, rfl, rfl, rfl, rfl, trivial⟩, fun _ h => h.drop⟩ ?_
    rintro j G1 o1 ⟨hj, hG1, hoR1, hoe1⟩
    by_cases hjl : j < y.2.1.2.2.1.length
    · have g2 : y.2.1.2.2.1[j]? = some y.2.1.2.2.1[j] := List.getElem?_eq_getElem hjl
      obtain ⟨b4, o4, c4, rfl, hc4, hr4, _⟩ := hp.1.at g2
      have hstep2 := foldl_snoc (baseS a b xs) o g2
      rw [← hoe1] at hstep2
      generalize y.2.1.2.2.1[j] = x at *
      obtain ⟨rfl, hxk, hx32⟩ := pt_of hr4
      have h33 : (ptC x.1 x.2.1).length = 33 := by simp [ptC, u8s, hx32]
      repeat (first|refine zJ rfl rfl ?_|refine jr rfl ?_|refine jn ?_|refine zM rfl rfl ?_|(refine zC rfl rfl ?_ rfl ?_;omega)|(refine zD rfl rfl ?_ rfl ?_;omega)|(refine zP rfl ?_ rfl ?_;omega)|refine zG rfl rfl rfl rfl ?_|(refine jdq rfl rfl ?_ ?_ ?_;kernel_rfl;kernel_rfl)|refine zB rfl rfl rfl (by repeat constructor) rfl ?_|refine zH .here rfl rfl rfl rfl ?_|refine zH (.there .here) rfl rfl rfl rfl ?_|refine zH (.there (.there .here)) rfl rfl rfl rfl ?_)
      refine oS (ev_indexAddr rfl rfl rfl hjl) rfl ?_
      refine oS (ev_load_agg rfl rfl (Rdb.ofF (hc4.mono hG1)) h33) rfl ?_
      refine oE (ev_alloc (cs := ptC 0 z32) rfl) rfl ?_
      rintro _ _ _ _ ⟨rfl, b7, rfl, rfl⟩
      refine oN (ev_store (b := b7) rfl rfl .agg rfl h33 (lay_all (zs := ptC 0 z32) h33) (ptC_ones _ _) .here) rfl ?_
      rintro _ _ _ _ ⟨rfl, _, rfl⟩
      refine oPersist fun hh hA hd => ?_
      have h7 := blk_cells hA hd
      have hF3 := PH.le_l G1 hh
      generalize G1.un hh = G2 at *
      have hle := hG.trans (hG1.trans hF3)
      have s1 := count_spec 69 [.pointer (some ⟨b7, 0, none⟩)] (hasC x) (.slice (some ⟨ba, oa, none⟩) xs.length cc) a b xs G2 (hr.mono hle) Try.call69 (fun y cs hy => has_spec x y b7 cs G2 h7 hx32 hy)
      have s2 := count_spec 71 [.pointer (some ⟨b7, 0, none⟩)] (lowC x) (.slice (some ⟨ba, oa, none⟩) xs.length cc) a b xs G2 (hr.mono hle) Try.call71 (fun y cs hy => low_spec x y b7 cs G2 h7 hy)
      unfold pfC at s1 s2
      by_cases hskip : ∃ p, o1 = some p ∧ x.1 ≤ p.1
      · obtain ⟨p, rfl, hle1⟩ := hskip
        repeat (first|refine zJ rfl rfl ?_|refine jr rfl ?_|refine jn ?_|refine zM rfl rfl ?_|(refine zC rfl rfl ?_ rfl ?_;omega)|(refine zD rfl rfl ?_ rfl ?_;omega)|(refine zP rfl ?_ rfl ?_;omega)|refine zG rfl rfl rfl rfl ?_|(refine jdq rfl rfl ?_ ?_ ?_;kernel_rfl;kernel_rfl)|refine zB rfl rfl rfl (by repeat constructor) rfl ?_|refine zH .here rfl rfl rfl rfl ?_|refine zH (.there .here) rfl rfl rfl rfl ?_|refine zH (.there (.there .here)) rfl rfl rfl rfl ?_)
        refine oS (ev_load (v := .int .i64 x.1) rfl rfl (Rdb.ofF (h7.one 0 rfl))) rfl ?_
        repeat (first|refine zJ rfl rfl ?_|refine jr rfl ?_|refine jn ?_|refine zM rfl rfl ?_|(refine zC rfl rfl ?_ rfl ?_;omega)|(refine zD rfl rfl ?_ rfl ?_;omega)|(refine zP rfl ?_ rfl ?_;omega)|refine zG rfl rfl rfl rfl ?_|(refine jdq rfl rfl ?_ ?_ ?_;kernel_rfl;kernel_rfl)|refine zB rfl rfl rfl (by repeat constructor) rfl ?_|refine zH .here rfl rfl rfl rfl ?_|refine zH (.there .here) rfl rfl rfl rfl ?_|refine zH (.there (.there .here)) rfl rfl rfl rfl ?_)
        exact J_again3 (j + 1) G2 (some p) ⟨hjl, hG1.trans hF3, hoR1, by rw [hstep2]; simp [baseS]; omega⟩ (by omega) ⟨⟨rfl, rfl, rfl, rfl, rfl, rfl, rfl, rfl, rfl, trivial⟩, fun w s => s⟩
      · cases o1 with
        | none =>
          repeat (first|refine zJ rfl rfl ?_|refine jr rfl ?_|refine jn ?_|refine zM rfl rfl ?_|(refine zC rfl rfl ?_ rfl ?_;omega)|(refine zD rfl rfl ?_ rfl ?_;omega)|(refine zP rfl ?_ rfl ?_;omega)|refine zG rfl rfl rfl rfl ?_|(refine jdq rfl rfl ?_ ?_ ?_;kernel_rfl;kernel_rfl)|refine zB rfl rfl rfl (by repeat constructor) rfl ?_|refine zH .here rfl rfl rfl rfl ?_|refine zH (.there .here) rfl rfl rfl rfl ?_|refine zH (.there (.there .here)) rfl rfl rfl rfl ?_)
          refine oS (ev_load_agg (cs := [.slice (some ⟨ba, oa, none⟩) xs.length cc, .int .i64 a, .int .i64 b]) rfl rfl (Rdb.ofB (n := 0) (.there .here) rfl) rfl) rfl ?_
          refine oS (ev_makeFunc rfl) rfl ?_
          refine oP (s1) Try.call68 rfl rfl ?_
          repeat (first|refine zJ rfl rfl ?_|refine jr rfl ?_|refine jn ?_|refine zM rfl rfl ?_|(refine zC rfl rfl ?_ rfl ?_;omega)|(refine zD rfl rfl ?_ rfl ?_;omega)|(refine zP rfl ?_ rfl ?_;omega)|refine zG rfl rfl rfl rfl ?_|(refine jdq rfl rfl ?_ ?_ ?_;kernel_rfl;kernel_rfl)|refine zB rfl rfl rfl (by repeat constructor) rfl ?_|refine zH .here rfl rfl rfl rfl ?_|refine zH (.there .here) rfl rfl rfl rfl ?_|refine zH (.there (.there .here)) rfl rfl rfl rfl ?_)
          refine oS (ev_load_agg (cs := [.slice (some ⟨ba, oa, none⟩) xs.length cc, .int .i64 a, .int .i64 b]) rfl rfl (Rdb.ofB (n := 0) (.there .here) rfl) rfl) rfl ?_
          refine oS (ev_makeFunc rfl) rfl ?_
          refine oP (s2) Try.call68 rfl rfl ?_
          by_cases k1 : a ≤ ((xs.countP fun s => hasC x s.2.1 : Nat) : Int)
          · by_cases k2 : b ≤ ((xs.countP fun s => lowC x s.2.1 : Nat) : Int)
            · have hen : enoughB a b xs x = true := by simp [enoughB, k1, k2]
              repeat (first|refine zJ rfl rfl ?_|refine jr rfl ?_|refine jn ?_|refine zM rfl rfl ?_|(refine zC rfl rfl ?_ rfl ?_;omega)|(refine zD rfl rfl ?_ rfl ?_;omega)|(refine zP rfl ?_ rfl ?_;omega)|refine zG rfl rfl rfl rfl ?_|(refine jdq rfl rfl ?_ ?_ ?_;kernel_rfl;kernel_rfl)|refine zB rfl rfl rfl (by repeat constructor) rfl ?_|refine zH .here rfl rfl rfl rfl ?_|refine zH (.there .here) rfl rfl rfl rfl ?_|refine zH (.there (.there .here)) rfl rfl rfl rfl ?_)
              refine oS (ev_load_agg rfl rfl (Rdb.ofF h7) h33) rfl ?_
              refine oN (ev_store (b := b2) rfl rfl .agg rfl h33 (lay_all (zs := optC none) (by rw [h33, optC_len hoR1])) (ptC_ones _ _) .here) rfl ?_
              rintro _ _ _ _ ⟨rfl, _, rfl⟩
              repeat (first|refine zJ rfl rfl ?_|refine jr rfl ?_|refine jn ?_|refine zM rfl rfl ?_|(refine zC rfl rfl ?_ rfl ?_;omega)|(refine zD rfl rfl ?_ rfl ?_;omega)|(refine zP rfl ?_ rfl ?_;omega)|refine zG rfl rfl rfl rfl ?_|(refine jdq rfl rfl ?_ ?_ ?_;kernel_rfl;kernel_rfl)|refine zB rfl rfl rfl (by repeat constructor) rfl ?_|refine zH .here rfl rfl rfl rfl ?_|refine zH (.there .here) rfl rfl rfl rfl ?_|refine zH (.there (.there .here)) rfl rfl rfl rfl ?_)
              exact J_again3 (j + 1) G2 (some x) ⟨hjl, hG1.trans hF3, ⟨hxk, hx32⟩, by rw [hstep2]; simp [baseS, hen]⟩ (by omega) ⟨⟨rfl, rfl, rfl, rfl, rfl, rfl, rfl, rfl, rfl, trivial⟩, fun w s => s⟩
            · have hen : enoughB a b xs x = false := by simp [enoughB, k2]
              repeat (first|refine zJ rfl rfl ?_|refine jr rfl ?_|refine jn ?_|refine zM rfl rfl ?_|(refine zC rfl rfl ?_ rfl ?_;omega)|(refine zD rfl rfl ?_ rfl ?_;omega)|(refine zP rfl ?_ rfl ?_;omega)|refine zG rfl rfl rfl rfl ?_|(refine jdq rfl rfl ?_ ?_ ?_;kernel_rfl;kernel_rfl)|refine zB rfl rfl rfl (by repeat constructor) rfl ?_|refine zH .here rfl rfl rfl rfl ?_|refine zH (.there .here) rfl rfl rfl rfl ?_|refine zH (.there (.there .here)) rfl rfl rfl rfl ?_)
              exact J_again3 (j + 1) G2 none ⟨hjl, hG1.trans hF3, hoR1, by rw [hstep2]; simp [baseS, hen]⟩ (by omega) ⟨⟨rfl, rfl, rfl, rfl, rfl, rfl, rfl, rfl, rfl, trivial⟩, fun w s => s⟩
          · have hen : enoughB a b xs x = false := by simp [enoughB, k1]
            repeat (first|refine zJ rfl rfl ?_|refine jr rfl ?_|refine jn ?_|refine zM rfl rfl ?_|(refine zC rfl rfl ?_ rfl ?_;omega)|(refine zD rfl rfl ?_ rfl ?_;omega)|(refine zP rfl ?_ rfl ?_;omega)|refine zG rfl rfl rfl rfl ?_|(refine jdq rfl rfl ?_ ?_ ?_;kernel_rfl;kernel_rfl)|refine zB rfl rfl rfl (by repeat constructor) rfl ?_|refine zH .here rfl rfl rfl rfl ?_|refine zH (.there .here) rfl rfl rfl rfl ?_|refine zH (.there (.there .here)) rfl rfl rfl rfl ?_)
            exact J_again3 (j + 1) G2 none ⟨hjl, hG1.trans hF3, hoR1, by rw [hstep2]; simp [baseS, hen]⟩ (by omega) ⟨⟨rfl, rfl, rfl, rfl, rfl, rfl, rfl, rfl, rfl, trivial⟩, fun w s => s⟩
        | some p =>
          have hlt1 : p.1 < x.1 := by
            by_cases hh : x.1 ≤ p.1
            · exact absurd ⟨p, rfl, hh⟩ hskip
            · omega
          repeat (first|refine zJ rfl rfl ?_|refine jr rfl ?_|refine jn ?_|refine zM rfl rfl ?_|(refine zC rfl rfl ?_ rfl ?_;omega)|(refine zD rfl rfl ?_ rfl ?_;omega)|(refine zP rfl ?_ rfl ?_;omega)|refine zG rfl rfl rfl rfl ?_|(refine jdq rfl rfl ?_ ?_ ?_;kernel_rfl;kernel_rfl)|refine zB rfl rfl rfl (by repeat constructor) rfl ?_|refine zH .here rfl rfl rfl rfl ?_|refine zH (.there .here) rfl rfl rfl rfl ?_|refine zH (.there (.there .here)) rfl rfl rfl rfl ?_)
          refine oS (ev_load (v := .int .i64 x.1) rfl rfl (Rdb.ofF (h7.one 0 rfl))) rfl ?_
          repeat (first|refine zJ rfl rfl ?_|refine jr rfl ?_|refine jn ?_|refine zM rfl rfl ?_|(refine zC rfl rfl ?_ rfl ?_;omega)|(refine zD rfl rfl ?_ rfl ?_;omega)|(refine zP rfl ?_ rfl ?_;omega)|refine zG rfl rfl rfl rfl ?_|(refine jdq rfl rfl ?_ ?_ ?_;kernel_rfl;kernel_rfl)|refine zB rfl rfl rfl (by repeat constructor) rfl ?_|refine zH .here rfl rfl rfl rfl ?_|refine zH (.there .here) rfl rfl rfl rfl ?_|refine zH (.there (.there .here)) rfl rfl rfl rfl ?_)
          refine oS (ev_load_agg (cs := [.slice (some ⟨ba, oa, none⟩) xs.length cc, .int .i64 a, .int .i64 b]) rfl rfl (Rdb.ofB (n := 0) (.there .here) rfl) rfl) rfl ?_
          refine oS (ev_makeFunc rfl) rfl ?_
          refine oP (s1) Try.call68 rfl rfl ?_
          repeat (first|refine zJ rfl rfl ?_|refine jr rfl ?_|refine jn ?_|refine zM rfl rfl ?_|(refine zC rfl rfl ?_ rfl ?_;omega)|(refine zD rfl rfl ?_ rfl ?_;omega)|(refine zP rfl ?_ rfl ?_;omega)|refine zG rfl rfl rfl rfl ?_|(refine jdq rfl rfl ?_ ?_ ?_;kernel_rfl;kernel_rfl)|refine zB rfl rfl rfl (by repeat constructor) rfl ?_|refine zH .here rfl rfl rfl rfl ?_|refine zH (.there .here) rfl rfl rfl rfl ?_|refine zH (.there (.there .here)) rfl rfl rfl rfl ?_)
          refine oS (ev_load_agg (cs := [.slice (some ⟨ba, oa, none⟩) xs.length cc, .int .i64 a, .int .i64 b]) rfl rfl (Rdb.ofB (n := 0) (.there .here) rfl) rfl) rfl ?_
          refine oS (ev_makeFunc rfl) rfl ?_
          refine oP (s2) Try.call68 rfl rfl ?_
          by_cases k1 : a ≤ ((xs.countP fun s => hasC x s.2.1 : Nat) : Int)
          · by_cases k2 : b ≤ ((xs.countP fun s => lowC x s.2.1 : Nat) : Int)
            · have hen : enoughB a b xs x = true := by simp [enoughB, k1, k2]
              repeat (first|refine zJ rfl rfl ?_|refine jr rfl ?_|refine jn ?_|refine zM rfl rfl ?_|(refine zC rfl rfl ?_ rfl ?_;omega)|(refine zD rfl rfl ?_ rfl ?_;omega)|(refine zP rfl ?_ rfl ?_;omega)|refine zG rfl rfl rfl rfl ?_|(refine jdq rfl rfl ?_ ?_ ?_;kernel_rfl;kernel_rfl)|refine zB rfl rfl rfl (by repeat constructor) rfl ?_|refine zH .here rfl rfl rfl rfl ?_|refine zH (.there .here) rfl rfl rfl rfl ?_|refine zH (.there (.there .here)) rfl rfl rfl rfl ?_)
              refine oS (ev_load_agg rfl rfl (Rdb.ofF h7) h33) rfl ?_
              refine oN (ev_store (b := b2) rfl rfl .agg rfl h33 (lay_all (zs := optC (some p)) (by rw [h33, optC_len hoR1])) (ptC_ones _ _) .here) rfl ?_
              rintro _ _ _ _ ⟨rfl, _, rfl⟩
              repeat (first|refine zJ rfl rfl ?_|refine jr rfl ?_|refine jn ?_|refine zM rfl rfl ?_|(refine zC rfl rfl ?_ rfl ?_;omega)|(refine zD rfl rfl ?_ rfl ?_;omega)|(refine zP rfl ?_ rfl ?_;omega)|refine zG rfl rfl rfl rfl ?_|(refine jdq rfl rfl ?_ ?_ ?_;kernel_rfl;kernel_rfl)|refine zB rfl rfl rfl (by repeat constructor) rfl ?_|refine zH .here rfl rfl rfl rfl ?_|refine zH (.there .here) rfl rfl rfl rfl ?_|refine zH (.there (.there .here)) rfl rfl rfl rfl ?_)
              exact J_again3 (j + 1) G2 (some x) ⟨hjl, hG1.trans hF3, ⟨hxk, hx32⟩, by rw [hstep2]; simp [baseS, hen, hlt1]⟩ (by omega) ⟨⟨rfl, rfl, rfl, rfl, rfl, rfl, rfl, rfl, rfl, trivial⟩, fun w s => s⟩
            · have hen : enoughB a b xs x = false := by simp [enoughB, k2]
              repeat (first|refine zJ rfl rfl ?_|refine jr rfl ?_|refine jn ?_|refine zM rfl rfl ?_|(refine zC rfl rfl ?_ rfl ?_;omega)|(refine zD rfl rfl ?_ rfl ?_;omega)|(refine zP rfl ?_ rfl ?_;omega)|refine zG rfl rfl rfl rfl ?_|(refine jdq rfl rfl ?_ ?_ ?_;kernel_rfl;kernel_rfl)|refine zB rfl rfl rfl (by repeat constructor) rfl ?_|refine zH .here rfl rfl rfl rfl ?_|refine zH (.there .here) rfl rfl rfl rfl ?_|refine zH (.there (.there .here)) rfl rfl rfl rfl ?_)
              exact J_again3 (j + 1) G2 (some p) ⟨hjl, hG1.trans hF3, hoR1, by rw [hstep2]; simp [baseS, hen]⟩ (by omega) ⟨⟨rfl, rfl, rfl, rfl, rfl, rfl, rfl, rfl, rfl, trivial⟩, fun w s => s⟩
          · have hen : enoughB a b xs x = false := by simp [enoughB, k1]
            repeat (first|refine zJ rfl rfl ?_|refine jr rfl ?_|refine jn ?_|refine zM rfl rfl ?_|(refine zC rfl rfl ?_ rfl ?_;omega)|(refine zD rfl rfl ?_ rfl ?_;omega)|(refine zP rfl ?_ rfl ?_;omega)|refine zG rfl rfl rfl rfl ?_|(refine jdq rfl rfl ?_ ?_ ?_;kernel_rfl;kernel_rfl)|refine zB rfl rfl rfl (by repeat constructor) rfl ?_|refine zH .here rfl rfl rfl rfl ?_|refine zH (.there .here) rfl rfl rfl rfl ?_|refine zH (.there (.there .here)) rfl rfl rfl rfl ?_)
            exact J_again3 (j + 1) G2 (some p) ⟨hjl, hG1.trans hF3, hoR1, by rw [hstep2]; simp [baseS, hen]⟩ (by omega) ⟨⟨rfl, rfl, rfl, rfl, rfl, rfl, rfl, rfl, rfl, trivial⟩, fun w s => s⟩
    · obtain rfl : j = y.2.1.2.2.1.length := by omega
      rw [List.take_length] at hoe1
      repeat (first|refine zJ rfl rfl ?_|refine jr rfl ?_|refine jn ?_|refine zM rfl rfl ?_|(refine zC rfl rfl ?_ rfl ?_;omega)|(refine zD rfl rfl ?_ rfl ?_;omega)|(refine zP rfl ?_ rfl ?_;omega)|refine zG rfl rfl rfl rfl ?_|(refine jdq rfl rfl ?_ ?_ ?_;kernel_rfl;kernel_rfl)|refine zB rfl rfl rfl (by repeat constructor) rfl ?_|refine zH .here rfl rfl rfl rfl ?_|refine zH (.there .here) rfl rfl rfl rfl ?_|refine zH (.there (.there .here)) rfl rfl rfl rfl ?_)
      exact J_again3 (i + 1) G1 o1 ⟨hlt, hG.trans hG1, hoR1, by rw [hstep, hoe1]; rfl⟩ (by omega) ⟨⟨rfl, rfl, rfl, rfl, rfl, rfl, trivial⟩, fun w s => s⟩
  · obtain rfl : i = xs.length := by omega
    rw [List.take_length] at hoe
    have hoe : o = baseP a b xs := hoe
    subst hoe
    have h33 := optC_len hoR
    repeat (first|refine zJ rfl rfl ?_|refine jr rfl ?_|refine jn ?_|refine zM rfl rfl ?_|(refine zC rfl rfl ?_ rfl ?_;omega)|(refine zD rfl rfl ?_ rfl ?_;omega)|(refine zP rfl ?_ rfl ?_;omega)|refine zG rfl rfl rfl rfl ?_|(refine jdq rfl rfl ?_ ?_ ?_;kernel_rfl;kernel_rfl)|refine zB rfl rfl rfl (by repeat constructor) rfl ?_|refine zH .here rfl rfl rfl rfl ?_|refine zH (.there .here) rfl rfl rfl rfl ?_|refine zH (.there (.there .here)) rfl rfl rfl rfl ?_)
    refine oS (ev_load_agg (cs := optC (baseP a b xs)) rfl rfl (Rdb.ofB (n := 0) .here (by rw [List.drop_zero, List.take_length])) h33) rfl ?_
    repeat (first|refine zJ rfl rfl ?_|refine jr rfl ?_|refine jn ?_|refine zM rfl rfl ?_|(refine zC rfl rfl ?_ rfl ?_;omega)|(refine zD rfl rfl ?_ rfl ?_;omega)|(refine zP rfl ?_ rfl ?_;omega)|refine zG rfl rfl rfl rfl ?_|(refine jdq rfl rfl ?_ ?_ ?_;kernel_rfl;kernel_rfl)|refine zB rfl rfl rfl (by repeat constructor) rfl ?_|refine zH .here rfl rfl rfl rfl ?_|refine zH (.there .here) rfl rfl rfl rfl ?_|refine zH (.there (.there .here)) rfl rfl rfl rfl ?_)
    refine oN (ev_store (b := b2) rfl rfl .agg rfl h33 (lay_all (zs := optC (baseP a b xs)) rfl) (optC_ones _) .here) rfl ?_
    rintro _ _ _ _ ⟨rfl, _, rfl⟩
    repeat (first|refine zJ rfl rfl ?_|refine jr rfl ?_|refine jn ?_|refine zM rfl rfl ?_|(refine zC rfl rfl ?_ rfl ?_;omega)|(refine zD rfl rfl ?_ rfl ?_;omega)|(refine zP rfl ?_ rfl ?_;omega)|refine zG rfl rfl rfl rfl ?_|(refine jdq rfl rfl ?_ ?_ ?_;kernel_rfl;kernel_rfl)|refine zB rfl rfl rfl (by repeat constructor) rfl ?_|refine zH .here rfl rfl rfl rfl ?_|refine zH (.there .here) rfl rfl rfl rfl ?_|refine zH (.there (.there .here)) rfl rfl rfl rfl ?_)
    exact J_retv (vs := [.agg (optC (baseP a b xs)).toArray, .bool (baseP a b xs).isSome]) rfl (.agg rfl rfl (Rdb.ofB (n := 0) .here (by rw [List.drop_zero, List.take_length])) h33 (.tmp rfl .nil)) [] (fun w s => s.drop.drop) hG ⟨rfl, hoR, rfl⟩
end Go.Proofs.Ytdoaloimndehbaa
