/-
  Deeds that come in, and each one's bytes. Conditions are typed with each.
-/
import Derived.Test.YtohlmhoacjodjaaAi
import Derived.Test.YtohlmhoacjodjaaAe
import Derived.Test.YtohlmhoacjodjaaKs
import Derived.Test.YtohlmhoacjodjaaLf
namespace Go.Proofs.Ytohlmhoacjodjaa
open Go.RowKit
set_option maxRecDepth 100000
def tyI64 : Ty Try.prog 3 Int := tyInt Try.underlying3
def tyU32 : Ty Try.prog 54 Int := tyInt Try.underlying54
def tyBl : Ty Try.prog 4 Bool := tyBool Try.underlying4
theorem row_own {P : Program} {e : TypeId} {α : Type} {te : Ty P e α} {F hh : PH} {v : Value} {n : Nat} {xs : List α} {css : List (List Value)} (ho : own v e te.sz n css.flatten hh) (hd : F.dj hh) (h : All2 (te.rep F) xs css) (hn : xs.length = n) : RowV te (F.un hh) v xs := by
  subst hn
  exact ⟨css, own_slice ho hd, h.mono fun _ _ hr => te.mono (PH.le_l _ _) hr⟩
theorem All2.snoc {α β : Type} {R : α → β → Prop} {xs : List α} {ys : List β} {x : α} {y : β} (h : All2 R xs ys) (hx : R x y) : All2 R (xs ++ [x]) (ys ++ [y]) := by
  induction h with
  | nil => exact .cons hx .nil
  | cons h _ ih => exact .cons h ih
def tyS64 : Ty Try.prog 2 Int := tyInt Try.underlying2
def tyStrg : Ty Try.prog 9 (List UInt8) := tyStr Try.underlying9
def tyCore : Ty Try.prog 53 (Int × Int × Int × List UInt8 × Int × Int × List UInt8 × Unit) :=
  tyStruct Try.underlying53 (fsCons tyI64 (fsCons tyS64 (fsCons tyI64 (fsCons tyStrg (fsCons tyS64 (fsCons tyS64 (fsCons tyStrg (fsNil _) rfl (by kernel_rfl)) rfl (by kernel_rfl)) rfl (by kernel_rfl)) rfl (by kernel_rfl)) rfl (by kernel_rfl)) rfl (by kernel_rfl)) rfl (by kernel_rfl)) (by kernel_rfl)
def crOf (x : Int × Int × Int × List UInt8 × Int × Int × List UInt8 × Unit) : Cr := ⟨x.1, x.2.1, x.2.2.1, x.2.2.2.1, x.2.2.2.2.1, x.2.2.2.2.2.1, x.2.2.2.2.2.2.1⟩
theorem core_of' {F : PH} {x : Int × Int × Int × List UInt8 × Int × Int × List UInt8 × Unit} {cs : List Value} (h : tyCore.rep F x cs) : cs = (crOf x).cells ∧ InK .i64 (crOf x).client ∧ InK .i64 (crOf x).stamp ∧ InK .i64 (crOf x).op ∧ InK .i64 (crOf x).a ∧ InK .i64 (crOf x).b ∧ (crOf x).letter.length ≤ maxLen ∧ (crOf x).text.length ≤ maxLen := by
  obtain ⟨_, _, rfl, ⟨rfl, k0⟩, _, _, rfl, ⟨rfl, k1⟩, _, _, rfl, ⟨rfl, k2⟩, _, _, rfl, ⟨rfl, k3⟩, _, _, rfl, ⟨rfl, k4⟩, _, _, rfl, ⟨rfl, k5⟩, _, _, rfl, ⟨rfl, k6⟩, rfl⟩ := h
  exact ⟨rfl, k0, k1, k2, k4, k5, k3, k6⟩
def tyEt : Ty Try.prog 56 ((Int × Int × Int × List UInt8 × Int × Int × List UInt8 × Unit) × Int × Unit) := tyStruct Try.underlying56 (fsCons tyCore (fsCons tyU32 (fsNil _) rfl (by kernel_rfl)) rfl (by kernel_rfl)) (by kernel_rfl)
def tyEts : Ty Try.prog 49 (List ((Int × Int × Int × List UInt8 × Int × Int × List UInt8 × Unit) × Int × Unit)) := tySliceB tyEt Try.underlying49 (by kernel_rfl) (by decide)
def etOf (x : (Int × Int × Int × List UInt8 × Int × Int × List UInt8 × Unit) × Int × Unit) : Et := ⟨crOf x.1, x.2.1.toNat⟩
/-- What is known of an entry that came in. -/
def Et.wide (e : Et) : Prop := e.mask < 4294967296 ∧ InK .i64 e.core.a ∧ InK .i64 e.core.b
theorem et_of {F : PH} {x : (Int × Int × Int × List UInt8 × Int × Int × List UInt8 × Unit) × Int × Unit} {cs : List Value} (h : tyEt.rep F x cs) : cs = (etOf x).cells ∧ (etOf x).wide := by
  obtain ⟨_, _, rfl, hc, _, _, rfl, ⟨rfl, k⟩, rfl⟩ := h
  obtain ⟨rfl, _, _, _, ha, hb, _⟩ := core_of' hc
  dsimp only [InK] at k
  refine ⟨?_, by unfold etOf; dsimp only; omega, ha, hb⟩
  have : ((x.2.1.toNat : Nat) : Int) = x.2.1 := by omega
  simp [Et.cells, etOf, Cr.cells, this]
/-- A row of entries that came in. -/
def EntsW (F : PH) (v : Value) (es : List Et) : Prop := SliceV F 8 v es.length (etCs es) ∧ ∀ e ∈ es, e.wide
theorem EntsW.of {F : PH} {v : Value} {xs : List ((Int × Int × Int × List UInt8 × Int × Int × List UInt8 × Unit) × Int × Unit)} (h : RowV tyEt F v xs) : EntsW F v (xs.map etOf) := by
  obtain ⟨css, h1, h2⟩ := h
  have h3 : css = (xs.map etOf).map Et.cells ∧ ∀ e ∈ xs.map etOf, e.wide := by
    clear h1
    induction h2 with
    | nil => exact ⟨rfl, fun _ h => by cases h⟩
    | cons h _ ih =>
      obtain ⟨rfl, hw⟩ := et_of h
      refine ⟨by rw [ih.1]; rfl, fun e he => ?_⟩
      rw [List.map_cons] at he
      rcases List.mem_cons.1 he with rfl | he
      · exact hw
      · exact ih.2 e he
  obtain ⟨rfl, hw⟩ := h3
  refine ⟨?_, hw⟩
  rw [List.length_map]
  exact h1
theorem EntsW.mono {F G : PH} {v : Value} {es : List Et} (h : EntsW F v es) (hl : F.le G) : EntsW G v es := ⟨SliceV.mono h.1 hl, h.2⟩
theorem EntsW.form {F : PH} {v : Value} {es : List Et} (h : EntsW F v es) : ∃ a c, v = .slice a es.length c ∧ es.length ≤ c := by
  obtain ⟨⟨_, a, c, e, hn, _⟩, _⟩ := h
  exact ⟨a, c, e, hn⟩
theorem EntsW.at {F : PH} {a : Option Addr} {n c i : Nat} {es : List Et} {e : Et} (h : EntsW F (.slice a n c) es) (hi : es[i]? = some e) : ∃ b off, a = some ⟨b, off, none⟩ ∧ Cells F b (off + i * 8) e.cells ∧ i < n := by
  obtain ⟨h1, h2⟩ := h
  have hn : n = es.length := by
    obtain ⟨_, a', c', e, _⟩ := h1
    injection e
  subst hn
  have hlt := (List.getElem?_eq_some_iff.1 hi).1
  obtain ⟨b, off, ha, hcc⟩ := h1.row (et8 es) (i := i) (r := e.cells) (by rw [List.getElem?_map, hi]; rfl) hlt
  exact ⟨b, off, ha, hcc, hlt⟩
theorem EntsW.ents {F : PH} {v : Value} {es : List Et} (h : EntsW F v es) (hs : ∀ e ∈ es, e.core.letter.length ≤ 1048576 ∧ e.core.text.length ≤ 1048576) : Ents F v es := ⟨h.1, fun e he => ⟨(h.2 e he).1, hs e he⟩⟩
theorem batB_few {es : List Et} (h : ∀ e ∈ es, e.core.letter.length ≤ 100 ∧ e.core.text.length ≤ 300) (hn : es.length ≤ 20) : (batB es).length ≤ 8782 := by
  have := flatMap_len (f := etB) (k := 439) (l := es) fun x hx => by have := h x hx; rw [etB_len]; omega
  have h2 : es.length * 439 ≤ 20 * 439 := Nat.mul_le_mul_right _ hn
  unfold batB
  rw [List.length_append, pl2]
  omega
abbrev DeX := Int × List ((Int × Int × Int × List UInt8 × Int × Int × List UInt8 × Unit) × Int × Unit) × Bool × Unit
def tyDe : Ty Try.prog 51 DeX := tyStruct Try.underlying51 (fsCons tyS64 (fsCons tyEts (fsCons tyBl (fsNil _) rfl (by kernel_rfl)) rfl (by kernel_rfl)) rfl (by kernel_rfl)) (by kernel_rfl)
def deOf (x : DeX) : De := ⟨x.1, x.2.1.map etOf, x.2.2.1⟩
theorem de_of {F : PH} {x : DeX} {cs : List Value} (h : tyDe.rep F x cs) : ∃ v, cs = (deOf x).cells v ∧ EntsW F v (deOf x).es ∧ (deOf x).es.length ≤ maxLen := by
  obtain ⟨_, _, rfl, ⟨rfl, _⟩, _, _, rfl, ⟨v, rfl, hr, hm⟩, _, _, rfl, rfl, rfl⟩ := h
  exact ⟨v, rfl, EntsW.of hr, by show (x.2.1.map etOf).length ≤ _; rw [List.length_map]; exact hm⟩
def De.few (d : De) : Prop := d.es.length ≤ 10 ∧ ∀ e ∈ d.es, e.core.letter.length ≤ 100 ∧ e.core.text.length ≤ 300
abbrev zDe : List Value := [.int .i64 0, .slice none 0 0, .bool false]
theorem elBy : Elem Try.prog 22 36 1 24 (.slice none 0 0) := ⟨rfl, ⟨_, rfl, rfl, rfl, rfl, rfl, by decide⟩, rfl, rfl⟩
set_option maxHeartbeats 8000000 in
theorem deeds_spec (xs : List DeX) (v : Value) (F : PH) (h : RowV tyDe F v xs) (hf : ∀ x ∈ xs, (deOf x).few) (hn : xs.length ≤ 30) : Spec Try.prog 23 [v] F [] fun u F' H' => H' = [] ∧ RowV tyByt F' u (xs.map fun x => deedB (deOf x)) := by
  obtain ⟨a, c, rfl, hc⟩ := h.form
  refine Spec.of1 Try.func23 rfl rfl fun X w0 => ?_
  repeat (first|refine zJ rfl rfl ?_|refine jr rfl ?_|refine jn ?_|refine zM rfl rfl ?_|(refine zC rfl rfl ?_ rfl ?_;omega)|(refine zD rfl rfl ?_ rfl ?_;omega)|(refine zP rfl ?_ rfl ?_;omega)|refine zG rfl rfl rfl rfl ?_|(refine jdq rfl rfl ?_ ?_ ?_;kernel_rfl;kernel_rfl)|refine zB rfl rfl rfl (by repeat constructor) rfl ?_|refine zH .here rfl rfl rfl rfl ?_|refine zH (.there .here) rfl rfl rfl rfl ?_|refine zH (.there (.there .here)) rfl rfl rfl rfl ?_)
  refine J_own_nil 36 1 ?_
  refine J_loop4 (fun (i : Nat) (G : PH) (v : Value) (css : List (List Value)) => i ≤ xs.length ∧ F.le G ∧ All2 (tyByt.rep G) ((xs.take i).map fun x => deedB (deOf x)) css) (fun i _ _ _ => xs.length - i) (fun i _ v _ => [(0, .slice a xs.length c), (3, v), (6, .slice a xs.length c), (7, .int .i64 xs.length), (8, .int .i64 i)]) (fun _ G _ _ => G) (fun i _ v css => own v 36 1 i css.flatten :: X) 0 F (.slice none 0 0) []
    ⟨by omega, PH.ler _, .nil⟩ ⟨⟨rfl, rfl, rfl, rfl, rfl, trivial⟩, fun _ h => h⟩ ?_
  rintro i G v css ⟨hi, hG, hall⟩
  refine jOwn .here fun av kv hv _ _ _ => ?_
  subst hv
  by_cases hlt : i < xs.length
  · have g1 : xs[i]? = some xs[i] := List.getElem?_eq_getElem hlt
    have htk : (xs.take (i + 1)).map (fun x => deedB (deOf x)) = (xs.take i).map (fun x => deedB (deOf x)) ++ [deedB (deOf xs[i])] := by rw [take_snoc g1, List.map_append]; rfl
    have hfx := hf _ (List.getElem_mem hlt)
    obtain ⟨ba, oa, cs, rfl, hc1, hr1, _⟩ := h.at g1
    generalize xs[i] = x at *
    have hone := tyDe.ones hr1
    obtain ⟨ve, rfl, hw, _⟩ := de_of hr1
    obtain ⟨ae, ce, rfl, _⟩ := hw.form
    have hen := hw.ents fun e he => by have := hfx.2 e he; omega
    replace hc1 := hc1.mono hG
    repeat (first|refine zJ rfl rfl ?_|refine jr rfl ?_|refine jn ?_|refine zM rfl rfl ?_|(refine zC rfl rfl ?_ rfl ?_;omega)|(refine zD rfl rfl ?_ rfl ?_;omega)|(refine zP rfl ?_ rfl ?_;omega)|refine zG rfl rfl rfl rfl ?_|(refine jdq rfl rfl ?_ ?_ ?_;kernel_rfl;kernel_rfl)|refine zB rfl rfl rfl (by repeat constructor) rfl ?_|refine zH .here rfl rfl rfl rfl ?_|refine zH (.there .here) rfl rfl rfl rfl ?_|refine zH (.there (.there .here)) rfl rfl rfl rfl ?_)
    refine oS (ev_indexAddr rfl rfl rfl hlt) rfl ?_
    refine oS (ev_load_agg (cs := (deOf x).cells (.slice ae (deOf x).es.length ce)) rfl rfl (Rdb.ofF hc1) rfl) rfl ?_
    refine oE (ev_alloc (cs := zDe) rfl) rfl ?_
    rintro _ _ _ _ ⟨rfl, b5, rfl, rfl⟩
    refine oN (ev_store (b := b5) rfl rfl .agg rfl rfl (lay_all (zs := zDe) rfl) hone .here) rfl ?_
    rintro _ _ _ _ ⟨rfl, _, rfl⟩
    repeat (first|refine zJ rfl rfl ?_|refine jr rfl ?_|refine jn ?_|refine zM rfl rfl ?_|(refine zC rfl rfl ?_ rfl ?_;omega)|(refine zD rfl rfl ?_ rfl ?_;omega)|(refine zP rfl ?_ rfl ?_;omega)|refine zG rfl rfl rfl rfl ?_|(refine jdq rfl rfl ?_ ?_ ?_;kernel_rfl;kernel_rfl)|refine zB rfl rfl rfl (by repeat constructor) rfl ?_|refine zH .here rfl rfl rfl rfl ?_|refine zH (.there .here) rfl rfl rfl rfl ?_|refine zH (.there (.there .here)) rfl rfl rfl rfl ?_)
    refine oS (ev_load_agg (cs := (deOf x).cells (.slice ae (deOf x).es.length ce)) rfl rfl (Rdb.ofB (n := 0) .here rfl) rfl) rfl ?_
    refine oC (Hc := []) (Hr := blk b5 51 ((deOf x).cells (.slice ae (deOf x).es.length ce)) :: own (.slice av i kv) 36 1 i css.flatten :: X) (deed_spec (deOf x) _ G (hen.mono hG) (by have := hfx.1; omega)) Try.call21 rfl rfl (fun _ s => s) ?_
    rintro u F1 _ hF1 ⟨rfl, hu⟩
    obtain ⟨_, au, cu, rfl, _, _⟩ := id hu
    repeat (first|refine zJ rfl rfl ?_|refine jr rfl ?_|refine jn ?_|refine zM rfl rfl ?_|(refine zC rfl rfl ?_ rfl ?_;omega)|(refine zD rfl rfl ?_ rfl ?_;omega)|(refine zP rfl ?_ rfl ?_;omega)|refine zG rfl rfl rfl rfl ?_|(refine jdq rfl rfl ?_ ?_ ?_;kernel_rfl;kernel_rfl)|refine zB rfl rfl rfl (by repeat constructor) rfl ?_|refine zH .here rfl rfl rfl rfl ?_|refine zH (.there .here) rfl rfl rfl rfl ?_|refine zH (.there (.there .here)) rfl rfl rfl rfl ?_)
    refine oA (vs := [.slice au (deedB (deOf x)).length cu]) (K := fun v' => blk b5 51 ((deOf x).cells (.slice ae (deOf x).es.length ce)) :: own v' 36 1 (i + 1) (css.flatten ++ [.slice au (deedB (deOf x)).length cu]) :: X) (fun _ => rfl) rfl .slice rfl elBy (ones_cons rfl ones_nil) (by omega) (fun _ => .there .here) rfl (fun _ => rfl) fun u w => ?_
    repeat (first|refine zJ rfl rfl ?_|refine jr rfl ?_|refine jn ?_|refine zM rfl rfl ?_|(refine zC rfl rfl ?_ rfl ?_;omega)|(refine zD rfl rfl ?_ rfl ?_;omega)|(refine zP rfl ?_ rfl ?_;omega)|refine zG rfl rfl rfl rfl ?_|(refine jdq rfl rfl ?_ ?_ ?_;kernel_rfl;kernel_rfl)|refine zB rfl rfl rfl (by repeat constructor) rfl ?_|refine zH .here rfl rfl rfl rfl ?_|refine zH (.there .here) rfl rfl rfl rfl ?_|refine zH (.there (.there .here)) rfl rfl rfl rfl ?_)
    refine J_again4 (i + 1) F1 u (css ++ [[.slice au (deedB (deOf x)).length cu]]) ⟨hlt, hG.trans hF1, ?_⟩ (by omega) ⟨⟨rfl, rfl, rfl, rfl, rfl, trivial⟩, fun w s => ?_⟩
    · rw [htk]
      exact (hall.mono fun _ _ hr => tyByt.mono hF1 hr).snoc ⟨_, rfl, hu⟩
    · rw [List.flatten_append]
      exact s.drop
  · obtain rfl : i = xs.length := by omega
    rw [List.take_length] at hall
    repeat (first|refine zJ rfl rfl ?_|refine jr rfl ?_|refine jn ?_|refine zM rfl rfl ?_|(refine zC rfl rfl ?_ rfl ?_;omega)|(refine zD rfl rfl ?_ rfl ?_;omega)|(refine zP rfl ?_ rfl ?_;omega)|refine zG rfl rfl rfl rfl ?_|(refine jdq rfl rfl ?_ ?_ ?_;kernel_rfl;kernel_rfl)|refine zB rfl rfl rfl (by repeat constructor) rfl ?_|refine zH .here rfl rfl rfl rfl ?_|refine zH (.there .here) rfl rfl rfl rfl ?_|refine zH (.there (.there .here)) rfl rfl rfl rfl ?_)
    refine J_persist fun hh hA hd => ?_
    exact J_retv rfl (.tmp rfl .nil) [] (fun w s => s) (hG.trans (PH.le_l _ _)) ⟨rfl, row_own (te := tyByt) hA hd hall (by simp)⟩
end Go.Proofs.Ytohlmhoacjodjaa
