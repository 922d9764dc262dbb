/-
  What is chosen for a number, and the base. Conditions are typed with each.
-/
import Derived.Test.YtdoaloimndehbaaHc
namespace Go.Proofs.Ytdoaloimndehbaa
open Go.RowKit
set_option maxRecDepth 100000
abbrev zEt : List Value := [.int .i64 0, .int .i64 0, .int .i64 0, .string .empty, .int .i64 0, .int .i64 0, .string .empty, .int .u32 0]
theorem elEt : Elem Try.prog 33 101 8 80 (.agg zEt.toArray) := ⟨rfl, ⟨_, rfl, rfl, rfl, rfl, rfl, by decide⟩, rfl, rfl⟩
theorem All2.ones {P : Program} {e : TypeId} {α : Type} {te : Ty P e α} {F : PH} {xs : List α} {css : List (List Value)} (h : All2 (te.rep F) xs css) : Ones css.flatten := fun u hu => by
  obtain ⟨c, hc, hu⟩ := List.mem_flatten.1 hu
  obtain ⟨x, _, hx⟩ := h.right c hc
  exact te.ones hx u hu
theorem eclone_spec (v : Value) (es : List EntX) (F : PH) (h : RowB tyEn F v es) (hn : es.length ≤ 1000) :
    Spec Try.prog 42 [v] F [] fun u F' H' => H' = [] ∧ RowB tyEn F' u es := by
  refine Spec.of1 Try.func42 rfl rfl fun X w0 => ?_
  obtain ⟨⟨css, hs, hall⟩, hbd⟩ := h
  obtain ⟨hl, a, c, rfl, hc, h2⟩ := id hs
  repeat (first|refine zJ rfl rfl ?_|refine jr rfl ?_|refine jn ?_|refine zM rfl rfl ?_|(refine zC rfl rfl ?_ rfl ?_;omega)|(refine zD rfl rfl ?_ rfl ?_;omega)|(refine zP rfl ?_ rfl ?_;omega)|refine zG rfl rfl rfl rfl ?_|(refine jdq rfl rfl ?_ ?_ ?_;kernel_rfl;kernel_rfl)|refine zB rfl rfl rfl (by repeat constructor) rfl ?_|refine zH .here rfl rfl rfl rfl ?_|refine zH (.there .here) rfl rfl rfl rfl ?_|refine zH (.there (.there .here)) rfl rfl rfl rfl ?_)
  refine oS (ev_slice_eql_nil rfl rfl rfl) rfl ?_
  cases a with
  | none =>
    have h0 : es.length = 0 := by
      by_cases hz : 0 < es.length
      · obtain ⟨_, _, h3, _⟩ := h2 hz; cases h3
      · omega
    have hes : es = [] := List.eq_nil_of_length_eq_zero h0
    subst hes
    repeat (first|refine zJ rfl rfl ?_|refine jr rfl ?_|refine jn ?_|refine zM rfl rfl ?_|(refine zC rfl rfl ?_ rfl ?_;omega)|(refine zD rfl rfl ?_ rfl ?_;omega)|(refine zP rfl ?_ rfl ?_;omega)|refine zG rfl rfl rfl rfl ?_|(refine jdq rfl rfl ?_ ?_ ?_;kernel_rfl;kernel_rfl)|refine zB rfl rfl rfl (by repeat constructor) rfl ?_|refine zH .here rfl rfl rfl rfl ?_|refine zH (.there .here) rfl rfl rfl rfl ?_|refine zH (.there (.there .here)) rfl rfl rfl rfl ?_)
    exact J_retv rfl (.tmp rfl .nil) [] (fun w s => s) (PH.ler _) ⟨rfl, RowB.nil⟩
  | some ad =>
    repeat (first|refine zJ rfl rfl ?_|refine jr rfl ?_|refine jn ?_|refine zM rfl rfl ?_|(refine zC rfl rfl ?_ rfl ?_;omega)|(refine zD rfl rfl ?_ rfl ?_;omega)|(refine zP rfl ?_ rfl ?_;omega)|refine zG rfl rfl rfl rfl ?_|(refine jdq rfl rfl ?_ ?_ ?_;kernel_rfl;kernel_rfl)|refine zB rfl rfl rfl (by repeat constructor) rfl ?_|refine zH .here rfl rfl rfl rfl ?_|refine zH (.there .here) rfl rfl rfl rfl ?_|refine zH (.there (.there .here)) rfl rfl rfl rfl ?_)
    refine oE (ev_mt elEt) rfl ?_
    rintro u _ _ _ ⟨rfl, ⟨b, rfl⟩, rfl⟩
    repeat (first|refine zJ rfl rfl ?_|refine jr rfl ?_|refine jn ?_|refine zM rfl rfl ?_|(refine zC rfl rfl ?_ rfl ?_;omega)|(refine zD rfl rfl ?_ rfl ?_;omega)|(refine zP rfl ?_ rfl ?_;omega)|refine zG rfl rfl rfl rfl ?_|(refine jdq rfl rfl ?_ ?_ ?_;kernel_rfl;kernel_rfl)|refine zB rfl rfl rfl (by repeat constructor) rfl ?_|refine zH .here rfl rfl rfl rfl ?_|refine zH (.there .here) rfl rfl rfl rfl ?_|refine zH (.there (.there .here)) rfl rfl rfl rfl ?_)
    refine oE (ev_append_s (n := 0) (m := es.length) (xs := []) (news := css.flatten) (K := fun v' => own v' 101 8 es.length css.flatten :: X) rfl rfl elEt hs.rds hall.ones (by omega) (fun v' => by rw [Nat.zero_add, List.nil_append]; exact .here)) rfl ?_
    rintro u _ _ _ ⟨rfl, hu, rfl⟩
    repeat (first|refine zJ rfl rfl ?_|refine jr rfl ?_|refine jn ?_|refine zM rfl rfl ?_|(refine zC rfl rfl ?_ rfl ?_;omega)|(refine zD rfl rfl ?_ rfl ?_;omega)|(refine zP rfl ?_ rfl ?_;omega)|refine zG rfl rfl rfl rfl ?_|(refine jdq rfl rfl ?_ ?_ ?_;kernel_rfl;kernel_rfl)|refine zB rfl rfl rfl (by repeat constructor) rfl ?_|refine zH .here rfl rfl rfl rfl ?_|refine zH (.there .here) rfl rfl rfl rfl ?_|refine zH (.there (.there .here)) rfl rfl rfl rfl ?_)
    refine J_persist fun hh hA hd => ?_
    exact J_retv rfl (.tmp rfl .nil) [] (fun w s => s) (PH.le_l _ _) ⟨rfl, row_own (te := tyEn) hA hd hall rfl, hbd⟩
theorem seqOf_spec (y : PrX) (seq : Int) (b3 : Nat) (cs : List Value) (F : PH) (h3 : Cells F b3 0 [.int .i64 seq]) (hy : tyPr.rep F y cs) : Pure Try.prog 72 [.agg cs.toArray, .pointer (some ⟨b3, 0, none⟩)] F (.bool (decide (y.1 = seq))) := by
  obtain ⟨vy, rfl, _, _, hyr⟩ := pr_of hy
  refine Spec.of2 Try.func72 rfl rfl fun X w0 => ?_
  unfold prC
  repeat (first|refine zJ rfl rfl ?_|refine jr rfl ?_|refine jn ?_|refine zM rfl rfl ?_|(refine zC rfl rfl ?_ rfl ?_;omega)|(refine zD rfl rfl ?_ rfl ?_;omega)|(refine zP rfl ?_ rfl ?_;omega)|refine zG rfl rfl rfl rfl ?_|(refine jdq rfl rfl ?_ ?_ ?_;kernel_rfl;kernel_rfl)|refine zB rfl rfl rfl (by repeat constructor) rfl ?_|refine zH .here rfl rfl rfl rfl ?_|refine zH (.there .here) rfl rfl rfl rfl ?_|refine zH (.there (.there .here)) rfl rfl rfl rfl ?_)
  refine oE (ev_box rfl .agg) rfl ?_; rintro _ _ _ _ ⟨rfl, b2, rfl, rfl⟩
  repeat (first|refine zJ rfl rfl ?_|refine jr rfl ?_|refine jn ?_|refine zM rfl rfl ?_|(refine zC rfl rfl ?_ rfl ?_;omega)|(refine zD rfl rfl ?_ rfl ?_;omega)|(refine zP rfl ?_ rfl ?_;omega)|refine zG rfl rfl rfl rfl ?_|(refine jdq rfl rfl ?_ ?_ ?_;kernel_rfl;kernel_rfl)|refine zB rfl rfl rfl (by repeat constructor) rfl ?_|refine zH .here rfl rfl rfl rfl ?_|refine zH (.there .here) rfl rfl rfl rfl ?_|refine zH (.there (.there .here)) rfl rfl rfl rfl ?_)
  refine oS (ev_load rfl rfl (Rdb.ofF h3)) rfl ?_
  repeat (first|refine zJ rfl rfl ?_|refine jr rfl ?_|refine jn ?_|refine zM rfl rfl ?_|(refine zC rfl rfl ?_ rfl ?_;omega)|(refine zD rfl rfl ?_ rfl ?_;omega)|(refine zP rfl ?_ rfl ?_;omega)|refine zG rfl rfl rfl rfl ?_|(refine jdq rfl rfl ?_ ?_ ?_;kernel_rfl;kernel_rfl)|refine zB rfl rfl rfl (by repeat constructor) rfl ?_|refine zH .here rfl rfl rfl rfl ?_|refine zH (.there .here) rfl rfl rfl rfl ?_|refine zH (.there (.there .here)) rfl rfl rfl rfl ?_)
  exact J_retv rfl (.tmp rfl .nil) [] (fun w s => s.drop) (PH.ler _) ⟨rfl, rfl⟩
set_option maxHeartbeats 4000000 in
theorem empty_spec (c : ChX) (seq : Int) (b3 b7 : Nat) (cs : List Value) (F : PH) (h3 : Cells F b3 0 [.int .i64 seq]) (h7 : Cells F b7 0 [fnV 72 [.pointer (some ⟨b3, 0, none⟩)]]) (hc : tyCh.rep F c cs) : Pure Try.prog 74 [.agg cs.toArray, .pointer (some ⟨b3, 0, none⟩), .pointer (some ⟨b7, 0, none⟩)] F (.bool (emptyC seq c)) := by
  obtain ⟨vp, vq, vr, rfl, _, _, hp, hq, hr⟩ := ch_of hc
  have hsp := conF_spec 72 [.pointer (some ⟨b3, 0, none⟩)] (fun y => decide (y.1 = seq)) vq _ F hq Try.call72 (fun y cs _ hy => seqOf_spec y seq b3 cs F h3 hy)
  refine Spec.of3 Try.func74 rfl rfl fun X w0 => ?_
  unfold chC
  by_cases h1 : c.2.1 < seq
  · rw [show emptyC seq c = !(c.2.2.2.1.any fun y => decide (y.1 = seq)) from by simp [emptyC, h1]]
    repeat (first|refine zJ rfl rfl ?_|refine jr rfl ?_|refine jn ?_|refine zM rfl rfl ?_|(refine zC rfl rfl ?_ rfl ?_;omega)|(refine zD rfl rfl ?_ rfl ?_;omega)|(refine zP rfl ?_ rfl ?_;omega)|refine zG rfl rfl rfl rfl ?_|(refine jdq rfl rfl ?_ ?_ ?_;kernel_rfl;kernel_rfl)|refine zB rfl rfl rfl (by repeat constructor) rfl ?_|refine zH .here rfl rfl rfl rfl ?_|refine zH (.there .here) rfl rfl rfl rfl ?_|refine zH (.there (.there .here)) rfl rfl rfl rfl ?_)
    refine oE (ev_box rfl .agg) rfl ?_; rintro _ _ _ _ ⟨rfl, b2, rfl, rfl⟩
    repeat (first|refine zJ rfl rfl ?_|refine jr rfl ?_|refine jn ?_|refine zM rfl rfl ?_|(refine zC rfl rfl ?_ rfl ?_;omega)|(refine zD rfl rfl ?_ rfl ?_;omega)|(refine zP rfl ?_ rfl ?_;omega)|refine zG rfl rfl rfl rfl ?_|(refine jdq rfl rfl ?_ ?_ ?_;kernel_rfl;kernel_rfl)|refine zB rfl rfl rfl (by repeat constructor) rfl ?_|refine zH .here rfl rfl rfl rfl ?_|refine zH (.there .here) rfl rfl rfl rfl ?_|refine zH (.there (.there .here)) rfl rfl rfl rfl ?_)
    refine oS (ev_load rfl rfl (Rdb.ofF h3)) rfl ?_
    repeat (first|refine zJ rfl rfl ?_|refine jr rfl ?_|refine jn ?_|refine zM rfl rfl ?_|(refine zC rfl rfl ?_ rfl ?_;omega)|(refine zD rfl rfl ?_ rfl ?_;omega)|(refine zP rfl ?_ rfl ?_;omega)|refine zG rfl rfl rfl rfl ?_|(refine jdq rfl rfl ?_ ?_ ?_;kernel_rfl;kernel_rfl)|refine zB rfl rfl rfl (by repeat constructor) rfl ?_|refine zH .here rfl rfl rfl rfl ?_|refine zH (.there .here) rfl rfl rfl rfl ?_|refine zH (.there (.there .here)) rfl rfl rfl rfl ?_)
    refine oS (ev_load rfl rfl (Rdb.ofF h7)) rfl ?_
    refine oP (hsp) Try.call75 rfl rfl ?_
    repeat (first|refine zJ rfl rfl ?_|refine jr rfl ?_|refine jn ?_|refine zM rfl rfl ?_|(refine zC rfl rfl ?_ rfl ?_;omega)|(refine zD rfl rfl ?_ rfl ?_;omega)|(refine zP rfl ?_ rfl ?_;omega)|refine zG rfl rfl rfl rfl ?_|(refine jdq rfl rfl ?_ ?_ ?_;kernel_rfl;kernel_rfl)|refine zB rfl rfl rfl (by repeat constructor) rfl ?_|refine zH .here rfl rfl rfl rfl ?_|refine zH (.there .here) rfl rfl rfl rfl ?_|refine zH (.there (.there .here)) rfl rfl rfl rfl ?_)
    exact J_retv rfl (.tmp rfl .nil) [] (fun w s => s.drop) (PH.ler _) ⟨rfl, rfl⟩
  · rw [show emptyC seq c = false from by simp [emptyC, h1]]
    repeat (first|refine zJ rfl rfl ?_|refine jr rfl ?_|refine jn ?_|refine zM rfl rfl ?_|(refine zC rfl rfl ?_ rfl ?_;omega)|(refine zD rfl rfl ?_ rfl ?_;omega)|(refine zP rfl ?_ rfl ?_;omega)|refine zG rfl rfl rfl rfl ?_|(refine jdq rfl rfl ?_ ?_ ?_;kernel_rfl;kernel_rfl)|refine zB rfl rfl rfl (by repeat constructor) rfl ?_|refine zH .here rfl rfl rfl rfl ?_|refine zH (.there .here) rfl rfl rfl rfl ?_|refine zH (.there (.there .here)) rfl rfl rfl rfl ?_)
    refine oE (ev_box rfl .agg) rfl ?_; rintro _ _ _ _ ⟨rfl, b2, rfl, rfl⟩
    repeat (first|refine zJ rfl rfl ?_|refine jr rfl ?_|refine jn ?_|refine zM rfl rfl ?_|(refine zC rfl rfl ?_ rfl ?_;omega)|(refine zD rfl rfl ?_ rfl ?_;omega)|(refine zP rfl ?_ rfl ?_;omega)|refine zG rfl rfl rfl rfl ?_|(refine jdq rfl rfl ?_ ?_ ?_;kernel_rfl;kernel_rfl)|refine zB rfl rfl rfl (by repeat constructor) rfl ?_|refine zH .here rfl rfl rfl rfl ?_|refine zH (.there .here) rfl rfl rfl rfl ?_|refine zH (.there (.there .here)) rfl rfl rfl rfl ?_)
    refine oS (ev_load rfl rfl (Rdb.ofF h3)) rfl ?_
    repeat (first|refine zJ rfl rfl ?_|refine jr rfl ?_|refine jn ?_|refine zM rfl rfl ?_|(refine zC rfl rfl ?_ rfl ?_;omega)|(refine zD rfl rfl ?_ rfl ?_;omega)|(refine zP rfl ?_ rfl ?_;omega)|refine zG rfl rfl rfl rfl ?_|(refine jdq rfl rfl ?_ ?_ ?_;kernel_rfl;kernel_rfl)|refine zB rfl rfl rfl (by repeat constructor) rfl ?_|refine zH .here rfl rfl rfl rfl ?_|refine zH (.there .here) rfl rfl rfl rfl ?_|refine zH (.there (.there .here)) rfl rfl rfl rfl ?_)
    exact J_retv rfl (.tmp rfl .nil) [] (fun w s => s.drop) (PH.ler _) ⟨rfl, rfl⟩
def laterB (o : Option PrX) (x : PrX) : Bool := match o with | none => true | some p => decide (p.2.1 < x.2.1)
/-- The best one so far. -/
def bestS (a b : Int) (l : List SgX) (seq : Int) (o : Option PrX) (x : PrX) : Option PrX :=
  if (decide (x.1 = seq) && (laterB o x && standsB a b l x)) = true then some x else o
def bestR (a b : Int) (l : List SgX) (seq : Int) (o : Option PrX) (s : SgX) : Option PrX := s.2.1.2.2.2.1.foldl (bestS a b l seq) o
def bestP (a b : Int) (l : List SgX) (seq : Int) : Option PrX := l.foldl (bestR a b l seq) none
def numberP (a b : Int) (l : List SgX) (seq : Int) : List EntX × Bool := match bestP a b l seq with
  | some p => (p.2.2.1, true)
  | none => ([], decide (b ≤ (l.countP fun s => emptyC seq s.2.1 : Nat)))
def bptr : Option (Nat × PrX) → Value
  | none => .pointer none
  | some (b, _) => .pointer (some ⟨b, 0, none⟩)
def BestAt (F : PH) : Option (Nat × PrX) → Prop
  | none => True
  | some (b, p) => PrAt F b p ∧ p.2.2.1.length ≤ 10
theorem BestAt.mono {F G : PH} {o : Option (Nat × PrX)} (h : BestAt F o) (hl : F.le G) : BestAt G o := by
  cases o with
  | none => trivial
  | some q => exact ⟨PrAt.mono h.1 hl, h.2⟩
/-- No batch is too great. -/
def Few10 (l : List SgX) : Prop := ∀ s ∈ l, ∀ p ∈ s.2.1.2.2.2.1, p.2.2.1.length ≤ 10
theorem foldl_snoc {α β : Type} (f : β → α → β) (b : β) {xs : List α} {i : Nat} {x : α} (h : xs[i]? = some x) : (xs.take (i + 1)).foldl f b = f ((xs.take i).foldl f b) x := by
  rw [List.take_add_one, h, List.foldl_append]
  rfl
abbrev zPr : List Value := [.int .i64 0, .int .i64 0, .slice none 0 0]
abbrev zSg : List Value := [.int .i64 0, .int .i64 0, .int .i64 0, .slice none 0 0, .slice none 0 0, .slice none 0 0]
set_option maxHeartbeats 16000000 in
theorem number_spec (v : Value) (a b seq : Int) (xs : List SgX) (F : PH) (hr : RowB tySg F v xs) (h10 : Few10 xs) : Spec Try.prog 55 [.agg (pfC v a b).toArray, .int .i64 seq] F [] fun u F' H' => ∃ v', u = .tuple #[v', .bool (numberP a b xs seq).2] ∧ RowB tyEn F' v' (numberP a b xs seq).1 ∧ H' = [] := by
  obtain ⟨aa, cc, rfl, hc, hb⟩ := hr.form
  have hpf : ∀ w u t, (pfC w u t) = [w, .int .i64 u, .int .i64 t] := fun _ _ _ => rfl
  refine Spec.of2 Try.func55 rfl rfl fun X w0 => ?_
  repeat (first|refine zJ rfl rfl ?_|refine jr rfl ?_|refine jn ?_|refine zM rfl rfl ?_|(refine zC rfl rfl ?_ rfl ?_;omega)|(refine zD rfl rfl ?_ rfl ?_;omega)|(refine zP rfl ?_ rfl ?_;omega)|refine zG rfl rfl rfl rfl ?_|(refine jdq rfl rfl ?_ ?_ ?_;kernel_rfl;kernel_rfl)|refine zB rfl rfl rfl (by repeat constructor) rfl ?_|refine zH .here rfl rfl rfl rfl ?_|refine zH (.there .here) rfl rfl rfl rfl ?_|refine zH (.there (.there .here)) rfl rfl rfl rfl ?_)
  refine oE (ev_box rfl .agg) rfl ?_; rintro _ _ _ _ ⟨rfl, b2, rfl, rfl⟩
  refine oE (ev_box rfl .int) rfl ?_
  rintro _ _ _ _ ⟨rfl, b3, rfl, rfl⟩
  refine oPersist fun hh hA hd => ?_
  have h3 := blk_cells hA hd
  have hF1 := PH.le_l F hh
  generalize F.un hh = F1 at *
  repeat (first|refine zJ rfl rfl ?_|refine jr rfl ?_|refine jn ?_|refine zM rfl rfl ?_|(refine zC rfl rfl ?_ rfl ?_;omega)|(refine zD rfl rfl ?_ rfl ?_;omega)|(refine zP rfl ?_ rfl ?_;omega)|refine zG rfl rfl rfl rfl ?_|(refine jdq rfl rfl ?_ ?_ ?_;kernel_rfl;kernel_rfl)|refine zB rfl rfl rfl (by repeat constructor) rfl ?_|refine zH .here rfl rfl rfl rfl ?_|refine zH (.there .here) rfl rfl rfl rfl ?_|refine zH (.there (.there .here)) rfl rfl rfl rfl ?_)
  refine oS (ev_makeFunc rfl) rfl ?_
  refine oE (ev_alloc (cs := [.nilFunc]) rfl) rfl ?_
  rintro _ _ _ _ ⟨rfl, b7, rfl, rfl⟩
  refine oN (ev_store (b := b7) rfl rfl .func rfl rfl (lay_all (zs := [.nilFunc]) rfl) (ones_cons rfl ones_nil) .here) rfl ?_
  rintro _ _ _ _ ⟨rfl, _, rfl⟩
  refine oPersist fun hh hA hd => ?_
  have h7 := blk_cells hA hd
  have hF2 := PH.le_l F1 hh
  generalize F1.un hh = F2 at *
  have h3 := h3.mono hF2
  have hr2 := hr.mono (hF1.trans hF2)
  unfold pfC
  repeat (first|refine zJ rfl rfl ?_|refine jr rfl ?_|refine jn ?_|refine zM rfl rfl ?_|(refine zC rfl rfl ?_ rfl ?_;omega)|(refine zD rfl rfl ?_ rfl ?_;omega)|(refine zP rfl ?_ rfl ?_;omega)|refine zG rfl rfl rfl rfl ?_|(refine jdq rfl rfl ?_ ?_ ?_;kernel_rfl;kernel_rfl)|refine zB rfl rfl rfl (by repeat constructor) rfl ?_|refine zH .here rfl rfl rfl rfl ?_|refine zH (.there .here) rfl rfl rfl rfl ?_|refine zH (.there (.there .here)) rfl rfl rfl rfl ?_)
  refine J_loop3 (fun (i : Nat) (G : PH) (bp : Option (Nat × PrX)) => i ≤ xs.length ∧ F2.le G ∧ BestAt G bp ∧ bp.map (·.2) = (xs.take i).foldl (bestR a b xs seq) none) (fun i _ _ => xs.length - i)
    (fun i _ bp => [(2, .pointer (some ⟨b2, 0, none⟩)), (3, .pointer (some ⟨b3, 0, none⟩)), (6, bptr bp), (7, .pointer (some ⟨b7, 0, none⟩)), (15, .slice aa xs.length cc), (16, .int .i64 xs.length), (17, .int .i64 i)]) (fun _ G _ => G) (fun _ _ _ => blk b2 118 [.slice aa xs.length cc, .int .i64 a, .int .i64 b] :: X) 0 F2 none
    ⟨Nat.zero_le _, PH.ler _, trivial, rfl⟩ ⟨⟨rfl, rfl, rfl, rfl, rfl, rfl, rfl, trivial⟩, fun _ h => h⟩ ?_
  rintro i G bp ⟨hi, hG, hbp, hbe⟩
  by_cases hlt : i < xs.length
  · have g1 : xs[i]? = some xs[i] := List.getElem?_eq_getElem hlt
    have hfew := h10 _ (List.getElem_mem hlt)
    obtain ⟨b1, o1, c1, rfl, hc1, hr1, _⟩ := hr2.1.at g1
    have hr3 := tySg.mono hG hr1
    obtain ⟨cs', hcs, _, hch⟩ := sg_of hr3
    subst hcs
    obtain ⟨vp, vq, vr, rfl, _, _, hp, hq, hrr⟩ := ch_of hch
    have hstep := foldl_snoc (bestR a b xs seq) none g1
    rw [← hbe] at hstep
    generalize hy : xs[i] = y at *
    obtain ⟨aq, cq, rfl, hcq, hbq⟩ := hq.form
    have hone := tySg.ones hr3
    repeat (first|refine zJ rfl rfl ?_|refine jr rfl ?_|refine jn ?_|refine zM rfl rfl ?_|(refine zC rfl rfl ?_ rfl ?_;omega)|(refine zD rfl rfl ?_ rfl ?_;omega)|(refine zP rfl ?_ rfl ?_;omega)|refine zG rfl rfl rfl rfl ?_|(refine jdq rfl rfl ?_ ?_ ?_;kernel_rfl;kernel_rfl)|refine zB rfl rfl rfl (by repeat constructor) rfl ?_|refine zH .here rfl rfl rfl rfl ?_|refine zH (.there .here) rfl rfl rfl rfl ?_|refine zH (.there (.there .here)) rfl rfl rfl rfl ?_)
    refine oS (ev_indexAddr rfl rfl rfl hlt) rfl ?_
    refine oS (ev_load_agg rfl rfl (Rdb.ofF (hc1.mono hG)) rfl) rfl ?_
    refine oE (ev_alloc (cs := zSg) rfl) rfl ?_
    rintro _ _ _ _ ⟨rfl, b9, rfl, rfl⟩
    refine oN (ev_store (b := b9) rfl rfl .agg rfl rfl (lay_all (zs := zSg) rfl) hone .here) rfl ?_
    rintro _ _ _ _ ⟨rfl, _, rfl⟩
    unfold chC
    repeat (first|refine zJ rfl rfl ?_|refine jr rfl ?_|refine jn ?_|refine zM rfl rfl ?_|(refine zC rfl rfl ?_ rfl ?_;omega)|(refine zD rfl rfl ?_ rfl ?_;omega)|(refine zP rfl ?_ rfl ?_;omega)|refine zG rfl rfl rfl rfl ?_|(refine jdq rfl rfl ?_ ?_ ?_;kernel_rfl;kernel_rfl)|refine zB rfl rfl rfl (by repeat constructor) rfl ?_|refine zH .here rfl rfl rfl rfl ?_|refine zH (.there .here) rfl rfl rfl rfl ?_|refine zH (.there (.there .here)) rfl rfl rfl rfl ?_)
    refine J_loop3 (fun (j : Nat) (G1 : PH) (bp1 : Option (Nat × PrX)) => j ≤ y.2.1.2.2.2.1.length ∧ G.le G1 ∧ BestAt G1 bp1 ∧ bp1.map (·.2) = (y.2.1.2.2.2.1.take j).foldl (bestS a b xs seq) (bp.map (·.2))) (fun j _ _ => y.2.1.2.2.2.1.length - j)
      (fun j _ bp1 => [(2, .pointer (some ⟨b2, 0, none⟩)), (3, .pointer (some ⟨b3, 0, none⟩)), (6, bptr bp1), (7, .pointer (some ⟨b7, 0, none⟩)), (15, .slice (some ⟨b1, o1, none⟩) xs.length cc), (16, .int .i64 xs.length), (17, .int .i64 i), (23, .slice aq y.2.1.2.2.2.1.length cq), (24, .int .i64 y.2.1.2.2.2.1.length), (25, .int .i64 j)]) (fun _ G1 _ => G1) (fun _ _ _ => blk b2 118 [.slice (some ⟨b1, o1, none⟩) xs.length cc, .int .i64 a, .int .i64 b] :: X) 0 G bp
      ⟨Nat.zero_le _, PH.ler _, hbp, rfl⟩ ⟨⟨rfl, rfl, rfl, rfl, rfl, rfl, rfl, rfl, rfl, rfl, trivial⟩, fun _ h => h.drop⟩ ?_
    rintro j G1 bp1 ⟨hj, hG1, hbp1, hbe1⟩
    by_cases hjl : j < y.2.1.2.2.2.1.length
    · have g2 : y.2.1.2.2.2.1[j]? = some y.2.1.2.2.2.1[j] := List.getElem?_eq_getElem hjl
      have hx10 := hfew _ (List.getElem_mem hjl)
      obtain ⟨b4, o4, c4, rfl, hc4, hr4, _⟩ := hq.1.at g2
      have hr5 := tyPr.mono hG1 hr4
      have hstep2 := foldl_snoc (bestS a b xs seq) (bp.map (·.2)) g2
      rw [← hbe1] at hstep2
      generalize y.2.1.2.2.2.1[j] = x at *
      obtain ⟨vx, rfl, _, _, hxr⟩ := pr_of hr5
      have hone2 := tyPr.ones hr5
      repeat (first|refine zJ rfl rfl ?_|refine jr rfl ?_|refine jn ?_|refine zM rfl rfl ?_|(refine zC rfl rfl ?_ rfl ?_;omega)|(refine zD rfl rfl ?_ rfl ?_;omega)|(refine zP rfl ?_ rfl ?_;omega)|refine zG rfl rfl rfl rfl ?_|(refine jdq rfl rfl ?_ ?_ ?_;kernel_rfl;kernel_rfl)|refine zB rfl rfl rfl (by repeat constructor) rfl ?_|refine zH .here rfl rfl rfl rfl ?_|refine zH (.there .here) rfl rfl rfl rfl ?_|refine zH (.there (.there .here)) rfl rfl rfl rfl ?_)
      refine oS (ev_indexAddr rfl rfl rfl hjl) rfl ?_
      refine oS (ev_load_agg rfl rfl (Rdb.ofF (hc4.mono hG1)) rfl) rfl ?_
      refine oE (ev_alloc (cs := zPr) rfl) rfl ?_
      rintro _ _ _ _ ⟨rfl, b11, rfl, rfl⟩
      refine oN (ev_store (b := b11) rfl rfl .agg rfl rfl (lay_all (zs := zPr) rfl) hone2 .here) rfl ?_
      rintro _ _ _ _ ⟨rfl, _, rfl⟩
      refine oPersist fun hh hA hd => ?_
      have h11 := blk_cells hA hd
      have hF3 := PH.le_l G1 hh
      generalize G1.un hh = G2 at *
      have hxa : PrAt G2 b11 x := ⟨vx, h11, hxr.mono hF3⟩
      have hle := hG.trans (hG1.trans hF3)
      have hbp2 := hbp1.mono hF3
      have s1 := seqOf_spec x seq b3 _ G2 (h3.mono hle) (tyPr.mono hF3 hr5)
      have s2 := stands_spec (.slice (some ⟨b1, o1, none⟩) xs.length cc) a b x _ xs G2 (hr2.mono hle) (tyPr.mono hF3 hr5)
      have s2 : Pure Try.prog 73 _ G2 _ := s2
      unfold prC at h11 s1 s2
      unfold pfC at s2
      repeat (first|refine zJ rfl rfl ?_|refine jr rfl ?_|refine jn ?_|refine zM rfl rfl ?_|(refine zC rfl rfl ?_ rfl ?_;omega)|(refine zD rfl rfl ?_ rfl ?_;omega)|(refine zP rfl ?_ rfl ?_;omega)|refine zG rfl rfl rfl rfl ?_|(refine jdq rfl rfl ?_ ?_ ?_;kernel_rfl;kernel_rfl)|refine zB rfl rfl rfl (by repeat constructor) rfl ?_|refine zH .here rfl rfl rfl rfl ?_|refine zH (.there .here) rfl rfl rfl rfl ?_|refine zH (.there (.there .here)) rfl rfl rfl rfl ?_)
      by_cases h1 : x.1 = seq
      · rw [decide_eq_true h1] at s1
        cases bp1 with
        | none =>
          refine jd rfl ?_ ?_ ?_; kernel_rfl; kernel_rfl
          refine oS (ev_load rfl rfl (Rdb.ofF (h7.mono hle))) rfl ?_
          refine oS (ev_load_agg (cs := [.int .i64 x.1, .int .i64 x.2.1, vx]) rfl rfl (Rdb.ofF h11) rfl) rfl ?_
          refine oPF rfl s1 Try.call72 rfl rfl ?_
          repeat (first|refine zJ rfl rfl ?_|refine jr rfl ?_|refine jn ?_|refine zM rfl rfl ?_|(refine zC rfl rfl ?_ rfl ?_;omega)|(refine zD rfl rfl ?_ rfl ?_;omega)|(refine zP rfl ?_ rfl ?_;omega)|refine zG rfl rfl rfl rfl ?_|(refine jdq rfl rfl ?_ ?_ ?_;kernel_rfl;kernel_rfl)|refine zB rfl rfl rfl (by repeat constructor) rfl ?_|refine zH .here rfl rfl rfl rfl ?_|refine zH (.there .here) rfl rfl rfl rfl ?_|refine zH (.there (.there .here)) rfl rfl rfl rfl ?_)
          refine oS (ev_load_agg (cs := [.slice (some ⟨b1, o1, none⟩) xs.length cc, .int .i64 a, .int .i64 b]) rfl rfl (Rdb.ofB (n := 0) .here rfl) rfl) rfl ?_
          repeat (first|refine zJ rfl rfl ?_|refine jr rfl ?_|refine jn ?_|refine zM rfl rfl ?_|(refine zC rfl rfl ?_ rfl ?_;omega)|(refine zD rfl rfl ?_ rfl ?_;omega)|(refine zP rfl ?_ rfl ?_;omega)|refine zG rfl rfl rfl rfl ?_|(refine jdq rfl rfl ?_ ?_ ?_;kernel_rfl;kernel_rfl)|refine zB rfl rfl rfl (by repeat constructor) rfl ?_|refine zH .here rfl rfl rfl rfl ?_|refine zH (.there .here) rfl rfl rfl rfl ?_|refine zH (.there (.there .here)) rfl rfl rfl rfl ?_)
          refine oS (ev_load_agg (cs := [.int .i64 x.1, .int .i64 x.2.1, vx]) rfl rfl (Rdb.ofF h11) rfl) rfl ?_
          refine oP (s2) Try.call73 rfl rfl ?_
          cases hst : standsB a b xs x with
          | true =>
            repeat (first|refine zJ rfl rfl ?_|refine jr rfl ?_|refine jn ?_|refine zM rfl rfl ?_|(refine zC rfl rfl ?_ rfl ?_;omega)|(refine zD rfl rfl ?_ rfl ?_;omega)|(refine zP rfl ?_ rfl ?_;omega)|refine zG rfl rfl rfl rfl ?_|(refine jdq rfl rfl ?_ ?_ ?_;kernel_rfl;kernel_rfl)|refine zB rfl rfl rfl (by repeat constructor) rfl ?_|refine zH .here rfl rfl rfl rfl ?_|refine zH (.there .here) rfl rfl rfl rfl ?_|refine zH (.there (.there .here)) rfl rfl rfl rfl ?_)
            exact J_again3 (j + 1) G2 (some (b11, x)) ⟨hjl, hG1.trans hF3, ⟨hxa, hx10⟩, by rw [hstep2]; simp [bestS, laterB, h1, hst]⟩ (by omega) ⟨⟨rfl, rfl, rfl, rfl, rfl, rfl, rfl, rfl, rfl, rfl, trivial⟩, fun w s => s⟩
          | false =>
            repeat (first|refine zJ rfl rfl ?_|refine jr rfl ?_|refine jn ?_|refine zM rfl rfl ?_|(refine zC rfl rfl ?_ rfl ?_;omega)|(refine zD rfl rfl ?_ rfl ?_;omega)|(refine zP rfl ?_ rfl ?_;omega)|refine zG rfl rfl rfl rfl ?_|(refine jdq rfl rfl ?_ ?_ ?_;kernel_rfl;kernel_rfl)|refine zB rfl rfl rfl (by repeat constructor) rfl ?_|refine zH .here rfl rfl rfl rfl ?_|refine zH (.there .here) rfl rfl rfl rfl ?_|refine zH (.there (.there .here)) rfl rfl rfl rfl ?_)
            exact J_again3 (j + 1) G2 none ⟨hjl, hG1.trans hF3, hbp2, by rw [hstep2]; simp [bestS, laterB, hst]⟩ (by omega) ⟨⟨rfl, rfl, rfl, rfl, rfl, rfl, rfl, rfl, rfl, rfl, trivial⟩, fun w s => s⟩
        | some bq =>
          obtain ⟨bq, q⟩ := bq
          obtain ⟨⟨vq, hqc, hqr⟩, hq10⟩ := id hbp2
          unfold prC at hqc
          by_cases h2 : q.2.1 < x.2.1
          · unfold bptr
            refine jd rfl ?_ ?_ ?_; kernel_rfl; kernel_rfl
            refine oS (ev_load rfl rfl (Rdb.ofF (h7.mono hle))) rfl ?_
            refine oS (ev_load_agg (cs := [.int .i64 x.1, .int .i64 x.2.1, vx]) rfl rfl (Rdb.ofF h11) rfl) rfl ?_
            refine oPF rfl s1 Try.call72 rfl rfl ?_
            repeat (first|refine zJ rfl rfl ?_|refine jr rfl ?_|refine jn ?_|refine zM rfl rfl ?_|(refine zC rfl rfl ?_ rfl ?_;omega)|(refine zD rfl rfl ?_ rfl ?_;omega)|(refine zP rfl ?_ rfl ?_;omega)|refine zG rfl rfl rfl rfl ?_|(refine jdq rfl rfl ?_ ?_ ?_;kernel_rfl;kernel_rfl)|refine zB rfl rfl rfl (by repeat constructor) rfl ?_|refine zH .here rfl rfl rfl rfl ?_|refine zH (.there .here) rfl rfl rfl rfl ?_|refine zH (.there (.there .here)) rfl rfl rfl rfl ?_)
            refine oS (ev_load (v := .int .i64 x.2.1) rfl rfl (Rdb.ofF (h11.one 1 rfl))) rfl ?_
            repeat (first|refine zJ rfl rfl ?_|refine jr rfl ?_|refine jn ?_|refine zM rfl rfl ?_|(refine zC rfl rfl ?_ rfl ?_;omega)|(refine zD rfl rfl ?_ rfl ?_;omega)|(refine zP rfl ?_ rfl ?_;omega)|refine zG rfl rfl rfl rfl ?_|(refine jdq rfl rfl ?_ ?_ ?_;kernel_rfl;kernel_rfl)|refine zB rfl rfl rfl (by repeat constructor) rfl ?_|refine zH .here rfl rfl rfl rfl ?_|refine zH (.there .here) rfl rfl rfl rfl ?_|refine zH (.there (.there .here)) rfl rfl rfl rfl ?_)
            refine oS (ev_load (v := .int .i64 q.2.1) rfl rfl (Rdb.ofF (hqc.one 1 rfl))) rfl ?_
            repeat (first|refine zJ rfl rfl ?_|refine jr rfl ?_|refine jn ?_|refine zM rfl rfl ?_|(refine zC rfl rfl ?_ rfl ?_;omega)|(refine zD rfl rfl ?_ rfl ?_;omega)|(refine zP rfl ?_ rfl ?_;omega)|refine zG rfl rfl rfl rfl ?_|(refine jdq rfl rfl ?_ ?_ ?_;kernel_rfl;kernel_rfl)|refine zB rfl rfl rfl (by repeat constructor) rfl ?_|refine zH .here rfl rfl rfl rfl ?_|refine zH (.there .here) rfl rfl rfl rfl ?_|refine zH (.there (.there .here)) rfl rfl rfl rfl ?_)
            refine oS (ev_load_agg (cs := [.slice (some ⟨b1, o1, none⟩) xs.length cc, .int .i64 a, .int .i64 b]) rfl rfl (Rdb.ofB (n := 0) .here rfl) rfl) rfl ?_
            repeat (first|refine zJ rfl rfl ?_|refine jr rfl ?_|refine jn ?_|refine zM rfl rfl ?_|(refine zC rfl rfl ?_ rfl ?_;omega)|(refine zD rfl rfl ?_ rfl ?_;omega)|(refine zP rfl ?_ rfl ?_;omega)|refine zG rfl rfl rfl rfl ?_|(refine jdq rfl rfl ?_ ?_ ?_;kernel_rfl;kernel_rfl)|refine zB rfl rfl rfl (by repeat constructor) rfl ?_|refine zH .here rfl rfl rfl rfl ?_|refine zH (.there .here) rfl rfl rfl rfl ?_|refine zH (.there (.there .here)) rfl rfl rfl rfl ?_)
            refine oS (ev_load_agg (cs := [.int .i64 x.1, .int .i64 x.2.1, vx]) rfl rfl (Rdb.ofF h11) rfl) rfl ?_
            refine oP (s2) Try.call73 rfl rfl ?_
            cases hst : standsB a b xs x with
            | true =>
              repeat (first|refine zJ rfl rfl ?_|refine jr rfl ?_|refine jn ?_|refine zM rfl rfl ?_|(refine zC rfl rfl ?_ rfl ?_;omega)|(refine zD rfl rfl ?_ rfl ?_;omega)|(refine zP rfl ?_ rfl ?_;omega)|refine zG rfl rfl rfl rfl ?_|(refine jdq rfl rfl ?_ ?_ ?_;kernel_rfl;kernel_rfl)|refine zB rfl rfl rfl (by repeat constructor) rfl ?_|refine zH .here rfl rfl rfl rfl ?_|refine zH (.there .here) rfl rfl rfl rfl ?_|refine zH (.there (.there .here)) rfl rfl rfl rfl ?_)
              exact J_again3 (j + 1) G2 (some (b11, x)) ⟨hjl, hG1.trans hF3, ⟨hxa, hx10⟩, by rw [hstep2]; simp [bestS, laterB, h1, hst, h2]⟩ (by omega) ⟨⟨rfl, rfl, rfl, rfl, rfl, rfl, rfl, rfl, rfl, rfl, trivial⟩, fun w s => s⟩
            | false =>
              repeat (first|refine zJ rfl rfl ?_|refine jr rfl ?_|refine jn ?_|refine zM rfl rfl ?_|(refine zC rfl rfl ?_ rfl ?_;omega)|(refine zD rfl rfl ?_ rfl ?_;omega)|(refine zP rfl ?_ rfl ?_;omega)|refine zG rfl rfl rfl rfl ?_|(refine jdq rfl rfl ?_ ?_ ?_;kernel_rfl;kernel_rfl)|refine zB rfl rfl rfl (by repeat constructor) rfl ?_|refine zH .here rfl rfl rfl rfl ?_|refine zH (.there .here) rfl rfl rfl rfl ?_|refine zH (.there (.there .here)) rfl rfl rfl rfl ?_)
              exact J_again3 (j + 1) G2 (some (bq, q)) ⟨hjl, hG1.trans hF3, hbp2, by rw [hstep2]; simp [bestS, laterB, hst]⟩ (by omega) ⟨⟨rfl, rfl, rfl, rfl, rfl, rfl, rfl, rfl, rfl, rfl, trivial⟩, fun w s => s⟩
          · unfold bptr
            refine jd rfl ?_ ?_ ?_; kernel_rfl; kernel_rfl
            refine oS (ev_load rfl rfl (Rdb.ofF (h7.mono hle))) rfl ?_
            refine oS (ev_load_agg (cs := [.int .i64 x.1, .int .i64 x.2.1, vx]) rfl rfl (Rdb.ofF h11) rfl) rfl ?_
            refine oPF rfl s1 Try.call72 rfl rfl ?_
            repeat (first|refine zJ rfl rfl ?_|refine jr rfl ?_|refine jn ?_|refine zM rfl rfl ?_|(refine zC rfl rfl ?_ rfl ?_;omega)|(refine zD rfl rfl ?_ rfl ?_;omega)|(refine zP rfl ?_ rfl ?_;omega)|refine zG rfl rfl rfl rfl ?_|(refine jdq rfl rfl ?_ ?_ ?_;kernel_rfl;kernel_rfl)|refine zB rfl rfl rfl (by repeat constructor) rfl ?_|refine zH .here rfl rfl rfl rfl ?_|refine zH (.there .here) rfl rfl rfl rfl ?_|refine zH (.there (.there .here)) rfl rfl rfl rfl ?_)
            refine oS (ev_load (v := .int .i64 x.2.1) rfl rfl (Rdb.ofF (h11.one 1 rfl))) rfl ?_
            repeat (first|refine zJ rfl rfl ?_|refine jr rfl ?_|refine jn ?_|refine zM rfl rfl ?_|(refine zC rfl rfl ?_ rfl ?_;omega)|(refine zD rfl rfl ?_ rfl ?_;omega)|(refine zP rfl ?_ rfl ?_;omega)|refine zG rfl rfl rfl rfl ?_|(refine jdq rfl rfl ?_ ?_ ?_;kernel_rfl;kernel_rfl)|refine zB rfl rfl rfl (by repeat constructor) rfl ?_|refine zH .here rfl rfl rfl rfl ?_|refine zH (.there .here) rfl rfl rfl rfl ?_|refine zH (.there (.there .here)) rfl rfl rfl rfl ?_)
            refine oS (ev_load (v := .int .i64 q.2.1) rfl rfl (Rdb.ofF (hqc.one 1 rfl))) rfl ?_
            repeat (first|refine zJ rfl rfl ?_|refine jr rfl ?_|refine jn ?_|refine zM rfl rfl ?_|(refine zC rfl rfl ?_ rfl ?_;omega)|(refine zD rfl rfl ?_ rfl ?_;omega)|(refine zP rfl ?_ rfl ?_;omega)|refine zG rfl rfl rfl rfl ?_|(refine jdq rfl rfl ?_ ?_ ?_;kernel_rfl;kernel_rfl)|refine zB rfl rfl rfl (by repeat constructor) rfl ?_|refine zH .here rfl rfl rfl rfl ?_|refine zH (.there .here) rfl rfl rfl rfl ?_|refine zH (.there (.there .here)) rfl rfl rfl rfl ?_)
            exact J_again3 (j + 1) G2 (some (bq, q)) ⟨hjl, hG1.trans hF3, hbp2, by rw [hstep2]; simp [bestS, laterB, h2]⟩ (by omega) ⟨⟨rfl, rfl, rfl, rfl, rfl, rfl, rfl, rfl, rfl, rfl, trivial⟩, fun w s => s⟩
      · rw [decide_eq_false h1] at s1
        refine jd rfl ?_ ?_ ?_; kernel_rfl; kernel_rfl
        refine oS (ev_load rfl rfl (Rdb.ofF (h7.mono hle))) rfl ?_
        refine oS (ev_load_agg (cs := [.int .i64 x.1, .int .i64 x.2.1, vx]) rfl rfl (Rdb.ofF h11) rfl) rfl ?_
        refine oPF rfl s1 Try.call72 rfl rfl ?_
        repeat (first|refine zJ rfl rfl ?_|refine jr rfl ?_|refine jn ?_|refine zM rfl rfl ?_|(refine zC rfl rfl ?_ rfl ?_;omega)|(refine zD rfl rfl ?_ rfl ?_;omega)|(refine zP rfl ?_ rfl ?_;omega)|refine zG rfl rfl rfl rfl ?_|(refine jdq rfl rfl ?_ ?_ ?_;kernel_rfl;kernel_rfl)|refine zB rfl rfl rfl (by repeat constructor) rfl ?_|refine zH .here rfl rfl rfl rfl ?_|refine zH (.there .here) rfl rfl rfl rfl ?_|refine zH (.there (.there .here)) rfl rfl rfl rfl ?_)
        exact J_again3 (j + 1) G2 bp1 ⟨hjl, hG1.trans hF3, hbp2, by rw [hstep2]; simp [bestS, laterB, h1]⟩ (by omega) ⟨⟨rfl, rfl, rfl, rfl, rfl, rfl, rfl, rfl, rfl, rfl, trivial⟩, fun w s => s⟩
    · obtain rfl : j = y.2.1.2.2.2.1.length := by omega
      rw [List.take_length] at hbe1
      repeat (first|refine zJ rfl rfl ?_|refine jr rfl ?_|refine jn ?_|refine zM rfl rfl ?_|(refine zC rfl rfl ?_ rfl ?_;omega)|(refine zD rfl rfl ?_ rfl ?_;omega)|(refine zP rfl ?_ rfl ?_;omega)|refine zG rfl rfl rfl rfl ?_|(refine jdq rfl rfl ?_ ?_ ?_;kernel_rfl;kernel_rfl)|refine zB rfl rfl rfl (by repeat constructor) rfl ?_|refine zH .here rfl rfl rfl rfl ?_|refine zH (.there .here) rfl rfl rfl rfl ?_|refine zH (.there (.there .here)) rfl rfl rfl rfl ?_)
      exact J_again3 (i + 1) G1 bp1 ⟨hlt, hG.trans hG1, hbp1, by rw [hstep, hbe1]; rfl⟩ (by omega) ⟨⟨rfl, rfl, rfl, rfl, rfl, rfl, rfl, trivial⟩, fun w s => s⟩
  · obtain rfl : i = xs.length := by omega
    rw [List.take_length] at hbe
    have hbe : bp.map (·.2) = bestP a b xs seq := hbe
    cases bp with
    | none =>
      unfold numberP
      rw [← hbe]
      dsimp only [Option.map]
      have s3 := count_spec 74 [.pointer (some ⟨b3, 0, none⟩), .pointer (some ⟨b7, 0, none⟩)] (emptyC seq) (.slice aa xs.length cc) a b xs G (hr2.mono hG) Try.call74 (fun y cs hy => empty_spec y seq b3 b7 cs G (h3.mono hG) (h7.mono hG) hy)
      unfold pfC at s3
      repeat (first|refine zJ rfl rfl ?_|refine jr rfl ?_|refine jn ?_|refine zM rfl rfl ?_|(refine zC rfl rfl ?_ rfl ?_;omega)|(refine zD rfl rfl ?_ rfl ?_;omega)|(refine zP rfl ?_ rfl ?_;omega)|refine zG rfl rfl rfl rfl ?_|(refine jdq rfl rfl ?_ ?_ ?_;kernel_rfl;kernel_rfl)|refine zB rfl rfl rfl (by repeat constructor) rfl ?_|refine zH .here rfl rfl rfl rfl ?_|refine zH (.there .here) rfl rfl rfl rfl ?_|refine zH (.there (.there .here)) rfl rfl rfl rfl ?_)
      refine oS (ev_makeFunc rfl) rfl ?_
      repeat (first|refine zJ rfl rfl ?_|refine jr rfl ?_|refine jn ?_|refine zM rfl rfl ?_|(refine zC rfl rfl ?_ rfl ?_;omega)|(refine zD rfl rfl ?_ rfl ?_;omega)|(refine zP rfl ?_ rfl ?_;omega)|refine zG rfl rfl rfl rfl ?_|(refine jdq rfl rfl ?_ ?_ ?_;kernel_rfl;kernel_rfl)|refine zB rfl rfl rfl (by repeat constructor) rfl ?_|refine zH .here rfl rfl rfl rfl ?_|refine zH (.there .here) rfl rfl rfl rfl ?_|refine zH (.there (.there .here)) rfl rfl rfl rfl ?_)
      refine jd rfl ?_ ?_ ?_; kernel_rfl; kernel_rfl
      refine oS (ev_load_agg (cs := [.slice aa xs.length cc, .int .i64 a, .int .i64 b]) rfl rfl (Rdb.ofB (n := 0) .here rfl) rfl) rfl ?_
      repeat (first|refine zJ rfl rfl ?_|refine jr rfl ?_|refine jn ?_|refine zM rfl rfl ?_|(refine zC rfl rfl ?_ rfl ?_;omega)|(refine zD rfl rfl ?_ rfl ?_;omega)|(refine zP rfl ?_ rfl ?_;omega)|refine zG rfl rfl rfl rfl ?_|(refine jdq rfl rfl ?_ ?_ ?_;kernel_rfl;kernel_rfl)|refine zB rfl rfl rfl (by repeat constructor) rfl ?_|refine zH .here rfl rfl rfl rfl ?_|refine zH (.there .here) rfl rfl rfl rfl ?_|refine zH (.there (.there .here)) rfl rfl rfl rfl ?_)
      refine oP (s3) Try.call68 rfl rfl ?_
      repeat (first|refine zJ rfl rfl ?_|refine jr rfl ?_|refine jn ?_|refine zM rfl rfl ?_|(refine zC rfl rfl ?_ rfl ?_;omega)|(refine zD rfl rfl ?_ rfl ?_;omega)|(refine zP rfl ?_ rfl ?_;omega)|refine zG rfl rfl rfl rfl ?_|(refine jdq rfl rfl ?_ ?_ ?_;kernel_rfl;kernel_rfl)|refine zB rfl rfl rfl (by repeat constructor) rfl ?_|refine zH .here rfl rfl rfl rfl ?_|refine zH (.there .here) rfl rfl rfl rfl ?_|refine zH (.there (.there .here)) rfl rfl rfl rfl ?_)
      exact J_retv rfl (.tmp rfl (.tmp rfl .nil)) [] (fun w s => s.drop) (hF1.trans (hF2.trans hG)) ⟨_, rfl, RowB.nil, rfl⟩
    | some q =>
      obtain ⟨bq, q⟩ := q
      obtain ⟨⟨vq, hqc, hqr⟩, hq10⟩ := hbp
      unfold numberP
      rw [← hbe]
      dsimp only [Option.map]
      unfold bptr
      unfold prC at hqc
      repeat (first|refine zJ rfl rfl ?_|refine jr rfl ?_|refine jn ?_|refine zM rfl rfl ?_|(refine zC rfl rfl ?_ rfl ?_;omega)|(refine zD rfl rfl ?_ rfl ?_;omega)|(refine zP rfl ?_ rfl ?_;omega)|refine zG rfl rfl rfl rfl ?_|(refine jdq rfl rfl ?_ ?_ ?_;kernel_rfl;kernel_rfl)|refine zB rfl rfl rfl (by repeat constructor) rfl ?_|refine zH .here rfl rfl rfl rfl ?_|refine zH (.there .here) rfl rfl rfl rfl ?_|refine zH (.there (.there .here)) rfl rfl rfl rfl ?_)
      refine oS (ev_load (v := vq) rfl rfl (Rdb.ofF (hqc.one 2 rfl))) rfl ?_
      refine oC (Hc := []) (Hr := blk b2 118 [.slice aa xs.length cc, .int .i64 a, .int .i64 b] :: X) (eclone_spec vq q.2.2.1 G hqr (by omega)) Try.call42 rfl rfl (fun _ s => s) ?_
      rintro u G1 _ hG1 ⟨rfl, hu⟩
      repeat (first|refine zJ rfl rfl ?_|refine jr rfl ?_|refine jn ?_|refine zM rfl rfl ?_|(refine zC rfl rfl ?_ rfl ?_;omega)|(refine zD rfl rfl ?_ rfl ?_;omega)|(refine zP rfl ?_ rfl ?_;omega)|refine zG rfl rfl rfl rfl ?_|(refine jdq rfl rfl ?_ ?_ ?_;kernel_rfl;kernel_rfl)|refine zB rfl rfl rfl (by repeat constructor) rfl ?_|refine zH .here rfl rfl rfl rfl ?_|refine zH (.there .here) rfl rfl rfl rfl ?_|refine zH (.there (.there .here)) rfl rfl rfl rfl ?_)
      exact J_retv rfl (.tmp rfl (.tmp rfl .nil)) [] (fun w s => s.drop) (hF1.trans (hF2.trans (hG.trans hG1))) ⟨_, rfl, hu, rfl⟩
end Go.Proofs.Ytdoaloimndehbaa
