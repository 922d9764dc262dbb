/-
  The document's vouchings: what is read of them. Conditions are typed with each.
-/
import Derived.Test.YtdoaloimndehbaaBl
import Derived.Test.YtdoaloimndehbaaLi
namespace Go.Proofs.Ytdoaloimndehbaa
open Go.RowKit
set_option maxRecDepth 100000
def isortV (l : List Vo) : List Vo := l.foldl insS []
theorem isortV_snoc (l : List Vo) (x : Vo) : isortV (l ++ [x]) = insS (isortV l) x := by
  unfold isortV
  rw [List.foldl_append]
  rfl
def selB (who c : Int) (o : Ax) : Bool := decide (o.1 = who) && decide (o.2.c = c)
def ofR (R : List Ax) (who c : Int) : List Vo := isortV ((R.filter (selB who c)).map (·.2))
theorem ofR_snoc (R : List Ax) (o : Ax) (who c : Int) : ofR (R ++ [o]) who c = if selB who c o then insS (ofR R who c) o.2 else ofR R who c := by
  unfold ofR
  rw [List.filter_append, List.map_append]
  cases h : selB who c o with
  | true =>
    rw [List.filter_cons, if_pos h, List.filter_nil, if_pos rfl, List.map_cons, List.map_nil, isortV_snoc]
  | false =>
    rw [List.filter_cons, if_neg (by rw [h]; decide), List.filter_nil, if_neg (by decide), List.map_nil, List.append_nil]
theorem isortV_perm (l : List Vo) : (isortV l).Perm l := by
  have key : ∀ (l acc : List Vo), (l.foldl insS acc).Perm (acc ++ l) := by
    intro l
    induction l with
    | nil => intro acc; simp
    | cons x l ih =>
      intro acc
      rw [List.foldl_cons]
      refine (ih _).trans (((insS_perm acc x).append_right l).trans ?_)
      exact List.perm_middle.symm
  simpa [isortV] using key l []
theorem ofR_len (R : List Ax) (who c : Int) : (ofR R who c).length ≤ R.length := by
  unfold ofR
  rw [(isortV_perm _).length_eq, List.length_map]
  exact List.length_filter_le _ _
theorem lb_eq2 : ∀ {xs : List Vo} {s : Int} {i : Nat}, i ≤ xs.length → (∀ q y, q < i → xs[q]? = some y → y.s < s) → (∀ y, xs[i]? = some y → ¬ y.s < s) → lbP xs s = i
  | [], s, i, hi, _, _ => by simp at hi; subst hi; rfl
  | x :: xs, s, 0, _, _, h2 => by
    rw [lb_cons, if_neg (h2 x rfl)]
  | x :: xs, s, i + 1, hi, h1, h2 => by
    rw [lb_cons, if_pos (h1 0 x (by omega) rfl), lb_eq2 (by simpa using hi) (fun q y hq e => h1 (q + 1) y (by omega) (by simpa using e)) (fun y e => h2 y (by simpa using e))]
/-- The document's vouchings, kept. -/
structure RF (F : PH) (br : Nat) (n : Int) (lv : Value) (R : List Ax) : Prop where
  blk : Cells F br 0 [.int .i64 n, lv]
  row : OR F lv R
theorem RF.mono {F G : PH} {br : Nat} {n : Int} {lv : Value} {R : List Ax} (h : RF F br n lv R) (hl : F.le G) : RF G br n lv R := ⟨h.blk.mono hl, h.row.mono hl⟩
abbrev zOne : List Value := oCs1 (0, ⟨0, 0, zDg, 0#32⟩)
set_option maxHeartbeats 16000000 in
theorem rof_spec (br : Nat) (n who c : Int) (lv : Value) (R : List Ax) (F : PH) (hr : RF F br n lv R) (hn : R.length ≤ 300) :
    Spec Try.prog 37 [pT br, .int .i64 who, .int .i64 c] F [] fun u F' H' => H' = [] ∧ VR F' u (ofR R who c) := by
  refine Spec.of3 Try.func37 rfl rfl fun X w0 => ?_
  obtain ⟨a, cc, rfl, hcc⟩ := hr.row.form
  repeat (first|refine zJ rfl rfl ?_|refine jr rfl ?_|refine jn ?_|refine zM rfl rfl ?_|(refine zC rfl rfl ?_ rfl ?_;omega)|(refine zD rfl rfl ?_ rfl ?_;omega)|(refine zP rfl ?_ rfl ?_;omega)|refine zG rfl rfl rfl rfl ?_|(refine jdq rfl rfl ?_ ?_ ?_;kernel_rfl;kernel_rfl)|refine zB rfl rfl rfl (by repeat constructor) rfl ?_|refine zH .here rfl rfl rfl rfl ?_|refine zH (.there .here) rfl rfl rfl rfl ?_|refine zH (.there (.there .here)) rfl rfl rfl rfl ?_)
  refine oS (ev_load (v := .slice a R.length cc) rfl rfl (Rdb.ofF (cells_at hr.blk 1 rfl))) rfl ?_
  repeat (first|refine zJ rfl rfl ?_|refine jr rfl ?_|refine jn ?_|refine zM rfl rfl ?_|(refine zC rfl rfl ?_ rfl ?_;omega)|(refine zD rfl rfl ?_ rfl ?_;omega)|(refine zP rfl ?_ rfl ?_;omega)|refine zG rfl rfl rfl rfl ?_|(refine jdq rfl rfl ?_ ?_ ?_;kernel_rfl;kernel_rfl)|refine zB rfl rfl rfl (by repeat constructor) rfl ?_|refine zH .here rfl rfl rfl rfl ?_|refine zH (.there .here) rfl rfl rfl rfl ?_|refine zH (.there (.there .here)) rfl rfl rfl rfl ?_)
  refine J_loop3 (fun (j : Nat) (G : PH) (v : Value) => j ≤ R.length ∧ F.le G ∧ VR G v (ofR (R.take j) who c)) (fun j _ _ => R.length - j) (fun j _ v => [(1, .int .i64 who), (2, .int .i64 c), (7, v), (14, .slice a R.length cc), (15, .int .i64 R.length), (16, .int .i64 j)]) (fun _ G _ => G) (fun _ _ _ => X) 0 F (.slice none 0 0) ⟨Nat.zero_le _, PH.ler _, VR.nil F⟩ ⟨⟨rfl, rfl, rfl, rfl, rfl, rfl, trivial⟩, fun _ s => s⟩ ?_
  rintro j G v ⟨hj, hG, hv⟩
  by_cases hlt : j < R.length
  rotate_left
  · obtain rfl : j = R.length := by omega
    rw [List.take_length] at hv
    repeat (first|refine zJ rfl rfl ?_|refine jr rfl ?_|refine jn ?_|refine zM rfl rfl ?_|(refine zC rfl rfl ?_ rfl ?_;omega)|(refine zD rfl rfl ?_ rfl ?_;omega)|(refine zP rfl ?_ rfl ?_;omega)|refine zG rfl rfl rfl rfl ?_|(refine jdq rfl rfl ?_ ?_ ?_;kernel_rfl;kernel_rfl)|refine zB rfl rfl rfl (by repeat constructor) rfl ?_|refine zH .here rfl rfl rfl rfl ?_|refine zH (.there .here) rfl rfl rfl rfl ?_|refine zH (.there (.there .here)) rfl rfl rfl rfl ?_)
    exact J_retv rfl (.tmp rfl .nil) [] (fun w s => s) hG ⟨rfl, hv⟩
  have hg : R[j]? = some R[j] := List.getElem?_eq_getElem hlt
  obtain ⟨b1, o1, rfl, hc1, _⟩ := (hr.row.mono hG).at hg
  have hsn := ofR_snoc (R.take j) R[j] who c
  have htk : R.take (j + 1) = R.take j ++ [R[j]] := by rw [List.take_add_one, hg]; rfl
  rw [← htk] at hsn
  have hll := ofR_len (R.take j) who c
  rw [List.length_take] at hll
  generalize R[j] = o at *
  generalize ofR (R.take j) who c = l at *
  repeat (first|refine zJ rfl rfl ?_|refine jr rfl ?_|refine jn ?_|refine zM rfl rfl ?_|(refine zC rfl rfl ?_ rfl ?_;omega)|(refine zD rfl rfl ?_ rfl ?_;omega)|(refine zP rfl ?_ rfl ?_;omega)|refine zG rfl rfl rfl rfl ?_|(refine jdq rfl rfl ?_ ?_ ?_;kernel_rfl;kernel_rfl)|refine zB rfl rfl rfl (by repeat constructor) rfl ?_|refine zH .here rfl rfl rfl rfl ?_|refine zH (.there .here) rfl rfl rfl rfl ?_|refine zH (.there (.there .here)) rfl rfl rfl rfl ?_)
  refine oS (ev_indexAddr rfl rfl rfl hlt) rfl ?_
  refine oS (ev_load_agg (n := 36) rfl rfl (Rdb.ofF hc1) (oCs1_len o)) rfl ?_
  refine oE (ev_alloc (cs := zOne) rfl) rfl ?_
  rintro _ _ _ _ ⟨rfl, b9, rfl, rfl⟩
  refine oN (ev_store rfl rfl .agg rfl (oCs1_len o) (lay_all (zs := zOne) (by rw [oCs1_len]; rfl)) (oCs1_ones o) .here) rfl ?_
  rintro _ _ _ _ ⟨rfl, _, rfl⟩
  by_cases h1 : o.1 = who
  rotate_left
  · rw [if_neg (by unfold selB; rw [decide_eq_false h1, Bool.false_and]; decide)] at hsn
    repeat (first|refine zJ rfl rfl ?_|refine jr rfl ?_|refine jn ?_|refine zM rfl rfl ?_|(refine zC rfl rfl ?_ rfl ?_;omega)|(refine zD rfl rfl ?_ rfl ?_;omega)|(refine zP rfl ?_ rfl ?_;omega)|refine zG rfl rfl rfl rfl ?_|(refine jdq rfl rfl ?_ ?_ ?_;kernel_rfl;kernel_rfl)|refine zB rfl rfl rfl (by repeat constructor) rfl ?_|refine zH .here rfl rfl rfl rfl ?_|refine zH (.there .here) rfl rfl rfl rfl ?_|refine zH (.there (.there .here)) rfl rfl rfl rfl ?_)
    exact J_again3 (j + 1) G v ⟨hlt, hG, by rw [hsn]; exact hv⟩ (by omega) ⟨⟨rfl, rfl, rfl, rfl, rfl, rfl, trivial⟩, fun w s => s.drop⟩
  by_cases h2 : o.2.c = c
  rotate_left
  · rw [if_neg (by unfold selB; rw [decide_eq_false h2, Bool.and_false]; decide)] at hsn
    repeat (first|refine zJ rfl rfl ?_|refine jr rfl ?_|refine jn ?_|refine zM rfl rfl ?_|(refine zC rfl rfl ?_ rfl ?_;omega)|(refine zD rfl rfl ?_ rfl ?_;omega)|(refine zP rfl ?_ rfl ?_;omega)|refine zG rfl rfl rfl rfl ?_|(refine jdq rfl rfl ?_ ?_ ?_;kernel_rfl;kernel_rfl)|refine zB rfl rfl rfl (by repeat constructor) rfl ?_|refine zH .here rfl rfl rfl rfl ?_|refine zH (.there .here) rfl rfl rfl rfl ?_|refine zH (.there (.there .here)) rfl rfl rfl rfl ?_)
    exact J_again3 (j + 1) G v ⟨hlt, hG, by rw [hsn]; exact hv⟩ (by omega) ⟨⟨rfl, rfl, rfl, rfl, rfl, rfl, trivial⟩, fun w s => s.drop⟩
  rw [if_pos (by unfold selB; rw [decide_eq_true h1, decide_eq_true h2]; rfl)] at hsn
  obtain ⟨a7, c7, rfl, hc7⟩ := hv.form
  repeat (first|refine zJ rfl rfl ?_|refine jr rfl ?_|refine jn ?_|refine zM rfl rfl ?_|(refine zC rfl rfl ?_ rfl ?_;omega)|(refine zD rfl rfl ?_ rfl ?_;omega)|(refine zP rfl ?_ rfl ?_;omega)|refine zG rfl rfl rfl rfl ?_|(refine jdq rfl rfl ?_ ?_ ?_;kernel_rfl;kernel_rfl)|refine zB rfl rfl rfl (by repeat constructor) rfl ?_|refine zH .here rfl rfl rfl rfl ?_|refine zH (.there .here) rfl rfl rfl rfl ?_|refine zH (.there (.there .here)) rfl rfl rfl rfl ?_)
  refine J_loop (ι := Nat) (fun i => i ≤ l.length ∧ ∀ q y, q < i → l[q]? = some y → y.s < o.2.s) (fun i => l.length - i) (fun i => [(1, .int .i64 who), (2, .int .i64 c), (7, .slice a7 l.length c7), (14, .slice (some ⟨b1, o1, none⟩) R.length cc), (15, .int .i64 R.length), (16, .int .i64 j), (9, .pointer (some ⟨b9, 0, none⟩)), (10, .int .i64 i)]) (fun _ => G) (fun _ => blk b9 140 (oCs1 o) :: X) 0 ⟨Nat.zero_le _, fun q y hq => absurd hq (by omega)⟩ ⟨⟨rfl, rfl, rfl, rfl, rfl, rfl, rfl, rfl, trivial⟩, fun _ s => s⟩ ?_
  rintro i ⟨hi, hlow⟩
  have hfin : ∀ {C : Ctx} (hx : ∀ y, l[i]? = some y → ¬ y.s < o.2.s), lbP l o.2.s = i := fun hx => lb_eq2 hi hlow hx
  by_cases hil : i < l.length ∧ ∀ y, l[i]? = some y → y.s < o.2.s
  · obtain ⟨hil, hys⟩ := hil
    have hgi : l[i]? = some l[i] := List.getElem?_eq_getElem hil
    obtain ⟨b2, o2, rfl, hc2, _⟩ := hv.at hgi
    have hyi := hys _ hgi
    generalize l[i] = y at *
    repeat (first|refine zJ rfl rfl ?_|refine jr rfl ?_|refine jn ?_|refine zM rfl rfl ?_|(refine zC rfl rfl ?_ rfl ?_;omega)|(refine zD rfl rfl ?_ rfl ?_;omega)|(refine zP rfl ?_ rfl ?_;omega)|refine zG rfl rfl rfl rfl ?_|(refine jdq rfl rfl ?_ ?_ ?_;kernel_rfl;kernel_rfl)|refine zB rfl rfl rfl (by repeat constructor) rfl ?_|refine zH .here rfl rfl rfl rfl ?_|refine zH (.there .here) rfl rfl rfl rfl ?_|refine zH (.there (.there .here)) rfl rfl rfl rfl ?_)
    refine oS (ev_indexAddr rfl rfl rfl hil) rfl ?_
    repeat (first|refine zJ rfl rfl ?_|refine jr rfl ?_|refine jn ?_|refine zM rfl rfl ?_|(refine zC rfl rfl ?_ rfl ?_;omega)|(refine zD rfl rfl ?_ rfl ?_;omega)|(refine zP rfl ?_ rfl ?_;omega)|refine zG rfl rfl rfl rfl ?_|(refine jdq rfl rfl ?_ ?_ ?_;kernel_rfl;kernel_rfl)|refine zB rfl rfl rfl (by repeat constructor) rfl ?_|refine zH .here rfl rfl rfl rfl ?_|refine zH (.there .here) rfl rfl rfl rfl ?_|refine zH (.there (.there .here)) rfl rfl rfl rfl ?_)
    refine oS (ev_load (v := .int .i64 y.s) rfl rfl (Rdb.ofF (cells_at hc2 1 rfl))) rfl ?_
    repeat (first|refine zJ rfl rfl ?_|refine jr rfl ?_|refine jn ?_|refine zM rfl rfl ?_|(refine zC rfl rfl ?_ rfl ?_;omega)|(refine zD rfl rfl ?_ rfl ?_;omega)|(refine zP rfl ?_ rfl ?_;omega)|refine zG rfl rfl rfl rfl ?_|(refine jdq rfl rfl ?_ ?_ ?_;kernel_rfl;kernel_rfl)|refine zB rfl rfl rfl (by repeat constructor) rfl ?_|refine zH .here rfl rfl rfl rfl ?_|refine zH (.there .here) rfl rfl rfl rfl ?_|refine zH (.there (.there .here)) rfl rfl rfl rfl ?_)
    exact J_again (i + 1) ⟨hil, fun q z hq e => by
      by_cases hqi : q < i
      · exact hlow q z hqi e
      · obtain rfl : q = i := by omega
        rw [hgi] at e; cases e; exact hyi⟩ (by omega) ⟨⟨rfl, rfl, rfl, rfl, rfl, rfl, rfl, rfl, trivial⟩, fun w s => s⟩
  have hlb : lbP l o.2.s = i := lb_eq2 hi hlow fun y hy hlt => hil ⟨(List.getElem?_eq_some_iff.1 hy).1, fun z hz => by rw [hy] at hz; cases hz; exact hlt⟩
  have hins := ins_eq l o.2
  rw [hlb] at hins
  have hpre := VR.cut hv (lo := 0) (hi := i) (m := c7) (Nat.zero_le _) hi (by omega)
  rw [List.drop_zero, Nat.sub_zero] at hpre
  have hsuf := VR.cut hv (lo := i) (hi := l.length) (m := c7) hi (Nat.le_refl _) hc7
  rw [List.take_of_length_le (by rw [List.length_drop]; exact Nat.le_refl _)] at hsuf
  have hl1 : (l.take i).length = i := by rw [List.length_take]; omega
  have hl2 : (l.drop i).length = l.length - i := by rw [List.length_drop]
  have hpre2 : SliceV G 35 (.slice a7 i c7) i (vCs (l.take i)) := by
    obtain ⟨e1, a', c', e2, e3, e4⟩ := id hv
    cases e2
    refine ⟨by rw [vCs_len, hl1], a7, c7, rfl, by omega, fun h0 => ?_⟩
    obtain ⟨b, off, ha, hcc⟩ := e4 (by omega)
    refine ⟨b, off, ha, fun q u e => hcc q u ?_⟩
    rw [← vCs_take, List.getElem?_take] at e
    split at e
    · exact e
    · cases e
  by_cases hil2 : i < l.length
  · have hgi : l[i]? = some l[i] := List.getElem?_eq_getElem hil2
    have hge : ¬ l[i].s < o.2.s := fun h => hil ⟨hil2, fun z hz => by rw [hgi] at hz; cases hz; exact h⟩
    obtain ⟨b2, o2, rfl, hc2, _⟩ := hv.at hgi
    generalize l[i] = y at *
    repeat (first|refine zJ rfl rfl ?_|refine jr rfl ?_|refine jn ?_|refine zM rfl rfl ?_|(refine zC rfl rfl ?_ rfl ?_;omega)|(refine zD rfl rfl ?_ rfl ?_;omega)|(refine zP rfl ?_ rfl ?_;omega)|refine zG rfl rfl rfl rfl ?_|(refine jdq rfl rfl ?_ ?_ ?_;kernel_rfl;kernel_rfl)|refine zB rfl rfl rfl (by repeat constructor) rfl ?_|refine zH .here rfl rfl rfl rfl ?_|refine zH (.there .here) rfl rfl rfl rfl ?_|refine zH (.there (.there .here)) rfl rfl rfl rfl ?_)
    refine oS (ev_indexAddr rfl rfl rfl hil2) rfl ?_
    repeat (first|refine zJ rfl rfl ?_|refine jr rfl ?_|refine jn ?_|refine zM rfl rfl ?_|(refine zC rfl rfl ?_ rfl ?_;omega)|(refine zD rfl rfl ?_ rfl ?_;omega)|(refine zP rfl ?_ rfl ?_;omega)|refine zG rfl rfl rfl rfl ?_|(refine jdq rfl rfl ?_ ?_ ?_;kernel_rfl;kernel_rfl)|refine zB rfl rfl rfl (by repeat constructor) rfl ?_|refine zH .here rfl rfl rfl rfl ?_|refine zH (.there .here) rfl rfl rfl rfl ?_|refine zH (.there (.there .here)) rfl rfl rfl rfl ?_)
    refine oS (ev_load (v := .int .i64 y.s) rfl rfl (Rdb.ofF (cells_at hc2 1 rfl))) rfl ?_
    (repeat (first|refine zJ rfl rfl ?_|refine jr rfl ?_|refine jn ?_|refine zM rfl rfl ?_|(refine zC rfl rfl ?_ rfl ?_;omega)|(refine zD rfl rfl ?_ rfl ?_;omega)|(refine zP rfl ?_ rfl ?_;omega)|refine zG rfl rfl rfl rfl ?_|(refine jdq rfl rfl ?_ ?_ ?_;kernel_rfl;kernel_rfl)|refine zB rfl rfl rfl (by repeat constructor) rfl ?_|refine zH .here rfl rfl rfl rfl ?_|refine zH (.there .here) rfl rfl rfl rfl ?_|refine zH (.there (.there .here)) rfl rfl rfl rfl ?_)) 
    refine ja G [blk b9 140 (oCs1 o)] ?_ (fun w t => t.head) ?_; kernel_rfl 
    refine aT 1 rfl (ev_qe rfl) rfl rfl ?_ ?_ ?_ ?_; kernel_rfl; kernel_rfl; kernel_rfl 
    refine aT 2 rfl (ev_qe rfl) rfl rfl ?_ ?_ ?_ ?_; kernel_rfl; kernel_rfl; kernel_rfl 
    refine aT 3 rfl (ev_slice_hi (h := i) rfl rfl rfl (by omega)) rfl rfl ?_ ?_ ?_ ?_; kernel_rfl; kernel_rfl; kernel_rfl 
    refine aT 5 rfl (ev_qe rfl) rfl rfl ?_ ?_ ?_ ?_; kernel_rfl; kernel_rfl; kernel_rfl 
    refine aT 6 rfl (ev_load_agg (cs := o.2.cs) rfl rfl (Rdb.ofB (n := 0) .here (vo_at1 o)) o.2.len) rfl rfl ?_ ?_ ?_ ?_; kernel_rfl; kernel_rfl; kernel_rfl 
    refine aT 9 rfl (ev_qe rfl) rfl rfl ?_ ?_ ?_ ?_; kernel_rfl; kernel_rfl; kernel_rfl 
    refine aT 10 rfl (ev_qe rfl) rfl rfl ?_ ?_ ?_ ?_; kernel_rfl; kernel_rfl; kernel_rfl 
    refine aT 11 rfl (ev_slice_lo (lo := i) rfl rfl rfl hi) rfl rfl ?_ ?_ ?_ ?_; kernel_rfl; kernel_rfl; kernel_rfl 
    refine aApp2 (a := 0) (b := 4) (c := 7) (d := 8) (da := 48) (db := 52) (dc := 55) (dd := 56) (tA := 51) (ty := 54) (nA := i) (bytes := 56) rfl rfl rfl rfl rfl rfl ?_ ?_ ?_ ?_ ?_ ?_ ?_ ?_ .agg o.2.len o.2.ones elVo (fun H => hpre2.rds) (vCs_ones _) (by omega) (fun w t => t.head) ?_; kernel_rfl; kernel_rfl; kernel_rfl; kernel_rfl; kernel_rfl; kernel_rfl; kernel_rfl; kernel_rfl 
    intro u wa wb wc 
    refine aB (i := 12) (by kernel_rfl) (aE rfl (ev_append_s (n := i + 1) (m := l.length - i) (bytes := 56) (xs := vCs (l.take i) ++ o.2.cs) (news := vCs (l.drop i)) (K := fun v' => own v' 72 35 (i + 1 + (l.length - i)) (vCs (l.take i) ++ o.2.cs ++ vCs (l.drop i)) :: blk b9 140 (oCs1 o) :: X) rfl rfl elVo (by have h9 := SliceV.rds (H := own u 72 35 (i + 1) (vCs (l.take i) ++ o.2.cs) :: blk b9 140 (oCs1 o) :: X) hsuf; rw [hl2] at h9; exact h9) (vCs_ones _) (by omega) (fun v' => .here)) rfl rfl (fun _ _ _ _ hq w t => by obtain ⟨rfl, _, rfl⟩ := hq; exact t.drop.head) ?_) 
    rintro u3 _ _ _ ⟨rfl, _, rfl⟩ 
    refine aT 13 rfl (ev_qe rfl) rfl rfl ?_ ?_ ?_ ?_; kernel_rfl; kernel_rfl; kernel_rfl 
    refine aD (by kernel_rfl) ?_ 
    (repeat (first|refine zJ rfl rfl ?_|refine jr rfl ?_|refine jn ?_|refine zM rfl rfl ?_|(refine zC rfl rfl ?_ rfl ?_;omega)|(refine zD rfl rfl ?_ rfl ?_;omega)|(refine zP rfl ?_ rfl ?_;omega)|refine zG rfl rfl rfl rfl ?_|(refine jdq rfl rfl ?_ ?_ ?_;kernel_rfl;kernel_rfl)|refine zB rfl rfl rfl (by repeat constructor) rfl ?_|refine zH .here rfl rfl rfl rfl ?_|refine zH (.there .here) rfl rfl rfl rfl ?_|refine zH (.there (.there .here)) rfl rfl rfl rfl ?_)) 
    refine J_persist fun hh hA hd => ?_ 
    have hnew : VR (G.un hh) u3 (insS l o.2) := by 
      have h9 := own_slice hA hd 
      rw [List.append_assoc, ← vCs_cons, ← vCs_app, hins] at h9 
      unfold VR 
      rw [(insS_perm l o.2).length_eq, List.length_cons] 
      rwa [show i + 1 + (l.length - i) = l.length + 1 from by omega] at h9 
    exact J_again3 (j + 1) (G.un hh) u3 ⟨hlt, hG.trans (PH.le_l _ _), by rw [hsn]; exact hnew⟩ (by omega) ⟨⟨rfl, rfl, rfl, rfl, rfl, rfl, trivial⟩, fun w s => s.drop⟩
  · (repeat (first|refine zJ rfl rfl ?_|refine jr rfl ?_|refine jn ?_|refine zM rfl rfl ?_|(refine zC rfl rfl ?_ rfl ?_;omega)|(refine zD rfl rfl ?_ rfl ?_;omega)|(refine zP rfl ?_ rfl ?_;omega)|refine zG rfl rfl rfl rfl ?_|(refine jdq rfl rfl ?_ ?_ ?_;kernel_rfl;kernel_rfl)|refine zB rfl rfl rfl (by repeat constructor) rfl ?_|refine zH .here rfl rfl rfl rfl ?_|refine zH (.there .here) rfl rfl rfl rfl ?_|refine zH (.there (.there .here)) rfl rfl rfl rfl ?_)) 
    refine ja G [blk b9 140 (oCs1 o)] ?_ (fun w t => t.head) ?_; kernel_rfl 
    refine aT 1 rfl (ev_qe rfl) rfl rfl ?_ ?_ ?_ ?_; kernel_rfl; kernel_rfl; kernel_rfl 
    refine aT 2 rfl (ev_qe rfl) rfl rfl ?_ ?_ ?_ ?_; kernel_rfl; kernel_rfl; kernel_rfl 
    refine aT 3 rfl (ev_slice_hi (h := i) rfl rfl rfl (by omega)) rfl rfl ?_ ?_ ?_ ?_; kernel_rfl; kernel_rfl; kernel_rfl 
    refine aT 5 rfl (ev_qe rfl) rfl rfl ?_ ?_ ?_ ?_; kernel_rfl; kernel_rfl; kernel_rfl 
    refine aT 6 rfl (ev_load_agg (cs := o.2.cs) rfl rfl (Rdb.ofB (n := 0) .here (vo_at1 o)) o.2.len) rfl rfl ?_ ?_ ?_ ?_; kernel_rfl; kernel_rfl; kernel_rfl 
    refine aT 9 rfl (ev_qe rfl) rfl rfl ?_ ?_ ?_ ?_; kernel_rfl; kernel_rfl; kernel_rfl 
    refine aT 10 rfl (ev_qe rfl) rfl rfl ?_ ?_ ?_ ?_; kernel_rfl; kernel_rfl; kernel_rfl 
    refine aT 11 rfl (ev_slice_lo (lo := i) rfl rfl rfl hi) rfl rfl ?_ ?_ ?_ ?_; kernel_rfl; kernel_rfl; kernel_rfl 
    refine aApp2 (a := 0) (b := 4) (c := 7) (d := 8) (da := 48) (db := 52) (dc := 55) (dd := 56) (tA := 51) (ty := 54) (nA := i) (bytes := 56) rfl rfl rfl rfl rfl rfl ?_ ?_ ?_ ?_ ?_ ?_ ?_ ?_ .agg o.2.len o.2.ones elVo (fun H => hpre2.rds) (vCs_ones _) (by omega) (fun w t => t.head) ?_; kernel_rfl; kernel_rfl; kernel_rfl; kernel_rfl; kernel_rfl; kernel_rfl; kernel_rfl; kernel_rfl 
    intro u wa wb wc 
    refine aB (i := 12) (by kernel_rfl) (aE rfl (ev_append_s (n := i + 1) (m := l.length - i) (bytes := 56) (xs := vCs (l.take i) ++ o.2.cs) (news := vCs (l.drop i)) (K := fun v' => own v' 72 35 (i + 1 + (l.length - i)) (vCs (l.take i) ++ o.2.cs ++ vCs (l.drop i)) :: blk b9 140 (oCs1 o) :: X) rfl rfl elVo (by have h9 := SliceV.rds (H := own u 72 35 (i + 1) (vCs (l.take i) ++ o.2.cs) :: blk b9 140 (oCs1 o) :: X) hsuf; rw [hl2] at h9; exact h9) (vCs_ones _) (by omega) (fun v' => .here)) rfl rfl (fun _ _ _ _ hq w t => by obtain ⟨rfl, _, rfl⟩ := hq; exact t.drop.head) ?_) 
    rintro u3 _ _ _ ⟨rfl, _, rfl⟩ 
    refine aT 13 rfl (ev_qe rfl) rfl rfl ?_ ?_ ?_ ?_; kernel_rfl; kernel_rfl; kernel_rfl 
    refine aD (by kernel_rfl) ?_ 
    (repeat (first|refine zJ rfl rfl ?_|refine jr rfl ?_|refine jn ?_|refine zM rfl rfl ?_|(refine zC rfl rfl ?_ rfl ?_;omega)|(refine zD rfl rfl ?_ rfl ?_;omega)|(refine zP rfl ?_ rfl ?_;omega)|refine zG rfl rfl rfl rfl ?_|(refine jdq rfl rfl ?_ ?_ ?_;kernel_rfl;kernel_rfl)|refine zB rfl rfl rfl (by repeat constructor) rfl ?_|refine zH .here rfl rfl rfl rfl ?_|refine zH (.there .here) rfl rfl rfl rfl ?_|refine zH (.there (.there .here)) rfl rfl rfl rfl ?_)) 
    refine J_persist fun hh hA hd => ?_ 
    have hnew : VR (G.un hh) u3 (insS l o.2) := by 
      have h9 := own_slice hA hd 
      rw [List.append_assoc, ← vCs_cons, ← vCs_app, hins] at h9 
      unfold VR 
      rw [(insS_perm l o.2).length_eq, List.length_cons] 
      rwa [show i + 1 + (l.length - i) = l.length + 1 from by omega] at h9 
    exact J_again3 (j + 1) (G.un hh) u3 ⟨hlt, hG.trans (PH.le_l _ _), by rw [hsn]; exact hnew⟩ (by omega) ⟨⟨rfl, rfl, rfl, rfl, rfl, rfl, trivial⟩, fun w s => s.drop⟩
end Go.Proofs.Ytdoaloimndehbaa
