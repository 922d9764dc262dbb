/-
  An amount shared out by the program. Conditions are typed with each.
-/
import Derived.Test.YtmicjjhkoicdnaaGa
import Derived.Test.YtmicjjhkoicdnaaGb
namespace Go.Proofs.Ytmicjjhkoicdnaa
open Go.RowKit
set_option maxRecDepth 100000
/-- A weight's part: whose, what it has, what the division left. -/
structure Pt where
  at_ : Nat
  q : Int
  r : Int
def Pt.cells (p : Pt) : List Value := [.int .i64 (p.at_ : Int), .int .i64 p.q, .int .i64 p.r]
def zPt : Pt := ⟨0, 0, 0⟩
theorem Pt.len (p : Pt) : p.cells.length = 3 := rfl
theorem Pt.ones (p : Pt) : Ones p.cells := by unfold Pt.cells; (repeat (first | exact ones_nil | refine ones_cons rfl ?_))
theorem elPt : Elem Try.prog 58 60 3 24 (.agg zPt.cells.toArray) := ⟨rfl, ⟨_, rfl, rfl, rfl, rfl, rfl, by decide⟩, rfl, rfl⟩
theorem el64 : Elem Try.prog 22 2 1 8 (.int .i64 0) := ⟨rfl, ⟨_, rfl, rfl, rfl, rfl, rfl, by decide⟩, rfl, rfl⟩
def ptLt (x y : Pt) : Bool := decide (y.r < x.r)
def ptsOf (total sum : Int) (ws : List Int) : List Pt := ws.zipIdx.map fun p => ⟨p.2, total * p.1 / sum, total * p.1 % sum⟩
theorem ptsOf_len (total sum : Int) (ws : List Int) : (ptsOf total sum ws).length = ws.length := by simp [ptsOf]
theorem ptsOf_at {total sum : Int} {ws : List Int} {i : Nat} {w : Int} (h : ws[i]? = some w) : (ptsOf total sum ws)[i]? = some ⟨i, total * w / sum, total * w % sum⟩ := by
  unfold ptsOf
  rw [List.getElem?_map, List.getElem?_zipIdx, h]
  simp
def c1 (x : Int) : List Value := [.int .i64 x]
theorem row_i64s (xs : List Int) : rowC c1 xs = i64s xs := by
  unfold rowC i64s c1
  induction xs with
  | nil => rfl
  | cons x xs ih => simp [ih]
theorem nan_spec (x : Int) (F : PH) : Pure Try.prog 46 [.int .i64 x] F (.bool false) := by
  refine Spec.of1 Try.func46 rfl rfl fun X w0 => ?_
  repeat (first|refine zJ rfl rfl ?_|refine jr rfl ?_|refine jn ?_|refine zM rfl rfl ?_|(refine zC rfl rfl ?_ rfl ?_;omega)|(refine zD rfl rfl ?_ rfl ?_;omega)|(refine zP rfl ?_ rfl ?_;omega)|refine zG rfl rfl rfl rfl ?_|(refine jdq rfl rfl ?_ ?_ ?_;kernel_rfl;kernel_rfl)|refine zB rfl rfl rfl (by repeat constructor) rfl ?_)
  exact J_retv rfl (.tmp rfl .nil) [] (fun w s => s) (PH.ler _) ⟨rfl, rfl⟩
def cmpI (x y : Int) : Int := if x < y then -1 else if y < x then 1 else 0
theorem cmp64_spec (x y : Int) (F : PH) : Pure Try.prog 29 [.int .i64 x, .int .i64 y] F (.int .i64 (cmpI x y)) := by
  have h1 := nan_spec x F
  have h2 := nan_spec y F
  refine Spec.of2 Try.func29 rfl rfl fun X w0 => ?_
  unfold cmpI
  by_cases g1 : x < y
  · rw [if_pos g1]
    repeat (first|refine zJ rfl rfl ?_|refine jr rfl ?_|refine jn ?_|refine zM rfl rfl ?_|(refine zC rfl rfl ?_ rfl ?_;omega)|(refine zD rfl rfl ?_ rfl ?_;omega)|(refine zP rfl ?_ rfl ?_;omega)|refine zG rfl rfl rfl rfl ?_|(refine jdq rfl rfl ?_ ?_ ?_;kernel_rfl;kernel_rfl)|refine zB rfl rfl rfl (by repeat constructor) rfl ?_)
    refine oP (h1) Try.call46 rfl rfl ?_
    repeat (first|refine zJ rfl rfl ?_|refine jr rfl ?_|refine jn ?_|refine zM rfl rfl ?_|(refine zC rfl rfl ?_ rfl ?_;omega)|(refine zD rfl rfl ?_ rfl ?_;omega)|(refine zP rfl ?_ rfl ?_;omega)|refine zG rfl rfl rfl rfl ?_|(refine jdq rfl rfl ?_ ?_ ?_;kernel_rfl;kernel_rfl)|refine zB rfl rfl rfl (by repeat constructor) rfl ?_)
    refine oP (h2) Try.call46 rfl rfl ?_
    repeat (first|refine zJ rfl rfl ?_|refine jr rfl ?_|refine jn ?_|refine zM rfl rfl ?_|(refine zC rfl rfl ?_ rfl ?_;omega)|(refine zD rfl rfl ?_ rfl ?_;omega)|(refine zP rfl ?_ rfl ?_;omega)|refine zG rfl rfl rfl rfl ?_|(refine jdq rfl rfl ?_ ?_ ?_;kernel_rfl;kernel_rfl)|refine zB rfl rfl rfl (by repeat constructor) rfl ?_)
    exact J_retv rfl (.tmp rfl .nil) [] (fun w s => s) (PH.ler _) ⟨rfl, rfl⟩
  rw [if_neg g1]
  by_cases g2 : y < x
  · rw [if_pos g2]
    repeat (first|refine zJ rfl rfl ?_|refine jr rfl ?_|refine jn ?_|refine zM rfl rfl ?_|(refine zC rfl rfl ?_ rfl ?_;omega)|(refine zD rfl rfl ?_ rfl ?_;omega)|(refine zP rfl ?_ rfl ?_;omega)|refine zG rfl rfl rfl rfl ?_|(refine jdq rfl rfl ?_ ?_ ?_;kernel_rfl;kernel_rfl)|refine zB rfl rfl rfl (by repeat constructor) rfl ?_)
    refine oP (h1) Try.call46 rfl rfl ?_
    repeat (first|refine zJ rfl rfl ?_|refine jr rfl ?_|refine jn ?_|refine zM rfl rfl ?_|(refine zC rfl rfl ?_ rfl ?_;omega)|(refine zD rfl rfl ?_ rfl ?_;omega)|(refine zP rfl ?_ rfl ?_;omega)|refine zG rfl rfl rfl rfl ?_|(refine jdq rfl rfl ?_ ?_ ?_;kernel_rfl;kernel_rfl)|refine zB rfl rfl rfl (by repeat constructor) rfl ?_)
    refine oP (h2) Try.call46 rfl rfl ?_
    repeat (first|refine zJ rfl rfl ?_|refine jr rfl ?_|refine jn ?_|refine zM rfl rfl ?_|(refine zC rfl rfl ?_ rfl ?_;omega)|(refine zD rfl rfl ?_ rfl ?_;omega)|(refine zP rfl ?_ rfl ?_;omega)|refine zG rfl rfl rfl rfl ?_|(refine jdq rfl rfl ?_ ?_ ?_;kernel_rfl;kernel_rfl)|refine zB rfl rfl rfl (by repeat constructor) rfl ?_)
    exact J_retv rfl (.tmp rfl .nil) [] (fun w s => s) (PH.ler _) ⟨rfl, rfl⟩
  · rw [if_neg g2]
    repeat (first|refine zJ rfl rfl ?_|refine jr rfl ?_|refine jn ?_|refine zM rfl rfl ?_|(refine zC rfl rfl ?_ rfl ?_;omega)|(refine zD rfl rfl ?_ rfl ?_;omega)|(refine zP rfl ?_ rfl ?_;omega)|refine zG rfl rfl rfl rfl ?_|(refine jdq rfl rfl ?_ ?_ ?_;kernel_rfl;kernel_rfl)|refine zB rfl rfl rfl (by repeat constructor) rfl ?_)
    refine oP (h1) Try.call46 rfl rfl ?_
    repeat (first|refine zJ rfl rfl ?_|refine jr rfl ?_|refine jn ?_|refine zM rfl rfl ?_|(refine zC rfl rfl ?_ rfl ?_;omega)|(refine zD rfl rfl ?_ rfl ?_;omega)|(refine zP rfl ?_ rfl ?_;omega)|refine zG rfl rfl rfl rfl ?_|(refine jdq rfl rfl ?_ ?_ ?_;kernel_rfl;kernel_rfl)|refine zB rfl rfl rfl (by repeat constructor) rfl ?_)
    refine oP (h2) Try.call46 rfl rfl ?_
    repeat (first|refine zJ rfl rfl ?_|refine jr rfl ?_|refine jn ?_|refine zM rfl rfl ?_|(refine zC rfl rfl ?_ rfl ?_;omega)|(refine zD rfl rfl ?_ rfl ?_;omega)|(refine zP rfl ?_ rfl ?_;omega)|refine zG rfl rfl rfl rfl ?_|(refine jdq rfl rfl ?_ ?_ ?_;kernel_rfl;kernel_rfl)|refine zB rfl rfl rfl (by repeat constructor) rfl ?_)
    exact J_retv rfl (.tmp rfl .nil) [] (fun w s => s) (PH.ler _) ⟨rfl, rfl⟩
theorem ptCmp_spec (x y : Pt) (F : PH) : ∃ r : Int, Pure Try.prog 28 [.agg x.cells.toArray, .agg y.cells.toArray] F (.int .i64 r) ∧ (r < 0 ↔ ptLt x y = true) := by
  refine ⟨cmpI y.r x.r, ?_, ?_⟩
  · refine Spec.of2 Try.func28 rfl rfl fun X w0 => ?_
    refine jc rfl rfl ?_
    refine jr rfl ?_
    refine oE (ev_box rfl .agg) rfl ?_; rintro _ _ _ _ ⟨rfl, b1, rfl, rfl⟩
    refine oE (ev_box rfl .agg) rfl ?_; rintro _ _ _ _ ⟨rfl, b2, rfl, rfl⟩
    repeat (first|refine zJ rfl rfl ?_|refine jr rfl ?_|refine jn ?_|refine zM rfl rfl ?_|(refine zC rfl rfl ?_ rfl ?_;omega)|(refine zD rfl rfl ?_ rfl ?_;omega)|(refine zP rfl ?_ rfl ?_;omega)|refine zG rfl rfl rfl rfl ?_|(refine jdq rfl rfl ?_ ?_ ?_;kernel_rfl;kernel_rfl)|refine zB rfl rfl rfl (by repeat constructor) rfl ?_|refine zH .here rfl rfl rfl rfl ?_|refine zH (.there .here) rfl rfl rfl rfl ?_|refine zH (.there (.there .here)) rfl rfl rfl rfl ?_)
    refine oP (cmp64_spec y.r x.r F) Try.call29 rfl rfl ?_
    repeat (first|refine zJ rfl rfl ?_|refine jr rfl ?_|refine jn ?_|refine zM rfl rfl ?_|(refine zC rfl rfl ?_ rfl ?_;omega)|(refine zD rfl rfl ?_ rfl ?_;omega)|(refine zP rfl ?_ rfl ?_;omega)|refine zG rfl rfl rfl rfl ?_|(refine jdq rfl rfl ?_ ?_ ?_;kernel_rfl;kernel_rfl)|refine zB rfl rfl rfl (by repeat constructor) rfl ?_|refine zH .here rfl rfl rfl rfl ?_|refine zH (.there .here) rfl rfl rfl rfl ?_|refine zH (.there (.there .here)) rfl rfl rfl rfl ?_)
    exact J_retv rfl (.tmp rfl .nil) [] (fun w s => s.drop.drop) (PH.ler _) ⟨rfl, rfl⟩
  · unfold cmpI ptLt
    by_cases h : y.r < x.r
    · simp [h]
    · rw [if_neg h]
      by_cases h2 : x.r < y.r
      · rw [if_pos h2]; simp [h]
      · rw [if_neg h2]; simp [h]
theorem set_fill {α : Type} {A : List α} {z x : α} {n i : Nat} (h : A.length = i) (hi : i < n) : (A ++ List.replicate (n - i) z).set i x = (A ++ [x]) ++ List.replicate (n - (i + 1)) z := by
  obtain ⟨k, hk⟩ : ∃ k, n - i = k + 1 := ⟨n - i - 1, by omega⟩
  rw [hk, show n - (i + 1) = k from by omega, List.replicate_succ, List.set_append_right _ _ (by omega), h]
  simp
/-- What the parts come to, place by place: the first so many have one more. -/
def outS (L : List Pt) (left : Int) (n : Nat) : Nat → List Int
  | 0 => List.replicate n 0
  | i + 1 => match L[i]? with
    | none => outS L left n i
    | some p => (outS L left n i).set p.at_ (p.q + if (i : Int) < left then 1 else 0)
theorem outS_len (L : List Pt) (left : Int) (n : Nat) : ∀ i, (outS L left n i).length = n
  | 0 => by simp [outS]
  | i + 1 => by
    unfold outS
    split
    · exact outS_len L left n i
    · rw [List.length_set]; exact outS_len L left n i
theorem outS_succ {L : List Pt} {left : Int} {n i : Nat} {p : Pt} (h : L[i]? = some p) : outS L left n (i + 1) = (outS L left n i).set p.at_ (p.q + if (i : Int) < left then 1 else 0) := by
  show (match L[i]? with | none => _ | some p => _) = _
  rw [h]
def qSum (L : List Pt) : Int := (L.map (·.q)).sum
theorem qSum_snoc (L : List Pt) (p : Pt) : qSum (L ++ [p]) = qSum L + p.q := by simp [qSum]
def splitP (total : Int) (ws : List Int) : List Int × Int :=
  if (chkP total ws).2 ≠ 0 then ([], (chkP total ws).2) else (outS (isortL ptLt (ptsOf total (chkP total ws).1 ws)) (total - qSum (ptsOf total (chkP total ws).1 ws)) ws.length ws.length, 0)
def SplitQ (r : List Int × Int) (u : Value) (F' : PH) (H' : List Asrt) : Prop := H' = [] ∧ ∃ v, u = .tuple #[v, .int .i64 r.2] ∧ Row64 F' v r.1
theorem chkP_ok {total : Int} {ws : List Int} (h : (chkP total ws).2 = 0) : (0 ≤ total ∧ total ≤ 1099511627776) ∧ (∀ w ∈ ws, 0 ≤ w ∧ w ≤ 65536) ∧ ws.length ≤ 16 ∧ 0 < ws.length ∧ (chkP total ws).1 = ws.sum ∧ 1 ≤ ws.sum ∧ ws.sum ≤ 1048576 := by
  unfold chkP at h ⊢
  split at h
  · cases h
  rename_i h1
  rw [if_neg h1]
  split at h
  · cases h
  rename_i h2
  rw [if_neg h2]
  split at h
  · cases h
  rename_i h3
  rw [if_neg h3]
  have hm : moneyB total = true := by cases hb : moneyB total with | true => rfl | false => exact absurd (.inl hb) h1
  have ho : ws.any oddW = false := by cases hb : ws.any oddW with | false => rfl | true => exact absurd (.inr hb) h1
  have hw := notOdd ho
  have hs := sum_le hw
  refine ⟨of_decide_eq_true hm, hw, by omega, ?_, rfl, ?_, by omega⟩
  · rcases Nat.eq_zero_or_pos ws.length with h0 | h0
    · rw [List.eq_nil_of_length_eq_zero h0] at h3; exact absurd rfl h3
    · exact h0
  · have : ws.sum ≠ 0 := h3
    omega
theorem part_bounds {total sum w : Int} (ht : 0 ≤ total ∧ total ≤ 1099511627776) (hw : 0 ≤ w ∧ w ≤ 65536) (hs : 1 ≤ sum) : (0 ≤ total * w ∧ total * w ≤ 72057594037927936) ∧ (0 ≤ total * w / sum ∧ total * w / sum ≤ 72057594037927936) ∧ 0 ≤ total * w % sum ∧ total * w % sum < sum := by
  have h1 := prod_le ht.1 hw.1 ht.2 hw.2
  rw [show (1099511627776 : Int) * 65536 = 72057594037927936 from by decide] at h1
  have h2 : total * w / sum ≤ total * w := Int.ediv_le_self _ h1.1
  have h3 : 0 ≤ total * w / sum := Int.ediv_nonneg h1.1 (by omega)
  exact ⟨h1, ⟨h3, by omega⟩, Int.emod_nonneg _ (by omega), Int.emod_lt_of_pos _ (by omega)⟩
theorem qSum_bounds {total sum : Int} {ws : List Int} (ht : 0 ≤ total ∧ total ≤ 1099511627776) (hw : ∀ w ∈ ws, 0 ≤ w ∧ w ≤ 65536) (hs : 1 ≤ sum) : ∀ i, i ≤ ws.length → 0 ≤ qSum ((ptsOf total sum ws).take i) ∧ qSum ((ptsOf total sum ws).take i) ≤ i * 72057594037927936
  | 0, _ => by simp [qSum]
  | i + 1, hi => by
    have ih := qSum_bounds ht hw hs i (by omega)
    have hg : ws[i]? = some ws[i] := List.getElem?_eq_getElem (by omega)
    have hb := part_bounds ht (hw _ (List.getElem_mem (show i < ws.length by omega))) hs
    rw [take_snoc (ptsOf_at (total := total) (sum := sum) hg), qSum_snoc]
    dsimp only
    push_cast
    omega
set_option maxHeartbeats 32000000 in
theorem split_spec (total : Int) (v : Value) (ws : List Int) (F : PH) (h : Row64 F v ws) (hx : InK .i64 total) (hl : ws.length ≤ 1048576) : Spec Try.prog 9 [.int .i64 total, v] F [] (SplitQ (splitP total ws)) := by
  have hck := check_spec total v ws F h hx hl
  have hok := @chkP_ok total ws
  obtain ⟨a, c, rfl, hc⟩ := h.form
  refine Spec.of2 Try.func9 rfl rfl fun X w0 => ?_
  unfold splitP
  generalize chkP total ws = ck at *
  obtain ⟨sum, e⟩ := ck
  dsimp only at *
  by_cases he : e ≠ 0
  · rw [if_pos he]
    repeat (first|refine zJ rfl rfl ?_|refine jr rfl ?_|refine jn ?_|refine zM rfl rfl ?_|(refine zC rfl rfl ?_ rfl ?_;omega)|(refine zD rfl rfl ?_ rfl ?_;omega)|(refine zP rfl ?_ rfl ?_;omega)|refine zG rfl rfl rfl rfl ?_|(refine jdq rfl rfl ?_ ?_ ?_;kernel_rfl;kernel_rfl)|refine zB rfl rfl rfl (by repeat constructor) rfl ?_)
    refine oP (hck) Try.call26 rfl rfl ?_
    repeat (first|refine zJ rfl rfl ?_|refine jr rfl ?_|refine jn ?_|refine zM rfl rfl ?_|(refine zC rfl rfl ?_ rfl ?_;omega)|(refine zD rfl rfl ?_ rfl ?_;omega)|(refine zP rfl ?_ rfl ?_;omega)|refine zG rfl rfl rfl rfl ?_|(refine jdq rfl rfl ?_ ?_ ?_;kernel_rfl;kernel_rfl)|refine zB rfl rfl rfl (by repeat constructor) rfl ?_)
    exact J_retv rfl (.tmp rfl (.tmp rfl .nil)) [] (fun w s => s) (PH.ler _) ⟨rfl, _, rfl, SliceV.nil _ _⟩
  obtain rfl : e = 0 := by omega
  obtain ⟨ht, hws, h16, h0, rfl, hs1, hs2⟩ := hok rfl
  rw [if_neg (by simp)]
  generalize hS : ws.sum = sum at *
  have hpl := ptsOf_len total sum ws
  generalize hn : ws.length = n at *
  repeat (first|refine zJ rfl rfl ?_|refine jr rfl ?_|refine jn ?_|refine zM rfl rfl ?_|(refine zC rfl rfl ?_ rfl ?_;omega)|(refine zD rfl rfl ?_ rfl ?_;omega)|(refine zP rfl ?_ rfl ?_;omega)|refine zG rfl rfl rfl rfl ?_|(refine jdq rfl rfl ?_ ?_ ?_;kernel_rfl;kernel_rfl)|refine zB rfl rfl rfl (by repeat constructor) rfl ?_)
  refine oP (hck) Try.call26 rfl rfl ?_
  repeat (first|refine zJ rfl rfl ?_|refine jr rfl ?_|refine jn ?_|refine zM rfl rfl ?_|(refine zC rfl rfl ?_ rfl ?_;omega)|(refine zD rfl rfl ?_ rfl ?_;omega)|(refine zP rfl ?_ rfl ?_;omega)|refine zG rfl rfl rfl rfl ?_|(refine jdq rfl rfl ?_ ?_ ?_;kernel_rfl;kernel_rfl)|refine zB rfl rfl rfl (by repeat constructor) rfl ?_)
  refine oE (ev_make_full (c := n) rfl rfl elPt (by omega)) rfl ?_
  rintro _ _ _ _ ⟨rfl, ⟨b1, rfl⟩, rfl⟩
  repeat (first|refine zJ rfl rfl ?_|refine jr rfl ?_|refine jn ?_|refine zM rfl rfl ?_|(refine zC rfl rfl ?_ rfl ?_;omega)|(refine zD rfl rfl ?_ rfl ?_;omega)|(refine zP rfl ?_ rfl ?_;omega)|refine zG rfl rfl rfl rfl ?_|(refine jdq rfl rfl ?_ ?_ ?_;kernel_rfl;kernel_rfl)|refine zB rfl rfl rfl (by repeat constructor) rfl ?_)
  refine J_loop (ι := Nat) (fun i => i ≤ n) (fun i => n - i) (fun i => [(0, .int .i64 total), (1, .slice a n c), (6, .int .i64 sum), (8, .slice (some ⟨b1, 0, none⟩) n n), (9, .int .i64 (total - qSum ((ptsOf total sum ws).take i))), (28, .slice a n c), (29, .int .i64 n), (30, .int .i64 i)]) (fun _ => F) (fun i => own (.slice (some ⟨b1, 0, none⟩) n n) 60 3 n (rowC Pt.cells ((ptsOf total sum ws).take i ++ List.replicate (n - i) zPt)) :: X) 0 (Nat.zero_le _) ⟨⟨rfl, rfl, rfl, rfl, by simp [qSum]; rfl, rfl, rfl, rfl, trivial⟩, fun w s => ?_⟩ ?_
  · have e : rowC Pt.cells (([] : List Pt) ++ List.replicate (n - 0) zPt) = (List.replicate n ((Value.agg zPt.cells.toArray).cells.toList)).flatten := by
      unfold rowC
      rw [List.nil_append, List.map_replicate]
      rfl
    rw [List.take_zero, e]
    exact s
  intro i hi
  by_cases hlt : i < n
  · have hg : ws[i]? = some (ws[i]'(by omega)) := List.getElem?_eq_getElem _
    have hwi := hws _ (List.getElem_mem (by omega : i < ws.length))
    have hb := part_bounds ht hwi hs1
    have hq := qSum_bounds (total := total) (sum := sum) ht hws hs1 i (by omega)
    have hpt := ptsOf_at (total := total) (sum := sum) hg
    have htk := take_snoc hpt
    obtain ⟨bw, ow, hab, hcc, _⟩ := h.at hg
    subst hab
    have hsn := qSum_snoc ((ptsOf total sum ws).take i) ⟨i, total * ws[i] / sum, total * ws[i] % sum⟩
    rw [← htk] at hsn
    dsimp only at hsn
    have hfill := set_fill (A := (ptsOf total sum ws).take i) (z := zPt) (x := ⟨i, total * ws[i] / sum, total * ws[i] % sum⟩) (n := n) (i := i) (by rw [List.length_take]; omega) hlt
    rw [← htk] at hfill
    have hqi : qSum ((ptsOf total sum ws).take i) ≤ 16 * 72057594037927936 := by omega
    generalize qSum ((ptsOf total sum ws).take i) = Q at *
    generalize ws[i] = w at *
    have hil : ((ptsOf total sum ws).take i ++ List.replicate (n - i) zPt).length = n := by simp; omega
    repeat (first|refine zJ rfl rfl ?_|refine jr rfl ?_|refine jn ?_|refine zM rfl rfl ?_|(refine zC rfl rfl ?_ rfl ?_;omega)|(refine zD rfl rfl ?_ rfl ?_;omega)|(refine zP rfl ?_ rfl ?_;omega)|refine zG rfl rfl rfl rfl ?_|(refine jdq rfl rfl ?_ ?_ ?_;kernel_rfl;kernel_rfl)|refine zB rfl rfl rfl (by repeat constructor) rfl ?_)
    refine oS (ev_indexAddr rfl rfl rfl hlt) rfl ?_
    refine oS (ev_load rfl rfl (Rdb.ofF hcc)) rfl ?_
    repeat (first|refine zJ rfl rfl ?_|refine jr rfl ?_|refine jn ?_|refine zM rfl rfl ?_|(refine zC rfl rfl ?_ rfl ?_;omega)|(refine zD rfl rfl ?_ rfl ?_;omega)|(refine zP rfl ?_ rfl ?_;omega)|refine zG rfl rfl rfl rfl ?_|(refine jdq rfl rfl ?_ ?_ ?_;kernel_rfl;kernel_rfl)|refine zB rfl rfl rfl (by repeat constructor) rfl ?_)
    refine ja F [] ?_ ?_ ?_; kernel_rfl
    · exact fun w s => s.bare
    refine aT 0 rfl (ev_pv rfl) rfl rfl ?_ ?_ ?_ ?_; kernel_rfl; kernel_rfl; kernel_rfl
    refine aT 1 rfl (ev_pv rfl) rfl rfl ?_ ?_ ?_ ?_; kernel_rfl; kernel_rfl; kernel_rfl
    refine aT 2 rfl (ev_pv rfl) rfl rfl ?_ ?_ ?_ ?_; kernel_rfl; kernel_rfl; kernel_rfl
    refine aT 3 rfl (ev_pv rfl) rfl rfl ?_ ?_ ?_ ?_; kernel_rfl; kernel_rfl; kernel_rfl
    refine aT 4 rfl (ev_pv rfl) rfl rfl ?_ ?_ ?_ ?_; kernel_rfl; kernel_rfl; kernel_rfl
    refine aT 5 rfl (ea rfl rfl rfl (by dsimp only [InK]; omega)) rfl rfl ?_ ?_ ?_ ?_; kernel_rfl; kernel_rfl; kernel_rfl
    refine aT 6 rfl (ev_pv rfl) rfl rfl ?_ ?_ ?_ ?_; kernel_rfl; kernel_rfl; kernel_rfl
    refine aT 7 rfl (ed rfl rfl rfl hb.1.1 hs1 (by dsimp only [InK]; omega)) rfl rfl ?_ ?_ ?_ ?_; kernel_rfl; kernel_rfl; kernel_rfl
    refine aT 8 rfl (ev_pv rfl) rfl rfl ?_ ?_ ?_ ?_; kernel_rfl; kernel_rfl; kernel_rfl
    refine aT 9 rfl (ev_pv rfl) rfl rfl ?_ ?_ ?_ ?_; kernel_rfl; kernel_rfl; kernel_rfl
    refine aT 10 rfl (ea rfl rfl rfl (by dsimp only [InK]; omega)) rfl rfl ?_ ?_ ?_ ?_; kernel_rfl; kernel_rfl; kernel_rfl
    refine aT 11 rfl (ev_pv rfl) rfl rfl ?_ ?_ ?_ ?_; kernel_rfl; kernel_rfl; kernel_rfl
    refine aT 12 rfl (ed rfl rfl rfl hb.1.1 hs1 (by dsimp only [InK]; omega)) rfl rfl ?_ ?_ ?_ ?_; kernel_rfl; kernel_rfl; kernel_rfl
    refine aT 13 rfl (ev_build (t := Pt.cells ⟨i, total * w / sum, total * w % sum⟩) rfl rfl rfl (by repeat (first | exact FillF.nil | refine FillF.cons (by constructor) rfl rfl (by repeat constructor) ?_))) rfl rfl ?_ ?_ ?_ ?_; kernel_rfl; kernel_rfl; kernel_rfl
    refine aT 14 rfl (ev_indexAddr (i := i) rfl rfl rfl hlt) rfl rfl ?_ ?_ ?_ ?_; kernel_rfl; kernel_rfl; kernel_rfl
    refine aB (i := 15) (by kernel_rfl) (aN rfl (ev_store_own rfl rfl .agg rfl rfl (by rw [Nat.zero_add]; exact lay_row Pt.len _ _ i (by omega)) (Pt.ones _) .here) rfl (fun _ _ _ _ hq w s => by obtain ⟨rfl, _⟩ := hq; exact s.bare) ?_)
    rintro _ _ _ _ ⟨rfl, _, rfl⟩
    rw [hfill]
    refine aD (by kernel_rfl) ?_
    repeat (first|refine zJ rfl rfl ?_|refine jr rfl ?_|refine jn ?_|refine zM rfl rfl ?_|(refine zC rfl rfl ?_ rfl ?_;omega)|(refine zD rfl rfl ?_ rfl ?_;omega)|(refine zP rfl ?_ rfl ?_;omega)|refine zG rfl rfl rfl rfl ?_|(refine jdq rfl rfl ?_ ?_ ?_;kernel_rfl;kernel_rfl)|refine zB rfl rfl rfl (by repeat constructor) rfl ?_)
    refine oS (ev_indexAddr (i := i) rfl rfl rfl hlt) rfl ?_
    repeat (first|refine zJ rfl rfl ?_|refine jr rfl ?_|refine jn ?_|refine zM rfl rfl ?_|(refine zC rfl rfl ?_ rfl ?_;omega)|(refine zD rfl rfl ?_ rfl ?_;omega)|(refine zP rfl ?_ rfl ?_;omega)|refine zG rfl rfl rfl rfl ?_|(refine jdq rfl rfl ?_ ?_ ?_;kernel_rfl;kernel_rfl)|refine zB rfl rfl rfl (by repeat constructor) rfl ?_)
    refine oS (ev_load (v := .int .i64 (total * w / sum)) rfl rfl ?_) rfl ?_
    · have hz := Rdb.take (rdb_row (F := F) (cs := Pt.cells) (j := i) (z := ⟨i, total * w / sum, total * w % sum⟩) (.here (A := own (.slice (some ⟨b1, 0, none⟩) n n) 60 3 n (rowC Pt.cells ((ptsOf total sum ws).take (i + 1) ++ List.replicate (n - (i + 1)) zPt))) (H := X)) Pt.len (by rw [← hfill, List.getElem?_set_self (by omega)])) 1 1
      exact hz
    repeat (first|refine zJ rfl rfl ?_|refine jr rfl ?_|refine jn ?_|refine zM rfl rfl ?_|(refine zC rfl rfl ?_ rfl ?_;omega)|(refine zD rfl rfl ?_ rfl ?_;omega)|(refine zP rfl ?_ rfl ?_;omega)|refine zG rfl rfl rfl rfl ?_|(refine jdq rfl rfl ?_ ?_ ?_;kernel_rfl;kernel_rfl)|refine zB rfl rfl rfl (by repeat constructor) rfl ?_)
    refine J_again (i + 1) hlt (by omega) ⟨⟨rfl, rfl, rfl, rfl, ?_, rfl, rfl, rfl, trivial⟩, fun w s => s⟩
    rw [hsn, show total - (Q + total * w / sum) = total - Q - total * w / sum from by omega]
    rfl
  obtain rfl : i = n := by omega
  rw [show (ptsOf total sum ws).take i = ptsOf total sum ws from List.take_of_length_le (by omega), Nat.sub_self, List.replicate_zero, List.append_nil]
  have hsp := isortL_perm ptLt (ptsOf total sum ws)
  have hqb := qSum_bounds (total := total) (sum := sum) ht hws hs1 i (by omega)
  rw [show (ptsOf total sum ws).take i = ptsOf total sum ws from List.take_of_length_le (by omega)] at hqb
  repeat (first|refine zJ rfl rfl ?_|refine jr rfl ?_|refine jn ?_|refine zM rfl rfl ?_|(refine zC rfl rfl ?_ rfl ?_;omega)|(refine zD rfl rfl ?_ rfl ?_;omega)|(refine zP rfl ?_ rfl ?_;omega)|refine zG rfl rfl rfl rfl ?_|(refine jdq rfl rfl ?_ ?_ ?_;kernel_rfl;kernel_rfl)|refine zB rfl rfl rfl (by repeat constructor) rfl ?_)
  refine oC (Hc := [own (.slice (some ⟨b1, 0, none⟩) i i) 60 3 i (rowC Pt.cells (ptsOf total sum ws))]) (Hr := X) (pt_sort Pt.cells Pt.len Pt.ones ptLt 28 Try.call28 ptCmp_spec _ i i (ptsOf total sum ws) F hpl (by omega) (fun _ => ⟨b1, rfl⟩)) Try.call27 rfl rfl (fun _ s => s) ?_
  rintro _ _ _ _ ⟨rfl, rfl⟩
  have hLl : (isortL ptLt (ptsOf total sum ws)).length = i := by rw [hsp.length_eq, hpl]
  have hat : ∀ p ∈ isortL ptLt (ptsOf total sum ws), p.at_ < i ∧ 0 ≤ p.q ∧ p.q ≤ 72057594037927936 := fun p hp => by
    have hp2 := hsp.mem_iff.1 hp
    obtain ⟨j, hj, rfl⟩ := List.getElem_of_mem hp2
    have hg : ws[j]? = some (ws[j]'(by omega)) := List.getElem?_eq_getElem _
    have h1 := ptsOf_at (total := total) (sum := sum) hg
    rw [List.getElem?_eq_getElem hj] at h1
    have h2 := Option.some.inj h1
    have hb := part_bounds ht (hws _ (List.getElem_mem (by omega : j < ws.length))) hs1
    rw [h2]
    exact ⟨by dsimp only; omega, hb.2.1⟩
  generalize isortL ptLt (ptsOf total sum ws) = L at *
  generalize qSum (ptsOf total sum ws) = Q at *
  repeat (first|refine zJ rfl rfl ?_|refine jr rfl ?_|refine jn ?_|refine zM rfl rfl ?_|(refine zC rfl rfl ?_ rfl ?_;omega)|(refine zD rfl rfl ?_ rfl ?_;omega)|(refine zP rfl ?_ rfl ?_;omega)|refine zG rfl rfl rfl rfl ?_|(refine jdq rfl rfl ?_ ?_ ?_;kernel_rfl;kernel_rfl)|refine zB rfl rfl rfl (by repeat constructor) rfl ?_)
  refine oE (ev_make_full (c := i) rfl rfl el64 (by omega)) rfl ?_
  rintro _ _ _ _ ⟨rfl, ⟨b2, rfl⟩, rfl⟩
  repeat (first|refine zJ rfl rfl ?_|refine jr rfl ?_|refine jn ?_|refine zM rfl rfl ?_|(refine zC rfl rfl ?_ rfl ?_;omega)|(refine zD rfl rfl ?_ rfl ?_;omega)|(refine zP rfl ?_ rfl ?_;omega)|refine zG rfl rfl rfl rfl ?_|(refine jdq rfl rfl ?_ ?_ ?_;kernel_rfl;kernel_rfl)|refine zB rfl rfl rfl (by repeat constructor) rfl ?_)
  refine J_loop (ι := Nat) (fun j => j ≤ i) (fun j => i - j) (fun j => [(8, .slice (some ⟨b1, 0, none⟩) i i), (9, .int .i64 (total - Q)), (12, .slice (some ⟨b2, 0, none⟩) i i), (63, .slice (some ⟨b1, 0, none⟩) i i), (64, .int .i64 i), (65, .int .i64 j)]) (fun _ => F) (fun j => own (.slice (some ⟨b2, 0, none⟩) i i) 2 1 i (rowC c1 (outS L (total - Q) i j)) :: own (.slice (some ⟨b1, 0, none⟩) i i) 60 3 i (rowC Pt.cells L) :: X) 0 (Nat.zero_le _) ⟨⟨rfl, rfl, rfl, rfl, rfl, rfl, trivial⟩, fun w s => ?_⟩ ?_
  · have e : rowC c1 (outS L (total - Q) i 0) = (List.replicate i ((Value.int .i64 0).cells.toList)).flatten := by
      unfold rowC
      show ((List.replicate i (0 : Int)).map c1).flatten = _
      rw [List.map_replicate]
      rfl
    rw [e]
    exact s
  intro j hj
  by_cases hlt : j < i
  · have hg : L[j]? = some (L[j]'(by omega)) := List.getElem?_eq_getElem _
    have hpa := hat _ (List.getElem_mem (by omega : j < L.length))
    have hout := outS_succ (left := total - Q) (n := i) hg
    have hol := outS_len L (total - Q) i j
    generalize L[j]'(by omega) = p at *
    have hq1 := hpa.2
    repeat (first|refine zJ rfl rfl ?_|refine jr rfl ?_|refine jn ?_|refine zM rfl rfl ?_|(refine zC rfl rfl ?_ rfl ?_;omega)|(refine zD rfl rfl ?_ rfl ?_;omega)|(refine zP rfl ?_ rfl ?_;omega)|refine zG rfl rfl rfl rfl ?_|(refine jdq rfl rfl ?_ ?_ ?_;kernel_rfl;kernel_rfl)|refine zB rfl rfl rfl (by repeat constructor) rfl ?_)
    refine oS (ev_indexAddr (i := j) rfl rfl rfl hlt) rfl ?_
    refine oS (ev_load_agg (cs := p.cells) rfl rfl (rdb_row (.there .here) Pt.len hg) rfl) rfl ?_
    refine oE (ev_alloc (cs := zPt.cells) rfl) rfl ?_
    rintro _ _ _ _ ⟨rfl, b4, rfl, rfl⟩
    repeat (first|refine zJ rfl rfl ?_|refine jr rfl ?_|refine jn ?_|refine zM rfl rfl ?_|(refine zC rfl rfl ?_ rfl ?_;omega)|(refine zD rfl rfl ?_ rfl ?_;omega)|(refine zP rfl ?_ rfl ?_;omega)|refine zG rfl rfl rfl rfl ?_|(refine jdq rfl rfl ?_ ?_ ?_;kernel_rfl;kernel_rfl)|refine zB rfl rfl rfl (by repeat constructor) rfl ?_)
    refine oN (ev_store (b := b4) rfl rfl .agg rfl rfl (lay_all (zs := zPt.cells) rfl) p.ones .here) rfl ?_
    rintro _ _ _ _ ⟨rfl, _, rfl⟩
    repeat (first|refine zJ rfl rfl ?_|refine jr rfl ?_|refine jn ?_|refine zM rfl rfl ?_|(refine zC rfl rfl ?_ rfl ?_;omega)|(refine zD rfl rfl ?_ rfl ?_;omega)|(refine zP rfl ?_ rfl ?_;omega)|refine zG rfl rfl rfl rfl ?_|(refine jdq rfl rfl ?_ ?_ ?_;kernel_rfl;kernel_rfl)|refine zB rfl rfl rfl (by repeat constructor) rfl ?_|refine zH .here rfl rfl rfl rfl ?_|refine zH (.there .here) rfl rfl rfl rfl ?_|refine zH (.there (.there .here)) rfl rfl rfl rfl ?_)
    refine oS (ev_indexAddr (i := p.at_) rfl rfl rfl hpa.1) rfl ?_
    refine oN (ev_store_own (vs := c1 p.q) rfl rfl .int rfl rfl (by rw [Nat.zero_add]; exact lay_row (cs := c1) (fun _ => rfl) p.q (outS L (total - Q) i j) p.at_ (by omega)) (ones_cons rfl ones_nil) (.there .here)) rfl ?_
    rintro _ _ _ _ ⟨rfl, _, rfl⟩
    by_cases hleft : (j : Int) < total - Q
    · rw [if_pos hleft] at hout
      repeat (first|refine zJ rfl rfl ?_|refine jr rfl ?_|refine jn ?_|refine zM rfl rfl ?_|(refine zC rfl rfl ?_ rfl ?_;omega)|(refine zD rfl rfl ?_ rfl ?_;omega)|(refine zP rfl ?_ rfl ?_;omega)|refine zG rfl rfl rfl rfl ?_|(refine jdq rfl rfl ?_ ?_ ?_;kernel_rfl;kernel_rfl)|refine zB rfl rfl rfl (by repeat constructor) rfl ?_|refine zH .here rfl rfl rfl rfl ?_|refine zH (.there .here) rfl rfl rfl rfl ?_|refine zH (.there (.there .here)) rfl rfl rfl rfl ?_)
      refine oS (ev_indexAddr (i := p.at_) rfl rfl rfl hpa.1) rfl ?_
      refine oS (ev_load (v := .int .i64 p.q) rfl rfl (rdb_row (cs := c1) (.there .here) (fun _ => rfl) (List.getElem?_set_self (by omega)))) rfl ?_
      repeat (first|refine zJ rfl rfl ?_|refine jr rfl ?_|refine jn ?_|refine zM rfl rfl ?_|(refine zC rfl rfl ?_ rfl ?_;omega)|(refine zD rfl rfl ?_ rfl ?_;omega)|(refine zP rfl ?_ rfl ?_;omega)|refine zG rfl rfl rfl rfl ?_|(refine jdq rfl rfl ?_ ?_ ?_;kernel_rfl;kernel_rfl)|refine zB rfl rfl rfl (by repeat constructor) rfl ?_|refine zH .here rfl rfl rfl rfl ?_|refine zH (.there .here) rfl rfl rfl rfl ?_|refine zH (.there (.there .here)) rfl rfl rfl rfl ?_)
      refine oS (ev_indexAddr (i := p.at_) rfl rfl rfl hpa.1) rfl ?_
      refine oN (ev_store_own (vs := c1 (p.q + 1)) rfl rfl .int rfl rfl (by rw [Nat.zero_add]; exact lay_row (cs := c1) (fun _ => rfl) (p.q + 1) ((outS L (total - Q) i j).set p.at_ p.q) p.at_ (by rw [List.length_set]; omega)) (ones_cons rfl ones_nil) (.there .here)) rfl ?_
      rintro _ _ _ _ ⟨rfl, _, rfl⟩
      rw [List.set_set, ← hout]
      repeat (first|refine zJ rfl rfl ?_|refine jr rfl ?_|refine jn ?_|refine zM rfl rfl ?_|(refine zC rfl rfl ?_ rfl ?_;omega)|(refine zD rfl rfl ?_ rfl ?_;omega)|(refine zP rfl ?_ rfl ?_;omega)|refine zG rfl rfl rfl rfl ?_|(refine jdq rfl rfl ?_ ?_ ?_;kernel_rfl;kernel_rfl)|refine zB rfl rfl rfl (by repeat constructor) rfl ?_|refine zH .here rfl rfl rfl rfl ?_|refine zH (.there .here) rfl rfl rfl rfl ?_|refine zH (.there (.there .here)) rfl rfl rfl rfl ?_)
      exact J_again (j + 1) hlt (by omega) ⟨⟨rfl, rfl, rfl, rfl, rfl, rfl, trivial⟩, fun w s => s.drop⟩
    · rw [if_neg hleft, Int.add_zero] at hout
      rw [← hout]
      repeat (first|refine zJ rfl rfl ?_|refine jr rfl ?_|refine jn ?_|refine zM rfl rfl ?_|(refine zC rfl rfl ?_ rfl ?_;omega)|(refine zD rfl rfl ?_ rfl ?_;omega)|(refine zP rfl ?_ rfl ?_;omega)|refine zG rfl rfl rfl rfl ?_|(refine jdq rfl rfl ?_ ?_ ?_;kernel_rfl;kernel_rfl)|refine zB rfl rfl rfl (by repeat constructor) rfl ?_|refine zH .here rfl rfl rfl rfl ?_|refine zH (.there .here) rfl rfl rfl rfl ?_|refine zH (.there (.there .here)) rfl rfl rfl rfl ?_)
      exact J_again (j + 1) hlt (by omega) ⟨⟨rfl, rfl, rfl, rfl, rfl, rfl, trivial⟩, fun w s => s.drop⟩
  · obtain rfl : j = i := by omega
    refine J_persist fun hh hA hd => ?_
    have hrow : Row64 (PH.un F hh) (.slice (some ⟨b2, 0, none⟩) j j) (outS L (total - Q) j j) := by
      have hs := own_slice hA hd
      rw [row_i64s] at hs
      unfold Row64
      rw [outS_len]
      exact hs
    repeat (first|refine zJ rfl rfl ?_|refine jr rfl ?_|refine jn ?_|refine zM rfl rfl ?_|(refine zC rfl rfl ?_ rfl ?_;omega)|(refine zD rfl rfl ?_ rfl ?_;omega)|(refine zP rfl ?_ rfl ?_;omega)|refine zG rfl rfl rfl rfl ?_|(refine jdq rfl rfl ?_ ?_ ?_;kernel_rfl;kernel_rfl)|refine zB rfl rfl rfl (by repeat constructor) rfl ?_)
    exact J_retv rfl (.tmp rfl (.tmp rfl .nil)) [] (fun w s => s.drop) (PH.le_l _ _) ⟨rfl, _, rfl, hrow⟩
end Go.Proofs.Ytmicjjhkoicdnaa
