/-
  Which request bytes tell, by the program. Conditions are typed with each.
-/
import Derived.Test.YtaggonhgafggkaaRe
namespace Go.Proofs.Ytaggonhgafggkaa
open Go.RowKit
set_option maxRecDepth 100000
/-- So many endorsements, one behind the other: the error, what is left, they. -/
def endsR (n : Nat) (e : Int) (bs : List UInt8) : Nat → Int × List UInt8 × List En
  | 0 => (e, bs, [])
  | j + 1 => ((oneR n (endsR n e bs j).1 (endsR n e bs j).2.1).2.1, (oneR n (endsR n e bs j).1 (endsR n e bs j).2.1).2.2, (endsR n e bs j).2.2 ++ [(oneR n (endsR n e bs j).1 (endsR n e bs j).2.1).1])
theorem endsR_succ (n : Nat) (e : Int) (bs : List UInt8) (j : Nat) : endsR n e bs (j + 1) = ((oneR n (endsR n e bs j).1 (endsR n e bs j).2.1).2.1, (oneR n (endsR n e bs j).1 (endsR n e bs j).2.1).2.2, (endsR n e bs j).2.2 ++ [(oneR n (endsR n e bs j).1 (endsR n e bs j).2.1).1]) := rfl
theorem endsR_rest (n : Nat) (e : Int) (bs : List UInt8) (j : Nat) : (endsR n e bs j).2.1.length ≤ bs.length := by
  induction j with
  | zero => exact Nat.le_refl _
  | succ j ih => rw [endsR_succ]; exact Nat.le_trans (oneR_rest _ _ _) ih
theorem endsR_len (n : Nat) (e : Int) (bs : List UInt8) (j : Nat) : (endsR n e bs j).2.2.length = j := by
  induction j with
  | zero => rfl
  | succ j ih => rw [endsR_succ]; simp [ih]
theorem endsR_stuck {n : Nat} {e : Int} {bs : List UInt8} {j : Nat} (h : (endsR n e bs j).1 ≠ 0) : ∀ i, (endsR n e bs (j + i)).1 ≠ 0
  | 0 => h
  | i + 1 => by
    have := endsR_stuck h i
    rw [← Nat.add_assoc, endsR_succ]
    dsimp only
    rw [oneR_stick this]
    exact this
/-- Is the endorsement at a place odd: of no organisation, or not behind the one before? -/
def oddE (n : Int) (es : List En) (i : Nat) : Bool := match es[i]? with
  | none => false
  | some e => decide (n ≤ e.1) || (match i with
    | 0 => false
    | k + 1 => match es[k]? with
      | none => false
      | some p => decide (e.1 ≤ p.1))
def oddEs (n : Int) (es : List En) : Bool := (List.range es.length).any (oddE n es)
theorem oddE_app {n : Int} {es : List En} {x : En} {i : Nat} (h : i < es.length) : oddE n (es ++ [x]) i = oddE n es i := by
  unfold oddE
  rw [List.getElem?_append_left h]
  cases i with
  | zero => rfl
  | succ k => dsimp only; rw [List.getElem?_append_left (by omega)]
theorem any_congr {α : Type} {p q : α → Bool} : ∀ {l : List α}, (∀ x ∈ l, p x = q x) → l.any p = l.any q
  | [], _ => rfl
  | x :: l, h => by rw [List.any_cons, List.any_cons, h x List.mem_cons_self, any_congr fun y hy => h y (List.mem_cons_of_mem _ hy)]
theorem oddEs_snoc {n : Int} {es : List En} {x : En} : oddEs n (es ++ [x]) = (oddEs n es || oddE n (es ++ [x]) es.length) := by
  unfold oddEs
  rw [List.length_append, List.length_singleton, List.range_succ, List.any_append]
  congr 1
  · exact any_congr fun i hi => oddE_app (List.mem_range.1 hi)
  · simp
theorem oddE_0 {n : Int} {x : En} : oddE n ([] ++ [x]) ([] : List En).length = decide (n ≤ x.1) := by unfold oddE; simp
theorem oddE_S {n : Int} {es : List En} {x p : En} {k : Nat} (hl : es.length = k + 1) (hp : es[k]? = some p) : oddE n (es ++ [x]) es.length = (decide (n ≤ x.1) || decide (x.1 ≤ p.1)) := by
  unfold oddE
  rw [List.getElem?_append_right (Nat.le_refl _), Nat.sub_self, hl]
  dsimp only [List.getElem?_cons_zero]
  rw [List.getElem?_append_left (by omega), hp]
/-- A request read: it, and the error. -/
def reqM (m : Int) (bs : List UInt8) (n : Int) : (Cr × List En) × Int :=
  let c := rowR 0 bs m
  let k := cntR c.2.1 c.2.2 n
  let t := endsR n.toNat k.2.1 k.2.2 k.1.toNat
  if endR t.1 t.2.1 ≠ 0 ∨ oddEs n t.2.2 = true then ((Cr.zero, []), 2) else if (coreP c.1 n).2 ≠ 0 then ((Cr.zero, []), (coreP c.1 n).2) else (((coreP c.1 n).1, t.2.2), 0)
def reqP (bs : List UInt8) (n : Int) : (Cr × List En) × Int := if n < 1 ∨ 7 < n then ((Cr.zero, []), 1) else reqM bs.length bs n
def reqC (c : Cr) (v : Value) : List Value := c.cells ++ [v]
abbrev zReq : List Value := [.int .i64 0, .int .i64 0, .int .i64 0, .string (strOf []), .int .i64 0, .int .i64 0, .string (strOf []), .slice none 0 0]
def ReqQ (r : (Cr × List En) × Int) (u : Value) (F' : PH) (H' : List Asrt) : Prop := H' = [] ∧ ∃ vE, u = .tuple #[.agg (reqC r.1.1 vE).toArray, .int .i64 r.2] ∧ RowV tyEn F' vE r.1.2
theorem ones_req (c : Cr) (a : Option Addr) (n k : Nat) : Ones (reqC c (.slice a n k)) := by unfold reqC Cr.cells; (repeat (first | exact ones_nil | refine ones_cons rfl ?_))
theorem ones_zReq : Ones zReq := ones_req Cr.zero none 0 0
theorem reqC_len (c : Cr) (v : Value) : (reqC c v).length = 8 := rfl
theorem ReqQ_none (e : Int) (F : PH) : ReqQ ((Cr.zero, []), e) (.tuple #[.agg zReq.toArray, .int .i64 e]) F [] := ⟨rfl, .slice none 0 0, rfl, RowV.nil⟩
theorem lay_core (c c' : Cr) (v : Value) : Lay 0 c'.cells (reqC c v) (reqC c' v) := by
  unfold reqC Cr.cells
  repeat constructor
theorem lay_ends (c : Cr) (v v' : Value) : Lay 7 [v'] (reqC c v) (reqC c v') := by
  unfold reqC Cr.cells
  repeat constructor
theorem own_en {F : PH} {H Hr : List Asrt} {b i c n : Nat} {E : TypeId} {css : List (List Value)} {o : Int} {v : Value} (p : Pick (own (.slice (some ⟨b, 0, none⟩) n c) E 2 n css.flatten) H Hr) (hl : ∀ c ∈ css, c.length = 2) (hi : css[i]? = some (enC o v)) : Rdb F H b (0 + i * 2) [.int .i64 o] := by
  have h1 := (own_rdb (F := F) p).take (i * 2) 1
  have e := flat_at hl hi
  have e2 : (css.flatten.drop (i * 2)).take 1 = [.int .i64 o] := by
    have : (css.flatten.drop (i * 2)).take 1 = ((css.flatten.drop (i * 2)).take 2).take 1 := by rw [List.take_take]; rfl
    rw [this, e]; rfl
  rw [e2] at h1
  exact h1
theorem ens_len {F : PH} {es : List En} {css : List (List Value)} (h : All2 (tyEn.rep F) es css) : ∀ c ∈ css, c.length = 2 := fun c hc => by
  obtain ⟨x, _, hx⟩ := All2.right h c hc
  exact tyEn.len hx
set_option maxHeartbeats 32000000 in
theorem parse_spec (v : Value) (bs : List UInt8) (n : Int) (F : PH) (h : Byt F v bs) (hl : bs.length ≤ 1048576) :
    Spec Try.prog 37 [v, .int .i64 n] F [] (ReqQ (reqP bs n)) := by
  obtain ⟨a, c, rfl, hc⟩ := h.form
  refine Spec.of2 Try.func37 rfl rfl fun X w0 => ?_
  refine jc rfl rfl ?_
  refine jr rfl ?_
  refine oE (ev_alloc (cs := zReq) rfl) rfl ?_
  rintro _ _ _ _ ⟨rfl, b4, rfl, rfl⟩
  unfold reqP
  by_cases hn1 : n < 1
  · rw [if_pos (.inl hn1)]
    repeat (first|refine zJ rfl rfl ?_|refine jr rfl ?_|refine jn ?_|refine zM rfl rfl ?_|(refine zC rfl rfl ?_ rfl ?_;omega)|(refine zD rfl rfl ?_ rfl ?_;omega)|(refine zP rfl ?_ rfl ?_;omega)|refine zG rfl rfl rfl rfl ?_|(refine jdq rfl rfl ?_ ?_ ?_;kernel_rfl;kernel_rfl)|refine zB rfl rfl rfl (by repeat constructor) rfl ?_|refine zH .here rfl rfl rfl rfl ?_|refine zH (.there .here) rfl rfl rfl rfl ?_|refine zH (.there (.there .here)) rfl rfl rfl rfl ?_)
    refine oN (ev_store (b := b4) rfl rfl .agg rfl rfl (lay_all (zs := zReq) rfl) ones_zReq .here) rfl ?_
    rintro _ _ _ _ ⟨rfl, _, rfl⟩
    repeat (first|refine zJ rfl rfl ?_|refine jr rfl ?_|refine jn ?_|refine zM rfl rfl ?_|(refine zC rfl rfl ?_ rfl ?_;omega)|(refine zD rfl rfl ?_ rfl ?_;omega)|(refine zP rfl ?_ rfl ?_;omega)|refine zG rfl rfl rfl rfl ?_|(refine jdq rfl rfl ?_ ?_ ?_;kernel_rfl;kernel_rfl)|refine zB rfl rfl rfl (by repeat constructor) rfl ?_|refine zH .here rfl rfl rfl rfl ?_|refine zH (.there .here) rfl rfl rfl rfl ?_|refine zH (.there (.there .here)) rfl rfl rfl rfl ?_)
    exact J_retv (vs := [.agg zReq.toArray, .int .i64 1]) rfl (.agg rfl rfl (Rdb.ofB (n := 0) .here rfl) rfl (.tmp rfl .nil)) [] (fun w s => s.drop) (PH.ler _) (ReqQ_none 1 F)
  by_cases hn7 : 7 < n
  · rw [if_pos (.inr hn7)]
    repeat (first|refine zJ rfl rfl ?_|refine jr rfl ?_|refine jn ?_|refine zM rfl rfl ?_|(refine zC rfl rfl ?_ rfl ?_;omega)|(refine zD rfl rfl ?_ rfl ?_;omega)|(refine zP rfl ?_ rfl ?_;omega)|refine zG rfl rfl rfl rfl ?_|(refine jdq rfl rfl ?_ ?_ ?_;kernel_rfl;kernel_rfl)|refine zB rfl rfl rfl (by repeat constructor) rfl ?_|refine zH .here rfl rfl rfl rfl ?_|refine zH (.there .here) rfl rfl rfl rfl ?_|refine zH (.there (.there .here)) rfl rfl rfl rfl ?_)
    refine oN (ev_store (b := b4) rfl rfl .agg rfl rfl (lay_all (zs := zReq) rfl) ones_zReq .here) rfl ?_
    rintro _ _ _ _ ⟨rfl, _, rfl⟩
    repeat (first|refine zJ rfl rfl ?_|refine jr rfl ?_|refine jn ?_|refine zM rfl rfl ?_|(refine zC rfl rfl ?_ rfl ?_;omega)|(refine zD rfl rfl ?_ rfl ?_;omega)|(refine zP rfl ?_ rfl ?_;omega)|refine zG rfl rfl rfl rfl ?_|(refine jdq rfl rfl ?_ ?_ ?_;kernel_rfl;kernel_rfl)|refine zB rfl rfl rfl (by repeat constructor) rfl ?_|refine zH .here rfl rfl rfl rfl ?_|refine zH (.there .here) rfl rfl rfl rfl ?_|refine zH (.there (.there .here)) rfl rfl rfl rfl ?_)
    exact J_retv (vs := [.agg zReq.toArray, .int .i64 1]) rfl (.agg rfl rfl (Rdb.ofB (n := 0) .here rfl) rfl (.tmp rfl .nil)) [] (fun w s => s.drop) (PH.ler _) (ReqQ_none 1 F)
  rw [if_neg (by omega)]
  obtain ⟨m, rfl⟩ := Int.eq_ofNat_of_zero_le (show 0 ≤ n by omega)
  repeat (first|refine zJ rfl rfl ?_|refine jr rfl ?_|refine jn ?_|refine zM rfl rfl ?_|(refine zC rfl rfl ?_ rfl ?_;omega)|(refine zD rfl rfl ?_ rfl ?_;omega)|(refine zP rfl ?_ rfl ?_;omega)|refine zG rfl rfl rfl rfl ?_|(refine jdq rfl rfl ?_ ?_ ?_;kernel_rfl;kernel_rfl)|refine zB rfl rfl rfl (by repeat constructor) rfl ?_|refine zH .here rfl rfl rfl rfl ?_|refine zH (.there .here) rfl rfl rfl rfl ?_|refine zH (.there (.there .here)) rfl rfl rfl rfl ?_)
  refine oC (Hc := []) (Hr := blk b4 66 zReq :: X) (read_spec _ bs F h (by omega)) Try.call47 rfl rfl (fun _ s => s) ?_
  rintro _ F1 _ hF1 ⟨br, v1, rfl, hv1, rfl⟩
  repeat (first|refine zJ rfl rfl ?_|refine jr rfl ?_|refine jn ?_|refine zM rfl rfl ?_|(refine zC rfl rfl ?_ rfl ?_;omega)|(refine zD rfl rfl ?_ rfl ?_;omega)|(refine zP rfl ?_ rfl ?_;omega)|refine zG rfl rfl rfl rfl ?_|(refine jdq rfl rfl ?_ ?_ ?_;kernel_rfl;kernel_rfl)|refine zB rfl rfl rfl (by repeat constructor) rfl ?_|refine zH .here rfl rfl rfl rfl ?_|refine zH (.there .here) rfl rfl rfl rfl ?_|refine zH (.there (.there .here)) rfl rfl rfl rfl ?_)
  refine oC (Hc := [rdr br v1 0]) (Hr := blk b4 66 zReq :: X) (rrow_spec br v1 0 bs.length bs F1 hv1 (by omega)) Try.call64 rfl rfl (fun _ s => s) ?_
  rintro u F2 _ hF2 ⟨v2, hu, hv2, rfl⟩
  have hu0 := hu
  obtain ⟨au, cu, rfl, hcu⟩ := hu.form
  have n1 := rowR_rest' 0 bs bs.length
  have nu := rowR_short 0 bs bs.length
  unfold reqM
  dsimp only
  generalize hr1 : rowR 0 bs bs.length = r1 at *
  repeat (first|refine zJ rfl rfl ?_|refine jr rfl ?_|refine jn ?_|refine zM rfl rfl ?_|(refine zC rfl rfl ?_ rfl ?_;omega)|(refine zD rfl rfl ?_ rfl ?_;omega)|(refine zP rfl ?_ rfl ?_;omega)|refine zG rfl rfl rfl rfl ?_|(refine jdq rfl rfl ?_ ?_ ?_;kernel_rfl;kernel_rfl)|refine zB rfl rfl rfl (by repeat constructor) rfl ?_|refine zH .here rfl rfl rfl rfl ?_|refine zH (.there .here) rfl rfl rfl rfl ?_|refine zH (.there (.there .here)) rfl rfl rfl rfl ?_)
  refine oE (ev_alloc (cs := zReq) rfl) rfl ?_
  rintro _ _ _ _ ⟨rfl, b8, rfl, rfl⟩
  repeat (first|refine zJ rfl rfl ?_|refine jr rfl ?_|refine jn ?_|refine zM rfl rfl ?_|(refine zC rfl rfl ?_ rfl ?_;omega)|(refine zD rfl rfl ?_ rfl ?_;omega)|(refine zP rfl ?_ rfl ?_;omega)|refine zG rfl rfl rfl rfl ?_|(refine jdq rfl rfl ?_ ?_ ?_;kernel_rfl;kernel_rfl)|refine zB rfl rfl rfl (by repeat constructor) rfl ?_|refine zH .here rfl rfl rfl rfl ?_|refine zH (.there .here) rfl rfl rfl rfl ?_|refine zH (.there (.there .here)) rfl rfl rfl rfl ?_)
  refine oC (Hc := [rdr br v2 r1.2.1]) (Hr := blk b8 66 zReq :: blk b4 66 zReq :: X) (count_spec br v2 r1.2.1 m r1.2.2 F2 hv2 (by omega)) Try.call74 rfl rfl (fun _ s => s.pick (.there .here)) ?_
  rintro _ F3 _ hF3 ⟨v3, rfl, hv3, rfl⟩
  have n2 := cntR_rest' r1.2.1 r1.2.2 m
  have l2 := cntR_le r1.2.1 r1.2.2 (m := m) (by omega)
  generalize hr2 : cntR r1.2.1 r1.2.2 m = r2 at *
  obtain ⟨cn, hcn⟩ := Int.eq_ofNat_of_zero_le l2.1
  have hm7 : m ≤ 7 := by omega
  rw [hcn]
  have hcm : cn ≤ m := by omega
  have Hcn := Lib.hid hcn
  clear hcn
  simp only [Int.toNat_natCast]
  repeat (first|refine zJ rfl rfl ?_|refine jr rfl ?_|refine jn ?_|refine zM rfl rfl ?_|(refine zC rfl rfl ?_ rfl ?_;omega)|(refine zD rfl rfl ?_ rfl ?_;omega)|(refine zP rfl ?_ rfl ?_;omega)|refine zG rfl rfl rfl rfl ?_|(refine jdq rfl rfl ?_ ?_ ?_;kernel_rfl;kernel_rfl)|refine zB rfl rfl rfl (by repeat constructor) rfl ?_|refine zH .here rfl rfl rfl rfl ?_|refine zH (.there .here) rfl rfl rfl rfl ?_|refine zH (.there (.there .here)) rfl rfl rfl rfl ?_)
  refine J_own_nil 72 2 ?_
  refine J_loop (ι := Nat × Value × Value × List (List Value) × PH) (fun i => i.1 ≤ cn ∧ F3.le i.2.2.2.2 ∧ Byt i.2.2.2.2 i.2.1 (endsR m r2.2.1 r2.2.2 i.1).2.1 ∧ All2 (tyEn.rep i.2.2.2.2) (endsR m r2.2.1 r2.2.2 i.1).2.2 i.2.2.2.1) (fun i => cn - i.1)
    (fun i => [(1, .int .i64 m), (4, .pointer (some ⟨b4, 0, none⟩)), (6, .pointer (some ⟨br, 0, none⟩)), (7, .slice au r1.1.length cu), (8, .pointer (some ⟨b8, 0, none⟩)), (9, .bool (oddEs m (endsR m r2.2.1 r2.2.2 i.1).2.2)), (29, .int .i64 cn), (30, .int .i64 i.1)]) (fun i => i.2.2.2.2)
    (fun i => rdr br i.2.1 (endsR m r2.2.1 r2.2.2 i.1).1 :: blk b8 66 (reqC Cr.zero i.2.2.1) :: own i.2.2.1 72 2 i.1 i.2.2.2.1.flatten :: blk b4 66 zReq :: X)
    (0, v3, .slice none 0 0, [], F3) ⟨Nat.zero_le _, PH.ler _, hv3, .nil⟩ ⟨⟨rfl, rfl, rfl, rfl, rfl, rfl, rfl, rfl, trivial⟩, fun w s => ?_⟩ ?_
  · exact s.unpick (.there (.there .here))
  rintro ⟨j, v, vE, css, G⟩ ⟨hj, hG, hv, hes⟩
  dsimp only at hj hG hv hes
  by_cases hlt : j < cn
  · have hrest := endsR_rest m r2.2.1 r2.2.2 j
    have hlen := endsR_len m r2.2.1 r2.2.2 j
    have hts := endsR_succ m r2.2.1 r2.2.2 j
    repeat (first|refine zJ rfl rfl ?_|refine jr rfl ?_|refine jn ?_|refine zM rfl rfl ?_|(refine zC rfl rfl ?_ rfl ?_;omega)|(refine zD rfl rfl ?_ rfl ?_;omega)|(refine zP rfl ?_ rfl ?_;omega)|refine zG rfl rfl rfl rfl ?_|(refine jdq rfl rfl ?_ ?_ ?_;kernel_rfl;kernel_rfl)|refine zB rfl rfl rfl (by repeat constructor) rfl ?_|refine zH .here rfl rfl rfl rfl ?_|refine zH (.there .here) rfl rfl rfl rfl ?_|refine zH (.there (.there .here)) rfl rfl rfl rfl ?_)
    refine oC (Hc := [rdr br v (endsR m r2.2.1 r2.2.2 j).1]) (Hr := blk b8 66 (reqC Cr.zero vE) :: own vE 72 2 j css.flatten :: blk b4 66 zReq :: X) (readEnd_spec br v (endsR m r2.2.1 r2.2.2 j).1 m (endsR m r2.2.1 r2.2.2 j).2.1 G hv (by omega) hm7) Try.call75 rfl rfl (fun _ s => s) ?_
    rintro _ G2 _ hG2 ⟨v6, co, rfl, hco, hv6, rfl⟩
    replace hes := hes.mono fun _ _ hr => tyEn.mono hG2 hr
    generalize hr6 : oneR m (endsR m r2.2.1 r2.2.2 j).1 (endsR m r2.2.1 r2.2.2 j).2.1 = r6 at *
    generalize het : endsR m r2.2.1 r2.2.2 j = et at *
    have hco' := hco
    obtain ⟨ae, ce, rfl, hte, hin⟩ := en_of hco
    have hodd : oddEs m (et.2.2 ++ [r6.1]) = (oddEs m et.2.2 || oddE m (et.2.2 ++ [r6.1]) et.2.2.length) := oddEs_snoc
    generalize hx : oddEs m et.2.2 = x at *
    repeat (first|refine zJ rfl rfl ?_|refine jr rfl ?_|refine jn ?_|refine zM rfl rfl ?_|(refine zC rfl rfl ?_ rfl ?_;omega)|(refine zD rfl rfl ?_ rfl ?_;omega)|(refine zP rfl ?_ rfl ?_;omega)|refine zG rfl rfl rfl rfl ?_|(refine jdq rfl rfl ?_ ?_ ?_;kernel_rfl;kernel_rfl)|refine zB rfl rfl rfl (by repeat constructor) rfl ?_|refine zH .here rfl rfl rfl rfl ?_|refine zH (.there .here) rfl rfl rfl rfl ?_|refine zH (.there (.there .here)) rfl rfl rfl rfl ?_)
    refine oE (ev_alloc rfl) rfl ?_; rintro _ _ _ _ ⟨rfl, b11, rfl, rfl⟩; refine oN (ev_store rfl rfl .agg rfl rfl (lay_all ?_) ?_ .here) rfl ?_; rfl; rotate_left; rintro _ _ _ _ ⟨rfl, rfl, rfl⟩; rotate_left
    · exact ones_en _ _ _ _
    refine oWith (.there (.there (.there .here))) OwnForm.of fun hfx => ?_
    obtain ⟨aE, cE, rfl, _, _, haE⟩ := hfx
    refine jn ?_
    refine jc rfl rfl ?_
    refine J_join [_] (fun _ : Unit => True) (fun _ => [(1, .int .i64 m), (4, .pointer (some ⟨b4, 0, none⟩)), (6, .pointer (some ⟨br, 0, none⟩)), (7, .slice au r1.1.length cu), (8, .pointer (some ⟨b8, 0, none⟩)), (9, .bool (oddEs m (et.2.2 ++ [r6.1]))), (11, .pointer (some ⟨b11, 0, none⟩)), (29, .int .i64 cn), (30, .int .i64 j)]) (fun _ => G2) (fun _ => blk b11 72 (enC r6.1.1 (.slice ae r6.1.2.1.length ce)) :: rdr br v6 r6.2.1 :: blk b8 66 (reqC Cr.zero (.slice aE j cE)) :: own (.slice aE j cE) 72 2 j css.flatten :: blk b4 66 zReq :: X) ?_ ?_
    · rw [hodd]
      clear hodd
      cases x with
      | true =>
        rw [Bool.true_or]
        repeat (first|refine zJ rfl rfl ?_|refine jr rfl ?_|refine jn ?_|refine zM rfl rfl ?_|(refine zC rfl rfl ?_ rfl ?_;omega)|(refine zD rfl rfl ?_ rfl ?_;omega)|(refine zP rfl ?_ rfl ?_;omega)|refine zG rfl rfl rfl rfl ?_|(refine jdq rfl rfl ?_ ?_ ?_;kernel_rfl;kernel_rfl)|refine zB rfl rfl rfl (by repeat constructor) rfl ?_|refine zH .here rfl rfl rfl rfl ?_|refine zH (.there .here) rfl rfl rfl rfl ?_|refine zH (.there (.there .here)) rfl rfl rfl rfl ?_)
        exact J_joined () trivial ⟨⟨rfl, rfl, rfl, rfl, rfl, rfl, rfl, rfl, rfl, trivial⟩, fun w s => s⟩
      | false =>
        rw [Bool.false_or]
        by_cases h1 : (m : Int) ≤ r6.1.1
        · have e : oddE m (et.2.2 ++ [r6.1]) et.2.2.length = true := by
            unfold oddE
            rw [List.getElem?_append_right (Nat.le_refl _), Nat.sub_self]
            dsimp only [List.getElem?_cons_zero]
            rw [decide_eq_true h1, Bool.true_or]
          rw [e]
          repeat (first|refine zJ rfl rfl ?_|refine jr rfl ?_|refine jn ?_|refine zM rfl rfl ?_|(refine zC rfl rfl ?_ rfl ?_;omega)|(refine zD rfl rfl ?_ rfl ?_;omega)|(refine zP rfl ?_ rfl ?_;omega)|refine zG rfl rfl rfl rfl ?_|(refine jdq rfl rfl ?_ ?_ ?_;kernel_rfl;kernel_rfl)|refine zB rfl rfl rfl (by repeat constructor) rfl ?_|refine zH .here rfl rfl rfl rfl ?_|refine zH (.there .here) rfl rfl rfl rfl ?_|refine zH (.there (.there .here)) rfl rfl rfl rfl ?_)
          exact J_joined () trivial ⟨⟨rfl, rfl, rfl, rfl, rfl, rfl, rfl, rfl, rfl, trivial⟩, fun w s => s⟩
        · cases j with
          | zero =>
            have e0 : et.2.2 = [] := List.eq_nil_of_length_eq_zero hlen
            rw [e0, oddE_0, decide_eq_false h1]
            repeat (first|refine zJ rfl rfl ?_|refine jr rfl ?_|refine jn ?_|refine zM rfl rfl ?_|(refine zC rfl rfl ?_ rfl ?_;omega)|(refine zD rfl rfl ?_ rfl ?_;omega)|(refine zP rfl ?_ rfl ?_;omega)|refine zG rfl rfl rfl rfl ?_|(refine jdq rfl rfl ?_ ?_ ?_;kernel_rfl;kernel_rfl)|refine zB rfl rfl rfl (by repeat constructor) rfl ?_|refine zH .here rfl rfl rfl rfl ?_|refine zH (.there .here) rfl rfl rfl rfl ?_|refine zH (.there (.there .here)) rfl rfl rfl rfl ?_)
            exact J_joined () trivial ⟨⟨rfl, rfl, rfl, rfl, rfl, rfl, rfl, rfl, rfl, trivial⟩, fun w s => s⟩
          | succ k =>
            obtain ⟨bE, rfl⟩ := haE (by omega)
            have hgk : et.2.2[k]? = some (et.2.2[k]'(by omega)) := List.getElem?_eq_getElem _
            rw [oddE_S hlen hgk]
            obtain ⟨ck, hck, hrk⟩ := All2.at hes hgk
            generalize et.2.2[k]'(by omega) = pk at *
            obtain ⟨ap, cp, rfl, _, _⟩ := en_of hrk
            rw [decide_eq_false h1, Bool.false_or]
            have hrd : ∀ {F : PH}, Rdb F (blk b11 72 (enC r6.1.1 (.slice ae r6.1.2.1.length ce)) :: rdr br v6 r6.2.1 :: blk b8 66 (reqC Cr.zero (.slice (some ⟨bE, 0, none⟩) (k + 1) cE)) :: own (.slice (some ⟨bE, 0, none⟩) (k + 1) cE) 72 2 (k + 1) css.flatten :: blk b4 66 zReq :: X) bE (0 + k * 2) [.int .i64 pk.1] := own_en (.there (.there (.there .here))) (ens_len hes) hck
            by_cases h2 : r6.1.1 ≤ pk.1
            · rw [decide_eq_true h2]
              repeat (first|refine zJ rfl rfl ?_|refine jr rfl ?_|refine jn ?_|refine zM rfl rfl ?_|(refine zC rfl rfl ?_ rfl ?_;omega)|(refine zD rfl rfl ?_ rfl ?_;omega)|(refine zP rfl ?_ rfl ?_;omega)|refine zG rfl rfl rfl rfl ?_|(refine jdq rfl rfl ?_ ?_ ?_;kernel_rfl;kernel_rfl)|refine zB rfl rfl rfl (by repeat constructor) rfl ?_|refine zH .here rfl rfl rfl rfl ?_|refine zH (.there .here) rfl rfl rfl rfl ?_|refine zH (.there (.there .here)) rfl rfl rfl rfl ?_)
              refine oS (ev_indexAddr rfl (congrArg (fun z => some (Value.int .i64 z)) (show ((k + 1 : Nat) : Int) - 1 = (k : Int) by omega)) rfl (by omega)) rfl ?_
              repeat (first|refine zJ rfl rfl ?_|refine jr rfl ?_|refine jn ?_|refine zM rfl rfl ?_|(refine zC rfl rfl ?_ rfl ?_;omega)|(refine zD rfl rfl ?_ rfl ?_;omega)|(refine zP rfl ?_ rfl ?_;omega)|refine zG rfl rfl rfl rfl ?_|(refine jdq rfl rfl ?_ ?_ ?_;kernel_rfl;kernel_rfl)|refine zB rfl rfl rfl (by repeat constructor) rfl ?_|refine zH .here rfl rfl rfl rfl ?_|refine zH (.there .here) rfl rfl rfl rfl ?_|refine zH (.there (.there .here)) rfl rfl rfl rfl ?_)
              refine oS (ev_load rfl rfl hrd) rfl ?_
              repeat (first|refine zJ rfl rfl ?_|refine jr rfl ?_|refine jn ?_|refine zM rfl rfl ?_|(refine zC rfl rfl ?_ rfl ?_;omega)|(refine zD rfl rfl ?_ rfl ?_;omega)|(refine zP rfl ?_ rfl ?_;omega)|refine zG rfl rfl rfl rfl ?_|(refine jdq rfl rfl ?_ ?_ ?_;kernel_rfl;kernel_rfl)|refine zB rfl rfl rfl (by repeat constructor) rfl ?_|refine zH .here rfl rfl rfl rfl ?_|refine zH (.there .here) rfl rfl rfl rfl ?_|refine zH (.there (.there .here)) rfl rfl rfl rfl ?_)
              exact J_joined () trivial ⟨⟨rfl, rfl, rfl, rfl, rfl, rfl, rfl, rfl, rfl, trivial⟩, fun w s => s⟩
            · rw [decide_eq_false h2]
              repeat (first|refine zJ rfl rfl ?_|refine jr rfl ?_|refine jn ?_|refine zM rfl rfl ?_|(refine zC rfl rfl ?_ rfl ?_;omega)|(refine zD rfl rfl ?_ rfl ?_;omega)|(refine zP rfl ?_ rfl ?_;omega)|refine zG rfl rfl rfl rfl ?_|(refine jdq rfl rfl ?_ ?_ ?_;kernel_rfl;kernel_rfl)|refine zB rfl rfl rfl (by repeat constructor) rfl ?_|refine zH .here rfl rfl rfl rfl ?_|refine zH (.there .here) rfl rfl rfl rfl ?_|refine zH (.there (.there .here)) rfl rfl rfl rfl ?_)
              refine oS (ev_indexAddr rfl (congrArg (fun z => some (Value.int .i64 z)) (show ((k + 1 : Nat) : Int) - 1 = (k : Int) by omega)) rfl (by omega)) rfl ?_
              repeat (first|refine zJ rfl rfl ?_|refine jr rfl ?_|refine jn ?_|refine zM rfl rfl ?_|(refine zC rfl rfl ?_ rfl ?_;omega)|(refine zD rfl rfl ?_ rfl ?_;omega)|(refine zP rfl ?_ rfl ?_;omega)|refine zG rfl rfl rfl rfl ?_|(refine jdq rfl rfl ?_ ?_ ?_;kernel_rfl;kernel_rfl)|refine zB rfl rfl rfl (by repeat constructor) rfl ?_|refine zH .here rfl rfl rfl rfl ?_|refine zH (.there .here) rfl rfl rfl rfl ?_|refine zH (.there (.there .here)) rfl rfl rfl rfl ?_)
              refine oS (ev_load rfl rfl hrd) rfl ?_
              repeat (first|refine zJ rfl rfl ?_|refine jr rfl ?_|refine jn ?_|refine zM rfl rfl ?_|(refine zC rfl rfl ?_ rfl ?_;omega)|(refine zD rfl rfl ?_ rfl ?_;omega)|(refine zP rfl ?_ rfl ?_;omega)|refine zG rfl rfl rfl rfl ?_|(refine jdq rfl rfl ?_ ?_ ?_;kernel_rfl;kernel_rfl)|refine zB rfl rfl rfl (by repeat constructor) rfl ?_|refine zH .here rfl rfl rfl rfl ?_|refine zH (.there .here) rfl rfl rfl rfl ?_|refine zH (.there (.there .here)) rfl rfl rfl rfl ?_)
              exact J_joined () trivial ⟨⟨rfl, rfl, rfl, rfl, rfl, rfl, rfl, rfl, rfl, trivial⟩, fun w s => s⟩
    rintro ⟨⟩ -
    repeat (first|refine zJ rfl rfl ?_|refine jr rfl ?_|refine jn ?_|refine zM rfl rfl ?_|(refine zC rfl rfl ?_ rfl ?_;omega)|(refine zD rfl rfl ?_ rfl ?_;omega)|(refine zP rfl ?_ rfl ?_;omega)|refine zG rfl rfl rfl rfl ?_|(refine jdq rfl rfl ?_ ?_ ?_;kernel_rfl;kernel_rfl)|refine zB rfl rfl rfl (by repeat constructor) rfl ?_|refine zH .here rfl rfl rfl rfl ?_|refine zH (.there .here) rfl rfl rfl rfl ?_|refine zH (.there (.there .here)) rfl rfl rfl rfl ?_)
    refine oS (ev_load_agg (cs := enC r6.1.1 (.slice ae r6.1.2.1.length ce)) rfl rfl (Rdb.ofB (n := 0) .here rfl) rfl) rfl ?_
    refine oA (fun _ => rfl) rfl .agg rfl elE (ones_en _ _ _ _) (by omega) (fun _ => .there (.there (.there .here))) rfl (fun _ => rfl) fun u w => ?_
    refine oWith (.there (.there (.there .here))) OwnForm.of fun hfx => ?_
    obtain ⟨ax, cx, rfl, _, _, _⟩ := hfx
    repeat (first|refine zJ rfl rfl ?_|refine jr rfl ?_|refine jn ?_|refine zM rfl rfl ?_|(refine zC rfl rfl ?_ rfl ?_;omega)|(refine zD rfl rfl ?_ rfl ?_;omega)|(refine zP rfl ?_ rfl ?_;omega)|refine zG rfl rfl rfl rfl ?_|(refine jdq rfl rfl ?_ ?_ ?_;kernel_rfl;kernel_rfl)|refine zB rfl rfl rfl (by repeat constructor) rfl ?_|refine zH .here rfl rfl rfl rfl ?_|refine zH (.there .here) rfl rfl rfl rfl ?_|refine zH (.there (.there .here)) rfl rfl rfl rfl ?_)
    refine oN (ev_store (b := b8) rfl rfl .slice rfl rfl (lay_ends _ _ _) (ones_cons rfl ones_nil) (.there (.there .here))) rfl ?_
    rintro _ _ _ _ ⟨rfl, _, rfl⟩
    repeat (first|refine zJ rfl rfl ?_|refine jr rfl ?_|refine jn ?_|refine zM rfl rfl ?_|(refine zC rfl rfl ?_ rfl ?_;omega)|(refine zD rfl rfl ?_ rfl ?_;omega)|(refine zP rfl ?_ rfl ?_;omega)|refine zG rfl rfl rfl rfl ?_|(refine jdq rfl rfl ?_ ?_ ?_;kernel_rfl;kernel_rfl)|refine zB rfl rfl rfl (by repeat constructor) rfl ?_|refine zH .here rfl rfl rfl rfl ?_|refine zH (.there .here) rfl rfl rfl rfl ?_|refine zH (.there (.there .here)) rfl rfl rfl rfl ?_)
    refine J_again (j + 1, v6, .slice ax (j + 1) cx, css ++ [enC r6.1.1 (.slice ae r6.1.2.1.length ce)], G2) ⟨hlt, hG.trans hG2, by rw [hts]; exact hv6, by rw [hts]; exact hes.snoc hco'⟩ (by dsimp only; omega) ⟨⟨rfl, rfl, rfl, rfl, rfl, by rw [hts]; rfl, rfl, rfl, trivial⟩, fun w s => ?_⟩
    dsimp only
    rw [hts, List.flatten_append, show [enC r6.1.1 (.slice ae r6.1.2.1.length ce)].flatten = enC r6.1.1 (.slice ae r6.1.2.1.length ce) from by simp]
    exact s.drop
  · obtain rfl : j = cn := by omega
    have hlen := endsR_len m r2.2.1 r2.2.2 j
    generalize het : endsR m r2.2.1 r2.2.2 j = et at *
    have hFG : F.le G := hF1.trans (hF2.trans (hF3.trans hG))
    repeat (first|refine zJ rfl rfl ?_|refine jr rfl ?_|refine jn ?_|refine zM rfl rfl ?_|(refine zC rfl rfl ?_ rfl ?_;omega)|(refine zD rfl rfl ?_ rfl ?_;omega)|(refine zP rfl ?_ rfl ?_;omega)|refine zG rfl rfl rfl rfl ?_|(refine jdq rfl rfl ?_ ?_ ?_;kernel_rfl;kernel_rfl)|refine zB rfl rfl rfl (by repeat constructor) rfl ?_|refine zH .here rfl rfl rfl rfl ?_|refine zH (.there .here) rfl rfl rfl rfl ?_|refine zH (.there (.there .here)) rfl rfl rfl rfl ?_)
    refine oC (Hc := [rdr br v et.1]) (Hr := blk b8 66 (reqC Cr.zero vE) :: own vE 72 2 j css.flatten :: blk b4 66 zReq :: X) (end_spec br v et.1 et.2.1 G hv) Try.call50 rfl rfl (fun _ s => s) ?_
    rintro _ _ _ _ ⟨rfl, rfl, rfl⟩
    by_cases hE : endR et.1 et.2.1 = 0
    · cases hod : oddEs m et.2.2 with
      | true =>
        rw [if_pos (.inr rfl)]
        repeat (first|refine zJ rfl rfl ?_|refine jr rfl ?_|refine jn ?_|refine zM rfl rfl ?_|(refine zC rfl rfl ?_ rfl ?_;omega)|(refine zD rfl rfl ?_ rfl ?_;omega)|(refine zP rfl ?_ rfl ?_;omega)|refine zG rfl rfl rfl rfl ?_|(refine jdq rfl rfl ?_ ?_ ?_;kernel_rfl;kernel_rfl)|refine zB rfl rfl rfl (by repeat constructor) rfl ?_|refine zH .here rfl rfl rfl rfl ?_|refine zH (.there .here) rfl rfl rfl rfl ?_|refine zH (.there (.there .here)) rfl rfl rfl rfl ?_)
        refine oN (ev_store (b := b4) rfl rfl .agg rfl rfl (lay_all (zs := zReq) rfl) ones_zReq (.there (.there (.there .here)))) rfl ?_
        rintro _ _ _ _ ⟨rfl, _, rfl⟩
        repeat (first|refine zJ rfl rfl ?_|refine jr rfl ?_|refine jn ?_|refine zM rfl rfl ?_|(refine zC rfl rfl ?_ rfl ?_;omega)|(refine zD rfl rfl ?_ rfl ?_;omega)|(refine zP rfl ?_ rfl ?_;omega)|refine zG rfl rfl rfl rfl ?_|(refine jdq rfl rfl ?_ ?_ ?_;kernel_rfl;kernel_rfl)|refine zB rfl rfl rfl (by repeat constructor) rfl ?_|refine zH .here rfl rfl rfl rfl ?_|refine zH (.there .here) rfl rfl rfl rfl ?_|refine zH (.there (.there .here)) rfl rfl rfl rfl ?_)
        exact J_retv (vs := [.agg zReq.toArray, .int .i64 2]) rfl (.agg rfl rfl (Rdb.ofB (n := 0) (.there (.there (.there .here))) rfl) rfl (.tmp rfl .nil)) [] (fun w s => s.drop.drop.drop.drop) hFG (ReqQ_none 2 G)
      | false =>
        rw [if_neg (by simp [hE])]
        repeat (first|refine zJ rfl rfl ?_|refine jr rfl ?_|refine jn ?_|refine zM rfl rfl ?_|(refine zC rfl rfl ?_ rfl ?_;omega)|(refine zD rfl rfl ?_ rfl ?_;omega)|(refine zP rfl ?_ rfl ?_;omega)|refine zG rfl rfl rfl rfl ?_|(refine jdq rfl rfl ?_ ?_ ?_;kernel_rfl;kernel_rfl)|refine zB rfl rfl rfl (by repeat constructor) rfl ?_|refine zH .here rfl rfl rfl rfl ?_|refine zH (.there .here) rfl rfl rfl rfl ?_|refine zH (.there (.there .here)) rfl rfl rfl rfl ?_)
        refine oC (Hc := []) (Hr := rdr br v et.1 :: blk b8 66 (reqC Cr.zero vE) :: own vE 72 2 j css.flatten :: blk b4 66 zReq :: X) (parseCore_spec _ r1.1 m G (hu.mono (hF3.trans hG)) (by omega)) Try.call35 rfl rfl (fun _ s => s) ?_
        rintro _ G2 _ hG2 ⟨rfl, rfl⟩
        generalize coreP r1.1 m = p at *
        obtain ⟨pc, pe⟩ := p
        dsimp only
        repeat (first|refine zJ rfl rfl ?_|refine jr rfl ?_|refine jn ?_|refine zM rfl rfl ?_|(refine zC rfl rfl ?_ rfl ?_;omega)|(refine zD rfl rfl ?_ rfl ?_;omega)|(refine zP rfl ?_ rfl ?_;omega)|refine zG rfl rfl rfl rfl ?_|(refine jdq rfl rfl ?_ ?_ ?_;kernel_rfl;kernel_rfl)|refine zB rfl rfl rfl (by repeat constructor) rfl ?_|refine zH .here rfl rfl rfl rfl ?_|refine zH (.there .here) rfl rfl rfl rfl ?_|refine zH (.there (.there .here)) rfl rfl rfl rfl ?_)
        refine oE (ev_alloc rfl) rfl ?_; rintro _ _ _ _ ⟨rfl, b12, rfl, rfl⟩; refine oN (ev_store rfl rfl .agg rfl rfl (lay_all ?_) ?_ .here) rfl ?_; rfl; rotate_left; rintro _ _ _ _ ⟨rfl, rfl, rfl⟩; rotate_left
        · exact pc.ones
        by_cases he : pe = 0
        · subst he
          rw [if_neg (by simp)]
          refine oWith (.there (.there (.there .here))) OwnForm.of fun hfx => ?_
          obtain ⟨aE, cE, rfl, _, _, haE⟩ := hfx
          repeat (first|refine zJ rfl rfl ?_|refine jr rfl ?_|refine jn ?_|refine zM rfl rfl ?_|(refine zC rfl rfl ?_ rfl ?_;omega)|(refine zD rfl rfl ?_ rfl ?_;omega)|(refine zP rfl ?_ rfl ?_;omega)|refine zG rfl rfl rfl rfl ?_|(refine jdq rfl rfl ?_ ?_ ?_;kernel_rfl;kernel_rfl)|refine zB rfl rfl rfl (by repeat constructor) rfl ?_|refine zH .here rfl rfl rfl rfl ?_|refine zH (.there .here) rfl rfl rfl rfl ?_|refine zH (.there (.there .here)) rfl rfl rfl rfl ?_)
          refine oS (ev_load_agg (cs := pc.cells) rfl rfl (Rdb.ofB (n := 0) .here rfl) rfl) rfl ?_
          repeat (first|refine zJ rfl rfl ?_|refine jr rfl ?_|refine jn ?_|refine zM rfl rfl ?_|(refine zC rfl rfl ?_ rfl ?_;omega)|(refine zD rfl rfl ?_ rfl ?_;omega)|(refine zP rfl ?_ rfl ?_;omega)|refine zG rfl rfl rfl rfl ?_|(refine jdq rfl rfl ?_ ?_ ?_;kernel_rfl;kernel_rfl)|refine zB rfl rfl rfl (by repeat constructor) rfl ?_|refine zH .here rfl rfl rfl rfl ?_|refine zH (.there .here) rfl rfl rfl rfl ?_|refine zH (.there (.there .here)) rfl rfl rfl rfl ?_)
          refine oN (ev_store (b := b8) rfl rfl .agg rfl rfl (lay_core _ pc _) pc.ones (.there (.there .here))) rfl ?_
          rintro _ _ _ _ ⟨rfl, _, rfl⟩
          repeat (first|refine zJ rfl rfl ?_|refine jr rfl ?_|refine jn ?_|refine zM rfl rfl ?_|(refine zC rfl rfl ?_ rfl ?_;omega)|(refine zD rfl rfl ?_ rfl ?_;omega)|(refine zP rfl ?_ rfl ?_;omega)|refine zG rfl rfl rfl rfl ?_|(refine jdq rfl rfl ?_ ?_ ?_;kernel_rfl;kernel_rfl)|refine zB rfl rfl rfl (by repeat constructor) rfl ?_|refine zH .here rfl rfl rfl rfl ?_|refine zH (.there .here) rfl rfl rfl rfl ?_|refine zH (.there (.there .here)) rfl rfl rfl rfl ?_)
          refine oS (ev_load_agg (cs := reqC pc (.slice aE j cE)) rfl rfl (Rdb.ofB (n := 0) (.there (.there .here)) rfl) rfl) rfl ?_
          refine oN (ev_store (b := b4) rfl rfl .agg rfl rfl (lay_all (zs := zReq) rfl) (ones_req _ _ _ _) (.there (.there (.there (.there .here))))) rfl ?_
          rintro _ _ _ _ ⟨rfl, _, rfl⟩
          repeat (first|refine zJ rfl rfl ?_|refine jr rfl ?_|refine jn ?_|refine zM rfl rfl ?_|(refine zC rfl rfl ?_ rfl ?_;omega)|(refine zD rfl rfl ?_ rfl ?_;omega)|(refine zP rfl ?_ rfl ?_;omega)|refine zG rfl rfl rfl rfl ?_|(refine jdq rfl rfl ?_ ?_ ?_;kernel_rfl;kernel_rfl)|refine zB rfl rfl rfl (by repeat constructor) rfl ?_|refine zH .here rfl rfl rfl rfl ?_|refine zH (.there .here) rfl rfl rfl rfl ?_|refine zH (.there (.there .here)) rfl rfl rfl rfl ?_)
          refine J_pick (.there (.there (.there .here))) (J_persist fun h1 hA1 hd1 => ?_)
          have hrow := RowV.of_own (te := tyEn) hA1 hd1 hlen (hes.mono fun _ _ hr => tyEn.mono hG2 hr)
          exact J_retv (vs := [.agg (reqC pc (.slice aE j cE)).toArray, .int .i64 0]) rfl (.agg rfl rfl (Rdb.ofB (n := 0) (.there (.there (.there .here))) rfl) rfl (.tmp rfl .nil)) [] (fun w s => s.drop.drop.drop.drop) (hFG.trans (hG2.trans (PH.le_l _ _))) ⟨rfl, _, rfl, hrow⟩
        · rw [if_pos he]
          repeat (first|refine zJ rfl rfl ?_|refine jr rfl ?_|refine jn ?_|refine zM rfl rfl ?_|(refine zC rfl rfl ?_ rfl ?_;omega)|(refine zD rfl rfl ?_ rfl ?_;omega)|(refine zP rfl ?_ rfl ?_;omega)|refine zG rfl rfl rfl rfl ?_|(refine jdq rfl rfl ?_ ?_ ?_;kernel_rfl;kernel_rfl)|refine zB rfl rfl rfl (by repeat constructor) rfl ?_|refine zH .here rfl rfl rfl rfl ?_|refine zH (.there .here) rfl rfl rfl rfl ?_|refine zH (.there (.there .here)) rfl rfl rfl rfl ?_)
          refine oN (ev_store (b := b4) rfl rfl .agg rfl rfl (lay_all (zs := zReq) rfl) ones_zReq (.there (.there (.there (.there .here))))) rfl ?_
          rintro _ _ _ _ ⟨rfl, _, rfl⟩
          repeat (first|refine zJ rfl rfl ?_|refine jr rfl ?_|refine jn ?_|refine zM rfl rfl ?_|(refine zC rfl rfl ?_ rfl ?_;omega)|(refine zD rfl rfl ?_ rfl ?_;omega)|(refine zP rfl ?_ rfl ?_;omega)|refine zG rfl rfl rfl rfl ?_|(refine jdq rfl rfl ?_ ?_ ?_;kernel_rfl;kernel_rfl)|refine zB rfl rfl rfl (by repeat constructor) rfl ?_|refine zH .here rfl rfl rfl rfl ?_|refine zH (.there .here) rfl rfl rfl rfl ?_|refine zH (.there (.there .here)) rfl rfl rfl rfl ?_)
          exact J_retv (vs := [.agg zReq.toArray, .int .i64 pe]) rfl (.agg rfl rfl (Rdb.ofB (n := 0) (.there (.there (.there (.there .here)))) rfl) rfl (.tmp rfl .nil)) [] (fun w s => s.drop.drop.drop.drop.drop) (hFG.trans hG2) (ReqQ_none pe G2)
    · rw [if_pos (.inl hE)]
      repeat (first|refine zJ rfl rfl ?_|refine jr rfl ?_|refine jn ?_|refine zM rfl rfl ?_|(refine zC rfl rfl ?_ rfl ?_;omega)|(refine zD rfl rfl ?_ rfl ?_;omega)|(refine zP rfl ?_ rfl ?_;omega)|refine zG rfl rfl rfl rfl ?_|(refine jdq rfl rfl ?_ ?_ ?_;kernel_rfl;kernel_rfl)|refine zB rfl rfl rfl (by repeat constructor) rfl ?_|refine zH .here rfl rfl rfl rfl ?_|refine zH (.there .here) rfl rfl rfl rfl ?_|refine zH (.there (.there .here)) rfl rfl rfl rfl ?_)
      refine oN (ev_store (b := b4) rfl rfl .agg rfl rfl (lay_all (zs := zReq) rfl) ones_zReq (.there (.there (.there .here)))) rfl ?_
      rintro _ _ _ _ ⟨rfl, _, rfl⟩
      repeat (first|refine zJ rfl rfl ?_|refine jr rfl ?_|refine jn ?_|refine zM rfl rfl ?_|(refine zC rfl rfl ?_ rfl ?_;omega)|(refine zD rfl rfl ?_ rfl ?_;omega)|(refine zP rfl ?_ rfl ?_;omega)|refine zG rfl rfl rfl rfl ?_|(refine jdq rfl rfl ?_ ?_ ?_;kernel_rfl;kernel_rfl)|refine zB rfl rfl rfl (by repeat constructor) rfl ?_|refine zH .here rfl rfl rfl rfl ?_|refine zH (.there .here) rfl rfl rfl rfl ?_|refine zH (.there (.there .here)) rfl rfl rfl rfl ?_)
      exact J_retv (vs := [.agg zReq.toArray, .int .i64 2]) rfl (.agg rfl rfl (Rdb.ofB (n := 0) (.there (.there (.there .here))) rfl) rfl (.tmp rfl .nil)) [] (fun w s => s.drop.drop.drop.drop) hFG (ReqQ_none 2 G)
end Go.Proofs.Ytaggonhgafggkaa
