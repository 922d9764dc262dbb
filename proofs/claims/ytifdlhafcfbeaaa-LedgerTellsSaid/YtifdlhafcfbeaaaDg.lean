/-
  A ledger's bytes, the program's and the document's. Conditions are typed with each. (Printed by wip/gen/dg.py.)
  A ledger's bytes, the document's. Conditions are typed with each. (Printed by wip/gen/dg.py.)
  Which ledger bytes tell: plain; one letter read by the program. Conditions are typed with each. (Printed by wip/gen/di.py.)
-/
import Derived.Test.YtifdlhafcfbeaaaDe
import Derived.Test.YtifdlhafcfbeaaaRc
import Derived.Test.YtifdlhafcfbeaaaRd
namespace Go.Proofs.Ytifdlhafcfbeaaa
open Go.RowKit
set_option maxRecDepth 100000
def letB1 (x : LtX) : List UInt8 := rowB x.1 ++ putB (uN x.2.1) 1
def letB2 (x : LtX) : List UInt8 := putB (uN x.2.2.1) 8 ++ putB (uN x.2.2.2.1) 8
def letB3 (x : LtX) : List UInt8 := rowB x.2.2.2.2.1 ++ rowB x.2.2.2.2.2.1
def letB (x : LtX) : List UInt8 := letB1 x ++ (letB2 x ++ letB3 x)
def ouB (o : OuX) : List UInt8 := putB (uN o.1) 1 ++ (putB (uN o.2.1) 8 ++ putB (uN o.2.2.1) 1)
def flatB {α : Type} (f : α → List UInt8) (L : List α) : List UInt8 := (L.map f).flatten
def lgPre (l : LgX) : List UInt8 := putB (uN l.1) 8 ++ putB (uN l.2.1) 8 ++ putB l.2.2.1.length 2
def bytesL (l : LgX) : List UInt8 := lgPre l ++ flatB letB l.2.2.1 ++ putB l.2.2.2.1.length 2 ++ flatB ouB l.2.2.2.1
theorem letB_len (x : LtX) : (letB x).length = 29 + x.1.length + x.2.2.2.2.1.length + x.2.2.2.2.2.1.length := by
  unfold letB letB1 letB2 letB3
  simp only [List.length_append, pl1, pl8, rowB_len]
  omega
theorem ouB_len (o : OuX) : (ouB o).length = 10 := by
  unfold ouB
  simp only [List.length_append, pl1, pl8]
theorem lgPre_len (l : LgX) : (lgPre l).length = 18 := by
  unfold lgPre
  simp only [List.length_append, pl2, pl8]
theorem flatB_snoc {α : Type} (f : α → List UInt8) (L : List α) (x : α) : flatB f (L ++ [x]) = flatB f L ++ f x := by simp [flatB]
theorem flatB_le {α : Type} {f : α → List UInt8} {m : Nat} : ∀ {L : List α}, (∀ x ∈ L, (f x).length ≤ m) → (flatB f L).length ≤ L.length * m
  | [], _ => by simp [flatB]
  | x :: L, h => by
    have h1 := h x List.mem_cons_self
    have h2 := flatB_le (L := L) fun y hy => h y (List.mem_cons_of_mem _ hy)
    show (f x ++ flatB f L).length ≤ _
    rw [List.length_append, List.length_cons, Nat.succ_mul]
    omega
theorem letB_le {x : LtX} (h : LtOk x) : (letB x).length ≤ 3100 := by
  obtain ⟨h1, h2, h3⟩ := h
  rw [letB_len]
  omega
theorem flat_lt {L : List LtX} (hok : ∀ x ∈ L, LtOk x) (hn : L.length ≤ 64) (i : Nat) : (flatB letB (L.take i)).length ≤ 198400 := by
  have h := flatB_le (f := letB) (m := 3100) (L := L.take i) fun x hx => letB_le (hok x (List.mem_of_mem_take hx))
  have : (L.take i).length ≤ 64 := by rw [List.length_take]; omega
  exact Nat.le_trans h (by have := Nat.mul_le_mul_right 3100 this; omega)
theorem flat_ou {L : List OuX} (hn : L.length ≤ 64) (i : Nat) : (flatB ouB (L.take i)).length ≤ 640 := by
  have h := flatB_le (f := ouB) (m := 10) (L := L.take i) fun x _ => Nat.le_of_eq (ouB_len x)
  have : (L.take i).length ≤ 64 := by rw [List.length_take]; omega
  exact Nat.le_trans h (by have := Nat.mul_le_mul_right 10 this; omega)
theorem lnum_spec (v : Value) (n : Int) (bs : List UInt8) (F : PH) (h : Byt F v bs) (hn : bs.length ≤ 1099511627776) : Spec Try.prog 36 [v, .int .i64 n] F [] fun u F' H' => H' = [] ∧ Byt F' u (bs ++ putB (uN n) 8) := by
  refine Spec.of2 Try.func36 rfl rfl fun X w0 => ?_
  repeat (first|refine zJ rfl rfl ?_|refine jr rfl ?_|refine jn ?_|refine zM rfl rfl ?_|(refine zC rfl rfl ?_ rfl ?_;omega)|(refine zD rfl rfl ?_ rfl ?_;omega)|(refine zP rfl ?_ rfl ?_;omega)|refine zG rfl rfl rfl rfl ?_|(refine jdq rfl rfl ?_ ?_ ?_;kernel_rfl;kernel_rfl)|refine zB rfl rfl rfl (by repeat constructor) rfl ?_|refine zH .here rfl rfl rfl rfl ?_|refine zH (.there .here) rfl rfl rfl rfl ?_|refine zH (.there (.there .here)) rfl rfl rfl rfl ?_)
  try (refine oS (ev_conv rfl rfl rfl (uN_wrap _)) rfl ?_)
  repeat (first|refine zJ rfl rfl ?_|refine jr rfl ?_|refine jn ?_|refine zM rfl rfl ?_|(refine zC rfl rfl ?_ rfl ?_;omega)|(refine zD rfl rfl ?_ rfl ?_;omega)|(refine zP rfl ?_ rfl ?_;omega)|refine zG rfl rfl rfl rfl ?_|(refine jdq rfl rfl ?_ ?_ ?_;kernel_rfl;kernel_rfl)|refine zB rfl rfl rfl (by repeat constructor) rfl ?_|refine zH .here rfl rfl rfl rfl ?_|refine zH (.there .here) rfl rfl rfl rfl ?_|refine zH (.there (.there .here)) rfl rfl rfl rfl ?_)
  refine oC (Hc := []) (Hr := X) (put_p _ _ _ _ F h (uN_lt _) hn) Try.call37 rfl rfl (fun _ s => s) ?_; rintro u1 F1 _ hF1 ⟨rfl, h1⟩
  repeat (first|refine zJ rfl rfl ?_|refine jr rfl ?_|refine jn ?_|refine zM rfl rfl ?_|(refine zC rfl rfl ?_ rfl ?_;omega)|(refine zD rfl rfl ?_ rfl ?_;omega)|(refine zP rfl ?_ rfl ?_;omega)|refine zG rfl rfl rfl rfl ?_|(refine jdq rfl rfl ?_ ?_ ?_;kernel_rfl;kernel_rfl)|refine zB rfl rfl rfl (by repeat constructor) rfl ?_|refine zH .here rfl rfl rfl rfl ?_|refine zH (.there .here) rfl rfl rfl rfl ?_|refine zH (.there (.there .here)) rfl rfl rfl rfl ?_)
  exact J_retv rfl (.tmp rfl .nil) [] (fun w s => s) hF1 ⟨rfl, h1⟩

set_option maxHeartbeats 32000000 in
theorem lbytes_spec (l : LgX) (cs : List Value) (F : PH) (h : LgV F cs l) (hk : InK .i64 l.2.1) (hn : l.2.2.1.length ≤ 64) (hm : l.2.2.2.1.length ≤ 64) (hok : ∀ x ∈ l.2.2.1, LtOk x) : Spec Try.prog 11 [.agg cs.toArray] F [] fun u F' H' => H' = [] ∧ Byt F' u (if rightL l then bytesL l else []) := by
  obtain ⟨s, tt, L, O, _⟩ := l
  obtain ⟨vl, vo, rfl, hL, hO⟩ := h
  dsimp only at hL hO hn hm hok hk ⊢
  refine Spec.of1 Try.func11 rfl rfl fun X w0 => ?_
  obtain ⟨al, cl, rfl, _⟩ := hL.form
  obtain ⟨ao, co, rfl, _⟩ := hO.form
  have hpl : (putB (uN s) 8 ++ putB (uN tt) 8 ++ putB L.length 2).length = 18 := by simp only [List.length_append, pl2, pl8]
  unfold lgC
  refine jc rfl rfl ?_
  refine jr rfl ?_
  refine oE (ev_box rfl .agg) rfl ?_; rintro _ _ _ _ ⟨rfl, b1, rfl, rfl⟩
  repeat (first|refine zJ rfl rfl ?_|refine jr rfl ?_|refine jn ?_|refine zM rfl rfl ?_|(refine zC rfl rfl ?_ rfl ?_;omega)|(refine zD rfl rfl ?_ rfl ?_;omega)|(refine zP rfl ?_ rfl ?_;omega)|refine zG rfl rfl rfl rfl ?_|(refine jdq rfl rfl ?_ ?_ ?_;kernel_rfl;kernel_rfl)|refine zB rfl rfl rfl (by repeat constructor) rfl ?_|refine zH .here rfl rfl rfl rfl ?_|refine zH (.there .here) rfl rfl rfl rfl ?_|refine zH (.there (.there .here)) rfl rfl rfl rfl ?_)
  refine oS (ev_load_agg (cs := [.int .i64 s, .int .i64 tt, .slice al L.length cl, .slice ao O.length co]) rfl rfl (Rdb.ofB (n := 0) .here rfl) rfl) rfl ?_
  have sc := lcheck_spec (s, tt, L, O, ()) (lgC s tt (.slice al L.length cl) (.slice ao O.length co)) F ⟨_, _, rfl, hL, hO⟩ hk (by dsimp only; omega) (by dsimp only; omega) hok
  cases hr : rightL (s, tt, L, O, ()) with
  | false =>
    rw [hr, if_neg (by decide)] at sc
    rw [if_neg (by decide)]
    refine oP (sc) Try.call23 rfl rfl ?_
    repeat (first|refine zJ rfl rfl ?_|refine jr rfl ?_|refine jn ?_|refine zM rfl rfl ?_|(refine zC rfl rfl ?_ rfl ?_;omega)|(refine zD rfl rfl ?_ rfl ?_;omega)|(refine zP rfl ?_ rfl ?_;omega)|refine zG rfl rfl rfl rfl ?_|(refine jdq rfl rfl ?_ ?_ ?_;kernel_rfl;kernel_rfl)|refine zB rfl rfl rfl (by repeat constructor) rfl ?_|refine zH .here rfl rfl rfl rfl ?_|refine zH (.there .here) rfl rfl rfl rfl ?_|refine zH (.there (.there .here)) rfl rfl rfl rfl ?_)
    exact J_retv rfl (.tmp rfl .nil) [] (fun w s => s.drop) (PH.ler _) ⟨rfl, Byt.nil F⟩
  | true =>
  rw [hr, if_pos rfl] at sc
  rw [if_pos rfl]
  clear hr
  refine oP (sc) Try.call23 rfl rfl ?_
  repeat (first|refine zJ rfl rfl ?_|refine jr rfl ?_|refine jn ?_|refine zM rfl rfl ?_|(refine zC rfl rfl ?_ rfl ?_;omega)|(refine zD rfl rfl ?_ rfl ?_;omega)|(refine zP rfl ?_ rfl ?_;omega)|refine zG rfl rfl rfl rfl ?_|(refine jdq rfl rfl ?_ ?_ ?_;kernel_rfl;kernel_rfl)|refine zB rfl rfl rfl (by repeat constructor) rfl ?_|refine zH .here rfl rfl rfl rfl ?_|refine zH (.there .here) rfl rfl rfl rfl ?_|refine zH (.there (.there .here)) rfl rfl rfl rfl ?_)
  refine ja F (blk b1 27 [.int .i64 s, .int .i64 tt, .slice al L.length cl, .slice ao O.length co] :: X) ?_ ?_ ?_; kernel_rfl
  · exact fun w s => s
  refine aT 0 rfl (ev_pv rfl) rfl rfl ?_ ?_ ?_ ?_; kernel_rfl; kernel_rfl; kernel_rfl
  refine aT 1 rfl (ev_pv rfl) rfl rfl ?_ ?_ ?_ ?_; kernel_rfl; kernel_rfl; kernel_rfl
  refine aT 2 rfl (ev_fieldAddr rfl rfl) rfl rfl ?_ ?_ ?_ ?_; kernel_rfl; kernel_rfl; kernel_rfl
  refine aT 3 rfl (ev_load (v := .int .i64 s) rfl rfl (Rdb.ofB (n := 0) .here rfl)) rfl rfl ?_ ?_ ?_ ?_; kernel_rfl; kernel_rfl; kernel_rfl
  refine aT 5 rfl (ev_fieldAddr rfl rfl) rfl rfl ?_ ?_ ?_ ?_; kernel_rfl; kernel_rfl; kernel_rfl
  refine aT 6 rfl (ev_load (v := .int .i64 tt) rfl rfl (Rdb.ofB (n := 0) .here rfl)) rfl rfl ?_ ?_ ?_ ?_; kernel_rfl; kernel_rfl; kernel_rfl
  refine aT 8 rfl (ev_fieldAddr rfl rfl) rfl rfl ?_ ?_ ?_ ?_; kernel_rfl; kernel_rfl; kernel_rfl
  refine aT 9 rfl (ev_load (v := .slice al L.length cl) rfl rfl (Rdb.ofB (n := 0) .here rfl)) rfl rfl ?_ ?_ ?_ ?_; kernel_rfl; kernel_rfl; kernel_rfl
  refine aT 10 rfl (ev_qe rfl) rfl rfl ?_ ?_ ?_ ?_; kernel_rfl; kernel_rfl; kernel_rfl
  refine aT 11 rfl (ev_conv rfl rfl rfl (uN_wrap _)) rfl rfl ?_ ?_ ?_ ?_; kernel_rfl; kernel_rfl; kernel_rfl
  refine aB (i := 4) (by kernel_rfl) ?_
  refine aCF (args := [_, _]) (caps := []) (Hc := []) (Hr := blk b1 27 [.int .i64 s, .int .i64 tt, .slice al L.length cl, .slice ao O.length co] :: X) rfl rfl (lnum_spec _ _ [] F (Byt.nil F) (by simp)) Try.call36 rfl rfl rfl (fun _ s => s) (fun _ _ _ hF hq w s => by obtain ⟨e, _⟩ := hq; subst e; exact s.mono hF) ?_
  rintro u1 F1 _ hF1 ⟨rfl, h1⟩
  refine aFH hF1 ?_
  refine aB (i := 7) (by kernel_rfl) ?_
  refine aCF (args := [_, _]) (caps := []) (Hc := []) (Hr := blk b1 27 [.int .i64 s, .int .i64 tt, .slice al L.length cl, .slice ao O.length co] :: X) rfl rfl (lnum_spec _ _ _ F1 h1 (by first | omega | (simp only [List.length_append, pl1, pl2, pl8, rowB_len, List.length_nil]; omega))) Try.call36 rfl rfl rfl (fun _ s => s) (fun _ _ _ hF hq w s => by obtain ⟨e, _⟩ := hq; subst e; exact s.mono hF) ?_
  rintro u2 F2 _ hF2 ⟨rfl, h2⟩
  refine aFH hF2 ?_
  refine aB (i := 12) (by kernel_rfl) ?_
  refine aC (Hc := []) (Hr := blk b1 27 [.int .i64 s, .int .i64 tt, .slice al L.length cl, .slice ao O.length co] :: X) rfl (put_p _ _ _ _ F2 h2 (uN_lt _) (by first | omega | (simp only [List.length_append, pl1, pl2, pl8, rowB_len, List.length_nil]; omega))) Try.call37 rfl rfl rfl (fun _ s => s) (fun _ _ _ hF hq w s => by obtain ⟨e, _⟩ := hq; subst e; exact s.mono hF) ?_; rintro ub Fb _ hFb ⟨rfl, hb⟩; refine aFH hFb ?_
  refine aT 13 rfl (ev_pv rfl) rfl rfl ?_ ?_ ?_ ?_; kernel_rfl; kernel_rfl; kernel_rfl
  refine aD (by kernel_rfl) ?_
  have hle0 := hF1.trans (hF2.trans hFb)
  have hb : Byt Fb ub (putB (uN s) 8 ++ putB (uN tt) 8 ++ putB L.length 2) := by
    try rw [show uN (L.length : Int) = L.length from uN_nat (by omega)] at hb
    exact hb
  clear h1 h2
  repeat (first|refine zJ rfl rfl ?_|refine jr rfl ?_|refine jn ?_|refine zM rfl rfl ?_|(refine zC rfl rfl ?_ rfl ?_;omega)|(refine zD rfl rfl ?_ rfl ?_;omega)|(refine zP rfl ?_ rfl ?_;omega)|refine zG rfl rfl rfl rfl ?_|(refine jdq rfl rfl ?_ ?_ ?_;kernel_rfl;kernel_rfl)|refine zB rfl rfl rfl (by repeat constructor) rfl ?_|refine zH .here rfl rfl rfl rfl ?_|refine zH (.there .here) rfl rfl rfl rfl ?_|refine zH (.there (.there .here)) rfl rfl rfl rfl ?_)
  refine J_loop (ι := Nat × Value × PH) (fun p => p.1 ≤ L.length ∧ Fb.le p.2.2 ∧ Byt p.2.2 p.2.1 (putB (uN s) 8 ++ putB (uN tt) 8 ++ putB L.length 2 ++ flatB letB (L.take p.1))) (fun p => L.length - p.1) (fun p => [(1, .pointer (some ⟨b1, 0, none⟩)), (3, fnV 36 []), (4, p.2.1), (26, .slice al L.length cl), (27, .int .i64 L.length), (28, .int .i64 p.1)]) (fun p => p.2.2) (fun _ => blk b1 27 [.int .i64 s, .int .i64 tt, .slice al L.length cl, .slice ao O.length co] :: X) (0, ub, Fb) ⟨Nat.zero_le _, PH.ler _, by rw [show flatB letB (L.take (0, ub, Fb).1) = [] from rfl, List.append_nil]; exact hb⟩ ⟨⟨rfl, rfl, rfl, rfl, rfl, rfl, trivial⟩, fun w s => s⟩ ?_
  rintro ⟨i, v, G⟩ ⟨hi, hG, hv⟩
  dsimp only at hi hG hv ⊢
  have hfl := flat_lt hok hn i
  by_cases hlt : i < L.length
  · have g1 : L[i]? = some L[i] := List.getElem?_eq_getElem hlt
    have htk : L.take (i + 1) = L.take i ++ [L[i]] := List.take_succ_eq_append_getElem hlt
    have hx := hok _ (List.getElem_mem hlt)
    generalize L[i] = y at *
    obtain ⟨hx1, hx2, hx3⟩ := hx
    obtain ⟨b, off, ea, hc⟩ := (hL.mono (hle0.trans hG)).at g1
    subst ea
    repeat (first|refine zJ rfl rfl ?_|refine jr rfl ?_|refine jn ?_|refine zM rfl rfl ?_|(refine zC rfl rfl ?_ rfl ?_;omega)|(refine zD rfl rfl ?_ rfl ?_;omega)|(refine zP rfl ?_ rfl ?_;omega)|refine zG rfl rfl rfl rfl ?_|(refine jdq rfl rfl ?_ ?_ ?_;kernel_rfl;kernel_rfl)|refine zB rfl rfl rfl (by repeat constructor) rfl ?_|refine zH .here rfl rfl rfl rfl ?_|refine zH (.there .here) rfl rfl rfl rfl ?_|refine zH (.there (.there .here)) rfl rfl rfl rfl ?_)
    refine oS (ev_indexAddr (i := i) rfl rfl rfl hlt) rfl ?_
    refine oS (ev_load_agg (cs := ltC y) rfl rfl (Rdb.ofF hc) (lt_len y)) rfl ?_
    refine oE (ev_alloc (cs := zLt) rfl) rfl ?_
    rintro _ _ _ _ ⟨rfl, b6, rfl, rfl⟩
    refine oN (ev_store (b := b6) (off := 0) rfl rfl .agg rfl rfl (lay_all (zs := zLt) rfl) (lt_ones y) .here) rfl ?_
    rintro _ _ _ _ ⟨rfl, _, rfl⟩
    generalize (some (⟨b, off, none⟩ : Addr)) = al at *
    generalize hpre : putB (uN s) 8 ++ putB (uN tt) 8 ++ putB L.length 2 ++ flatB letB (L.take i) = P at *
    have hPl : P.length ≤ 198418 := by rw [← hpre, List.length_append]; omega
    repeat (first|refine zJ rfl rfl ?_|refine jr rfl ?_|refine jn ?_|refine zM rfl rfl ?_|(refine zC rfl rfl ?_ rfl ?_;omega)|(refine zD rfl rfl ?_ rfl ?_;omega)|(refine zP rfl ?_ rfl ?_;omega)|refine zG rfl rfl rfl rfl ?_|(refine jdq rfl rfl ?_ ?_ ?_;kernel_rfl;kernel_rfl)|refine zB rfl rfl rfl (by repeat constructor) rfl ?_|refine zH .here rfl rfl rfl rfl ?_|refine zH (.there .here) rfl rfl rfl rfl ?_|refine zH (.there (.there .here)) rfl rfl rfl rfl ?_)
    refine ja G (blk b6 37 (ltC y) :: blk b1 27 [.int .i64 s, .int .i64 tt, .slice al L.length cl, .slice ao O.length co] :: X) ?_ ?_ ?_; kernel_rfl
    · exact fun w s => s
    refine aT 0 rfl (ev_pv rfl) rfl rfl ?_ ?_ ?_ ?_; kernel_rfl; kernel_rfl; kernel_rfl
    refine aT 1 rfl (ev_fieldAddr rfl rfl) rfl rfl ?_ ?_ ?_ ?_; kernel_rfl; kernel_rfl; kernel_rfl
    refine aT 2 rfl (ev_load (v := .string (strOf y.1)) rfl rfl (Rdb.ofB (n := 0) .here rfl)) rfl rfl ?_ ?_ ?_ ?_; kernel_rfl; kernel_rfl; kernel_rfl
    refine aT 5 rfl (ev_fieldAddr rfl rfl) rfl rfl ?_ ?_ ?_ ?_; kernel_rfl; kernel_rfl; kernel_rfl
    refine aT 6 rfl (ev_load (v := .int .i64 y.2.1) rfl rfl (Rdb.ofB (n := 0) .here rfl)) rfl rfl ?_ ?_ ?_ ?_; kernel_rfl; kernel_rfl; kernel_rfl
    refine aT 7 rfl (ev_conv rfl rfl rfl (uN_wrap _)) rfl rfl ?_ ?_ ?_ ?_; kernel_rfl; kernel_rfl; kernel_rfl
    refine aB (i := 3) (by kernel_rfl) ?_
    refine aE rfl (eb_bytes rfl) rfl rfl (fun _ _ _ hF hq w s => by obtain ⟨_, e⟩ := hq; subst e; exact s.mono hF) ?_; rintro u1 F1 _ hF1 ⟨h1, rfl⟩; refine aFH hF1 ?_
    refine aB (i := 4) (by kernel_rfl) ?_
    refine aC (Hc := []) (Hr := blk b6 37 (ltC y) :: blk b1 27 [.int .i64 s, .int .i64 tt, .slice al L.length cl, .slice ao O.length co] :: X) rfl (row_p _ _ _ _ F1 (SliceV.mono hv hF1) h1 (by omega) (by omega)) Try.call38 rfl rfl rfl (fun _ s => s) (fun _ _ _ hF hq w s => by obtain ⟨e, _⟩ := hq; subst e; exact s.mono hF) ?_; rintro u2 F2 _ hF2 ⟨rfl, h2⟩; refine aFH hF2 ?_
    refine aB (i := 8) (by kernel_rfl) ?_
    refine aC (Hc := []) (Hr := blk b6 37 (ltC y) :: blk b1 27 [.int .i64 s, .int .i64 tt, .slice al L.length cl, .slice ao O.length co] :: X) rfl (put_p _ _ _ _ F2 h2 (uN_lt _) (by first | omega | (simp only [List.length_append, pl1, pl2, pl8, rowB_len, List.length_nil]; omega))) Try.call37 rfl rfl rfl (fun _ s => s) (fun _ _ _ hF hq w s => by obtain ⟨e, _⟩ := hq; subst e; exact s.mono hF) ?_; rintro u3 F3 _ hF3 ⟨rfl, h3⟩; refine aFH hF3 ?_
    refine aT 9 rfl (ev_pv rfl) rfl rfl ?_ ?_ ?_ ?_; kernel_rfl; kernel_rfl; kernel_rfl
    refine aD (by kernel_rfl) ?_
    have le3 := hF1.trans (hF2.trans hF3)
    clear h1 h2 hv
    replace h3 : Byt F3 u3 (P ++ letB1 y) := by rw [List.append_assoc] at h3; exact h3
    have l1 : (P ++ letB1 y).length ≤ 200000 := by unfold letB1; simp only [List.length_append, pl1, rowB_len]; omega
    generalize hP1 : P ++ letB1 y = P1 at *
    repeat (first|refine zJ rfl rfl ?_|refine jr rfl ?_|refine jn ?_|refine zM rfl rfl ?_|(refine zC rfl rfl ?_ rfl ?_;omega)|(refine zD rfl rfl ?_ rfl ?_;omega)|(refine zP rfl ?_ rfl ?_;omega)|refine zG rfl rfl rfl rfl ?_|(refine jdq rfl rfl ?_ ?_ ?_;kernel_rfl;kernel_rfl)|refine zB rfl rfl rfl (by repeat constructor) rfl ?_|refine zH .here rfl rfl rfl rfl ?_|refine zH (.there .here) rfl rfl rfl rfl ?_|refine zH (.there (.there .here)) rfl rfl rfl rfl ?_)
    refine ja F3 (blk b6 37 (ltC y) :: blk b1 27 [.int .i64 s, .int .i64 tt, .slice al L.length cl, .slice ao O.length co] :: X) ?_ ?_ ?_; kernel_rfl
    · exact fun w s => s
    refine aT 0 rfl (ev_pv rfl) rfl rfl ?_ ?_ ?_ ?_; kernel_rfl; kernel_rfl; kernel_rfl
    refine aT 1 rfl (ev_pv rfl) rfl rfl ?_ ?_ ?_ ?_; kernel_rfl; kernel_rfl; kernel_rfl
    refine aT 2 rfl (ev_pv rfl) rfl rfl ?_ ?_ ?_ ?_; kernel_rfl; kernel_rfl; kernel_rfl
    refine aT 3 rfl (ev_fieldAddr rfl rfl) rfl rfl ?_ ?_ ?_ ?_; kernel_rfl; kernel_rfl; kernel_rfl
    refine aT 4 rfl (ev_load (v := .int .i64 y.2.2.1) rfl rfl (Rdb.ofB (n := 0) .here rfl)) rfl rfl ?_ ?_ ?_ ?_; kernel_rfl; kernel_rfl; kernel_rfl
    refine aT 6 rfl (ev_fieldAddr rfl rfl) rfl rfl ?_ ?_ ?_ ?_; kernel_rfl; kernel_rfl; kernel_rfl
    refine aT 7 rfl (ev_load (v := .int .i64 y.2.2.2.1) rfl rfl (Rdb.ofB (n := 0) .here rfl)) rfl rfl ?_ ?_ ?_ ?_; kernel_rfl; kernel_rfl; kernel_rfl
    refine aB (i := 5) (by kernel_rfl) ?_
    refine aCF (args := [_, _]) (caps := []) (Hc := []) (Hr := blk b6 37 (ltC y) :: blk b1 27 [.int .i64 s, .int .i64 tt, .slice al L.length cl, .slice ao O.length co] :: X) rfl rfl (lnum_spec _ _ _ F3 h3 (by omega)) Try.call36 rfl rfl rfl (fun _ s => s) (fun _ _ _ hF hq w s => by obtain ⟨e, _⟩ := hq; subst e; exact s.mono hF) ?_
    rintro u4 F4 _ hF4 ⟨rfl, h4⟩
    refine aFH hF4 ?_
    refine aB (i := 8) (by kernel_rfl) ?_
    refine aCF (args := [_, _]) (caps := []) (Hc := []) (Hr := blk b6 37 (ltC y) :: blk b1 27 [.int .i64 s, .int .i64 tt, .slice al L.length cl, .slice ao O.length co] :: X) rfl rfl (lnum_spec _ _ _ F4 h4 (by first | omega | (simp only [List.length_append, pl1, pl2, pl8, rowB_len, List.length_nil]; omega))) Try.call36 rfl rfl rfl (fun _ s => s) (fun _ _ _ hF hq w s => by obtain ⟨e, _⟩ := hq; subst e; exact s.mono hF) ?_
    rintro u5 F5 _ hF5 ⟨rfl, h5⟩
    refine aFH hF5 ?_
    refine aT 9 rfl (ev_pv rfl) rfl rfl ?_ ?_ ?_ ?_; kernel_rfl; kernel_rfl; kernel_rfl
    refine aD (by kernel_rfl) ?_
    have le5 := le3.trans (hF4.trans hF5)
    clear h3 h4
    replace h5 : Byt F5 u5 (P1 ++ letB2 y) := by rw [List.append_assoc] at h5; exact h5
    have l2 : (P1 ++ letB2 y).length ≤ 200100 := by unfold letB2; simp only [List.length_append, pl8]; omega
    generalize hP2 : P1 ++ letB2 y = P2 at *
    repeat (first|refine zJ rfl rfl ?_|refine jr rfl ?_|refine jn ?_|refine zM rfl rfl ?_|(refine zC rfl rfl ?_ rfl ?_;omega)|(refine zD rfl rfl ?_ rfl ?_;omega)|(refine zP rfl ?_ rfl ?_;omega)|refine zG rfl rfl rfl rfl ?_|(refine jdq rfl rfl ?_ ?_ ?_;kernel_rfl;kernel_rfl)|refine zB rfl rfl rfl (by repeat constructor) rfl ?_|refine zH .here rfl rfl rfl rfl ?_|refine zH (.there .here) rfl rfl rfl rfl ?_|refine zH (.there (.there .here)) rfl rfl rfl rfl ?_)
    clear hF1 hF2 hF3 hF4 hF5
    refine J_join [_] (fun q : Value × PH => F5.le q.2 ∧ Byt q.2 q.1 (P2 ++ letB3 y)) (fun q => [(1, .pointer (some ⟨b1, 0, none⟩)), (3, fnV 36 []), (4, q.1), (26, .slice al L.length cl), (27, .int .i64 L.length), (28, .int .i64 i)]) (fun q => q.2) (fun _ => blk b6 37 (ltC y) :: blk b1 27 [.int .i64 s, .int .i64 tt, .slice al L.length cl, .slice ao O.length co] :: X) ?_ ?_
    · refine ja F5 (blk b6 37 (ltC y) :: blk b1 27 [.int .i64 s, .int .i64 tt, .slice al L.length cl, .slice ao O.length co] :: X) ?_ ?_ ?_; kernel_rfl
      · exact fun w s => s
      refine aT 0 rfl (ev_pv rfl) rfl rfl ?_ ?_ ?_ ?_; kernel_rfl; kernel_rfl; kernel_rfl
      refine aT 1 rfl (ev_fieldAddr rfl rfl) rfl rfl ?_ ?_ ?_ ?_; kernel_rfl; kernel_rfl; kernel_rfl
      refine aT 2 rfl (ev_load (v := .string (strOf y.2.2.2.2.1)) rfl rfl (Rdb.ofB (n := 0) .here rfl)) rfl rfl ?_ ?_ ?_ ?_; kernel_rfl; kernel_rfl; kernel_rfl
      refine aT 5 rfl (ev_fieldAddr rfl rfl) rfl rfl ?_ ?_ ?_ ?_; kernel_rfl; kernel_rfl; kernel_rfl
      refine aT 6 rfl (ev_load (v := .string (strOf y.2.2.2.2.2.1)) rfl rfl (Rdb.ofB (n := 0) .here rfl)) rfl rfl ?_ ?_ ?_ ?_; kernel_rfl; kernel_rfl; kernel_rfl
      refine aB2 (i := 3) (i' := 7) (by kernel_rfl) ?_ ?_
      · refine aE rfl (eb_bytes rfl) rfl rfl (fun _ _ _ hF hq w s => by obtain ⟨_, e⟩ := hq; subst e; exact s.mono hF) ?_; rintro u7 F7 _ hF7 ⟨h7, rfl⟩; refine aFH hF7 ?_
        refine aB2 (i := 4) (i' := 7) (by kernel_rfl) ?_ ?_
        · refine aC (Hc := []) (Hr := blk b6 37 (ltC y) :: blk b1 27 [.int .i64 s, .int .i64 tt, .slice al L.length cl, .slice ao O.length co] :: X) rfl (row_p _ _ _ _ F7 (SliceV.mono h5 hF7) h7 (by first | omega | (simp only [List.length_append, pl1, pl2, pl8, rowB_len, List.length_nil]; omega)) (by omega)) Try.call38 rfl rfl rfl (fun _ s => s) (fun _ _ _ hF hq w s => by obtain ⟨e, _⟩ := hq; subst e; exact s.mono hF) ?_; rintro u8 F8 _ hF8 ⟨rfl, h8⟩; refine aFH hF8 ?_
          refine aB (i := 7) (by kernel_rfl) ?_
          refine aE rfl (eb_bytes rfl) rfl rfl (fun _ _ _ hF hq w s => by obtain ⟨_, e⟩ := hq; subst e; exact s.mono hF) ?_; rintro u9 F9 _ hF9 ⟨h9, rfl⟩; refine aFH hF9 ?_
          refine aB (i := 8) (by kernel_rfl) ?_
          refine aC (Hc := []) (Hr := blk b6 37 (ltC y) :: blk b1 27 [.int .i64 s, .int .i64 tt, .slice al L.length cl, .slice ao O.length co] :: X) rfl (row_p _ _ _ _ F9 (SliceV.mono h8 hF9) h9 (by first | omega | (simp only [List.length_append, pl1, pl2, pl8, rowB_len, List.length_nil]; omega)) (by omega)) Try.call38 rfl rfl rfl (fun _ s => s) (fun _ _ _ hF hq w s => by obtain ⟨e, _⟩ := hq; subst e; exact s.mono hF) ?_; rintro u10 F10 _ hF10 ⟨rfl, h10⟩; refine aFH hF10 ?_
          refine aT 9 rfl (ev_pv rfl) rfl rfl ?_ ?_ ?_ ?_; kernel_rfl; kernel_rfl; kernel_rfl
          refine aD (by kernel_rfl) ?_
          exact J_joined (u10, F10) ⟨(hF7.trans (hF8.trans (hF9.trans hF10))), by dsimp only; rw [List.append_assoc] at h10; exact h10⟩ ⟨⟨rfl, rfl, rfl, rfl, rfl, rfl, trivial⟩, fun w s => s⟩
        · refine aE rfl (eb_bytes rfl) rfl rfl (fun _ _ _ hF hq w s => by obtain ⟨_, e⟩ := hq; subst e; exact s.mono hF) ?_; rintro u9 F9 _ hF9 ⟨h9, rfl⟩; refine aFH hF9 ?_
          refine aB (i := 4) (by kernel_rfl) ?_
          refine aC (Hc := []) (Hr := blk b6 37 (ltC y) :: blk b1 27 [.int .i64 s, .int .i64 tt, .slice al L.length cl, .slice ao O.length co] :: X) rfl (row_p _ _ _ _ F9 (SliceV.mono h5 (hF7.trans hF9)) (SliceV.mono h7 hF9) (by first | omega | (simp only [List.length_append, pl1, pl2, pl8, rowB_len, List.length_nil]; omega)) (by omega)) Try.call38 rfl rfl rfl (fun _ s => s) (fun _ _ _ hF hq w s => by obtain ⟨e, _⟩ := hq; subst e; exact s.mono hF) ?_; rintro u8 F8 _ hF8 ⟨rfl, h8⟩; refine aFH hF8 ?_
          refine aB (i := 8) (by kernel_rfl) ?_
          refine aC (Hc := []) (Hr := blk b6 37 (ltC y) :: blk b1 27 [.int .i64 s, .int .i64 tt, .slice al L.length cl, .slice ao O.length co] :: X) rfl (row_p _ _ _ _ F8 h8 (SliceV.mono h9 hF8) (by first | omega | (simp only [List.length_append, pl1, pl2, pl8, rowB_len, List.length_nil]; omega)) (by omega)) Try.call38 rfl rfl rfl (fun _ s => s) (fun _ _ _ hF hq w s => by obtain ⟨e, _⟩ := hq; subst e; exact s.mono hF) ?_; rintro u10 F10 _ hF10 ⟨rfl, h10⟩; refine aFH hF10 ?_
          refine aT 9 rfl (ev_pv rfl) rfl rfl ?_ ?_ ?_ ?_; kernel_rfl; kernel_rfl; kernel_rfl
          refine aD (by kernel_rfl) ?_
          exact J_joined (u10, F10) ⟨(hF7.trans (hF9.trans (hF8.trans hF10))), by dsimp only; rw [List.append_assoc] at h10; exact h10⟩ ⟨⟨rfl, rfl, rfl, rfl, rfl, rfl, trivial⟩, fun w s => s⟩
      · refine aE rfl (eb_bytes rfl) rfl rfl (fun _ _ _ hF hq w s => by obtain ⟨_, e⟩ := hq; subst e; exact s.mono hF) ?_; rintro u9 F9 _ hF9 ⟨h9, rfl⟩; refine aFH hF9 ?_
        refine aB (i := 3) (by kernel_rfl) ?_
        refine aE rfl (eb_bytes rfl) rfl rfl (fun _ _ _ hF hq w s => by obtain ⟨_, e⟩ := hq; subst e; exact s.mono hF) ?_; rintro u7 F7 _ hF7 ⟨h7, rfl⟩; refine aFH hF7 ?_
        refine aB (i := 4) (by kernel_rfl) ?_
        refine aC (Hc := []) (Hr := blk b6 37 (ltC y) :: blk b1 27 [.int .i64 s, .int .i64 tt, .slice al L.length cl, .slice ao O.length co] :: X) rfl (row_p _ _ _ _ F7 (SliceV.mono h5 (hF9.trans hF7)) h7 (by first | omega | (simp only [List.length_append, pl1, pl2, pl8, rowB_len, List.length_nil]; omega)) (by omega)) Try.call38 rfl rfl rfl (fun _ s => s) (fun _ _ _ hF hq w s => by obtain ⟨e, _⟩ := hq; subst e; exact s.mono hF) ?_; rintro u8 F8 _ hF8 ⟨rfl, h8⟩; refine aFH hF8 ?_
        refine aB (i := 8) (by kernel_rfl) ?_
        refine aC (Hc := []) (Hr := blk b6 37 (ltC y) :: blk b1 27 [.int .i64 s, .int .i64 tt, .slice al L.length cl, .slice ao O.length co] :: X) rfl (row_p _ _ _ _ F8 h8 (SliceV.mono h9 (hF7.trans hF8)) (by first | omega | (simp only [List.length_append, pl1, pl2, pl8, rowB_len, List.length_nil]; omega)) (by omega)) Try.call38 rfl rfl rfl (fun _ s => s) (fun _ _ _ hF hq w s => by obtain ⟨e, _⟩ := hq; subst e; exact s.mono hF) ?_; rintro u10 F10 _ hF10 ⟨rfl, h10⟩; refine aFH hF10 ?_
        refine aT 9 rfl (ev_pv rfl) rfl rfl ?_ ?_ ?_ ?_; kernel_rfl; kernel_rfl; kernel_rfl
        refine aD (by kernel_rfl) ?_
        exact J_joined (u10, F10) ⟨(hF9.trans (hF7.trans (hF8.trans hF10))), by dsimp only; rw [List.append_assoc] at h10; exact h10⟩ ⟨⟨rfl, rfl, rfl, rfl, rfl, rfl, trivial⟩, fun w s => s⟩
    rintro ⟨u6, F6⟩ ⟨hF6, h6⟩
    dsimp only at hF6 h6
    repeat (first|refine zJ rfl rfl ?_|refine jr rfl ?_|refine jn ?_|refine zM rfl rfl ?_|(refine zC rfl rfl ?_ rfl ?_;omega)|(refine zD rfl rfl ?_ rfl ?_;omega)|(refine zP rfl ?_ rfl ?_;omega)|refine zG rfl rfl rfl rfl ?_|(refine jdq rfl rfl ?_ ?_ ?_;kernel_rfl;kernel_rfl)|refine zB rfl rfl rfl (by repeat constructor) rfl ?_|refine zH .here rfl rfl rfl rfl ?_|refine zH (.there .here) rfl rfl rfl rfl ?_|refine zH (.there (.there .here)) rfl rfl rfl rfl ?_)
    refine J_again (i + 1, u6, F6) ⟨hlt, hG.trans (le5.trans hF6), ?_⟩ (by dsimp only; omega) ⟨⟨rfl, rfl, rfl, rfl, rfl, rfl, trivial⟩, fun w s => s.drop⟩
    dsimp only
    rw [htk, flatB_snoc, ← List.append_assoc, hpre]
    have e : P ++ letB y = P2 ++ letB3 y := by
      rw [← hP2, ← hP1]
      unfold letB
      simp only [List.append_assoc]
    rw [e]
    exact h6
  · obtain rfl : i = L.length := by omega
    rw [List.take_length] at hv hfl
    generalize hpre : putB (uN s) 8 ++ putB (uN tt) 8 ++ putB L.length 2 ++ flatB letB L = P0 at *
    have hPl : P0.length ≤ 198418 := by rw [← hpre, List.length_append]; omega
    repeat (first|refine zJ rfl rfl ?_|refine jr rfl ?_|refine jn ?_|refine zM rfl rfl ?_|(refine zC rfl rfl ?_ rfl ?_;omega)|(refine zD rfl rfl ?_ rfl ?_;omega)|(refine zP rfl ?_ rfl ?_;omega)|refine zG rfl rfl rfl rfl ?_|(refine jdq rfl rfl ?_ ?_ ?_;kernel_rfl;kernel_rfl)|refine zB rfl rfl rfl (by repeat constructor) rfl ?_|refine zH .here rfl rfl rfl rfl ?_|refine zH (.there .here) rfl rfl rfl rfl ?_|refine zH (.there (.there .here)) rfl rfl rfl rfl ?_)
    try (refine oS (ev_conv rfl rfl rfl (uN_wrap _)) rfl ?_)
    repeat (first|refine zJ rfl rfl ?_|refine jr rfl ?_|refine jn ?_|refine zM rfl rfl ?_|(refine zC rfl rfl ?_ rfl ?_;omega)|(refine zD rfl rfl ?_ rfl ?_;omega)|(refine zP rfl ?_ rfl ?_;omega)|refine zG rfl rfl rfl rfl ?_|(refine jdq rfl rfl ?_ ?_ ?_;kernel_rfl;kernel_rfl)|refine zB rfl rfl rfl (by repeat constructor) rfl ?_|refine zH .here rfl rfl rfl rfl ?_|refine zH (.there .here) rfl rfl rfl rfl ?_|refine zH (.there (.there .here)) rfl rfl rfl rfl ?_)
    refine oC (Hc := []) (Hr := blk b1 27 [.int .i64 s, .int .i64 tt, .slice al L.length cl, .slice ao O.length co] :: X) (put_p _ O.length _ _ G hv (by omega) (by omega)) Try.call37 rfl rfl (fun _ s => s) ?_; rintro ud Fd _ hFd ⟨rfl, hd⟩
    have hd0 : Byt Fd ud (P0 ++ putB O.length 2) := by
      try rw [show uN (O.length : Int) = O.length from uN_nat (by omega)] at hd
      exact hd
    have hle1 := hle0.trans (hG.trans hFd)
    generalize hP : P0 ++ putB O.length 2 = P at *
    have hPl2 : P.length ≤ 198420 := by rw [← hP, List.length_append, pl2]; omega
    repeat (first|refine zJ rfl rfl ?_|refine jr rfl ?_|refine jn ?_|refine zM rfl rfl ?_|(refine zC rfl rfl ?_ rfl ?_;omega)|(refine zD rfl rfl ?_ rfl ?_;omega)|(refine zP rfl ?_ rfl ?_;omega)|refine zG rfl rfl rfl rfl ?_|(refine jdq rfl rfl ?_ ?_ ?_;kernel_rfl;kernel_rfl)|refine zB rfl rfl rfl (by repeat constructor) rfl ?_|refine zH .here rfl rfl rfl rfl ?_|refine zH (.there .here) rfl rfl rfl rfl ?_|refine zH (.there (.there .here)) rfl rfl rfl rfl ?_)
    refine J_loop (ι := Nat × Value × PH) (fun p => p.1 ≤ O.length ∧ Fd.le p.2.2 ∧ Byt p.2.2 p.2.1 (P ++ flatB ouB (O.take p.1))) (fun p => O.length - p.1) (fun p => [(3, fnV 36 []), (4, p.2.1), (67, .slice ao O.length co), (68, .int .i64 O.length), (69, .int .i64 p.1)]) (fun p => p.2.2) (fun _ => blk b1 27 [.int .i64 s, .int .i64 tt, .slice al L.length cl, .slice ao O.length co] :: X) (0, ud, Fd) ⟨Nat.zero_le _, PH.ler _, by rw [show flatB ouB (O.take (0, ud, Fd).1) = [] from rfl, List.append_nil]; exact hd0⟩ ⟨⟨rfl, rfl, rfl, rfl, rfl, trivial⟩, fun w s => s⟩ ?_
    rintro ⟨i, v, G⟩ ⟨hi, hG, hv⟩
    dsimp only at hi hG hv ⊢
    have hfl := flat_ou hm i
    by_cases hlt : i < O.length
    · have g1 : O[i]? = some O[i] := List.getElem?_eq_getElem hlt
      have htk : O.take (i + 1) = O.take i ++ [O[i]] := List.take_succ_eq_append_getElem hlt
      generalize O[i] = y at *
      obtain ⟨b, off, ea, hc⟩ := (hO.mono (hle1.trans hG)).at g1
      subst ea
      repeat (first|refine zJ rfl rfl ?_|refine jr rfl ?_|refine jn ?_|refine zM rfl rfl ?_|(refine zC rfl rfl ?_ rfl ?_;omega)|(refine zD rfl rfl ?_ rfl ?_;omega)|(refine zP rfl ?_ rfl ?_;omega)|refine zG rfl rfl rfl rfl ?_|(refine jdq rfl rfl ?_ ?_ ?_;kernel_rfl;kernel_rfl)|refine zB rfl rfl rfl (by repeat constructor) rfl ?_|refine zH .here rfl rfl rfl rfl ?_|refine zH (.there .here) rfl rfl rfl rfl ?_|refine zH (.there (.there .here)) rfl rfl rfl rfl ?_)
      refine oS (ev_indexAddr (i := i) rfl rfl rfl hlt) rfl ?_
      refine oS (ev_load_agg (cs := ouC y) rfl rfl (Rdb.ofF hc) (ou_len y)) rfl ?_
      refine oE (ev_alloc (cs := zOu) rfl) rfl ?_
      rintro _ _ _ _ ⟨rfl, b6, rfl, rfl⟩
      refine oN (ev_store (b := b6) (off := 0) rfl rfl .agg rfl rfl (lay_all (zs := zOu) rfl) (ou_ones y) .here) rfl ?_
      rintro _ _ _ _ ⟨rfl, _, rfl⟩
      generalize (some (⟨b, off, none⟩ : Addr)) = ao at *
      generalize hpre : P ++ flatB ouB (O.take i) = P1 at *
      have hP1l : P1.length ≤ 300000 := by rw [← hpre, List.length_append]; omega
      repeat (first|refine zJ rfl rfl ?_|refine jr rfl ?_|refine jn ?_|refine zM rfl rfl ?_|(refine zC rfl rfl ?_ rfl ?_;omega)|(refine zD rfl rfl ?_ rfl ?_;omega)|(refine zP rfl ?_ rfl ?_;omega)|refine zG rfl rfl rfl rfl ?_|(refine jdq rfl rfl ?_ ?_ ?_;kernel_rfl;kernel_rfl)|refine zB rfl rfl rfl (by repeat constructor) rfl ?_|refine zH .here rfl rfl rfl rfl ?_|refine zH (.there .here) rfl rfl rfl rfl ?_|refine zH (.there (.there .here)) rfl rfl rfl rfl ?_)
      refine ja G (blk b6 39 (ouC y) :: blk b1 27 [.int .i64 s, .int .i64 tt, .slice al L.length cl, .slice ao O.length co] :: X) ?_ ?_ ?_; kernel_rfl
      · exact fun w s => s
      refine aT 0 rfl (ev_pv rfl) rfl rfl ?_ ?_ ?_ ?_; kernel_rfl; kernel_rfl; kernel_rfl
      refine aT 1 rfl (ev_pv rfl) rfl rfl ?_ ?_ ?_ ?_; kernel_rfl; kernel_rfl; kernel_rfl
      refine aT 2 rfl (ev_fieldAddr rfl rfl) rfl rfl ?_ ?_ ?_ ?_; kernel_rfl; kernel_rfl; kernel_rfl
      refine aT 3 rfl (ev_load (v := .int .i64 y.1) rfl rfl (Rdb.ofB (n := 0) .here rfl)) rfl rfl ?_ ?_ ?_ ?_; kernel_rfl; kernel_rfl; kernel_rfl
      refine aT 4 rfl (ev_conv rfl rfl rfl (uN_wrap _)) rfl rfl ?_ ?_ ?_ ?_; kernel_rfl; kernel_rfl; kernel_rfl
      refine aT 6 rfl (ev_fieldAddr rfl rfl) rfl rfl ?_ ?_ ?_ ?_; kernel_rfl; kernel_rfl; kernel_rfl
      refine aT 7 rfl (ev_load (v := .int .i64 y.2.1) rfl rfl (Rdb.ofB (n := 0) .here rfl)) rfl rfl ?_ ?_ ?_ ?_; kernel_rfl; kernel_rfl; kernel_rfl
      refine aB (i := 5) (by kernel_rfl) ?_
      refine aC (Hc := []) (Hr := blk b6 39 (ouC y) :: blk b1 27 [.int .i64 s, .int .i64 tt, .slice al L.length cl, .slice ao O.length co] :: X) rfl (put_p _ _ _ _ G hv (uN_lt _) (by omega)) Try.call37 rfl rfl rfl (fun _ s => s) (fun _ _ _ hF hq w s => by obtain ⟨e, _⟩ := hq; subst e; exact s.mono hF) ?_; rintro u1 F1 _ hF1 ⟨rfl, h1⟩; refine aFH hF1 ?_
      refine aB (i := 8) (by kernel_rfl) ?_
      refine aCF (args := [_, _]) (caps := []) (Hc := []) (Hr := blk b6 39 (ouC y) :: blk b1 27 [.int .i64 s, .int .i64 tt, .slice al L.length cl, .slice ao O.length co] :: X) rfl rfl (lnum_spec _ _ _ F1 h1 (by first | omega | (simp only [List.length_append, pl1, pl2, pl8, rowB_len, List.length_nil]; omega))) Try.call36 rfl rfl rfl (fun _ s => s) (fun _ _ _ hF hq w s => by obtain ⟨e, _⟩ := hq; subst e; exact s.mono hF) ?_
      rintro u2 F2 _ hF2 ⟨rfl, h2⟩
      refine aFH hF2 ?_
      refine aT 9 rfl (ev_pv rfl) rfl rfl ?_ ?_ ?_ ?_; kernel_rfl; kernel_rfl; kernel_rfl
      refine aD (by kernel_rfl) ?_
      repeat (first|refine zJ rfl rfl ?_|refine jr rfl ?_|refine jn ?_|refine zM rfl rfl ?_|(refine zC rfl rfl ?_ rfl ?_;omega)|(refine zD rfl rfl ?_ rfl ?_;omega)|(refine zP rfl ?_ rfl ?_;omega)|refine zG rfl rfl rfl rfl ?_|(refine jdq rfl rfl ?_ ?_ ?_;kernel_rfl;kernel_rfl)|refine zB rfl rfl rfl (by repeat constructor) rfl ?_|refine zH .here rfl rfl rfl rfl ?_|refine zH (.there .here) rfl rfl rfl rfl ?_|refine zH (.there (.there .here)) rfl rfl rfl rfl ?_)
      try (refine oS (ev_conv rfl rfl rfl (uN_wrap _)) rfl ?_)
      repeat (first|refine zJ rfl rfl ?_|refine jr rfl ?_|refine jn ?_|refine zM rfl rfl ?_|(refine zC rfl rfl ?_ rfl ?_;omega)|(refine zD rfl rfl ?_ rfl ?_;omega)|(refine zP rfl ?_ rfl ?_;omega)|refine zG rfl rfl rfl rfl ?_|(refine jdq rfl rfl ?_ ?_ ?_;kernel_rfl;kernel_rfl)|refine zB rfl rfl rfl (by repeat constructor) rfl ?_|refine zH .here rfl rfl rfl rfl ?_|refine zH (.there .here) rfl rfl rfl rfl ?_|refine zH (.there (.there .here)) rfl rfl rfl rfl ?_)
      refine oC (Hc := []) (Hr := blk b6 39 (ouC y) :: blk b1 27 [.int .i64 s, .int .i64 tt, .slice al L.length cl, .slice ao O.length co] :: X) (put_p _ _ _ _ F2 h2 (uN_lt _) (by first | omega | (simp only [List.length_append, pl1, pl2, pl8, rowB_len, List.length_nil]; omega))) Try.call37 rfl rfl (fun _ s => s) ?_; rintro u3 F3 _ hF3 ⟨rfl, h3⟩
      repeat (first|refine zJ rfl rfl ?_|refine jr rfl ?_|refine jn ?_|refine zM rfl rfl ?_|(refine zC rfl rfl ?_ rfl ?_;omega)|(refine zD rfl rfl ?_ rfl ?_;omega)|(refine zP rfl ?_ rfl ?_;omega)|refine zG rfl rfl rfl rfl ?_|(refine jdq rfl rfl ?_ ?_ ?_;kernel_rfl;kernel_rfl)|refine zB rfl rfl rfl (by repeat constructor) rfl ?_|refine zH .here rfl rfl rfl rfl ?_|refine zH (.there .here) rfl rfl rfl rfl ?_|refine zH (.there (.there .here)) rfl rfl rfl rfl ?_)
      refine J_again (i + 1, u3, F3) ⟨hlt, hG.trans (hF1.trans (hF2.trans hF3)), ?_⟩ (by dsimp only; omega) ⟨⟨rfl, rfl, rfl, rfl, rfl, trivial⟩, fun w s => s.drop⟩
      dsimp only
      rw [htk, flatB_snoc, ← List.append_assoc, hpre]
      unfold ouB
      rw [← List.append_assoc, ← List.append_assoc]
      exact h3
    · obtain rfl : i = O.length := by omega
      rw [List.take_length] at hv
      repeat (first|refine zJ rfl rfl ?_|refine jr rfl ?_|refine jn ?_|refine zM rfl rfl ?_|(refine zC rfl rfl ?_ rfl ?_;omega)|(refine zD rfl rfl ?_ rfl ?_;omega)|(refine zP rfl ?_ rfl ?_;omega)|refine zG rfl rfl rfl rfl ?_|(refine jdq rfl rfl ?_ ?_ ?_;kernel_rfl;kernel_rfl)|refine zB rfl rfl rfl (by repeat constructor) rfl ?_|refine zH .here rfl rfl rfl rfl ?_|refine zH (.there .here) rfl rfl rfl rfl ?_|refine zH (.there (.there .here)) rfl rfl rfl rfl ?_)
      refine J_retv rfl (.tmp rfl .nil) [] (fun w s => s.drop) (hle1.trans hG) ⟨rfl, ?_⟩
      rw [← hP, ← hpre] at hv
      exact hv
end Go.Proofs.Ytifdlhafcfbeaaa
namespace Go.Proofs.Ytifdlhafcfbeaaa
open Go.RowKit
set_option maxRecDepth 100000

set_option maxHeartbeats 32000000 in
theorem Lbytes_spec (l : LgX) (cs : List Value) (F : PH) (h : LgV F cs l) (hn : l.2.2.1.length ≤ 64) (hm : l.2.2.2.1.length ≤ 64) (hok : ∀ x ∈ l.2.2.1, LtOk x) : Spec Try.prog 26 [.agg cs.toArray] F [] fun u F' H' => H' = [] ∧ Byt F' u (bytesL l) := by
  obtain ⟨s, tt, L, O, _⟩ := l
  obtain ⟨vl, vo, rfl, hL, hO⟩ := h
  dsimp only at hL hO hn hm hok ⊢
  refine Spec.of1 Try.func26 rfl rfl fun X w0 => ?_
  obtain ⟨al, cl, rfl, _⟩ := hL.form
  obtain ⟨ao, co, rfl, _⟩ := hO.form
  have hpl : (putB (uN s) 8 ++ putB (uN tt) 8 ++ putB L.length 2).length = 18 := by simp only [List.length_append, pl2, pl8]
  unfold lgC
  refine jc rfl rfl ?_
  refine jr rfl ?_
  refine oE (ev_box rfl .agg) rfl ?_; rintro _ _ _ _ ⟨rfl, b1, rfl, rfl⟩
  repeat (first|refine zJ rfl rfl ?_|refine jr rfl ?_|refine jn ?_|refine zM rfl rfl ?_|(refine zC rfl rfl ?_ rfl ?_;omega)|(refine zD rfl rfl ?_ rfl ?_;omega)|(refine zP rfl ?_ rfl ?_;omega)|refine zG rfl rfl rfl rfl ?_|(refine jdq rfl rfl ?_ ?_ ?_;kernel_rfl;kernel_rfl)|refine zB rfl rfl rfl (by repeat constructor) rfl ?_|refine zH .here rfl rfl rfl rfl ?_|refine zH (.there .here) rfl rfl rfl rfl ?_|refine zH (.there (.there .here)) rfl rfl rfl rfl ?_)
  refine ja F (blk b1 27 [.int .i64 s, .int .i64 tt, .slice al L.length cl, .slice ao O.length co] :: X) ?_ ?_ ?_; kernel_rfl
  · exact fun w s => s
  refine aT 0 rfl (ev_fieldAddr rfl rfl) rfl rfl ?_ ?_ ?_ ?_; kernel_rfl; kernel_rfl; kernel_rfl
  refine aT 1 rfl (ev_load (v := .int .i64 s) rfl rfl (Rdb.ofB (n := 0) .here rfl)) rfl rfl ?_ ?_ ?_ ?_; kernel_rfl; kernel_rfl; kernel_rfl
  refine aT 2 rfl (ev_conv rfl rfl rfl (uN_wrap _)) rfl rfl ?_ ?_ ?_ ?_; kernel_rfl; kernel_rfl; kernel_rfl
  refine aT 4 rfl (ev_fieldAddr rfl rfl) rfl rfl ?_ ?_ ?_ ?_; kernel_rfl; kernel_rfl; kernel_rfl
  refine aT 5 rfl (ev_load (v := .int .i64 tt) rfl rfl (Rdb.ofB (n := 0) .here rfl)) rfl rfl ?_ ?_ ?_ ?_; kernel_rfl; kernel_rfl; kernel_rfl
  refine aT 6 rfl (ev_conv rfl rfl rfl (uN_wrap _)) rfl rfl ?_ ?_ ?_ ?_; kernel_rfl; kernel_rfl; kernel_rfl
  refine aB (i := 3) (by kernel_rfl) ?_
  refine aC (Hc := []) (Hr := blk b1 27 [.int .i64 s, .int .i64 tt, .slice al L.length cl, .slice ao O.length co] :: X) rfl (Put_p _ _ _ [] F (Byt.nil F) (uN_lt _) (by simp)) Try.call60 rfl rfl rfl (fun _ s => s) (fun _ _ _ hF hq w s => by obtain ⟨e, _⟩ := hq; subst e; exact s.mono hF) ?_; rintro u1 F1 _ hF1 ⟨rfl, h1⟩; refine aFH hF1 ?_
  refine aB (i := 7) (by kernel_rfl) ?_
  refine aC (Hc := []) (Hr := blk b1 27 [.int .i64 s, .int .i64 tt, .slice al L.length cl, .slice ao O.length co] :: X) rfl (Put_p _ _ _ _ F1 h1 (uN_lt _) (by first | omega | (simp only [List.length_append, pl1, pl2, pl8, rowB_len, List.length_nil]; omega))) Try.call60 rfl rfl rfl (fun _ s => s) (fun _ _ _ hF hq w s => by obtain ⟨e, _⟩ := hq; subst e; exact s.mono hF) ?_; rintro u2 F2 _ hF2 ⟨rfl, h2⟩; refine aFH hF2 ?_
  refine aT 8 rfl (ev_pv rfl) rfl rfl ?_ ?_ ?_ ?_; kernel_rfl; kernel_rfl; kernel_rfl
  refine aD (by kernel_rfl) ?_
  repeat (first|refine zJ rfl rfl ?_|refine jr rfl ?_|refine jn ?_|refine zM rfl rfl ?_|(refine zC rfl rfl ?_ rfl ?_;omega)|(refine zD rfl rfl ?_ rfl ?_;omega)|(refine zP rfl ?_ rfl ?_;omega)|refine zG rfl rfl rfl rfl ?_|(refine jdq rfl rfl ?_ ?_ ?_;kernel_rfl;kernel_rfl)|refine zB rfl rfl rfl (by repeat constructor) rfl ?_|refine zH .here rfl rfl rfl rfl ?_|refine zH (.there .here) rfl rfl rfl rfl ?_|refine zH (.there (.there .here)) rfl rfl rfl rfl ?_)
  try (refine oS (ev_conv rfl rfl rfl (uN_wrap _)) rfl ?_)
  repeat (first|refine zJ rfl rfl ?_|refine jr rfl ?_|refine jn ?_|refine zM rfl rfl ?_|(refine zC rfl rfl ?_ rfl ?_;omega)|(refine zD rfl rfl ?_ rfl ?_;omega)|(refine zP rfl ?_ rfl ?_;omega)|refine zG rfl rfl rfl rfl ?_|(refine jdq rfl rfl ?_ ?_ ?_;kernel_rfl;kernel_rfl)|refine zB rfl rfl rfl (by repeat constructor) rfl ?_|refine zH .here rfl rfl rfl rfl ?_|refine zH (.there .here) rfl rfl rfl rfl ?_|refine zH (.there (.there .here)) rfl rfl rfl rfl ?_)
  refine oC (Hc := []) (Hr := blk b1 27 [.int .i64 s, .int .i64 tt, .slice al L.length cl, .slice ao O.length co] :: X) (Put_p _ L.length _ _ F2 h2 (by omega) (by first | omega | (simp only [List.length_append, pl1, pl2, pl8, rowB_len, List.length_nil]; omega))) Try.call60 rfl rfl (fun _ s => s) ?_; rintro ub Fb _ hFb ⟨rfl, hb⟩
  have hle0 := hF1.trans (hF2.trans hFb)
  have hb : Byt Fb ub (putB (uN s) 8 ++ putB (uN tt) 8 ++ putB L.length 2) := by
    try rw [show uN (L.length : Int) = L.length from uN_nat (by omega)] at hb
    exact hb
  clear h1 h2
  repeat (first|refine zJ rfl rfl ?_|refine jr rfl ?_|refine jn ?_|refine zM rfl rfl ?_|(refine zC rfl rfl ?_ rfl ?_;omega)|(refine zD rfl rfl ?_ rfl ?_;omega)|(refine zP rfl ?_ rfl ?_;omega)|refine zG rfl rfl rfl rfl ?_|(refine jdq rfl rfl ?_ ?_ ?_;kernel_rfl;kernel_rfl)|refine zB rfl rfl rfl (by repeat constructor) rfl ?_|refine zH .here rfl rfl rfl rfl ?_|refine zH (.there .here) rfl rfl rfl rfl ?_|refine zH (.there (.there .here)) rfl rfl rfl rfl ?_)
  refine J_loop (ι := Nat × Value × PH) (fun p => p.1 ≤ L.length ∧ Fb.le p.2.2 ∧ Byt p.2.2 p.2.1 (putB (uN s) 8 ++ putB (uN tt) 8 ++ putB L.length 2 ++ flatB letB (L.take p.1))) (fun p => L.length - p.1) (fun p => [(1, .pointer (some ⟨b1, 0, none⟩)), (3, p.2.1), (23, .slice al L.length cl), (24, .int .i64 L.length), (25, .int .i64 p.1)]) (fun p => p.2.2) (fun _ => blk b1 27 [.int .i64 s, .int .i64 tt, .slice al L.length cl, .slice ao O.length co] :: X) (0, ub, Fb) ⟨Nat.zero_le _, PH.ler _, by rw [show flatB letB (L.take (0, ub, Fb).1) = [] from rfl, List.append_nil]; exact hb⟩ ⟨⟨rfl, rfl, rfl, rfl, rfl, trivial⟩, fun w s => s⟩ ?_
  rintro ⟨i, v, G⟩ ⟨hi, hG, hv⟩
  dsimp only at hi hG hv ⊢
  have hfl := flat_lt hok hn i
  by_cases hlt : i < L.length
  · have g1 : L[i]? = some L[i] := List.getElem?_eq_getElem hlt
    have htk : L.take (i + 1) = L.take i ++ [L[i]] := List.take_succ_eq_append_getElem hlt
    have hx := hok _ (List.getElem_mem hlt)
    generalize L[i] = y at *
    obtain ⟨hx1, hx2, hx3⟩ := hx
    obtain ⟨b, off, ea, hc⟩ := (hL.mono (hle0.trans hG)).at g1
    subst ea
    repeat (first|refine zJ rfl rfl ?_|refine jr rfl ?_|refine jn ?_|refine zM rfl rfl ?_|(refine zC rfl rfl ?_ rfl ?_;omega)|(refine zD rfl rfl ?_ rfl ?_;omega)|(refine zP rfl ?_ rfl ?_;omega)|refine zG rfl rfl rfl rfl ?_|(refine jdq rfl rfl ?_ ?_ ?_;kernel_rfl;kernel_rfl)|refine zB rfl rfl rfl (by repeat constructor) rfl ?_|refine zH .here rfl rfl rfl rfl ?_|refine zH (.there .here) rfl rfl rfl rfl ?_|refine zH (.there (.there .here)) rfl rfl rfl rfl ?_)
    refine oS (ev_indexAddr (i := i) rfl rfl rfl hlt) rfl ?_
    refine oS (ev_load_agg (cs := ltC y) rfl rfl (Rdb.ofF hc) (lt_len y)) rfl ?_
    refine oE (ev_alloc (cs := zLt) rfl) rfl ?_
    rintro _ _ _ _ ⟨rfl, b6, rfl, rfl⟩
    refine oN (ev_store (b := b6) (off := 0) rfl rfl .agg rfl rfl (lay_all (zs := zLt) rfl) (lt_ones y) .here) rfl ?_
    rintro _ _ _ _ ⟨rfl, _, rfl⟩
    generalize (some (⟨b, off, none⟩ : Addr)) = al at *
    generalize hpre : putB (uN s) 8 ++ putB (uN tt) 8 ++ putB L.length 2 ++ flatB letB (L.take i) = P at *
    have hPl : P.length ≤ 198418 := by rw [← hpre, List.length_append]; omega
    repeat (first|refine zJ rfl rfl ?_|refine jr rfl ?_|refine jn ?_|refine zM rfl rfl ?_|(refine zC rfl rfl ?_ rfl ?_;omega)|(refine zD rfl rfl ?_ rfl ?_;omega)|(refine zP rfl ?_ rfl ?_;omega)|refine zG rfl rfl rfl rfl ?_|(refine jdq rfl rfl ?_ ?_ ?_;kernel_rfl;kernel_rfl)|refine zB rfl rfl rfl (by repeat constructor) rfl ?_|refine zH .here rfl rfl rfl rfl ?_|refine zH (.there .here) rfl rfl rfl rfl ?_|refine zH (.there (.there .here)) rfl rfl rfl rfl ?_)
    refine ja G (blk b6 37 (ltC y) :: blk b1 27 [.int .i64 s, .int .i64 tt, .slice al L.length cl, .slice ao O.length co] :: X) ?_ ?_ ?_; kernel_rfl
    · exact fun w s => s
    refine aT 0 rfl (ev_pv rfl) rfl rfl ?_ ?_ ?_ ?_; kernel_rfl; kernel_rfl; kernel_rfl
    refine aT 1 rfl (ev_fieldAddr rfl rfl) rfl rfl ?_ ?_ ?_ ?_; kernel_rfl; kernel_rfl; kernel_rfl
    refine aT 2 rfl (ev_load (v := .string (strOf y.1)) rfl rfl (Rdb.ofB (n := 0) .here rfl)) rfl rfl ?_ ?_ ?_ ?_; kernel_rfl; kernel_rfl; kernel_rfl
    refine aT 5 rfl (ev_fieldAddr rfl rfl) rfl rfl ?_ ?_ ?_ ?_; kernel_rfl; kernel_rfl; kernel_rfl
    refine aT 6 rfl (ev_load (v := .int .i64 y.2.1) rfl rfl (Rdb.ofB (n := 0) .here rfl)) rfl rfl ?_ ?_ ?_ ?_; kernel_rfl; kernel_rfl; kernel_rfl
    refine aT 7 rfl (ev_conv rfl rfl rfl (uN_wrap _)) rfl rfl ?_ ?_ ?_ ?_; kernel_rfl; kernel_rfl; kernel_rfl
    refine aB (i := 3) (by kernel_rfl) ?_
    refine aE rfl (eb_bytes rfl) rfl rfl (fun _ _ _ hF hq w s => by obtain ⟨_, e⟩ := hq; subst e; exact s.mono hF) ?_; rintro u1 F1 _ hF1 ⟨h1, rfl⟩; refine aFH hF1 ?_
    refine aB (i := 4) (by kernel_rfl) ?_
    refine aC (Hc := []) (Hr := blk b6 37 (ltC y) :: blk b1 27 [.int .i64 s, .int .i64 tt, .slice al L.length cl, .slice ao O.length co] :: X) rfl (Row_p _ _ _ _ F1 (SliceV.mono hv hF1) h1 (by omega) (by omega)) Try.call61 rfl rfl rfl (fun _ s => s) (fun _ _ _ hF hq w s => by obtain ⟨e, _⟩ := hq; subst e; exact s.mono hF) ?_; rintro u2 F2 _ hF2 ⟨rfl, h2⟩; refine aFH hF2 ?_
    refine aB (i := 8) (by kernel_rfl) ?_
    refine aC (Hc := []) (Hr := blk b6 37 (ltC y) :: blk b1 27 [.int .i64 s, .int .i64 tt, .slice al L.length cl, .slice ao O.length co] :: X) rfl (Put_p _ _ _ _ F2 h2 (uN_lt _) (by first | omega | (simp only [List.length_append, pl1, pl2, pl8, rowB_len, List.length_nil]; omega))) Try.call60 rfl rfl rfl (fun _ s => s) (fun _ _ _ hF hq w s => by obtain ⟨e, _⟩ := hq; subst e; exact s.mono hF) ?_; rintro u3 F3 _ hF3 ⟨rfl, h3⟩; refine aFH hF3 ?_
    refine aT 9 rfl (ev_pv rfl) rfl rfl ?_ ?_ ?_ ?_; kernel_rfl; kernel_rfl; kernel_rfl
    refine aD (by kernel_rfl) ?_
    have le3 := hF1.trans (hF2.trans hF3)
    clear h1 h2 hv
    replace h3 : Byt F3 u3 (P ++ letB1 y) := by rw [List.append_assoc] at h3; exact h3
    have l1 : (P ++ letB1 y).length ≤ 200000 := by unfold letB1; simp only [List.length_append, pl1, rowB_len]; omega
    generalize hP1 : P ++ letB1 y = P1 at *
    repeat (first|refine zJ rfl rfl ?_|refine jr rfl ?_|refine jn ?_|refine zM rfl rfl ?_|(refine zC rfl rfl ?_ rfl ?_;omega)|(refine zD rfl rfl ?_ rfl ?_;omega)|(refine zP rfl ?_ rfl ?_;omega)|refine zG rfl rfl rfl rfl ?_|(refine jdq rfl rfl ?_ ?_ ?_;kernel_rfl;kernel_rfl)|refine zB rfl rfl rfl (by repeat constructor) rfl ?_|refine zH .here rfl rfl rfl rfl ?_|refine zH (.there .here) rfl rfl rfl rfl ?_|refine zH (.there (.there .here)) rfl rfl rfl rfl ?_)
    refine ja F3 (blk b6 37 (ltC y) :: blk b1 27 [.int .i64 s, .int .i64 tt, .slice al L.length cl, .slice ao O.length co] :: X) ?_ ?_ ?_; kernel_rfl
    · exact fun w s => s
    refine aT 0 rfl (ev_pv rfl) rfl rfl ?_ ?_ ?_ ?_; kernel_rfl; kernel_rfl; kernel_rfl
    refine aT 1 rfl (ev_fieldAddr rfl rfl) rfl rfl ?_ ?_ ?_ ?_; kernel_rfl; kernel_rfl; kernel_rfl
    refine aT 2 rfl (ev_load (v := .int .i64 y.2.2.1) rfl rfl (Rdb.ofB (n := 0) .here rfl)) rfl rfl ?_ ?_ ?_ ?_; kernel_rfl; kernel_rfl; kernel_rfl
    refine aT 3 rfl (ev_conv rfl rfl rfl (uN_wrap _)) rfl rfl ?_ ?_ ?_ ?_; kernel_rfl; kernel_rfl; kernel_rfl
    refine aT 5 rfl (ev_fieldAddr rfl rfl) rfl rfl ?_ ?_ ?_ ?_; kernel_rfl; kernel_rfl; kernel_rfl
    refine aT 6 rfl (ev_load (v := .int .i64 y.2.2.2.1) rfl rfl (Rdb.ofB (n := 0) .here rfl)) rfl rfl ?_ ?_ ?_ ?_; kernel_rfl; kernel_rfl; kernel_rfl
    refine aT 7 rfl (ev_conv rfl rfl rfl (uN_wrap _)) rfl rfl ?_ ?_ ?_ ?_; kernel_rfl; kernel_rfl; kernel_rfl
    refine aB (i := 4) (by kernel_rfl) ?_
    refine aC (Hc := []) (Hr := blk b6 37 (ltC y) :: blk b1 27 [.int .i64 s, .int .i64 tt, .slice al L.length cl, .slice ao O.length co] :: X) rfl (Put_p _ _ _ _ F3 h3 (uN_lt _) (by omega)) Try.call60 rfl rfl rfl (fun _ s => s) (fun _ _ _ hF hq w s => by obtain ⟨e, _⟩ := hq; subst e; exact s.mono hF) ?_; rintro u4 F4 _ hF4 ⟨rfl, h4⟩; refine aFH hF4 ?_
    refine aB (i := 8) (by kernel_rfl) ?_
    refine aC (Hc := []) (Hr := blk b6 37 (ltC y) :: blk b1 27 [.int .i64 s, .int .i64 tt, .slice al L.length cl, .slice ao O.length co] :: X) rfl (Put_p _ _ _ _ F4 h4 (uN_lt _) (by first | omega | (simp only [List.length_append, pl1, pl2, pl8, rowB_len, List.length_nil]; omega))) Try.call60 rfl rfl rfl (fun _ s => s) (fun _ _ _ hF hq w s => by obtain ⟨e, _⟩ := hq; subst e; exact s.mono hF) ?_; rintro u5 F5 _ hF5 ⟨rfl, h5⟩; refine aFH hF5 ?_
    refine aT 9 rfl (ev_pv rfl) rfl rfl ?_ ?_ ?_ ?_; kernel_rfl; kernel_rfl; kernel_rfl
    refine aD (by kernel_rfl) ?_
    have le5 := le3.trans (hF4.trans hF5)
    clear h3 h4
    replace h5 : Byt F5 u5 (P1 ++ letB2 y) := by rw [List.append_assoc] at h5; exact h5
    have l2 : (P1 ++ letB2 y).length ≤ 200100 := by unfold letB2; simp only [List.length_append, pl8]; omega
    generalize hP2 : P1 ++ letB2 y = P2 at *
    repeat (first|refine zJ rfl rfl ?_|refine jr rfl ?_|refine jn ?_|refine zM rfl rfl ?_|(refine zC rfl rfl ?_ rfl ?_;omega)|(refine zD rfl rfl ?_ rfl ?_;omega)|(refine zP rfl ?_ rfl ?_;omega)|refine zG rfl rfl rfl rfl ?_|(refine jdq rfl rfl ?_ ?_ ?_;kernel_rfl;kernel_rfl)|refine zB rfl rfl rfl (by repeat constructor) rfl ?_|refine zH .here rfl rfl rfl rfl ?_|refine zH (.there .here) rfl rfl rfl rfl ?_|refine zH (.there (.there .here)) rfl rfl rfl rfl ?_)
    clear hF1 hF2 hF3 hF4 hF5
    refine J_join [_] (fun q : Value × PH => F5.le q.2 ∧ Byt q.2 q.1 (P2 ++ letB3 y)) (fun q => [(1, .pointer (some ⟨b1, 0, none⟩)), (3, q.1), (23, .slice al L.length cl), (24, .int .i64 L.length), (25, .int .i64 i)]) (fun q => q.2) (fun _ => blk b6 37 (ltC y) :: blk b1 27 [.int .i64 s, .int .i64 tt, .slice al L.length cl, .slice ao O.length co] :: X) ?_ ?_
    · refine ja F5 (blk b6 37 (ltC y) :: blk b1 27 [.int .i64 s, .int .i64 tt, .slice al L.length cl, .slice ao O.length co] :: X) ?_ ?_ ?_; kernel_rfl
      · exact fun w s => s
      refine aT 0 rfl (ev_pv rfl) rfl rfl ?_ ?_ ?_ ?_; kernel_rfl; kernel_rfl; kernel_rfl
      refine aT 1 rfl (ev_fieldAddr rfl rfl) rfl rfl ?_ ?_ ?_ ?_; kernel_rfl; kernel_rfl; kernel_rfl
      refine aT 2 rfl (ev_load (v := .string (strOf y.2.2.2.2.1)) rfl rfl (Rdb.ofB (n := 0) .here rfl)) rfl rfl ?_ ?_ ?_ ?_; kernel_rfl; kernel_rfl; kernel_rfl
      refine aT 5 rfl (ev_fieldAddr rfl rfl) rfl rfl ?_ ?_ ?_ ?_; kernel_rfl; kernel_rfl; kernel_rfl
      refine aT 6 rfl (ev_load (v := .string (strOf y.2.2.2.2.2.1)) rfl rfl (Rdb.ofB (n := 0) .here rfl)) rfl rfl ?_ ?_ ?_ ?_; kernel_rfl; kernel_rfl; kernel_rfl
      refine aB2 (i := 3) (i' := 7) (by kernel_rfl) ?_ ?_
      · refine aE rfl (eb_bytes rfl) rfl rfl (fun _ _ _ hF hq w s => by obtain ⟨_, e⟩ := hq; subst e; exact s.mono hF) ?_; rintro u7 F7 _ hF7 ⟨h7, rfl⟩; refine aFH hF7 ?_
        refine aB2 (i := 4) (i' := 7) (by kernel_rfl) ?_ ?_
        · refine aC (Hc := []) (Hr := blk b6 37 (ltC y) :: blk b1 27 [.int .i64 s, .int .i64 tt, .slice al L.length cl, .slice ao O.length co] :: X) rfl (Row_p _ _ _ _ F7 (SliceV.mono h5 hF7) h7 (by first | omega | (simp only [List.length_append, pl1, pl2, pl8, rowB_len, List.length_nil]; omega)) (by omega)) Try.call61 rfl rfl rfl (fun _ s => s) (fun _ _ _ hF hq w s => by obtain ⟨e, _⟩ := hq; subst e; exact s.mono hF) ?_; rintro u8 F8 _ hF8 ⟨rfl, h8⟩; refine aFH hF8 ?_
          refine aB (i := 7) (by kernel_rfl) ?_
          refine aE rfl (eb_bytes rfl) rfl rfl (fun _ _ _ hF hq w s => by obtain ⟨_, e⟩ := hq; subst e; exact s.mono hF) ?_; rintro u9 F9 _ hF9 ⟨h9, rfl⟩; refine aFH hF9 ?_
          refine aB (i := 8) (by kernel_rfl) ?_
          refine aC (Hc := []) (Hr := blk b6 37 (ltC y) :: blk b1 27 [.int .i64 s, .int .i64 tt, .slice al L.length cl, .slice ao O.length co] :: X) rfl (Row_p _ _ _ _ F9 (SliceV.mono h8 hF9) h9 (by first | omega | (simp only [List.length_append, pl1, pl2, pl8, rowB_len, List.length_nil]; omega)) (by omega)) Try.call61 rfl rfl rfl (fun _ s => s) (fun _ _ _ hF hq w s => by obtain ⟨e, _⟩ := hq; subst e; exact s.mono hF) ?_; rintro u10 F10 _ hF10 ⟨rfl, h10⟩; refine aFH hF10 ?_
          refine aT 9 rfl (ev_pv rfl) rfl rfl ?_ ?_ ?_ ?_; kernel_rfl; kernel_rfl; kernel_rfl
          refine aD (by kernel_rfl) ?_
          exact J_joined (u10, F10) ⟨(hF7.trans (hF8.trans (hF9.trans hF10))), by dsimp only; rw [List.append_assoc] at h10; exact h10⟩ ⟨⟨rfl, rfl, rfl, rfl, rfl, trivial⟩, fun w s => s⟩
        · refine aE rfl (eb_bytes rfl) rfl rfl (fun _ _ _ hF hq w s => by obtain ⟨_, e⟩ := hq; subst e; exact s.mono hF) ?_; rintro u9 F9 _ hF9 ⟨h9, rfl⟩; refine aFH hF9 ?_
          refine aB (i := 4) (by kernel_rfl) ?_
          refine aC (Hc := []) (Hr := blk b6 37 (ltC y) :: blk b1 27 [.int .i64 s, .int .i64 tt, .slice al L.length cl, .slice ao O.length co] :: X) rfl (Row_p _ _ _ _ F9 (SliceV.mono h5 (hF7.trans hF9)) (SliceV.mono h7 hF9) (by first | omega | (simp only [List.length_append, pl1, pl2, pl8, rowB_len, List.length_nil]; omega)) (by omega)) Try.call61 rfl rfl rfl (fun _ s => s) (fun _ _ _ hF hq w s => by obtain ⟨e, _⟩ := hq; subst e; exact s.mono hF) ?_; rintro u8 F8 _ hF8 ⟨rfl, h8⟩; refine aFH hF8 ?_
          refine aB (i := 8) (by kernel_rfl) ?_
          refine aC (Hc := []) (Hr := blk b6 37 (ltC y) :: blk b1 27 [.int .i64 s, .int .i64 tt, .slice al L.length cl, .slice ao O.length co] :: X) rfl (Row_p _ _ _ _ F8 h8 (SliceV.mono h9 hF8) (by first | omega | (simp only [List.length_append, pl1, pl2, pl8, rowB_len, List.length_nil]; omega)) (by omega)) Try.call61 rfl rfl rfl (fun _ s => s) (fun _ _ _ hF hq w s => by obtain ⟨e, _⟩ := hq; subst e; exact s.mono hF) ?_; rintro u10 F10 _ hF10 ⟨rfl, h10⟩; refine aFH hF10 ?_
          refine aT 9 rfl (ev_pv rfl) rfl rfl ?_ ?_ ?_ ?_; kernel_rfl; kernel_rfl; kernel_rfl
          refine aD (by kernel_rfl) ?_
          exact J_joined (u10, F10) ⟨(hF7.trans (hF9.trans (hF8.trans hF10))), by dsimp only; rw [List.append_assoc] at h10; exact h10⟩ ⟨⟨rfl, rfl, rfl, rfl, rfl, trivial⟩, fun w s => s⟩
      · refine aE rfl (eb_bytes rfl) rfl rfl (fun _ _ _ hF hq w s => by obtain ⟨_, e⟩ := hq; subst e; exact s.mono hF) ?_; rintro u9 F9 _ hF9 ⟨h9, rfl⟩; refine aFH hF9 ?_
        refine aB (i := 3) (by kernel_rfl) ?_
        refine aE rfl (eb_bytes rfl) rfl rfl (fun _ _ _ hF hq w s => by obtain ⟨_, e⟩ := hq; subst e; exact s.mono hF) ?_; rintro u7 F7 _ hF7 ⟨h7, rfl⟩; refine aFH hF7 ?_
        refine aB (i := 4) (by kernel_rfl) ?_
        refine aC (Hc := []) (Hr := blk b6 37 (ltC y) :: blk b1 27 [.int .i64 s, .int .i64 tt, .slice al L.length cl, .slice ao O.length co] :: X) rfl (Row_p _ _ _ _ F7 (SliceV.mono h5 (hF9.trans hF7)) h7 (by first | omega | (simp only [List.length_append, pl1, pl2, pl8, rowB_len, List.length_nil]; omega)) (by omega)) Try.call61 rfl rfl rfl (fun _ s => s) (fun _ _ _ hF hq w s => by obtain ⟨e, _⟩ := hq; subst e; exact s.mono hF) ?_; rintro u8 F8 _ hF8 ⟨rfl, h8⟩; refine aFH hF8 ?_
        refine aB (i := 8) (by kernel_rfl) ?_
        refine aC (Hc := []) (Hr := blk b6 37 (ltC y) :: blk b1 27 [.int .i64 s, .int .i64 tt, .slice al L.length cl, .slice ao O.length co] :: X) rfl (Row_p _ _ _ _ F8 h8 (SliceV.mono h9 (hF7.trans hF8)) (by first | omega | (simp only [List.length_append, pl1, pl2, pl8, rowB_len, List.length_nil]; omega)) (by omega)) Try.call61 rfl rfl rfl (fun _ s => s) (fun _ _ _ hF hq w s => by obtain ⟨e, _⟩ := hq; subst e; exact s.mono hF) ?_; rintro u10 F10 _ hF10 ⟨rfl, h10⟩; refine aFH hF10 ?_
        refine aT 9 rfl (ev_pv rfl) rfl rfl ?_ ?_ ?_ ?_; kernel_rfl; kernel_rfl; kernel_rfl
        refine aD (by kernel_rfl) ?_
        exact J_joined (u10, F10) ⟨(hF9.trans (hF7.trans (hF8.trans hF10))), by dsimp only; rw [List.append_assoc] at h10; exact h10⟩ ⟨⟨rfl, rfl, rfl, rfl, rfl, trivial⟩, fun w s => s⟩
    rintro ⟨u6, F6⟩ ⟨hF6, h6⟩
    dsimp only at hF6 h6
    repeat (first|refine zJ rfl rfl ?_|refine jr rfl ?_|refine jn ?_|refine zM rfl rfl ?_|(refine zC rfl rfl ?_ rfl ?_;omega)|(refine zD rfl rfl ?_ rfl ?_;omega)|(refine zP rfl ?_ rfl ?_;omega)|refine zG rfl rfl rfl rfl ?_|(refine jdq rfl rfl ?_ ?_ ?_;kernel_rfl;kernel_rfl)|refine zB rfl rfl rfl (by repeat constructor) rfl ?_|refine zH .here rfl rfl rfl rfl ?_|refine zH (.there .here) rfl rfl rfl rfl ?_|refine zH (.there (.there .here)) rfl rfl rfl rfl ?_)
    refine J_again (i + 1, u6, F6) ⟨hlt, hG.trans (le5.trans hF6), ?_⟩ (by dsimp only; omega) ⟨⟨rfl, rfl, rfl, rfl, rfl, trivial⟩, fun w s => s.drop⟩
    dsimp only
    rw [htk, flatB_snoc, ← List.append_assoc, hpre]
    have e : P ++ letB y = P2 ++ letB3 y := by
      rw [← hP2, ← hP1]
      unfold letB
      simp only [List.append_assoc]
    rw [e]
    exact h6
  · obtain rfl : i = L.length := by omega
    rw [List.take_length] at hv hfl
    generalize hpre : putB (uN s) 8 ++ putB (uN tt) 8 ++ putB L.length 2 ++ flatB letB L = P0 at *
    have hPl : P0.length ≤ 198418 := by rw [← hpre, List.length_append]; omega
    repeat (first|refine zJ rfl rfl ?_|refine jr rfl ?_|refine jn ?_|refine zM rfl rfl ?_|(refine zC rfl rfl ?_ rfl ?_;omega)|(refine zD rfl rfl ?_ rfl ?_;omega)|(refine zP rfl ?_ rfl ?_;omega)|refine zG rfl rfl rfl rfl ?_|(refine jdq rfl rfl ?_ ?_ ?_;kernel_rfl;kernel_rfl)|refine zB rfl rfl rfl (by repeat constructor) rfl ?_|refine zH .here rfl rfl rfl rfl ?_|refine zH (.there .here) rfl rfl rfl rfl ?_|refine zH (.there (.there .here)) rfl rfl rfl rfl ?_)
    try (refine oS (ev_conv rfl rfl rfl (uN_wrap _)) rfl ?_)
    repeat (first|refine zJ rfl rfl ?_|refine jr rfl ?_|refine jn ?_|refine zM rfl rfl ?_|(refine zC rfl rfl ?_ rfl ?_;omega)|(refine zD rfl rfl ?_ rfl ?_;omega)|(refine zP rfl ?_ rfl ?_;omega)|refine zG rfl rfl rfl rfl ?_|(refine jdq rfl rfl ?_ ?_ ?_;kernel_rfl;kernel_rfl)|refine zB rfl rfl rfl (by repeat constructor) rfl ?_|refine zH .here rfl rfl rfl rfl ?_|refine zH (.there .here) rfl rfl rfl rfl ?_|refine zH (.there (.there .here)) rfl rfl rfl rfl ?_)
    refine oC (Hc := []) (Hr := blk b1 27 [.int .i64 s, .int .i64 tt, .slice al L.length cl, .slice ao O.length co] :: X) (Put_p _ O.length _ _ G hv (by omega) (by omega)) Try.call60 rfl rfl (fun _ s => s) ?_; rintro ud Fd _ hFd ⟨rfl, hd⟩
    have hd0 : Byt Fd ud (P0 ++ putB O.length 2) := by
      try rw [show uN (O.length : Int) = O.length from uN_nat (by omega)] at hd
      exact hd
    have hle1 := hle0.trans (hG.trans hFd)
    generalize hP : P0 ++ putB O.length 2 = P at *
    have hPl2 : P.length ≤ 198420 := by rw [← hP, List.length_append, pl2]; omega
    repeat (first|refine zJ rfl rfl ?_|refine jr rfl ?_|refine jn ?_|refine zM rfl rfl ?_|(refine zC rfl rfl ?_ rfl ?_;omega)|(refine zD rfl rfl ?_ rfl ?_;omega)|(refine zP rfl ?_ rfl ?_;omega)|refine zG rfl rfl rfl rfl ?_|(refine jdq rfl rfl ?_ ?_ ?_;kernel_rfl;kernel_rfl)|refine zB rfl rfl rfl (by repeat constructor) rfl ?_|refine zH .here rfl rfl rfl rfl ?_|refine zH (.there .here) rfl rfl rfl rfl ?_|refine zH (.there (.there .here)) rfl rfl rfl rfl ?_)
    refine J_loop (ι := Nat × Value × PH) (fun p => p.1 ≤ O.length ∧ Fd.le p.2.2 ∧ Byt p.2.2 p.2.1 (P ++ flatB ouB (O.take p.1))) (fun p => O.length - p.1) (fun p => [(3, p.2.1), (64, .slice ao O.length co), (65, .int .i64 O.length), (66, .int .i64 p.1)]) (fun p => p.2.2) (fun _ => blk b1 27 [.int .i64 s, .int .i64 tt, .slice al L.length cl, .slice ao O.length co] :: X) (0, ud, Fd) ⟨Nat.zero_le _, PH.ler _, by rw [show flatB ouB (O.take (0, ud, Fd).1) = [] from rfl, List.append_nil]; exact hd0⟩ ⟨⟨rfl, rfl, rfl, rfl, trivial⟩, fun w s => s⟩ ?_
    rintro ⟨i, v, G⟩ ⟨hi, hG, hv⟩
    dsimp only at hi hG hv ⊢
    have hfl := flat_ou hm i
    by_cases hlt : i < O.length
    · have g1 : O[i]? = some O[i] := List.getElem?_eq_getElem hlt
      have htk : O.take (i + 1) = O.take i ++ [O[i]] := List.take_succ_eq_append_getElem hlt
      generalize O[i] = y at *
      obtain ⟨b, off, ea, hc⟩ := (hO.mono (hle1.trans hG)).at g1
      subst ea
      repeat (first|refine zJ rfl rfl ?_|refine jr rfl ?_|refine jn ?_|refine zM rfl rfl ?_|(refine zC rfl rfl ?_ rfl ?_;omega)|(refine zD rfl rfl ?_ rfl ?_;omega)|(refine zP rfl ?_ rfl ?_;omega)|refine zG rfl rfl rfl rfl ?_|(refine jdq rfl rfl ?_ ?_ ?_;kernel_rfl;kernel_rfl)|refine zB rfl rfl rfl (by repeat constructor) rfl ?_|refine zH .here rfl rfl rfl rfl ?_|refine zH (.there .here) rfl rfl rfl rfl ?_|refine zH (.there (.there .here)) rfl rfl rfl rfl ?_)
      refine oS (ev_indexAddr (i := i) rfl rfl rfl hlt) rfl ?_
      refine oS (ev_load_agg (cs := ouC y) rfl rfl (Rdb.ofF hc) (ou_len y)) rfl ?_
      refine oE (ev_alloc (cs := zOu) rfl) rfl ?_
      rintro _ _ _ _ ⟨rfl, b6, rfl, rfl⟩
      refine oN (ev_store (b := b6) (off := 0) rfl rfl .agg rfl rfl (lay_all (zs := zOu) rfl) (ou_ones y) .here) rfl ?_
      rintro _ _ _ _ ⟨rfl, _, rfl⟩
      generalize (some (⟨b, off, none⟩ : Addr)) = ao at *
      generalize hpre : P ++ flatB ouB (O.take i) = P1 at *
      have hP1l : P1.length ≤ 300000 := by rw [← hpre, List.length_append]; omega
      repeat (first|refine zJ rfl rfl ?_|refine jr rfl ?_|refine jn ?_|refine zM rfl rfl ?_|(refine zC rfl rfl ?_ rfl ?_;omega)|(refine zD rfl rfl ?_ rfl ?_;omega)|(refine zP rfl ?_ rfl ?_;omega)|refine zG rfl rfl rfl rfl ?_|(refine jdq rfl rfl ?_ ?_ ?_;kernel_rfl;kernel_rfl)|refine zB rfl rfl rfl (by repeat constructor) rfl ?_|refine zH .here rfl rfl rfl rfl ?_|refine zH (.there .here) rfl rfl rfl rfl ?_|refine zH (.there (.there .here)) rfl rfl rfl rfl ?_)
      refine ja G (blk b6 39 (ouC y) :: blk b1 27 [.int .i64 s, .int .i64 tt, .slice al L.length cl, .slice ao O.length co] :: X) ?_ ?_ ?_; kernel_rfl
      · exact fun w s => s
      refine aT 0 rfl (ev_pv rfl) rfl rfl ?_ ?_ ?_ ?_; kernel_rfl; kernel_rfl; kernel_rfl
      refine aT 1 rfl (ev_fieldAddr rfl rfl) rfl rfl ?_ ?_ ?_ ?_; kernel_rfl; kernel_rfl; kernel_rfl
      refine aT 2 rfl (ev_load (v := .int .i64 y.1) rfl rfl (Rdb.ofB (n := 0) .here rfl)) rfl rfl ?_ ?_ ?_ ?_; kernel_rfl; kernel_rfl; kernel_rfl
      refine aT 3 rfl (ev_conv rfl rfl rfl (uN_wrap _)) rfl rfl ?_ ?_ ?_ ?_; kernel_rfl; kernel_rfl; kernel_rfl
      refine aT 5 rfl (ev_fieldAddr rfl rfl) rfl rfl ?_ ?_ ?_ ?_; kernel_rfl; kernel_rfl; kernel_rfl
      refine aT 6 rfl (ev_load (v := .int .i64 y.2.1) rfl rfl (Rdb.ofB (n := 0) .here rfl)) rfl rfl ?_ ?_ ?_ ?_; kernel_rfl; kernel_rfl; kernel_rfl
      refine aT 7 rfl (ev_conv rfl rfl rfl (uN_wrap _)) rfl rfl ?_ ?_ ?_ ?_; kernel_rfl; kernel_rfl; kernel_rfl
      refine aT 9 rfl (ev_fieldAddr rfl rfl) rfl rfl ?_ ?_ ?_ ?_; kernel_rfl; kernel_rfl; kernel_rfl
      refine aT 10 rfl (ev_load (v := .int .i64 y.2.2.1) rfl rfl (Rdb.ofB (n := 0) .here rfl)) rfl rfl ?_ ?_ ?_ ?_; kernel_rfl; kernel_rfl; kernel_rfl
      refine aT 11 rfl (ev_conv rfl rfl rfl (uN_wrap _)) rfl rfl ?_ ?_ ?_ ?_; kernel_rfl; kernel_rfl; kernel_rfl
      refine aB (i := 4) (by kernel_rfl) ?_
      refine aC (Hc := []) (Hr := blk b6 39 (ouC y) :: blk b1 27 [.int .i64 s, .int .i64 tt, .slice al L.length cl, .slice ao O.length co] :: X) rfl (Put_p _ _ _ _ G hv (uN_lt _) (by omega)) Try.call60 rfl rfl rfl (fun _ s => s) (fun _ _ _ hF hq w s => by obtain ⟨e, _⟩ := hq; subst e; exact s.mono hF) ?_; rintro u1 F1 _ hF1 ⟨rfl, h1⟩; refine aFH hF1 ?_
      refine aB (i := 8) (by kernel_rfl) ?_
      refine aC (Hc := []) (Hr := blk b6 39 (ouC y) :: blk b1 27 [.int .i64 s, .int .i64 tt, .slice al L.length cl, .slice ao O.length co] :: X) rfl (Put_p _ _ _ _ F1 h1 (uN_lt _) (by first | omega | (simp only [List.length_append, pl1, pl2, pl8, rowB_len, List.length_nil]; omega))) Try.call60 rfl rfl rfl (fun _ s => s) (fun _ _ _ hF hq w s => by obtain ⟨e, _⟩ := hq; subst e; exact s.mono hF) ?_; rintro u2 F2 _ hF2 ⟨rfl, h2⟩; refine aFH hF2 ?_
      refine aB (i := 12) (by kernel_rfl) ?_
      refine aC (Hc := []) (Hr := blk b6 39 (ouC y) :: blk b1 27 [.int .i64 s, .int .i64 tt, .slice al L.length cl, .slice ao O.length co] :: X) rfl (Put_p _ _ _ _ F2 h2 (uN_lt _) (by first | omega | (simp only [List.length_append, pl1, pl2, pl8, rowB_len, List.length_nil]; omega))) Try.call60 rfl rfl rfl (fun _ s => s) (fun _ _ _ hF hq w s => by obtain ⟨e, _⟩ := hq; subst e; exact s.mono hF) ?_; rintro u3 F3 _ hF3 ⟨rfl, h3⟩; refine aFH hF3 ?_
      refine aT 13 rfl (ev_pv rfl) rfl rfl ?_ ?_ ?_ ?_; kernel_rfl; kernel_rfl; kernel_rfl
      refine aD (by kernel_rfl) ?_
      repeat (first|refine zJ rfl rfl ?_|refine jr rfl ?_|refine jn ?_|refine zM rfl rfl ?_|(refine zC rfl rfl ?_ rfl ?_;omega)|(refine zD rfl rfl ?_ rfl ?_;omega)|(refine zP rfl ?_ rfl ?_;omega)|refine zG rfl rfl rfl rfl ?_|(refine jdq rfl rfl ?_ ?_ ?_;kernel_rfl;kernel_rfl)|refine zB rfl rfl rfl (by repeat constructor) rfl ?_|refine zH .here rfl rfl rfl rfl ?_|refine zH (.there .here) rfl rfl rfl rfl ?_|refine zH (.there (.there .here)) rfl rfl rfl rfl ?_)
      refine J_again (i + 1, u3, F3) ⟨hlt, hG.trans (hF1.trans (hF2.trans hF3)), ?_⟩ (by dsimp only; omega) ⟨⟨rfl, rfl, rfl, rfl, trivial⟩, fun w s => s.drop⟩
      dsimp only
      rw [htk, flatB_snoc, ← List.append_assoc, hpre]
      unfold ouB
      rw [← List.append_assoc, ← List.append_assoc]
      exact h3
    · obtain rfl : i = O.length := by omega
      rw [List.take_length] at hv
      repeat (first|refine zJ rfl rfl ?_|refine jr rfl ?_|refine jn ?_|refine zM rfl rfl ?_|(refine zC rfl rfl ?_ rfl ?_;omega)|(refine zD rfl rfl ?_ rfl ?_;omega)|(refine zP rfl ?_ rfl ?_;omega)|refine zG rfl rfl rfl rfl ?_|(refine jdq rfl rfl ?_ ?_ ?_;kernel_rfl;kernel_rfl)|refine zB rfl rfl rfl (by repeat constructor) rfl ?_|refine zH .here rfl rfl rfl rfl ?_|refine zH (.there .here) rfl rfl rfl rfl ?_|refine zH (.there (.there .here)) rfl rfl rfl rfl ?_)
      refine J_retv rfl (.tmp rfl .nil) [] (fun w s => s.drop) (hle1.trans hG) ⟨rfl, ?_⟩
      rw [← hP, ← hpre] at hv
      exact hv
end Go.Proofs.Ytifdlhafcfbeaaa
namespace Go.Proofs.Ytifdlhafcfbeaaa
open Go.RowKit
set_option maxRecDepth 100000
theorem iN_inK (n : Nat) : InK .i64 (iN n) := by
  unfold iN
  have := Int.emod_lt_of_pos (n : Int) (show (0 : Int) < 18446744073709551616 by decide)
  simp only [IntKind.wrap, IntKind.bits, IntKind.signed]
  have e : (2 : Int) ^ 64 = 18446744073709551616 := by decide
  dsimp only [InK]
  simp [e]
  omega
/-- One letter read: it, the error, what is left. -/
def oneL (e : Int) (bs : List UInt8) : LtX × Int × List UInt8 :=
  let r1 := rowR e bs 16
  let r2 := numR r1.2.1 r1.2.2 1
  let r3 := numR r2.2.1 r2.2.2 8
  let r4 := numR r3.2.1 r3.2.2 8
  let r5 := rowR r4.2.1 r4.2.2 200
  let r6 := rowR r5.2.1 r5.2.2 200
  ((r1.1, iN r2.1, iN r3.1, iN r4.1, r5.1, r6.1, ()), r6.2)
def oneO (e : Int) (bs : List UInt8) : OuX × Int × List UInt8 :=
  let r1 := numR e bs 1
  let r2 := numR r1.2.1 r1.2.2 8
  let r3 := numR r2.2.1 r2.2.2 1
  ((iN r1.1, iN r2.1, iN r3.1, ()), r3.2)
def manyR {α : Type} (one : Int → List UInt8 → α × Int × List UInt8) (e : Int) (bs : List UInt8) : Nat → List α × Int × List UInt8
  | 0 => ([], e, bs)
  | j + 1 => ((manyR one e bs j).1 ++ [(one (manyR one e bs j).2.1 (manyR one e bs j).2.2).1], (one (manyR one e bs j).2.1 (manyR one e bs j).2.2).2)
theorem manyR_len {α : Type} (one : Int → List UInt8 → α × Int × List UInt8) (e : Int) (bs : List UInt8) : ∀ j, (manyR one e bs j).1.length = j
  | 0 => rfl
  | j + 1 => by
    show ((manyR one e bs j).1 ++ [_]).length = j + 1
    rw [List.length_append, manyR_len one e bs j]
    rfl
theorem manyR_rest {α : Type} {one : Int → List UInt8 → α × Int × List UInt8} (h : ∀ e bs, (one e bs).2.2.length ≤ bs.length) (e : Int) (bs : List UInt8) : ∀ j, (manyR one e bs j).2.2.length ≤ bs.length
  | 0 => Nat.le_refl _
  | j + 1 => Nat.le_trans (h _ _) (manyR_rest h e bs j)
theorem manyR_stick {α : Type} {one : Int → List UInt8 → α × Int × List UInt8} (h : ∀ e bs, e ≠ 0 → (one e bs).2.1 ≠ 0) {e : Int} {bs : List UInt8} {j : Nat} (hj : (manyR one e bs j).2.1 ≠ 0) : ∀ i, (manyR one e bs (j + i)).2.1 ≠ 0
  | 0 => hj
  | i + 1 => h _ _ (manyR_stick h hj i)
theorem manyR_all {α : Type} {one : Int → List UInt8 → α × Int × List UInt8} {p : α → Prop} (h : ∀ e bs, p (one e bs).1) (e : Int) (bs : List UInt8) : ∀ j, ∀ x ∈ (manyR one e bs j).1, p x
  | 0, x, hx => by cases hx
  | j + 1, x, hx => by
    rcases List.mem_append.1 hx with hx | hx
    · exact manyR_all h e bs j x hx
    · obtain rfl := List.mem_singleton.1 hx
      exact h _ _
theorem fixR_most (e : Int) (bs : List UInt8) (n : Int) {m : Nat} (h : n ≤ m) : (fixR e bs n).1.length ≤ m := by
  unfold fixR
  split
  · exact Nat.zero_le _
  · split
    · exact Nat.zero_le _
    · dsimp only
      rw [List.length_take]
      omega
theorem rowR_max (e : Int) (bs : List UInt8) (m : Nat) : (rowR e bs m).1.length ≤ m := by
  rw [rowR_eq]
  split
  · exact Nat.zero_le _
  · split
    · exact Nat.zero_le _
    · rename_i h1 h2
      exact fixR_most _ _ _ (by omega)
theorem oneL_eq {e : Int} {bs : List UInt8} {r1 : List UInt8 × Int × List UInt8} {r2 r3 r4 : Nat × Int × List UInt8} {r5 r6 : List UInt8 × Int × List UInt8} (h1 : rowR e bs 16 = r1) (h2 : numR r1.2.1 r1.2.2 1 = r2) (h3 : numR r2.2.1 r2.2.2 8 = r3) (h4 : numR r3.2.1 r3.2.2 8 = r4) (h5 : rowR r4.2.1 r4.2.2 200 = r5) (h6 : rowR r5.2.1 r5.2.2 200 = r6) :
    oneL e bs = ((r1.1, iN r2.1, iN r3.1, iN r4.1, r5.1, r6.1, ()), r6.2) := by
  subst h1 h2 h3 h4 h5 h6; rfl
theorem oneO_eq {e : Int} {bs : List UInt8} {r1 r2 r3 : Nat × Int × List UInt8} (h1 : numR e bs 1 = r1) (h2 : numR r1.2.1 r1.2.2 8 = r2) (h3 : numR r2.2.1 r2.2.2 1 = r3) : oneO e bs = ((iN r1.1, iN r2.1, iN r3.1, ()), r3.2) := by
  subst h1 h2 h3; rfl
theorem oneL_rest (e : Int) (bs : List UInt8) : (oneL e bs).2.2.length ≤ bs.length :=
  Nat.le_trans (rowR_rest' _ _ _) (Nat.le_trans (rowR_rest' _ _ _) (Nat.le_trans (numR_rest _ _ _) (Nat.le_trans (numR_rest _ _ _) (Nat.le_trans (numR_rest _ _ _) (rowR_rest' _ _ _)))))
theorem oneO_rest (e : Int) (bs : List UInt8) : (oneO e bs).2.2.length ≤ bs.length := Nat.le_trans (numR_rest _ _ _) (Nat.le_trans (numR_rest _ _ _) (numR_rest _ _ _))
theorem oneL_stick (e : Int) (bs : List UInt8) (he : e ≠ 0) : (oneL e bs).2.1 ≠ 0 := by
  unfold oneL
  dsimp only
  rw [rowR_stick he, numR_stick he, numR_stick he, numR_stick he, rowR_stick he, rowR_stick he]
  exact he
theorem oneO_stick (e : Int) (bs : List UInt8) (he : e ≠ 0) : (oneO e bs).2.1 ≠ 0 := by
  unfold oneO
  dsimp only
  rw [numR_stick he, numR_stick he, numR_stick he]
  exact he
theorem oneL_ok (e : Int) (bs : List UInt8) : LtOk (oneL e bs).1 := ⟨Nat.le_trans (rowR_max _ _ 16) (by decide), Nat.le_trans (rowR_max _ _ 200) (by decide), Nat.le_trans (rowR_max _ _ 200) (by decide)⟩
/-- All that is read, in its order. -/
def headR (bs : List UInt8) : (Int × Int × Nat) × Int × List UInt8 :=
  let r1 := numR 0 bs 8
  let r2 := numR r1.2.1 r1.2.2 8
  let c := cntR r2.2.1 r2.2.2 16
  ((iN r1.1, iN r2.1, c.1.toNat), c.2)
theorem headR_eq {bs : List UInt8} {r1 r2 : Nat × Int × List UInt8} {c : Int × Int × List UInt8} (h1 : numR 0 bs 8 = r1) (h2 : numR r1.2.1 r1.2.2 8 = r2) (h3 : cntR r2.2.1 r2.2.2 16 = c) : headR bs = ((iN r1.1, iN r2.1, c.1.toNat), c.2) := by
  subst h1 h2 h3; rfl
def lettersR (bs : List UInt8) (j : Nat) : List LtX × Int × List UInt8 := manyR oneL (headR bs).2.1 (headR bs).2.2 j
def cntO (bs : List UInt8) : Int × Int × List UInt8 := cntR (lettersR bs (headR bs).1.2.2).2.1 (lettersR bs (headR bs).1.2.2).2.2 4
def outsR (bs : List UInt8) (j : Nat) : List OuX × Int × List UInt8 := manyR oneO (cntO bs).2.1 (cntO bs).2.2 j
def readR (bs : List UInt8) : LgX × Int := (((headR bs).1.1, (headR bs).1.2.1, (lettersR bs (headR bs).1.2.2).1, (outsR bs (cntO bs).1.toNat).1, ()), endR (outsR bs (cntO bs).1.toNat).2.1 (outsR bs (cntO bs).1.toNat).2.2)
/-- Which ledger bytes tell, or why none. -/
def parseL (bs : List UInt8) : LgX × Int := if (readR bs).2 = 0 ∧ rightL (readR bs).1 = true then ((readR bs).1, 0) else (nLg, 2)
theorem parseL_bad1 {bs : List UInt8} {j : Nat} (hj : j ≤ (headR bs).1.2.2) (h : (lettersR bs j).2.1 ≠ 0) : parseL bs = (nLg, 2) := by
  have h1 : (lettersR bs (headR bs).1.2.2).2.1 ≠ 0 := by
    have := manyR_stick oneL_stick h ((headR bs).1.2.2 - j)
    rwa [Nat.add_sub_cancel' hj] at this
  have h2 : (cntO bs).2.1 ≠ 0 := by unfold cntO; rw [cntR_stick h1]; exact h1
  have h3 : (outsR bs (cntO bs).1.toNat).2.1 ≠ 0 := by
    have := manyR_stick (one := oneO) (e := (cntO bs).2.1) (bs := (cntO bs).2.2) (j := 0) oneO_stick h2 (cntO bs).1.toNat
    rwa [Nat.zero_add] at this
  unfold parseL
  rw [if_neg]
  rintro ⟨h4, _⟩
  exact endR_bad h3 _ h4
theorem parseL_bad2 {bs : List UInt8} {j : Nat} (hj : j ≤ (cntO bs).1.toNat) (h : (outsR bs j).2.1 ≠ 0) : parseL bs = (nLg, 2) := by
  have h3 : (outsR bs (cntO bs).1.toNat).2.1 ≠ 0 := by
    have := manyR_stick oneO_stick h ((cntO bs).1.toNat - j)
    rwa [Nat.add_sub_cancel' hj] at this
  unfold parseL
  rw [if_neg]
  rintro ⟨h4, _⟩
  exact endR_bad h3 _ h4
theorem headR_cnt (bs : List UInt8) : (headR bs).1.2.2 ≤ 16 := by
  unfold headR
  dsimp only
  have := cntR_le (numR (numR 0 bs 8).2.1 (numR 0 bs 8).2.2 8).2.1 (numR (numR 0 bs 8).2.1 (numR 0 bs 8).2.2 8).2.2 (m := 16) (by decide)
  omega
theorem headR_rest (bs : List UInt8) : (headR bs).2.2.length ≤ bs.length := Nat.le_trans (cntR_rest' _ _ _) (Nat.le_trans (numR_rest _ _ _) (numR_rest _ _ _))
theorem lettersR_rest (bs : List UInt8) (j : Nat) : (lettersR bs j).2.2.length ≤ bs.length := Nat.le_trans (manyR_rest oneL_rest _ _ _) (headR_rest bs)
theorem cntO_cnt (bs : List UInt8) : 0 ≤ (cntO bs).1 ∧ (cntO bs).1 ≤ 4 := cntR_le _ _ (by decide)
theorem cntO_rest (bs : List UInt8) : (cntO bs).2.2.length ≤ bs.length := Nat.le_trans (cntR_rest' _ _ _) (lettersR_rest bs _)
theorem outsR_rest (bs : List UInt8) (j : Nat) : (outsR bs j).2.2.length ≤ bs.length := Nat.le_trans (manyR_rest oneO_rest _ _ _) (cntO_rest bs)
theorem Byt.mono' {F G : PH} {v : Value} {bs : List UInt8} (h : Byt F v bs) (hl : F.le G) : Byt G v bs := SliceV.mono h hl
theorem fill_lt2 : ∃ pl, placesOf Try.prog 37 = some pl ∧ ∀ (a : List UInt8) (n : Int), FillF pl [(0, .string (strOf a)), (1, .int .i64 n)] zLt (ltC (a, n, 0, 0, [], [], ())) := ⟨_, rfl, fun a n => by
  repeat (first | exact FillF.nil | refine FillF.cons (by constructor) rfl rfl (by repeat constructor) ?_)⟩
theorem fill_lt : ∃ pl, placesOf Try.prog 37 = some pl ∧ ∀ x : LtX, FillF pl [(0, .string (strOf x.1)), (1, .int .i64 x.2.1), (2, .int .i64 x.2.2.1), (3, .int .i64 x.2.2.2.1), (4, .string (strOf x.2.2.2.2.1)), (5, .string (strOf x.2.2.2.2.2.1))] zLt (ltC x) := ⟨_, rfl, fun x => by
  repeat (first | exact FillF.nil | refine FillF.cons (by constructor) rfl rfl (by repeat constructor) ?_)⟩
theorem fill_ou : ∃ pl, placesOf Try.prog 39 = some pl ∧ ∀ x : OuX, FillF pl [(0, .int .i64 x.1), (1, .int .i64 x.2.1), (2, .int .i64 x.2.2.1)] zOu (ouC x) := ⟨_, rfl, fun x => by
  repeat (first | exact FillF.nil | refine FillF.cons (by constructor) rfl rfl (by repeat constructor) ?_)⟩
theorem fill_lg2 : ∃ pl, placesOf Try.prog 27 = some pl ∧ ∀ (a n : Int), FillF pl [(0, .int .i64 a), (1, .int .i64 n)] zLg (lgC a n (.slice none 0 0) (.slice none 0 0)) := ⟨_, rfl, fun a n => by
  repeat (first | exact FillF.nil | refine FillF.cons (by constructor) rfl rfl (by repeat constructor) ?_)⟩

set_option maxHeartbeats 16000000 in
theorem readLetter_spec (br : Nat) (v : Value) (e : Int) (bs : List UInt8) (F : PH) (h : Byt F v bs) (hl : bs.length ≤ 1048576) :
    Spec Try.prog 30 [.pointer (some ⟨br, 0, none⟩)] F [rdr br v e] fun u F' H' => ∃ v', u = .agg (ltC (oneL e bs).1).toArray ∧ Byt F' v' (oneL e bs).2.2 ∧ H' = [rdr br v' (oneL e bs).2.1] := by
  obtain ⟨pl, hpl, hfl⟩ := fill_lt2
  refine Spec.of1 Try.func30 rfl rfl fun X w0 => ?_
  refine jc rfl rfl ?_
  refine jr rfl ?_
  refine oE (ev_alloc (cs := zLt) rfl) rfl ?_
  rintro _ _ _ _ ⟨rfl, b2, rfl, rfl⟩
  repeat (first|refine zJ rfl rfl ?_|refine jr rfl ?_|refine jn ?_|refine zM rfl rfl ?_|(refine zC rfl rfl ?_ rfl ?_;omega)|(refine zD rfl rfl ?_ rfl ?_;omega)|(refine zP rfl ?_ rfl ?_;omega)|refine zG rfl rfl rfl rfl ?_|(refine jdq rfl rfl ?_ ?_ ?_;kernel_rfl;kernel_rfl)|refine zB rfl rfl rfl (by repeat constructor) rfl ?_|refine zH .here rfl rfl rfl rfl ?_|refine zH (.there .here) rfl rfl rfl rfl ?_|refine zH (.there (.there .here)) rfl rfl rfl rfl ?_)
  refine J_weak (H' := rdr br v e :: blk b2 37 zLt :: X) ?_ (fun w s => s.pm 2 [1, 0] rfl rfl)
  refine J_join [_] (fun i : PH × Value × Nat => F.le i.1 ∧ Byt i.1 i.2.1 (numR (rowR e bs 16).2.1 (rowR e bs 16).2.2 1).2.2) (fun i => [(0, .pointer (some ⟨br, 0, none⟩)), (2, .pointer (some ⟨b2, 0, none⟩)), (3, .pointer (some ⟨i.2.2, 0, none⟩))]) (fun i => i.1) (fun i => rdr br i.2.1 (numR (rowR e bs 16).2.1 (rowR e bs 16).2.2 1).2.1 :: blk i.2.2 37 (ltC ((rowR e bs 16).1, iN (numR (rowR e bs 16).2.1 (rowR e bs 16).2.2 1).1, 0, 0, [], [], ())) :: blk b2 37 zLt :: X) ?_ ?_
  · refine ja F [] ?_ ?_ ?_; kernel_rfl
    · exact fun w s => s.bare
    refine aT 0 rfl (ev_pv rfl) rfl rfl ?_ ?_ ?_ ?_; kernel_rfl; kernel_rfl; kernel_rfl
    refine aT 3 rfl (ev_pv rfl) rfl rfl ?_ ?_ ?_ ?_; kernel_rfl; kernel_rfl; kernel_rfl
    refine aB2 (i := 1) (i' := 7) (by kernel_rfl) ?_ ?_
    · refine (aC (Hc := [rdr br v e]) (Hr := blk b2 37 zLt :: X) rfl (rrow_spec br v e 16 bs F h (by omega)) Try.call67 rfl rfl rfl (fun _ s => s) (fun _ _ _ hF _ w s => (s.mono hF).bare) ?_)
      rintro u1 F1 _ hF1 ⟨v1, hu1, hv1, rfl⟩
      refine aF hF1 ?_
      have n1 := rowR_rest' e bs 16
      generalize hr1 : rowR e bs 16 = r1 at *
      obtain ⟨a1, c1, rfl, hc1⟩ := hu1.form
      refine aT 2 rfl (eb_string rfl (hu1.rds)) rfl rfl ?_ ?_ ?_ ?_; kernel_rfl; kernel_rfl; kernel_rfl
      refine aB2 (i := 4) (i' := 7) (by kernel_rfl) ?_ ?_
      · refine (aC (Hc := [rdr br v1 r1.2.1]) (Hr := blk b2 37 zLt :: X) rfl (number_spec br v1 r1.2.1 1 r1.2.2 F1 hv1 (by omega)) Try.call28 rfl rfl rfl (fun _ s => s) (fun _ _ _ hF _ w s => (s.mono hF).bare) ?_)
        rintro _ F2 _ hF2 ⟨v2, rfl, hv2, rfl⟩
        refine aF hF2 ?_
        have n2 := numR_rest r1.2.1 r1.2.2 1
        generalize hr2 : numR r1.2.1 r1.2.2 1 = r2 at *
        refine aT 5 rfl (ev_conv rfl rfl rfl (iN_wrap _)) rfl rfl ?_ ?_ ?_ ?_; kernel_rfl; kernel_rfl; kernel_rfl
        refine aT 6 rfl (ev_build (t := ltC (r1.1, iN r2.1, 0, 0, [], [], ())) rfl rfl hpl (hfl r1.1 (iN r2.1))) rfl rfl ?_ ?_ ?_ ?_; kernel_rfl; kernel_rfl; kernel_rfl
        refine aB (i := 7) (by kernel_rfl) ?_
        refine aE rfl (ev_alloc (cs := zLt) rfl) rfl rfl (fun _ _ _ _ ⟨e, _, _, e2⟩ w s => by subst e; subst e2; exact s.bare) ?_
        rintro _ _ _ _ ⟨rfl, b3, rfl, rfl⟩
        refine aB (i := 8) (by kernel_rfl) (aN rfl (ev_store (b := b3) rfl rfl .agg rfl rfl (lay_all (zs := zLt) rfl) (lt_ones _) (.here)) rfl (fun _ _ _ _ ⟨e, _, e2⟩ w s => by subst e; exact s.bare) ?_)
        rintro _ _ _ _ ⟨rfl, _, rfl⟩
        refine aD (by kernel_rfl) ?_
        exact J_joined (F2, v2, b3) ⟨hF1.trans hF2, hv2⟩ ⟨⟨rfl, rfl, rfl, trivial⟩, fun w s => s.pick (.there .here)⟩
      · refine aE rfl (ev_alloc (cs := zLt) rfl) rfl rfl (fun _ _ _ _ ⟨e, _, _, e2⟩ w s => by subst e; subst e2; exact s.bare) ?_
        rintro _ _ _ _ ⟨rfl, b3, rfl, rfl⟩
        refine aB (i := 4) (by kernel_rfl) ?_
        refine (aC (Hc := [rdr br v1 r1.2.1]) (Hr := blk b3 37 zLt :: blk b2 37 zLt :: X) rfl (number_spec br v1 r1.2.1 1 r1.2.2 F1 hv1 (by omega)) Try.call28 rfl rfl rfl (fun _ s => s.pick (.there .here)) (fun _ _ _ hF _ w s => (s.mono hF).bare) ?_)
        rintro _ F2 _ hF2 ⟨v2, rfl, hv2, rfl⟩
        refine aF hF2 ?_
        have n2 := numR_rest r1.2.1 r1.2.2 1
        generalize hr2 : numR r1.2.1 r1.2.2 1 = r2 at *
        refine aT 5 rfl (ev_conv rfl rfl rfl (iN_wrap _)) rfl rfl ?_ ?_ ?_ ?_; kernel_rfl; kernel_rfl; kernel_rfl
        refine aT 6 rfl (ev_build (t := ltC (r1.1, iN r2.1, 0, 0, [], [], ())) rfl rfl hpl (hfl r1.1 (iN r2.1))) rfl rfl ?_ ?_ ?_ ?_; kernel_rfl; kernel_rfl; kernel_rfl
        refine aB (i := 8) (by kernel_rfl) (aN rfl (ev_store (b := b3) rfl rfl .agg rfl rfl (lay_all (zs := zLt) rfl) (lt_ones _) (.there .here)) rfl (fun _ _ _ _ ⟨e, _, e2⟩ w s => by subst e; exact s.bare) ?_)
        rintro _ _ _ _ ⟨rfl, _, rfl⟩
        refine aD (by kernel_rfl) ?_
        exact J_joined (F2, v2, b3) ⟨hF1.trans hF2, hv2⟩ ⟨⟨rfl, rfl, rfl, trivial⟩, fun w s => s⟩
    · refine aE rfl (ev_alloc (cs := zLt) rfl) rfl rfl (fun _ _ _ _ ⟨e, _, _, e2⟩ w s => by subst e; subst e2; exact s.bare) ?_
      rintro _ _ _ _ ⟨rfl, b3, rfl, rfl⟩
      refine aB (i := 1) (by kernel_rfl) ?_
      refine (aC (Hc := [rdr br v e]) (Hr := blk b3 37 zLt :: blk b2 37 zLt :: X) rfl (rrow_spec br v e 16 bs F h (by omega)) Try.call67 rfl rfl rfl (fun _ s => s.pick (.there .here)) (fun _ _ _ hF _ w s => (s.mono hF).bare) ?_)
      rintro u1 F1 _ hF1 ⟨v1, hu1, hv1, rfl⟩
      refine aF hF1 ?_
      have n1 := rowR_rest' e bs 16
      generalize hr1 : rowR e bs 16 = r1 at *
      obtain ⟨a1, c1, rfl, hc1⟩ := hu1.form
      refine aT 2 rfl (eb_string rfl (hu1.rds)) rfl rfl ?_ ?_ ?_ ?_; kernel_rfl; kernel_rfl; kernel_rfl
      refine aB (i := 4) (by kernel_rfl) ?_
      refine (aC (Hc := [rdr br v1 r1.2.1]) (Hr := blk b3 37 zLt :: blk b2 37 zLt :: X) rfl (number_spec br v1 r1.2.1 1 r1.2.2 F1 hv1 (by omega)) Try.call28 rfl rfl rfl (fun _ s => s) (fun _ _ _ hF _ w s => (s.mono hF).bare) ?_)
      rintro _ F2 _ hF2 ⟨v2, rfl, hv2, rfl⟩
      refine aF hF2 ?_
      have n2 := numR_rest r1.2.1 r1.2.2 1
      generalize hr2 : numR r1.2.1 r1.2.2 1 = r2 at *
      refine aT 5 rfl (ev_conv rfl rfl rfl (iN_wrap _)) rfl rfl ?_ ?_ ?_ ?_; kernel_rfl; kernel_rfl; kernel_rfl
      refine aT 6 rfl (ev_build (t := ltC (r1.1, iN r2.1, 0, 0, [], [], ())) rfl rfl hpl (hfl r1.1 (iN r2.1))) rfl rfl ?_ ?_ ?_ ?_; kernel_rfl; kernel_rfl; kernel_rfl
      refine aB (i := 8) (by kernel_rfl) (aN rfl (ev_store (b := b3) rfl rfl .agg rfl rfl (lay_all (zs := zLt) rfl) (lt_ones _) (.there .here)) rfl (fun _ _ _ _ ⟨e, _, e2⟩ w s => by subst e; exact s.bare) ?_)
      rintro _ _ _ _ ⟨rfl, _, rfl⟩
      refine aD (by kernel_rfl) ?_
      exact J_joined (F2, v2, b3) ⟨hF1.trans hF2, hv2⟩ ⟨⟨rfl, rfl, rfl, trivial⟩, fun w s => s⟩
  clear h
  generalize hr1 : rowR e bs 16 = r1 at *
  generalize hr2 : numR r1.2.1 r1.2.2 1 = r2 at *
  have n1 := rowR_rest' e bs 16
  have n2 := numR_rest r1.2.1 r1.2.2 1
  rw [hr1] at n1
  rw [hr2] at n2
  rintro ⟨G, v2, b3⟩ ⟨hG, hv2⟩
  dsimp only at hG hv2 ⊢
  unfold ltC
  dsimp only
  repeat (first|refine zJ rfl rfl ?_|refine jr rfl ?_|refine jn ?_|refine zM rfl rfl ?_|(refine zC rfl rfl ?_ rfl ?_;omega)|(refine zD rfl rfl ?_ rfl ?_;omega)|(refine zP rfl ?_ rfl ?_;omega)|refine zG rfl rfl rfl rfl ?_|(refine jdq rfl rfl ?_ ?_ ?_;kernel_rfl;kernel_rfl)|refine zB rfl rfl rfl (by repeat constructor) rfl ?_|refine zH .here rfl rfl rfl rfl ?_|refine zH (.there .here) rfl rfl rfl rfl ?_|refine zH (.there (.there .here)) rfl rfl rfl rfl ?_)
  refine oC (Hc := [rdr br v2 r2.2.1]) (Hr := blk b3 37 [.string (strOf r1.1), .int .i64 (iN r2.1), .int .i64 0, .int .i64 0, .string (strOf []), .string (strOf [])] :: blk b2 37 zLt :: X) (number_spec br v2 r2.2.1 8 r2.2.2 G hv2 (by omega)) Try.call28 rfl rfl (fun _ s => s) ?_
  rintro _ F3 _ hF3 ⟨v3, rfl, hv3, rfl⟩
  have n3 := numR_rest r2.2.1 r2.2.2 8
  generalize hr3 : numR r2.2.1 r2.2.2 8 = r3 at *
  repeat (first|refine zJ rfl rfl ?_|refine jr rfl ?_|refine jn ?_|refine zM rfl rfl ?_|(refine zC rfl rfl ?_ rfl ?_;omega)|(refine zD rfl rfl ?_ rfl ?_;omega)|(refine zP rfl ?_ rfl ?_;omega)|refine zG rfl rfl rfl rfl ?_|(refine jdq rfl rfl ?_ ?_ ?_;kernel_rfl;kernel_rfl)|refine zB rfl rfl rfl (by repeat constructor) rfl ?_|refine zH .here rfl rfl rfl rfl ?_|refine zH (.there .here) rfl rfl rfl rfl ?_|refine zH (.there (.there .here)) rfl rfl rfl rfl ?_)
  refine oS (ev_conv rfl rfl rfl (iN_wrap _)) rfl ?_
  repeat (first|refine zJ rfl rfl ?_|refine jr rfl ?_|refine jn ?_|refine zM rfl rfl ?_|(refine zC rfl rfl ?_ rfl ?_;omega)|(refine zD rfl rfl ?_ rfl ?_;omega)|(refine zP rfl ?_ rfl ?_;omega)|refine zG rfl rfl rfl rfl ?_|(refine jdq rfl rfl ?_ ?_ ?_;kernel_rfl;kernel_rfl)|refine zB rfl rfl rfl (by repeat constructor) rfl ?_|refine zH .here rfl rfl rfl rfl ?_|refine zH (.there .here) rfl rfl rfl rfl ?_|refine zH (.there (.there .here)) rfl rfl rfl rfl ?_)
  refine oC (Hc := [rdr br v3 r3.2.1]) (Hr := blk b3 37 [.string (strOf r1.1), .int .i64 (iN r2.1), .int .i64 0, .int .i64 0, .string (strOf []), .string (strOf [])] :: blk b2 37 zLt :: X) (number_spec br v3 r3.2.1 8 r3.2.2 F3 hv3 (by omega)) Try.call28 rfl rfl (fun _ s => s) ?_
  rintro _ F4 _ hF4 ⟨v4, rfl, hv4, rfl⟩
  have n4 := numR_rest r3.2.1 r3.2.2 8
  generalize hr4 : numR r3.2.1 r3.2.2 8 = r4 at *
  repeat (first|refine zJ rfl rfl ?_|refine jr rfl ?_|refine jn ?_|refine zM rfl rfl ?_|(refine zC rfl rfl ?_ rfl ?_;omega)|(refine zD rfl rfl ?_ rfl ?_;omega)|(refine zP rfl ?_ rfl ?_;omega)|refine zG rfl rfl rfl rfl ?_|(refine jdq rfl rfl ?_ ?_ ?_;kernel_rfl;kernel_rfl)|refine zB rfl rfl rfl (by repeat constructor) rfl ?_|refine zH .here rfl rfl rfl rfl ?_|refine zH (.there .here) rfl rfl rfl rfl ?_|refine zH (.there (.there .here)) rfl rfl rfl rfl ?_)
  refine oS (ev_conv rfl rfl rfl (iN_wrap _)) rfl ?_
  repeat (first|refine zJ rfl rfl ?_|refine jr rfl ?_|refine jn ?_|refine zM rfl rfl ?_|(refine zC rfl rfl ?_ rfl ?_;omega)|(refine zD rfl rfl ?_ rfl ?_;omega)|(refine zP rfl ?_ rfl ?_;omega)|refine zG rfl rfl rfl rfl ?_|(refine jdq rfl rfl ?_ ?_ ?_;kernel_rfl;kernel_rfl)|refine zB rfl rfl rfl (by repeat constructor) rfl ?_|refine zH .here rfl rfl rfl rfl ?_|refine zH (.there .here) rfl rfl rfl rfl ?_|refine zH (.there (.there .here)) rfl rfl rfl rfl ?_)
  refine oN (ev_store (b := b3) rfl rfl .int rfl rfl (by repeat constructor) (ones_cons rfl ones_nil) (.there .here)) rfl ?_
  rintro _ _ _ _ ⟨rfl, _, rfl⟩
  repeat (first|refine zJ rfl rfl ?_|refine jr rfl ?_|refine jn ?_|refine zM rfl rfl ?_|(refine zC rfl rfl ?_ rfl ?_;omega)|(refine zD rfl rfl ?_ rfl ?_;omega)|(refine zP rfl ?_ rfl ?_;omega)|refine zG rfl rfl rfl rfl ?_|(refine jdq rfl rfl ?_ ?_ ?_;kernel_rfl;kernel_rfl)|refine zB rfl rfl rfl (by repeat constructor) rfl ?_|refine zH .here rfl rfl rfl rfl ?_|refine zH (.there .here) rfl rfl rfl rfl ?_|refine zH (.there (.there .here)) rfl rfl rfl rfl ?_)
  refine oN (ev_store (b := b3) rfl rfl .int rfl rfl (by repeat constructor) (ones_cons rfl ones_nil) (.there .here)) rfl ?_
  rintro _ _ _ _ ⟨rfl, _, rfl⟩
  repeat (first|refine zJ rfl rfl ?_|refine jr rfl ?_|refine jn ?_|refine zM rfl rfl ?_|(refine zC rfl rfl ?_ rfl ?_;omega)|(refine zD rfl rfl ?_ rfl ?_;omega)|(refine zP rfl ?_ rfl ?_;omega)|refine zG rfl rfl rfl rfl ?_|(refine jdq rfl rfl ?_ ?_ ?_;kernel_rfl;kernel_rfl)|refine zB rfl rfl rfl (by repeat constructor) rfl ?_|refine zH .here rfl rfl rfl rfl ?_|refine zH (.there .here) rfl rfl rfl rfl ?_|refine zH (.there (.there .here)) rfl rfl rfl rfl ?_)
  refine jaL F4 [] rfl ?_ ?_ (fun w s => s.bare) ?_; kernel_rfl; kernel_rfl; dsimp only [List.dropLast]
  refine aT 0 rfl (ev_pv rfl) rfl rfl ?_ ?_ ?_ ?_; kernel_rfl; kernel_rfl; kernel_rfl
  refine aT 3 rfl (ev_pv rfl) rfl rfl ?_ ?_ ?_ ?_; kernel_rfl; kernel_rfl; kernel_rfl
  refine aB (i := 1) (by kernel_rfl) (aC (Hc := [rdr br v4 r4.2.1]) (Hr := blk b3 37 [.string (strOf r1.1), .int .i64 (iN r2.1), .int .i64 (iN r3.1), .int .i64 (iN r4.1), .string (strOf []), .string (strOf [])] :: blk b2 37 zLt :: X) rfl (rrow_spec br v4 r4.2.1 200 r4.2.2 F4 hv4 (by omega)) Try.call67 rfl rfl rfl (fun _ s => s) (fun _ _ _ hF _ w s => (s.mono hF).bare) ?_)
  rintro u5 F5 _ hF5 ⟨v5, hu5, hv5, rfl⟩
  refine aF hF5 ?_
  have n5 := rowR_rest' r4.2.1 r4.2.2 200
  generalize hr5 : rowR r4.2.1 r4.2.2 200 = r5 at *
  obtain ⟨a5, c5, rfl, hc5⟩ := hu5.form
  refine aT 2 rfl (eb_string rfl (hu5.rds)) rfl rfl ?_ ?_ ?_ ?_; kernel_rfl; kernel_rfl; kernel_rfl
  refine aT 6 rfl (ev_qe rfl) rfl rfl ?_ ?_ ?_ ?_; kernel_rfl; kernel_rfl; kernel_rfl
  refine aB (i := 4) (by kernel_rfl) (aC (Hc := [rdr br v5 r5.2.1]) (Hr := blk b3 37 [.string (strOf r1.1), .int .i64 (iN r2.1), .int .i64 (iN r3.1), .int .i64 (iN r4.1), .string (strOf []), .string (strOf [])] :: blk b2 37 zLt :: X) rfl (rrow_spec br v5 r5.2.1 200 r5.2.2 F5 hv5 (by omega)) Try.call67 rfl rfl rfl (fun _ s => s) (fun _ _ _ hF _ w s => (s.mono hF).bare) ?_)
  rintro u6 F6 _ hF6 ⟨v6, hu6, hv6, rfl⟩
  refine aF hF6 ?_
  have n6 := rowR_rest' r5.2.1 r5.2.2 200
  generalize hr6 : rowR r5.2.1 r5.2.2 200 = r6 at *
  obtain ⟨a6, c6, rfl, hc6⟩ := hu6.form
  refine aT 5 rfl (eb_string rfl (hu6.rds)) rfl rfl ?_ ?_ ?_ ?_; kernel_rfl; kernel_rfl; kernel_rfl
  refine aB (i := 7) (by kernel_rfl) (aN rfl (ev_store (b := b3) (off := 0 + 4) (vs := [.string (strOf r5.1)]) rfl rfl .string rfl rfl (s := [.string (strOf r1.1), .int .i64 (iN r2.1), .int .i64 (iN r3.1), .int .i64 (iN r4.1), .string (strOf r5.1), .string (strOf [])]) (by repeat constructor) (ones_cons rfl ones_nil) (.there .here)) rfl (fun _ _ _ _ hq w s => by obtain ⟨rfl, _, rfl⟩ := hq; exact s.bare) ?_)
  rintro _ _ _ _ ⟨rfl, _, rfl⟩
  refine aT 8 rfl (ev_qe rfl) rfl rfl ?_ ?_ ?_ ?_; kernel_rfl; kernel_rfl; kernel_rfl
  refine aD (by kernel_rfl) ?_
  refine jL rfl ?_
  refine oN (ev_store (b := b3) (off := 0 + 5) (vs := [.string (strOf r6.1)]) rfl rfl .string rfl rfl (s := ltC (r1.1, iN r2.1, iN r3.1, iN r4.1, r5.1, r6.1, ())) (by repeat constructor) (ones_cons rfl ones_nil) (.there .here)) rfl ?_
  rintro _ _ _ _ ⟨rfl, _, rfl⟩
  rw [oneL_eq hr1 hr2 hr3 hr4 hr5 hr6]
  repeat (first|refine zJ rfl rfl ?_|refine jr rfl ?_|refine jn ?_|refine zM rfl rfl ?_|(refine zC rfl rfl ?_ rfl ?_;omega)|(refine zD rfl rfl ?_ rfl ?_;omega)|(refine zP rfl ?_ rfl ?_;omega)|refine zG rfl rfl rfl rfl ?_|(refine jdq rfl rfl ?_ ?_ ?_;kernel_rfl;kernel_rfl)|refine zB rfl rfl rfl (by repeat constructor) rfl ?_|refine zH .here rfl rfl rfl rfl ?_|refine zH (.there .here) rfl rfl rfl rfl ?_|refine zH (.there (.there .here)) rfl rfl rfl rfl ?_)
  refine oS (ev_load_agg (cs := ltC (r1.1, iN r2.1, iN r3.1, iN r4.1, r5.1, r6.1, ())) rfl rfl (Rdb.ofB (n := 0) (.there .here) rfl) rfl) rfl ?_
  refine oN (ev_store (b := b2) (off := 0) rfl rfl .agg rfl rfl (lay_all (zs := zLt) rfl) (lt_ones _) (.there (.there .here))) rfl ?_
  rintro _ _ _ _ ⟨rfl, _, rfl⟩
  repeat (first|refine zJ rfl rfl ?_|refine jr rfl ?_|refine jn ?_|refine zM rfl rfl ?_|(refine zC rfl rfl ?_ rfl ?_;omega)|(refine zD rfl rfl ?_ rfl ?_;omega)|(refine zP rfl ?_ rfl ?_;omega)|refine zG rfl rfl rfl rfl ?_|(refine jdq rfl rfl ?_ ?_ ?_;kernel_rfl;kernel_rfl)|refine zB rfl rfl rfl (by repeat constructor) rfl ?_|refine zH .here rfl rfl rfl rfl ?_|refine zH (.there .here) rfl rfl rfl rfl ?_|refine zH (.there (.there .here)) rfl rfl rfl rfl ?_)
  exact J_retv (vs := [.agg (ltC (r1.1, iN r2.1, iN r3.1, iN r4.1, r5.1, r6.1, ())).toArray]) rfl (.agg rfl rfl (Rdb.ofB (n := 0) (.there (.there .here)) rfl) rfl .nil) [_] (fun w s => (s.pm 3 [1, 2, 0] rfl rfl).drop.drop) (hG.trans (hF3.trans (hF4.trans (hF5.trans hF6)))) ⟨v6, rfl, hv6, rfl⟩
end Go.Proofs.Ytifdlhafcfbeaaa
