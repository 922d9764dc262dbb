/-
  A request's bytes, the program's and the document's. Conditions are typed with each.
-/
import Derived.Test.YtaggonhgafggkaaRi
namespace Go.Proofs.Ytaggonhgafggkaa
open Go.RowKit
set_option maxRecDepth 100000
def enB (e : En) : List UInt8 := putB (uN e.1) 1 ++ e.2.1.flatten
def headB (c : Cr) (n : Nat) : List UInt8 := rowB c.bytes ++ putB n 2
def reqB (c : Cr) (es : List En) : List UInt8 := headB c es.length ++ es.flatMap enB
/-- So many endorsements of so many tags. -/
def Few (es : List En) : Prop := es.length ≤ 1024 ∧ ∀ e ∈ es, e.2.1.length ≤ 1024
theorem flat32_len {ts : List (List UInt8)} (h : ∀ t ∈ ts, t.length = 32) : ts.flatten.length = 32 * ts.length := by
  induction ts with
  | nil => rfl
  | cons t ts ih => rw [List.flatten_cons, List.length_append, h t List.mem_cons_self, ih fun t ht => h t (List.mem_cons_of_mem _ ht), List.length_cons]; omega
theorem flatMap_len {α : Type} {f : α → List UInt8} {k : Nat} : ∀ {l : List α}, (∀ x ∈ l, (f x).length ≤ k) → (l.flatMap f).length ≤ l.length * k
  | [], _ => by simp
  | x :: l, h => by
    have h1 := h x List.mem_cons_self
    have h2 := flatMap_len (l := l) fun y hy => h y (List.mem_cons_of_mem _ hy)
    rw [List.flatMap_cons, List.length_append, List.length_cons, Nat.succ_mul]
    omega
theorem flatMap_snoc {α β : Type} {f : α → List β} {l : List α} {i : Nat} {x : α} (h : l[i]? = some x) : (l.take (i + 1)).flatMap f = (l.take i).flatMap f ++ f x := by rw [take_snoc h, List.flatMap_append]; simp
theorem flat_snoc {β : Type} {l : List (List β)} {i : Nat} {x : List β} (h : l[i]? = some x) : (l.take (i + 1)).flatten = (l.take i).flatten ++ x := by rw [take_snoc h, List.flatten_append]; simp
theorem headB_len (c : Cr) (n : Nat) : (headB c n).length = 40 + c.letter.length + c.text.length := by
  unfold headB
  rw [List.length_append, rowB_len, pl2, c.bytes_len]
  omega
theorem RdB.blk {F : PH} {H Hr : List Asrt} {b n : Nat} {E : TypeId} {bs : List UInt8} (p : Pick (blk b E (u8s bs)) H Hr) (hn : bs.length = n) : RdB F H (.slice (some ⟨b, 0, none⟩) n n) bs := by
  subst hn
  exact ⟨by rw [u8s_len]; omega, _, _, rfl, Nat.le_refl _, fun _ => ⟨b, 0, rfl, Rdb.ofB (n := 0) p (by rw [List.drop_zero, List.take_length])⟩⟩
theorem en_small {es : List En} {F : PH} {v : Value} (h : RowV tyEn F v es) (hf : Few es) : ∀ e ∈ es, (enB e).length ≤ 32769 := fun e he => by
  obtain ⟨i, hi⟩ := List.getElem?_of_mem he
  obtain ⟨a, c, rfl, _⟩ := h.form
  obtain ⟨_, _, _, _, _, hrep, _⟩ := h.at hi
  obtain ⟨_, _, _, ht, _⟩ := en_of hrep
  have := hf.2 e he
  unfold enB
  rw [List.length_append, pl1, flat32_len ht.2]
  omega
set_option maxHeartbeats 16000000 in
theorem bytes_spec (c : Cr) (v : Value) (es : List En) (F : PH) (h : RowV tyEn F v es) (hf : Few es) (hl : c.letter.length ≤ 1048576) (ht : c.text.length ≤ 1048576) :
    Spec Try.prog 40 [.agg (reqC c v).toArray] F [] fun u F' H' => H' = [] ∧ Byt F' u (reqB c es) := by
  have hes := en_small h hf
  have hf1 := hf.1
  have hcb := c.bytes_len
  have hhl := headB_len c es.length
  obtain ⟨a, k, rfl, hk⟩ := h.form
  refine Spec.of1 Try.func40 rfl rfl fun X w0 => ?_
  refine jc rfl rfl ?_
  refine jr rfl ?_
  refine oE (ev_box rfl .agg) rfl ?_; rintro _ _ _ _ ⟨rfl, b1, rfl, rfl⟩
  repeat (first|refine zJ rfl rfl ?_|refine jr rfl ?_|refine jn ?_|refine zM rfl rfl ?_|(refine zC rfl rfl ?_ rfl ?_;omega)|(refine zD rfl rfl ?_ rfl ?_;omega)|(refine zP rfl ?_ rfl ?_;omega)|refine zG rfl rfl rfl rfl ?_|(refine jdq rfl rfl ?_ ?_ ?_;kernel_rfl;kernel_rfl)|refine zB rfl rfl rfl (by repeat constructor) rfl ?_|refine zH .here rfl rfl rfl rfl ?_|refine zH (.there .here) rfl rfl rfl rfl ?_|refine zH (.there (.there .here)) rfl rfl rfl rfl ?_)
  refine ja F (blk b1 66 (reqC c (.slice a es.length k)) :: X) ?_ ?_ ?_; kernel_rfl
  · exact fun w s => s
  refine aT 0 rfl (ev_fieldAddr rfl rfl) rfl rfl ?_ ?_ ?_ ?_; kernel_rfl; kernel_rfl; kernel_rfl
  refine aT 1 rfl (ev_load_agg (cs := c.cells) rfl rfl (Rdb.ofB (n := 0) .here rfl) rfl) rfl rfl ?_ ?_ ?_ ?_; kernel_rfl; kernel_rfl; kernel_rfl
  refine aT 4 rfl (ev_fieldAddr rfl rfl) rfl rfl ?_ ?_ ?_ ?_; kernel_rfl; kernel_rfl; kernel_rfl
  refine aT 5 rfl (ev_load rfl rfl (Rdb.ofB (n := 0) .here rfl)) rfl rfl ?_ ?_ ?_ ?_; kernel_rfl; kernel_rfl; kernel_rfl
  refine aT 6 rfl (eb rfl) rfl rfl ?_ ?_ ?_ ?_; kernel_rfl; kernel_rfl; kernel_rfl
  refine aT 7 rfl (ev_conv rfl rfl rfl (wrap_in (by dsimp only [InK]; omega))) rfl rfl ?_ ?_ ?_ ?_; kernel_rfl; kernel_rfl; kernel_rfl
  refine aB (i := 2) (by kernel_rfl) ?_
  refine aC (Hc := []) (Hr := blk b1 66 (reqC c (.slice a es.length k)) :: X) rfl (coreBytes_spec c F hl ht) Try.call31 rfl rfl rfl (fun _ s => s) (fun _ _ _ hF hq w s => by obtain ⟨e, _⟩ := hq; subst e; exact s.mono hF) ?_; rintro u1 F1 _ hF1 ⟨rfl, h1⟩; refine aFH hF1 ?_
  refine aB (i := 3) (by kernel_rfl) ?_
  refine aC (Hc := []) (Hr := blk b1 66 (reqC c (.slice a es.length k)) :: X) rfl (row_p _ _ [] c.bytes F1 (Byt.nil F1) h1 (by simp) (by omega)) Try.call67 rfl rfl rfl (fun _ s => s) (fun _ _ _ hF hq w s => by obtain ⟨e, _⟩ := hq; subst e; exact s.mono hF) ?_; rintro u2 F2 _ hF2 ⟨rfl, h2⟩; refine aFH hF2 ?_
  replace h2 : Byt F2 u2 (rowB c.bytes) := h2
  have hrl := rowB_len c.bytes
  obtain ⟨a2, k2, rfl, hk2⟩ := h2.form
  refine aB (i := 8) (by kernel_rfl) (aC (Hc := []) (Hr := blk b1 66 (reqC c (.slice a es.length k)) :: X) rfl (put_spec a2 k2 es.length 2 (rowB c.bytes) F2 h2 hk2 (by omega) (by omega)) Try.call44 rfl rfl rfl (fun _ s => s) (fun _ _ _ _ hq w s => by obtain ⟨rfl, rfl⟩ := hq; exact s.drop) ?_)
  rintro u3 _ _ _ ⟨rfl, rfl⟩
  refine aT 9 rfl (ev_pv rfl) rfl rfl ?_ ?_ ?_ ?_; kernel_rfl; kernel_rfl; kernel_rfl
  refine aD (by kernel_rfl) ?_
  replace h := h.mono (hF1.trans hF2)
  have hF12 := hF1.trans hF2
  repeat (first|refine zJ rfl rfl ?_|refine jr rfl ?_|refine jn ?_|refine zM rfl rfl ?_|(refine zC rfl rfl ?_ rfl ?_;omega)|(refine zD rfl rfl ?_ rfl ?_;omega)|(refine zP rfl ?_ rfl ?_;omega)|refine zG rfl rfl rfl rfl ?_|(refine jdq rfl rfl ?_ ?_ ?_;kernel_rfl;kernel_rfl)|refine zB rfl rfl rfl (by repeat constructor) rfl ?_|refine zH .here rfl rfl rfl rfl ?_|refine zH (.there .here) rfl rfl rfl rfl ?_|refine zH (.there (.there .here)) rfl rfl rfl rfl ?_|refine zH (.there (.there (.there .here))) rfl rfl rfl rfl ?_|refine zH (.there (.there (.there (.there .here)))) rfl rfl rfl rfl ?_)
  refine J_loop (ι := Nat × Value × PH) (fun i => i.1 ≤ es.length ∧ F2.le i.2.2) (fun i => es.length - i.1) (fun i => [(1, .pointer (some ⟨b1, 0, none⟩)), (3, i.2.1), (18, .slice a es.length k), (19, .int .i64 es.length), (20, .int .i64 i.1)]) (fun i => i.2.2)
    (fun i => bytes i.2.1 (headB c es.length ++ (es.take i.1).flatMap enB) :: blk b1 66 (reqC c (.slice a es.length k)) :: X) (0, u3, F2) ⟨Nat.zero_le _, PH.ler _⟩ ⟨⟨rfl, rfl, rfl, rfl, rfl, trivial⟩, fun w s => ?_⟩ ?_
  · dsimp only
    rw [List.take_zero, List.flatMap_nil, List.append_nil]
    exact s
  rintro ⟨i, v, G⟩ ⟨hi, hG⟩
  dsimp only at hi hG
  have hfl : ((es.take i).flatMap enB).length ≤ 1024 * 32769 := by
    have := flatMap_len (f := enB) (k := 32769) (l := es.take i) fun e he => hes e (List.mem_of_mem_take he)
    have h2 : (es.take i).length ≤ 1024 := by rw [List.length_take]; omega
    have h3 : (es.take i).length * 32769 ≤ 1024 * 32769 := Nat.mul_le_mul_right _ h2
    omega
  by_cases hil : i < es.length
  · have hg : es[i]? = some es[i] := List.getElem?_eq_getElem hil
    have hsn := flatMap_snoc (f := enB) hg
    obtain ⟨b, off, cs, rfl, hcc, hrep, _⟩ := (h.mono hG).at hg
    have htl := hf.2 _ (List.getElem_mem hil)
    generalize es[i] = e at *
    obtain ⟨ae, ce, rfl, hte, hin⟩ := en_of hrep
    repeat (first|refine zJ rfl rfl ?_|refine jr rfl ?_|refine jn ?_|refine zM rfl rfl ?_|(refine zC rfl rfl ?_ rfl ?_;omega)|(refine zD rfl rfl ?_ rfl ?_;omega)|(refine zP rfl ?_ rfl ?_;omega)|refine zG rfl rfl rfl rfl ?_|(refine jdq rfl rfl ?_ ?_ ?_;kernel_rfl;kernel_rfl)|refine zB rfl rfl rfl (by repeat constructor) rfl ?_|refine zH .here rfl rfl rfl rfl ?_|refine zH (.there .here) rfl rfl rfl rfl ?_|refine zH (.there (.there .here)) rfl rfl rfl rfl ?_)
    refine oS (ev_indexAddr rfl rfl rfl hil) rfl ?_
    refine oS (ev_load_agg rfl rfl (Rdb.ofF hcc) rfl) rfl ?_
    refine oE (ev_alloc rfl) rfl ?_; rintro _ _ _ _ ⟨rfl, b5, rfl, rfl⟩; refine oN (ev_store rfl rfl .agg rfl rfl (lay_all ?_) ?_ .here) rfl ?_; rfl; rotate_left; rintro _ _ _ _ ⟨rfl, rfl, rfl⟩; rotate_left
    · exact ones_en _ _ _ _
    repeat (first|refine zJ rfl rfl ?_|refine jr rfl ?_|refine jn ?_|refine zM rfl rfl ?_|(refine zC rfl rfl ?_ rfl ?_;omega)|(refine zD rfl rfl ?_ rfl ?_;omega)|(refine zP rfl ?_ rfl ?_;omega)|refine zG rfl rfl rfl rfl ?_|(refine jdq rfl rfl ?_ ?_ ?_;kernel_rfl;kernel_rfl)|refine zB rfl rfl rfl (by repeat constructor) rfl ?_|refine zH .here rfl rfl rfl rfl ?_|refine zH (.there .here) rfl rfl rfl rfl ?_|refine zH (.there (.there .here)) rfl rfl rfl rfl ?_)
    refine oS (ev_conv rfl rfl rfl (uN_wrap _)) rfl ?_
    refine oPick (.there .here) (oPersist fun h1 hA1 hd1 => ?_)
    have hbv := bytes_byt hA1 hd1
    dsimp only at hbv
    have hle := PH.le_l G h1
    replace hte := hte.mono hle
    generalize G.un h1 = G1 at *
    obtain ⟨av, cv, rfl, hcv⟩ := hbv.form
    refine oC (Hc := []) (Hr := blk b5 72 (enC e.1 (.slice ae e.2.1.length ce)) :: blk b1 66 (reqC c (.slice (some ⟨b, off, none⟩) es.length k)) :: X) (put_spec av cv (uN e.1) 1 _ G1 hbv hcv (uN_lt _) (by rw [List.length_append]; omega)) Try.call44 rfl rfl (fun _ s => s) ?_
    rintro u4 _ _ _ ⟨rfl, rfl⟩
    repeat (first|refine zJ rfl rfl ?_|refine jr rfl ?_|refine jn ?_|refine zM rfl rfl ?_|(refine zC rfl rfl ?_ rfl ?_;omega)|(refine zD rfl rfl ?_ rfl ?_;omega)|(refine zP rfl ?_ rfl ?_;omega)|refine zG rfl rfl rfl rfl ?_|(refine jdq rfl rfl ?_ ?_ ?_;kernel_rfl;kernel_rfl)|refine zB rfl rfl rfl (by repeat constructor) rfl ?_|refine zH .here rfl rfl rfl rfl ?_|refine zH (.there .here) rfl rfl rfl rfl ?_|refine zH (.there (.there .here)) rfl rfl rfl rfl ?_|refine zH (.there (.there (.there .here))) rfl rfl rfl rfl ?_|refine zH (.there (.there (.there (.there .here)))) rfl rfl rfl rfl ?_)
    generalize hB : headB c es.length ++ (es.take i).flatMap enB ++ putB (uN e.1) 1 = B at *
    have hBl : B.length ≤ 40 + 2097152 + 1024 * 32769 + 1 := by rw [← hB, List.length_append, List.length_append, pl1]; omega
    refine J_loop (ι := Nat × Value) (fun j => j.1 ≤ e.2.1.length) (fun j => e.2.1.length - j.1) (fun j => [(1, .pointer (some ⟨b1, 0, none⟩)), (3, j.2), (18, .slice (some ⟨b, off, none⟩) es.length k), (19, .int .i64 es.length), (20, .int .i64 i), (30, .slice ae e.2.1.length ce), (31, .int .i64 e.2.1.length), (32, .int .i64 j.1)]) (fun _ => G1)
      (fun j => bytes j.2 (B ++ (e.2.1.take j.1).flatten) :: blk b5 72 (enC e.1 (.slice ae e.2.1.length ce)) :: blk b1 66 (reqC c (.slice (some ⟨b, off, none⟩) es.length k)) :: X) (0, u4) (Nat.zero_le _) ⟨⟨rfl, rfl, rfl, rfl, rfl, rfl, rfl, rfl, trivial⟩, fun w s => ?_⟩ ?_
    · dsimp only
      rw [List.take_zero, List.flatten_nil, List.append_nil]
      exact s
    rintro ⟨j, u5⟩ hj
    dsimp only at hj
    by_cases hjl : j < e.2.1.length
    · have hgt : e.2.1[j]? = some e.2.1[j] := List.getElem?_eq_getElem hjl
      obtain ⟨b2, o2, rfl, hc2, hl2⟩ := hte.at rfl hgt
      have hst := flat_snoc hgt
      have hfl2 : (e.2.1.take j).flatten.length ≤ 32 * 1024 := by
        rw [flat32_len fun t ht => hte.2 t (List.mem_of_mem_take ht), List.length_take]; omega
      generalize e.2.1[j] = t at *
      repeat (first|refine zJ rfl rfl ?_|refine jr rfl ?_|refine jn ?_|refine zM rfl rfl ?_|(refine zC rfl rfl ?_ rfl ?_;omega)|(refine zD rfl rfl ?_ rfl ?_;omega)|(refine zP rfl ?_ rfl ?_;omega)|refine zG rfl rfl rfl rfl ?_|(refine jdq rfl rfl ?_ ?_ ?_;kernel_rfl;kernel_rfl)|refine zB rfl rfl rfl (by repeat constructor) rfl ?_|refine zH .here rfl rfl rfl rfl ?_|refine zH (.there .here) rfl rfl rfl rfl ?_|refine zH (.there (.there .here)) rfl rfl rfl rfl ?_)
      refine oS (ev_indexAddr rfl rfl rfl hjl) rfl ?_
      refine oS (ev_load_agg rfl rfl (Rdb.ofF hc2) (by rw [u8s_len]; exact hl2)) rfl ?_
      refine oE (ev_alloc (cs := z32) rfl) rfl ?_
      rintro _ _ _ _ ⟨rfl, b7, rfl, rfl⟩
      refine oN (ev_store (b := b7) rfl rfl .agg rfl (by rw [u8s_len]; exact hl2) (lay_all (zs := z32) (by rw [u8s_len, hl2]; rfl)) (u8s_ones _) .here) rfl ?_
      rintro _ _ _ _ ⟨rfl, _, rfl⟩
      repeat (first|refine zJ rfl rfl ?_|refine jr rfl ?_|refine jn ?_|refine zM rfl rfl ?_|(refine zC rfl rfl ?_ rfl ?_;omega)|(refine zD rfl rfl ?_ rfl ?_;omega)|(refine zP rfl ?_ rfl ?_;omega)|refine zG rfl rfl rfl rfl ?_|(refine jdq rfl rfl ?_ ?_ ?_;kernel_rfl;kernel_rfl)|refine zB rfl rfl rfl (by repeat constructor) rfl ?_|refine zH .here rfl rfl rfl rfl ?_|refine zH (.there .here) rfl rfl rfl rfl ?_|refine zH (.there (.there .here)) rfl rfl rfl rfl ?_)
      refine oS (ev_slice_arr rfl rfl) rfl ?_
      refine oE (eb_append (bs := B ++ (e.2.1.take j).flatten) (cs := t) (K := fun v' => blk b7 106 (u8s t) :: bytes v' (B ++ (e.2.1.take j).flatten ++ t) :: blk b5 72 (enC e.1 (.slice (some ⟨b2, o2, none⟩) e.2.1.length ce)) :: blk b1 66 (reqC c (.slice (some ⟨b, off, none⟩) es.length k)) :: X) rfl rfl (RdB.blk .here hl2) (by rw [List.length_append]; omega) (fun v' => .there .here)) rfl ?_
      rintro u6 _ _ _ ⟨rfl, _, rfl⟩
      repeat (first|refine zJ rfl rfl ?_|refine jr rfl ?_|refine jn ?_|refine zM rfl rfl ?_|(refine zC rfl rfl ?_ rfl ?_;omega)|(refine zD rfl rfl ?_ rfl ?_;omega)|(refine zP rfl ?_ rfl ?_;omega)|refine zG rfl rfl rfl rfl ?_|(refine jdq rfl rfl ?_ ?_ ?_;kernel_rfl;kernel_rfl)|refine zB rfl rfl rfl (by repeat constructor) rfl ?_|refine zH .here rfl rfl rfl rfl ?_|refine zH (.there .here) rfl rfl rfl rfl ?_|refine zH (.there (.there .here)) rfl rfl rfl rfl ?_)
      refine J_again (j + 1, u6) hjl (by dsimp only; omega) ⟨⟨rfl, rfl, rfl, rfl, rfl, rfl, rfl, rfl, trivial⟩, fun w s => ?_⟩
      dsimp only
      rw [hst, ← List.append_assoc]
      exact s.drop
    · obtain rfl : j = e.2.1.length := by omega
      rw [List.take_length]
      repeat (first|refine zJ rfl rfl ?_|refine jr rfl ?_|refine jn ?_|refine zM rfl rfl ?_|(refine zC rfl rfl ?_ rfl ?_;omega)|(refine zD rfl rfl ?_ rfl ?_;omega)|(refine zP rfl ?_ rfl ?_;omega)|refine zG rfl rfl rfl rfl ?_|(refine jdq rfl rfl ?_ ?_ ?_;kernel_rfl;kernel_rfl)|refine zB rfl rfl rfl (by repeat constructor) rfl ?_|refine zH .here rfl rfl rfl rfl ?_|refine zH (.there .here) rfl rfl rfl rfl ?_|refine zH (.there (.there .here)) rfl rfl rfl rfl ?_)
      refine J_again (i + 1, u5, G1) ⟨hil, hG.trans hle⟩ (by dsimp only; omega) ⟨⟨rfl, rfl, rfl, rfl, rfl, trivial⟩, fun w s => ?_⟩
      dsimp only
      rw [hsn, ← List.append_assoc, show headB c es.length ++ (es.take i).flatMap enB ++ enB e = B ++ e.2.1.flatten from by rw [← hB]; unfold enB; simp only [List.append_assoc]]
      exact (s.pick (.there .here)).drop
  · obtain rfl : i = es.length := by omega
    rw [List.take_length]
    repeat (first|refine zJ rfl rfl ?_|refine jr rfl ?_|refine jn ?_|refine zM rfl rfl ?_|(refine zC rfl rfl ?_ rfl ?_;omega)|(refine zD rfl rfl ?_ rfl ?_;omega)|(refine zP rfl ?_ rfl ?_;omega)|refine zG rfl rfl rfl rfl ?_|(refine jdq rfl rfl ?_ ?_ ?_;kernel_rfl;kernel_rfl)|refine zB rfl rfl rfl (by repeat constructor) rfl ?_|refine zH .here rfl rfl rfl rfl ?_|refine zH (.there .here) rfl rfl rfl rfl ?_|refine zH (.there (.there .here)) rfl rfl rfl rfl ?_)
    refine J_persist fun h1 hA1 hd1 => ?_
    exact J_retv rfl (.tmp rfl .nil) [] (fun w s => s.drop) (hF12.trans (hG.trans (PH.le_l _ _))) ⟨rfl, bytes_byt hA1 hd1⟩
set_option maxHeartbeats 32000000 in
theorem Bytes_spec (c : Cr) (v : Value) (es : List En) (F : PH) (h : RowV tyEn F v es) (hf : Few es) (hl : c.letter.length ≤ 1048576) (ht : c.text.length ≤ 1048576) :
    Spec Try.prog 41 [.agg (reqC c v).toArray] F [] fun u F' H' => H' = [] ∧ Byt F' u (reqB c es) := by
  have hes := en_small h hf
  have hf1 := hf.1
  have hcb := c.bytes_len
  have hhl := headB_len c es.length
  obtain ⟨a, k, rfl, hk⟩ := h.form
  refine Spec.of1 Try.func41 rfl rfl fun X w0 => ?_
  refine jc rfl rfl ?_
  refine jr rfl ?_
  refine oE (ev_box rfl .agg) rfl ?_; rintro _ _ _ _ ⟨rfl, b1, rfl, rfl⟩
  repeat (first|refine zJ rfl rfl ?_|refine jr rfl ?_|refine jn ?_|refine zM rfl rfl ?_|(refine zC rfl rfl ?_ rfl ?_;omega)|(refine zD rfl rfl ?_ rfl ?_;omega)|(refine zP rfl ?_ rfl ?_;omega)|refine zG rfl rfl rfl rfl ?_|(refine jdq rfl rfl ?_ ?_ ?_;kernel_rfl;kernel_rfl)|refine zB rfl rfl rfl (by repeat constructor) rfl ?_|refine zH .here rfl rfl rfl rfl ?_|refine zH (.there .here) rfl rfl rfl rfl ?_|refine zH (.there (.there .here)) rfl rfl rfl rfl ?_)
  refine oS (ev_load_agg (cs := c.cells) rfl rfl (Rdb.ofB (n := 0) .here rfl) rfl) rfl ?_
  refine oC (Hc := []) (Hr := blk b1 66 (reqC c (.slice a es.length k)) :: X) (CoreBytes_spec c F hl ht) Try.call34 rfl rfl (fun _ s => s) ?_; rintro u1 F1 _ hF1 ⟨rfl, h1⟩
  refine oC (Hc := []) (Hr := blk b1 66 (reqC c (.slice a es.length k)) :: X) (Row_p _ _ [] c.bytes F1 (Byt.nil F1) h1 (by simp) (by omega)) Try.call69 rfl rfl (fun _ s => s) ?_; rintro u2 F2 _ hF2 ⟨rfl, h2⟩
  replace h2 : Byt F2 u2 (rowB c.bytes) := h2
  have hrl := rowB_len c.bytes
  obtain ⟨a2, k2, rfl, hk2⟩ := h2.form
  repeat (first|refine zJ rfl rfl ?_|refine jr rfl ?_|refine jn ?_|refine zM rfl rfl ?_|(refine zC rfl rfl ?_ rfl ?_;omega)|(refine zD rfl rfl ?_ rfl ?_;omega)|(refine zP rfl ?_ rfl ?_;omega)|refine zG rfl rfl rfl rfl ?_|(refine jdq rfl rfl ?_ ?_ ?_;kernel_rfl;kernel_rfl)|refine zB rfl rfl rfl (by repeat constructor) rfl ?_|refine zH .here rfl rfl rfl rfl ?_|refine zH (.there .here) rfl rfl rfl rfl ?_|refine zH (.there (.there .here)) rfl rfl rfl rfl ?_)
  refine oC (Hc := []) (Hr := blk b1 66 (reqC c (.slice a es.length k)) :: X) (Put_spec a2 k2 es.length 2 (rowB c.bytes) F2 h2 (by omega) (by omega)) Try.call46 rfl rfl (fun _ s => s) ?_
  rintro u3 _ _ _ ⟨rfl, rfl⟩
  replace h := h.mono (hF1.trans hF2)
  have hF12 := hF1.trans hF2
  repeat (first|refine zJ rfl rfl ?_|refine jr rfl ?_|refine jn ?_|refine zM rfl rfl ?_|(refine zC rfl rfl ?_ rfl ?_;omega)|(refine zD rfl rfl ?_ rfl ?_;omega)|(refine zP rfl ?_ rfl ?_;omega)|refine zG rfl rfl rfl rfl ?_|(refine jdq rfl rfl ?_ ?_ ?_;kernel_rfl;kernel_rfl)|refine zB rfl rfl rfl (by repeat constructor) rfl ?_|refine zH .here rfl rfl rfl rfl ?_|refine zH (.there .here) rfl rfl rfl rfl ?_|refine zH (.there (.there .here)) rfl rfl rfl rfl ?_|refine zH (.there (.there (.there .here))) rfl rfl rfl rfl ?_|refine zH (.there (.there (.there (.there .here)))) rfl rfl rfl rfl ?_)
  refine J_loop (ι := Nat × Value × PH) (fun i => i.1 ≤ es.length ∧ F2.le i.2.2) (fun i => es.length - i.1) (fun i => [(1, .pointer (some ⟨b1, 0, none⟩)), (3, i.2.1), (21, .slice a es.length k), (22, .int .i64 es.length), (23, .int .i64 i.1)]) (fun i => i.2.2)
    (fun i => bytes i.2.1 (headB c es.length ++ (es.take i.1).flatMap enB) :: blk b1 66 (reqC c (.slice a es.length k)) :: X) (0, u3, F2) ⟨Nat.zero_le _, PH.ler _⟩ ⟨⟨rfl, rfl, rfl, rfl, rfl, trivial⟩, fun w s => ?_⟩ ?_
  · dsimp only
    rw [List.take_zero, List.flatMap_nil, List.append_nil]
    exact s
  rintro ⟨i, v, G⟩ ⟨hi, hG⟩
  dsimp only at hi hG
  have hfl : ((es.take i).flatMap enB).length ≤ 1024 * 32769 := by
    have := flatMap_len (f := enB) (k := 32769) (l := es.take i) fun e he => hes e (List.mem_of_mem_take he)
    have h2 : (es.take i).length ≤ 1024 := by rw [List.length_take]; omega
    have h3 : (es.take i).length * 32769 ≤ 1024 * 32769 := Nat.mul_le_mul_right _ h2
    omega
  by_cases hil : i < es.length
  · have hg : es[i]? = some es[i] := List.getElem?_eq_getElem hil
    have hsn := flatMap_snoc (f := enB) hg
    obtain ⟨b, off, cs, rfl, hcc, hrep, _⟩ := (h.mono hG).at hg
    have htl := hf.2 _ (List.getElem_mem hil)
    generalize es[i] = e at *
    obtain ⟨ae, ce, rfl, hte, hin⟩ := en_of hrep
    repeat (first|refine zJ rfl rfl ?_|refine jr rfl ?_|refine jn ?_|refine zM rfl rfl ?_|(refine zC rfl rfl ?_ rfl ?_;omega)|(refine zD rfl rfl ?_ rfl ?_;omega)|(refine zP rfl ?_ rfl ?_;omega)|refine zG rfl rfl rfl rfl ?_|(refine jdq rfl rfl ?_ ?_ ?_;kernel_rfl;kernel_rfl)|refine zB rfl rfl rfl (by repeat constructor) rfl ?_|refine zH .here rfl rfl rfl rfl ?_|refine zH (.there .here) rfl rfl rfl rfl ?_|refine zH (.there (.there .here)) rfl rfl rfl rfl ?_)
    refine oS (ev_indexAddr rfl rfl rfl hil) rfl ?_
    refine oS (ev_load_agg rfl rfl (Rdb.ofF hcc) rfl) rfl ?_
    refine oE (ev_alloc rfl) rfl ?_; rintro _ _ _ _ ⟨rfl, b5, rfl, rfl⟩; refine oN (ev_store rfl rfl .agg rfl rfl (lay_all ?_) ?_ .here) rfl ?_; rfl; rotate_left; rintro _ _ _ _ ⟨rfl, rfl, rfl⟩; rotate_left
    · exact ones_en _ _ _ _
    repeat (first|refine zJ rfl rfl ?_|refine jr rfl ?_|refine jn ?_|refine zM rfl rfl ?_|(refine zC rfl rfl ?_ rfl ?_;omega)|(refine zD rfl rfl ?_ rfl ?_;omega)|(refine zP rfl ?_ rfl ?_;omega)|refine zG rfl rfl rfl rfl ?_|(refine jdq rfl rfl ?_ ?_ ?_;kernel_rfl;kernel_rfl)|refine zB rfl rfl rfl (by repeat constructor) rfl ?_|refine zH .here rfl rfl rfl rfl ?_|refine zH (.there .here) rfl rfl rfl rfl ?_|refine zH (.there (.there .here)) rfl rfl rfl rfl ?_)
    refine oS (ev_conv rfl rfl rfl (uN_wrap _)) rfl ?_
    refine oPick (.there .here) (oPersist fun h1 hA1 hd1 => ?_)
    have hbv := bytes_byt hA1 hd1
    dsimp only at hbv
    have hle := PH.le_l G h1
    replace hte := hte.mono hle
    generalize G.un h1 = G1 at *
    obtain ⟨av, cv, rfl, hcv⟩ := hbv.form
    refine oC (Hc := []) (Hr := blk b5 72 (enC e.1 (.slice ae e.2.1.length ce)) :: blk b1 66 (reqC c (.slice (some ⟨b, off, none⟩) es.length k)) :: X) (Put_spec av cv (uN e.1) 1 _ G1 hbv (uN_lt _) (by rw [List.length_append]; omega)) Try.call46 rfl rfl (fun _ s => s) ?_
    rintro u4 _ _ _ ⟨rfl, rfl⟩
    repeat (first|refine zJ rfl rfl ?_|refine jr rfl ?_|refine jn ?_|refine zM rfl rfl ?_|(refine zC rfl rfl ?_ rfl ?_;omega)|(refine zD rfl rfl ?_ rfl ?_;omega)|(refine zP rfl ?_ rfl ?_;omega)|refine zG rfl rfl rfl rfl ?_|(refine jdq rfl rfl ?_ ?_ ?_;kernel_rfl;kernel_rfl)|refine zB rfl rfl rfl (by repeat constructor) rfl ?_|refine zH .here rfl rfl rfl rfl ?_|refine zH (.there .here) rfl rfl rfl rfl ?_|refine zH (.there (.there .here)) rfl rfl rfl rfl ?_|refine zH (.there (.there (.there .here))) rfl rfl rfl rfl ?_|refine zH (.there (.there (.there (.there .here)))) rfl rfl rfl rfl ?_)
    generalize hB : headB c es.length ++ (es.take i).flatMap enB ++ putB (uN e.1) 1 = B at *
    have hBl : B.length ≤ 40 + 2097152 + 1024 * 32769 + 1 := by rw [← hB, List.length_append, List.length_append, pl1]; omega
    refine J_loop (ι := Nat × Value) (fun j => j.1 ≤ e.2.1.length) (fun j => e.2.1.length - j.1) (fun j => [(1, .pointer (some ⟨b1, 0, none⟩)), (3, j.2), (21, .slice (some ⟨b, off, none⟩) es.length k), (22, .int .i64 es.length), (23, .int .i64 i), (33, .slice ae e.2.1.length ce), (34, .int .i64 e.2.1.length), (35, .int .i64 j.1)]) (fun _ => G1)
      (fun j => bytes j.2 (B ++ (e.2.1.take j.1).flatten) :: blk b5 72 (enC e.1 (.slice ae e.2.1.length ce)) :: blk b1 66 (reqC c (.slice (some ⟨b, off, none⟩) es.length k)) :: X) (0, u4) (Nat.zero_le _) ⟨⟨rfl, rfl, rfl, rfl, rfl, rfl, rfl, rfl, trivial⟩, fun w s => ?_⟩ ?_
    · dsimp only
      rw [List.take_zero, List.flatten_nil, List.append_nil]
      exact s
    rintro ⟨j, u5⟩ hj
    dsimp only at hj
    by_cases hjl : j < e.2.1.length
    · have hgt : e.2.1[j]? = some e.2.1[j] := List.getElem?_eq_getElem hjl
      obtain ⟨b2, o2, rfl, hc2, hl2⟩ := hte.at rfl hgt
      have hst := flat_snoc hgt
      have hfl2 : (e.2.1.take j).flatten.length ≤ 32 * 1024 := by
        rw [flat32_len fun t ht => hte.2 t (List.mem_of_mem_take ht), List.length_take]; omega
      generalize e.2.1[j] = t at *
      repeat (first|refine zJ rfl rfl ?_|refine jr rfl ?_|refine jn ?_|refine zM rfl rfl ?_|(refine zC rfl rfl ?_ rfl ?_;omega)|(refine zD rfl rfl ?_ rfl ?_;omega)|(refine zP rfl ?_ rfl ?_;omega)|refine zG rfl rfl rfl rfl ?_|(refine jdq rfl rfl ?_ ?_ ?_;kernel_rfl;kernel_rfl)|refine zB rfl rfl rfl (by repeat constructor) rfl ?_|refine zH .here rfl rfl rfl rfl ?_|refine zH (.there .here) rfl rfl rfl rfl ?_|refine zH (.there (.there .here)) rfl rfl rfl rfl ?_)
      refine oS (ev_indexAddr rfl rfl rfl hjl) rfl ?_
      refine oS (ev_load_agg rfl rfl (Rdb.ofF hc2) (by rw [u8s_len]; exact hl2)) rfl ?_
      refine oE (ev_alloc (cs := z32) rfl) rfl ?_
      rintro _ _ _ _ ⟨rfl, b7, rfl, rfl⟩
      refine oN (ev_store (b := b7) rfl rfl .agg rfl (by rw [u8s_len]; exact hl2) (lay_all (zs := z32) (by rw [u8s_len, hl2]; rfl)) (u8s_ones _) .here) rfl ?_
      rintro _ _ _ _ ⟨rfl, _, rfl⟩
      repeat (first|refine zJ rfl rfl ?_|refine jr rfl ?_|refine jn ?_|refine zM rfl rfl ?_|(refine zC rfl rfl ?_ rfl ?_;omega)|(refine zD rfl rfl ?_ rfl ?_;omega)|(refine zP rfl ?_ rfl ?_;omega)|refine zG rfl rfl rfl rfl ?_|(refine jdq rfl rfl ?_ ?_ ?_;kernel_rfl;kernel_rfl)|refine zB rfl rfl rfl (by repeat constructor) rfl ?_|refine zH .here rfl rfl rfl rfl ?_|refine zH (.there .here) rfl rfl rfl rfl ?_|refine zH (.there (.there .here)) rfl rfl rfl rfl ?_)
      refine oS (ev_load_agg (cs := u8s t) rfl rfl (Rdb.ofB (n := 0) .here (by rw [List.drop_zero, List.take_length])) (by rw [u8s_len]; exact hl2)) rfl ?_
      repeat (first|refine zJ rfl rfl ?_|refine jr rfl ?_|refine jn ?_|refine zM rfl rfl ?_|(refine zC rfl rfl ?_ rfl ?_;omega)|(refine zD rfl rfl ?_ rfl ?_;omega)|(refine zP rfl ?_ rfl ?_;omega)|refine zG rfl rfl rfl rfl ?_|(refine jdq rfl rfl ?_ ?_ ?_;kernel_rfl;kernel_rfl)|refine zB rfl rfl rfl (by repeat constructor) rfl ?_|refine zH .here rfl rfl rfl rfl ?_|refine zH (.there .here) rfl rfl rfl rfl ?_|refine zH (.there (.there .here)) rfl rfl rfl rfl ?_)
      refine J_loop (ι := Nat × Value) (fun y => y.1 ≤ 32) (fun y => 32 - y.1) (fun y => [(1, .pointer (some ⟨b1, 0, none⟩)), (3, y.2), (21, .slice (some ⟨b, off, none⟩) es.length k), (22, .int .i64 es.length), (23, .int .i64 i), (33, .slice (some ⟨b2, o2, none⟩) e.2.1.length ce), (34, .int .i64 e.2.1.length), (35, .int .i64 j), (39, .agg (u8s t).toArray), (40, .int .i64 y.1)]) (fun _ => G1)
        (fun y => bytes y.2 (B ++ (e.2.1.take j).flatten ++ t.take y.1) :: blk b7 106 (u8s t) :: blk b5 72 (enC e.1 (.slice (some ⟨b2, o2, none⟩) e.2.1.length ce)) :: blk b1 66 (reqC c (.slice (some ⟨b, off, none⟩) es.length k)) :: X) (0, u5) (Nat.zero_le _) ⟨⟨rfl, rfl, rfl, rfl, rfl, rfl, rfl, rfl, rfl, rfl, trivial⟩, fun w s => ?_⟩ ?_
      · dsimp only
        rw [List.take_zero, List.append_nil]
        exact s.pick (.there .here)
      rintro ⟨y, u6⟩ hy
      dsimp only at hy
      by_cases hyl : y < 32
      · have hgy : t[y]? = some (t[y]'(by omega)) := List.getElem?_eq_getElem _
        have hty := take_snoc hgy
        generalize t[y]'(by omega) = x at *
        repeat (first|refine zJ rfl rfl ?_|refine jr rfl ?_|refine jn ?_|refine zM rfl rfl ?_|(refine zC rfl rfl ?_ rfl ?_;omega)|(refine zD rfl rfl ?_ rfl ?_;omega)|(refine zP rfl ?_ rfl ?_;omega)|refine zG rfl rfl rfl rfl ?_|(refine jdq rfl rfl ?_ ?_ ?_;kernel_rfl;kernel_rfl)|refine zB rfl rfl rfl (by repeat constructor) rfl ?_|refine zH .here rfl rfl rfl rfl ?_|refine zH (.there .here) rfl rfl rfl rfl ?_|refine zH (.there (.there .here)) rfl rfl rfl rfl ?_)
        refine oS (ev_index_arr (xs := t) (i := y) (c := x) rfl rfl rfl rfl hl2 hgy) rfl ?_
        repeat (first|refine zJ rfl rfl ?_|refine jr rfl ?_|refine jn ?_|refine zM rfl rfl ?_|(refine zC rfl rfl ?_ rfl ?_;omega)|(refine zD rfl rfl ?_ rfl ?_;omega)|(refine zP rfl ?_ rfl ?_;omega)|refine zG rfl rfl rfl rfl ?_|(refine jdq rfl rfl ?_ ?_ ?_;kernel_rfl;kernel_rfl)|refine zB rfl rfl rfl (by repeat constructor) rfl ?_|refine zH .here rfl rfl rfl rfl ?_|refine zH (.there .here) rfl rfl rfl rfl ?_|refine zH (.there (.there .here)) rfl rfl rfl rfl ?_)
        refine ob_push (bs := B ++ (e.2.1.take j).flatten ++ t.take y) (b := x) (K := fun v' => bytes v' (B ++ (e.2.1.take j).flatten ++ t.take y ++ [x]) :: blk b7 106 (u8s t) :: blk b5 72 (enC e.1 (.slice (some ⟨b2, o2, none⟩) e.2.1.length ce)) :: blk b1 66 (reqC c (.slice (some ⟨b, off, none⟩) es.length k)) :: X) rfl (fun _ => rfl) rfl (by rw [List.length_append, List.length_append, List.length_take]; omega) (fun v' => .here) rfl (fun _ => rfl) ?_
        intro u' w'
        repeat (first|refine zJ rfl rfl ?_|refine jr rfl ?_|refine jn ?_|refine zM rfl rfl ?_|(refine zC rfl rfl ?_ rfl ?_;omega)|(refine zD rfl rfl ?_ rfl ?_;omega)|(refine zP rfl ?_ rfl ?_;omega)|refine zG rfl rfl rfl rfl ?_|(refine jdq rfl rfl ?_ ?_ ?_;kernel_rfl;kernel_rfl)|refine zB rfl rfl rfl (by repeat constructor) rfl ?_|refine zH .here rfl rfl rfl rfl ?_|refine zH (.there .here) rfl rfl rfl rfl ?_|refine zH (.there (.there .here)) rfl rfl rfl rfl ?_)
        refine J_again (y + 1, u') hyl (by dsimp only; omega) ⟨⟨rfl, rfl, rfl, rfl, rfl, rfl, rfl, rfl, rfl, rfl, trivial⟩, fun w s => ?_⟩
        dsimp only
        rw [hty, ← List.append_assoc]
        exact s
      · obtain rfl : y = 32 := by omega
        have ht32 : t.take 32 = t := List.take_of_length_le (by omega)
        dsimp only
        rw [ht32]
        repeat (first|refine zJ rfl rfl ?_|refine jr rfl ?_|refine jn ?_|refine zM rfl rfl ?_|(refine zC rfl rfl ?_ rfl ?_;omega)|(refine zD rfl rfl ?_ rfl ?_;omega)|(refine zP rfl ?_ rfl ?_;omega)|refine zG rfl rfl rfl rfl ?_|(refine jdq rfl rfl ?_ ?_ ?_;kernel_rfl;kernel_rfl)|refine zB rfl rfl rfl (by repeat constructor) rfl ?_|refine zH .here rfl rfl rfl rfl ?_|refine zH (.there .here) rfl rfl rfl rfl ?_|refine zH (.there (.there .here)) rfl rfl rfl rfl ?_)
        refine J_again (j + 1, u6) hjl (by dsimp only; omega) ⟨⟨rfl, rfl, rfl, rfl, rfl, rfl, rfl, rfl, trivial⟩, fun w s => ?_⟩
        dsimp only
        rw [hst, ← List.append_assoc]
        exact (s.pick (.there .here)).drop
    · obtain rfl : j = e.2.1.length := by omega
      rw [List.take_length]
      repeat (first|refine zJ rfl rfl ?_|refine jr rfl ?_|refine jn ?_|refine zM rfl rfl ?_|(refine zC rfl rfl ?_ rfl ?_;omega)|(refine zD rfl rfl ?_ rfl ?_;omega)|(refine zP rfl ?_ rfl ?_;omega)|refine zG rfl rfl rfl rfl ?_|(refine jdq rfl rfl ?_ ?_ ?_;kernel_rfl;kernel_rfl)|refine zB rfl rfl rfl (by repeat constructor) rfl ?_|refine zH .here rfl rfl rfl rfl ?_|refine zH (.there .here) rfl rfl rfl rfl ?_|refine zH (.there (.there .here)) rfl rfl rfl rfl ?_)
      refine J_again (i + 1, u5, G1) ⟨hil, hG.trans hle⟩ (by dsimp only; omega) ⟨⟨rfl, rfl, rfl, rfl, rfl, trivial⟩, fun w s => ?_⟩
      dsimp only
      rw [hsn, ← List.append_assoc, show headB c es.length ++ (es.take i).flatMap enB ++ enB e = B ++ e.2.1.flatten from by rw [← hB]; unfold enB; simp only [List.append_assoc]]
      exact (s.pick (.there .here)).drop
  · obtain rfl : i = es.length := by omega
    rw [List.take_length]
    repeat (first|refine zJ rfl rfl ?_|refine jr rfl ?_|refine jn ?_|refine zM rfl rfl ?_|(refine zC rfl rfl ?_ rfl ?_;omega)|(refine zD rfl rfl ?_ rfl ?_;omega)|(refine zP rfl ?_ rfl ?_;omega)|refine zG rfl rfl rfl rfl ?_|(refine jdq rfl rfl ?_ ?_ ?_;kernel_rfl;kernel_rfl)|refine zB rfl rfl rfl (by repeat constructor) rfl ?_|refine zH .here rfl rfl rfl rfl ?_|refine zH (.there .here) rfl rfl rfl rfl ?_|refine zH (.there (.there .here)) rfl rfl rfl rfl ?_)
    refine J_persist fun h1 hA1 hd1 => ?_
    exact J_retv rfl (.tmp rfl .nil) [] (fun w s => s.drop) (hF12.trans (hG.trans (PH.le_l _ _))) ⟨rfl, bytes_byt hA1 hd1⟩
end Go.Proofs.Ytaggonhgafggkaa
