/-
  Entries, and the bytes of batches, the program's and the document's. Conditions are typed with each.
  Deeds' bytes, the program's and the document's. Conditions are typed with each.
-/
import Derived.Test.YtohlmhoacjodjaaRc
import Derived.Test.YtohlmhoacjodjaaOk
import Derived.Test.YtohlmhoacjodjaaKv
namespace Go.Proofs.Ytohlmhoacjodjaa
open Go.RowKit
set_option maxRecDepth 100000
theorem flatMap_len {α : Type} {f : α → List UInt8} {k : Nat} : ∀ {l : List α}, (∀ x ∈ l, (f x).length ≤ k) → (l.flatMap f).length ≤ l.length * k
  | [], _ => by simp
  | x :: l, h => by
    have h1 := h x List.mem_cons_self
    have h2 := flatMap_len (l := l) fun y hy => h y (List.mem_cons_of_mem _ hy)
    rw [List.flatMap_cons, List.length_append, List.length_cons, Nat.succ_mul]
    omega
theorem flatMap_snoc {α β : Type} {f : α → List β} {l : List α} {i : Nat} {x : α} (h : l[i]? = some x) : (l.take (i + 1)).flatMap f = (l.take i).flatMap f ++ f x := by rw [take_snoc h, List.flatMap_append]; simp
/-- An entry: its core, its mask. -/
structure Et where
  core : Cr
  mask : Nat
def Et.cells (e : Et) : List Value := [.int .i64 e.core.client, .int .i64 e.core.stamp, .int .i64 e.core.op, .string (strOf e.core.letter), .int .i64 e.core.a, .int .i64 e.core.b, .string (strOf e.core.text), .int .u32 e.mask]
def zEt : List Value := [.int .i64 0, .int .i64 0, .int .i64 0, .string (strOf []), .int .i64 0, .int .i64 0, .string (strOf []), .int .u32 0]
def Et.fine (e : Et) : Prop := e.mask < 4294967296 ∧ e.core.letter.length ≤ 1048576 ∧ e.core.text.length ≤ 1048576
theorem Et.len (e : Et) : e.cells.length = 8 := rfl
theorem Et.ones (e : Et) : Ones e.cells := by unfold Et.cells; (repeat (first | exact ones_nil | refine ones_cons rfl ?_))
theorem elEt : Elem Try.prog 49 56 8 80 (.agg zEt.toArray) := ⟨rfl, ⟨_, rfl, rfl, rfl, rfl, rfl, by decide⟩, rfl, rfl⟩
def etCs (es : List Et) : List Value := (es.map Et.cells).flatten
theorem etCs_snoc (es : List Et) (e : Et) : etCs (es ++ [e]) = etCs es ++ e.cells := by simp [etCs]
theorem et8 (es : List Et) : ∀ c ∈ es.map Et.cells, c.length = 8 := fun c hc => by
  obtain ⟨e, _, rfl⟩ := List.mem_map.1 hc
  rfl
theorem etCs_len (es : List Et) : (etCs es).length = es.length * 8 := by unfold etCs; rw [flat_len (et8 es), List.length_map]
/-- A row of entries that may be read. -/
def Ents (F : PH) (v : Value) (es : List Et) : Prop := SliceV F 8 v es.length (etCs es) ∧ ∀ e ∈ es, e.fine
theorem Ents.mono {F G : PH} {v : Value} {es : List Et} (h : Ents F v es) (hl : F.le G) : Ents G v es := ⟨SliceV.mono h.1 hl, h.2⟩
theorem Ents.form {F : PH} {v : Value} {es : List Et} (h : Ents F v es) : ∃ a c, v = .slice a es.length c ∧ es.length ≤ c := by
  obtain ⟨⟨_, a, c, e, hn, _⟩, _⟩ := h
  exact ⟨a, c, e, hn⟩
theorem Ents.nil (F : PH) : Ents F (.slice none 0 0) [] := ⟨SliceV.nil F 8, fun _ h => by cases h⟩
theorem Ents.at {F : PH} {a : Option Addr} {n c i : Nat} {es : List Et} {e : Et} (h : Ents F (.slice a n c) es) (hi : es[i]? = some e) : ∃ b off, a = some ⟨b, off, none⟩ ∧ Cells F b (off + i * 8) e.cells ∧ e.fine ∧ i < n := by
  obtain ⟨h1, h2⟩ := h
  have hn : n = es.length := by
    obtain ⟨_, a', c', e, _⟩ := h1
    injection e
  subst hn
  have hlt := (List.getElem?_eq_some_iff.1 hi).1
  obtain ⟨b, off, ha, hcc⟩ := h1.row (et8 es) (i := i) (r := e.cells) (by rw [List.getElem?_map, hi]; rfl) hlt
  exact ⟨b, off, ha, hcc, h2 e (List.mem_of_getElem? hi), hlt⟩
def etB (e : Et) : List UInt8 := rowB e.core.bytes ++ putB e.mask 1
def batB (es : List Et) : List UInt8 := putB es.length 2 ++ es.flatMap etB
theorem etB_len (e : Et) : (etB e).length = 39 + e.core.letter.length + e.core.text.length := by
  unfold etB
  rw [List.length_append, rowB_len, Cr.bytes_len, pl1]
  omega
theorem etB_le {es : List Et} (h : ∀ e ∈ es, e.fine) : ∀ e ∈ es, (etB e).length ≤ 2097191 := fun e he => by
  obtain ⟨_, h1, h2⟩ := h e he
  rw [etB_len]
  omega
def batBt (es : List Et) (j : Nat) : List UInt8 := putB es.length 2 ++ (es.take j).flatMap etB
theorem batBt_len {es : List Et} (h : ∀ e ∈ es, e.fine) (hn : es.length ≤ 1024) (j : Nat) : (batBt es j).length ≤ 2147523586 := by
  unfold batBt
  have := flatMap_len (f := etB) (k := 2097191) (l := es.take j) fun x hx => etB_le h x (List.mem_of_mem_take hx)
  have h2 : (es.take j).length * 2097191 ≤ 1024 * 2097191 := Nat.mul_le_mul_right _ (by rw [List.length_take]; omega)
  rw [List.length_append, pl2]
  omega
set_option maxHeartbeats 8000000 in
theorem bbytes_spec (v : Value) (es : List Et) (F : PH) (h : Ents F v es) (hn : es.length ≤ 1024) : Spec Try.prog 34 [v] F [] fun u F' H' => H' = [] ∧ Byt F' u (batB es) := by
  obtain ⟨a, c, rfl, hc⟩ := h.form
  refine Spec.of1 Try.func34 rfl rfl fun X w0 => ?_
  repeat (first|refine zJ rfl rfl ?_|refine jr rfl ?_|refine jn ?_|refine zM rfl rfl ?_|(refine zC rfl rfl ?_ rfl ?_;omega)|(refine zD rfl rfl ?_ rfl ?_;omega)|(refine zP rfl ?_ rfl ?_;omega)|refine zG rfl rfl rfl rfl ?_|(refine jdq rfl rfl ?_ ?_ ?_;kernel_rfl;kernel_rfl)|refine zB rfl rfl rfl (by repeat constructor) rfl ?_)
  refine oC (Hc := []) (Hr := X) (put_p _ es.length 2 [] F (Byt.nil F) (by omega) (by simp)) Try.call32 rfl rfl (fun _ s => s) ?_; rintro u1 F1 _ hF1 ⟨rfl, h1⟩
  repeat (first|refine zJ rfl rfl ?_|refine jr rfl ?_|refine jn ?_|refine zM rfl rfl ?_|(refine zC rfl rfl ?_ rfl ?_;omega)|(refine zD rfl rfl ?_ rfl ?_;omega)|(refine zP rfl ?_ rfl ?_;omega)|refine zG rfl rfl rfl rfl ?_|(refine jdq rfl rfl ?_ ?_ ?_;kernel_rfl;kernel_rfl)|refine zB rfl rfl rfl (by repeat constructor) rfl ?_)
  refine J_loop (ι := Nat × Value × PH) (fun i => i.1 ≤ es.length ∧ F1.le i.2.2 ∧ Byt i.2.2 i.2.1 (batBt es i.1)) (fun i => es.length - i.1) (fun i => [(3, i.2.1), (10, .slice a es.length c), (11, .int .i64 es.length), (12, .int .i64 i.1)]) (fun i => i.2.2) (fun _ => X) (0, u1, F1) ⟨Nat.zero_le _, PH.ler _, by unfold batBt; rw [List.take_zero]; simpa using h1⟩ ⟨⟨rfl, rfl, rfl, rfl, trivial⟩, fun w s => s⟩ ?_
  rintro ⟨j, u, G⟩ ⟨hj, hG, hu⟩
  dsimp only at hj hG hu ⊢
  have hlen := batBt_len h.2 hn j
  by_cases hlt : j < es.length
  · have hg : es[j]? = some es[j] := List.getElem?_eq_getElem hlt
    obtain ⟨b, off, rfl, hcc, ⟨hf1, hf2, hf3⟩, _⟩ := (h.mono (hF1.trans hG)).at hg
    have hsn : batBt es (j + 1) = batBt es j ++ rowB (es[j]).core.bytes ++ putB (es[j]).mask 1 := by unfold batBt; rw [flatMap_snoc hg]; simp [etB]
    generalize es[j] = e at *
    have hcl := e.core.bytes_len
    repeat (first|refine zJ rfl rfl ?_|refine jr rfl ?_|refine jn ?_|refine zM rfl rfl ?_|(refine zC rfl rfl ?_ rfl ?_;omega)|(refine zD rfl rfl ?_ rfl ?_;omega)|(refine zP rfl ?_ rfl ?_;omega)|refine zG rfl rfl rfl rfl ?_|(refine jdq rfl rfl ?_ ?_ ?_;kernel_rfl;kernel_rfl)|refine zB rfl rfl rfl (by repeat constructor) rfl ?_)
    refine oS (ev_indexAddr rfl rfl rfl hlt) rfl ?_
    refine oS (ev_load_agg (cs := e.cells) rfl rfl (Rdb.ofF hcc) rfl) rfl ?_
    refine oE (ev_alloc (cs := zEt) rfl) rfl ?_
    rintro _ _ _ _ ⟨rfl, b5, rfl, rfl⟩
    refine oN (ev_store (b := b5) rfl rfl .agg rfl rfl (lay_all (zs := zEt) rfl) e.ones .here) rfl ?_
    rintro _ _ _ _ ⟨rfl, _, rfl⟩
    repeat (first|refine zJ rfl rfl ?_|refine jr rfl ?_|refine jn ?_|refine zM rfl rfl ?_|(refine zC rfl rfl ?_ rfl ?_;omega)|(refine zD rfl rfl ?_ rfl ?_;omega)|(refine zP rfl ?_ rfl ?_;omega)|refine zG rfl rfl rfl rfl ?_|(refine jdq rfl rfl ?_ ?_ ?_;kernel_rfl;kernel_rfl)|refine zB rfl rfl rfl (by repeat constructor) rfl ?_)
    refine ja G (blk b5 56 e.cells :: X) ?_ ?_ ?_; kernel_rfl
    · exact fun w s => s
    refine aT 0 rfl (ev_pv rfl) rfl rfl ?_ ?_ ?_ ?_; kernel_rfl; kernel_rfl; kernel_rfl
    refine aT 1 rfl (ev_fieldAddr rfl rfl) rfl rfl ?_ ?_ ?_ ?_; kernel_rfl; kernel_rfl; kernel_rfl
    refine aT 2 rfl (ev_load_agg (cs := e.core.cells) rfl rfl (Rdb.ofB (n := 0) .here rfl) rfl) rfl rfl ?_ ?_ ?_ ?_; kernel_rfl; kernel_rfl; kernel_rfl
    refine aT 5 rfl (ev_fieldAddr rfl rfl) rfl rfl ?_ ?_ ?_ ?_; kernel_rfl; kernel_rfl; kernel_rfl
    refine aT 6 rfl (ev_load rfl rfl (Rdb.ofB (n := 0) .here rfl)) rfl rfl ?_ ?_ ?_ ?_; kernel_rfl; kernel_rfl; kernel_rfl
    refine aT 7 rfl (ev_conv rfl rfl rfl (wrap_in (show InK .u64 (e.mask : Int) by dsimp only [InK]; omega))) rfl rfl ?_ ?_ ?_ ?_; kernel_rfl; kernel_rfl; kernel_rfl
    refine aB (i := 3) (by kernel_rfl) ?_
    refine aC (Hc := []) (Hr := blk b5 56 e.cells :: X) rfl (coreBytes_spec e.core G (by omega) (by omega)) Try.call41 rfl rfl rfl (fun _ s => s) (fun _ _ _ hF hq w s => by obtain ⟨e, _⟩ := hq; subst e; exact s.mono hF) ?_; rintro u2 F2 _ hF2 ⟨rfl, h2⟩; refine aFH hF2 ?_
    refine aB (i := 4) (by kernel_rfl) ?_
    refine aC (Hc := []) (Hr := blk b5 56 e.cells :: X) rfl (row_p _ _ _ _ F2 (hu.mono hF2) h2 (by omega) (by omega)) Try.call33 rfl rfl rfl (fun _ s => s) (fun _ _ _ hF hq w s => by obtain ⟨e, _⟩ := hq; subst e; exact s.mono hF) ?_; rintro u3 F3 _ hF3 ⟨rfl, h3⟩; refine aFH hF3 ?_
    refine aB (i := 8) (by kernel_rfl) ?_
    refine aC (Hc := []) (Hr := blk b5 56 e.cells :: X) rfl (put_p _ e.mask 1 _ F3 h3 (by omega) (by rw [List.length_append, rowB_len]; omega)) Try.call32 rfl rfl rfl (fun _ s => s) (fun _ _ _ hF hq w s => by obtain ⟨e, _⟩ := hq; subst e; exact s.mono hF) ?_; rintro u4 F4 _ hF4 ⟨rfl, h4⟩; refine aFH hF4 ?_
    refine aT 9 rfl (ev_pv rfl) rfl rfl ?_ ?_ ?_ ?_; kernel_rfl; kernel_rfl; kernel_rfl
    refine aD (by kernel_rfl) ?_
    repeat (first|refine zJ rfl rfl ?_|refine jr rfl ?_|refine jn ?_|refine zM rfl rfl ?_|(refine zC rfl rfl ?_ rfl ?_;omega)|(refine zD rfl rfl ?_ rfl ?_;omega)|(refine zP rfl ?_ rfl ?_;omega)|refine zG rfl rfl rfl rfl ?_|(refine jdq rfl rfl ?_ ?_ ?_;kernel_rfl;kernel_rfl)|refine zB rfl rfl rfl (by repeat constructor) rfl ?_)
    exact J_again (j + 1, u4, F4) ⟨hlt, hG.trans (hF2.trans (hF3.trans hF4)), by rw [hsn]; exact h4⟩ (by dsimp only; omega) ⟨⟨rfl, rfl, rfl, rfl, trivial⟩, fun w s => s.drop⟩
  · obtain rfl : j = es.length := by omega
    have hfull : batBt es es.length = batB es := by unfold batBt batB; rw [List.take_length]
    rw [hfull] at hu
    repeat (first|refine zJ rfl rfl ?_|refine jr rfl ?_|refine jn ?_|refine zM rfl rfl ?_|(refine zC rfl rfl ?_ rfl ?_;omega)|(refine zD rfl rfl ?_ rfl ?_;omega)|(refine zP rfl ?_ rfl ?_;omega)|refine zG rfl rfl rfl rfl ?_|(refine jdq rfl rfl ?_ ?_ ?_;kernel_rfl;kernel_rfl)|refine zB rfl rfl rfl (by repeat constructor) rfl ?_)
    exact J_retv rfl (.tmp rfl .nil) [] (fun w s => s) (hF1.trans hG) ⟨rfl, hu⟩
set_option maxHeartbeats 8000000 in
theorem BBytes_spec (v : Value) (es : List Et) (F : PH) (h : Ents F v es) (hn : es.length ≤ 1024) : Spec Try.prog 37 [v] F [] fun u F' H' => H' = [] ∧ Byt F' u (batB es) := by
  obtain ⟨a, c, rfl, hc⟩ := h.form
  refine Spec.of1 Try.func37 rfl rfl fun X w0 => ?_
  repeat (first|refine zJ rfl rfl ?_|refine jr rfl ?_|refine jn ?_|refine zM rfl rfl ?_|(refine zC rfl rfl ?_ rfl ?_;omega)|(refine zD rfl rfl ?_ rfl ?_;omega)|(refine zP rfl ?_ rfl ?_;omega)|refine zG rfl rfl rfl rfl ?_|(refine jdq rfl rfl ?_ ?_ ?_;kernel_rfl;kernel_rfl)|refine zB rfl rfl rfl (by repeat constructor) rfl ?_)
  refine oC (Hc := []) (Hr := X) (Put_p _ es.length 2 [] F (Byt.nil F) (by omega) (by simp)) Try.call35 rfl rfl (fun _ s => s) ?_; rintro u1 F1 _ hF1 ⟨rfl, h1⟩
  repeat (first|refine zJ rfl rfl ?_|refine jr rfl ?_|refine jn ?_|refine zM rfl rfl ?_|(refine zC rfl rfl ?_ rfl ?_;omega)|(refine zD rfl rfl ?_ rfl ?_;omega)|(refine zP rfl ?_ rfl ?_;omega)|refine zG rfl rfl rfl rfl ?_|(refine jdq rfl rfl ?_ ?_ ?_;kernel_rfl;kernel_rfl)|refine zB rfl rfl rfl (by repeat constructor) rfl ?_)
  refine J_loop (ι := Nat × Value × PH) (fun i => i.1 ≤ es.length ∧ F1.le i.2.2 ∧ Byt i.2.2 i.2.1 (batBt es i.1)) (fun i => es.length - i.1) (fun i => [(3, i.2.1), (10, .slice a es.length c), (11, .int .i64 es.length), (12, .int .i64 i.1)]) (fun i => i.2.2) (fun _ => X) (0, u1, F1) ⟨Nat.zero_le _, PH.ler _, by unfold batBt; rw [List.take_zero]; simpa using h1⟩ ⟨⟨rfl, rfl, rfl, rfl, trivial⟩, fun w s => s⟩ ?_
  rintro ⟨j, u, G⟩ ⟨hj, hG, hu⟩
  dsimp only at hj hG hu ⊢
  have hlen := batBt_len h.2 hn j
  by_cases hlt : j < es.length
  · have hg : es[j]? = some es[j] := List.getElem?_eq_getElem hlt
    obtain ⟨b, off, rfl, hcc, ⟨hf1, hf2, hf3⟩, _⟩ := (h.mono (hF1.trans hG)).at hg
    have hsn : batBt es (j + 1) = batBt es j ++ rowB (es[j]).core.bytes ++ putB (es[j]).mask 1 := by unfold batBt; rw [flatMap_snoc hg]; simp [etB]
    generalize es[j] = e at *
    have hcl := e.core.bytes_len
    repeat (first|refine zJ rfl rfl ?_|refine jr rfl ?_|refine jn ?_|refine zM rfl rfl ?_|(refine zC rfl rfl ?_ rfl ?_;omega)|(refine zD rfl rfl ?_ rfl ?_;omega)|(refine zP rfl ?_ rfl ?_;omega)|refine zG rfl rfl rfl rfl ?_|(refine jdq rfl rfl ?_ ?_ ?_;kernel_rfl;kernel_rfl)|refine zB rfl rfl rfl (by repeat constructor) rfl ?_)
    refine oS (ev_indexAddr rfl rfl rfl hlt) rfl ?_
    refine oS (ev_load_agg (cs := e.cells) rfl rfl (Rdb.ofF hcc) rfl) rfl ?_
    refine oE (ev_alloc (cs := zEt) rfl) rfl ?_
    rintro _ _ _ _ ⟨rfl, b5, rfl, rfl⟩
    refine oN (ev_store (b := b5) rfl rfl .agg rfl rfl (lay_all (zs := zEt) rfl) e.ones .here) rfl ?_
    rintro _ _ _ _ ⟨rfl, _, rfl⟩
    repeat (first|refine zJ rfl rfl ?_|refine jr rfl ?_|refine jn ?_|refine zM rfl rfl ?_|(refine zC rfl rfl ?_ rfl ?_;omega)|(refine zD rfl rfl ?_ rfl ?_;omega)|(refine zP rfl ?_ rfl ?_;omega)|refine zG rfl rfl rfl rfl ?_|(refine jdq rfl rfl ?_ ?_ ?_;kernel_rfl;kernel_rfl)|refine zB rfl rfl rfl (by repeat constructor) rfl ?_)
    refine ja G (blk b5 56 e.cells :: X) ?_ ?_ ?_; kernel_rfl
    · exact fun w s => s
    refine aT 0 rfl (ev_pv rfl) rfl rfl ?_ ?_ ?_ ?_; kernel_rfl; kernel_rfl; kernel_rfl
    refine aT 1 rfl (ev_fieldAddr rfl rfl) rfl rfl ?_ ?_ ?_ ?_; kernel_rfl; kernel_rfl; kernel_rfl
    refine aT 2 rfl (ev_load_agg (cs := e.core.cells) rfl rfl (Rdb.ofB (n := 0) .here rfl) rfl) rfl rfl ?_ ?_ ?_ ?_; kernel_rfl; kernel_rfl; kernel_rfl
    refine aT 5 rfl (ev_fieldAddr rfl rfl) rfl rfl ?_ ?_ ?_ ?_; kernel_rfl; kernel_rfl; kernel_rfl
    refine aT 6 rfl (ev_load rfl rfl (Rdb.ofB (n := 0) .here rfl)) rfl rfl ?_ ?_ ?_ ?_; kernel_rfl; kernel_rfl; kernel_rfl
    refine aT 7 rfl (ev_conv rfl rfl rfl (wrap_in (show InK .u64 (e.mask : Int) by dsimp only [InK]; omega))) rfl rfl ?_ ?_ ?_ ?_; kernel_rfl; kernel_rfl; kernel_rfl
    refine aB (i := 3) (by kernel_rfl) ?_
    refine aC (Hc := []) (Hr := blk b5 56 e.cells :: X) rfl (CoreBytes_spec e.core G (by omega) (by omega)) Try.call43 rfl rfl rfl (fun _ s => s) (fun _ _ _ hF hq w s => by obtain ⟨e, _⟩ := hq; subst e; exact s.mono hF) ?_; rintro u2 F2 _ hF2 ⟨rfl, h2⟩; refine aFH hF2 ?_
    refine aB (i := 4) (by kernel_rfl) ?_
    refine aC (Hc := []) (Hr := blk b5 56 e.cells :: X) rfl (Row_p _ _ _ _ F2 (hu.mono hF2) h2 (by omega) (by omega)) Try.call36 rfl rfl rfl (fun _ s => s) (fun _ _ _ hF hq w s => by obtain ⟨e, _⟩ := hq; subst e; exact s.mono hF) ?_; rintro u3 F3 _ hF3 ⟨rfl, h3⟩; refine aFH hF3 ?_
    refine aB (i := 8) (by kernel_rfl) ?_
    refine aC (Hc := []) (Hr := blk b5 56 e.cells :: X) rfl (Put_p _ e.mask 1 _ F3 h3 (by omega) (by rw [List.length_append, rowB_len]; omega)) Try.call35 rfl rfl rfl (fun _ s => s) (fun _ _ _ hF hq w s => by obtain ⟨e, _⟩ := hq; subst e; exact s.mono hF) ?_; rintro u4 F4 _ hF4 ⟨rfl, h4⟩; refine aFH hF4 ?_
    refine aT 9 rfl (ev_pv rfl) rfl rfl ?_ ?_ ?_ ?_; kernel_rfl; kernel_rfl; kernel_rfl
    refine aD (by kernel_rfl) ?_
    repeat (first|refine zJ rfl rfl ?_|refine jr rfl ?_|refine jn ?_|refine zM rfl rfl ?_|(refine zC rfl rfl ?_ rfl ?_;omega)|(refine zD rfl rfl ?_ rfl ?_;omega)|(refine zP rfl ?_ rfl ?_;omega)|refine zG rfl rfl rfl rfl ?_|(refine jdq rfl rfl ?_ ?_ ?_;kernel_rfl;kernel_rfl)|refine zB rfl rfl rfl (by repeat constructor) rfl ?_)
    exact J_again (j + 1, u4, F4) ⟨hlt, hG.trans (hF2.trans (hF3.trans hF4)), by rw [hsn]; exact h4⟩ (by dsimp only; omega) ⟨⟨rfl, rfl, rfl, rfl, trivial⟩, fun w s => s.drop⟩
  · obtain rfl : j = es.length := by omega
    have hfull : batBt es es.length = batB es := by unfold batBt batB; rw [List.take_length]
    rw [hfull] at hu
    repeat (first|refine zJ rfl rfl ?_|refine jr rfl ?_|refine jn ?_|refine zM rfl rfl ?_|(refine zC rfl rfl ?_ rfl ?_;omega)|(refine zD rfl rfl ?_ rfl ?_;omega)|(refine zP rfl ?_ rfl ?_;omega)|refine zG rfl rfl rfl rfl ?_|(refine jdq rfl rfl ?_ ?_ ?_;kernel_rfl;kernel_rfl)|refine zB rfl rfl rfl (by repeat constructor) rfl ?_)
    exact J_retv rfl (.tmp rfl .nil) [] (fun w s => s) (hF1.trans hG) ⟨rfl, hu⟩
theorem batB_len {es : List Et} (h : ∀ e ∈ es, e.fine) (hn : es.length ≤ 1024) : (batB es).length ≤ 2147523586 := by
  have := batBt_len h hn es.length
  unfold batBt at this
  rw [List.take_length] at this
  exact this
end Go.Proofs.Ytohlmhoacjodjaa
namespace Go.Proofs.Ytohlmhoacjodjaa
open Go.RowKit
set_option maxRecDepth 100000
/-- A deed: its number, its batch, whether it was adopted. -/
structure De where
  seq : Int
  es : List Et
  ad : Bool
def De.cells (v : Value) (d : De) : List Value := [.int .i64 d.seq, v, .bool d.ad]
def deedB (d : De) : List UInt8 := putB (uN d.seq) 8 ++ [if d.ad then 1 else 0] ++ rowB (batB d.es)
set_option maxHeartbeats 8000000 in
theorem deed_spec (d : De) (v : Value) (F : PH) (h : Ents F v d.es) (hn : d.es.length ≤ 1024) : Spec Try.prog 21 [.agg (d.cells v).toArray] F [] fun u F' H' => H' = [] ∧ Byt F' u (deedB d) := by
  have hbl := batB_len h.2 hn
  obtain ⟨a, c, rfl, hc⟩ := h.form
  have hl8 := pl8 (uN d.seq)
  refine Spec.of1 Try.func21 rfl rfl fun X w0 => ?_
  unfold De.cells
  repeat (first|refine zJ rfl rfl ?_|refine jr rfl ?_|refine jn ?_|refine zM rfl rfl ?_|(refine zC rfl rfl ?_ rfl ?_;omega)|(refine zD rfl rfl ?_ rfl ?_;omega)|(refine zP rfl ?_ rfl ?_;omega)|refine zG rfl rfl rfl rfl ?_|(refine jdq rfl rfl ?_ ?_ ?_;kernel_rfl;kernel_rfl)|refine zB rfl rfl rfl (by repeat constructor) rfl ?_|refine zH .here rfl rfl rfl rfl ?_|refine zH (.there .here) rfl rfl rfl rfl ?_|refine zH (.there (.there .here)) rfl rfl rfl rfl ?_)
  refine oE (ev_box rfl .agg) rfl ?_; rintro _ _ _ _ ⟨rfl, b, rfl, rfl⟩
  repeat (first|refine zJ rfl rfl ?_|refine jr rfl ?_|refine jn ?_|refine zM rfl rfl ?_|(refine zC rfl rfl ?_ rfl ?_;omega)|(refine zD rfl rfl ?_ rfl ?_;omega)|(refine zP rfl ?_ rfl ?_;omega)|refine zG rfl rfl rfl rfl ?_|(refine jdq rfl rfl ?_ ?_ ?_;kernel_rfl;kernel_rfl)|refine zB rfl rfl rfl (by repeat constructor) rfl ?_|refine zH .here rfl rfl rfl rfl ?_|refine zH (.there .here) rfl rfl rfl rfl ?_|refine zH (.there (.there .here)) rfl rfl rfl rfl ?_)
  refine oS (ev_conv rfl rfl rfl (uN_wrap _)) rfl ?_
  refine oC (Hc := []) (Hr := blk b 51 [.int .i64 d.seq, .slice a d.es.length c, .bool d.ad] :: X) (put_spec none 0 (uN d.seq) 8 [] F (Byt.nil F) (Nat.le_refl _) (uN_lt _) (by decide)) Try.call32 rfl rfl (fun _ s => s) ?_
  rintro u _ _ _ ⟨rfl, rfl⟩
  rw [List.nil_append]
  have hcl : putB (uN d.seq) 8 ++ [if d.ad = true then 1 else 0] ++ rowB (batB d.es) = deedB d := rfl
  cases hd : d.ad with
  | true =>
    rw [hd, if_pos rfl] at hcl
    repeat (first|refine zJ rfl rfl ?_|refine jr rfl ?_|refine jn ?_|refine zM rfl rfl ?_|(refine zC rfl rfl ?_ rfl ?_;omega)|(refine zD rfl rfl ?_ rfl ?_;omega)|(refine zP rfl ?_ rfl ?_;omega)|refine zG rfl rfl rfl rfl ?_|(refine jdq rfl rfl ?_ ?_ ?_;kernel_rfl;kernel_rfl)|refine zB rfl rfl rfl (by repeat constructor) rfl ?_|refine zH .here rfl rfl rfl rfl ?_|refine zH (.there .here) rfl rfl rfl rfl ?_|refine zH (.there (.there .here)) rfl rfl rfl rfl ?_)
    refine oA (vs := [.int .u8 1]) (K := fun v' => own v' 5 1 ((putB (uN d.seq) 8).length + 1) (u8s (putB (uN d.seq) 8) ++ [.int .u8 1]) :: blk b 51 [.int .i64 d.seq, .slice a d.es.length c, .bool true] :: X) (fun _ => rfl) rfl .int rfl elB (ones_cons rfl ones_nil) (by omega) (fun _ => .here) rfl (fun _ => rfl) fun u1 _ => ?_
    repeat (first|refine zJ rfl rfl ?_|refine jr rfl ?_|refine jn ?_|refine zM rfl rfl ?_|(refine zC rfl rfl ?_ rfl ?_;omega)|(refine zD rfl rfl ?_ rfl ?_;omega)|(refine zP rfl ?_ rfl ?_;omega)|refine zG rfl rfl rfl rfl ?_|(refine jdq rfl rfl ?_ ?_ ?_;kernel_rfl;kernel_rfl)|refine zB rfl rfl rfl (by repeat constructor) rfl ?_|refine zH .here rfl rfl rfl rfl ?_|refine zH (.there .here) rfl rfl rfl rfl ?_|refine zH (.there (.there .here)) rfl rfl rfl rfl ?_)
    refine oPersist fun hh hA hdj => ?_
    have hb1 : Byt (F.un hh) u1 (putB (uN d.seq) 8 ++ [1]) := by
      have := own_slice hA hdj
      unfold Byt
      rw [u8s_append, List.length_append]
      exact this
    have hF1 := PH.le_l F hh
    generalize F.un hh = F1 at *
    repeat (first|refine zJ rfl rfl ?_|refine jr rfl ?_|refine jn ?_|refine zM rfl rfl ?_|(refine zC rfl rfl ?_ rfl ?_;omega)|(refine zD rfl rfl ?_ rfl ?_;omega)|(refine zP rfl ?_ rfl ?_;omega)|refine zG rfl rfl rfl rfl ?_|(refine jdq rfl rfl ?_ ?_ ?_;kernel_rfl;kernel_rfl)|refine zB rfl rfl rfl (by repeat constructor) rfl ?_|refine zH .here rfl rfl rfl rfl ?_|refine zH (.there .here) rfl rfl rfl rfl ?_|refine zH (.there (.there .here)) rfl rfl rfl rfl ?_)
    refine oC (Hc := []) (Hr := blk b 51 [.int .i64 d.seq, .slice a d.es.length c, .bool true] :: X) (bbytes_spec _ d.es F1 (h.mono hF1) hn) Try.call34 rfl rfl (fun _ s => s) ?_; rintro u2 F2 _ hF2 ⟨rfl, h2⟩
    repeat (first|refine zJ rfl rfl ?_|refine jr rfl ?_|refine jn ?_|refine zM rfl rfl ?_|(refine zC rfl rfl ?_ rfl ?_;omega)|(refine zD rfl rfl ?_ rfl ?_;omega)|(refine zP rfl ?_ rfl ?_;omega)|refine zG rfl rfl rfl rfl ?_|(refine jdq rfl rfl ?_ ?_ ?_;kernel_rfl;kernel_rfl)|refine zB rfl rfl rfl (by repeat constructor) rfl ?_|refine zH .here rfl rfl rfl rfl ?_|refine zH (.there .here) rfl rfl rfl rfl ?_|refine zH (.there (.there .here)) rfl rfl rfl rfl ?_)
    refine oC (Hc := []) (Hr := blk b 51 [.int .i64 d.seq, .slice a d.es.length c, .bool true] :: X) (row_p _ _ _ _ F2 (SliceV.mono hb1 hF2) h2 (by rw [List.length_append, hl8]; decide) (by omega)) Try.call33 rfl rfl (fun _ s => s) ?_; rintro u3 F3 _ hF3 ⟨rfl, h3⟩
    rw [hcl] at h3
    repeat (first|refine zJ rfl rfl ?_|refine jr rfl ?_|refine jn ?_|refine zM rfl rfl ?_|(refine zC rfl rfl ?_ rfl ?_;omega)|(refine zD rfl rfl ?_ rfl ?_;omega)|(refine zP rfl ?_ rfl ?_;omega)|refine zG rfl rfl rfl rfl ?_|(refine jdq rfl rfl ?_ ?_ ?_;kernel_rfl;kernel_rfl)|refine zB rfl rfl rfl (by repeat constructor) rfl ?_|refine zH .here rfl rfl rfl rfl ?_|refine zH (.there .here) rfl rfl rfl rfl ?_|refine zH (.there (.there .here)) rfl rfl rfl rfl ?_)
    exact J_retv rfl (.tmp rfl .nil) [] (fun w s => s.drop) (hF1.trans (hF2.trans hF3)) ⟨rfl, h3⟩
  | false =>
    rw [hd, if_neg (by decide)] at hcl
    repeat (first|refine zJ rfl rfl ?_|refine jr rfl ?_|refine jn ?_|refine zM rfl rfl ?_|(refine zC rfl rfl ?_ rfl ?_;omega)|(refine zD rfl rfl ?_ rfl ?_;omega)|(refine zP rfl ?_ rfl ?_;omega)|refine zG rfl rfl rfl rfl ?_|(refine jdq rfl rfl ?_ ?_ ?_;kernel_rfl;kernel_rfl)|refine zB rfl rfl rfl (by repeat constructor) rfl ?_|refine zH .here rfl rfl rfl rfl ?_|refine zH (.there .here) rfl rfl rfl rfl ?_|refine zH (.there (.there .here)) rfl rfl rfl rfl ?_)
    refine oA (vs := [.int .u8 0]) (K := fun v' => own v' 5 1 ((putB (uN d.seq) 8).length + 1) (u8s (putB (uN d.seq) 8) ++ [.int .u8 0]) :: blk b 51 [.int .i64 d.seq, .slice a d.es.length c, .bool false] :: X) (fun _ => rfl) rfl .int rfl elB (ones_cons rfl ones_nil) (by omega) (fun _ => .here) rfl (fun _ => rfl) fun u1 _ => ?_
    repeat (first|refine zJ rfl rfl ?_|refine jr rfl ?_|refine jn ?_|refine zM rfl rfl ?_|(refine zC rfl rfl ?_ rfl ?_;omega)|(refine zD rfl rfl ?_ rfl ?_;omega)|(refine zP rfl ?_ rfl ?_;omega)|refine zG rfl rfl rfl rfl ?_|(refine jdq rfl rfl ?_ ?_ ?_;kernel_rfl;kernel_rfl)|refine zB rfl rfl rfl (by repeat constructor) rfl ?_|refine zH .here rfl rfl rfl rfl ?_|refine zH (.there .here) rfl rfl rfl rfl ?_|refine zH (.there (.there .here)) rfl rfl rfl rfl ?_)
    refine oPersist fun hh hA hdj => ?_
    have hb1 : Byt (F.un hh) u1 (putB (uN d.seq) 8 ++ [0]) := by
      have := own_slice hA hdj
      unfold Byt
      rw [u8s_append, List.length_append]
      exact this
    have hF1 := PH.le_l F hh
    generalize F.un hh = F1 at *
    repeat (first|refine zJ rfl rfl ?_|refine jr rfl ?_|refine jn ?_|refine zM rfl rfl ?_|(refine zC rfl rfl ?_ rfl ?_;omega)|(refine zD rfl rfl ?_ rfl ?_;omega)|(refine zP rfl ?_ rfl ?_;omega)|refine zG rfl rfl rfl rfl ?_|(refine jdq rfl rfl ?_ ?_ ?_;kernel_rfl;kernel_rfl)|refine zB rfl rfl rfl (by repeat constructor) rfl ?_|refine zH .here rfl rfl rfl rfl ?_|refine zH (.there .here) rfl rfl rfl rfl ?_|refine zH (.there (.there .here)) rfl rfl rfl rfl ?_)
    refine oC (Hc := []) (Hr := blk b 51 [.int .i64 d.seq, .slice a d.es.length c, .bool false] :: X) (bbytes_spec _ d.es F1 (h.mono hF1) hn) Try.call34 rfl rfl (fun _ s => s) ?_; rintro u2 F2 _ hF2 ⟨rfl, h2⟩
    repeat (first|refine zJ rfl rfl ?_|refine jr rfl ?_|refine jn ?_|refine zM rfl rfl ?_|(refine zC rfl rfl ?_ rfl ?_;omega)|(refine zD rfl rfl ?_ rfl ?_;omega)|(refine zP rfl ?_ rfl ?_;omega)|refine zG rfl rfl rfl rfl ?_|(refine jdq rfl rfl ?_ ?_ ?_;kernel_rfl;kernel_rfl)|refine zB rfl rfl rfl (by repeat constructor) rfl ?_|refine zH .here rfl rfl rfl rfl ?_|refine zH (.there .here) rfl rfl rfl rfl ?_|refine zH (.there (.there .here)) rfl rfl rfl rfl ?_)
    refine oC (Hc := []) (Hr := blk b 51 [.int .i64 d.seq, .slice a d.es.length c, .bool false] :: X) (row_p _ _ _ _ F2 (SliceV.mono hb1 hF2) h2 (by rw [List.length_append, hl8]; decide) (by omega)) Try.call33 rfl rfl (fun _ s => s) ?_; rintro u3 F3 _ hF3 ⟨rfl, h3⟩
    rw [hcl] at h3
    repeat (first|refine zJ rfl rfl ?_|refine jr rfl ?_|refine jn ?_|refine zM rfl rfl ?_|(refine zC rfl rfl ?_ rfl ?_;omega)|(refine zD rfl rfl ?_ rfl ?_;omega)|(refine zP rfl ?_ rfl ?_;omega)|refine zG rfl rfl rfl rfl ?_|(refine jdq rfl rfl ?_ ?_ ?_;kernel_rfl;kernel_rfl)|refine zB rfl rfl rfl (by repeat constructor) rfl ?_|refine zH .here rfl rfl rfl rfl ?_|refine zH (.there .here) rfl rfl rfl rfl ?_|refine zH (.there (.there .here)) rfl rfl rfl rfl ?_)
    exact J_retv rfl (.tmp rfl .nil) [] (fun w s => s.drop) (hF1.trans (hF2.trans hF3)) ⟨rfl, h3⟩
set_option maxHeartbeats 8000000 in
theorem Deed_spec (d : De) (v : Value) (F : PH) (h : Ents F v d.es) (hn : d.es.length ≤ 1024) : Spec Try.prog 22 [.agg (d.cells v).toArray] F [] fun u F' H' => H' = [] ∧ Byt F' u (deedB d) := by
  have hbl := batB_len h.2 hn
  obtain ⟨a, c, rfl, hc⟩ := h.form
  have hl8 := pl8 (uN d.seq)
  refine Spec.of1 Try.func22 rfl rfl fun X w0 => ?_
  unfold De.cells
  repeat (first|refine zJ rfl rfl ?_|refine jr rfl ?_|refine jn ?_|refine zM rfl rfl ?_|(refine zC rfl rfl ?_ rfl ?_;omega)|(refine zD rfl rfl ?_ rfl ?_;omega)|(refine zP rfl ?_ rfl ?_;omega)|refine zG rfl rfl rfl rfl ?_|(refine jdq rfl rfl ?_ ?_ ?_;kernel_rfl;kernel_rfl)|refine zB rfl rfl rfl (by repeat constructor) rfl ?_|refine zH .here rfl rfl rfl rfl ?_|refine zH (.there .here) rfl rfl rfl rfl ?_|refine zH (.there (.there .here)) rfl rfl rfl rfl ?_)
  refine oE (ev_box rfl .agg) rfl ?_; rintro _ _ _ _ ⟨rfl, b, rfl, rfl⟩
  repeat (first|refine zJ rfl rfl ?_|refine jr rfl ?_|refine jn ?_|refine zM rfl rfl ?_|(refine zC rfl rfl ?_ rfl ?_;omega)|(refine zD rfl rfl ?_ rfl ?_;omega)|(refine zP rfl ?_ rfl ?_;omega)|refine zG rfl rfl rfl rfl ?_|(refine jdq rfl rfl ?_ ?_ ?_;kernel_rfl;kernel_rfl)|refine zB rfl rfl rfl (by repeat constructor) rfl ?_|refine zH .here rfl rfl rfl rfl ?_|refine zH (.there .here) rfl rfl rfl rfl ?_|refine zH (.there (.there .here)) rfl rfl rfl rfl ?_)
  refine oS (ev_conv rfl rfl rfl (uN_wrap _)) rfl ?_
  refine oC (Hc := []) (Hr := blk b 51 [.int .i64 d.seq, .slice a d.es.length c, .bool d.ad] :: X) (Put_p _ (uN d.seq) 8 [] F (Byt.nil F) (uN_lt _) (by decide)) Try.call35 rfl rfl (fun _ s => s) ?_; rintro u1 F1 _ hF1 ⟨rfl, h1⟩
  rw [List.nil_append] at h1
  have hcl : putB (uN d.seq) 8 ++ putB (if d.ad = true then 1 else 0) 1 ++ rowB (batB d.es) = deedB d := by unfold deedB; cases d.ad <;> rfl
  cases hd : d.ad with
  | true =>
    rw [hd, if_pos rfl] at hcl
    repeat (first|refine zJ rfl rfl ?_|refine jr rfl ?_|refine jn ?_|refine zM rfl rfl ?_|(refine zC rfl rfl ?_ rfl ?_;omega)|(refine zD rfl rfl ?_ rfl ?_;omega)|(refine zP rfl ?_ rfl ?_;omega)|refine zG rfl rfl rfl rfl ?_|(refine jdq rfl rfl ?_ ?_ ?_;kernel_rfl;kernel_rfl)|refine zB rfl rfl rfl (by repeat constructor) rfl ?_|refine zH .here rfl rfl rfl rfl ?_|refine zH (.there .here) rfl rfl rfl rfl ?_|refine zH (.there (.there .here)) rfl rfl rfl rfl ?_)
    refine ja F1 (blk b 51 [.int .i64 d.seq, .slice a d.es.length c, .bool true] :: X) ?_ ?_ ?_; kernel_rfl
    · exact fun w s => s
    refine aT 0 rfl (ev_pv rfl) rfl rfl ?_ ?_ ?_ ?_; kernel_rfl; kernel_rfl; kernel_rfl
    refine aT 1 rfl (ev_pv rfl) rfl rfl ?_ ?_ ?_ ?_; kernel_rfl; kernel_rfl; kernel_rfl
    refine aT 3 rfl (ev_fieldAddr rfl rfl) rfl rfl ?_ ?_ ?_ ?_; kernel_rfl; kernel_rfl; kernel_rfl
    refine aT 4 rfl (ev_load (v := .slice a d.es.length c) rfl rfl (Rdb.ofB (n := 0) .here rfl)) rfl rfl ?_ ?_ ?_ ?_; kernel_rfl; kernel_rfl; kernel_rfl
    refine aB (i := 2) (by kernel_rfl) ?_
    refine aC (Hc := []) (Hr := blk b 51 [.int .i64 d.seq, .slice a d.es.length c, .bool true] :: X) rfl (Put_p _ 1 1 _ F1 h1 (by decide) (by rw [hl8]; decide)) Try.call35 rfl rfl rfl (fun _ s => s) (fun _ _ _ hF hq w s => by obtain ⟨e, _⟩ := hq; subst e; exact s.mono hF) ?_; rintro u2 F2 _ hF2 ⟨rfl, h2⟩; refine aFH hF2 ?_
    refine aB (i := 5) (by kernel_rfl) ?_
    refine aC (Hc := []) (Hr := blk b 51 [.int .i64 d.seq, .slice a d.es.length c, .bool true] :: X) rfl (BBytes_spec _ d.es F2 (h.mono (hF1.trans hF2)) hn) Try.call37 rfl rfl rfl (fun _ s => s) (fun _ _ _ hF hq w s => by obtain ⟨e, _⟩ := hq; subst e; exact s.mono hF) ?_; rintro u3 F3 _ hF3 ⟨rfl, h3⟩; refine aFH hF3 ?_
    refine aB (i := 6) (by kernel_rfl) ?_
    refine aC (Hc := []) (Hr := blk b 51 [.int .i64 d.seq, .slice a d.es.length c, .bool true] :: X) rfl (Row_p _ _ _ _ F3 (SliceV.mono h2 hF3) h3 (by rw [List.length_append, hl8, pl1]; decide) (by omega)) Try.call36 rfl rfl rfl (fun _ s => s) (fun _ _ _ hF hq w s => by obtain ⟨e, _⟩ := hq; subst e; exact s.mono hF) ?_; rintro u4 F4 _ hF4 ⟨rfl, h4⟩; refine aFH hF4 ?_
    refine aT 7 rfl (ev_pv rfl) rfl rfl ?_ ?_ ?_ ?_; kernel_rfl; kernel_rfl; kernel_rfl
    refine aD (by kernel_rfl) ?_
    rw [hcl] at h4
    repeat (first|refine zJ rfl rfl ?_|refine jr rfl ?_|refine jn ?_|refine zM rfl rfl ?_|(refine zC rfl rfl ?_ rfl ?_;omega)|(refine zD rfl rfl ?_ rfl ?_;omega)|(refine zP rfl ?_ rfl ?_;omega)|refine zG rfl rfl rfl rfl ?_|(refine jdq rfl rfl ?_ ?_ ?_;kernel_rfl;kernel_rfl)|refine zB rfl rfl rfl (by repeat constructor) rfl ?_|refine zH .here rfl rfl rfl rfl ?_|refine zH (.there .here) rfl rfl rfl rfl ?_|refine zH (.there (.there .here)) rfl rfl rfl rfl ?_)
    exact J_retv rfl (.tmp rfl .nil) [] (fun w s => s.drop) (hF1.trans (hF2.trans (hF3.trans hF4))) ⟨rfl, h4⟩
  | false =>
    rw [hd, if_neg (by decide)] at hcl
    repeat (first|refine zJ rfl rfl ?_|refine jr rfl ?_|refine jn ?_|refine zM rfl rfl ?_|(refine zC rfl rfl ?_ rfl ?_;omega)|(refine zD rfl rfl ?_ rfl ?_;omega)|(refine zP rfl ?_ rfl ?_;omega)|refine zG rfl rfl rfl rfl ?_|(refine jdq rfl rfl ?_ ?_ ?_;kernel_rfl;kernel_rfl)|refine zB rfl rfl rfl (by repeat constructor) rfl ?_|refine zH .here rfl rfl rfl rfl ?_|refine zH (.there .here) rfl rfl rfl rfl ?_|refine zH (.there (.there .here)) rfl rfl rfl rfl ?_)
    refine ja F1 (blk b 51 [.int .i64 d.seq, .slice a d.es.length c, .bool false] :: X) ?_ ?_ ?_; kernel_rfl
    · exact fun w s => s
    refine aT 0 rfl (ev_pv rfl) rfl rfl ?_ ?_ ?_ ?_; kernel_rfl; kernel_rfl; kernel_rfl
    refine aT 1 rfl (ev_pv rfl) rfl rfl ?_ ?_ ?_ ?_; kernel_rfl; kernel_rfl; kernel_rfl
    refine aT 3 rfl (ev_fieldAddr rfl rfl) rfl rfl ?_ ?_ ?_ ?_; kernel_rfl; kernel_rfl; kernel_rfl
    refine aT 4 rfl (ev_load (v := .slice a d.es.length c) rfl rfl (Rdb.ofB (n := 0) .here rfl)) rfl rfl ?_ ?_ ?_ ?_; kernel_rfl; kernel_rfl; kernel_rfl
    refine aB (i := 2) (by kernel_rfl) ?_
    refine aC (Hc := []) (Hr := blk b 51 [.int .i64 d.seq, .slice a d.es.length c, .bool false] :: X) rfl (Put_p _ 0 1 _ F1 h1 (by decide) (by rw [hl8]; decide)) Try.call35 rfl rfl rfl (fun _ s => s) (fun _ _ _ hF hq w s => by obtain ⟨e, _⟩ := hq; subst e; exact s.mono hF) ?_; rintro u2 F2 _ hF2 ⟨rfl, h2⟩; refine aFH hF2 ?_
    refine aB (i := 5) (by kernel_rfl) ?_
    refine aC (Hc := []) (Hr := blk b 51 [.int .i64 d.seq, .slice a d.es.length c, .bool false] :: X) rfl (BBytes_spec _ d.es F2 (h.mono (hF1.trans hF2)) hn) Try.call37 rfl rfl rfl (fun _ s => s) (fun _ _ _ hF hq w s => by obtain ⟨e, _⟩ := hq; subst e; exact s.mono hF) ?_; rintro u3 F3 _ hF3 ⟨rfl, h3⟩; refine aFH hF3 ?_
    refine aB (i := 6) (by kernel_rfl) ?_
    refine aC (Hc := []) (Hr := blk b 51 [.int .i64 d.seq, .slice a d.es.length c, .bool false] :: X) rfl (Row_p _ _ _ _ F3 (SliceV.mono h2 hF3) h3 (by rw [List.length_append, hl8, pl1]; decide) (by omega)) Try.call36 rfl rfl rfl (fun _ s => s) (fun _ _ _ hF hq w s => by obtain ⟨e, _⟩ := hq; subst e; exact s.mono hF) ?_; rintro u4 F4 _ hF4 ⟨rfl, h4⟩; refine aFH hF4 ?_
    refine aT 7 rfl (ev_pv rfl) rfl rfl ?_ ?_ ?_ ?_; kernel_rfl; kernel_rfl; kernel_rfl
    refine aD (by kernel_rfl) ?_
    rw [hcl] at h4
    repeat (first|refine zJ rfl rfl ?_|refine jr rfl ?_|refine jn ?_|refine zM rfl rfl ?_|(refine zC rfl rfl ?_ rfl ?_;omega)|(refine zD rfl rfl ?_ rfl ?_;omega)|(refine zP rfl ?_ rfl ?_;omega)|refine zG rfl rfl rfl rfl ?_|(refine jdq rfl rfl ?_ ?_ ?_;kernel_rfl;kernel_rfl)|refine zB rfl rfl rfl (by repeat constructor) rfl ?_|refine zH .here rfl rfl rfl rfl ?_|refine zH (.there .here) rfl rfl rfl rfl ?_|refine zH (.there (.there .here)) rfl rfl rfl rfl ?_)
    exact J_retv rfl (.tmp rfl .nil) [] (fun w s => s.drop) (hF1.trans (hF2.trans (hF3.trans hF4))) ⟨rfl, h4⟩
end Go.Proofs.Ytohlmhoacjodjaa
